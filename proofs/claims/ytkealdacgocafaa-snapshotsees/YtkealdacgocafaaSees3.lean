/- SnapshotSees. -/
import Derived.Test.YtkealdacgocafaaSees2
set_option linter.all false
namespace Go.Proofs.Ytkealdacgocafaa
open Go.Ev
attribute [local congr] bind_first cond_first
set_option maxRecDepth 10000
def md (v : Vc) : Vc := ⟨Int.tmod v.c0 8, Int.tmod v.c1 8, Int.tmod v.c2 8, Int.tmod v.c3 8, Int.tmod v.c4 8, Int.tmod v.c5 8⟩
abbrev vB (v : Vc) : Blk := ⟨1, 25, 6, true, [[.v (.int .u64 v.c0), .v (.int .u64 v.c1), .v (.int .u64 v.c2), .v (.int .u64 v.c3), .v (.int .u64 v.c4), .v (.int .u64 v.c5)]]⟩
theorem l_mod (x2 : Int) (f g : Bool) (v : Vc) (ps ss : List (List AV)) :
    lp 3 2 0 ⟨[(2, .v (.int .i64 x2)), (4, .ptr 0 0 0), (7, .sl f 1 0 none), (9, .sl g 2 0 none), (20, .v (.int .i64 0))], [vB v, ⟨1, 34, 9, false, ps⟩, ⟨1, 23, 1, false, ss⟩]⟩ =
      some ⟨some 4, ⟨[(2, .v (.int .i64 x2)), (4, .ptr 0 0 0), (7, .sl f 1 0 none), (9, .sl g 2 0 none)], [vB (md v), ⟨1, 34, 9, false, ps⟩, ⟨1, 23, 1, false, ss⟩]⟩, []⟩ := by
  obtain ⟨c0, c1, c2, c3, c4, c5⟩ := v
  unfold vB
  rw [lp3_2]
  refine cT rfl (cT rfl (cT rfl ?_))
  show lp 3 2 0 ⟨[_, _, _, _, (20, .v (.int .i64 1))], [vB ⟨Int.tmod c0 8, c1, c2, c3, c4, c5⟩, _, _]⟩ = _
  unfold vB
  rw [lp3_2]
  refine cT rfl (cT rfl (cT rfl ?_))
  show lp 3 2 0 ⟨[_, _, _, _, (20, .v (.int .i64 2))], [vB ⟨Int.tmod c0 8, Int.tmod c1 8, c2, c3, c4, c5⟩, _, _]⟩ = _
  unfold vB
  rw [lp3_2]
  refine cT rfl (cT rfl (cT rfl ?_))
  show lp 3 2 0 ⟨[_, _, _, _, (20, .v (.int .i64 3))], [vB ⟨Int.tmod c0 8, Int.tmod c1 8, Int.tmod c2 8, c3, c4, c5⟩, _, _]⟩ = _
  unfold vB
  rw [lp3_2]
  refine cT rfl (cT rfl (cT rfl ?_))
  show lp 3 2 0 ⟨[_, _, _, _, (20, .v (.int .i64 4))], [vB ⟨Int.tmod c0 8, Int.tmod c1 8, Int.tmod c2 8, Int.tmod c3 8, c4, c5⟩, _, _]⟩ = _
  unfold vB
  rw [lp3_2]
  refine cT rfl (cT rfl (cT rfl ?_))
  show lp 3 2 0 ⟨[_, _, _, _, (20, .v (.int .i64 5))], [vB ⟨Int.tmod c0 8, Int.tmod c1 8, Int.tmod c2 8, Int.tmod c3 8, Int.tmod c4 8, c5⟩, _, _]⟩ = _
  unfold vB
  rw [lp3_2]
  refine cT rfl (cT rfl (cT rfl ?_))
  show lp 3 2 0 ⟨[_, _, _, _, (20, .v (.int .i64 6))], [vB ⟨Int.tmod c0 8, Int.tmod c1 8, Int.tmod c2 8, Int.tmod c3 8, Int.tmod c4 8, Int.tmod c5 8⟩, _, _]⟩ = _
  unfold vB
  rw [lp3_2]
  exact cF rfl rfl
def enc : Option Nat → Int
  | none => -1
  | some j => (j : Int)
theorem l_want (cl : List Int) (x2 : Int) (f g : Bool) (v : Vc) (ps : List (List AV)) (n : Nat) (hn : n ≤ 50) : ∀ (k i : Nat), i + k = n →
    lp 3 3 0 ⟨[(2, .v (.int .i64 x2)), (4, .ptr 0 0 0), (7, .sl f 1 0 none), (9, .sl g 2 0 none), (21, .v (.int .i64 (enc (top (fun i => vis v (SS cl i)) 0 i)))), (22, .v (.int .i64 (i : Int)))], [vB v, ⟨1, 34, 9, false, ps⟩, ⟨1, 23, 1, false, stS cl n⟩]⟩ =
      some ⟨some 6, ⟨[(2, .v (.int .i64 x2)), (4, .ptr 0 0 0), (7, .sl f 1 0 none), (9, .sl g 2 0 none), (21, .v (.int .i64 (enc (top (fun i => vis v (SS cl i)) 0 n))))], [vB v, ⟨1, 34, 9, false, ps⟩, ⟨1, 23, 1, false, stS cl n⟩]⟩, []⟩
  | 0, i, hi => by
    obtain rfl : i = n := by omega
    unfold vB
    rw [lp3_3, stS_len, ltI_f (by omega)]; rfl
  | k + 1, i, hi => by
    have ih := l_want cl x2 f g v ps n hn k (i + 1) (by omega)
    have hs := SS_ok cl i (by omega)
    have ho := s_Origin (SS cl i) hs.1.1 (by have := hs.1.2; omega)
    rw [hs.2, if_pos rfl, if_pos rfl] at ho
    have hok := okT_iff.1 hs.2
    have hg := stS_get cl n i (by omega)
    have e1 : IntKind.i64.wrap ((i : Int) + 1) = ((i + 1 : Nat) : Int) := by rw [w_i64]; omega
    have e2 : IntKind.u64.wrap (SS cl i / 256) = SS cl i / 256 := by rw [w_u64]; omega
    have htop : top (fun i => vis v (SS cl i)) 0 (i + 1) = bif vis v (SS cl i) then some i else top (fun i => vis v (SS cl i)) 0 i := by
      show (bif vis v (SS cl (0 + i)) then some (0 + i) else _) = _
      rw [Nat.zero_add]
    have hvis : vis v (SS cl i) = leI (SS cl i / 256) (vget v (SS cl i % 256 - 1).toNat) := by unfold vis; rw [hs.2]; rfl
    rw [htop] at ih
    unfold vB at *
    rw [lp3_3, stS_len, ltI_t (by omega), leI_t (show (0 : Int) ≤ i by omega), ltN_t (show 0 + (i : Int).toNat < n by omega), Int.toNat_natCast, show 0 + i = i from Nat.zero_add i, hg, e1]
    refine cT rfl (cT rfl (cT rfl (bnd ho (cT rfl (cT rfl (cT rfl (cT rfl (cT ?_ ?_))))))))
    · show (leI 0 (SS cl i % 256 - 1) && ltI (SS cl i % 256 - 1) 6) = true
      rw [leI_t (by omega), ltI_t (by omega)]; rfl
    show cond (leI (IntKind.u64.wrap (SS cl i / 256)) (vget v (SS cl i % 256 - 1).toNat)) _ _ = _
    rw [e2, ← hvis]
    cases hv : vis v (SS cl i) with
    | true => rw [hv] at ih; exact ih
    | false => rw [hv] at ih; exact ih
/-- The page that is freed: the last one with version k that is not the head. -/
def gF (k : Int) (g p : Pg) : Pg := if (readR p).1.c0 = k ∧ p.l ≠ 105 then p else g
theorem l_gone (f : Bool) (x21 kk hg1 : Int) (v : Vc) (ps : List Pg) (R : List AV) (hR : ∃ (o0 o1 o2 o3 : Int) (o4 : Bool) (o5 o6 o7 o8 : Int), R = verl o0 o1 o2 o3 o4 o5 o6 o7 o8) (hl : ps.length ≤ 1000) (hok : ∀ p ∈ ps, p.ok ∧ (readR p).2 = 0) : ∀ (k i : Nat) (g : Pg), i + k = ps.length →
    lp 3 4 0 ⟨[(4, .ptr 0 0 0), (7, .sl f 1 0 none), (21, .v (.int .i64 x21)), (26, .ptr 2 0 0), (28, .ptr 3 0 0), (32, .v (.int .i64 kk)), (33, .ptr 4 0 0), (34, .v (.int .i64 (i : Int)))], [vB v, ⟨2, 34, 9, false, ps.map Pg.row⟩, ⟨1, 43, 2, true, [[.v (.int .i64 105), .v (.int .i64 hg1)]]⟩, ⟨1, 45, 9, true, [R]⟩, ⟨1, 34, 9, true, [g.row]⟩]⟩ =
      some ⟨some 8, ⟨[(4, .ptr 0 0 0), (7, .sl f 1 0 none), (21, .v (.int .i64 x21)), (26, .ptr 2 0 0), (28, .ptr 3 0 0), (32, .v (.int .i64 kk)), (33, .ptr 4 0 0)], [vB v, ⟨2, 34, 9, false, ps.map Pg.row⟩, ⟨1, 43, 2, true, [[.v (.int .i64 105), .v (.int .i64 hg1)]]⟩, ⟨1, 45, 9, true, [R]⟩, ⟨1, 34, 9, true, [((ps.drop i).foldl (gF kk) g).row]⟩]⟩, []⟩
  | 0, i, g, hi => by
    obtain ⟨o0, o1, o2, o3, o4, o5, o6, o7, o8, rfl⟩ := hR
    unfold vB Pg.row
    rw [lp3_4, List.length_map, ltI_f (by omega), List.drop_of_length_le (by omega)]; rfl
  | k + 1, i, g, hi => by
    have hlt : i < ps.length := by omega
    have ih := l_gone f x21 kk hg1 v ps R hR hl hok k (i + 1) (gF kk g ps[i]) (by omega)
    have hd : (ps.drop i).foldl (gF kk) g = (ps.drop (i + 1)).foldl (gF kk) (gF kk g ps[i]) := by
      rw [List.drop_eq_getElem_cons hlt]; rfl
    rw [← hd] at ih
    obtain ⟨p1, p2⟩ := hok ps[i] (List.getElem_mem hlt)
    have hread := s_recRead ps[i] p1
    rw [p2] at hread
    have e1 : IntKind.i64.wrap ((i : Int) + 1) = ((i + 1 : Nat) : Int) := by rw [w_i64]; omega
    have hget : lget (ps.map Pg.row) (0 + (i : Int).toNat) = ps[i].row := by rw [Nat.zero_add, Int.toNat_natCast]; exact lget_map Pg.row ps i hlt
    obtain ⟨o0, o1, o2, o3, o4, o5, o6, o7, o8, rfl⟩ := hR
    clear hd
    generalize (ps.drop i).foldl (gF kk) g = RES at *
    unfold gF at ih
    generalize ps[i] = p at *
    unfold vB at *
    rw [show g.row = pgl g.l g.h g.d0 g.d1 g.d2 g.d3 g.d4 g.d5 g.d6 from rfl]
    rw [lp3_4, List.length_map, ltI_t (by omega), leI_t (show (0 : Int) ≤ i by omega), hget, ltN_t (show 0 + (i : Int).toNat < ps.length by omega), e1]
    refine cT rfl (cT rfl (cT rfl (bnd hread (cT rfl (cT rfl (cT rfl ?_))))))
    show cond ((readR p).1.c0 == kk) _ _ = _
    by_cases c1 : (readR p).1.c0 = kk
    · refine cT (beq_t c1) (cT rfl (cT rfl ?_))
      show cond (!(p.l == 105)) _ _ = _
      by_cases c2 : p.l = 105
      · rw [if_neg (fun h => h.2 c2)] at ih
        exact cF (by rw [beq_t c2]; rfl) ih
      · rw [if_pos ⟨c1, c2⟩] at ih
        exact cT (by rw [beq_f c2]; rfl) (cT rfl (cT rfl ih))
    · rw [if_neg (fun h => c1 h.1)] at ih
      exact cF (beq_f c1) ih
theorem readR_fill {cl : List Int} {i q : Nat} (h : i < 100) : readR (fillP (fr q) (VS (SS cl) i)) = (VS (SS cl) i, 0) := by
  obtain ⟨a1, a2, a3⟩ := VS_ok (SS_ok cl) h (by omega)
  exact read_fill _ _ a1 a2 (d0_fr q)
theorem gone_tl (cl : List Int) (k : Nat) : ∀ (m : Nat) (g : Pg), m ≤ 50 → (tl (SS cl) m).foldl (gF k) g = if k < m then QP (SS cl) k else g
  | 0, g, hm => rfl
  | m + 1, g, hm => by
    unfold tl
    rw [List.foldl_append, gone_tl cl k m g (by omega)]
    show gF k (gF k _ (HP (SS cl) (m + 1))) (QP (SS cl) m) = _
    have e1 : ∀ x, gF k x (HP (SS cl) (m + 1)) = x := fun x => by
      unfold gF; rw [if_neg (fun h => h.2 rfl)]
    have e2 : ∀ x, gF k x (QP (SS cl) m) = if k = m then QP (SS cl) m else x := fun x => by
      unfold gF QP
      rw [readR_fill (by omega), VS_c0]
      have hl : (fillP (fr (m + 1)) (VS (SS cl) m)).l ≠ 105 := by show 105 + ((m + 1 : Nat) : Int) ≠ 105; omega
      by_cases h : k = m
      · rw [if_pos h, if_pos ⟨by rw [h], hl⟩]
      · rw [if_neg h, if_neg (fun g => h (by have := g.1; omega))]
    rw [e1, e2]
    by_cases h : k = m
    · subst h
      rw [if_pos rfl, if_pos (by omega)]
    · rw [if_neg h]
      by_cases h2 : k < m
      · rw [if_pos h2, if_pos (by omega)]
      · rw [if_neg h2, if_neg (by omega)]
theorem top_lt {V : Nat → Bool} {lo : Nat} : ∀ (n i : Nat), top V lo n = some i → lo ≤ i ∧ i < lo + n
  | 0, i, h => by cases h
  | n + 1, i, h => by
    unfold top at h
    cases hv : V (lo + n) with
    | true => rw [hv] at h; cases h; omega
    | false =>
      rw [hv] at h
      have := top_lt n i h
      omega
theorem top_split (V : Nat → Bool) (lo : Nat) : ∀ n : Nat, top V 0 (lo + n) = match top V lo n with | some i => some i | none => top V 0 lo
  | 0 => rfl
  | n + 1 => by
    show (bif V (0 + (lo + n)) then some (0 + (lo + n)) else top V 0 (lo + n)) = _
    rw [Nat.zero_add, top_split V lo n]
    show _ = match (bif V (lo + n) then some (lo + n) else top V lo n) with | some i => some i | none => top V 0 lo
    cases V (lo + n) <;> rfl
theorem pages_ok (cl : List Int) (m : Nat) (hm : m ≤ 50) : ∀ p ∈ HP (SS cl) m :: tl (SS cl) m, p.ok ∧ (readR p).2 = 0 := fun p hp => by
  have hfin : ∀ i j, i ≤ m → j ≤ m → p = fillP (fr j) (VS (SS cl) i) → p.ok ∧ (readR p).2 = 0 := fun i j hi hj e => by
    subst e
    exact ⟨fill_ok (SS_ok cl) (by omega) (by omega) (by omega), by rw [readR_fill (by omega)]⟩
  cases hp with
  | head => exact hfin m 0 (Nat.le_refl m) (Nat.zero_le m) rfl
  | tail _ hp =>
    obtain ⟨i, j, h1, h2, h3⟩ := tl_mem m p hp
    exact hfin i j h1 h2 h3
theorem lat_pages (cl : List Int) (m t : Nat) (ht : t ≤ m) : lat (HP (SS cl) m :: tl (SS cl) m) (ln m t) (HP (SS cl) m :: tl (SS cl) m).length = some (PP (SS cl) m t) := by
  rw [lat_tl _ rfl]
  unfold ln PP
  by_cases h : t = m
  · rw [if_pos h, if_pos h, if_pos rfl]
    by_cases h0 : m = 0
    · rw [if_pos h0]
    · rw [if_neg h0]
  · rw [if_neg h, if_neg h, if_neg (by omega), if_pos (by omega), show ((106 : Int) + (t : Int) - 106).toNat = t by omega]
/-- The page that was freed. -/
def fP (k : Nat) : Pg := ⟨106 + (k : Int), 256, 256, 0, 0, 0, 0, 0, 0⟩
theorem s_gone (cl : List Int) (k : Nat) (hk : k ≤ 50) : ev 14 [.agg (QP (SS cl) k).row] = some [.agg (fP k).row, .v (.int .i64 0)] := by
  obtain ⟨h1, h2, h3, _⟩ := fill_ok (SS_ok cl) (show k < 100 by omega) (by omega) (show k + 1 ≤ 100 by omega)
  have hr := s_pRelease (l := (QP (SS cl) k).l) (h := (QP (SS cl) k).h) (d0 := (QP (SS cl) k).d0) (d1 := (QP (SS cl) k).d1) (d2 := (QP (SS cl) k).d2) (d3 := (QP (SS cl) k).d3) (d4 := (QP (SS cl) k).d4) (d5 := (QP (SS cl) k).d5) (d6 := (QP (SS cl) k).d6) ⟨h2.1, by have := h2.2; show (QP (SS cl) k).h < _; unfold QP; omega⟩ ⟨h3.1, by have := h3.2; show (QP (SS cl) k).d0 < _; unfold QP; omega⟩
  obtain ⟨f1, f2, _⟩ := fill_d0 (fr (k + 1)) (VS (SS cl) k) (d0_fr _)
  refine hr.trans ?_
  unfold freeR
  rw [show heap (QP (SS cl) k).l = true by show heap (105 + ((k + 1 : Nat) : Int)) = true; unfold heap; rw [leI_t (by omega), ltI_t (by omega)]; rfl]
  rw [show (QP (SS cl) k).d0 % 256 = 1 from f1, show (QP (SS cl) k).d0 / 256 % 16777216 = (fr (k + 1)).d0 / 256 % 16777216 from f2]
  show some [AV.agg (pg (105 + ((k + 1 : Nat) : Int)) 256 256 0 0 0 0 0 0), _] = some [AV.agg (pgl (106 + (k : Int)) 256 256 0 0 0 0 0 0), _]
  rw [show (105 : Int) + ((k + 1 : Nat) : Int) = 106 + (k : Int) by omega]
theorem s_awake4 : ev 4 [] = some [.v (.bool true)] := evL_of (n := 40) (by kernel_rfl)
theorem sees_law (f : Bool) (cl : List Int) (v : Vc) (x2 : Int) : ev 3 [.lst f 1 (cl.map ir), .agg [.v (.int .u64 v.c0), .v (.int .u64 v.c1), .v (.int .u64 v.c2), .v (.int .u64 v.c3), .v (.int .u64 v.c4), .v (.int .u64 v.c5)], .v (.int .i64 x2)] = some [.v (.bool true)] := by
  rw [ev3, List.length_map]
  by_cases h0 : cl.length = 0
  · exact cT (by rw [h0]; rfl) (bnd s_awake4 (cT rfl rfl))
  refine cF (beq_f (by omega)) ?_
  by_cases h24 : 24 < cl.length
  · exact cT (ltI_t (by omega)) (bnd s_awake4 (cT rfl rfl))
  refine cF (ltI_f (by omega)) (bnd s_awake4 (cT rfl (cF rfl ?_)))
  obtain ⟨m, hm⟩ : ∃ m, cl.length = m + 1 := ⟨cl.length - 1, by omega⟩
  have hb := l_first cl f x2 v (by omega) (by omega)
  have hmod := l_mod x2 false false v ((pgR cl cl.length).map Pg.row) (stS cl cl.length)
  have hw := l_want cl x2 false false (md v) ((pgR cl cl.length).map Pg.row) cl.length (by omega) cl.length 0 (by omega)
  have hpg : pgR cl cl.length = HP (SS cl) m :: tl (SS cl) m := by rw [hm]; rfl
  have hpo := pages_ok cl m (by omega)
  have hpl : (HP (SS cl) m :: tl (SS cl) m).length = 2 * m + 1 := by rw [List.length_cons, tl_len]
  have hS : Sok (SS cl) (m + 1) := fun i hi => SS_ok cl i (by omega)
  have hr1 := s_Resolve (S := SS cl) (md v) (HP (SS cl) m :: tl (SS cl) m) false m 0 (by omega) hS (by omega) (fun p hp => (hpo p hp).1) (fun t _ ht => lat_pages cl m t ht) (Or.inl rfl) (Nat.zero_le m)
  have hhp := (hpo _ List.mem_cons_self).1
  have hat := s_pAt (l := (HP (SS cl) m).l) (h := (HP (SS cl) m).h) (d0 := (HP (SS cl) m).d0) (d1 := (HP (SS cl) m).d1) (d2 := (HP (SS cl) m).d2) (d3 := (HP (SS cl) m).d3) (d4 := (HP (SS cl) m).d4) (d5 := (HP (SS cl) m).d5) (d6 := (HP (SS cl) m).d6) hhp.2.2.1.1 (by have := hhp.2.2.1.2; omega)
  rw [show (HP (SS cl) m).d0 / 256 % 16777216 = 1 from (fill_d0 (fr 0) (VS (SS cl) m) (d0_fr 0)).2.1] at hat
  rw [Nat.sub_zero, ← hm] at hr1
  rw [hpg] at hb hmod hw
  refine bnd hb (cT rfl (cT rfl (bnd hmod (cT rfl (cT rfl (bnd hw (cT rfl (cT rfl ?_))))))))
  refine cT (by
    show (true && ltI 0 ((((HP (SS cl) m :: tl (SS cl) m).map Pg.row).length : Nat) : Int)) = true
    rw [List.length_map, hpl, ltI_t (by omega)]; rfl) (cT rfl (bnd hat (cT rfl (bnd hr1 ?_))))
  have htl := top_lt (V := fun i => vis (md v) (SS cl i)) (lo := 0) cl.length
  have hlen2 : ((((HP (SS cl) m :: tl (SS cl) m).map Pg.row).length - 0 : Nat) : Int) = 2 * (m : Int) + 1 := by rw [List.length_map, hpl]; omega
  have part2 : 1 ≤ m → ∃ k : Nat, k < m ∧ ev 5 [.v (.int .i64 x2), .v (.int .i64 (IntKind.i64.wrap ((((stS cl cl.length).length - 0 : Nat) : Int) - 1)))] = some [.v (.int .i64 (k : Int))] ∧
      (∀ (R : List AV) (wt : Int), (∃ (o0 o1 o2 o3 : Int) (o4 : Bool) (o5 o6 o7 o8 : Int), R = verl o0 o1 o2 o3 o4 o5 o6 o7 o8) →
        lp 3 4 0 ⟨[(4, .ptr 0 0 0), (7, .sl false 1 0 none), (21, .v (.int .i64 wt)), (26, .ptr 2 0 0), (28, .ptr 3 0 0), (32, .v (.int .i64 (k : Int))), (33, .ptr 4 0 0), (34, .v (.int .i64 0))], [vB (md v), ⟨2, 34, 9, false, (HP (SS cl) m :: tl (SS cl) m).map Pg.row⟩, ⟨1, 43, 2, true, [[.v (.int .i64 105), .v (.int .i64 1)]]⟩, ⟨1, 45, 9, true, [R]⟩, ⟨1, 34, 9, true, [pz.row]⟩]⟩ =
          some ⟨some 8, ⟨[(4, .ptr 0 0 0), (7, .sl false 1 0 none), (21, .v (.int .i64 wt)), (26, .ptr 2 0 0), (28, .ptr 3 0 0), (32, .v (.int .i64 (k : Int))), (33, .ptr 4 0 0)], [vB (md v), ⟨2, 34, 9, false, (HP (SS cl) m :: tl (SS cl) m).map Pg.row⟩, ⟨1, 43, 2, true, [[.v (.int .i64 105), .v (.int .i64 1)]]⟩, ⟨1, 45, 9, true, [R]⟩, ⟨1, 34, 9, true, [(QP (SS cl) k).row]⟩]⟩, []⟩) ∧
      (∀ b : Bool, ev 12 [.agg (vcl (md v).c0 (md v).c1 (md v).c2 (md v).c3 (md v).c4 (md v).c5), .agg [.v (.int .i64 105), .v (.int .i64 1)], .lst b 9 ((HP (SS cl) m :: tl (SS cl) m).map Pg.row ++ [(fP k).row])] = some (resA (SS cl) (top (fun i => vis (md v) (SS cl i)) (k + 1) (m - k)))) := by
    intro hm1
    have hpk := s_Pick x2 m (by omega) (by omega)
    have hr := pickR x2 m (by omega)
    obtain ⟨k, hk⟩ : ∃ k : Nat, pick x2 m = k := ⟨(pick x2 m).toNat, by omega⟩
    have hkm : k < m := by omega
    refine ⟨k, hkm, ?_, fun R wt hR => ?_, fun b => ?_⟩
    · rw [stS_len, show IntKind.i64.wrap (((cl.length - 0 : Nat) : Int) - 1) = m by rw [w_i64]; omega, ← hk]
      exact hpk
    · have hg := l_gone false wt k 1 (md v) (HP (SS cl) m :: tl (SS cl) m) R hR (by omega) hpo (HP (SS cl) m :: tl (SS cl) m).length 0 pz (by omega)
      rw [List.drop_zero, List.foldl_cons, show gF (k : Int) pz (HP (SS cl) m) = pz by unfold gF; rw [if_neg (fun h => h.2 rfl)], gone_tl cl k m pz (by omega), if_pos hkm] at hg
      exact hg
    · have hfl : ∀ t, lat ((HP (SS cl) m :: tl (SS cl) m) ++ [fP k]) (ln m t) ((HP (SS cl) m :: tl (SS cl) m) ++ [fP k]).length = cond ((106 : Int) + (k : Int) == ln m t) (some (fP k)) (lat (HP (SS cl) m :: tl (SS cl) m) (ln m t) (HP (SS cl) m :: tl (SS cl) m).length) := fun t => lat_snoc _ _ _
      have h := s_Resolve (S := SS cl) (md v) ((HP (SS cl) m :: tl (SS cl) m) ++ [fP k]) b m (k + 1) (by omega) hS (by rw [List.length_append, hpl]; simp only [List.length_cons, List.length_nil]; omega) (fun p hp => by
        rcases List.mem_append.1 hp with hp | hp
        · exact (hpo p hp).1
        · obtain rfl := List.mem_singleton.1 hp
          have z : u64ok 0 := ⟨by decide, by decide⟩
          exact ⟨⟨by show _ ≤ 106 + (k : Int); omega, by show 106 + (k : Int) ≤ _; omega⟩, ⟨by show (0 : Int) ≤ 256; decide, by show (256 : Int) ≤ _; decide⟩, ⟨by show (0 : Int) ≤ 256; decide, by show (256 : Int) ≤ _; decide⟩, z, z, z, z, z, z⟩)
        (fun t ht1 ht2 => by
          rw [hfl, beq_f (by unfold ln; split <;> omega), cond_false]
          exact lat_pages cl m t ht2)
        (Or.inr ⟨fP k, by
          rw [hfl, beq_t (by unfold ln; rw [if_neg (by omega)]; omega), cond_true], rfl, rfl⟩) (by omega)
      rw [List.map_append, show m + 1 - (k + 1) = m - k by omega] at h
      exact h
  have hspl : ∀ k, k < m → top (fun i => vis (md v) (SS cl i)) 0 cl.length = match top (fun i => vis (md v) (SS cl i)) (k + 1) (m - k) with | some i => some i | none => top (fun i => vis (md v) (SS cl i)) 0 (k + 1) := fun k hk => by
    rw [← top_split, show k + 1 + (m - k) = cl.length by omega]
  cases ht : top (fun i => vis (md v) (SS cl i)) 0 cl.length with
  | some w =>
    refine cT rfl (cT rfl (cT rfl (cT rfl (cT rfl (cF rfl (cF rfl (cF ?_ (cT rfl (cF ?_ (cF ?_ ?_))))))))))
    · show (!(true == leI 0 (w : Int))) = false
      rw [leI_t (by omega)]; rfl
    · show (!((VS (SS cl) w).c0 == (w : Int))) = false
      rw [VS_c0, beq_self_i]; rfl
    · show (!((VS (SS cl) w).key == 9)) = false
      rw [(VS_ok hS (show w < m + 1 by have := htl w ht; omega) (by omega)).2.2]; rfl
    by_cases hm0 : m = 0
    · refine cT ?_ rfl
      show ltI ((((HP (SS cl) m :: tl (SS cl) m).map Pg.row).length - 0 : Nat) : Int) 2 = true
      rw [hlen2, ltI_t (by omega)]
    obtain ⟨k, hkm, hp1, hp2, hp3⟩ := part2 (by omega)
    have hsp := hspl k hkm
    rw [ht] at hsp
    refine cF (by
      show ltI ((((HP (SS cl) m :: tl (SS cl) m).map Pg.row).length - 0 : Nat) : Int) 2 = false
      rw [hlen2, ltI_f (by omega)]) (bnd hp1 (cT rfl (bnd (hp2 _ _ (by exact ⟨_, _, _, _, _, _, _, _, _, rfl⟩)) (cT rfl (cT rfl (bnd (s_gone cl k (by omega)) (cT rfl (cT rfl (cT ?_ (cT ?_ (bnd (hp3 _) ?_)))))))))))
    · show leN ((0 + ((HP (SS cl) m :: tl (SS cl) m).map Pg.row).length) * 72) _ = true
      rw [List.length_map, hpl]; exact leN_t (by omega)
    · show leN ((((HP (SS cl) m :: tl (SS cl) m).map Pg.row).length + 1) * 72) _ = true
      rw [List.length_map, hpl]; exact leN_t (by omega)
    cases h2 : top (fun i => vis (md v) (SS cl i)) (k + 1) (m - k) with
    | some j =>
      rw [h2] at hsp
      obtain rfl : w = j := Option.some.inj hsp
      have hj := top_lt _ _ h2
      refine cT rfl (cT rfl (cT rfl (cT rfl (cT rfl (cF rfl (cF rfl (cF rfl (cT ?_ (cF rfl ?_)))))))))
      · show (true == ltI (k : Int) (w : Int)) = true
        rw [ltI_t (by omega)]; rfl
      · show some [AV.v (.bool ((VS (SS cl) w).c0 == (w : Int)))] = _
        rw [VS_c0, beq_self_i]
    | none =>
      rw [h2] at hsp
      have hj := top_lt _ _ hsp.symm
      refine cT rfl (cT rfl (cT rfl (cT rfl (cT rfl (cF rfl (cF rfl (cF rfl (cT ?_ (cT rfl rfl)))))))))
      show (false == ltI (k : Int) (w : Int)) = true
      rw [ltI_f (by omega)]; rfl
  | none =>
    refine cT rfl (cT rfl (cT rfl (cT rfl (cT rfl (cF rfl (cF rfl (cF rfl (cF rfl ?_))))))))
    by_cases hm0 : m = 0
    · refine cT ?_ rfl
      show ltI ((((HP (SS cl) m :: tl (SS cl) m).map Pg.row).length - 0 : Nat) : Int) 2 = true
      rw [hlen2, ltI_t (by omega)]
    obtain ⟨k, hkm, hp1, hp2, hp3⟩ := part2 (by omega)
    have hsp := hspl k hkm
    rw [ht] at hsp
    refine cF (by
      show ltI ((((HP (SS cl) m :: tl (SS cl) m).map Pg.row).length - 0 : Nat) : Int) 2 = false
      rw [hlen2, ltI_f (by omega)]) (bnd hp1 (cT rfl (bnd (hp2 _ _ (by exact ⟨_, _, _, _, _, _, _, _, _, rfl⟩)) (cT rfl (cT rfl (bnd (s_gone cl k (by omega)) (cT rfl (cT rfl (cT ?_ (cT ?_ (bnd (hp3 _) ?_)))))))))))
    · show leN ((0 + ((HP (SS cl) m :: tl (SS cl) m).map Pg.row).length) * 72) _ = true
      rw [List.length_map, hpl]; exact leN_t (by omega)
    · show leN ((((HP (SS cl) m :: tl (SS cl) m).map Pg.row).length + 1) * 72) _ = true
      rw [List.length_map, hpl]; exact leN_t (by omega)
    cases h2 : top (fun i => vis (md v) (SS cl i)) (k + 1) (m - k) with
    | some j => rw [h2] at hsp; cases hsp
    | none =>
      refine cT rfl (cT rfl (cT rfl (cT rfl (cT rfl (cF rfl (cF rfl (cF rfl (cT ?_ (cT rfl rfl)))))))))
      show (false == ltI (k : Int) (-1)) = true
      rw [ltI_f (by omega)]; rfl
theorem sees_all {N : Nat} (l : List AV) (h : TypA Try.prog N Try.f3.params.toList l) : ∃ n, evF Try.prog cfg n 3 l = some [.v (.bool true)] := by
  rw [show Try.f3.params.toList = [22, 25, 3] by kernel_rfl] at h
  obtain ⟨a0, r, rfl, t0, h⟩ := h
  obtain ⟨a1, r, rfl, t1, h⟩ := h
  obtain ⟨a2, r, rfl, t2, h⟩ := h
  obtain rfl : r = [] := h
  obtain ⟨f, x0, rfl, _, _, hx⟩ := openV22 t0
  obtain ⟨c0, c1, c2, c3, c4, c5, rfl, _⟩ := openV25 t1
  obtain ⟨x, rfl, _⟩ := openV3 t2
  obtain ⟨cl, rfl, _⟩ := rows_of ir (fun _ => True) x0 fun y hy => by
    obtain ⟨x, rfl, _⟩ := openC3 (n := 10) (hx y hy)
    exact ⟨x, rfl, trivial⟩
  exact evF_of_evL (sees_law f cl ⟨c0, c1, c2, c3, c4, c5⟩ x)
end Go.Proofs.Ytkealdacgocafaa
