/- QueuepairTorn. -/
import Derived.Test.YtkefjdmoikegbaaSet
set_option linter.all false
namespace Go.Proofs.Ytkefjdmoikegbaa
open Go.Ev Go.RowKit
attribute [local congr] bind_first cond_first
set_option maxRecDepth 10000
/-- The node when pieces up to the i-th have been written. -/
def memT (a : Int) (w : List Int) (i : Nat) : List Int := splice mem0 a.toNat (w.take (((pcs a w.length).getD i (0, 0)).1 - a).toNat)
theorem pcs_at {a : Int} {w : List Int} (hw : WOk a w) {i : Nat} (hi : i < (pcs a w.length).length) :
    a ≤ ((pcs a w.length).getD i (0, 0)).1 ∧ 1 ≤ ((pcs a w.length).getD i (0, 0)).2 ∧ ((pcs a w.length).getD i (0, 0)).1 + ((pcs a w.length).getD i (0, 0)).2 ≤ a + w.length := by
  have h1 := hw.lo; have h3 := hw.hi
  have := pcs_mem w.length a w.length (Int.le_refl _) (by omega) (by omega) _ (mem_getD _ (0, 0) i hi)
  omega
theorem memT_ok {a : Int} {w : List Int} (hw : WOk a w) {i : Nat} (hi : i < (pcs a w.length).length) : MemOk (memT a w i) := by
  have h1 := hw.lo; have h3 := hw.hi
  have := pcs_at hw hi
  exact mem0_ok.splice (by omega) (by simp only [List.length_take]; omega)
theorem memT_zero {a : Int} {w : List Int} (hw : WOk a w) : memT a w 0 = mem0 := by
  have h1 := hw.lo; have h2 := hw.pos; have h3 := hw.hi
  unfold memT
  rw [pcs_head a w.length (by omega) (by omega) (by omega), Int.sub_self]
  exact splice_nil _ _
theorem memT_step {a : Int} {w : List Int} (hw : WOk a w) {i : Nat} (hi : i + 1 < (pcs a w.length).length) : (wV a w).mem ((pcs a w.length).getD i (0, 0)) (memT a w i) = memT a w (i + 1) := by
  have h1 := hw.lo; have h3 := hw.hi
  have g := pcs_at hw (show i < _ by omega)
  have hn := pcs_next w.length a w.length (Int.le_refl _) (by omega) (by omega) i (by omega)
  rw [if_pos hi] at hn
  show splice (memT a w i) ((pcs a w.length).getD i (0, 0)).1.toNat ((w.drop (((pcs a w.length).getD i (0, 0)).1 - a).toNat).take ((pcs a w.length).getD i (0, 0)).2.toNat) = _
  unfold memT
  rw [← hn]
  generalize (pcs a w.length).getD i (0, 0) = x at *
  have e1 : x.1.toNat = a.toNat + (x.1 - a).toNat := by omega
  have e2 : (x.1 + x.2 - a).toNat = (x.1 - a).toNat + x.2.toNat := by omega
  rw [e1, e2]
  exact splice_splice _ _ _ _ _ (by omega) (by rw [mem0_len]; omega)
theorem l_steps (a : Int) (w : List Int) (hw : WOk a w) (after : Nat) (ha : after < (pcs a w.length).length) (f wn : Bool) (c inc : Int) (rq : List (List AV)) (rn : Bool) (rw : List (List AV)) (R : List (List AV)) : ∀ (k i : Nat), i + k = after →
    lp 5 1 0 ⟨[(0, .v (.int .i64 a)), (2, .v (.int .i64 after)), (9, .ptr 0 0 0), (11, .sl false 10 0 none), (14, .sl f 11 0 none), (15, .v (.int .i64 (i : Int)))],
        qB ⟨0, 1, 0, false, [wV a w], i, wn, []⟩ (memT a w i) false (rB c inc rq rn rw true [⟨2, 23, 1, false, w.map wr⟩, ⟨1, 54, 2, false, R⟩])⟩ =
      some ⟨some 2, ⟨[(0, .v (.int .i64 a)), (2, .v (.int .i64 after)), (9, .ptr 0 0 0), (11, .sl false 10 0 none), (14, .sl f 11 0 none)], qB ⟨0, 1, 0, false, [wV a w], after, wn, []⟩ (memT a w after) false (rB c inc rq rn rw true [⟨2, 23, 1, false, w.map wr⟩, ⟨1, 54, 2, false, R⟩])⟩, []⟩
  | 0, i, hi => by
    obtain rfl : i = after := by omega
    unfold qB rB
    rw [lp5_1, ltI_f (by omega)]
    rfl
  | k + 1, i, hi => by
    have ih := l_steps a w hw after ha f wn c inc rq rn rw R k (i + 1) (by omega)
    have hs := s_Step_w ⟨0, 1, 0, false, [wV a w], i, wn, []⟩ (memT a w i) (i := i) hw (memT_ok hw (by omega)) rfl rfl rfl rfl (by show 1 ≤ 1024; decide) rfl (by omega) rfl
    rw [if_pos (by omega), memT_step hw (by omega)] at hs
    have hpl := pcs_len a w.length
    have hh := hw.hi; have hl := hw.lo
    have e1 : IntKind.i64.wrap ((i : Int) + 1) = ((i + 1 : Nat) : Int) := by rw [w_i64]; omega
    unfold qB rB at *
    unfold pO at hs
    rw [lp5_1, ltI_t (by omega), e1]
    exact bnd hs (cT rfl (cT rfl (cT rfl (cT rfl (cF rfl ih)))))
theorem l_cmp (a e : Int) (f g : Bool) (w got : List Int) (h0 : 0 ≤ a ∧ a ≤ 1000) (h1 : e ≤ a + w.length) (hl : got.length ≤ 1000)
    (hg : ∀ i, i < got.length → got.getD i 0 = if a ≤ 32 + (i : Int) ∧ 32 + (i : Int) < e then w.getD (32 + (i : Int) - a).toNat 0 else 0) : ∀ (k i : Nat), i + k = got.length →
    lp 5 2 0 ⟨[(0, .v (.int .i64 a)), (11, .sl f 0 0 none), (20, .v (.int .i64 e)), (21, .sl g 1 0 none), (23, .v (.int .i64 (i : Int)))], [⟨2, 23, 1, false, w.map wr⟩, ⟨1, 23, 1, false, got.map wr⟩]⟩ = some ⟨some 4, ⟨[], []⟩, []⟩
  | 0, i, hi => by
    rw [lp5_2, List.length_map, List.length_map, ltI_f (by omega)]; rfl
  | k + 1, i, hi => by
    have ih := l_cmp a e f g w got h0 h1 hl hg k (i + 1) (by omega)
    have hi' : i < got.length := by omega
    have hx := hg i hi'
    have e1 : IntKind.i64.wrap ((i : Int) + 1) = ((i + 1 : Nat) : Int) := by rw [w_i64]; omega
    have e2 : IntKind.i64.wrap (32 + (i : Int)) = 32 + (i : Int) := by rw [w_i64]; omega
    have e3 : IntKind.i64.wrap (32 + (i : Int) - a) = 32 + (i : Int) - a := by rw [w_i64]; omega
    rw [lp5_2, List.length_map, List.length_map, ltI_t (by omega), e1, e2, e3, leI_t (show (0 : Int) ≤ i by omega), ltN_t (show 0 + (i : Int).toNat < got.length by omega), Int.toNat_natCast, show 0 + i = i from Nat.zero_add i, get_wr got i hi']
    by_cases c1 : a ≤ 32 + (i : Int)
    · refine cT rfl (cT (leI_t c1) ?_)
      by_cases c2 : 32 + (i : Int) < e
      · rw [if_pos ⟨c1, c2⟩] at hx
        have c3 : (32 + (i : Int) - a).toNat < w.length := by omega
        refine cT (ltI_t c2) (cT (by rw [leI_t (by omega), ltI_t (by omega)]; rfl) ?_)
        rw [Nat.zero_add, get_wr w _ c3, ltN_t c3, ← hx]
        exact cT rfl (cT rfl (cT rfl (cF (by show (!(got.getD i 0 == got.getD i 0)) = false; rw [beq_self_i]; rfl) ih)))
      · rw [if_neg (fun g => c2 g.2)] at hx
        exact cF (ltI_f (by omega)) (cT rfl (cT rfl (cF (by show (!(got.getD i 0 == 0)) = false; rw [hx]; rfl) ih)))
    · rw [if_neg (fun g => c1 g.1)] at hx
      exact cT rfl (cF (leI_f (by omega)) (cT rfl (cT rfl (cF (by show (!(got.getD i 0 == 0)) = false; rw [hx]; rfl) ih))))
theorem mem0_getD (i : Nat) (h : 2 ≤ i) : mem0.getD i 0 = 0 := by
  unfold mem0
  obtain ⟨j, rfl⟩ : ∃ j, i = j + 2 := ⟨i - 2, by omega⟩
  rw [List.getD_cons_succ, List.getD_cons_succ, List.getD_eq_getElem?_getD, List.getElem?_replicate]
  split <;> rfl
theorem torn_law (a0 a1 a2 a3 : Int) : ev 5 [.v (.int .i64 a0), .v (.int .i64 a1), .v (.int .i64 a2), .v (.int .u64 a3)] = some [.v (.bool true)] := by
  have p0 := Int.emod_nonneg a0 (show (100 : Int) ≠ 0 by decide)
  have p0' := Int.emod_lt_of_pos a0 (show (0 : Int) < 100 by decide)
  have p1 := Int.emod_nonneg a1 (show (60 : Int) ≠ 0 by decide)
  have p1' := Int.emod_lt_of_pos a1 (show (0 : Int) < 60 by decide)
  obtain ⟨a, he, hae⟩ : ∃ a : Int, IntKind.i64.wrap (40 + pick a0 100) = a ∧ 40 ≤ a ∧ a ≤ 139 := ⟨_, rfl, by unfold pick; rw [w_i64]; omega⟩
  obtain ⟨n, hn⟩ : ∃ n : Nat, IntKind.i64.wrap (pick a1 60 + 1) = n := ⟨(pick a1 60 + 1).toNat, by unfold pick; rw [w_i64]; omega⟩
  have hn' : 1 ≤ n ∧ n ≤ 60 := by unfold pick at hn; rw [w_i64] at hn; omega
  have hw : WOk a (wN a3 n) := ⟨by omega, by rw [wN_len]; omega, by rw [wN_len]; omega⟩
  have hwl : (wN a3 n).length = n := wN_len a3 n
  have hL : 0 < (pcs a (wN a3 n).length).length := List.length_pos_iff.2 (pcs_ne (by omega))
  have hLn := pcs_len a (wN a3 n).length
  obtain ⟨f1, hp⟩ := s_rPieces (wV a (wN a3 n)) ⟨by show (1 : Int) ≤ 2; decide, by show (2 : Int) ≤ 4; decide⟩ (by rw [wV_cnt, hwl]; omega)
  rw [wV_cnt, show (wV a (wN a3 n)).at_ = a from rfl] at hp
  have hpk := s_Pick a2 ((pcs a (wN a3 n).length).length : Nat) (by omega) (by omega)
  obtain ⟨k, hk⟩ : ∃ k : Nat, pick a2 ((pcs a (wN a3 n).length).length : Nat) = k := ⟨_, (Int.toNat_of_nonneg (Int.emod_nonneg _ (by omega))).symm⟩
  have hk' : k < (pcs a (wN a3 n).length).length := by
    have := Int.emod_lt_of_pos a2 (show (0 : Int) < ((pcs a (wN a3 n).length).length : Nat) by omega)
    unfold pick at hk; omega
  rw [hk] at hpk
  have hpost := s_Post ⟨0, 1, 0, true, [], 0, true, []⟩ (wV a (wN a3 n)) 40 ⟨fun h => by (cases h), by show (wN a3 n).length ≤ 100000; omega⟩ (by show 0 ≤ 1024; decide)
  have hE : Pr.postE ⟨0, 1, 0, true, [], 0, true, []⟩ (wV a (wN a3 n)) 40 = 0 := by
    unfold Pr.postE
    rw [bad_zero.2 hw.good, if_neg (by decide), if_neg (by show ¬ ((0 : Int) ≠ 0); decide), if_neg (by show ¬ (1024 ≤ 0); decide)]
  unfold Pr.post at hpost
  rw [hE, if_pos rfl] at hpost
  have hfill := l_fill a a2 a3 n (by omega) ⟨0, 1, 0, true, [], 0, true, []⟩ mem0 0 1 [] true (mem0.map wr) n 0 (List.replicate n [.v (.int .u64 0)]) (by omega) (List.length_replicate ..) (by simp [wN])
  have hsteps := l_steps a (wN a3 n) hw k hk' f1 true 0 1 [] true (mem0.map wr) (pieceR (pcs a (wN a3 n).length)) k 0 (by omega)
  rw [memT_zero hw] at hsteps
  have hm := memT_ok hw hk'
  have hfail := s_Fail (memT a (wN a3 n) k) false
  have hrf : refu 0 1 (wV a (wN a3 n)) (memT a (wN a3 n) k) true = 4 := rfl
  have hstep := s_Step_ref ⟨0, 1, 0, false, [wV a (wN a3 n)], k, true, []⟩ (memT a (wN a3 n) k) true rfl rfl (by show 1 ≤ 1024; decide) (by rw [hm.len]; decide) ⟨by show (0 : Int) ≤ 0; decide, by show (0 : Int) ≤ 1000; decide⟩ ⟨by show (0 : Int) ≤ 1; decide, by show (1 : Int) ≤ 1000; decide⟩ (by rw [hrf]; decide)
  rw [hrf] at hstep
  have hback := s_Back (memT a (wN a3 n) k) true (by rw [hm.len]; decide)
  have hbo : backOk (memT a (wN a3 n) k) true = true := by unfold backOk; rw [hm.boot]; rfl
  have hbw : backW (memT a (wN a3 n) k) true = (memT a (wN a3 n) k).set 1 2 := by unfold backW; rw [hbo, hm.boot]; rfl
  rw [hbo, hbw] at hback
  have hread := s_Read ((memT a (wN a3 n) k).set 1 2) false 32 200 (by rw [List.length_set, hm.len]; decide) ⟨by decide, by decide⟩
  rw [List.length_set, hm.len, if_pos (by rw [acc_ok (by decide) (by decide) (by decide)]; rfl)] at hread
  have hgl : ((((memT a (wN a3 n) k).set 1 2).drop (32 : Int).toNat).take (200 : Int).toNat).length = 200 := by
    simp only [List.length_take, List.length_drop, List.length_set, hm.len]; rfl
  have hat := pcs_at hw hk'
  have hcmp := l_cmp a ((pcs a (wN a3 n).length).getD k (0, 0)).1 false false (wN a3 n) ((((memT a (wN a3 n) k).set 1 2).drop (32 : Int).toNat).take (200 : Int).toNat) (by omega) (by omega) (by omega) (fun i hi => by
    rw [getD_take, if_pos (show i < (200 : Int).toNat by omega), getD_drop]
    rw [List.getD_eq_getElem?_getD, List.getElem?_set_ne (by omega), ← List.getD_eq_getElem?_getD]
    have hlo := hw.lo; have hhi := hw.hi
    unfold memT
    generalize hxe : (pcs a (wN a3 n).length).getD k (0, 0) = x at *
    have hte : ((wN a3 n).take (x.1 - a).toNat).length = (x.1 - a).toNat := by simp only [List.length_take]; omega
    rw [splice_getD _ _ _ (by rw [mem0_len]; omega), hte, mem0_getD _ (by omega)]
    by_cases c1 : a ≤ 32 + (i : Int)
    · by_cases c2 : 32 + (i : Int) < x.1
      · rw [if_neg (by omega), if_pos (by omega), if_pos ⟨c1, c2⟩, getD_take, if_pos (by omega)]
        congr 1; omega
      · rw [if_neg (by omega), if_neg (by omega), if_neg (fun g => c2 g.2)]
    · rw [if_pos (by omega), if_neg (fun g => c1 g.1)]) 200 0 (by omega)
  rw [ev5]
  refine bnd (s_Pick a0 100 (by decide) (by decide)) (cT rfl (bnd (s_Pick a1 60 (by decide) (by decide)) (cT rfl (bnd (s_Pick 0 6 (by decide) (by decide)) (cT rfl (bnd (s_Pick 1 4 (by decide) (by decide)) (cT rfl (bnd (s_newPair 0 1 (by decide) (by decide)) (cF rfl (cT rfl (bnd (s_New 40 (by decide)) (cF rfl (cT rfl (cT rfl ?_))))))))))))))
  refine cT (by simp only [List.length_replicate, List.length_set]; rfl) (cT (by simp only [List.length_replicate, List.length_set]; rfl) (cT (by simp only [List.length_replicate, List.length_set]; rfl) (cT (by simp only [List.length_replicate, List.length_set]; rfl) (cF rfl (cF rfl (bnd s_write0 (cT rfl (cT rfl (cT ?_ (cF rfl (bnd s_awake (cT rfl (cF rfl ?_)))))))))))))
  · show (false || (true && ((mem0.map wr).all rowV && true))) = true
    rw [all_wr]; rfl
  simp -implicitDefEqProofs only [cellAt_zero, avInt_v]
  rw [he, hn, leI_t (show (0 : Int) ≤ n by omega), leI_t (Int.le_refl (n : Int)), leI_t (show (n : Int) * 8 ≤ 281474976710656 by omega), leI_t (show (n : Int) ≤ 281474976710656 by omega), Int.toNat_natCast]
  refine cT rfl (bnd hfill (cT rfl (cT rfl (bnd hpost (cT rfl (cT rfl (cF rfl (bnd hp (cT rfl ?_)))))))))
  have hlen : (pieceR (pcs a (wN a3 n).length)).length = (pcs a (wN a3 n).length).length := List.length_map ..
  have hget : lget (pieceR (pcs a (wN a3 n).length)) (0 + (k : Int).toNat) = [AV.v (.int .i64 ((pcs a (wN a3 n).length).getD k (0, 0)).1), AV.v (.int .i64 ((pcs a (wN a3 n).length).getD k (0, 0)).2)] := by
    rw [Nat.zero_add, Int.toNat_natCast]
    exact lget_mapD (fun x : Int × Int => [AV.v (.int .i64 x.1), AV.v (.int .i64 x.2)]) _ (0, 0) k hk'
  generalize hRR : pieceR (pcs a (wN a3 n).length) = RR at *
  refine bnd (show _ = some [AV.v (.int .i64 k)] from ?_) ?_
  · show ev 10 [.v (.int .i64 a2), .v (.int .i64 ((RR.length : Nat) : Int))] = _
    rw [hlen]; exact hpk
  refine cT rfl (bnd hsteps (cT rfl (cT rfl (bnd hfail (cT rfl (bnd hstep (cT rfl (cT rfl (cT rfl (cT rfl (cF rfl (cF rfl (bnd hback (cT rfl (cT rfl (cF rfl (cT ?_ (cT ?_ (bnd hread (cT rfl (cT rfl (cT ?_ (cF rfl (cF ?_ ?_))))))))))))))))))))))))
  · show (leI 0 (k : Int) && ltI (k : Int) ((RR.length : Nat) : Int)) = true
    rw [leI_t (by omega), ltI_t (by omega)]; rfl
  · show (ltN (0 + (k : Int).toNat) RR.length && isI .i64 (cellAt (lget RR (0 + (k : Int).toNat)) 0)) = true
    rw [hget, ltN_t (by omega)]; rfl
  · show (false || ((((((((memT a (wN a3 n) k).set 1 2).drop (32 : Int).toNat).take (200 : Int).toNat).map wr).all rowV) && true) && true)) = true
    rw [all_wr]; rfl
  · show (!((((((((memT a (wN a3 n) k).set 1 2).drop (32 : Int).toNat).take (200 : Int).toNat).map wr).length : Nat) : Int) == 200)) = false
    rw [List.length_map, hgl]; rfl
  refine bnd (show _ = some (LR.mk (some 4) ⟨[], []⟩ []) from ?_) (cT rfl (cT rfl rfl))
  show lp 5 2 0 ⟨[(0, .v (.int .i64 a)), (11, .sl false 0 0 none), (20, .v (.int .i64 (avInt (cellAt (lget RR (0 + (k : Int).toNat)) 0)))), (21, .sl false 1 0 none), (23, .v (.int .i64 0))], [⟨2, 23, 1, false, (wN a3 n).map wr⟩, ⟨1, 23, 1, false, ((((memT a (wN a3 n) k).set 1 2).drop (32 : Int).toNat).take (200 : Int).toNat).map wr⟩]⟩ = _
  rw [hget]
  exact hcmp
theorem torn_all {N : Nat} (l : List AV) (h : TypA Try.prog N Try.f5.params.toList l) : ∃ n, evF Try.prog cfg n 5 l = some [.v (.bool true)] := by
  rw [show Try.f5.params.toList = [3, 3, 3, 23] by kernel_rfl] at h
  obtain ⟨a0, r, rfl, t0, h⟩ := h
  obtain ⟨a1, r, rfl, t1, h⟩ := h
  obtain ⟨a2, r, rfl, t2, h⟩ := h
  obtain ⟨a3, r, rfl, t3, h⟩ := h
  obtain rfl : r = [] := h
  obtain ⟨a, rfl, _⟩ := openV3 t0
  obtain ⟨b, rfl, _⟩ := openV3 t1
  obtain ⟨c, rfl, _⟩ := openV3 t2
  obtain ⟨d, rfl, _⟩ := openV23 t3
  exact evF_of_evL (torn_law a b c d)
end Go.Proofs.Ytkefjdmoikegbaa
