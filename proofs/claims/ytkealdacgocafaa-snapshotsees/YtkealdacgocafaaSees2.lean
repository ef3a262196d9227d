/- SnapshotSees: how the chain is built. -/
import Derived.Test.YtkealdacgocafaaSees1
set_option linter.all false
namespace Go.Proofs.Ytkealdacgocafaa
open Go.Ev
attribute [local congr] bind_first cond_first
set_option maxRecDepth 10000
theorem s_free {j : Nat} (hj : j ≤ 50) : ev 7 [.agg (pgl (105 + (j : Int)) 256 0 0 0 0 0 0 0), .v (.int .i64 1), .v (.int .u32 0)] = some [.agg (fr j).row, .v (.int .i64 0)] := by
  have := s_pAllocate (l := 105 + (j : Int)) (h := 256) (d0 := 0) (d1 := 0) (d2 := 0) (d3 := 0) (d4 := 0) (d5 := 0) (d6 := 0) (k := 1) (a := 0) ⟨by decide, by decide⟩ ⟨by decide, by decide⟩ ⟨by decide, by decide⟩
  rw [this]
  unfold allocR
  have hh : heap (105 + (j : Int)) = true := by unfold heap; rw [leI_t (by omega), ltI_t (by omega)]; rfl
  rw [hh]; rfl
theorem pickR (n m : Int) (h : 0 < m) : 0 ≤ pick n m ∧ pick n m < m := ⟨Int.emod_nonneg n (by omega), Int.emod_lt_of_pos n h⟩
abbrev ir (a : Int) : List AV := [.v (.int .i64 a)]
abbrev ur (a : Int) : List AV := [.v (.int .u64 a)]
def sset (v : Vc) (i : Nat) (x : Int) : Vc := ⟨cond (Nat.beq i 0) x v.c0, cond (Nat.beq i 1) x v.c1, cond (Nat.beq i 2) x v.c2, cond (Nat.beq i 3) x v.c3, cond (Nat.beq i 4) x v.c4, cond (Nat.beq i 5) x v.c5⟩
theorem vget_set (v : Vc) (i j : Nat) (x : Int) (hi : i < 6) (hj : j < 6) : vget (sset v i x) j = if i = j then x else vget v j := by
  have h6 : ∀ n : Nat, n < 6 → n = 0 ∨ n = 1 ∨ n = 2 ∨ n = 3 ∨ n = 4 ∨ n = 5 := by omega
  rcases h6 i hi with rfl | rfl | rfl | rfl | rfl | rfl <;> rcases h6 j hj with rfl | rfl | rfl | rfl | rfl | rfl <;> rfl
section
variable (cl : List Int)
def cO (i : Nat) : Int := pick (cl.getD i 0) 6
def sq : Nat → Vc
  | 0 => ⟨0, 0, 0, 0, 0, 0⟩
  | i + 1 => sset (sq i) (cO cl i).toNat (IntKind.i64.wrap (vget (sq i) (cO cl i).toNat + 1))
def SS (i : Nat) : Int := vget (sq cl (i + 1)) (cO cl i).toNat * 256 + (cO cl i + 1)
theorem cO_lt (i : Nat) : 0 ≤ cO cl i ∧ cO cl i < 6 := pickR _ 6 (by decide)
theorem sq_le : ∀ (i : Nat), i ≤ 1000 → ∀ j, j < 6 → 0 ≤ vget (sq cl i) j ∧ vget (sq cl i) j ≤ i
  | 0, _, j, hj => by
    have h6 : ∀ n : Nat, n < 6 → n = 0 ∨ n = 1 ∨ n = 2 ∨ n = 3 ∨ n = 4 ∨ n = 5 := by omega
    rcases h6 j hj with rfl | rfl | rfl | rfl | rfl | rfl <;> exact ⟨Int.le_refl 0, Int.le_refl 0⟩
  | i + 1, hi, j, hj => by
    have hc := cO_lt cl i
    have ih := sq_le i (by omega)
    show 0 ≤ vget (sset _ _ _) j ∧ vget (sset _ _ _) j ≤ ((i + 1 : Nat) : Int)
    rw [vget_set _ _ _ _ (by omega) hj]
    split
    · have := ih (cO cl i).toNat (by omega)
      rw [w_i64]; omega
    · have := ih j hj; omega
theorem sq_pos (i : Nat) (hi : i ≤ 999) : 1 ≤ vget (sq cl (i + 1)) (cO cl i).toNat := by
  have hc := cO_lt cl i
  show 1 ≤ vget (sset _ _ _) _
  rw [vget_set _ _ _ _ (by omega) (by omega), if_pos rfl]
  have := sq_le cl i (by omega) (cO cl i).toNat (by omega)
  rw [w_i64]; omega
theorem SS_ok : Sok (SS cl) 100 := fun i hi => by
  have hc := cO_lt cl i
  have h1 := sq_pos cl i (by omega)
  have h2 := (sq_le cl (i + 1) (by omega) (cO cl i).toNat (by omega)).2
  unfold SS okS
  refine ⟨⟨by omega, by omega⟩, ?_⟩
  rw [okT_iff]; omega
theorem s_st (i : Nat) (hi : i ≤ 50) : ev 6 [.v (.int .i64 (cO cl i)), .v (.int .i64 (vget (sq cl (i + 1)) (cO cl i).toNat))] = some [.v (.int .u64 (SS cl i))] := by
  have hc := cO_lt cl i
  have h1 := sq_pos cl i (by omega)
  have h2 := (sq_le cl (i + 1) (by omega) (cO cl i).toNat (by omega)).2
  rw [s_Stamp, if_pos (okT_iff.2 (by omega))]; rfl
/-- The pages after i versions. -/
def pgR : Nat → List Pg
  | 0 => []
  | i + 1 => HP (SS cl) i :: tl (SS cl) i
theorem pgR_len (i : Nat) : (pgR cl i).length ≤ 2 * i := by
  cases i with
  | zero => exact Nat.le_refl 0
  | succ i => unfold pgR; rw [List.length_cons, tl_len]; omega
abbrev stB (v : Vc) (ps : List (List AV)) (q : Vc) (ss : List (List AV)) : Store := [⟨1, 25, 6, true, [[.v (.int .u64 v.c0), .v (.int .u64 v.c1), .v (.int .u64 v.c2), .v (.int .u64 v.c3), .v (.int .u64 v.c4), .v (.int .u64 v.c5)]]⟩, ⟨1, 34, 9, false, ps⟩,
  ⟨1, 28, 6, true, [[.v (.int .i64 q.c0), .v (.int .i64 q.c1), .v (.int .i64 q.c2), .v (.int .i64 q.c3), .v (.int .i64 q.c4), .v (.int .i64 q.c5)]]⟩, ⟨1, 23, 1, false, ss⟩]
def stS (i : Nat) : List (List AV) := (List.range i).map fun j => ur (SS cl j)
theorem stS_succ (i : Nat) : stS cl (i + 1) = stS cl i ++ [ur (SS cl i)] := by
  unfold stS; rw [List.range_succ, List.map_append]; rfl
theorem stS_len (i : Nat) : (stS cl i).length = i := by unfold stS; simp
theorem stS_get (i j : Nat) (h : j < i) : lget (stS cl i) j = ur (SS cl j) := by
  unfold stS lget
  rw [List.getD_eq_getElem?_getD, List.getElem?_map, List.getElem?_range h]; rfl
/-- The two pages of a replacement are looked at. -/
theorem l_two (x0n x7n x9n x17n : Bool) (x0 R : List (List AV)) (x2 x10 : Int) (v q : Vc) (ss : List (List AV)) (a b h : Pg) (ha : (a.l == h.l) = true) (hb : (b.l == a.l) = false) (hR : R.length ≤ 100) :
    lp 3 1 0 ⟨[(0, .lst x0n 1 x0), (2, .v (.int .i64 x2)), (4, .ptr 0 0 0), (7, .sl x7n 1 0 none), (8, .ptr 2 0 0), (9, .sl x9n 3 0 none), (10, .v (.int .i64 x10)), (17, .lst x17n 9 [a.row, b.row]), (19, .v (.int .i64 0))], stB v (h.row :: R) q ss⟩ =
      some ⟨some 2, ⟨[(0, .lst x0n 1 x0), (2, .v (.int .i64 x2)), (4, .ptr 0 0 0), (7, .sl x7n 1 0 none), (8, .ptr 2 0 0), (9, .sl x9n 3 0 none), (10, .v (.int .i64 x10))], stB v (a.row :: R) q ss⟩, []⟩ := by
  unfold stB
  rw [lp3_1]
  refine cT rfl (cT rfl (cT rfl (cT (by rw [ltI_t (by simp only [List.length_cons]; omega)]; rfl) (cT (by rw [ltN_t (by simp)]; rfl) (cT ha (cT rfl (cT rfl (cT (by rw [ltI_t (by simp only [List.length_cons]; omega)]; rfl) (cT (ltN_t (by simp)) ?_)))))))))
  show lp 3 1 0 ⟨[_, _, _, _, _, _, _, _, (19, .v (.int .i64 1))], [_, ⟨1, 34, 9, false, a.row :: R⟩, _, _]⟩ = _
  rw [lp3_1]
  refine cT rfl (cT rfl (cT rfl (cT (by rw [ltI_t (by simp only [List.length_cons]; omega)]; rfl) (cT (by rw [ltN_t (by simp)]; rfl) (cF hb ?_)))))
  show lp 3 1 0 ⟨[_, _, _, _, _, _, _, _, (19, .v (.int .i64 2))], _⟩ = _
  rw [lp3_1]
  exact cF rfl rfl
theorem l_build (x0n : Bool) (x2 : Int) (v : Vc) (hn : cl.length ≤ 24) : ∀ (k i : Nat), i + k = cl.length → 1 ≤ i →
    lp 3 0 0 ⟨[(0, .lst x0n 1 (cl.map ir)), (2, .v (.int .i64 x2)), (4, .ptr 0 0 0), (7, .sl false 1 0 none), (8, .ptr 2 0 0), (9, .sl false 3 0 none), (10, .v (.int .i64 (i : Int)))], stB v ((pgR cl i).map Pg.row) (sq cl i) (stS cl i)⟩ =
      some ⟨some 0, ⟨[(2, .v (.int .i64 x2)), (4, .ptr 0 0 0), (7, .sl false 1 0 none), (9, .sl false 2 0 none)], [⟨1, 25, 6, true, [[.v (.int .u64 v.c0), .v (.int .u64 v.c1), .v (.int .u64 v.c2), .v (.int .u64 v.c3), .v (.int .u64 v.c4), .v (.int .u64 v.c5)]]⟩, ⟨1, 34, 9, false, (pgR cl cl.length).map Pg.row⟩, ⟨1, 23, 1, false, stS cl cl.length⟩]⟩, []⟩
  | 0, i, hi, h1 => by
    obtain rfl : i = cl.length := by omega
    unfold stB
    rw [lp3_0, List.length_map, ltI_f (by omega)]; rfl
  | k + 1, i, hi, h1 => by
    have ih := l_build x0n x2 v hn k (i + 1) (by omega) (by omega)
    obtain ⟨j, rfl⟩ : ∃ j, i = j + 1 := ⟨i - 1, by omega⟩
    have hlt : j + 1 < cl.length := by omega
    have hc := cO_lt cl (j + 1)
    have hg : lget (cl.map ir) (Int.toNat ((j + 1 : Nat) : Int)) = [.v (.int .i64 (cl.getD (j + 1) 0))] := by rw [Int.toNat_natCast]; exact lget_mapD ir cl 0 (j + 1) hlt
    have hp := s_Pick (cl.getD (j + 1) 0) 6 (by decide) (by decide)
    have hst := s_st cl (j + 1) (by omega)
    have hal := s_free (j := j + 1) (by omega)
    have e1 : IntKind.i64.wrap (105 + ((j + 1 : Nat) : Int)) = 105 + ((j + 1 : Nat) : Int) := by rw [w_i64]; omega
    have e2 : IntKind.i64.wrap (((j + 1 : Nat) : Int) + 1) = ((j + 1 + 1 : Nat) : Int) := by rw [w_i64]; omega
    have hS := SS_ok cl
    have hrs := repl_step (S := SS cl) (n := 50) (i := j) (fun i hi => hS i (by omega)) (by omega) (by omega)
    obtain ⟨v1, v2, v3⟩ := vs_ok hS (show j + 1 < 100 by omega) (by omega)
    have hrep := s_pReplace (HP (SS cl) j) (fr (j + 1)) (vs (SS cl) (j + 1)) (fill_ok hS (by omega) (by omega) (by omega)) (fr_ok (by omega)) v1
    rw [hrs] at hrep
    have htl := tl_len (S := SS cl) j
    have htwo := l_two x0n false false false (cl.map ir) ((tl (SS cl) j).map Pg.row ++ [(HP (SS cl) (j + 1)).row, (QP (SS cl) j).row]) x2 ((j + 1 : Nat) : Int) v (sq cl (j + 1 + 1)) (stS cl (j + 1 + 1)) (HP (SS cl) (j + 1)) (QP (SS cl) j) (HP (SS cl) j) rfl (by
      show (105 + ((j + 1 : Nat) : Int) == 105 + ((0 : Nat) : Int)) = false
      exact beq_f (by omega)) (by rw [List.length_append, List.length_map, htl]; simp only [List.length_cons, List.length_nil]; omega)
    have hsl := stS_len cl (j + 1)
    have hsg : lget (stS cl (j + 1) ++ [[.v (.int .u64 (SS cl (j + 1)))]]) (0 + (Int.toNat ((j + 1 : Nat) : Int))) = [.v (.int .u64 (SS cl (j + 1)))] := by
      have := stS_get cl (j + 1 + 1) (j + 1) (by omega)
      rw [stS_succ] at this
      rw [Nat.zero_add, Int.toNat_natCast]; exact this
    rw [stS_succ cl (j + 1)] at ih htwo
    unfold stB at *
    have hpl : ((pgR cl (j + 1)).map Pg.row).length ≤ 100 := by rw [List.length_map]; have := pgR_len cl (j + 1); omega
    have hp0 : 1 ≤ ((pgR cl (j + 1)).map Pg.row).length := by rw [List.length_map]; unfold pgR; simp only [List.length_cons]; omega
    rw [lp3_0, List.length_map, ltI_t (by omega), leI_t (show (0 : Int) ≤ ((j + 1 : Nat) : Int) by omega), hg]
    refine cT rfl (cT rfl (cT rfl (bnd hp (cT rfl ?_))))
    have hci : (leI 0 (cO cl (j + 1)) && ltI (cO cl (j + 1)) 6) = true := by rw [leI_t hc.1, ltI_t hc.2]; rfl
    refine cT hci (cT hci (cT hci (bnd hst (cT rfl (cT (leN_t (by omega)) ?_)))))
    rw [e1]
    refine bnd hal (cT rfl (cT rfl ?_))
    refine cT (by
      show (leI 0 ((j + 1 : Nat) : Int) && ltI ((j + 1 : Nat) : Int) (((stS cl (j + 1) ++ [[AV.v (.int .u64 (SS cl (j + 1)))]]).length : Nat) : Int)) = true
      rw [List.length_append, hsl, leI_t (by omega), ltI_t (by simp only [List.length_cons, List.length_nil]; omega)]; rfl) ?_
    refine cT (by
      show (ltN (0 + (Int.toNat ((j + 1 : Nat) : Int))) (stS cl (j + 1) ++ [[AV.v (.int .u64 (SS cl (j + 1)))]]).length && isI .u64 (cellAt (lget (stS cl (j + 1) ++ [[AV.v (.int .u64 (SS cl (j + 1)))]]) (0 + (Int.toNat ((j + 1 : Nat) : Int)))) 0)) = true
      rw [hsg, ltN_t (by rw [List.length_append, hsl]; simp only [List.length_cons, List.length_nil]; omega)]; rfl) ?_
    refine cF rfl (cF (beq_f (by omega)) (cT (by rw [ltI_t (by omega)]; rfl) (cT (by rw [ltN_t (by omega)]; rfl) ?_)))
    refine bnd (show _ = some [AV.lst false 9 [(HP (SS cl) (j + 1)).row, (QP (SS cl) j).row], AV.v (.int .i64 0)] from ?_) (cT rfl (cT rfl (cF rfl (cF rfl (cT rfl (cT rfl (cT rfl (cT rfl (cT ?_ ?_)))))))))
    · show ev 9 [_, _, .agg [.v (.int .u32 9), .v (.int .i64 ((j + 1 : Nat) : Int)), .v (.int .i64 0), .v (.int .i64 0), .v (.bool false), .v (.int .u32 0), .v (.int .u64 (avInt (cellAt (lget (stS cl (j + 1) ++ [[AV.v (.int .u64 (SS cl (j + 1)))]]) (0 + (Int.toNat ((j + 1 : Nat) : Int)))) 0))), .v (.int .i64 0), .v (.int .i64 0)]] = _
      rw [hsg]; exact hrep
    · exact leN_t (by omega)
    refine bnd htwo (cT rfl (cT rfl ?_))
    refine Eq.trans ?_ ih
    show lp 3 0 0 ⟨[_, _, _, _, _, _, (10, .v (.int .i64 (IntKind.i64.wrap (((j + 1 : Nat) : Int) + 1))))], [_, ⟨1, 34, 9, false, (HP (SS cl) (j + 1)).row :: ((tl (SS cl) j).map Pg.row ++ [(HP (SS cl) (j + 1)).row, (QP (SS cl) j).row])⟩, _, _]⟩ = _
    rw [e2]
    have e3 : (pgR cl (j + 1 + 1)).map Pg.row = (HP (SS cl) (j + 1)).row :: ((tl (SS cl) j).map Pg.row ++ [(HP (SS cl) (j + 1)).row, (QP (SS cl) j).row]) := by
      show (HP (SS cl) (j + 1) :: (tl (SS cl) j ++ [HP (SS cl) (j + 1), QP (SS cl) j])).map Pg.row = _
      rw [List.map_cons, List.map_append]; rfl
    rw [e3]
    rfl
theorem l_first (x0n : Bool) (x2 : Int) (v : Vc) (hn : cl.length ≤ 24) (h0 : 1 ≤ cl.length) :
    lp 3 0 0 ⟨[(0, .lst x0n 1 (cl.map ir)), (2, .v (.int .i64 x2)), (4, .ptr 0 0 0), (7, .sl true 1 0 none), (8, .ptr 2 0 0), (9, .sl true 3 0 none), (10, .v (.int .i64 0))], stB v [] ⟨0, 0, 0, 0, 0, 0⟩ []⟩ =
      some ⟨some 0, ⟨[(2, .v (.int .i64 x2)), (4, .ptr 0 0 0), (7, .sl false 1 0 none), (9, .sl false 2 0 none)], [⟨1, 25, 6, true, [[.v (.int .u64 v.c0), .v (.int .u64 v.c1), .v (.int .u64 v.c2), .v (.int .u64 v.c3), .v (.int .u64 v.c4), .v (.int .u64 v.c5)]]⟩, ⟨1, 34, 9, false, (pgR cl cl.length).map Pg.row⟩, ⟨1, 23, 1, false, stS cl cl.length⟩]⟩, []⟩ := by
  have ih := l_build cl x0n x2 v hn (cl.length - 1) 1 (by omega) (by omega)
  have hc := cO_lt cl 0
  have hg : lget (cl.map ir) (Int.toNat (0 : Int)) = [.v (.int .i64 (cl.getD 0 0))] := lget_mapD ir cl 0 0 (by omega)
  have hp := s_Pick (cl.getD 0 0) 6 (by decide) (by decide)
  have hst := s_st cl 0 (by omega)
  have hal := s_free (j := 0) (by omega)
  have hS := SS_ok cl
  obtain ⟨v1, v2, v3⟩ := vs_ok hS (show 0 < 100 by omega) (by omega)
  have hwr := s_recWrite (fr 0) (vs (SS cl) 0) (fr_ok (by omega)) v1
  rw [show writeR (fr 0) (vs (SS cl) 0) = (HP (SS cl) 0, 0) by unfold writeR; rw [v2]; rfl] at hwr
  unfold stB at *
  rw [lp3_0, List.length_map, ltI_t (by omega), leI_t (show (0 : Int) ≤ 0 by omega), hg]
  refine cT rfl (cT rfl (cT rfl (bnd hp (cT rfl ?_))))
  have hci : (leI 0 (cO cl 0) && ltI (cO cl 0) 6) = true := by rw [leI_t hc.1, ltI_t hc.2]; rfl
  refine cT hci (cT hci (cT hci (bnd hst (cT rfl (cT rfl (bnd hal (cT rfl (cT rfl (cT rfl (cT rfl (cF rfl (cT rfl (bnd hwr (cT rfl (cT rfl (cF rfl (cT rfl ?_)))))))))))))))))
  exact ih
end
end Go.Proofs.Ytkealdacgocafaa
