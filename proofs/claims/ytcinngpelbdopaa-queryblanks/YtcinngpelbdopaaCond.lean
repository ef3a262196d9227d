/- QueryConditions. -/
import Derived.Test.YtcinngpelbdopaaHold
import Derived.Test.YtcinngpelbdopaaEq4
import Derived.Test.YtcinngpelbdopaaTy
set_option linter.all false
namespace Go.Proofs.Ytcinngpelbdopaa
open Go.Ev
attribute [local congr] bind_first cond_first
def i64ok (a : Int) : Prop := -9223372036854775808 ≤ a ∧ a ≤ 9223372036854775807
/-- What number makes of a raw number. -/
def numv (a : Int) : Int := if pick a 9 = 0 then 9223372036854775807 - pick (a.tdiv 9) 3 else if pick a 9 = 1 then -9223372036854775808 + pick (a.tdiv 9) 3 else pick (a.tdiv 9) 400 - 200
theorem tdiv9 (a : Int) (h : i64ok a) : IntKind.i64.wrap (a.tdiv 9) = a.tdiv 9 := by
  unfold i64ok at h
  have h1 : -9223372036854775808 ≤ a.tdiv 9 ∧ a.tdiv 9 ≤ 9223372036854775807 := by
    by_cases h0 : 0 ≤ a
    · rw [Int.tdiv_eq_ediv_of_nonneg h0]; omega
    · have := Int.neg_tdiv (-a) 9
      rw [Int.neg_neg] at this
      rw [this, Int.tdiv_eq_ediv_of_nonneg (by omega)]; omega
  rw [w_i64]; omega
theorem numv_ok (a : Int) : i64ok (numv a) := by
  unfold numv i64ok
  have h3 := pick_range (n := a.tdiv 9) (m := 3) (by decide)
  have h4 := pick_range (n := a.tdiv 9) (m := 400) (by decide)
  split
  · omega
  · split <;> omega
theorem s_number (a : Int) (h : i64ok a) : ev 27 [.v (.int .i64 a)] = some [.v (.int .i64 (numv a))] := by
  have h3 := pick_range (n := a.tdiv 9) (m := 3) (by decide)
  have h4 := pick_range (n := a.tdiv 9) (m := 400) (by decide)
  rw [ev27, s_Pick _ _ (by decide) (by decide), tdiv9 a h]
  simp -implicitDefEqProofs only [some_bind', obCells_agg, obCells_ob, isOb_ok, isL_ok, isOw_ok, avXs_lst, avXs_ow, avNil_lst, avNil_ow, avNil_sl, avOff_sl, avCut_sl, isAgg_agg, nat_beq_self, List.length_cons, List.length_nil, Nat.reduceAdd, Nat.zero_add, isI_v, isB_v, isS_v, avInt_v, avBool_v, avStr_v, cellAt_zero, cellAt_succ, lget_zero, lget_succ, frAt_zero, frAt_succ, blAt_zero, blAt_succ, isEx_ok, isEx_ne, isEx_none, isRt_some, isRt_none, like_st, likeFG_nil, likeFG_cons, likeBG_nil, likeBG_obj, likeBG_row, likeSG_nil, likeSG_cons, likeT_nil, likeS_nil, isNP_nil, isNP_ob, likeT_ep, isEp_ep, epCells_ep, likeT_agg, likeT_int, likeT_bool, likeT_str, likeT_lst, likeT_sl0, likeT_sl1, likeT_ptr, likeS_int, likeS_bool, likeS_str, likeS_lst, likeS_sl0, likeS_sl1, likeS_ptr, isPtr_ok, isSl_0, isSl_1, beq_self_b, Bool.and_self, Bool.and_true, Bool.true_and, Bool.and_false, Bool.false_and, cond_true, cond_false, Bool.not_true, Bool.not_false]
  unfold numv
  by_cases h0 : pick a 9 = 0
  · rw [h0, if_pos rfl, s_Pick _ _ (by decide) (by decide)]
    simp -implicitDefEqProofs only [some_bind', obCells_agg, obCells_ob, isOb_ok, isL_ok, isOw_ok, avXs_lst, avXs_ow, avNil_lst, avNil_ow, avNil_sl, avOff_sl, avCut_sl, isAgg_agg, nat_beq_self, List.length_cons, List.length_nil, Nat.reduceAdd, Nat.zero_add, isI_v, isB_v, isS_v, avInt_v, avBool_v, avStr_v, cellAt_zero, cellAt_succ, lget_zero, lget_succ, frAt_zero, frAt_succ, blAt_zero, blAt_succ, isEx_ok, isEx_ne, isEx_none, isRt_some, isRt_none, like_st, likeFG_nil, likeFG_cons, likeBG_nil, likeBG_obj, likeBG_row, likeSG_nil, likeSG_cons, likeT_nil, likeS_nil, isNP_nil, isNP_ob, likeT_ep, isEp_ep, epCells_ep, likeT_agg, likeT_int, likeT_bool, likeT_str, likeT_lst, likeT_sl0, likeT_sl1, likeT_ptr, likeS_int, likeS_bool, likeS_str, likeS_lst, likeS_sl0, likeS_sl1, likeS_ptr, isPtr_ok, isSl_0, isSl_1, beq_self_b, Bool.and_self, Bool.and_true, Bool.true_and, Bool.and_false, Bool.false_and, cond_true, cond_false, Bool.not_true, Bool.not_false, beq_self_i]
    rw [show IntKind.i64.wrap (9223372036854775807 - pick (a.tdiv 9) 3) = 9223372036854775807 - pick (a.tdiv 9) 3 by rw [w_i64]; omega]
  · rw [eqB_f h0, if_neg h0]
    by_cases h1 : pick a 9 = 1
    · rw [h1, if_pos rfl, s_Pick _ 3 (by decide) (by decide)]
      simp -implicitDefEqProofs only [some_bind', obCells_agg, obCells_ob, isOb_ok, isL_ok, isOw_ok, avXs_lst, avXs_ow, avNil_lst, avNil_ow, avNil_sl, avOff_sl, avCut_sl, isAgg_agg, nat_beq_self, List.length_cons, List.length_nil, Nat.reduceAdd, Nat.zero_add, isI_v, isB_v, isS_v, avInt_v, avBool_v, avStr_v, cellAt_zero, cellAt_succ, lget_zero, lget_succ, frAt_zero, frAt_succ, blAt_zero, blAt_succ, isEx_ok, isEx_ne, isEx_none, isRt_some, isRt_none, like_st, likeFG_nil, likeFG_cons, likeBG_nil, likeBG_obj, likeBG_row, likeSG_nil, likeSG_cons, likeT_nil, likeS_nil, isNP_nil, isNP_ob, likeT_ep, isEp_ep, epCells_ep, likeT_agg, likeT_int, likeT_bool, likeT_str, likeT_lst, likeT_sl0, likeT_sl1, likeT_ptr, likeS_int, likeS_bool, likeS_str, likeS_lst, likeS_sl0, likeS_sl1, likeS_ptr, isPtr_ok, isSl_0, isSl_1, beq_self_b, Bool.and_self, Bool.and_true, Bool.true_and, Bool.and_false, Bool.false_and, cond_true, cond_false, Bool.not_true, Bool.not_false, beq_self_i]
      rw [show IntKind.i64.wrap (-9223372036854775808 + pick (a.tdiv 9) 3) = -9223372036854775808 + pick (a.tdiv 9) 3 by rw [w_i64]; omega]
    · rw [eqB_f h1, if_neg h1, s_Pick _ 400 (by decide) (by decide)]
      simp -implicitDefEqProofs only [some_bind', obCells_agg, obCells_ob, isOb_ok, isL_ok, isOw_ok, avXs_lst, avXs_ow, avNil_lst, avNil_ow, avNil_sl, avOff_sl, avCut_sl, isAgg_agg, nat_beq_self, List.length_cons, List.length_nil, Nat.reduceAdd, Nat.zero_add, isI_v, isB_v, isS_v, avInt_v, avBool_v, avStr_v, cellAt_zero, cellAt_succ, lget_zero, lget_succ, frAt_zero, frAt_succ, blAt_zero, blAt_succ, isEx_ok, isEx_ne, isEx_none, isRt_some, isRt_none, like_st, likeFG_nil, likeFG_cons, likeBG_nil, likeBG_obj, likeBG_row, likeSG_nil, likeSG_cons, likeT_nil, likeS_nil, isNP_nil, isNP_ob, likeT_ep, isEp_ep, epCells_ep, likeT_agg, likeT_int, likeT_bool, likeT_str, likeT_lst, likeT_sl0, likeT_sl1, likeT_ptr, likeS_int, likeS_bool, likeS_str, likeS_lst, likeS_sl0, likeS_sl1, likeS_ptr, isPtr_ok, isSl_0, isSl_1, beq_self_b, Bool.and_self, Bool.and_true, Bool.true_and, Bool.and_false, Bool.false_and, cond_true, cond_false, Bool.not_true, Bool.not_false]
      rw [show IntKind.i64.wrap (pick (a.tdiv 9) 400 - 200) = pick (a.tdiv 9) 400 - 200 by rw [w_i64]; omega]
theorem opp (c v a b d : Int) (h : 0 ≤ c ∧ c < 3) (op op' : Int) (hop : (op = 1 ∧ op' = 2) ∨ (op = 2 ∧ op' = 1) ∨ (op = 3 ∧ op' = 6) ∨ (op = 4 ∧ op' = 5) ∨ (op = 5 ∧ op' = 4) ∨ (op = 6 ∧ op' = 3)) : (holdB c op v a b d == holdB c op' v a b d) = false := by
  unfold holdB
  rw [if_neg (by omega), if_pos (by omega), if_neg (by omega), if_pos (by omega)]
  generalize colv c a b d = x
  rcases hop with ⟨rfl, rfl⟩ | ⟨rfl, rfl⟩ | ⟨rfl, rfl⟩ | ⟨rfl, rfl⟩ | ⟨rfl, rfl⟩ | ⟨rfl, rfl⟩
  · show ((x == v) == !(x == v)) = false
    cases x == v <;> rfl
  · show ((!(x == v)) == (x == v)) = false
    cases x == v <;> rfl
  · show (ltI x v == leI v x) = false
    by_cases h : x < v
    · rw [ltI_t h, leI_f h]; rfl
    · rw [ltI_f (by omega), leI_t (by omega)]; rfl
  · show (leI x v == ltI v x) = false
    by_cases h : x ≤ v
    · rw [leI_t h, ltI_f h]; rfl
    · rw [leI_f (by omega), ltI_t (by omega)]; rfl
  · show (ltI v x == leI x v) = false
    by_cases h : x ≤ v
    · rw [leI_t h, ltI_f h]; rfl
    · rw [leI_f (by omega), ltI_t (by omega)]; rfl
  · show (leI v x == ltI x v) = false
    by_cases h : x < v
    · rw [ltI_t h, leI_f h]; rfl
    · rw [ltI_f (by omega), leI_t (by omega)]; rfl
theorem bb (b : Bool) : (!(b == b)) = false := by cases b <;> rfl
theorem cond_all {N : Nat} (l : List AV) (h : TypA Try.prog N Try.f8.params.toList l) : ∃ n, evF Try.prog cfg n 8 l = some [.v (.bool true)] := by
  rw [show Try.f8.params.toList = [47, 66, 52] by kernel_rfl] at h
  obtain ⟨a0, r, rfl, t0, h⟩ := h
  obtain ⟨a1, r, rfl, t1, h⟩ := h
  obtain ⟨a2, r, rfl, t2, h⟩ := h
  obtain rfl : r = [] := h
  obtain ⟨c0, c1, c2, rfl, _⟩ := openV47 t0
  obtain ⟨k0, r0, r1, r2, rfl, _⟩ := openV66 t1
  obtain ⟨x0, x1, x2, x3, x4, x5, x6, x7, x8, x9, rfl, _, _, _, f3, f4, f5, _⟩ := openV52 t2
  clear t0 t1 t2
  refine evF_of_evL ?_
  refine (ev8 _ _ _ _ _ _ _ _ _ _ _ _ _ _ _ _ _).trans ?_
  have p6 := pick_range (n := x6) (m := 5) (by decide)
  have p7 := pick_range (n := x7) (m := 9) (by decide)
  have q3 := pick_range (n := x6) (m := 3) (by decide)
  simp -implicitDefEqProofs only [some_bind', obCells_agg, obCells_ob, isOb_ok, isL_ok, isOw_ok, avXs_lst, avXs_ow, avNil_lst, avNil_ow, avNil_sl, avOff_sl, avCut_sl, isAgg_agg, nat_beq_self, List.length_cons, List.length_nil, Nat.reduceAdd, Nat.zero_add, isI_v, isB_v, isS_v, avInt_v, avBool_v, avStr_v, cellAt_zero, cellAt_succ, lget_zero, lget_succ, frAt_zero, frAt_succ, blAt_zero, blAt_succ, isEx_ok, isEx_ne, isEx_none, isRt_some, isRt_none, like_st, likeFG_nil, likeFG_cons, likeBG_nil, likeBG_obj, likeBG_row, likeSG_nil, likeSG_cons, likeT_nil, likeS_nil, isNP_nil, isNP_ob, likeT_ep, isEp_ep, epCells_ep, likeT_agg, likeT_int, likeT_bool, likeT_str, likeT_lst, likeT_sl0, likeT_sl1, likeT_ptr, likeS_int, likeS_bool, likeS_str, likeS_lst, likeS_sl0, likeS_sl1, likeS_ptr, isPtr_ok, isSl_0, isSl_1, beq_self_b, Bool.and_self, Bool.and_true, Bool.true_and, Bool.and_false, Bool.false_and, cond_true, cond_false, Bool.not_true, Bool.not_false, s_Pick _ 5 (by decide) (by decide), s_Pick _ 9 (by decide) (by decide), s_number x3 f3, s_number x4 f4, s_number x5 f5]
  generalize IntKind.i64.wrap (pick x6 5 - 1) = dc
  generalize IntKind.i64.wrap (pick x7 9 - 1) = dop
  generalize numv x3 = y0
  generalize numv x4 = y1
  generalize numv x5 = y2
  have rd : ∀ (i : Int) (k a b d : Int), i < 2 → lp 8 0 0 ⟨[(3, (.ptr 0 0 0)), (4, (.ptr 1 0 0)), (5, (.ptr 2 0 0)), (7, (.ptr 3 0 0)), (8, (.ptr 4 0 0)), (9, (.v (.int .i64 i)))], [⟨1, 47, 3, true, [[(.v (.int .i64 c0)), (.v (.int .i64 c1)), (.v (.int .i64 c2))]]⟩, ⟨1, 66, 4, true, [[(.v (.int .u32 k)), (.v (.int .i64 a)), (.v (.int .i64 b)), (.v (.int .i64 d))]]⟩, ⟨1, 52, 10, true, [[(.v (.int .i64 x0)), (.v (.int .i64 x1)), (.v (.int .i64 x2)), (.v (.int .i64 x3)), (.v (.int .i64 x4)), (.v (.int .i64 x5)), (.v (.int .i64 x6)), (.v (.int .i64 x7)), (.v (.int .i64 x8)), (.v (.int .i64 x9))]]⟩, ⟨1, 47, 3, true, [[(.v (.int .i64 dc)), (.v (.int .i64 dop)), (.v (.int .i64 y0))]]⟩, ⟨1, 66, 4, true, [[(.v (.int .u32 k0)), (.v (.int .i64 y0)), (.v (.int .i64 y1)), (.v (.int .i64 y2))]]⟩]⟩ =
      lp 8 0 0 ⟨[(3, (.ptr 0 0 0)), (4, (.ptr 1 0 0)), (5, (.ptr 2 0 0)), (7, (.ptr 3 0 0)), (8, (.ptr 4 0 0)), (9, (.v (.int .i64 (IntKind.i64.wrap (i + 1)))))], [⟨1, 47, 3, true, [[(.v (.int .i64 c0)), (.v (.int .i64 c1)), (.v (.int .i64 c2))]]⟩, ⟨1, 66, 4, true, [[(.v (.int .u32 k0)), (.v (.int .i64 y0)), (.v (.int .i64 y1)), (.v (.int .i64 y2))]]⟩, ⟨1, 52, 10, true, [[(.v (.int .i64 x0)), (.v (.int .i64 x1)), (.v (.int .i64 x2)), (.v (.int .i64 x3)), (.v (.int .i64 x4)), (.v (.int .i64 x5)), (.v (.int .i64 x6)), (.v (.int .i64 x7)), (.v (.int .i64 x8)), (.v (.int .i64 x9))]]⟩, ⟨1, 47, 3, true, [[(.v (.int .i64 dc)), (.v (.int .i64 dop)), (.v (.int .i64 y0))]]⟩, ⟨1, 66, 4, true, [[(.v (.int .u32 k0)), (.v (.int .i64 y0)), (.v (.int .i64 y1)), (.v (.int .i64 y2))]]⟩]⟩ := fun i k a b d hi => by
    rw [lp8_0, ltI_t hi]
    simp -implicitDefEqProofs only [some_bind', obCells_agg, obCells_ob, isOb_ok, isL_ok, isOw_ok, avXs_lst, avXs_ow, avNil_lst, avNil_ow, avNil_sl, avOff_sl, avCut_sl, isAgg_agg, nat_beq_self, List.length_cons, List.length_nil, Nat.reduceAdd, Nat.zero_add, isI_v, isB_v, isS_v, avInt_v, avBool_v, avStr_v, cellAt_zero, cellAt_succ, lget_zero, lget_succ, frAt_zero, frAt_succ, blAt_zero, blAt_succ, isEx_ok, isEx_ne, isEx_none, isRt_some, isRt_none, like_st, likeFG_nil, likeFG_cons, likeBG_nil, likeBG_obj, likeBG_row, likeSG_nil, likeSG_cons, likeT_nil, likeS_nil, isNP_nil, isNP_ob, likeT_ep, isEp_ep, epCells_ep, likeT_agg, likeT_int, likeT_bool, likeT_str, likeT_lst, likeT_sl0, likeT_sl1, likeT_ptr, likeS_int, likeS_bool, likeS_str, likeS_lst, likeS_sl0, likeS_sl1, likeS_ptr, isPtr_ok, isSl_0, isSl_1, beq_self_b, Bool.and_self, Bool.and_true, Bool.true_and, Bool.and_false, Bool.false_and, cond_true, cond_false, Bool.not_true, Bool.not_false, s_Holds, s_RHolds, s_awake, bb]
  rw [rd 0 k0 r0 r1 r2 (by decide), show IntKind.i64.wrap (0 + 1) = 1 by decide, rd 1 k0 y0 y1 y2 (by decide), show IntKind.i64.wrap (1 + 1) = 2 by decide, lp8_0, ltI_f (by decide)]
  simp -implicitDefEqProofs only [some_bind', obCells_agg, obCells_ob, isOb_ok, isL_ok, isOw_ok, avXs_lst, avXs_ow, avNil_lst, avNil_ow, avNil_sl, avOff_sl, avCut_sl, isAgg_agg, nat_beq_self, List.length_cons, List.length_nil, Nat.reduceAdd, Nat.zero_add, isI_v, isB_v, isS_v, avInt_v, avBool_v, avStr_v, cellAt_zero, cellAt_succ, lget_zero, lget_succ, frAt_zero, frAt_succ, blAt_zero, blAt_succ, isEx_ok, isEx_ne, isEx_none, isRt_some, isRt_none, like_st, likeFG_nil, likeFG_cons, likeBG_nil, likeBG_obj, likeBG_row, likeSG_nil, likeSG_cons, likeT_nil, likeS_nil, isNP_nil, isNP_ob, likeT_ep, isEp_ep, epCells_ep, likeT_agg, likeT_int, likeT_bool, likeT_str, likeT_lst, likeT_sl0, likeT_sl1, likeT_ptr, likeS_int, likeS_bool, likeS_str, likeS_lst, likeS_sl0, likeS_sl1, likeS_ptr, isPtr_ok, isSl_0, isSl_1, beq_self_b, Bool.and_self, Bool.and_true, Bool.true_and, Bool.and_false, Bool.false_and, cond_true, cond_false, Bool.not_true, Bool.not_false]
  have ro : ∀ (o : Int) (op : Int), 1 ≤ op → op < 7 → lp 8 1 0 ⟨[(7, (.ptr 0 0 0)), (8, (.ptr 1 0 0)), (13, (.ptr 2 0 0)), (14, (.v (.int .i64 op)))], [⟨1, 47, 3, true, [[(.v (.int .i64 (pick x6 3))), (.v (.int .i64 o)), (.v (.int .i64 y0))]]⟩, ⟨1, 66, 4, true, [[(.v (.int .u32 k0)), (.v (.int .i64 y0)), (.v (.int .i64 y1)), (.v (.int .i64 y2))]]⟩, ⟨1, 71, 7, true, [[(.v (.int .i64 0)), (.v (.int .i64 2)), (.v (.int .i64 1)), (.v (.int .i64 6)), (.v (.int .i64 5)), (.v (.int .i64 4)), (.v (.int .i64 3))]]⟩]⟩ =
      lp 8 1 0 ⟨[(7, (.ptr 0 0 0)), (8, (.ptr 1 0 0)), (13, (.ptr 2 0 0)), (14, (.v (.int .i64 (IntKind.i64.wrap (op + 1)))))], [⟨1, 47, 3, true, [[(.v (.int .i64 (pick x6 3))), (.v (.int .i64 op)), (.v (.int .i64 y0))]]⟩, ⟨1, 66, 4, true, [[(.v (.int .u32 k0)), (.v (.int .i64 y0)), (.v (.int .i64 y1)), (.v (.int .i64 y2))]]⟩, ⟨1, 71, 7, true, [[(.v (.int .i64 0)), (.v (.int .i64 2)), (.v (.int .i64 1)), (.v (.int .i64 6)), (.v (.int .i64 5)), (.v (.int .i64 4)), (.v (.int .i64 3))]]⟩]⟩ := fun o op h1 h7 => by
    have : op = 1 ∨ op = 2 ∨ op = 3 ∨ op = 4 ∨ op = 5 ∨ op = 6 := by omega
    rcases this with rfl | rfl | rfl | rfl | rfl | rfl <;>
    · rw [lp8_1, ltI_t (by decide), leI_t (by decide)]
      simp -implicitDefEqProofs only [some_bind', obCells_agg, obCells_ob, isOb_ok, isL_ok, isOw_ok, avXs_lst, avXs_ow, avNil_lst, avNil_ow, avNil_sl, avOff_sl, avCut_sl, isAgg_agg, nat_beq_self, List.length_cons, List.length_nil, Nat.reduceAdd, Nat.zero_add, isI_v, isB_v, isS_v, avInt_v, avBool_v, avStr_v, cellAt_zero, cellAt_succ, lget_zero, lget_succ, frAt_zero, frAt_succ, blAt_zero, blAt_succ, isEx_ok, isEx_ne, isEx_none, isRt_some, isRt_none, like_st, likeFG_nil, likeFG_cons, likeBG_nil, likeBG_obj, likeBG_row, likeSG_nil, likeSG_cons, likeT_nil, likeS_nil, isNP_nil, isNP_ob, likeT_ep, isEp_ep, epCells_ep, likeT_agg, likeT_int, likeT_bool, likeT_str, likeT_lst, likeT_sl0, likeT_sl1, likeT_ptr, likeS_int, likeS_bool, likeS_str, likeS_lst, likeS_sl0, likeS_sl1, likeS_ptr, isPtr_ok, isSl_0, isSl_1, beq_self_b, Bool.and_self, Bool.and_true, Bool.true_and, Bool.and_false, Bool.false_and, cond_true, cond_false, Bool.not_true, Bool.not_false, s_Holds]
      rw [opp _ _ _ _ _ q3 _ _ (by decide)]
      rfl
  simp only [s_Pick _ 3 (by decide) (by decide), some_bind', obCells_agg, obCells_ob, isOb_ok, isL_ok, isOw_ok, avXs_lst, avXs_ow, avNil_lst, avNil_ow, avNil_sl, avOff_sl, avCut_sl, isAgg_agg, nat_beq_self, List.length_cons, List.length_nil, Nat.reduceAdd, Nat.zero_add, isI_v, isB_v, isS_v, avInt_v, avBool_v, avStr_v, cellAt_zero, cellAt_succ, lget_zero, lget_succ, frAt_zero, frAt_succ, blAt_zero, blAt_succ, isEx_ok, isEx_ne, isEx_none, isRt_some, isRt_none, like_st, likeFG_nil, likeFG_cons, likeBG_nil, likeBG_obj, likeBG_row, likeSG_nil, likeSG_cons, likeT_nil, likeS_nil, isNP_nil, isNP_ob, likeT_ep, isEp_ep, epCells_ep, likeT_agg, likeT_int, likeT_bool, likeT_str, likeT_lst, likeT_sl0, likeT_sl1, likeT_ptr, likeS_int, likeS_bool, likeS_str, likeS_lst, likeS_sl0, likeS_sl1, likeS_ptr, isPtr_ok, isSl_0, isSl_1, beq_self_b, Bool.and_self, Bool.and_true, Bool.true_and, Bool.and_false, Bool.false_and, cond_true, cond_false, Bool.not_true, Bool.not_false]
  rw [ro _ 1 (by decide) (by decide), show IntKind.i64.wrap (1 + 1) = 2 by decide, ro _ 2 (by decide) (by decide), show IntKind.i64.wrap (2 + 1) = 3 by decide, ro _ 3 (by decide) (by decide), show IntKind.i64.wrap (3 + 1) = 4 by decide, ro _ 4 (by decide) (by decide), show IntKind.i64.wrap (4 + 1) = 5 by decide, ro _ 5 (by decide) (by decide), show IntKind.i64.wrap (5 + 1) = 6 by decide, ro _ 6 (by decide) (by decide), show IntKind.i64.wrap (6 + 1) = 7 by decide, lp8_1, ltI_f (by decide)]
  rfl
end Go.Proofs.Ytcinngpelbdopaa
