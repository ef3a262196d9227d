/- QueryConditions. -/
import Derived.Test.YtcinngpelbdopaaHold
import Derived.Test.YtcinngpelbdopaaEq4
import Derived.Test.YtcinngpelbdopaaTy
set_option linter.all false
namespace Go.Proofs.Ytcinngpelbdopaa
open Go.Ev
attribute [local congr] bind_first cond_first
def i64ok (a : Int) : Prop := -9223372036854775808 ≤ a ∧ a ≤ 9223372036854775807
/-- What number makes of a raw number. -/
def numv (a : Int) : Int := if pick a 9 = 0 then 9223372036854775807 - pick (a.tdiv 9) 3 else if pick a 9 = 1 then -9223372036854775808 + pick (a.tdiv 9) 3 else pick (a.tdiv 9) 400 - 200
theorem tdiv9 (a : Int) (h : i64ok a) : IntKind.i64.wrap (a.tdiv 9) = a.tdiv 9 := by
  unfold i64ok at h
  have h1 : -9223372036854775808 ≤ a.tdiv 9 ∧ a.tdiv 9 ≤ 9223372036854775807 := by
    by_cases h0 : 0 ≤ a
    · rw [Int.tdiv_eq_ediv_of_nonneg h0]; omega
    · have := Int.neg_tdiv (-a) 9
      rw [Int.neg_neg] at this
      rw [this, Int.tdiv_eq_ediv_of_nonneg (by omega)]; omega
  rw [w_i64]; omega
theorem numv_ok (a : Int) : i64ok (numv a) := by
  unfold numv i64ok
  have h3 := pick_range (n := a.tdiv 9) (m := 3) (by decide)
  have h4 := pick_range (n := a.tdiv 9) (m := 400) (by decide)
  split
  · omega
  · split <;> omega
theorem s_number (a : Int) (h : i64ok a) : ev 27 [.v (.int .i64 a)] = some [.v (.int .i64 (numv a))] := by
  have h3 := pick_range (n := a.tdiv 9) (m := 3) (by decide)
  have h4 := pick_range (n := a.tdiv 9) (m := 400) (by decide)
  rw [ev27, s_Pick _ _ (by decide) (by decide), tdiv9 a h]
  simp -implicitDefEqProofs only [some_bind', obCells_agg, obCells_ob, isOb_ok, isL_ok, isOw_ok, avXs_lst, avXs_ow, avNil_lst, avNil_ow, avNil_sl, avOff_sl, avCut_sl, isAgg_agg, nat_beq_self, List.length_cons, List.length_nil, Nat.reduceAdd, Nat.zero_add, isI_v, isB_v, isS_v, avInt_v, avBool_v, avStr_v, cellAt_zero, cellAt_succ, lget_zero, lget_succ, frAt_zero, frAt_succ, blAt_zero, blAt_succ, isEx_ok, isEx_ne, isEx_none, isRt_some, isRt_none, like_st, likeFG_nil, likeFG_cons, likeBG_nil, likeBG_obj, likeBG_row, likeSG_nil, likeSG_cons, likeT_nil, likeS_nil, isNP_nil, isNP_ob, likeT_ep, isEp_ep, epCells_ep, likeT_agg, likeT_int, likeT_bool, likeT_str, likeT_lst, likeT_sl0, likeT_sl1, likeT_ptr, likeS_int, likeS_bool, likeS_str, likeS_lst, likeS_sl0, likeS_sl1, likeS_ptr, isPtr_ok, isSl_0, isSl_1, beq_self_b, Bool.and_self, Bool.and_true, Bool.true_and, Bool.and_false, Bool.false_and, cond_true, cond_false, Bool.not_true, Bool.not_false]
  unfold numv
  by_cases h0 : pick a 9 = 0
  · rw [h0, if_pos rfl, s_Pick _ _ (by decide) (by decide)]
    simp -implicitDefEqProofs only [some_bind', obCells_agg, obCells_ob, isOb_ok, isL_ok, isOw_ok, avXs_lst, avXs_ow, avNil_lst, avNil_ow, avNil_sl, avOff_sl, avCut_sl, isAgg_agg, nat_beq_self, List.length_cons, List.length_nil, Nat.reduceAdd, Nat.zero_add, isI_v, isB_v, isS_v, avInt_v, avBool_v, avStr_v, cellAt_zero, cellAt_succ, lget_zero, lget_succ, frAt_zero, frAt_succ, blAt_zero, blAt_succ, isEx_ok, isEx_ne, isEx_none, isRt_some, isRt_none, like_st, likeFG_nil, likeFG_cons, likeBG_nil, likeBG_obj, likeBG_row, likeSG_nil, likeSG_cons, likeT_nil, likeS_nil, isNP_nil, isNP_ob, likeT_ep, isEp_ep, epCells_ep, likeT_agg, likeT_int, likeT_bool, likeT_str, likeT_lst, likeT_sl0, likeT_sl1, likeT_ptr, likeS_int, likeS_bool, likeS_str, likeS_lst, likeS_sl0, likeS_sl1, likeS_ptr, isPtr_ok, isSl_0, isSl_1, beq_self_b, Bool.and_self, Bool.and_true, Bool.true_and, Bool.and_false, Bool.false_and, cond_true, cond_false, Bool.not_true, Bool.not_false, beq_self_i]
    rw [show IntKind.i64.wrap (9223372036854775807 - pick (a.tdiv 9) 3) = 9223372036854775807 - pick (a.tdiv 9) 3 by rw [w_i64]; omega]
  · rw [eqB_f h0, if_neg h0]
    by_cases h1 : pick a 9 = 1
    · rw [h1, if_pos rfl, s_Pick _ 3 (by decide) (by decide)]
      simp -implicitDefEqProofs only [some_bind', obCells_agg, obCells_ob, isOb_ok, isL_ok, isOw_ok, avXs_lst, avXs_ow, avNil_lst, avNil_ow, avNil_sl, avOff_sl, avCut_sl, isAgg_agg, nat_beq_self, List.length_cons, List.length_nil, Nat.reduceAdd, Nat.zero_add, isI_v, isB_v, isS_v, avInt_v, avBool_v, avStr_v, cellAt_zero, cellAt_succ, lget_zero, lget_succ, frAt_zero, frAt_succ, blAt_zero, blAt_succ, isEx_ok, isEx_ne, isEx_none, isRt_some, isRt_none, like_st, likeFG_nil, likeFG_cons, likeBG_nil, likeBG_obj, likeBG_row, likeSG_nil, likeSG_cons, likeT_nil, likeS_nil, isNP_nil, isNP_ob, likeT_ep, isEp_ep, epCells_ep, likeT_agg, likeT_int, likeT_bool, likeT_str, likeT_lst, likeT_sl0, likeT_sl1, likeT_ptr, likeS_int, likeS_bool, likeS_str, likeS_lst, likeS_sl0, likeS_sl1, likeS_ptr, isPtr_ok, isSl_0, isSl_1, beq_self_b, Bool.and_self, Bool.and_true, Bool.true_and, Bool.and_false, Bool.false_and, cond_true, cond_false, Bool.not_true, Bool.not_false, beq_self_i]
      rw [show IntKind.i64.wrap (-9223372036854775808 + pick (a.tdiv 9) 3) = -9223372036854775808 + pick (a.tdiv 9) 3 by rw [w_i64]; omega]
    · rw [eqB_f h1, if_neg h1, s_Pick _ 400 (by decide) (by decide)]
      simp -implicitDefEqProofs only [some_bind', obCells_agg, obCells_ob, isOb_ok, isL_ok, isOw_ok, avXs_lst, avXs_ow, avNil_lst, avNil_ow, avNil_sl, avOff_sl, avCut_sl, isAgg_agg, nat_beq_self, List.length_cons, List.length_nil, Nat.reduceAdd, Nat.zero_add, isI_v, isB_v, isS_v, avInt_v, avBool_v, avStr_v, cellAt_zero, cellAt_succ, lget_zero, lget_succ, frAt_zero, frAt_succ, blAt_zero, blAt_succ, isEx_ok, isEx_ne, isEx_none, isRt_some, isRt_none, like_st, likeFG_nil, likeFG_cons, likeBG_nil, likeBG_obj, likeBG_row, likeSG_nil, likeSG_cons, likeT_nil, likeS_nil, isNP_nil, isNP_ob, likeT_ep, isEp_ep, epCells_ep, likeT_agg, likeT_int, likeT_bool, likeT_str, likeT_lst, likeT_sl0, likeT_sl1, likeT_ptr, likeS_int, likeS_bool, likeS_str, likeS_lst, likeS_sl0, likeS_sl1, likeS_ptr, isPtr_ok, isSl_0, isSl_1, beq_self_b, Bool.and_self, Bool.and_true, Bool.true_and, Bool.and_false, Bool.false_and, cond_true, cond_false, Bool.not_true, Bool.not_false]
      rw [show IntKind.i64.wrap (pick (a.tdiv 9) 400 - 200) = pick (a.tdiv 9) 400 - 200 by rw [w_i64]; omega]
end Go.Proofs.Ytcinngpelbdopaa
