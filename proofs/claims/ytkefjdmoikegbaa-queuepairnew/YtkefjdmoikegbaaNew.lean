/- QueuepairNew. -/
import Derived.Test.YtkefjdmoikegbaaTy
import Derived.Test.YtkefjdmoikegbaaEv10
set_option linter.all false
namespace Go.Proofs.Ytkefjdmoikegbaa
open Go.Ev
attribute [local congr] bind_first cond_first
theorem mix : Try.prog.follows .mixedOrders = true := by kernel_rfl
theorem extOk : ExtS Try.prog cfg := by
  refine ⟨fun f bs rs e => ?_, fun f g e => by cases e⟩
  by_cases h : f = 38
  · subst h
    exact pieceS bs rs e
  · have hf : cfg.ext f = none := by
      show extF f = none
      unfold extF
      split
      · exact absurd rfl h
      · rfl
    simp only [evTop, hf] at e
    cases e
theorem s_Pick (a m : Int) (hm : 0 < m) (hm' : m ≤ 4611686018427387904) : ev 10 [.v (.int .i64 a), .v (.int .i64 m)] = some [.v (.int .i64 (pick a m))] := by
  rw [ev10]
  simp only [ltI_f (show 1 ≤ m by omega), eqI_f (show m ≠ 0 by omega), cond_false, pick_ok hm hm']
theorem s_awake : ev 9 [] = some [.v (.bool true)] := evL_of (n := 30) (by kernel_rfl)
theorem new_law (a b c : Int) (d : Bool) : ev 4 [.v (.int .i64 a), .v (.int .i64 b), .v (.int .i64 c), .v (.bool d)] = some [.v (.bool true)] := by
  rw [ev4]
  cases d
  all_goals
    try rw [s_Pick a 9 (by decide) (by decide)]
    try rw [s_Pick b 210 (by decide) (by decide)]
    try rw [s_Pick c 8 (by decide) (by decide)]
    simp only [Option.bind_some, cellAt_zero, isI_v, avInt_v, cond_true, cond_false]
  case false =>
    rw [ev16]
    by_cases h1 : a < 0
    · rw [ltI_t h1]; simp -implicitDefEqProofs only [some_bind', obCells_agg, obCells_ob, isOb_ok, isL_ok, isOw_ok, avXs_lst, avXs_ow, avNil_lst, avNil_ow, avNil_sl, avOff_sl, avCut_sl, isAgg_agg, nat_beq_self, List.length_cons, List.length_nil, Nat.reduceAdd, Nat.zero_add, isI_v, isB_v, isS_v, avInt_v, avBool_v, avStr_v, cellAt_zero, cellAt_succ, lget_zero, lget_succ, frAt_zero, frAt_succ, blAt_zero, blAt_succ, isEx_ok, isEx_ne, isEx_none, isRt_some, isRt_none, like_st, likeFG_nil, likeFG_cons, likeBG_nil, likeBG_obj, likeBG_row, likeSG_nil, likeSG_cons, likeT_nil, likeS_nil, isNP_nil, isNP_ob, likeT_ep, isEp_ep, epCells_ep, likeT_agg, likeT_int, likeT_bool, likeT_str, likeT_lst, likeT_sl0, likeT_sl1, likeT_ptr, likeS_int, likeS_bool, likeS_str, likeS_lst, likeS_sl0, likeS_sl1, likeS_ptr, isPtr_ok, isSl_0, isSl_1, beq_self_b, Bool.and_self, Bool.and_true, Bool.true_and, Bool.and_false, Bool.false_and, cond_true, cond_false, Bool.not_true, Bool.not_false, s_awake]; rfl
    rw [ltI_f (show 0 ≤ a by omega)]
    by_cases h2 : 6 ≤ a
    · rw [leI_t h2]; simp -implicitDefEqProofs only [some_bind', obCells_agg, obCells_ob, isOb_ok, isL_ok, isOw_ok, avXs_lst, avXs_ow, avNil_lst, avNil_ow, avNil_sl, avOff_sl, avCut_sl, isAgg_agg, nat_beq_self, List.length_cons, List.length_nil, Nat.reduceAdd, Nat.zero_add, isI_v, isB_v, isS_v, avInt_v, avBool_v, avStr_v, cellAt_zero, cellAt_succ, lget_zero, lget_succ, frAt_zero, frAt_succ, blAt_zero, blAt_succ, isEx_ok, isEx_ne, isEx_none, isRt_some, isRt_none, like_st, likeFG_nil, likeFG_cons, likeBG_nil, likeBG_obj, likeBG_row, likeSG_nil, likeSG_cons, likeT_nil, likeS_nil, isNP_nil, isNP_ob, likeT_ep, isEp_ep, epCells_ep, likeT_agg, likeT_int, likeT_bool, likeT_str, likeT_lst, likeT_sl0, likeT_sl1, likeT_ptr, likeS_int, likeS_bool, likeS_str, likeS_lst, likeS_sl0, likeS_sl1, likeS_ptr, isPtr_ok, isSl_0, isSl_1, beq_self_b, Bool.and_self, Bool.and_true, Bool.true_and, Bool.and_false, Bool.false_and, cond_true, cond_false, Bool.not_true, Bool.not_false, s_awake]; rfl
    rw [leI_f (show a < 6 by omega)]
    by_cases h3 : b < 0
    · rw [ltI_t h3]; simp -implicitDefEqProofs only [some_bind', obCells_agg, obCells_ob, isOb_ok, isL_ok, isOw_ok, avXs_lst, avXs_ow, avNil_lst, avNil_ow, avNil_sl, avOff_sl, avCut_sl, isAgg_agg, nat_beq_self, List.length_cons, List.length_nil, Nat.reduceAdd, Nat.zero_add, isI_v, isB_v, isS_v, avInt_v, avBool_v, avStr_v, cellAt_zero, cellAt_succ, lget_zero, lget_succ, frAt_zero, frAt_succ, blAt_zero, blAt_succ, isEx_ok, isEx_ne, isEx_none, isRt_some, isRt_none, like_st, likeFG_nil, likeFG_cons, likeBG_nil, likeBG_obj, likeBG_row, likeSG_nil, likeSG_cons, likeT_nil, likeS_nil, isNP_nil, isNP_ob, likeT_ep, isEp_ep, epCells_ep, likeT_agg, likeT_int, likeT_bool, likeT_str, likeT_lst, likeT_sl0, likeT_sl1, likeT_ptr, likeS_int, likeS_bool, likeS_str, likeS_lst, likeS_sl0, likeS_sl1, likeS_ptr, isPtr_ok, isSl_0, isSl_1, beq_self_b, Bool.and_self, Bool.and_true, Bool.true_and, Bool.and_false, Bool.false_and, cond_true, cond_false, Bool.not_true, Bool.not_false, s_awake]; rfl
    rw [ltI_f (show 0 ≤ b by omega)]
    by_cases h4 : 59 < b
    · rw [ltI_t h4]; simp -implicitDefEqProofs only [some_bind', obCells_agg, obCells_ob, isOb_ok, isL_ok, isOw_ok, avXs_lst, avXs_ow, avNil_lst, avNil_ow, avNil_sl, avOff_sl, avCut_sl, isAgg_agg, nat_beq_self, List.length_cons, List.length_nil, Nat.reduceAdd, Nat.zero_add, isI_v, isB_v, isS_v, avInt_v, avBool_v, avStr_v, cellAt_zero, cellAt_succ, lget_zero, lget_succ, frAt_zero, frAt_succ, blAt_zero, blAt_succ, isEx_ok, isEx_ne, isEx_none, isRt_some, isRt_none, like_st, likeFG_nil, likeFG_cons, likeBG_nil, likeBG_obj, likeBG_row, likeSG_nil, likeSG_cons, likeT_nil, likeS_nil, isNP_nil, isNP_ob, likeT_ep, isEp_ep, epCells_ep, likeT_agg, likeT_int, likeT_bool, likeT_str, likeT_lst, likeT_sl0, likeT_sl1, likeT_ptr, likeS_int, likeS_bool, likeS_str, likeS_lst, likeS_sl0, likeS_sl1, likeS_ptr, isPtr_ok, isSl_0, isSl_1, beq_self_b, Bool.and_self, Bool.and_true, Bool.true_and, Bool.and_false, Bool.false_and, cond_true, cond_false, Bool.not_true, Bool.not_false, s_awake]; rfl
    rw [ltI_f (show b ≤ 59 by omega)]
    by_cases h5 : c < 0
    · rw [ltI_t h5]; simp -implicitDefEqProofs only [some_bind', obCells_agg, obCells_ob, isOb_ok, isL_ok, isOw_ok, avXs_lst, avXs_ow, avNil_lst, avNil_ow, avNil_sl, avOff_sl, avCut_sl, isAgg_agg, nat_beq_self, List.length_cons, List.length_nil, Nat.reduceAdd, Nat.zero_add, isI_v, isB_v, isS_v, avInt_v, avBool_v, avStr_v, cellAt_zero, cellAt_succ, lget_zero, lget_succ, frAt_zero, frAt_succ, blAt_zero, blAt_succ, isEx_ok, isEx_ne, isEx_none, isRt_some, isRt_none, like_st, likeFG_nil, likeFG_cons, likeBG_nil, likeBG_obj, likeBG_row, likeSG_nil, likeSG_cons, likeT_nil, likeS_nil, isNP_nil, isNP_ob, likeT_ep, isEp_ep, epCells_ep, likeT_agg, likeT_int, likeT_bool, likeT_str, likeT_lst, likeT_sl0, likeT_sl1, likeT_ptr, likeS_int, likeS_bool, likeS_str, likeS_lst, likeS_sl0, likeS_sl1, likeS_ptr, isPtr_ok, isSl_0, isSl_1, beq_self_b, Bool.and_self, Bool.and_true, Bool.true_and, Bool.and_false, Bool.false_and, cond_true, cond_false, Bool.not_true, Bool.not_false, s_awake]; rfl
    rw [ltI_f (show 0 ≤ c by omega)]
    by_cases h6 : 5 ≤ c
    · rw [leI_t h6]; simp -implicitDefEqProofs only [some_bind', obCells_agg, obCells_ob, isOb_ok, isL_ok, isOw_ok, avXs_lst, avXs_ow, avNil_lst, avNil_ow, avNil_sl, avOff_sl, avCut_sl, isAgg_agg, nat_beq_self, List.length_cons, List.length_nil, Nat.reduceAdd, Nat.zero_add, isI_v, isB_v, isS_v, avInt_v, avBool_v, avStr_v, cellAt_zero, cellAt_succ, lget_zero, lget_succ, frAt_zero, frAt_succ, blAt_zero, blAt_succ, isEx_ok, isEx_ne, isEx_none, isRt_some, isRt_none, like_st, likeFG_nil, likeFG_cons, likeBG_nil, likeBG_obj, likeBG_row, likeSG_nil, likeSG_cons, likeT_nil, likeS_nil, isNP_nil, isNP_ob, likeT_ep, isEp_ep, epCells_ep, likeT_agg, likeT_int, likeT_bool, likeT_str, likeT_lst, likeT_sl0, likeT_sl1, likeT_ptr, likeS_int, likeS_bool, likeS_str, likeS_lst, likeS_sl0, likeS_sl1, likeS_ptr, isPtr_ok, isSl_0, isSl_1, beq_self_b, Bool.and_self, Bool.and_true, Bool.true_and, Bool.and_false, Bool.false_and, cond_true, cond_false, Bool.not_true, Bool.not_false, s_awake]; rfl
    rw [leI_f (show c < 5 by omega)]
    simp -implicitDefEqProofs only [some_bind', obCells_agg, obCells_ob, isOb_ok, isL_ok, isOw_ok, avXs_lst, avXs_ow, avNil_lst, avNil_ow, avNil_sl, avOff_sl, avCut_sl, isAgg_agg, nat_beq_self, List.length_cons, List.length_nil, Nat.reduceAdd, Nat.zero_add, isI_v, isB_v, isS_v, avInt_v, avBool_v, avStr_v, cellAt_zero, cellAt_succ, lget_zero, lget_succ, frAt_zero, frAt_succ, blAt_zero, blAt_succ, isEx_ok, isEx_ne, isEx_none, isRt_some, isRt_none, like_st, likeFG_nil, likeFG_cons, likeBG_nil, likeBG_obj, likeBG_row, likeSG_nil, likeSG_cons, likeT_nil, likeS_nil, isNP_nil, isNP_ob, likeT_ep, isEp_ep, epCells_ep, likeT_agg, likeT_int, likeT_bool, likeT_str, likeT_lst, likeT_sl0, likeT_sl1, likeT_ptr, likeS_int, likeS_bool, likeS_str, likeS_lst, likeS_sl0, likeS_sl1, likeS_ptr, isPtr_ok, isSl_0, isSl_1, beq_self_b, Bool.and_self, Bool.and_true, Bool.true_and, Bool.and_false, Bool.false_and, cond_true, cond_false, Bool.not_true, Bool.not_false, s_awake, Bool.true_or, Bool.and_self, ev17, ev18, ev19, ev12, beq_self_eq_true]
    rfl
  case true =>
    generalize IntKind.i64.wrap (pick a 9 - 1) = a
    generalize IntKind.i64.wrap (pick b 210 - 3) = b
    generalize IntKind.i64.wrap (pick c 8 - 1) = c
    rw [ev16]
    by_cases h1 : a < 0
    · rw [ltI_t h1]; simp -implicitDefEqProofs only [some_bind', obCells_agg, obCells_ob, isOb_ok, isL_ok, isOw_ok, avXs_lst, avXs_ow, avNil_lst, avNil_ow, avNil_sl, avOff_sl, avCut_sl, isAgg_agg, nat_beq_self, List.length_cons, List.length_nil, Nat.reduceAdd, Nat.zero_add, isI_v, isB_v, isS_v, avInt_v, avBool_v, avStr_v, cellAt_zero, cellAt_succ, lget_zero, lget_succ, frAt_zero, frAt_succ, blAt_zero, blAt_succ, isEx_ok, isEx_ne, isEx_none, isRt_some, isRt_none, like_st, likeFG_nil, likeFG_cons, likeBG_nil, likeBG_obj, likeBG_row, likeSG_nil, likeSG_cons, likeT_nil, likeS_nil, isNP_nil, isNP_ob, likeT_ep, isEp_ep, epCells_ep, likeT_agg, likeT_int, likeT_bool, likeT_str, likeT_lst, likeT_sl0, likeT_sl1, likeT_ptr, likeS_int, likeS_bool, likeS_str, likeS_lst, likeS_sl0, likeS_sl1, likeS_ptr, isPtr_ok, isSl_0, isSl_1, beq_self_b, Bool.and_self, Bool.and_true, Bool.true_and, Bool.and_false, Bool.false_and, cond_true, cond_false, Bool.not_true, Bool.not_false, s_awake]; rfl
    rw [ltI_f (show 0 ≤ a by omega)]
    by_cases h2 : 6 ≤ a
    · rw [leI_t h2]; simp -implicitDefEqProofs only [some_bind', obCells_agg, obCells_ob, isOb_ok, isL_ok, isOw_ok, avXs_lst, avXs_ow, avNil_lst, avNil_ow, avNil_sl, avOff_sl, avCut_sl, isAgg_agg, nat_beq_self, List.length_cons, List.length_nil, Nat.reduceAdd, Nat.zero_add, isI_v, isB_v, isS_v, avInt_v, avBool_v, avStr_v, cellAt_zero, cellAt_succ, lget_zero, lget_succ, frAt_zero, frAt_succ, blAt_zero, blAt_succ, isEx_ok, isEx_ne, isEx_none, isRt_some, isRt_none, like_st, likeFG_nil, likeFG_cons, likeBG_nil, likeBG_obj, likeBG_row, likeSG_nil, likeSG_cons, likeT_nil, likeS_nil, isNP_nil, isNP_ob, likeT_ep, isEp_ep, epCells_ep, likeT_agg, likeT_int, likeT_bool, likeT_str, likeT_lst, likeT_sl0, likeT_sl1, likeT_ptr, likeS_int, likeS_bool, likeS_str, likeS_lst, likeS_sl0, likeS_sl1, likeS_ptr, isPtr_ok, isSl_0, isSl_1, beq_self_b, Bool.and_self, Bool.and_true, Bool.true_and, Bool.and_false, Bool.false_and, cond_true, cond_false, Bool.not_true, Bool.not_false, s_awake]; rfl
    rw [leI_f (show a < 6 by omega)]
    by_cases h3 : b < 0
    · rw [ltI_t h3]; simp -implicitDefEqProofs only [some_bind', obCells_agg, obCells_ob, isOb_ok, isL_ok, isOw_ok, avXs_lst, avXs_ow, avNil_lst, avNil_ow, avNil_sl, avOff_sl, avCut_sl, isAgg_agg, nat_beq_self, List.length_cons, List.length_nil, Nat.reduceAdd, Nat.zero_add, isI_v, isB_v, isS_v, avInt_v, avBool_v, avStr_v, cellAt_zero, cellAt_succ, lget_zero, lget_succ, frAt_zero, frAt_succ, blAt_zero, blAt_succ, isEx_ok, isEx_ne, isEx_none, isRt_some, isRt_none, like_st, likeFG_nil, likeFG_cons, likeBG_nil, likeBG_obj, likeBG_row, likeSG_nil, likeSG_cons, likeT_nil, likeS_nil, isNP_nil, isNP_ob, likeT_ep, isEp_ep, epCells_ep, likeT_agg, likeT_int, likeT_bool, likeT_str, likeT_lst, likeT_sl0, likeT_sl1, likeT_ptr, likeS_int, likeS_bool, likeS_str, likeS_lst, likeS_sl0, likeS_sl1, likeS_ptr, isPtr_ok, isSl_0, isSl_1, beq_self_b, Bool.and_self, Bool.and_true, Bool.true_and, Bool.and_false, Bool.false_and, cond_true, cond_false, Bool.not_true, Bool.not_false, s_awake]; rfl
    rw [ltI_f (show 0 ≤ b by omega)]
    by_cases h4 : 59 < b
    · rw [ltI_t h4]; simp -implicitDefEqProofs only [some_bind', obCells_agg, obCells_ob, isOb_ok, isL_ok, isOw_ok, avXs_lst, avXs_ow, avNil_lst, avNil_ow, avNil_sl, avOff_sl, avCut_sl, isAgg_agg, nat_beq_self, List.length_cons, List.length_nil, Nat.reduceAdd, Nat.zero_add, isI_v, isB_v, isS_v, avInt_v, avBool_v, avStr_v, cellAt_zero, cellAt_succ, lget_zero, lget_succ, frAt_zero, frAt_succ, blAt_zero, blAt_succ, isEx_ok, isEx_ne, isEx_none, isRt_some, isRt_none, like_st, likeFG_nil, likeFG_cons, likeBG_nil, likeBG_obj, likeBG_row, likeSG_nil, likeSG_cons, likeT_nil, likeS_nil, isNP_nil, isNP_ob, likeT_ep, isEp_ep, epCells_ep, likeT_agg, likeT_int, likeT_bool, likeT_str, likeT_lst, likeT_sl0, likeT_sl1, likeT_ptr, likeS_int, likeS_bool, likeS_str, likeS_lst, likeS_sl0, likeS_sl1, likeS_ptr, isPtr_ok, isSl_0, isSl_1, beq_self_b, Bool.and_self, Bool.and_true, Bool.true_and, Bool.and_false, Bool.false_and, cond_true, cond_false, Bool.not_true, Bool.not_false, s_awake]; rfl
    rw [ltI_f (show b ≤ 59 by omega)]
    by_cases h5 : c < 0
    · rw [ltI_t h5]; simp -implicitDefEqProofs only [some_bind', obCells_agg, obCells_ob, isOb_ok, isL_ok, isOw_ok, avXs_lst, avXs_ow, avNil_lst, avNil_ow, avNil_sl, avOff_sl, avCut_sl, isAgg_agg, nat_beq_self, List.length_cons, List.length_nil, Nat.reduceAdd, Nat.zero_add, isI_v, isB_v, isS_v, avInt_v, avBool_v, avStr_v, cellAt_zero, cellAt_succ, lget_zero, lget_succ, frAt_zero, frAt_succ, blAt_zero, blAt_succ, isEx_ok, isEx_ne, isEx_none, isRt_some, isRt_none, like_st, likeFG_nil, likeFG_cons, likeBG_nil, likeBG_obj, likeBG_row, likeSG_nil, likeSG_cons, likeT_nil, likeS_nil, isNP_nil, isNP_ob, likeT_ep, isEp_ep, epCells_ep, likeT_agg, likeT_int, likeT_bool, likeT_str, likeT_lst, likeT_sl0, likeT_sl1, likeT_ptr, likeS_int, likeS_bool, likeS_str, likeS_lst, likeS_sl0, likeS_sl1, likeS_ptr, isPtr_ok, isSl_0, isSl_1, beq_self_b, Bool.and_self, Bool.and_true, Bool.true_and, Bool.and_false, Bool.false_and, cond_true, cond_false, Bool.not_true, Bool.not_false, s_awake]; rfl
    rw [ltI_f (show 0 ≤ c by omega)]
    by_cases h6 : 5 ≤ c
    · rw [leI_t h6]; simp -implicitDefEqProofs only [some_bind', obCells_agg, obCells_ob, isOb_ok, isL_ok, isOw_ok, avXs_lst, avXs_ow, avNil_lst, avNil_ow, avNil_sl, avOff_sl, avCut_sl, isAgg_agg, nat_beq_self, List.length_cons, List.length_nil, Nat.reduceAdd, Nat.zero_add, isI_v, isB_v, isS_v, avInt_v, avBool_v, avStr_v, cellAt_zero, cellAt_succ, lget_zero, lget_succ, frAt_zero, frAt_succ, blAt_zero, blAt_succ, isEx_ok, isEx_ne, isEx_none, isRt_some, isRt_none, like_st, likeFG_nil, likeFG_cons, likeBG_nil, likeBG_obj, likeBG_row, likeSG_nil, likeSG_cons, likeT_nil, likeS_nil, isNP_nil, isNP_ob, likeT_ep, isEp_ep, epCells_ep, likeT_agg, likeT_int, likeT_bool, likeT_str, likeT_lst, likeT_sl0, likeT_sl1, likeT_ptr, likeS_int, likeS_bool, likeS_str, likeS_lst, likeS_sl0, likeS_sl1, likeS_ptr, isPtr_ok, isSl_0, isSl_1, beq_self_b, Bool.and_self, Bool.and_true, Bool.true_and, Bool.and_false, Bool.false_and, cond_true, cond_false, Bool.not_true, Bool.not_false, s_awake]; rfl
    rw [leI_f (show c < 5 by omega)]
    simp -implicitDefEqProofs only [some_bind', obCells_agg, obCells_ob, isOb_ok, isL_ok, isOw_ok, avXs_lst, avXs_ow, avNil_lst, avNil_ow, avNil_sl, avOff_sl, avCut_sl, isAgg_agg, nat_beq_self, List.length_cons, List.length_nil, Nat.reduceAdd, Nat.zero_add, isI_v, isB_v, isS_v, avInt_v, avBool_v, avStr_v, cellAt_zero, cellAt_succ, lget_zero, lget_succ, frAt_zero, frAt_succ, blAt_zero, blAt_succ, isEx_ok, isEx_ne, isEx_none, isRt_some, isRt_none, like_st, likeFG_nil, likeFG_cons, likeBG_nil, likeBG_obj, likeBG_row, likeSG_nil, likeSG_cons, likeT_nil, likeS_nil, isNP_nil, isNP_ob, likeT_ep, isEp_ep, epCells_ep, likeT_agg, likeT_int, likeT_bool, likeT_str, likeT_lst, likeT_sl0, likeT_sl1, likeT_ptr, likeS_int, likeS_bool, likeS_str, likeS_lst, likeS_sl0, likeS_sl1, likeS_ptr, isPtr_ok, isSl_0, isSl_1, beq_self_b, Bool.and_self, Bool.and_true, Bool.true_and, Bool.and_false, Bool.false_and, cond_true, cond_false, Bool.not_true, Bool.not_false, s_awake, Bool.true_or, Bool.and_self, ev17, ev18, ev19, ev12, beq_self_eq_true]
    rfl
theorem new_all {N : Nat} (l : List AV) (h : TypA Try.prog N Try.f4.params.toList l) : ∃ n, evF Try.prog cfg n 4 l = some [.v (.bool true)] := by
  rw [show Try.f4.params.toList = [3, 3, 3, 4] by kernel_rfl] at h
  obtain ⟨a0, r, rfl, t0, h⟩ := h
  obtain ⟨a1, r, rfl, t1, h⟩ := h
  obtain ⟨a2, r, rfl, t2, h⟩ := h
  obtain ⟨a3, r, rfl, t3, h⟩ := h
  obtain rfl : r = [] := h
  obtain ⟨a, rfl, _⟩ := openV3 t0
  obtain ⟨b, rfl, _⟩ := openV3 t1
  obtain ⟨c, rfl, _⟩ := openV3 t2
  obtain ⟨d, rfl, _⟩ := openV4 t3
  exact evF_of_evL (new_law a b c d)
end Go.Proofs.Ytkefjdmoikegbaa
