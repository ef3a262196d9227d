/- PointerAllocates holds for every input. No conditions. -/
import Derived.Test.YtcalaooabgklbaaBase
import Derived.Test.YtcalaooabgklbaaTyp
set_option linter.all false
namespace Go.Proofs.Ytcalaooabgklbaa
open Go.Ev
attribute [local congr] bind_first cond_first


def heap (l : Int) : Bool := leI 104 l && ltI l 256
/-- What allocating makes of a page. -/
def allocR (l h d k a : Int) : List AV :=
  cond (heap l && !(ltI k 1 || ltI 4 k))
    (cond (h % 256 == 0)
      (cond (d % 256 == 0)
        (cond (d / 256 % 16777216 == 16777215) [.agg zero9, .v (.int .i64 18)]
          [.agg (pg l h (tag k (d / 256 % 16777216 + 1) a) 0 0 0 0 0 0), .v (.int .i64 0)])
        [.agg zero9, .v (.int .i64 17)])
      [.agg zero9, .v (.int .i64 3)])
    [.agg zero9, .v (.int .i64 1)]
/-- What releasing makes of a page. -/
def freeR (l h d : Int) : List AV :=
  cond (heap l)
    (cond (h % 256 == 0)
      (cond (d % 256 == 0) [.agg zero9, .v (.int .i64 16)]
        [.agg (pg l h (tag 0 (d / 256 % 16777216) 0) 0 0 0 0 0 0), .v (.int .i64 0)])
      [.agg zero9, .v (.int .i64 3)])
    [.agg zero9, .v (.int .i64 1)]
theorem s43 (n : Nat) {l h d0 d1 d2 d3 d4 d5 d6 k g a : Int} (h0 : 0 ≤ a) (h1 : a < 4294967296) : ev (n + 2) 43 [.agg (pg l h d0 d1 d2 d3 d4 d5 d6), .agg [.v (.int .i64 k), .v (.int .i64 g), .v (.int .u32 a)]] = some [.agg (pg l h (tag k g a) 0 0 0 0 0 0)] := by
  rw [ev43, s14 _ _ _ _ h0 h1]
  simp -implicitDefEqProofs only [some_bind', obCells_agg, obCells_ob, isOb_ok, isL_ok, isOw_ok, avXs_lst, avXs_ow, avNil_lst, avNil_ow, avNil_sl, avOff_sl, avCut_sl, isAgg_agg, nat_beq_self, List.length_cons, List.length_nil, Nat.reduceAdd, Nat.zero_add, isI_v, isB_v, isS_v, avInt_v, avBool_v, avStr_v, cellAt_zero, cellAt_succ, lget_zero, lget_succ, frAt_zero, frAt_succ, blAt_zero, blAt_succ, isEx_ok, isEx_ne, isEx_none, isRt_some, isRt_none, like_st, likeFG_nil, likeFG_cons, likeBG_nil, likeBG_obj, likeBG_row, likeSG_nil, likeSG_cons, likeT_agg, likeT_int, likeT_bool, likeT_str, likeT_lst, likeT_sl0, likeT_sl1, likeT_ptr, likeS_int, likeS_bool, likeS_str, likeS_lst, likeS_sl0, likeS_sl1, likeS_ptr, isPtr_ok, isSl_0, isSl_1, beq_self_b, Bool.and_self, Bool.and_true, Bool.true_and, Bool.and_false, Bool.false_and, cond_true, cond_false, Bool.not_true, Bool.not_false]
section
variable (n : Nat) {l h d0 d1 d2 d3 d4 d5 d6 k a : Int} (hh : 0 ≤ h ∧ h < 18446744073709551616) (hd : 0 ≤ d0 ∧ d0 < 18446744073709551616) (ha : 0 ≤ a ∧ a < 4294967296)
include hh hd ha
theorem s31 : ev (n + 5) 31 [.agg (pg l h d0 d1 d2 d3 d4 d5 d6), .v (.int .i64 k), .v (.int .u32 a)] = some (allocR l h d0 k a) := by
  rw [ev31, s42 _ hd.1 hd.2]
  have h23 := fun n => s23 (l := l) (d0 := d0) (d1 := d1) (d2 := d2) (d3 := d3) (d4 := d4) (d5 := d5) (d6 := d6) n hh.1 hh.2
  have h43 := fun n g => s43 (l := l) (h := h) (d0 := d0) (d1 := d1) (d2 := d2) (d3 := d3) (d4 := d4) (d5 := d5) (d6 := d6) (k := k) (g := g) n ha.1 ha.2
  have e : IntKind.i64.wrap (d0 / 256 % 16777216 + 1) = d0 / 256 % 16777216 + 1 := by rw [w_i64]; omega
  unfold allocR heap
  cases hc : (leI 104 l && ltI l 256) with
  | false => simp -implicitDefEqProofs only [some_bind', obCells_agg, obCells_ob, isOb_ok, isL_ok, isOw_ok, avXs_lst, avXs_ow, avNil_lst, avNil_ow, avNil_sl, avOff_sl, avCut_sl, isAgg_agg, nat_beq_self, List.length_cons, List.length_nil, Nat.reduceAdd, Nat.zero_add, isI_v, isB_v, isS_v, avInt_v, avBool_v, avStr_v, cellAt_zero, cellAt_succ, lget_zero, lget_succ, frAt_zero, frAt_succ, blAt_zero, blAt_succ, isEx_ok, isEx_ne, isEx_none, isRt_some, isRt_none, like_st, likeFG_nil, likeFG_cons, likeBG_nil, likeBG_obj, likeBG_row, likeSG_nil, likeSG_cons, likeT_agg, likeT_int, likeT_bool, likeT_str, likeT_lst, likeT_sl0, likeT_sl1, likeT_ptr, likeS_int, likeS_bool, likeS_str, likeS_lst, likeS_sl0, likeS_sl1, likeS_ptr, isPtr_ok, isSl_0, isSl_1, beq_self_b, Bool.and_self, Bool.and_true, Bool.true_and, Bool.and_false, Bool.false_and, cond_true, cond_false, Bool.not_true, Bool.not_false, s40, hc]
  | true =>
    cases h2 : ltI k 1 with
    | true => simp -implicitDefEqProofs only [some_bind', obCells_agg, obCells_ob, isOb_ok, isL_ok, isOw_ok, avXs_lst, avXs_ow, avNil_lst, avNil_ow, avNil_sl, avOff_sl, avCut_sl, isAgg_agg, nat_beq_self, List.length_cons, List.length_nil, Nat.reduceAdd, Nat.zero_add, isI_v, isB_v, isS_v, avInt_v, avBool_v, avStr_v, cellAt_zero, cellAt_succ, lget_zero, lget_succ, frAt_zero, frAt_succ, blAt_zero, blAt_succ, isEx_ok, isEx_ne, isEx_none, isRt_some, isRt_none, like_st, likeFG_nil, likeFG_cons, likeBG_nil, likeBG_obj, likeBG_row, likeSG_nil, likeSG_cons, likeT_agg, likeT_int, likeT_bool, likeT_str, likeT_lst, likeT_sl0, likeT_sl1, likeT_ptr, likeS_int, likeS_bool, likeS_str, likeS_lst, likeS_sl0, likeS_sl1, likeS_ptr, isPtr_ok, isSl_0, isSl_1, beq_self_b, Bool.and_self, Bool.and_true, Bool.true_and, Bool.and_false, Bool.false_and, cond_true, cond_false, Bool.not_true, Bool.not_false, s40, hc, h2, Bool.true_or]
    | false =>
      cases h3 : ltI 4 k with
      | true => simp -implicitDefEqProofs only [some_bind', obCells_agg, obCells_ob, isOb_ok, isL_ok, isOw_ok, avXs_lst, avXs_ow, avNil_lst, avNil_ow, avNil_sl, avOff_sl, avCut_sl, isAgg_agg, nat_beq_self, List.length_cons, List.length_nil, Nat.reduceAdd, Nat.zero_add, isI_v, isB_v, isS_v, avInt_v, avBool_v, avStr_v, cellAt_zero, cellAt_succ, lget_zero, lget_succ, frAt_zero, frAt_succ, blAt_zero, blAt_succ, isEx_ok, isEx_ne, isEx_none, isRt_some, isRt_none, like_st, likeFG_nil, likeFG_cons, likeBG_nil, likeBG_obj, likeBG_row, likeSG_nil, likeSG_cons, likeT_agg, likeT_int, likeT_bool, likeT_str, likeT_lst, likeT_sl0, likeT_sl1, likeT_ptr, likeS_int, likeS_bool, likeS_str, likeS_lst, likeS_sl0, likeS_sl1, likeS_ptr, isPtr_ok, isSl_0, isSl_1, beq_self_b, Bool.and_self, Bool.and_true, Bool.true_and, Bool.and_false, Bool.false_and, cond_true, cond_false, Bool.not_true, Bool.not_false, s40, hc, h2, h3, Bool.or_true]
      | false =>
        cases h4 : (h % 256 == 0) with
        | false => simp -implicitDefEqProofs only [some_bind', obCells_agg, obCells_ob, isOb_ok, isL_ok, isOw_ok, avXs_lst, avXs_ow, avNil_lst, avNil_ow, avNil_sl, avOff_sl, avCut_sl, isAgg_agg, nat_beq_self, List.length_cons, List.length_nil, Nat.reduceAdd, Nat.zero_add, isI_v, isB_v, isS_v, avInt_v, avBool_v, avStr_v, cellAt_zero, cellAt_succ, lget_zero, lget_succ, frAt_zero, frAt_succ, blAt_zero, blAt_succ, isEx_ok, isEx_ne, isEx_none, isRt_some, isRt_none, like_st, likeFG_nil, likeFG_cons, likeBG_nil, likeBG_obj, likeBG_row, likeSG_nil, likeSG_cons, likeT_agg, likeT_int, likeT_bool, likeT_str, likeT_lst, likeT_sl0, likeT_sl1, likeT_ptr, likeS_int, likeS_bool, likeS_str, likeS_lst, likeS_sl0, likeS_sl1, likeS_ptr, isPtr_ok, isSl_0, isSl_1, beq_self_b, Bool.and_self, Bool.and_true, Bool.true_and, Bool.and_false, Bool.false_and, cond_true, cond_false, Bool.not_true, Bool.not_false, s40, hc, h2, h3, h4, h23, Bool.or_false]
        | true =>
          cases h5 : (d0 % 256 == 0) with
          | false => simp -implicitDefEqProofs only [some_bind', obCells_agg, obCells_ob, isOb_ok, isL_ok, isOw_ok, avXs_lst, avXs_ow, avNil_lst, avNil_ow, avNil_sl, avOff_sl, avCut_sl, isAgg_agg, nat_beq_self, List.length_cons, List.length_nil, Nat.reduceAdd, Nat.zero_add, isI_v, isB_v, isS_v, avInt_v, avBool_v, avStr_v, cellAt_zero, cellAt_succ, lget_zero, lget_succ, frAt_zero, frAt_succ, blAt_zero, blAt_succ, isEx_ok, isEx_ne, isEx_none, isRt_some, isRt_none, like_st, likeFG_nil, likeFG_cons, likeBG_nil, likeBG_obj, likeBG_row, likeSG_nil, likeSG_cons, likeT_agg, likeT_int, likeT_bool, likeT_str, likeT_lst, likeT_sl0, likeT_sl1, likeT_ptr, likeS_int, likeS_bool, likeS_str, likeS_lst, likeS_sl0, likeS_sl1, likeS_ptr, isPtr_ok, isSl_0, isSl_1, beq_self_b, Bool.and_self, Bool.and_true, Bool.true_and, Bool.and_false, Bool.false_and, cond_true, cond_false, Bool.not_true, Bool.not_false, s40, hc, h2, h3, h4, h5, h23, Bool.or_false]
          | true =>
            cases h6 : (d0 / 256 % 16777216 == 16777215) with
            | true => simp -implicitDefEqProofs only [some_bind', obCells_agg, obCells_ob, isOb_ok, isL_ok, isOw_ok, avXs_lst, avXs_ow, avNil_lst, avNil_ow, avNil_sl, avOff_sl, avCut_sl, isAgg_agg, nat_beq_self, List.length_cons, List.length_nil, Nat.reduceAdd, Nat.zero_add, isI_v, isB_v, isS_v, avInt_v, avBool_v, avStr_v, cellAt_zero, cellAt_succ, lget_zero, lget_succ, frAt_zero, frAt_succ, blAt_zero, blAt_succ, isEx_ok, isEx_ne, isEx_none, isRt_some, isRt_none, like_st, likeFG_nil, likeFG_cons, likeBG_nil, likeBG_obj, likeBG_row, likeSG_nil, likeSG_cons, likeT_agg, likeT_int, likeT_bool, likeT_str, likeT_lst, likeT_sl0, likeT_sl1, likeT_ptr, likeS_int, likeS_bool, likeS_str, likeS_lst, likeS_sl0, likeS_sl1, likeS_ptr, isPtr_ok, isSl_0, isSl_1, beq_self_b, Bool.and_self, Bool.and_true, Bool.true_and, Bool.and_false, Bool.false_and, cond_true, cond_false, Bool.not_true, Bool.not_false, s40, hc, h2, h3, h4, h5, h6, h23, Bool.or_false]
            | false => simp -implicitDefEqProofs only [some_bind', obCells_agg, obCells_ob, isOb_ok, isL_ok, isOw_ok, avXs_lst, avXs_ow, avNil_lst, avNil_ow, avNil_sl, avOff_sl, avCut_sl, isAgg_agg, nat_beq_self, List.length_cons, List.length_nil, Nat.reduceAdd, Nat.zero_add, isI_v, isB_v, isS_v, avInt_v, avBool_v, avStr_v, cellAt_zero, cellAt_succ, lget_zero, lget_succ, frAt_zero, frAt_succ, blAt_zero, blAt_succ, isEx_ok, isEx_ne, isEx_none, isRt_some, isRt_none, like_st, likeFG_nil, likeFG_cons, likeBG_nil, likeBG_obj, likeBG_row, likeSG_nil, likeSG_cons, likeT_agg, likeT_int, likeT_bool, likeT_str, likeT_lst, likeT_sl0, likeT_sl1, likeT_ptr, likeS_int, likeS_bool, likeS_str, likeS_lst, likeS_sl0, likeS_sl1, likeS_ptr, isPtr_ok, isSl_0, isSl_1, beq_self_b, Bool.and_self, Bool.and_true, Bool.true_and, Bool.and_false, Bool.false_and, cond_true, cond_false, Bool.not_true, Bool.not_false, s40, hc, h2, h3, h4, h5, h6, h23, h43, e, Bool.or_false]
theorem s32 : ev (n + 5) 32 [.agg (pg l h d0 d1 d2 d3 d4 d5 d6), .v (.int .i64 k), .v (.int .u32 a)] = some (allocR l h d0 k a) := by
  rw [ev32]
  have h24 := fun n => s24 (l := l) (d0 := d0) (d1 := d1) (d2 := d2) (d3 := d3) (d4 := d4) (d5 := d5) (d6 := d6) n hh.1
  have h26 := fun n => s26 (l := l) (h := h) (d1 := d1) (d2 := d2) (d3 := d3) (d4 := d4) (d5 := d5) (d6 := d6) n hd.1 hd.2
  have h44 := fun n => s44 (l := l) (h := h) (d1 := d1) (d2 := d2) (d3 := d3) (d4 := d4) (d5 := d5) (d6 := d6) n hd.1 hd.2
  have h27 := fun n g => s27 n k g a ha.1 ha.2
  have e : IntKind.i64.wrap (d0 / 256 % 16777216 + 1) = d0 / 256 % 16777216 + 1 := by rw [w_i64]; omega
  unfold allocR heap
  cases hc : (leI 104 l && ltI l 256) with
  | false => simp -implicitDefEqProofs only [some_bind', obCells_agg, obCells_ob, isOb_ok, isL_ok, isOw_ok, avXs_lst, avXs_ow, avNil_lst, avNil_ow, avNil_sl, avOff_sl, avCut_sl, isAgg_agg, nat_beq_self, List.length_cons, List.length_nil, Nat.reduceAdd, Nat.zero_add, isI_v, isB_v, isS_v, avInt_v, avBool_v, avStr_v, cellAt_zero, cellAt_succ, lget_zero, lget_succ, frAt_zero, frAt_succ, blAt_zero, blAt_succ, isEx_ok, isEx_ne, isEx_none, isRt_some, isRt_none, like_st, likeFG_nil, likeFG_cons, likeBG_nil, likeBG_obj, likeBG_row, likeSG_nil, likeSG_cons, likeT_agg, likeT_int, likeT_bool, likeT_str, likeT_lst, likeT_sl0, likeT_sl1, likeT_ptr, likeS_int, likeS_bool, likeS_str, likeS_lst, likeS_sl0, likeS_sl1, likeS_ptr, isPtr_ok, isSl_0, isSl_1, beq_self_b, Bool.and_self, Bool.and_true, Bool.true_and, Bool.and_false, Bool.false_and, cond_true, cond_false, Bool.not_true, Bool.not_false, s41, hc]
  | true =>
    cases h2 : ltI k 1 with
    | true => simp -implicitDefEqProofs only [some_bind', obCells_agg, obCells_ob, isOb_ok, isL_ok, isOw_ok, avXs_lst, avXs_ow, avNil_lst, avNil_ow, avNil_sl, avOff_sl, avCut_sl, isAgg_agg, nat_beq_self, List.length_cons, List.length_nil, Nat.reduceAdd, Nat.zero_add, isI_v, isB_v, isS_v, avInt_v, avBool_v, avStr_v, cellAt_zero, cellAt_succ, lget_zero, lget_succ, frAt_zero, frAt_succ, blAt_zero, blAt_succ, isEx_ok, isEx_ne, isEx_none, isRt_some, isRt_none, like_st, likeFG_nil, likeFG_cons, likeBG_nil, likeBG_obj, likeBG_row, likeSG_nil, likeSG_cons, likeT_agg, likeT_int, likeT_bool, likeT_str, likeT_lst, likeT_sl0, likeT_sl1, likeT_ptr, likeS_int, likeS_bool, likeS_str, likeS_lst, likeS_sl0, likeS_sl1, likeS_ptr, isPtr_ok, isSl_0, isSl_1, beq_self_b, Bool.and_self, Bool.and_true, Bool.true_and, Bool.and_false, Bool.false_and, cond_true, cond_false, Bool.not_true, Bool.not_false, s41, hc, h2, Bool.true_or]
    | false =>
      cases h3 : ltI 4 k with
      | true => simp -implicitDefEqProofs only [some_bind', obCells_agg, obCells_ob, isOb_ok, isL_ok, isOw_ok, avXs_lst, avXs_ow, avNil_lst, avNil_ow, avNil_sl, avOff_sl, avCut_sl, isAgg_agg, nat_beq_self, List.length_cons, List.length_nil, Nat.reduceAdd, Nat.zero_add, isI_v, isB_v, isS_v, avInt_v, avBool_v, avStr_v, cellAt_zero, cellAt_succ, lget_zero, lget_succ, frAt_zero, frAt_succ, blAt_zero, blAt_succ, isEx_ok, isEx_ne, isEx_none, isRt_some, isRt_none, like_st, likeFG_nil, likeFG_cons, likeBG_nil, likeBG_obj, likeBG_row, likeSG_nil, likeSG_cons, likeT_agg, likeT_int, likeT_bool, likeT_str, likeT_lst, likeT_sl0, likeT_sl1, likeT_ptr, likeS_int, likeS_bool, likeS_str, likeS_lst, likeS_sl0, likeS_sl1, likeS_ptr, isPtr_ok, isSl_0, isSl_1, beq_self_b, Bool.and_self, Bool.and_true, Bool.true_and, Bool.and_false, Bool.false_and, cond_true, cond_false, Bool.not_true, Bool.not_false, s41, hc, h2, h3, Bool.or_true]
      | false =>
        cases h4 : (h % 256 == 0) with
        | false => simp -implicitDefEqProofs only [some_bind', obCells_agg, obCells_ob, isOb_ok, isL_ok, isOw_ok, avXs_lst, avXs_ow, avNil_lst, avNil_ow, avNil_sl, avOff_sl, avCut_sl, isAgg_agg, nat_beq_self, List.length_cons, List.length_nil, Nat.reduceAdd, Nat.zero_add, isI_v, isB_v, isS_v, avInt_v, avBool_v, avStr_v, cellAt_zero, cellAt_succ, lget_zero, lget_succ, frAt_zero, frAt_succ, blAt_zero, blAt_succ, isEx_ok, isEx_ne, isEx_none, isRt_some, isRt_none, like_st, likeFG_nil, likeFG_cons, likeBG_nil, likeBG_obj, likeBG_row, likeSG_nil, likeSG_cons, likeT_agg, likeT_int, likeT_bool, likeT_str, likeT_lst, likeT_sl0, likeT_sl1, likeT_ptr, likeS_int, likeS_bool, likeS_str, likeS_lst, likeS_sl0, likeS_sl1, likeS_ptr, isPtr_ok, isSl_0, isSl_1, beq_self_b, Bool.and_self, Bool.and_true, Bool.true_and, Bool.and_false, Bool.false_and, cond_true, cond_false, Bool.not_true, Bool.not_false, s41, hc, h2, h3, h4, h24, Bool.or_false]
        | true =>
          cases h5 : (d0 % 256 == 0) with
          | false => simp -implicitDefEqProofs only [some_bind', obCells_agg, obCells_ob, isOb_ok, isL_ok, isOw_ok, avXs_lst, avXs_ow, avNil_lst, avNil_ow, avNil_sl, avOff_sl, avCut_sl, isAgg_agg, nat_beq_self, List.length_cons, List.length_nil, Nat.reduceAdd, Nat.zero_add, isI_v, isB_v, isS_v, avInt_v, avBool_v, avStr_v, cellAt_zero, cellAt_succ, lget_zero, lget_succ, frAt_zero, frAt_succ, blAt_zero, blAt_succ, isEx_ok, isEx_ne, isEx_none, isRt_some, isRt_none, like_st, likeFG_nil, likeFG_cons, likeBG_nil, likeBG_obj, likeBG_row, likeSG_nil, likeSG_cons, likeT_agg, likeT_int, likeT_bool, likeT_str, likeT_lst, likeT_sl0, likeT_sl1, likeT_ptr, likeS_int, likeS_bool, likeS_str, likeS_lst, likeS_sl0, likeS_sl1, likeS_ptr, isPtr_ok, isSl_0, isSl_1, beq_self_b, Bool.and_self, Bool.and_true, Bool.true_and, Bool.and_false, Bool.false_and, cond_true, cond_false, Bool.not_true, Bool.not_false, s41, hc, h2, h3, h4, h5, h24, h44, Bool.or_false]
          | true =>
            cases h6 : (d0 / 256 % 16777216 == 16777215) with
            | true => simp -implicitDefEqProofs only [some_bind', obCells_agg, obCells_ob, isOb_ok, isL_ok, isOw_ok, avXs_lst, avXs_ow, avNil_lst, avNil_ow, avNil_sl, avOff_sl, avCut_sl, isAgg_agg, nat_beq_self, List.length_cons, List.length_nil, Nat.reduceAdd, Nat.zero_add, isI_v, isB_v, isS_v, avInt_v, avBool_v, avStr_v, cellAt_zero, cellAt_succ, lget_zero, lget_succ, frAt_zero, frAt_succ, blAt_zero, blAt_succ, isEx_ok, isEx_ne, isEx_none, isRt_some, isRt_none, like_st, likeFG_nil, likeFG_cons, likeBG_nil, likeBG_obj, likeBG_row, likeSG_nil, likeSG_cons, likeT_agg, likeT_int, likeT_bool, likeT_str, likeT_lst, likeT_sl0, likeT_sl1, likeT_ptr, likeS_int, likeS_bool, likeS_str, likeS_lst, likeS_sl0, likeS_sl1, likeS_ptr, isPtr_ok, isSl_0, isSl_1, beq_self_b, Bool.and_self, Bool.and_true, Bool.true_and, Bool.and_false, Bool.false_and, cond_true, cond_false, Bool.not_true, Bool.not_false, s41, hc, h2, h3, h4, h5, h6, h24, h26, h44, Bool.or_false]
            | false => simp -implicitDefEqProofs only [some_bind', obCells_agg, obCells_ob, isOb_ok, isL_ok, isOw_ok, avXs_lst, avXs_ow, avNil_lst, avNil_ow, avNil_sl, avOff_sl, avCut_sl, isAgg_agg, nat_beq_self, List.length_cons, List.length_nil, Nat.reduceAdd, Nat.zero_add, isI_v, isB_v, isS_v, avInt_v, avBool_v, avStr_v, cellAt_zero, cellAt_succ, lget_zero, lget_succ, frAt_zero, frAt_succ, blAt_zero, blAt_succ, isEx_ok, isEx_ne, isEx_none, isRt_some, isRt_none, like_st, likeFG_nil, likeFG_cons, likeBG_nil, likeBG_obj, likeBG_row, likeSG_nil, likeSG_cons, likeT_agg, likeT_int, likeT_bool, likeT_str, likeT_lst, likeT_sl0, likeT_sl1, likeT_ptr, likeS_int, likeS_bool, likeS_str, likeS_lst, likeS_sl0, likeS_sl1, likeS_ptr, isPtr_ok, isSl_0, isSl_1, beq_self_b, Bool.and_self, Bool.and_true, Bool.true_and, Bool.and_false, Bool.false_and, cond_true, cond_false, Bool.not_true, Bool.not_false, s41, hc, h2, h3, h4, h5, h6, h24, h26, h27, h44, e, Bool.or_false]
omit ha
theorem s33 : ev (n + 5) 33 [.agg (pg l h d0 d1 d2 d3 d4 d5 d6)] = some (freeR l h d0) := by
  rw [ev33, s42 _ hd.1 hd.2]
  have h23 := fun n => s23 (l := l) (d0 := d0) (d1 := d1) (d2 := d2) (d3 := d3) (d4 := d4) (d5 := d5) (d6 := d6) n hh.1 hh.2
  have h43 := fun n g => s43 (l := l) (h := h) (d0 := d0) (d1 := d1) (d2 := d2) (d3 := d3) (d4 := d4) (d5 := d5) (d6 := d6) (k := 0) (g := g) (a := 0) n (by decide) (by decide)
  unfold freeR heap
  cases hc : (leI 104 l && ltI l 256) with
  | false => simp -implicitDefEqProofs only [some_bind', obCells_agg, obCells_ob, isOb_ok, isL_ok, isOw_ok, avXs_lst, avXs_ow, avNil_lst, avNil_ow, avNil_sl, avOff_sl, avCut_sl, isAgg_agg, nat_beq_self, List.length_cons, List.length_nil, Nat.reduceAdd, Nat.zero_add, isI_v, isB_v, isS_v, avInt_v, avBool_v, avStr_v, cellAt_zero, cellAt_succ, lget_zero, lget_succ, frAt_zero, frAt_succ, blAt_zero, blAt_succ, isEx_ok, isEx_ne, isEx_none, isRt_some, isRt_none, like_st, likeFG_nil, likeFG_cons, likeBG_nil, likeBG_obj, likeBG_row, likeSG_nil, likeSG_cons, likeT_agg, likeT_int, likeT_bool, likeT_str, likeT_lst, likeT_sl0, likeT_sl1, likeT_ptr, likeS_int, likeS_bool, likeS_str, likeS_lst, likeS_sl0, likeS_sl1, likeS_ptr, isPtr_ok, isSl_0, isSl_1, beq_self_b, Bool.and_self, Bool.and_true, Bool.true_and, Bool.and_false, Bool.false_and, cond_true, cond_false, Bool.not_true, Bool.not_false, s40, hc]
  | true =>
    cases h4 : (h % 256 == 0) with
    | false => simp -implicitDefEqProofs only [some_bind', obCells_agg, obCells_ob, isOb_ok, isL_ok, isOw_ok, avXs_lst, avXs_ow, avNil_lst, avNil_ow, avNil_sl, avOff_sl, avCut_sl, isAgg_agg, nat_beq_self, List.length_cons, List.length_nil, Nat.reduceAdd, Nat.zero_add, isI_v, isB_v, isS_v, avInt_v, avBool_v, avStr_v, cellAt_zero, cellAt_succ, lget_zero, lget_succ, frAt_zero, frAt_succ, blAt_zero, blAt_succ, isEx_ok, isEx_ne, isEx_none, isRt_some, isRt_none, like_st, likeFG_nil, likeFG_cons, likeBG_nil, likeBG_obj, likeBG_row, likeSG_nil, likeSG_cons, likeT_agg, likeT_int, likeT_bool, likeT_str, likeT_lst, likeT_sl0, likeT_sl1, likeT_ptr, likeS_int, likeS_bool, likeS_str, likeS_lst, likeS_sl0, likeS_sl1, likeS_ptr, isPtr_ok, isSl_0, isSl_1, beq_self_b, Bool.and_self, Bool.and_true, Bool.true_and, Bool.and_false, Bool.false_and, cond_true, cond_false, Bool.not_true, Bool.not_false, s40, hc, h4, h23]
    | true =>
      cases h5 : (d0 % 256 == 0) with
      | false => simp -implicitDefEqProofs only [some_bind', obCells_agg, obCells_ob, isOb_ok, isL_ok, isOw_ok, avXs_lst, avXs_ow, avNil_lst, avNil_ow, avNil_sl, avOff_sl, avCut_sl, isAgg_agg, nat_beq_self, List.length_cons, List.length_nil, Nat.reduceAdd, Nat.zero_add, isI_v, isB_v, isS_v, avInt_v, avBool_v, avStr_v, cellAt_zero, cellAt_succ, lget_zero, lget_succ, frAt_zero, frAt_succ, blAt_zero, blAt_succ, isEx_ok, isEx_ne, isEx_none, isRt_some, isRt_none, like_st, likeFG_nil, likeFG_cons, likeBG_nil, likeBG_obj, likeBG_row, likeSG_nil, likeSG_cons, likeT_agg, likeT_int, likeT_bool, likeT_str, likeT_lst, likeT_sl0, likeT_sl1, likeT_ptr, likeS_int, likeS_bool, likeS_str, likeS_lst, likeS_sl0, likeS_sl1, likeS_ptr, isPtr_ok, isSl_0, isSl_1, beq_self_b, Bool.and_self, Bool.and_true, Bool.true_and, Bool.and_false, Bool.false_and, cond_true, cond_false, Bool.not_true, Bool.not_false, s40, hc, h4, h5, h23, h43]
      | true => simp -implicitDefEqProofs only [some_bind', obCells_agg, obCells_ob, isOb_ok, isL_ok, isOw_ok, avXs_lst, avXs_ow, avNil_lst, avNil_ow, avNil_sl, avOff_sl, avCut_sl, isAgg_agg, nat_beq_self, List.length_cons, List.length_nil, Nat.reduceAdd, Nat.zero_add, isI_v, isB_v, isS_v, avInt_v, avBool_v, avStr_v, cellAt_zero, cellAt_succ, lget_zero, lget_succ, frAt_zero, frAt_succ, blAt_zero, blAt_succ, isEx_ok, isEx_ne, isEx_none, isRt_some, isRt_none, like_st, likeFG_nil, likeFG_cons, likeBG_nil, likeBG_obj, likeBG_row, likeSG_nil, likeSG_cons, likeT_agg, likeT_int, likeT_bool, likeT_str, likeT_lst, likeT_sl0, likeT_sl1, likeT_ptr, likeS_int, likeS_bool, likeS_str, likeS_lst, likeS_sl0, likeS_sl1, likeS_ptr, isPtr_ok, isSl_0, isSl_1, beq_self_b, Bool.and_self, Bool.and_true, Bool.true_and, Bool.and_false, Bool.false_and, cond_true, cond_false, Bool.not_true, Bool.not_false, s40, hc, h4, h5, h23]
theorem s34 : ev (n + 5) 34 [.agg (pg l h d0 d1 d2 d3 d4 d5 d6)] = some (freeR l h d0) := by
  rw [ev34]
  have h24 := fun n => s24 (l := l) (d0 := d0) (d1 := d1) (d2 := d2) (d3 := d3) (d4 := d4) (d5 := d5) (d6 := d6) n hh.1
  have h26 := fun n => s26 (l := l) (h := h) (d1 := d1) (d2 := d2) (d3 := d3) (d4 := d4) (d5 := d5) (d6 := d6) n hd.1 hd.2
  have h44 := fun n => s44 (l := l) (h := h) (d1 := d1) (d2 := d2) (d3 := d3) (d4 := d4) (d5 := d5) (d6 := d6) n hd.1 hd.2
  have h27 := fun n g => s27 n 0 g 0 (by decide) (by decide)
  unfold freeR heap
  cases hc : (leI 104 l && ltI l 256) with
  | false => simp -implicitDefEqProofs only [some_bind', obCells_agg, obCells_ob, isOb_ok, isL_ok, isOw_ok, avXs_lst, avXs_ow, avNil_lst, avNil_ow, avNil_sl, avOff_sl, avCut_sl, isAgg_agg, nat_beq_self, List.length_cons, List.length_nil, Nat.reduceAdd, Nat.zero_add, isI_v, isB_v, isS_v, avInt_v, avBool_v, avStr_v, cellAt_zero, cellAt_succ, lget_zero, lget_succ, frAt_zero, frAt_succ, blAt_zero, blAt_succ, isEx_ok, isEx_ne, isEx_none, isRt_some, isRt_none, like_st, likeFG_nil, likeFG_cons, likeBG_nil, likeBG_obj, likeBG_row, likeSG_nil, likeSG_cons, likeT_agg, likeT_int, likeT_bool, likeT_str, likeT_lst, likeT_sl0, likeT_sl1, likeT_ptr, likeS_int, likeS_bool, likeS_str, likeS_lst, likeS_sl0, likeS_sl1, likeS_ptr, isPtr_ok, isSl_0, isSl_1, beq_self_b, Bool.and_self, Bool.and_true, Bool.true_and, Bool.and_false, Bool.false_and, cond_true, cond_false, Bool.not_true, Bool.not_false, s41, hc]
  | true =>
    cases h4 : (h % 256 == 0) with
    | false => simp -implicitDefEqProofs only [some_bind', obCells_agg, obCells_ob, isOb_ok, isL_ok, isOw_ok, avXs_lst, avXs_ow, avNil_lst, avNil_ow, avNil_sl, avOff_sl, avCut_sl, isAgg_agg, nat_beq_self, List.length_cons, List.length_nil, Nat.reduceAdd, Nat.zero_add, isI_v, isB_v, isS_v, avInt_v, avBool_v, avStr_v, cellAt_zero, cellAt_succ, lget_zero, lget_succ, frAt_zero, frAt_succ, blAt_zero, blAt_succ, isEx_ok, isEx_ne, isEx_none, isRt_some, isRt_none, like_st, likeFG_nil, likeFG_cons, likeBG_nil, likeBG_obj, likeBG_row, likeSG_nil, likeSG_cons, likeT_agg, likeT_int, likeT_bool, likeT_str, likeT_lst, likeT_sl0, likeT_sl1, likeT_ptr, likeS_int, likeS_bool, likeS_str, likeS_lst, likeS_sl0, likeS_sl1, likeS_ptr, isPtr_ok, isSl_0, isSl_1, beq_self_b, Bool.and_self, Bool.and_true, Bool.true_and, Bool.and_false, Bool.false_and, cond_true, cond_false, Bool.not_true, Bool.not_false, s41, hc, h4, h24]
    | true =>
      cases h5 : (d0 % 256 == 0) with
      | false => simp -implicitDefEqProofs only [some_bind', obCells_agg, obCells_ob, isOb_ok, isL_ok, isOw_ok, avXs_lst, avXs_ow, avNil_lst, avNil_ow, avNil_sl, avOff_sl, avCut_sl, isAgg_agg, nat_beq_self, List.length_cons, List.length_nil, Nat.reduceAdd, Nat.zero_add, isI_v, isB_v, isS_v, avInt_v, avBool_v, avStr_v, cellAt_zero, cellAt_succ, lget_zero, lget_succ, frAt_zero, frAt_succ, blAt_zero, blAt_succ, isEx_ok, isEx_ne, isEx_none, isRt_some, isRt_none, like_st, likeFG_nil, likeFG_cons, likeBG_nil, likeBG_obj, likeBG_row, likeSG_nil, likeSG_cons, likeT_agg, likeT_int, likeT_bool, likeT_str, likeT_lst, likeT_sl0, likeT_sl1, likeT_ptr, likeS_int, likeS_bool, likeS_str, likeS_lst, likeS_sl0, likeS_sl1, likeS_ptr, isPtr_ok, isSl_0, isSl_1, beq_self_b, Bool.and_self, Bool.and_true, Bool.true_and, Bool.and_false, Bool.false_and, cond_true, cond_false, Bool.not_true, Bool.not_false, s41, hc, h4, h5, h24, h26, h27, h44]
      | true => simp -implicitDefEqProofs only [some_bind', obCells_agg, obCells_ob, isOb_ok, isL_ok, isOw_ok, avXs_lst, avXs_ow, avNil_lst, avNil_ow, avNil_sl, avOff_sl, avCut_sl, isAgg_agg, nat_beq_self, List.length_cons, List.length_nil, Nat.reduceAdd, Nat.zero_add, isI_v, isB_v, isS_v, avInt_v, avBool_v, avStr_v, cellAt_zero, cellAt_succ, lget_zero, lget_succ, frAt_zero, frAt_succ, blAt_zero, blAt_succ, isEx_ok, isEx_ne, isEx_none, isRt_some, isRt_none, like_st, likeFG_nil, likeFG_cons, likeBG_nil, likeBG_obj, likeBG_row, likeSG_nil, likeSG_cons, likeT_agg, likeT_int, likeT_bool, likeT_str, likeT_lst, likeT_sl0, likeT_sl1, likeT_ptr, likeS_int, likeS_bool, likeS_str, likeS_lst, likeS_sl0, likeS_sl1, likeS_ptr, isPtr_ok, isSl_0, isSl_1, beq_self_b, Bool.and_self, Bool.and_true, Bool.true_and, Bool.and_false, Bool.false_and, cond_true, cond_false, Bool.not_true, Bool.not_false, s41, hc, h4, h5, h24, h44]
end
theorem same_self (n : Nat) (l h d0 d1 d2 d3 d4 d5 d6 : Int) : ev (n + 1) 29 [.agg (pg l h d0 d1 d2 d3 d4 d5 d6), .agg (pg l h d0 d1 d2 d3 d4 d5 d6)] = some [.v (.bool true)] := by
  rw [ev29]
  simp -implicitDefEqProofs only [some_bind', obCells_agg, obCells_ob, isOb_ok, isL_ok, isOw_ok, avXs_lst, avXs_ow, avNil_lst, avNil_ow, avNil_sl, avOff_sl, avCut_sl, isAgg_agg, nat_beq_self, List.length_cons, List.length_nil, Nat.reduceAdd, Nat.zero_add, isI_v, isB_v, isS_v, avInt_v, avBool_v, avStr_v, cellAt_zero, cellAt_succ, lget_zero, lget_succ, frAt_zero, frAt_succ, blAt_zero, blAt_succ, isEx_ok, isEx_ne, isEx_none, isRt_some, isRt_none, like_st, likeFG_nil, likeFG_cons, likeBG_nil, likeBG_obj, likeBG_row, likeSG_nil, likeSG_cons, likeT_agg, likeT_int, likeT_bool, likeT_str, likeT_lst, likeT_sl0, likeT_sl1, likeT_ptr, likeS_int, likeS_bool, likeS_str, likeS_lst, likeS_sl0, likeS_sl1, likeS_ptr, isPtr_ok, isSl_0, isSl_1, beq_self_b, Bool.and_self, Bool.and_true, Bool.true_and, Bool.and_false, Bool.false_and, cond_true, cond_false, Bool.not_true, Bool.not_false, beq_self_i]
/-- A page and a number. -/
def PgE (r : List AV) : Prop := ∃ l h d0 d1 d2 d3 d4 d5 d6 e, r = [.agg (pg l h d0 d1 d2 d3 d4 d5 d6), .v (.int .i64 e)]
theorem alloc_form (l h d k a : Int) : PgE (allocR l h d k a) := by
  unfold allocR
  cases (heap l && !(ltI k 1 || ltI 4 k)) <;> cases (h % 256 == 0) <;> cases (d % 256 == 0) <;> cases (d / 256 % 16777216 == 16777215) <;> exact ⟨_, _, _, _, _, _, _, _, _, _, rfl⟩
theorem free_form (l h d : Int) : PgE (freeR l h d) := by
  unfold freeR
  cases (heap l) <;> cases (h % 256 == 0) <;> cases (d % 256 == 0) <;> exact ⟨_, _, _, _, _, _, _, _, _, _, rfl⟩
theorem allocates (n : Nat) (l h d0 d1 d2 d3 d4 d5 d6 l' g k w t a : Int) (b : Bool) (hh : 0 ≤ h ∧ h < 18446744073709551616) (hd : 0 ≤ d0 ∧ d0 < 18446744073709551616) (ha : 0 ≤ a ∧ a < 4294967296) (hl : I l') (hg : I g) (hk : I k) :
    ev (n + 10) 6 [.agg (pg l h d0 d1 d2 d3 d4 d5 d6), .agg [.v (.int .i64 l'), .v (.int .i64 g), .v (.int .i64 k), .v (.int .u32 w), .v (.int .u64 t), .v (.bool b)], .v (.int .u32 a)] = some [.v (.bool true)] := by
  rw [ev6]
  obtain ⟨l', g', k', hl', hg', hk', e⟩ := s11 (n + 7) l' g k w t b hl hg hk
  rw [e]
  have fin : ∀ (l h d : Int) (hh : 0 ≤ h ∧ h < 18446744073709551616) (hd : 0 ≤ d ∧ d < 18446744073709551616), True := fun _ _ _ _ _ => trivial
  cases b with
  | false =>
    have h31 := fun n => s31 n (l := l) (d1 := d1) (d2 := d2) (d3 := d3) (d4 := d4) (d5 := d5) (d6 := d6) (k := k') hh hd ha
    have h32 := fun n => s32 n (l := l) (d1 := d1) (d2 := d2) (d3 := d3) (d4 := d4) (d5 := d5) (d6 := d6) (k := k') hh hd ha
    have h33 := fun n => s33 n (l := l) (d1 := d1) (d2 := d2) (d3 := d3) (d4 := d4) (d5 := d5) (d6 := d6) hh hd
    have h34 := fun n => s34 n (l := l) (d1 := d1) (d2 := d2) (d3 := d3) (d4 := d4) (d5 := d5) (d6 := d6) hh hd
    obtain ⟨_, _, _, _, _, _, _, _, _, _, e1⟩ := alloc_form l h d0 k' a
    obtain ⟨_, _, _, _, _, _, _, _, _, _, e2⟩ := free_form l h d0
    rw [e1] at h31 h32
    rw [e2] at h33 h34
    simp -implicitDefEqProofs only [some_bind', obCells_agg, obCells_ob, isOb_ok, isL_ok, isOw_ok, avXs_lst, avXs_ow, avNil_lst, avNil_ow, avNil_sl, avOff_sl, avCut_sl, isAgg_agg, nat_beq_self, List.length_cons, List.length_nil, Nat.reduceAdd, Nat.zero_add, isI_v, isB_v, isS_v, avInt_v, avBool_v, avStr_v, cellAt_zero, cellAt_succ, lget_zero, lget_succ, frAt_zero, frAt_succ, blAt_zero, blAt_succ, isEx_ok, isEx_ne, isEx_none, isRt_some, isRt_none, like_st, likeFG_nil, likeFG_cons, likeBG_nil, likeBG_obj, likeBG_row, likeSG_nil, likeSG_cons, likeT_agg, likeT_int, likeT_bool, likeT_str, likeT_lst, likeT_sl0, likeT_sl1, likeT_ptr, likeS_int, likeS_bool, likeS_str, likeS_lst, likeS_sl0, likeS_sl1, likeS_ptr, isPtr_ok, isSl_0, isSl_1, beq_self_b, Bool.and_self, Bool.and_true, Bool.true_and, Bool.and_false, Bool.false_and, cond_true, cond_false, Bool.not_true, Bool.not_false, h31, h32, h33, h34, s15, same_self, beq_self_i]
  | true =>
    have r1 := pick_range (n := IntKind.i64.wrap (h.tmod 1000)) (m := 9) (by decide)
    have r2 := pick_range (n := IntKind.i64.wrap (d0.tmod 6)) (m := 6) (by decide)
    have r3 := tag_range (k := 0) (g := g') (a := IntKind.u32.wrap t) (by rw [w_u32]; omega) (by rw [w_u32]; omega)
    have h27 := fun n => s27 n 0 g' (IntKind.u32.wrap t) (by rw [w_u32]; omega) (by rw [w_u32]; omega)
    generalize tag 0 g' (IntKind.u32.wrap t) = T at r3 h27
    simp -implicitDefEqProofs only [some_bind', obCells_agg, obCells_ob, isOb_ok, isL_ok, isOw_ok, avXs_lst, avXs_ow, avNil_lst, avNil_ow, avNil_sl, avOff_sl, avCut_sl, isAgg_agg, nat_beq_self, List.length_cons, List.length_nil, Nat.reduceAdd, Nat.zero_add, isI_v, isB_v, isS_v, avInt_v, avBool_v, avStr_v, cellAt_zero, cellAt_succ, lget_zero, lget_succ, frAt_zero, frAt_succ, blAt_zero, blAt_succ, isEx_ok, isEx_ne, isEx_none, isRt_some, isRt_none, like_st, likeFG_nil, likeFG_cons, likeBG_nil, likeBG_obj, likeBG_row, likeSG_nil, likeSG_cons, likeT_agg, likeT_int, likeT_bool, likeT_str, likeT_lst, likeT_sl0, likeT_sl1, likeT_ptr, likeS_int, likeS_bool, likeS_str, likeS_lst, likeS_sl0, likeS_sl1, likeS_ptr, isPtr_ok, isSl_0, isSl_1, beq_self_b, Bool.and_self, Bool.and_true, Bool.true_and, Bool.and_false, Bool.false_and, cond_true, cond_false, Bool.not_true, Bool.not_false, s30 _ _ 9 (by decide) (by decide), s30 _ _ 6 (by decide) (by decide), h27]
    generalize pick (IntKind.i64.wrap (h.tmod 1000)) 9 = x at r1 ⊢
    generalize pick (IntKind.i64.wrap (d0.tmod 6)) 6 = y at r2 ⊢
    have hh' : 0 ≤ IntKind.u64.wrap (IntKind.u64.wrap x * 128) ∧ IntKind.u64.wrap (IntKind.u64.wrap x * 128) < 18446744073709551616 := by simp only [w_u64]; omega
    have hd' : 0 ≤ IntKind.u64.wrap (IntKind.u64.wrap y + T) ∧ IntKind.u64.wrap (IntKind.u64.wrap y + T) < 18446744073709551616 := by simp only [w_u64]; omega
    generalize IntKind.u64.wrap (IntKind.u64.wrap x * 128) = h' at hh' ⊢
    generalize IntKind.u64.wrap (IntKind.u64.wrap y + T) = d' at hd' ⊢
    have h31 := fun n => s31 n (l := l') (d1 := d1) (d2 := d2) (d3 := d3) (d4 := d4) (d5 := d5) (d6 := d6) (k := k') hh' hd' ha
    have h32 := fun n => s32 n (l := l') (d1 := d1) (d2 := d2) (d3 := d3) (d4 := d4) (d5 := d5) (d6 := d6) (k := k') hh' hd' ha
    have h33 := fun n => s33 n (l := l') (d1 := d1) (d2 := d2) (d3 := d3) (d4 := d4) (d5 := d5) (d6 := d6) hh' hd'
    have h34 := fun n => s34 n (l := l') (d1 := d1) (d2 := d2) (d3 := d3) (d4 := d4) (d5 := d5) (d6 := d6) hh' hd'
    obtain ⟨_, _, _, _, _, _, _, _, _, _, e1⟩ := alloc_form l' h' d' k' a
    obtain ⟨_, _, _, _, _, _, _, _, _, _, e2⟩ := free_form l' h' d'
    rw [e1] at h31 h32
    rw [e2] at h33 h34
    simp -implicitDefEqProofs only [some_bind', obCells_agg, obCells_ob, isOb_ok, isL_ok, isOw_ok, avXs_lst, avXs_ow, avNil_lst, avNil_ow, avNil_sl, avOff_sl, avCut_sl, isAgg_agg, nat_beq_self, List.length_cons, List.length_nil, Nat.reduceAdd, Nat.zero_add, isI_v, isB_v, isS_v, avInt_v, avBool_v, avStr_v, cellAt_zero, cellAt_succ, lget_zero, lget_succ, frAt_zero, frAt_succ, blAt_zero, blAt_succ, isEx_ok, isEx_ne, isEx_none, isRt_some, isRt_none, like_st, likeFG_nil, likeFG_cons, likeBG_nil, likeBG_obj, likeBG_row, likeSG_nil, likeSG_cons, likeT_agg, likeT_int, likeT_bool, likeT_str, likeT_lst, likeT_sl0, likeT_sl1, likeT_ptr, likeS_int, likeS_bool, likeS_str, likeS_lst, likeS_sl0, likeS_sl1, likeS_ptr, isPtr_ok, isSl_0, isSl_1, beq_self_b, Bool.and_self, Bool.and_true, Bool.true_and, Bool.and_false, Bool.false_and, cond_true, cond_false, Bool.not_true, Bool.not_false, h31, h32, h33, h34, s15, same_self, beq_self_i]
theorem allocates_all {N : Nat} (l : List AV) (h : TypA Try.prog N Try.f6.params.toList l) : ∃ n, evF Try.prog cfg n 6 l = some [.v (.bool true)] := by
  rw [show Try.f6.params.toList = [43, 25, 22] by kernel_rfl] at h
  obtain ⟨a0, r, rfl, h0, h⟩ := h
  obtain ⟨a1, r, rfl, h1, h⟩ := h
  obtain ⟨a2, r, rfl, h2, h⟩ := h
  obtain rfl : r = [] := h
  obtain ⟨a0_0, a0_1, a0_2_0, a0_2_1, a0_2_2, a0_2_3, a0_2_4, a0_2_5, a0_2_6, rfl, f0_0, f0_1, f0_2, f0_3, f0_4, f0_5, f0_6, f0_7, f0_8⟩ := openV43 h0
  obtain ⟨a1_0, a1_1, a1_2, a1_3, a1_4, a1_5, rfl, f1_0, f1_1, f1_2, f1_3, f1_4, f1_5⟩ := openV25 h1
  obtain ⟨a2, rfl, f2_0⟩ := openV22 h2
  exact ⟨0 + 10, allocates 0 a0_0 a0_1 a0_2_0 a0_2_1 a0_2_2 a0_2_3 a0_2_4 a0_2_5 a0_2_6 a1_0 a1_1 a1_2 a1_3 a1_4 a2 a1_5 (by omega) (by omega) (by omega) f1_0 f1_1 f1_2⟩
end Go.Proofs.Ytcalaooabgklbaa
