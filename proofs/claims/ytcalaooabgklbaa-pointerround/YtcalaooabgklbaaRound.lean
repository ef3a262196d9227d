/- PointerRound and PointerWords hold for every input. No conditions. -/
import Derived.Test.YtcalaooabgklbaaBase
import Derived.Test.YtcalaooabgklbaaTyp
set_option linter.all false
namespace Go.Proofs.Ytcalaooabgklbaa
open Go.Ev
attribute [local congr] bind_first cond_first

theorem round (n : Nat) (w t l g k w' t' : Int) (b : Bool) (hw : 0 ≤ w ∧ w < 4294967296) (ht : 0 ≤ t ∧ t < 18446744073709551616) (hl : I l) (hg : I g) (hk : I k) :
    ev (n + 10) 4 [.v (.int .u32 w), .v (.int .u64 t), .agg [.v (.int .i64 l), .v (.int .i64 g), .v (.int .i64 k), .v (.int .u32 w'), .v (.int .u64 t'), .v (.bool b)]] = some [.v (.bool true)] := by
  rw [ev4]
  obtain ⟨l', g', k', hl', hg', hk', e⟩ := s11 (n + 7) l g k w' t' b hl hg hk
  rw [e, s12 _ w hw.1 hw.2]
  have e1 : pack (w % 256) (w / 256) = if valid (w % 256) (w / 256) then w else 0 := by
    unfold pack; split <;> omega
  have e2 : (!(valid (w % 256) (w / 256) == (pack (w % 256) (w / 256) == w && !(w == 0)))) = false := by
    rw [e1]
    cases h : valid (w % 256) (w / 256) with
    | true =>
      have := valid_iff.1 h
      have h3 : (w == 0) = false := by rw [beq_eq_false_iff_ne]; omega
      simp [h3]
    | false =>
      by_cases h0 : w = 0
      · subst h0; simp
      · have h3 : (0 == w) = false := by rw [beq_eq_false_iff_ne]; omega
        simp [h3]
  have e3 : cond (pack (w % 256) (w / 256) == w) (some (⟨some 1000001, ⟨[(1, (.v (.int .u64 t))), (8, (.ptr 0 0 0)), (32, (.v (.bool (!(valid (w % 256) (w / 256) == (!(w == 0)))))))], [⟨1, 28, 2, true, [[.v (.int .i64 l'), .v (.int .i64 g')]]⟩]⟩, []⟩ : LR))
      (some ⟨some 1000001, ⟨[(1, (.v (.int .u64 t))), (8, (.ptr 0 0 0)), (32, (.v (.bool (!(valid (w % 256) (w / 256) == false)))))], [⟨1, 28, 2, true, [[.v (.int .i64 l'), .v (.int .i64 g')]]⟩]⟩, []⟩) =
      some ⟨some 1000001, ⟨[(1, (.v (.int .u64 t))), (8, (.ptr 0 0 0)), (32, (.v (.bool false)))], [⟨1, 28, 2, true, [[.v (.int .i64 l'), .v (.int .i64 g')]]⟩]⟩, []⟩ := by
    cases h : (pack (w % 256) (w / 256) == w) <;> rw [h] at e2
    · simp only [Bool.false_and] at e2
      simp only [cond_false, e2]
    · simp only [Bool.true_and] at e2
      simp only [cond_true, e2]
  simp -implicitDefEqProofs only [some_bind', obCells_agg, obCells_ob, isOb_ok, isL_ok, isOw_ok, avXs_lst, avXs_ow, avNil_lst, avNil_ow, avNil_sl, avOff_sl, avCut_sl, isAgg_agg, nat_beq_self, List.length_cons, List.length_nil, Nat.reduceAdd, Nat.zero_add, isI_v, isB_v, isS_v, avInt_v, avBool_v, avStr_v, cellAt_zero, cellAt_succ, lget_zero, lget_succ, frAt_zero, frAt_succ, blAt_zero, blAt_succ, isEx_ok, isEx_ne, isEx_none, isRt_some, isRt_none, like_st, likeFG_nil, likeFG_cons, likeBG_nil, likeBG_obj, likeBG_row, likeSG_nil, likeSG_cons, likeT_agg, likeT_int, likeT_bool, likeT_str, likeT_lst, likeT_sl0, likeT_sl1, likeT_ptr, likeS_int, likeS_bool, likeS_str, likeS_lst, likeS_sl0, likeS_sl1, likeS_ptr, isPtr_ok, isSl_0, isSl_1, beq_self_b, Bool.and_self, Bool.and_true, Bool.true_and, Bool.and_false, Bool.false_and, cond_true, cond_false, Bool.not_true, Bool.not_false, s15, s16, s19, e3]
  have hp := pack_range l' g'
  have e4 : tag (t % 256) (t / 256 % 16777216) (t / 4294967296) = t := by unfold tag; omega
  cases h : valid l' g' with
  | false =>
    simp -implicitDefEqProofs only [some_bind', obCells_agg, obCells_ob, isOb_ok, isL_ok, isOw_ok, avXs_lst, avXs_ow, avNil_lst, avNil_ow, avNil_sl, avOff_sl, avCut_sl, isAgg_agg, nat_beq_self, List.length_cons, List.length_nil, Nat.reduceAdd, Nat.zero_add, isI_v, isB_v, isS_v, avInt_v, avBool_v, avStr_v, cellAt_zero, cellAt_succ, lget_zero, lget_succ, frAt_zero, frAt_succ, blAt_zero, blAt_succ, isEx_ok, isEx_ne, isEx_none, isRt_some, isRt_none, like_st, likeFG_nil, likeFG_cons, likeBG_nil, likeBG_obj, likeBG_row, likeSG_nil, likeSG_cons, likeT_agg, likeT_int, likeT_bool, likeT_str, likeT_lst, likeT_sl0, likeT_sl1, likeT_ptr, likeS_int, likeS_bool, likeS_str, likeS_lst, likeS_sl0, likeS_sl1, likeS_ptr, isPtr_ok, isSl_0, isSl_1, beq_self_b, Bool.and_self, Bool.and_true, Bool.true_and, Bool.and_false, Bool.false_and, cond_true, cond_false, Bool.not_true, Bool.not_false]
    rw [s13 _ t ht.1 ht.2]
    simp -implicitDefEqProofs only [some_bind', obCells_agg, obCells_ob, isOb_ok, isL_ok, isOw_ok, avXs_lst, avXs_ow, avNil_lst, avNil_ow, avNil_sl, avOff_sl, avCut_sl, isAgg_agg, nat_beq_self, List.length_cons, List.length_nil, Nat.reduceAdd, Nat.zero_add, isI_v, isB_v, isS_v, avInt_v, avBool_v, avStr_v, cellAt_zero, cellAt_succ, lget_zero, lget_succ, frAt_zero, frAt_succ, blAt_zero, blAt_succ, isEx_ok, isEx_ne, isEx_none, isRt_some, isRt_none, like_st, likeFG_nil, likeFG_cons, likeBG_nil, likeBG_obj, likeBG_row, likeSG_nil, likeSG_cons, likeT_agg, likeT_int, likeT_bool, likeT_str, likeT_lst, likeT_sl0, likeT_sl1, likeT_ptr, likeS_int, likeS_bool, likeS_str, likeS_lst, likeS_sl0, likeS_sl1, likeS_ptr, isPtr_ok, isSl_0, isSl_1, beq_self_b, Bool.and_self, Bool.and_true, Bool.true_and, Bool.and_false, Bool.false_and, cond_true, cond_false, Bool.not_true, Bool.not_false]
    rw [s14 _ _ _ _ (by omega) (by omega), e4]
    simp -implicitDefEqProofs only [some_bind', obCells_agg, obCells_ob, isOb_ok, isL_ok, isOw_ok, avXs_lst, avXs_ow, avNil_lst, avNil_ow, avNil_sl, avOff_sl, avCut_sl, isAgg_agg, nat_beq_self, List.length_cons, List.length_nil, Nat.reduceAdd, Nat.zero_add, isI_v, isB_v, isS_v, avInt_v, avBool_v, avStr_v, cellAt_zero, cellAt_succ, lget_zero, lget_succ, frAt_zero, frAt_succ, blAt_zero, blAt_succ, isEx_ok, isEx_ne, isEx_none, isRt_some, isRt_none, like_st, likeFG_nil, likeFG_cons, likeBG_nil, likeBG_obj, likeBG_row, likeSG_nil, likeSG_cons, likeT_agg, likeT_int, likeT_bool, likeT_str, likeT_lst, likeT_sl0, likeT_sl1, likeT_ptr, likeS_int, likeS_bool, likeS_str, likeS_lst, likeS_sl0, likeS_sl1, likeS_ptr, isPtr_ok, isSl_0, isSl_1, beq_self_b, Bool.and_self, Bool.and_true, Bool.true_and, Bool.and_false, Bool.false_and, cond_true, cond_false, Bool.not_true, Bool.not_false, beq_self_i]
  | true =>
    have hv := valid_iff.1 h
    have e5 : pack l' g' = g' * 256 + l' := by unfold pack; rw [h]; rfl
    simp -implicitDefEqProofs only [some_bind', obCells_agg, obCells_ob, isOb_ok, isL_ok, isOw_ok, avXs_lst, avXs_ow, avNil_lst, avNil_ow, avNil_sl, avOff_sl, avCut_sl, isAgg_agg, nat_beq_self, List.length_cons, List.length_nil, Nat.reduceAdd, Nat.zero_add, isI_v, isB_v, isS_v, avInt_v, avBool_v, avStr_v, cellAt_zero, cellAt_succ, lget_zero, lget_succ, frAt_zero, frAt_succ, blAt_zero, blAt_succ, isEx_ok, isEx_ne, isEx_none, isRt_some, isRt_none, like_st, likeFG_nil, likeFG_cons, likeBG_nil, likeBG_obj, likeBG_row, likeSG_nil, likeSG_cons, likeT_agg, likeT_int, likeT_bool, likeT_str, likeT_lst, likeT_sl0, likeT_sl1, likeT_ptr, likeS_int, likeS_bool, likeS_str, likeS_lst, likeS_sl0, likeS_sl1, likeS_ptr, isPtr_ok, isSl_0, isSl_1, beq_self_b, Bool.and_self, Bool.and_true, Bool.true_and, Bool.and_false, Bool.false_and, cond_true, cond_false, Bool.not_true, Bool.not_false]
    rw [s12 _ _ hp.1 hp.2]
    have e6 : (pack l' g' % 256 == l' && pack l' g' / 256 == g') = true := by
      rw [e5, Bool.and_eq_true, beq_iff_eq, beq_iff_eq]; omega
    have e7 : (pack l' g' == 0) = false := by rw [beq_eq_false_iff_ne]; omega
    simp -implicitDefEqProofs only [some_bind', obCells_agg, obCells_ob, isOb_ok, isL_ok, isOw_ok, avXs_lst, avXs_ow, avNil_lst, avNil_ow, avNil_sl, avOff_sl, avCut_sl, isAgg_agg, nat_beq_self, List.length_cons, List.length_nil, Nat.reduceAdd, Nat.zero_add, isI_v, isB_v, isS_v, avInt_v, avBool_v, avStr_v, cellAt_zero, cellAt_succ, lget_zero, lget_succ, frAt_zero, frAt_succ, blAt_zero, blAt_succ, isEx_ok, isEx_ne, isEx_none, isRt_some, isRt_none, like_st, likeFG_nil, likeFG_cons, likeBG_nil, likeBG_obj, likeBG_row, likeSG_nil, likeSG_cons, likeT_agg, likeT_int, likeT_bool, likeT_str, likeT_lst, likeT_sl0, likeT_sl1, likeT_ptr, likeS_int, likeS_bool, likeS_str, likeS_lst, likeS_sl0, likeS_sl1, likeS_ptr, isPtr_ok, isSl_0, isSl_1, beq_self_b, Bool.and_self, Bool.and_true, Bool.true_and, Bool.and_false, Bool.false_and, cond_true, cond_false, Bool.not_true, Bool.not_false, e6, e7, s19]
    rw [s13 _ t ht.1 ht.2]
    simp -implicitDefEqProofs only [some_bind', obCells_agg, obCells_ob, isOb_ok, isL_ok, isOw_ok, avXs_lst, avXs_ow, avNil_lst, avNil_ow, avNil_sl, avOff_sl, avCut_sl, isAgg_agg, nat_beq_self, List.length_cons, List.length_nil, Nat.reduceAdd, Nat.zero_add, isI_v, isB_v, isS_v, avInt_v, avBool_v, avStr_v, cellAt_zero, cellAt_succ, lget_zero, lget_succ, frAt_zero, frAt_succ, blAt_zero, blAt_succ, isEx_ok, isEx_ne, isEx_none, isRt_some, isRt_none, like_st, likeFG_nil, likeFG_cons, likeBG_nil, likeBG_obj, likeBG_row, likeSG_nil, likeSG_cons, likeT_agg, likeT_int, likeT_bool, likeT_str, likeT_lst, likeT_sl0, likeT_sl1, likeT_ptr, likeS_int, likeS_bool, likeS_str, likeS_lst, likeS_sl0, likeS_sl1, likeS_ptr, isPtr_ok, isSl_0, isSl_1, beq_self_b, Bool.and_self, Bool.and_true, Bool.true_and, Bool.and_false, Bool.false_and, cond_true, cond_false, Bool.not_true, Bool.not_false]
    rw [s14 _ _ _ _ (by omega) (by omega), e4]
    simp -implicitDefEqProofs only [some_bind', obCells_agg, obCells_ob, isOb_ok, isL_ok, isOw_ok, avXs_lst, avXs_ow, avNil_lst, avNil_ow, avNil_sl, avOff_sl, avCut_sl, isAgg_agg, nat_beq_self, List.length_cons, List.length_nil, Nat.reduceAdd, Nat.zero_add, isI_v, isB_v, isS_v, avInt_v, avBool_v, avStr_v, cellAt_zero, cellAt_succ, lget_zero, lget_succ, frAt_zero, frAt_succ, blAt_zero, blAt_succ, isEx_ok, isEx_ne, isEx_none, isRt_some, isRt_none, like_st, likeFG_nil, likeFG_cons, likeBG_nil, likeBG_obj, likeBG_row, likeSG_nil, likeSG_cons, likeT_agg, likeT_int, likeT_bool, likeT_str, likeT_lst, likeT_sl0, likeT_sl1, likeT_ptr, likeS_int, likeS_bool, likeS_str, likeS_lst, likeS_sl0, likeS_sl1, likeS_ptr, isPtr_ok, isSl_0, isSl_1, beq_self_b, Bool.and_self, Bool.and_true, Bool.true_and, Bool.and_false, Bool.false_and, cond_true, cond_false, Bool.not_true, Bool.not_false, beq_self_i]
theorem round_all {N : Nat} (l : List AV) (h : TypA Try.prog N Try.f4.params.toList l) : ∃ n, evF Try.prog cfg n 4 l = some [.v (.bool true)] := by
  rw [show Try.f4.params.toList = [22, 23, 25] by kernel_rfl] at h
  obtain ⟨a0, r, rfl, h0, h⟩ := h
  obtain ⟨a1, r, rfl, h1, h⟩ := h
  obtain ⟨a2, r, rfl, h2, h⟩ := h
  obtain rfl : r = [] := h
  obtain ⟨a0, rfl, f0_0⟩ := openV22 h0
  obtain ⟨a1, rfl, f1_0⟩ := openV23 h1
  obtain ⟨a2_0, a2_1, a2_2, a2_3, a2_4, a2_5, rfl, f2_0, f2_1, f2_2, f2_3, f2_4, f2_5⟩ := openV25 h2
  exact ⟨0 + 10, round 0 a0 a1 a2_0 a2_1 a2_2 a2_3 a2_4 a2_5 (by omega) (by omega) f2_0 f2_1 f2_2⟩
end Go.Proofs.Ytcalaooabgklbaa
