/- PointerLocked holds for every input. No conditions. -/
import Derived.Test.YtcalaooabgklbaaLook
import Derived.Test.YtcalaooabgklbaaAlloc
set_option linter.all false
namespace Go.Proofs.Ytcalaooabgklbaa
open Go.Ev
attribute [local congr] bind_first cond_first

theorem locked (a0 a1 a2 a3 a4 a5 o k : Int) :
    ev 20 10 [.agg [.v (.int .i64 a0), .v (.int .i64 a1), .v (.int .i64 a2), .v (.int .i64 a3), .v (.int .i64 a4), .v (.int .i64 a5)], .v (.int .i64 o), .v (.int .i64 k)] = some [.v (.bool true)] := by
  rw [ev10]
  have r1 := pick_range (n := a2) (m := 152) (by decide)
  have r2 := pick_range (n := a3) (m := 1000) (by decide)
  have r3 := pick_range (n := o) (m := 255) (by decide)
  have r4 := pick_range (n := k) (m := 4) (by decide)
  simp -implicitDefEqProofs only [some_bind', obCells_agg, obCells_ob, isOb_ok, isL_ok, isOw_ok, avXs_lst, avXs_ow, avNil_lst, avNil_ow, avNil_sl, avOff_sl, avCut_sl, isAgg_agg, nat_beq_self, List.length_cons, List.length_nil, Nat.reduceAdd, Nat.zero_add, isI_v, isB_v, isS_v, avInt_v, avBool_v, avStr_v, cellAt_zero, cellAt_succ, lget_zero, lget_succ, frAt_zero, frAt_succ, blAt_zero, blAt_succ, isEx_ok, isEx_ne, isEx_none, isRt_some, isRt_none, like_st, likeFG_nil, likeFG_cons, likeBG_nil, likeBG_obj, likeBG_row, likeSG_nil, likeSG_cons, likeT_agg, likeT_int, likeT_bool, likeT_str, likeT_lst, likeT_sl0, likeT_sl1, likeT_ptr, likeS_int, likeS_bool, likeS_str, likeS_lst, likeS_sl0, likeS_sl1, likeS_ptr, isPtr_ok, isSl_0, isSl_1, beq_self_b, Bool.and_self, Bool.and_true, Bool.true_and, Bool.and_false, Bool.false_and, cond_true, cond_false, Bool.not_true, Bool.not_false, s30 _ _ 152 (by decide) (by decide), s30 _ _ 1000 (by decide) (by decide), s30 _ _ 255 (by decide) (by decide), s30 _ _ 4 (by decide) (by decide), s14 _ 0 5 0 (by decide) (by decide)]
  generalize pick a2 152 = x at r1 ⊢
  generalize pick a3 1000 = y at r2 ⊢
  generalize pick o 255 = z at r3 ⊢
  generalize pick k 4 = w at r4 ⊢
  have e1 : IntKind.i64.wrap (104 + x) = 104 + x := by rw [w_i64]; omega
  have e2 : IntKind.u64.wrap (IntKind.u64.wrap (IntKind.u64.wrap (IntKind.u64.wrap (IntKind.i64.wrap (y + 1)) * 2 ^ 8) + IntKind.u64.wrap z) + 1) = (y + 1) * 256 + z + 1 := by simp only [w_u64, w_i64]; omega
  have e3 : IntKind.i64.wrap (1 + w) = 1 + w := by rw [w_i64]; omega
  rw [e1, e2, e3, s14 _ _ _ _ (by decide) (by decide)]
  have hT : 0 ≤ tag (1 + w) 5 0 ∧ tag (1 + w) 5 0 ≤ 18446744073709551615 := by unfold tag; omega
  have hT1 : (tag (1 + w) 5 0 % 256 == 0) = false := by rw [beq_eq_false_iff_ne]; unfold tag; omega
  have hT2 : (tag (1 + w) 5 0 % 256 == 1 + w) = true := by rw [beq_iff_eq]; unfold tag; omega
  have hT3 : (tag (1 + w) 5 0 / 256 % 16777216 == 5) = true := by rw [beq_iff_eq]; unfold tag; omega
  have hT4 : 0 ≤ tag 0 5 0 ∧ tag 0 5 0 < 18446744073709551616 := by decide
  generalize hTe : tag (1 + w) 5 0 = T at hT hT1 hT2 hT3 ⊢
  generalize hTf : tag 0 5 0 = T0 at hT4 ⊢
  have hl : (ltI 4 (1 + w)) = false := ltI_f (by omega)
  have hl' : (ltI (1 + w) 1) = false := ltI_f (by omega)
  have hl'' : heap (104 + x) = true := by unfold heap; rw [leI_t (by omega), ltI_t (by omega)]; rfl
  have hh0 : (((y + 1) * 256 + z + 1) % 256 == 0) = false := by rw [beq_eq_false_iff_ne]; omega
  have hh1 : 0 ≤ (y + 1) * 256 + z + 1 ∧ (y + 1) * 256 + z + 1 < 18446744073709551616 := by omega
  generalize (y + 1) * 256 + z + 1 = H at hh0 hh1 ⊢
  have hv : valid (104 + x) 5 = true := valid_iff.2 (by omega)
  have hP : Pg.ok ⟨104 + x, H, T, 0, 0, 0, 0, 0, 0⟩ := ⟨(⟨by omega, by omega⟩ : i64ok (104 + x)), (⟨by omega, by omega⟩ : u64ok H), (⟨by omega, by omega⟩ : u64ok T), u0, u0, u0, u0, u0, u0⟩
  have h39 : ev 19 39 [.lst false 9 [pgl (104 + x) H T 0 0 0 0 0 0], .agg [.v (.int .i64 (104 + x)), .v (.int .i64 5)], .v (.int .i64 (1 + w))] = some [.agg zero9, .v (.bool false), .v (.int .i64 3)] := by
    refine (open1 hP 11 false 5 (1 + w)).trans ?_
    unfold lookR
    simp -implicitDefEqProofs only [some_bind', obCells_agg, obCells_ob, isOb_ok, isL_ok, isOw_ok, avXs_lst, avXs_ow, avNil_lst, avNil_ow, avNil_sl, avOff_sl, avCut_sl, isAgg_agg, nat_beq_self, List.length_cons, List.length_nil, Nat.reduceAdd, Nat.zero_add, isI_v, isB_v, isS_v, avInt_v, avBool_v, avStr_v, cellAt_zero, cellAt_succ, lget_zero, lget_succ, frAt_zero, frAt_succ, blAt_zero, blAt_succ, isEx_ok, isEx_ne, isEx_none, isRt_some, isRt_none, like_st, likeFG_nil, likeFG_cons, likeBG_nil, likeBG_obj, likeBG_row, likeSG_nil, likeSG_cons, likeT_agg, likeT_int, likeT_bool, likeT_str, likeT_lst, likeT_sl0, likeT_sl1, likeT_ptr, likeS_int, likeS_bool, likeS_str, likeS_lst, likeS_sl0, likeS_sl1, likeS_ptr, isPtr_ok, isSl_0, isSl_1, beq_self_b, Bool.and_self, Bool.and_true, Bool.true_and, Bool.and_false, Bool.false_and, cond_true, cond_false, Bool.not_true, Bool.not_false, hv, hh0]
  have h37 : ev 19 37 [.lst false 9 [pgl (104 + x) H T 0 0 0 0 0 0], .agg [.v (.int .i64 (104 + x)), .v (.int .i64 5)], .v (.int .i64 (1 + w))] = some [.agg (pgl (104 + x) H T 0 0 0 0 0 0), .v (.bool true), .v (.int .i64 0)] := by
    refine (peek1 hP 11 false 5 (1 + w)).trans ?_
    unfold lookR
    simp -implicitDefEqProofs only [some_bind', obCells_agg, obCells_ob, isOb_ok, isL_ok, isOw_ok, avXs_lst, avXs_ow, avNil_lst, avNil_ow, avNil_sl, avOff_sl, avCut_sl, isAgg_agg, nat_beq_self, List.length_cons, List.length_nil, Nat.reduceAdd, Nat.zero_add, isI_v, isB_v, isS_v, avInt_v, avBool_v, avStr_v, cellAt_zero, cellAt_succ, lget_zero, lget_succ, frAt_zero, frAt_succ, blAt_zero, blAt_succ, isEx_ok, isEx_ne, isEx_none, isRt_some, isRt_none, like_st, likeFG_nil, likeFG_cons, likeBG_nil, likeBG_obj, likeBG_row, likeSG_nil, likeSG_cons, likeT_agg, likeT_int, likeT_bool, likeT_str, likeT_lst, likeT_sl0, likeT_sl1, likeT_ptr, likeS_int, likeS_bool, likeS_str, likeS_lst, likeS_sl0, likeS_sl1, likeS_ptr, isPtr_ok, isSl_0, isSl_1, beq_self_b, Bool.and_self, Bool.and_true, Bool.true_and, Bool.and_false, Bool.false_and, cond_true, cond_false, Bool.not_true, Bool.not_false, hv, hh0, hT1, hT2, hT3, Pg.row_eq]
  have h31 : ev 19 31 [.agg (pgl (104 + x) H T0 0 0 0 0 0 0), .v (.int .i64 (1 + w)), .v (.int .u32 0)] = some [.agg zero9, .v (.int .i64 3)] := by
    refine (s31 14 hh1 hT4 (by decide)).trans ?_
    unfold allocR
    simp -implicitDefEqProofs only [some_bind', obCells_agg, obCells_ob, isOb_ok, isL_ok, isOw_ok, avXs_lst, avXs_ow, avNil_lst, avNil_ow, avNil_sl, avOff_sl, avCut_sl, isAgg_agg, nat_beq_self, List.length_cons, List.length_nil, Nat.reduceAdd, Nat.zero_add, isI_v, isB_v, isS_v, avInt_v, avBool_v, avStr_v, cellAt_zero, cellAt_succ, lget_zero, lget_succ, frAt_zero, frAt_succ, blAt_zero, blAt_succ, isEx_ok, isEx_ne, isEx_none, isRt_some, isRt_none, like_st, likeFG_nil, likeFG_cons, likeBG_nil, likeBG_obj, likeBG_row, likeSG_nil, likeSG_cons, likeT_agg, likeT_int, likeT_bool, likeT_str, likeT_lst, likeT_sl0, likeT_sl1, likeT_ptr, likeS_int, likeS_bool, likeS_str, likeS_lst, likeS_sl0, likeS_sl1, likeS_ptr, isPtr_ok, isSl_0, isSl_1, beq_self_b, Bool.and_self, Bool.and_true, Bool.true_and, Bool.and_false, Bool.false_and, cond_true, cond_false, Bool.not_true, Bool.not_false, hl, hl', hl'', hh0, Bool.or_self]
  have h33 : ev 19 33 [.agg (pgl (104 + x) H T 0 0 0 0 0 0)] = some [.agg zero9, .v (.int .i64 3)] := by
    refine (s33 14 hh1 (by omega)).trans ?_
    unfold freeR
    simp -implicitDefEqProofs only [some_bind', obCells_agg, obCells_ob, isOb_ok, isL_ok, isOw_ok, avXs_lst, avXs_ow, avNil_lst, avNil_ow, avNil_sl, avOff_sl, avCut_sl, isAgg_agg, nat_beq_self, List.length_cons, List.length_nil, Nat.reduceAdd, Nat.zero_add, isI_v, isB_v, isS_v, avInt_v, avBool_v, avStr_v, cellAt_zero, cellAt_succ, lget_zero, lget_succ, frAt_zero, frAt_succ, blAt_zero, blAt_succ, isEx_ok, isEx_ne, isEx_none, isRt_some, isRt_none, like_st, likeFG_nil, likeFG_cons, likeBG_nil, likeBG_obj, likeBG_row, likeSG_nil, likeSG_cons, likeT_agg, likeT_int, likeT_bool, likeT_str, likeT_lst, likeT_sl0, likeT_sl1, likeT_ptr, likeS_int, likeS_bool, likeS_str, likeS_lst, likeS_sl0, likeS_sl1, likeS_ptr, isPtr_ok, isSl_0, isSl_1, beq_self_b, Bool.and_self, Bool.and_true, Bool.true_and, Bool.and_false, Bool.false_and, cond_true, cond_false, Bool.not_true, Bool.not_false, hl'', hh0]
  have h23 : ev 19 23 [.agg (pgl (104 + x) H T 0 0 0 0 0 0)] = some [.v (.bool true)] := by
    refine (s23 18 hh1.1 hh1.2).trans ?_
    rw [hh0]; rfl
  have hsame := same_self 18 (104 + x) H T 0 0 0 0 0 0
  simp -implicitDefEqProofs only [some_bind', obCells_agg, obCells_ob, isOb_ok, isL_ok, isOw_ok, avXs_lst, avXs_ow, avNil_lst, avNil_ow, avNil_sl, avOff_sl, avCut_sl, isAgg_agg, nat_beq_self, List.length_cons, List.length_nil, Nat.reduceAdd, Nat.zero_add, isI_v, isB_v, isS_v, avInt_v, avBool_v, avStr_v, cellAt_zero, cellAt_succ, lget_zero, lget_succ, frAt_zero, frAt_succ, blAt_zero, blAt_succ, isEx_ok, isEx_ne, isEx_none, isRt_some, isRt_none, like_st, likeFG_nil, likeFG_cons, likeBG_nil, likeBG_obj, likeBG_row, likeSG_nil, likeSG_cons, likeT_agg, likeT_int, likeT_bool, likeT_str, likeT_lst, likeT_sl0, likeT_sl1, likeT_ptr, likeS_int, likeS_bool, likeS_str, likeS_lst, likeS_sl0, likeS_sl1, likeS_ptr, isPtr_ok, isSl_0, isSl_1, beq_self_b, Bool.and_self, Bool.and_true, Bool.true_and, Bool.and_false, Bool.false_and, cond_true, cond_false, Bool.not_true, Bool.not_false, h39, h37, h31, h33, h23, s15 11, hsame, beq_self_i]
theorem locked_all {N : Nat} (l : List AV) (h : TypA Try.prog N Try.f10.params.toList l) : ∃ n, evF Try.prog cfg n 10 l = some [.v (.bool true)] := by
  rw [show Try.f10.params.toList = [77, 3, 3] by kernel_rfl] at h
  obtain ⟨a0, r, rfl, h0, h⟩ := h
  obtain ⟨a1, r, rfl, h1, h⟩ := h
  obtain ⟨a2, r, rfl, h2, h⟩ := h
  obtain rfl : r = [] := h
  obtain ⟨a0_0, a0_1, a0_2, a0_3, a0_4, a0_5, rfl, f0_0, f0_1, f0_2, f0_3, f0_4, f0_5⟩ := openV77 h0
  obtain ⟨a1, rfl, f1_0⟩ := openV3 h1
  obtain ⟨a2, rfl, f2_0⟩ := openV3 h2
  exact ⟨20, locked a0_0 a0_1 a0_2 a0_3 a0_4 a0_5 a1 a2⟩
end Go.Proofs.Ytcalaooabgklbaa
