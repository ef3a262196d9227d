/- PointerWords holds for every input. No conditions. -/
import Derived.Test.YtcalaooabgklbaaBase
import Derived.Test.YtcalaooabgklbaaTyp
set_option linter.all false
namespace Go.Proofs.Ytcalaooabgklbaa
open Go.Ev
attribute [local congr] bind_first cond_first

theorem words (n : Nat) (l g k w t x : Int) (b : Bool) (hx : 0 ≤ x ∧ x < 4294967296) (hw : 0 ≤ w ∧ w < 4294967296) (ht : 0 ≤ t ∧ t < 18446744073709551616) (hl : I l) (hg : I g) (hk : I k) :
    ev (n + 10) 3 [.agg [.v (.int .i64 l), .v (.int .i64 g), .v (.int .i64 k), .v (.int .u32 w), .v (.int .u64 t), .v (.bool b)], .v (.int .u32 x)] = some [.v (.bool true)] := by
  rw [ev3]
  obtain ⟨l', g', k', hl', hg', hk', e⟩ := s11 (n + 7) l g k w t b hl hg hk
  rw [e]
  have h12 := fun n => s12 n w hw.1 hw.2
  have h25 := fun n => s25 n w hw.1 hw.2
  have h13 := fun n => s13 n t ht.1 ht.2
  have h14 := fun n => s14 n k' g' x hx.1 hx.2
  have h27 := fun n => s27 n k' g' x hx.1 hx.2
  have h21 := fun n => s21 (l := l') (h := t) (d1 := 0) (d2 := 0) (d3 := 0) (d4 := 0) (d5 := 0) (d6 := 0) n ht.1 ht.2
  have h22 := fun n => s22 (l := l') (h := t) (d1 := 0) (d2 := 0) (d3 := 0) (d4 := 0) (d5 := 0) (d6 := 0) n ht.1 ht.2
  have h23 := fun n => s23 (l := l') (d0 := t) (d1 := 0) (d2 := 0) (d3 := 0) (d4 := 0) (d5 := 0) (d6 := 0) n ht.1 ht.2
  have h24 := fun n => s24 (l := l') (d0 := t) (d1 := 0) (d2 := 0) (d3 := 0) (d4 := 0) (d5 := 0) (d6 := 0) n ht.1
  have h26 := fun n => s26 (l := l') (h := t) (d1 := 0) (d2 := 0) (d3 := 0) (d4 := 0) (d5 := 0) (d6 := 0) n ht.1 ht.2
  have e1 : IntKind.i64.wrap (Int.tmod t 256) = t % 256 := by rw [tmod_pos _ _ ht.1, w_i64]; omega
  have e2 : IntKind.u32.wrap (Int.fdiv t (2 ^ 32)) = t / 4294967296 := by rw [fdiv_pos _ _ (by decide), w_u32]; omega
  simp -implicitDefEqProofs only [some_bind', obCells_agg, obCells_ob, isOb_ok, isL_ok, isOw_ok, avXs_lst, avXs_ow, avNil_lst, avNil_ow, avNil_sl, avOff_sl, avCut_sl, isAgg_agg, nat_beq_self, List.length_cons, List.length_nil, Nat.reduceAdd, Nat.zero_add, isI_v, isB_v, isS_v, avInt_v, avBool_v, avStr_v, cellAt_zero, cellAt_succ, lget_zero, lget_succ, frAt_zero, frAt_succ, blAt_zero, blAt_succ, isEx_ok, isEx_ne, isEx_none, isRt_some, isRt_none, like_st, likeFG_nil, likeFG_cons, likeBG_nil, likeBG_obj, likeBG_row, likeSG_nil, likeSG_cons, likeT_agg, likeT_int, likeT_bool, likeT_str, likeT_lst, likeT_sl0, likeT_sl1, likeT_ptr, likeS_int, likeS_bool, likeS_str, likeS_lst, likeS_sl0, likeS_sl1, likeS_ptr, isPtr_ok, isSl_0, isSl_1, beq_self_b, Bool.and_self, Bool.and_true, Bool.true_and, Bool.and_false, Bool.false_and, cond_true, cond_false, Bool.not_true, Bool.not_false, h12, h25, h13, h14, h27, h21, h22, h23, h24, h26, s15, s16, s17, s18, s19, s20, beq_self_i, e1, e2]
theorem words_all {N : Nat} (l : List AV) (h : TypA Try.prog N Try.f3.params.toList l) : ∃ n, evF Try.prog cfg n 3 l = some [.v (.bool true)] := by
  rw [show Try.f3.params.toList = [25, 22] by kernel_rfl] at h
  obtain ⟨a0, r, rfl, h0, h⟩ := h
  obtain ⟨a1, r, rfl, h1, h⟩ := h
  obtain rfl : r = [] := h
  obtain ⟨a0_0, a0_1, a0_2, a0_3, a0_4, a0_5, rfl, f0_0, f0_1, f0_2, f0_3, f0_4, f0_5⟩ := openV25 h0
  obtain ⟨a1, rfl, f1_0⟩ := openV22 h1
  exact ⟨0 + 10, words 0 a0_0 a0_1 a0_2 a0_3 a0_4 a1 a0_5 (by omega) (by omega) (by omega) f0_0 f0_1 f0_2⟩
end Go.Proofs.Ytcalaooabgklbaa
