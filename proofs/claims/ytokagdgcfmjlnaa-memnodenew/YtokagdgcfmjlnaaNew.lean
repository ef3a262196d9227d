/- MemnodeNew holds for every input. No conditions. -/
import Derived.Test.YtokagdgcfmjlnaaDefs
import Derived.Test.YtokagdgcfmjlnaaEv41
import Derived.Test.YtokagdgcfmjlnaaTyp
set_option linter.all false
namespace Go.Proofs.Ytokagdgcfmjlnaa
open Go.Ev
attribute [local congr] bind_first cond_first

theorem s8 (n : Nat) (a m : Int) (hm : 0 < m) (hm' : m ≤ 4611686018427387904) : ev (n + 1) 8 [.v (.int .i64 a), .v (.int .i64 m)] = some [.v (.int .i64 (pick a m))] := by
  rw [ev8]
  simp only [ltI_f (show 1 ≤ m by omega), eqI_f (show m ≠ 0 by omega), cond_false, pick_ok hm hm']
theorem s10 (n : Nat) : ev (n + 8) 10 [] = some [.v (.bool true)] := by kernel_rfl
abbrev w0 : List AV := [.v (.int .u64 0)]
theorem lines (n : Nat) (x : Int) (hx : -9223372036854775808 ≤ x ∧ x ≤ 9223372036854775807) : ∃ L : Int, (-9223372036854775808 ≤ L ∧ L ≤ 9223372036854775807) ∧
    (((ev (n + 1) 8 [(.v (.int .i64 x)), (.v (.int .i64 3))]).bind fun r0 =>
      cond (isI .i64 (cellAt r0 0))
       (cond (ltI 0 (avInt (cellAt r0 0)))
         (some ⟨(some 1000001), ⟨[(0, (.v (.int .i64 x))), (14, (.v (.bool (ltI 300 x))))], []⟩, []⟩)
         (some ⟨(some 1000001), ⟨[(0, (.v (.int .i64 x))), (14, (.v (.bool false)))], []⟩, []⟩))
       (none)).bind fun j4 =>
    cond (isEx 1000001 j4)
     (cond (likeStG ⟨[(0, (.v (.int .i64 x))), (14, (.v (.bool false)))], []⟩ j4.st)
       (cond (avBool (frAt j4.st.fr 1).2)
         (some ⟨(some 1000001), ⟨[(0, (.v (.int .i64 (Int.tmod (avInt (frAt j4.st.fr 0).2) 300))))], []⟩, []⟩)
         (some ⟨(some 1000001), ⟨[(0, (.v (.int .i64 (avInt (frAt j4.st.fr 0).2))))], []⟩, []⟩))
       (none))
     (cond (isRt j4)
       (some ⟨none, ⟨[], []⟩, j4.outs⟩)
       (none))) = some (⟨some 1000001, ⟨[(0, (.v (.int .i64 L)))], []⟩, []⟩ : LR) := by
  rw [s8 _ _ _ (by decide) (by decide)]
  cases h1 : ltI 0 (pick x 3) with
  | false => exact ⟨x, hx, by simp -implicitDefEqProofs only [some_bind', obCells_agg, obCells_ob, isOb_ok, isL_ok, isOw_ok, avXs_lst, avXs_ow, avNil_lst, avNil_ow, avNil_sl, avOff_sl, avCut_sl, isAgg_agg, nat_beq_self, List.length_cons, List.length_nil, Nat.reduceAdd, Nat.zero_add, isI_v, isB_v, isS_v, avInt_v, avBool_v, avStr_v, cellAt_zero, cellAt_succ, lget_zero, lget_succ, frAt_zero, frAt_succ, blAt_zero, blAt_succ, isEx_ok, isEx_ne, isEx_none, isRt_some, isRt_none, like_st, likeFG_nil, likeFG_cons, likeBG_nil, likeBG_obj, likeBG_row, likeSG_nil, likeSG_cons, likeT_nil, likeS_nil, isNP_nil, isNP_ob, likeT_ep, isEp_ep, epCells_ep, likeT_agg, likeT_int, likeT_bool, likeT_str, likeT_lst, likeT_sl0, likeT_sl1, likeT_ptr, likeS_int, likeS_bool, likeS_str, likeS_lst, likeS_sl0, likeS_sl1, likeS_ptr, isPtr_ok, isSl_0, isSl_1, beq_self_b, Bool.and_self, Bool.and_true, Bool.true_and, Bool.and_false, Bool.false_and, cond_true, cond_false, Bool.not_true, Bool.not_false, h1]⟩
  | true =>
    cases h2 : ltI 300 x with
    | false => exact ⟨x, hx, by simp -implicitDefEqProofs only [some_bind', obCells_agg, obCells_ob, isOb_ok, isL_ok, isOw_ok, avXs_lst, avXs_ow, avNil_lst, avNil_ow, avNil_sl, avOff_sl, avCut_sl, isAgg_agg, nat_beq_self, List.length_cons, List.length_nil, Nat.reduceAdd, Nat.zero_add, isI_v, isB_v, isS_v, avInt_v, avBool_v, avStr_v, cellAt_zero, cellAt_succ, lget_zero, lget_succ, frAt_zero, frAt_succ, blAt_zero, blAt_succ, isEx_ok, isEx_ne, isEx_none, isRt_some, isRt_none, like_st, likeFG_nil, likeFG_cons, likeBG_nil, likeBG_obj, likeBG_row, likeSG_nil, likeSG_cons, likeT_nil, likeS_nil, isNP_nil, isNP_ob, likeT_ep, isEp_ep, epCells_ep, likeT_agg, likeT_int, likeT_bool, likeT_str, likeT_lst, likeT_sl0, likeT_sl1, likeT_ptr, likeS_int, likeS_bool, likeS_str, likeS_lst, likeS_sl0, likeS_sl1, likeS_ptr, isPtr_ok, isSl_0, isSl_1, beq_self_b, Bool.and_self, Bool.and_true, Bool.true_and, Bool.and_false, Bool.false_and, cond_true, cond_false, Bool.not_true, Bool.not_false, h1, h2]⟩
    | true =>
      have := ltI_iff.1 h2
      exact ⟨x.tmod 300, by rw [tmod_pos _ _ (by omega)]; omega, by simp -implicitDefEqProofs only [some_bind', obCells_agg, obCells_ob, isOb_ok, isL_ok, isOw_ok, avXs_lst, avXs_ow, avNil_lst, avNil_ow, avNil_sl, avOff_sl, avCut_sl, isAgg_agg, nat_beq_self, List.length_cons, List.length_nil, Nat.reduceAdd, Nat.zero_add, isI_v, isB_v, isS_v, avInt_v, avBool_v, avStr_v, cellAt_zero, cellAt_succ, lget_zero, lget_succ, frAt_zero, frAt_succ, blAt_zero, blAt_succ, isEx_ok, isEx_ne, isEx_none, isRt_some, isRt_none, like_st, likeFG_nil, likeFG_cons, likeBG_nil, likeBG_obj, likeBG_row, likeSG_nil, likeSG_cons, likeT_nil, likeS_nil, isNP_nil, isNP_ob, likeT_ep, isEp_ep, epCells_ep, likeT_agg, likeT_int, likeT_bool, likeT_str, likeT_lst, likeT_sl0, likeT_sl1, likeT_ptr, likeS_int, likeS_bool, likeS_str, likeS_lst, likeS_sl0, likeS_sl1, likeS_ptr, isPtr_ok, isSl_0, isSl_1, beq_self_b, Bool.and_self, Bool.and_true, Bool.true_and, Bool.and_false, Bool.false_and, cond_true, cond_false, Bool.not_true, Bool.not_false, h1, h2]⟩
theorem lp3 (m : Nat) (x0 x4 x6 : Int) (c d e : Bool) (N : Nat) (b1 : List (List AV)) (hN : N ≤ 4096) : ∀ (j k n : Nat), j + k = N → j + 1 ≤ n →
    lp m n 3 0 0 ⟨[(0, (.v (.int .i64 x0))), (3, (.ptr 0 0 0)), (4, (.v (.int .i64 x4))), (5, (.lst c 1 (List.replicate N w0))), (6, (.v (.int .i64 x6))), (7, (.v (.int .i64 (k : Int))))], [⟨2, 60, 2, true, [[(.sl d 1 0 none), (.v (.bool e))]]⟩, ⟨2, 31, 1, false, b1⟩]⟩ =
      some ⟨(some 0), ⟨[(0, (.v (.int .i64 x0))), (3, (.ptr 0 0 0)), (4, (.v (.int .i64 x4))), (5, (.lst c 1 (List.replicate N w0))), (6, (.v (.int .i64 x6)))], [⟨2, 60, 2, true, [[(.sl d 1 0 none), (.v (.bool e))]]⟩, ⟨2, 31, 1, false, b1⟩]⟩, []⟩
  | 0, k, n + 1, hk, _ => by
    rw [lp3_0b, List.length_replicate, ltI_f (by omega)]; rfl
  | j + 1, k, n + 1, hk, hn => by
    rw [← lp3 m x0 x4 x6 c d e N b1 hN j (k + 1) n (by omega) (by omega), lp3_0b]
    have e2 : lget (List.replicate N w0) k = w0 := by unfold lget; simp [show k < N by omega]
    have e3 : IntKind.i64.wrap ((k : Int) + 1) = ((k + 1 : Nat) : Int) := by rw [w_i64]; omega
    simp -implicitDefEqProofs only [some_bind', obCells_agg, obCells_ob, isOb_ok, isL_ok, isOw_ok, avXs_lst, avXs_ow, avNil_lst, avNil_ow, avNil_sl, avOff_sl, avCut_sl, isAgg_agg, nat_beq_self, List.length_cons, List.length_nil, Nat.reduceAdd, Nat.zero_add, isI_v, isB_v, isS_v, avInt_v, avBool_v, avStr_v, cellAt_zero, cellAt_succ, lget_zero, lget_succ, frAt_zero, frAt_succ, blAt_zero, blAt_succ, isEx_ok, isEx_ne, isEx_none, isRt_some, isRt_none, like_st, likeFG_nil, likeFG_cons, likeBG_nil, likeBG_obj, likeBG_row, likeSG_nil, likeSG_cons, likeT_nil, likeS_nil, isNP_nil, isNP_ob, likeT_ep, isEp_ep, epCells_ep, likeT_agg, likeT_int, likeT_bool, likeT_str, likeT_lst, likeT_sl0, likeT_sl1, likeT_ptr, likeS_int, likeS_bool, likeS_str, likeS_lst, likeS_sl0, likeS_sl1, likeS_ptr, isPtr_ok, isSl_0, isSl_1, beq_self_b, Bool.and_self, Bool.and_true, Bool.true_and, Bool.and_false, Bool.false_and, cond_true, cond_false, Bool.not_true, Bool.not_false, leI_t (show (0 : Int) ≤ (k : Int) by omega), List.length_replicate, ltI_t (show (k : Int) < (N : Int) by omega), Int.toNat_natCast, e2, e3, beq_self_i]
theorem s9o (n : Nat) (L : Int) (h : L < 1 ∨ 256 < L) : ev (n + 1) 9 [.v (.int .i64 L)] = some [.v (.pointer none), .v (.int .i64 2)] := by
  rw [ev9]
  cases h1 : ltI L 1 with
  | true => simp -implicitDefEqProofs only [some_bind', obCells_agg, obCells_ob, isOb_ok, isL_ok, isOw_ok, avXs_lst, avXs_ow, avNil_lst, avNil_ow, avNil_sl, avOff_sl, avCut_sl, isAgg_agg, nat_beq_self, List.length_cons, List.length_nil, Nat.reduceAdd, Nat.zero_add, isI_v, isB_v, isS_v, avInt_v, avBool_v, avStr_v, cellAt_zero, cellAt_succ, lget_zero, lget_succ, frAt_zero, frAt_succ, blAt_zero, blAt_succ, isEx_ok, isEx_ne, isEx_none, isRt_some, isRt_none, like_st, likeFG_nil, likeFG_cons, likeBG_nil, likeBG_obj, likeBG_row, likeSG_nil, likeSG_cons, likeT_nil, likeS_nil, isNP_nil, isNP_ob, likeT_ep, isEp_ep, epCells_ep, likeT_agg, likeT_int, likeT_bool, likeT_str, likeT_lst, likeT_sl0, likeT_sl1, likeT_ptr, likeS_int, likeS_bool, likeS_str, likeS_lst, likeS_sl0, likeS_sl1, likeS_ptr, isPtr_ok, isSl_0, isSl_1, beq_self_b, Bool.and_self, Bool.and_true, Bool.true_and, Bool.and_false, Bool.false_and, cond_true, cond_false, Bool.not_true, Bool.not_false]
  | false =>
    have h2 : ltI 256 L = true := by
      rcases h with h | h
      · rw [ltI_t h] at h1; cases h1
      · exact ltI_t h
    simp -implicitDefEqProofs only [some_bind', obCells_agg, obCells_ob, isOb_ok, isL_ok, isOw_ok, avXs_lst, avXs_ow, avNil_lst, avNil_ow, avNil_sl, avOff_sl, avCut_sl, isAgg_agg, nat_beq_self, List.length_cons, List.length_nil, Nat.reduceAdd, Nat.zero_add, isI_v, isB_v, isS_v, avInt_v, avBool_v, avStr_v, cellAt_zero, cellAt_succ, lget_zero, lget_succ, frAt_zero, frAt_succ, blAt_zero, blAt_succ, isEx_ok, isEx_ne, isEx_none, isRt_some, isRt_none, like_st, likeFG_nil, likeFG_cons, likeBG_nil, likeBG_obj, likeBG_row, likeSG_nil, likeSG_cons, likeT_nil, likeS_nil, isNP_nil, isNP_ob, likeT_ep, isEp_ep, epCells_ep, likeT_agg, likeT_int, likeT_bool, likeT_str, likeT_lst, likeT_sl0, likeT_sl1, likeT_ptr, likeS_int, likeS_bool, likeS_str, likeS_lst, likeS_sl0, likeS_sl1, likeS_ptr, isPtr_ok, isSl_0, isSl_1, beq_self_b, Bool.and_self, Bool.and_true, Bool.true_and, Bool.and_false, Bool.false_and, cond_true, cond_false, Bool.not_true, Bool.not_false, h2]
theorem s9i (n : Nat) (L : Int) (h1 : 1 ≤ L) (h2 : L ≤ 256) : ev (n + 1) 9 [.v (.int .i64 L)] = some [.ob 60 [.ow false 31 1 (List.replicate (L * 8).toNat w0), .v (.bool false)], .v (.int .i64 0)] := by
  rw [ev9]
  have e : IntKind.i64.wrap (L * 8) = L * 8 := by rw [w_i64]; omega
  simp -implicitDefEqProofs only [some_bind', obCells_agg, obCells_ob, isOb_ok, isL_ok, isOw_ok, avXs_lst, avXs_ow, avNil_lst, avNil_ow, avNil_sl, avOff_sl, avCut_sl, isAgg_agg, nat_beq_self, List.length_cons, List.length_nil, Nat.reduceAdd, Nat.zero_add, isI_v, isB_v, isS_v, avInt_v, avBool_v, avStr_v, cellAt_zero, cellAt_succ, lget_zero, lget_succ, frAt_zero, frAt_succ, blAt_zero, blAt_succ, isEx_ok, isEx_ne, isEx_none, isRt_some, isRt_none, like_st, likeFG_nil, likeFG_cons, likeBG_nil, likeBG_obj, likeBG_row, likeSG_nil, likeSG_cons, likeT_nil, likeS_nil, isNP_nil, isNP_ob, likeT_ep, isEp_ep, epCells_ep, likeT_agg, likeT_int, likeT_bool, likeT_str, likeT_lst, likeT_sl0, likeT_sl1, likeT_ptr, likeS_int, likeS_bool, likeS_str, likeS_lst, likeS_sl0, likeS_sl1, likeS_ptr, isPtr_ok, isSl_0, isSl_1, beq_self_b, Bool.and_self, Bool.and_true, Bool.true_and, Bool.and_false, Bool.false_and, cond_true, cond_false, Bool.not_true, Bool.not_false, e, ltI_f h1, ltI_f h2, leI_t (show 0 ≤ L * 8 by omega), leI_t (show L * 8 ≤ L * 8 by omega), leI_t (show L * 8 * ((8 : Nat) : Int) ≤ 281474976710656 by omega), leI_t (show L * 8 ≤ 281474976710656 by omega)]
theorem s28r (n : Nat) (c : Bool) (xs : List (List AV)) (hN : 1 ≤ xs.length) (hN' : xs.length ≤ 4096) : ev (n + 1) 28 [.ep [.lst c 1 xs, .v (.bool false)] 0, .v (.int .i64 0), .v (.int .i64 (xs.length : Int))] = some [.v (.int .i64 0)] := by
  rw [ev28]
  have e : IntKind.i64.wrap ((xs.length : Int) - 0) = xs.length := by rw [w_i64]; omega
  simp -implicitDefEqProofs only [some_bind', obCells_agg, obCells_ob, isOb_ok, isL_ok, isOw_ok, avXs_lst, avXs_ow, avNil_lst, avNil_ow, avNil_sl, avOff_sl, avCut_sl, isAgg_agg, nat_beq_self, List.length_cons, List.length_nil, Nat.reduceAdd, Nat.zero_add, isI_v, isB_v, isS_v, avInt_v, avBool_v, avStr_v, cellAt_zero, cellAt_succ, lget_zero, lget_succ, frAt_zero, frAt_succ, blAt_zero, blAt_succ, isEx_ok, isEx_ne, isEx_none, isRt_some, isRt_none, like_st, likeFG_nil, likeFG_cons, likeBG_nil, likeBG_obj, likeBG_row, likeSG_nil, likeSG_cons, likeT_nil, likeS_nil, isNP_nil, isNP_ob, likeT_ep, isEp_ep, epCells_ep, likeT_agg, likeT_int, likeT_bool, likeT_str, likeT_lst, likeT_sl0, likeT_sl1, likeT_ptr, likeS_int, likeS_bool, likeS_str, likeS_lst, likeS_sl0, likeS_sl1, likeS_ptr, isPtr_ok, isSl_0, isSl_1, beq_self_b, Bool.and_self, Bool.and_true, Bool.true_and, Bool.and_false, Bool.false_and, cond_true, cond_false, Bool.not_true, Bool.not_false, ltI_f (show (1 : Int) ≤ (xs.length : Int) by omega), ltI_f (show (0 : Int) ≤ 0 by omega), leI_f (show (0 : Int) < (xs.length : Int) by omega), e, ltI_f (show (xs.length : Int) ≤ (xs.length : Int) by omega)]
theorem s11r (n : Nat) (c : Bool) (xs : List (List AV)) (hN : 1 ≤ xs.length) (hN' : xs.length ≤ 4096) : ∃ d, ev (n + 2) 11 [.ep [.lst c 1 xs, .v (.bool false)] 0, .v (.int .i64 0), .v (.int .i64 (xs.length : Int))] = some [.lst d 1 (bif c then [] else xs), .v (.int .i64 0)] := by
  rw [ev11, s28r n c xs hN hN']
  have e : IntKind.i64.wrap (0 + (xs.length : Int)) = xs.length := by rw [w_i64]; omega
  have e2 : List.take (((xs.length : Int)).toNat - (0 : Int).toNat) (List.drop (0 : Int).toNat xs) = xs := by simp
  cases c with
  | true =>
    refine ⟨true, ?_⟩
    simp -implicitDefEqProofs only [some_bind', obCells_agg, obCells_ob, isOb_ok, isL_ok, isOw_ok, avXs_lst, avXs_ow, avNil_lst, avNil_ow, avNil_sl, avOff_sl, avCut_sl, isAgg_agg, nat_beq_self, List.length_cons, List.length_nil, Nat.reduceAdd, Nat.zero_add, isI_v, isB_v, isS_v, avInt_v, avBool_v, avStr_v, cellAt_zero, cellAt_succ, lget_zero, lget_succ, frAt_zero, frAt_succ, blAt_zero, blAt_succ, isEx_ok, isEx_ne, isEx_none, isRt_some, isRt_none, like_st, likeFG_nil, likeFG_cons, likeBG_nil, likeBG_obj, likeBG_row, likeSG_nil, likeSG_cons, likeT_nil, likeS_nil, isNP_nil, isNP_ob, likeT_ep, isEp_ep, epCells_ep, likeT_agg, likeT_int, likeT_bool, likeT_str, likeT_lst, likeT_sl0, likeT_sl1, likeT_ptr, likeS_int, likeS_bool, likeS_str, likeS_lst, likeS_sl0, likeS_sl1, likeS_ptr, isPtr_ok, isSl_0, isSl_1, beq_self_b, Bool.and_self, Bool.and_true, Bool.true_and, Bool.and_false, Bool.false_and, cond_true, cond_false, Bool.not_true, Bool.not_false, e, e2, beq_self_i, leI_t (show (0 : Int) ≤ 0 by omega), leI_t (show (0 : Int) ≤ (xs.length : Int) by omega), leI_t (show (xs.length : Int) ≤ (xs.length : Int) by omega), ev29]
  | false =>
    refine ⟨(List.isEmpty xs && false), ?_⟩
    simp -implicitDefEqProofs only [some_bind', obCells_agg, obCells_ob, isOb_ok, isL_ok, isOw_ok, avXs_lst, avXs_ow, avNil_lst, avNil_ow, avNil_sl, avOff_sl, avCut_sl, isAgg_agg, nat_beq_self, List.length_cons, List.length_nil, Nat.reduceAdd, Nat.zero_add, isI_v, isB_v, isS_v, avInt_v, avBool_v, avStr_v, cellAt_zero, cellAt_succ, lget_zero, lget_succ, frAt_zero, frAt_succ, blAt_zero, blAt_succ, isEx_ok, isEx_ne, isEx_none, isRt_some, isRt_none, like_st, likeFG_nil, likeFG_cons, likeBG_nil, likeBG_obj, likeBG_row, likeSG_nil, likeSG_cons, likeT_nil, likeS_nil, isNP_nil, isNP_ob, likeT_ep, isEp_ep, epCells_ep, likeT_agg, likeT_int, likeT_bool, likeT_str, likeT_lst, likeT_sl0, likeT_sl1, likeT_ptr, likeS_int, likeS_bool, likeS_str, likeS_lst, likeS_sl0, likeS_sl1, likeS_ptr, isPtr_ok, isSl_0, isSl_1, beq_self_b, Bool.and_self, Bool.and_true, Bool.true_and, Bool.and_false, Bool.false_and, cond_true, cond_false, Bool.not_true, Bool.not_false, e, e2, beq_self_i, leI_t (show (0 : Int) ≤ 0 by omega), leI_t (show (0 : Int) ≤ (xs.length : Int) by omega), leI_t (show (xs.length : Int) ≤ (xs.length : Int) by omega), ev29, leN_t (show xs.length * 8 ≤ 140737488355328 by omega), List.nil_append]
theorem new (n : Nat) (x : Int) (hx : -9223372036854775808 ≤ x ∧ x ≤ 9223372036854775807) : ev (n + 2200) 3 [.v (.int .i64 x)] = some [.v (.bool true)] := by
  rw [ev3]
  obtain ⟨L, hL, e⟩ := lines (n + 2198) x hx
  refine bnd e ?_
  have h10 := s10 (n + 2191)
  by_cases h : L < 1 ∨ 256 < L
  · have h9 := s9o (n + 2198) L h
    cases h1 : ltI L 1 with
    | true => simp -implicitDefEqProofs only [some_bind', obCells_agg, obCells_ob, isOb_ok, isL_ok, isOw_ok, avXs_lst, avXs_ow, avNil_lst, avNil_ow, avNil_sl, avOff_sl, avCut_sl, isAgg_agg, nat_beq_self, List.length_cons, List.length_nil, Nat.reduceAdd, Nat.zero_add, isI_v, isB_v, isS_v, avInt_v, avBool_v, avStr_v, cellAt_zero, cellAt_succ, lget_zero, lget_succ, frAt_zero, frAt_succ, blAt_zero, blAt_succ, isEx_ok, isEx_ne, isEx_none, isRt_some, isRt_none, like_st, likeFG_nil, likeFG_cons, likeBG_nil, likeBG_obj, likeBG_row, likeSG_nil, likeSG_cons, likeT_nil, likeS_nil, isNP_nil, isNP_ob, likeT_ep, isEp_ep, epCells_ep, likeT_agg, likeT_int, likeT_bool, likeT_str, likeT_lst, likeT_sl0, likeT_sl1, likeT_ptr, likeS_int, likeS_bool, likeS_str, likeS_lst, likeS_sl0, likeS_sl1, likeS_ptr, isPtr_ok, isSl_0, isSl_1, beq_self_b, Bool.and_self, Bool.and_true, Bool.true_and, Bool.and_false, Bool.false_and, cond_true, cond_false, Bool.not_true, Bool.not_false, h9, h1, h10, beq_self_i]
    | false =>
      have h2 : ltI 256 L = true := by
        rcases h with h | h
        · rw [ltI_t h] at h1; cases h1
        · exact ltI_t h
      simp -implicitDefEqProofs only [some_bind', obCells_agg, obCells_ob, isOb_ok, isL_ok, isOw_ok, avXs_lst, avXs_ow, avNil_lst, avNil_ow, avNil_sl, avOff_sl, avCut_sl, isAgg_agg, nat_beq_self, List.length_cons, List.length_nil, Nat.reduceAdd, Nat.zero_add, isI_v, isB_v, isS_v, avInt_v, avBool_v, avStr_v, cellAt_zero, cellAt_succ, lget_zero, lget_succ, frAt_zero, frAt_succ, blAt_zero, blAt_succ, isEx_ok, isEx_ne, isEx_none, isRt_some, isRt_none, like_st, likeFG_nil, likeFG_cons, likeBG_nil, likeBG_obj, likeBG_row, likeSG_nil, likeSG_cons, likeT_nil, likeS_nil, isNP_nil, isNP_ob, likeT_ep, isEp_ep, epCells_ep, likeT_agg, likeT_int, likeT_bool, likeT_str, likeT_lst, likeT_sl0, likeT_sl1, likeT_ptr, likeS_int, likeS_bool, likeS_str, likeS_lst, likeS_sl0, likeS_sl1, likeS_ptr, isPtr_ok, isSl_0, isSl_1, beq_self_b, Bool.and_self, Bool.and_true, Bool.true_and, Bool.and_false, Bool.false_and, cond_true, cond_false, Bool.not_true, Bool.not_false, h9, h1, h2, h10, beq_self_i]
  · have h9 := s9i (n + 2198) L (by omega) (by omega)
    have e1 : IntKind.i64.wrap (L * 8) = L * 8 := by rw [w_i64]; omega
    obtain ⟨N, hN⟩ : ∃ N : Nat, L * 8 = N := ⟨(L * 8).toNat, by omega⟩
    have e2 : (L * 8).toNat = N := by omega
    rw [e2] at h9
    have e1' : IntKind.i64.wrap (N : Int) = N := by rw [w_i64]; omega
    obtain ⟨d, h11⟩ := s11r (n + 2197) false (List.replicate N w0) (by simp; omega) (by simp; omega)
    rw [List.length_replicate] at h11
    have hlp := lp3 (n + 2199) L 0 0 d false false N (List.replicate N w0) (by omega) N 0 (n + 2199) (by omega) (by omega)
    have h12 : ev (n + 2199) 12 [.ep [.lst false 1 (List.replicate N w0), .v (.bool false)] 0] = some [.v (.int .u64 0)] := by
      rw [ev12]
      have e3 : lget (List.replicate N w0) 1 = w0 := by unfold lget; simp [show 1 < N by omega]
      simp -implicitDefEqProofs only [some_bind', obCells_agg, obCells_ob, isOb_ok, isL_ok, isOw_ok, avXs_lst, avXs_ow, avNil_lst, avNil_ow, avNil_sl, avOff_sl, avCut_sl, isAgg_agg, nat_beq_self, List.length_cons, List.length_nil, Nat.reduceAdd, Nat.zero_add, isI_v, isB_v, isS_v, avInt_v, avBool_v, avStr_v, cellAt_zero, cellAt_succ, lget_zero, lget_succ, frAt_zero, frAt_succ, blAt_zero, blAt_succ, isEx_ok, isEx_ne, isEx_none, isRt_some, isRt_none, like_st, likeFG_nil, likeFG_cons, likeBG_nil, likeBG_obj, likeBG_row, likeSG_nil, likeSG_cons, likeT_nil, likeS_nil, isNP_nil, isNP_ob, likeT_ep, isEp_ep, epCells_ep, likeT_agg, likeT_int, likeT_bool, likeT_str, likeT_lst, likeT_sl0, likeT_sl1, likeT_ptr, likeS_int, likeS_bool, likeS_str, likeS_lst, likeS_sl0, likeS_sl1, likeS_ptr, isPtr_ok, isSl_0, isSl_1, beq_self_b, Bool.and_self, Bool.and_true, Bool.true_and, Bool.and_false, Bool.false_and, cond_true, cond_false, Bool.not_true, Bool.not_false, e3, List.length_replicate, ltI_t (show (1 : Int) < (N : Int) by omega)]
    simp only [cond_false] at h11
    rw [show ((0 : Nat) : Int) = 0 from rfl] at hlp
    simp -implicitDefEqProofs only [some_bind', obCells_agg, obCells_ob, isOb_ok, isL_ok, isOw_ok, avXs_lst, avXs_ow, avNil_lst, avNil_ow, avNil_sl, avOff_sl, avCut_sl, isAgg_agg, nat_beq_self, List.length_cons, List.length_nil, Nat.reduceAdd, Nat.zero_add, isI_v, isB_v, isS_v, avInt_v, avBool_v, avStr_v, cellAt_zero, cellAt_succ, lget_zero, lget_succ, frAt_zero, frAt_succ, blAt_zero, blAt_succ, isEx_ok, isEx_ne, isEx_none, isRt_some, isRt_none, like_st, likeFG_nil, likeFG_cons, likeBG_nil, likeBG_obj, likeBG_row, likeSG_nil, likeSG_cons, likeT_nil, likeS_nil, isNP_nil, isNP_ob, likeT_ep, isEp_ep, epCells_ep, likeT_agg, likeT_int, likeT_bool, likeT_str, likeT_lst, likeT_sl0, likeT_sl1, likeT_ptr, likeS_int, likeS_bool, likeS_str, likeS_lst, likeS_sl0, likeS_sl1, likeS_ptr, isPtr_ok, isSl_0, isSl_1, beq_self_b, Bool.and_self, Bool.and_true, Bool.true_and, Bool.and_false, Bool.false_and, cond_true, cond_false, Bool.not_true, Bool.not_false, h9, h10, beq_self_i, ltI_f (show 1 ≤ L by omega), ltI_f (show L ≤ 256 by omega), e1', hN, h11, hlp, h12, List.length_replicate]
theorem new_all {N : Nat} (l : List AV) (h : TypA Try.prog N Try.f3.params.toList l) : ∃ n, evF Try.prog cfg n 3 l = some [.v (.bool true)] := by
  rw [show Try.f3.params.toList = [3] by kernel_rfl] at h
  obtain ⟨a0, r, rfl, h0, h⟩ := h
  obtain rfl : r = [] := h
  obtain ⟨a0, rfl, f0_0⟩ := openV3 h0
  exact ⟨0 + 2200, new 0 a0 f0_0⟩
end Go.Proofs.Ytokagdgcfmjlnaa
