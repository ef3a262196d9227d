/- What the chapter's functions are. -/
import Derived.Test.YteadkackiemfbaaTy
set_option linter.all false
namespace Go.Proofs.Yteadkackiemfbaa
open Go.Ev
attribute [local congr] bind_first cond_first
structure Vc where
  c0 : Int
  c1 : Int
  c2 : Int
  c3 : Int
  c4 : Int
  c5 : Int
abbrev vcl (a b c d e f : Int) : List AV := [.v (.int .u64 a), .v (.int .u64 b), .v (.int .u64 c), .v (.int .u64 d), .v (.int .u64 e), .v (.int .u64 f)]
def Vc.row (v : Vc) : List AV := vcl v.c0 v.c1 v.c2 v.c3 v.c4 v.c5
theorem Vc.row_eq (v : Vc) : v.row = vcl v.c0 v.c1 v.c2 v.c3 v.c4 v.c5 := rfl
def mx (a b : Int) : Int := if b > a then b else a
def join (a b : Vc) : Vc := ⟨mx a.c0 b.c0, mx a.c1 b.c1, mx a.c2 b.c2, mx a.c3 b.c3, mx a.c4 b.c4, mx a.c5 b.c5⟩
def veq (a b : Vc) : Bool := (a.c0 == b.c0) && ((a.c1 == b.c1) && ((a.c2 == b.c2) && ((a.c3 == b.c3) && ((a.c4 == b.c4) && (a.c5 == b.c5)))))
def incl (a b : Vc) : Bool := veq (join a b) a
theorem mx_iff (a b : Int) : mx a b = a ↔ b ≤ a := by unfold mx; split <;> omega
theorem veq_iff (a b : Vc) : veq a b = true ↔ a.c0 = b.c0 ∧ a.c1 = b.c1 ∧ a.c2 = b.c2 ∧ a.c3 = b.c3 ∧ a.c4 = b.c4 ∧ a.c5 = b.c5 := by
  simp only [veq, Bool.and_eq_true, beq_iff_eq]
theorem incl_iff (a b : Vc) : incl a b = true ↔ b.c0 ≤ a.c0 ∧ b.c1 ≤ a.c1 ∧ b.c2 ≤ a.c2 ∧ b.c3 ≤ a.c3 ∧ b.c4 ≤ a.c4 ∧ b.c5 ≤ a.c5 := by
  unfold incl
  rw [veq_iff]
  simp only [join, mx_iff]
theorem s_Join (a b : Vc) : ev 6 [.agg (vcl a.c0 a.c1 a.c2 a.c3 a.c4 a.c5), .agg (vcl b.c0 b.c1 b.c2 b.c3 b.c4 b.c5)] = some [.agg (join a b).row] := by
  rw [ev6]; rfl
theorem s_Includes (a b : Vc) : ev 8 [.agg (vcl a.c0 a.c1 a.c2 a.c3 a.c4 a.c5), .agg (vcl b.c0 b.c1 b.c2 b.c3 b.c4 b.c5)] = some [.v (.bool (incl a b))] := by
  rw [ev8, s_Join]
  simp -implicitDefEqProofs only [some_bind', obCells_agg, obCells_ob, isOb_ok, isL_ok, isOw_ok, avXs_lst, avXs_ow, avNil_lst, avNil_ow, avNil_sl, avOff_sl, avCut_sl, isAgg_agg, nat_beq_self, List.length_cons, List.length_nil, Nat.reduceAdd, Nat.zero_add, isI_v, isB_v, isS_v, avInt_v, avBool_v, avStr_v, cellAt_zero, cellAt_succ, lget_zero, lget_succ, frAt_zero, frAt_succ, blAt_zero, blAt_succ, isEx_ok, isEx_ne, isEx_none, isRt_some, isRt_none, like_st, likeFG_nil, likeFG_cons, likeBG_nil, likeBG_obj, likeBG_row, likeSG_nil, likeSG_cons, likeT_nil, likeS_nil, isNP_nil, isNP_ob, likeT_ep, isEp_ep, epCells_ep, likeT_agg, likeT_int, likeT_bool, likeT_str, likeT_lst, likeT_sl0, likeT_sl1, likeT_ptr, likeS_int, likeS_bool, likeS_str, likeS_lst, likeS_sl0, likeS_sl1, likeS_ptr, isPtr_ok, isSl_0, isSl_1, beq_self_b, Bool.and_self, Bool.and_true, Bool.true_and, Bool.and_false, Bool.false_and, cond_true, cond_false, Bool.not_true, Bool.not_false, Vc.row_eq]
  rfl
def okT (c s : Int) : Bool := decide (0 ≤ c ∧ c < 6 ∧ 1 ≤ s ∧ s < 1073741824)
theorem okT_iff {c s : Int} : okT c s = true ↔ (0 ≤ c ∧ c < 6 ∧ 1 ≤ s ∧ s < 1073741824) := decide_eq_true_iff
theorem s_Stamp (c s : Int) : ev 14 [.v (.int .i64 c), .v (.int .i64 s)] = some [.v (.int .u64 (if okT c s then s * 256 + (c + 1) else 0))] := by
  rw [ev14]
  by_cases h : 0 ≤ c ∧ c < 6 ∧ 1 ≤ s ∧ s < 1073741824
  · rw [if_pos (okT_iff.2 h), ltI_f (by omega), leI_f (by omega), ltI_f (by omega), leI_f (by omega)]
    simp only [cond_false]
    have e1 : IntKind.u64.wrap (IntKind.u64.wrap s * (2 ^ 8)) = s * 256 := by rw [w_u64, w_u64]; omega
    have e2 : IntKind.u64.wrap (IntKind.i64.wrap (c + 1)) = c + 1 := by rw [w_u64, w_i64]; omega
    rw [e1, e2, or_u64 8 _ _ (by omega) (by omega) (by omega) (by omega) (by omega) (by omega)]
  · have hf : okT c s = false := by
      cases e : okT c s with
      | false => rfl
      | true => exact absurd (okT_iff.1 e) h
    rw [hf, if_neg (by decide)]
    by_cases h1 : c < 0
    · rw [ltI_t h1]; rfl
    · by_cases h2 : 6 ≤ c
      · rw [ltI_f (by omega), leI_t h2]; rfl
      · by_cases h3 : s < 1
        · rw [ltI_f (by omega), leI_f (by omega), ltI_t h3]; rfl
        · rw [ltI_f (by omega), leI_f (by omega), ltI_f (by omega), leI_t (by omega)]; rfl
def okS (x : Int) : Bool := okT (x % 256 - 1) (x / 256)
theorem s_Origin (x : Int) (h0 : 0 ≤ x) (h1 : x < 18446744073709551616) : ev 18 [.v (.int .u64 x)] = some [.v (.int .i64 (if okS x then x % 256 - 1 else 0)), .v (.int .i64 (if okS x then x / 256 else 0)), .v (.bool (okS x))] := by
  rw [ev18, and_u64 8 (by decide) x 255 (by decide) h0 h1, fdiv_pos _ _ (by decide)]
  have e1 : IntKind.i64.wrap (IntKind.i64.wrap (x % 2 ^ 8) - 1) = x % 256 - 1 := by rw [w_i64, w_i64]; omega
  have e2 : IntKind.i64.wrap (x / (2 ^ 8)) = x / 256 := by rw [w_i64]; omega
  rw [e1, e2, s_Stamp]
  cases h : okS x with
  | true =>
    have := okT_iff.1 h
    unfold okS at h
    simp -implicitDefEqProofs only [some_bind', obCells_agg, obCells_ob, isOb_ok, isL_ok, isOw_ok, avXs_lst, avXs_ow, avNil_lst, avNil_ow, avNil_sl, avOff_sl, avCut_sl, isAgg_agg, nat_beq_self, List.length_cons, List.length_nil, Nat.reduceAdd, Nat.zero_add, isI_v, isB_v, isS_v, avInt_v, avBool_v, avStr_v, cellAt_zero, cellAt_succ, lget_zero, lget_succ, frAt_zero, frAt_succ, blAt_zero, blAt_succ, isEx_ok, isEx_ne, isEx_none, isRt_some, isRt_none, like_st, likeFG_nil, likeFG_cons, likeBG_nil, likeBG_obj, likeBG_row, likeSG_nil, likeSG_cons, likeT_nil, likeS_nil, isNP_nil, isNP_ob, likeT_ep, isEp_ep, epCells_ep, likeT_agg, likeT_int, likeT_bool, likeT_str, likeT_lst, likeT_sl0, likeT_sl1, likeT_ptr, likeS_int, likeS_bool, likeS_str, likeS_lst, likeS_sl0, likeS_sl1, likeS_ptr, isPtr_ok, isSl_0, isSl_1, beq_self_b, Bool.and_self, Bool.and_true, Bool.true_and, Bool.and_false, Bool.false_and, cond_true, cond_false, Bool.not_true, Bool.not_false, ltI_f this.1, h, if_true, beq_eq_false_iff_ne.2 (show x / 256 * 256 + (x % 256 - 1 + 1) ≠ 0 by omega)]
  | false =>
    unfold okS at h
    by_cases h2 : x % 256 - 1 < 0
    · rw [ltI_t h2]; rfl
    · simp -implicitDefEqProofs only [some_bind', obCells_agg, obCells_ob, isOb_ok, isL_ok, isOw_ok, avXs_lst, avXs_ow, avNil_lst, avNil_ow, avNil_sl, avOff_sl, avCut_sl, isAgg_agg, nat_beq_self, List.length_cons, List.length_nil, Nat.reduceAdd, Nat.zero_add, isI_v, isB_v, isS_v, avInt_v, avBool_v, avStr_v, cellAt_zero, cellAt_succ, lget_zero, lget_succ, frAt_zero, frAt_succ, blAt_zero, blAt_succ, isEx_ok, isEx_ne, isEx_none, isRt_some, isRt_none, like_st, likeFG_nil, likeFG_cons, likeBG_nil, likeBG_obj, likeBG_row, likeSG_nil, likeSG_cons, likeT_nil, likeS_nil, isNP_nil, isNP_ob, likeT_ep, isEp_ep, epCells_ep, likeT_agg, likeT_int, likeT_bool, likeT_str, likeT_lst, likeT_sl0, likeT_sl1, likeT_ptr, likeS_int, likeS_bool, likeS_str, likeS_lst, likeS_sl0, likeS_sl1, likeS_ptr, isPtr_ok, isSl_0, isSl_1, beq_self_b, Bool.and_self, Bool.and_true, Bool.true_and, Bool.and_false, Bool.false_and, cond_true, cond_false, Bool.not_true, Bool.not_false, ltI_f (show 0 ≤ x % 256 - 1 by omega), h, Bool.false_eq_true, if_false, beq_self_i]
def vget (v : Vc) (i : Nat) : Int := cond (Nat.beq i 0) v.c0 (cond (Nat.beq i 1) v.c1 (cond (Nat.beq i 2) v.c2 (cond (Nat.beq i 3) v.c3 (cond (Nat.beq i 4) v.c4 v.c5))))
def vis (v : Vc) (x : Int) : Bool := okS x && leI (x / 256) (vget v (x % 256 - 1).toNat)
theorem s_Visible (v : Vc) (x : Int) (h0 : 0 ≤ x) (h1 : x < 18446744073709551616) : ev 9 [.agg (vcl v.c0 v.c1 v.c2 v.c3 v.c4 v.c5), .v (.int .u64 x)] = some [.v (.bool (vis v x))] := by
  rw [ev9, s_Origin x h0 h1]
  unfold vis
  cases h : okS x with
  | false => simp -implicitDefEqProofs only [some_bind', obCells_agg, obCells_ob, isOb_ok, isL_ok, isOw_ok, avXs_lst, avXs_ow, avNil_lst, avNil_ow, avNil_sl, avOff_sl, avCut_sl, isAgg_agg, nat_beq_self, List.length_cons, List.length_nil, Nat.reduceAdd, Nat.zero_add, isI_v, isB_v, isS_v, avInt_v, avBool_v, avStr_v, cellAt_zero, cellAt_succ, lget_zero, lget_succ, frAt_zero, frAt_succ, blAt_zero, blAt_succ, isEx_ok, isEx_ne, isEx_none, isRt_some, isRt_none, like_st, likeFG_nil, likeFG_cons, likeBG_nil, likeBG_obj, likeBG_row, likeSG_nil, likeSG_cons, likeT_nil, likeS_nil, isNP_nil, isNP_ob, likeT_ep, isEp_ep, epCells_ep, likeT_agg, likeT_int, likeT_bool, likeT_str, likeT_lst, likeT_sl0, likeT_sl1, likeT_ptr, likeS_int, likeS_bool, likeS_str, likeS_lst, likeS_sl0, likeS_sl1, likeS_ptr, isPtr_ok, isSl_0, isSl_1, beq_self_b, Bool.and_self, Bool.and_true, Bool.true_and, Bool.and_false, Bool.false_and, cond_true, cond_false, Bool.not_true, Bool.not_false, Bool.false_eq_true, if_false]
  | true =>
    have := okT_iff.1 h
    have e : IntKind.u64.wrap (x / 256) = x / 256 := by rw [w_u64]; omega
    simp -implicitDefEqProofs only [some_bind', obCells_agg, obCells_ob, isOb_ok, isL_ok, isOw_ok, avXs_lst, avXs_ow, avNil_lst, avNil_ow, avNil_sl, avOff_sl, avCut_sl, isAgg_agg, nat_beq_self, List.length_cons, List.length_nil, Nat.reduceAdd, Nat.zero_add, isI_v, isB_v, isS_v, avInt_v, avBool_v, avStr_v, cellAt_zero, cellAt_succ, lget_zero, lget_succ, frAt_zero, frAt_succ, blAt_zero, blAt_succ, isEx_ok, isEx_ne, isEx_none, isRt_some, isRt_none, like_st, likeFG_nil, likeFG_cons, likeBG_nil, likeBG_obj, likeBG_row, likeSG_nil, likeSG_cons, likeT_nil, likeS_nil, isNP_nil, isNP_ob, likeT_ep, isEp_ep, epCells_ep, likeT_agg, likeT_int, likeT_bool, likeT_str, likeT_lst, likeT_sl0, likeT_sl1, likeT_ptr, likeS_int, likeS_bool, likeS_str, likeS_lst, likeS_sl0, likeS_sl1, likeS_ptr, isPtr_ok, isSl_0, isSl_1, beq_self_b, Bool.and_self, Bool.and_true, Bool.true_and, Bool.and_false, Bool.false_and, cond_true, cond_false, Bool.not_true, Bool.not_false, if_true, leI_t this.1, ltI_t this.2.1, e]
    rfl
theorem vget_le {a b : Vc} (h : incl a b = true) (i : Nat) : vget b i ≤ vget a i := by
  have := (incl_iff a b).1 h
  unfold vget
  cases Nat.beq i 0 <;> cases Nat.beq i 1 <;> cases Nat.beq i 2 <;> cases Nat.beq i 3 <;> cases Nat.beq i 4 <;> simp only [cond_true, cond_false] <;> omega
theorem vis_incl {a b : Vc} (h : incl a b = true) (x : Int) (hv : vis b x = true) : vis a x = true := by
  unfold vis at *
  simp only [Bool.and_eq_true] at *
  exact ⟨hv.1, leI_iff.2 (Int.le_trans (leI_iff.1 hv.2) (vget_le h _))⟩
theorem vis_join (a b : Vc) (x : Int) : vis (join a b) x = (vis a x || vis b x) := by
  have hv : vget (join a b) (x % 256 - 1).toNat = mx (vget a (x % 256 - 1).toNat) (vget b (x % 256 - 1).toNat) := by
    unfold vget join
    cases Nat.beq (x % 256 - 1).toNat 0 <;> cases Nat.beq (x % 256 - 1).toNat 1 <;> cases Nat.beq (x % 256 - 1).toNat 2 <;> cases Nat.beq (x % 256 - 1).toNat 3 <;> cases Nat.beq (x % 256 - 1).toNat 4 <;> rfl
  unfold vis
  rw [hv]
  cases okS x
  · rfl
  · generalize vget a _ = p
    generalize vget b _ = q
    generalize x / 256 = r
    simp only [Bool.true_and]
    rw [Bool.eq_iff_iff, Bool.or_eq_true, leI_iff, leI_iff, leI_iff]
    unfold mx
    split <;> omega
theorem incl_refl (a : Vc) : incl a a = true := (incl_iff a a).2 (by omega)
theorem incl_l (a b : Vc) : incl (join a b) a = true := (incl_iff _ _).2 (by simp only [join, mx]; refine ⟨?_, ?_, ?_, ?_, ?_, ?_⟩ <;> split <;> omega)
theorem incl_r (a b : Vc) : incl (join a b) b = true := (incl_iff _ _).2 (by simp only [join, mx]; refine ⟨?_, ?_, ?_, ?_, ?_, ?_⟩ <;> split <;> omega)
theorem incl_anti {a b : Vc} (h : incl a b = true) (k : incl b a = true) : veq a b = true := (veq_iff a b).2 (by have := (incl_iff a b).1 h; have := (incl_iff b a).1 k; omega)
theorem incl_trans {a b c : Vc} (h : incl a b = true) (k : incl b c = true) : incl a c = true := (incl_iff a c).2 (by have := (incl_iff a b).1 h; have := (incl_iff b c).1 k; omega)
theorem incl_lub {a b c : Vc} (h : incl c a = true) (k : incl c b = true) : incl c (join a b) = true := (incl_iff c _).2 (by
  have := (incl_iff c a).1 h; have := (incl_iff c b).1 k
  simp only [join, mx]; refine ⟨?_, ?_, ?_, ?_, ?_, ?_⟩ <;> split <;> omega)
end Go.Proofs.Yteadkackiemfbaa
