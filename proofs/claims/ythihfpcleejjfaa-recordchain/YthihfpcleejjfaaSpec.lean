/- What the chapter's functions are. -/
import Derived.Test.YthihfpcleejjfaaTy
set_option linter.all false
namespace Go.Proofs.Ythihfpcleejjfaa
open Go.Ev
attribute [local congr] bind_first cond_first
def valid (l g : Int) : Bool := decide (104 ≤ l ∧ l < 256 ∧ 1 ≤ g ∧ g ≤ 16777215)
theorem valid_iff {l g : Int} : valid l g = true ↔ (104 ≤ l ∧ l < 256 ∧ 1 ≤ g ∧ g ≤ 16777215) := decide_eq_true_iff
def pack (l g : Int) : Int := if valid l g then g * 256 + l else 0
theorem pack_range (l g : Int) : 0 ≤ pack l g ∧ pack l g < 4294967296 := by
  unfold pack; split
  · rename_i h; have := valid_iff.1 h; omega
  · omega

theorem s_Pick (a m : Int) (hm : 0 < m) (hm' : m ≤ 4611686018427387904) : ev 9 [.v (.int .i64 a), .v (.int .i64 m)] = some [.v (.int .i64 (pick a m))] := by
  rw [ev9]
  simp only [ltI_f (show 1 ≤ m by omega), eqI_f (show m ≠ 0 by omega), cond_false, pick_ok hm hm']
theorem s_pinHeap (l : Int) : ev 50 [.v (.int .i64 l)] = some [.v (.bool (leI 104 l && ltI l 256))] := by
  rw [ev50]; cases leI 104 l <;> rfl
theorem s_RheapLine (l : Int) : ev 47 [.v (.int .i64 l)] = some [.v (.bool (leI 104 l && ltI l 256))] := by
  rw [ev47]; cases leI 104 l <;> rfl
theorem valid_eq (l g : Int) : (leI 104 l && ltI l 256 && leI 1 g && leI g 16777215) = valid l g := by
  unfold valid leI ltI
  rw [Bool.eq_iff_iff]
  simp only [Bool.and_eq_true, decide_eq_true_eq]
  omega
theorem s_pValid (l g : Int) : ev 42 [.agg [.v (.int .i64 l), .v (.int .i64 g)]] = some [.v (.bool (valid l g))] := by
  rw [ev42, s_pinHeap, ← valid_eq]
  simp -implicitDefEqProofs only [some_bind', obCells_agg, obCells_ob, isOb_ok, isL_ok, isOw_ok, avXs_lst, avXs_ow, avNil_lst, avNil_ow, avNil_sl, avOff_sl, avCut_sl, isAgg_agg, nat_beq_self, List.length_cons, List.length_nil, Nat.reduceAdd, Nat.zero_add, isI_v, isB_v, isS_v, avInt_v, avBool_v, avStr_v, cellAt_zero, cellAt_succ, lget_zero, lget_succ, frAt_zero, frAt_succ, blAt_zero, blAt_succ, isEx_ok, isEx_ne, isEx_none, isRt_some, isRt_none, like_st, likeFG_nil, likeFG_cons, likeBG_nil, likeBG_obj, likeBG_row, likeSG_nil, likeSG_cons, likeT_nil, likeS_nil, isNP_nil, isNP_ob, likeT_ep, isEp_ep, epCells_ep, likeT_agg, likeT_int, likeT_bool, likeT_str, likeT_lst, likeT_sl0, likeT_sl1, likeT_ptr, likeS_int, likeS_bool, likeS_str, likeS_lst, likeS_sl0, likeS_sl1, likeS_ptr, isPtr_ok, isSl_0, isSl_1, beq_self_b, Bool.and_self, Bool.and_true, Bool.true_and, Bool.and_false, Bool.false_and, cond_true, cond_false, Bool.not_true, Bool.not_false]
  cases (leI 104 l && ltI l 256) <;> cases leI 1 g <;> rfl
theorem s_RValidPointer (l g : Int) : ev 43 [.agg [.v (.int .i64 l), .v (.int .i64 g)]] = some [.v (.bool (valid l g))] := by
  rw [ev43, s_RheapLine, ← valid_eq]
  simp -implicitDefEqProofs only [some_bind', obCells_agg, obCells_ob, isOb_ok, isL_ok, isOw_ok, avXs_lst, avXs_ow, avNil_lst, avNil_ow, avNil_sl, avOff_sl, avCut_sl, isAgg_agg, nat_beq_self, List.length_cons, List.length_nil, Nat.reduceAdd, Nat.zero_add, isI_v, isB_v, isS_v, avInt_v, avBool_v, avStr_v, cellAt_zero, cellAt_succ, lget_zero, lget_succ, frAt_zero, frAt_succ, blAt_zero, blAt_succ, isEx_ok, isEx_ne, isEx_none, isRt_some, isRt_none, like_st, likeFG_nil, likeFG_cons, likeBG_nil, likeBG_obj, likeBG_row, likeSG_nil, likeSG_cons, likeT_nil, likeS_nil, isNP_nil, isNP_ob, likeT_ep, isEp_ep, epCells_ep, likeT_agg, likeT_int, likeT_bool, likeT_str, likeT_lst, likeT_sl0, likeT_sl1, likeT_ptr, likeS_int, likeS_bool, likeS_str, likeS_lst, likeS_sl0, likeS_sl1, likeS_ptr, isPtr_ok, isSl_0, isSl_1, beq_self_b, Bool.and_self, Bool.and_true, Bool.true_and, Bool.and_false, Bool.false_and, cond_true, cond_false, Bool.not_true, Bool.not_false]
  cases (leI 104 l && ltI l 256) <;> cases leI 1 g <;> rfl
theorem s_pPack (l g : Int) : ev 53 [.agg [.v (.int .i64 l), .v (.int .i64 g)]] = some [.v (.int .u32 (pack l g))] := by
  rw [ev53, s_pValid]
  simp -implicitDefEqProofs only [some_bind', obCells_agg, obCells_ob, isOb_ok, isL_ok, isOw_ok, avXs_lst, avXs_ow, avNil_lst, avNil_ow, avNil_sl, avOff_sl, avCut_sl, isAgg_agg, nat_beq_self, List.length_cons, List.length_nil, Nat.reduceAdd, Nat.zero_add, isI_v, isB_v, isS_v, avInt_v, avBool_v, avStr_v, cellAt_zero, cellAt_succ, lget_zero, lget_succ, frAt_zero, frAt_succ, blAt_zero, blAt_succ, isEx_ok, isEx_ne, isEx_none, isRt_some, isRt_none, like_st, likeFG_nil, likeFG_cons, likeBG_nil, likeBG_obj, likeBG_row, likeSG_nil, likeSG_cons, likeT_nil, likeS_nil, isNP_nil, isNP_ob, likeT_ep, isEp_ep, epCells_ep, likeT_agg, likeT_int, likeT_bool, likeT_str, likeT_lst, likeT_sl0, likeT_sl1, likeT_ptr, likeS_int, likeS_bool, likeS_str, likeS_lst, likeS_sl0, likeS_sl1, likeS_ptr, isPtr_ok, isSl_0, isSl_1, beq_self_b, Bool.and_self, Bool.and_true, Bool.true_and, Bool.and_false, Bool.false_and, cond_true, cond_false, Bool.not_true, Bool.not_false]
  unfold pack
  cases h : valid l g with
  | false => rfl
  | true =>
    have := valid_iff.1 h
    simp -implicitDefEqProofs only [some_bind', obCells_agg, obCells_ob, isOb_ok, isL_ok, isOw_ok, avXs_lst, avXs_ow, avNil_lst, avNil_ow, avNil_sl, avOff_sl, avCut_sl, isAgg_agg, nat_beq_self, List.length_cons, List.length_nil, Nat.reduceAdd, Nat.zero_add, isI_v, isB_v, isS_v, avInt_v, avBool_v, avStr_v, cellAt_zero, cellAt_succ, lget_zero, lget_succ, frAt_zero, frAt_succ, blAt_zero, blAt_succ, isEx_ok, isEx_ne, isEx_none, isRt_some, isRt_none, like_st, likeFG_nil, likeFG_cons, likeBG_nil, likeBG_obj, likeBG_row, likeSG_nil, likeSG_cons, likeT_nil, likeS_nil, isNP_nil, isNP_ob, likeT_ep, isEp_ep, epCells_ep, likeT_agg, likeT_int, likeT_bool, likeT_str, likeT_lst, likeT_sl0, likeT_sl1, likeT_ptr, likeS_int, likeS_bool, likeS_str, likeS_lst, likeS_sl0, likeS_sl1, likeS_ptr, isPtr_ok, isSl_0, isSl_1, beq_self_b, Bool.and_self, Bool.and_true, Bool.true_and, Bool.and_false, Bool.false_and, cond_true, cond_false, Bool.not_true, Bool.not_false, if_true, w_u32]
    rw [or_u32 8 _ _ (by omega) (by omega) (by omega) (by omega) (by omega) (by omega)]
    exact int1 (by omega)
theorem s_RPack (l g : Int) : ev 41 [.agg [.v (.int .i64 l), .v (.int .i64 g)]] = some [.v (.int .u32 (pack l g))] := by
  rw [ev41, s_RValidPointer]
  simp -implicitDefEqProofs only [some_bind', obCells_agg, obCells_ob, isOb_ok, isL_ok, isOw_ok, avXs_lst, avXs_ow, avNil_lst, avNil_ow, avNil_sl, avOff_sl, avCut_sl, isAgg_agg, nat_beq_self, List.length_cons, List.length_nil, Nat.reduceAdd, Nat.zero_add, isI_v, isB_v, isS_v, avInt_v, avBool_v, avStr_v, cellAt_zero, cellAt_succ, lget_zero, lget_succ, frAt_zero, frAt_succ, blAt_zero, blAt_succ, isEx_ok, isEx_ne, isEx_none, isRt_some, isRt_none, like_st, likeFG_nil, likeFG_cons, likeBG_nil, likeBG_obj, likeBG_row, likeSG_nil, likeSG_cons, likeT_nil, likeS_nil, isNP_nil, isNP_ob, likeT_ep, isEp_ep, epCells_ep, likeT_agg, likeT_int, likeT_bool, likeT_str, likeT_lst, likeT_sl0, likeT_sl1, likeT_ptr, likeS_int, likeS_bool, likeS_str, likeS_lst, likeS_sl0, likeS_sl1, likeS_ptr, isPtr_ok, isSl_0, isSl_1, beq_self_b, Bool.and_self, Bool.and_true, Bool.true_and, Bool.and_false, Bool.false_and, cond_true, cond_false, Bool.not_true, Bool.not_false]
  unfold pack
  cases h : valid l g with
  | false => rfl
  | true =>
    have := valid_iff.1 h
    simp -implicitDefEqProofs only [some_bind', obCells_agg, obCells_ob, isOb_ok, isL_ok, isOw_ok, avXs_lst, avXs_ow, avNil_lst, avNil_ow, avNil_sl, avOff_sl, avCut_sl, isAgg_agg, nat_beq_self, List.length_cons, List.length_nil, Nat.reduceAdd, Nat.zero_add, isI_v, isB_v, isS_v, avInt_v, avBool_v, avStr_v, cellAt_zero, cellAt_succ, lget_zero, lget_succ, frAt_zero, frAt_succ, blAt_zero, blAt_succ, isEx_ok, isEx_ne, isEx_none, isRt_some, isRt_none, like_st, likeFG_nil, likeFG_cons, likeBG_nil, likeBG_obj, likeBG_row, likeSG_nil, likeSG_cons, likeT_nil, likeS_nil, isNP_nil, isNP_ob, likeT_ep, isEp_ep, epCells_ep, likeT_agg, likeT_int, likeT_bool, likeT_str, likeT_lst, likeT_sl0, likeT_sl1, likeT_ptr, likeS_int, likeS_bool, likeS_str, likeS_lst, likeS_sl0, likeS_sl1, likeS_ptr, isPtr_ok, isSl_0, isSl_1, beq_self_b, Bool.and_self, Bool.and_true, Bool.true_and, Bool.and_false, Bool.false_and, cond_true, cond_false, Bool.not_true, Bool.not_false, if_true, w_u32]
    exact int1 (by omega)
theorem int2 {k k' : IntKind} {a b c d : Int} (h : a = b) (h' : c = d) : (some [AV.agg [.v (.int k a), .v (.int k' c)]] : Option (List AV)) = some [.agg [.v (.int k b), .v (.int k' d)]] := by rw [h, h']
theorem int3 {k k' k'' : IntKind} {a b c d e f : Int} (h : a = b) (h' : c = d) (h'' : e = f) : (some [AV.agg [.v (.int k a), .v (.int k' c), .v (.int k'' e)]] : Option (List AV)) = some [.agg [.v (.int k b), .v (.int k' d), .v (.int k'' f)]] := by rw [h, h', h'']
theorem s_pUnpack (w : Int) (h0 : 0 ≤ w) (h1 : w < 4294967296) : ev 33 [.v (.int .u32 w)] = some [.agg [.v (.int .i64 (w % 256)), .v (.int .i64 (w / 256))]] := by
  rw [ev33, and_u32 8 (by decide) w 255 (by decide) h0 h1, fdiv_pos _ _ (by decide)]
  simp only [w_i64]
  exact int2 (by omega) (by omega)
theorem s_RUnpack (w : Int) (h0 : 0 ≤ w) (h1 : w < 4294967296) : ev 38 [.v (.int .u32 w)] = some [.agg [.v (.int .i64 (w % 256)), .v (.int .i64 (w / 256))]] := by
  rw [ev38, tmod_pos _ _ h0, tdiv_pos _ _ h0]
  simp only [w_i64, w_u32]
  exact int2 (by omega) (by omega)
theorem s_pUnpackTag (t : Int) (h0 : 0 ≤ t) (h1 : t < 18446744073709551616) : ev 25 [.v (.int .u64 t)] = some [.agg [.v (.int .i64 (t % 256)), .v (.int .i64 (t / 256 % 16777216)), .v (.int .u32 (t / 4294967296))]] := by
  rw [ev25, and_u64 8 (by decide) t 255 (by decide) h0 h1, fdiv_pos _ _ (by decide), fdiv_pos _ _ (by decide), and_u64 24 (by decide) (t / 256) 16777215 (by decide) (by omega) (by omega)]
  simp only [w_i64, w_u32]
  exact int3 (by omega) (by omega) (by omega)
/-- A tag as a word. -/
def tag (k g a : Int) : Int := k % 256 + g % 16777216 * 256 + a * 4294967296
theorem tag_range {k g a : Int} (h0 : 0 ≤ a) (h1 : a < 4294967296) : 0 ≤ tag k g a ∧ tag k g a < 18446744073709551616 := by
  unfold tag; omega
theorem s_pPackTag (k g a : Int) (h0 : 0 ≤ a) (h1 : a < 4294967296) : ev 24 [.agg [.v (.int .i64 k), .v (.int .i64 g), .v (.int .u32 a)]] = some [.v (.int .u64 (tag k g a))] := by
  rw [ev24]
  simp only [w_u64]
  rw [and_u64 8 (by decide) _ 255 (by decide) (by omega) (by omega), and_u64 24 (by decide) _ 16777215 (by decide) (by omega) (by omega)]
  have e (x y : Int) (h0 : 0 ≤ x) (h1 : x < 2 ^ 8) (h2 : 0 ≤ y) (h3 : y < 2 ^ 32) (h4 : y % 2 ^ 8 = 0) : bits .or .u64 x y = y + x := by
    rw [Go.Ev.bits_or_comm, or_u64 8 _ _ (by omega) (by omega) (by omega) (by omega) (by omega) (by omega)]
  rw [e (k % 18446744073709551616 % 2 ^ 8) _ (by omega) (by omega) (by omega) (by omega) (by omega)]
  rw [Go.Ev.bits_or_comm, or_u64 32 _ _ (by omega) (by omega) (by omega) (by omega) (by omega) (by omega)]
  unfold tag
  exact int1 (by omega)
theorem s_RTag (k g a : Int) (h0 : 0 ≤ a) (h1 : a < 4294967296) : ev 39 [.v (.int .i64 k), .v (.int .i64 g), .v (.int .u32 a)] = some [.v (.int .u64 (tag k g a))] := by
  rw [ev39]
  simp only [w_u64]
  rw [tmod_pos _ _ (by omega), tmod_pos _ _ (by omega)]
  unfold tag
  exact int1 (by omega)
abbrev pg := pgl
abbrev zero9 : List AV := pgl 0 0 0 0 0 0 0 0 0
theorem s_ptagOf {l h d0 d1 d2 d3 d4 d5 d6 : Int} (h0 : 0 ≤ d0) (h1 : d0 < 18446744073709551616) : ev 49 [.agg (pg l h d0 d1 d2 d3 d4 d5 d6)] = some [.agg [.v (.int .i64 (d0 % 256)), .v (.int .i64 (d0 / 256 % 16777216)), .v (.int .u32 (d0 / 4294967296))]] := by
  rw [ev49, s_pUnpackTag _ h0 h1]
  simp -implicitDefEqProofs only [some_bind', obCells_agg, obCells_ob, isOb_ok, isL_ok, isOw_ok, avXs_lst, avXs_ow, avNil_lst, avNil_ow, avNil_sl, avOff_sl, avCut_sl, isAgg_agg, nat_beq_self, List.length_cons, List.length_nil, Nat.reduceAdd, Nat.zero_add, isI_v, isB_v, isS_v, avInt_v, avBool_v, avStr_v, cellAt_zero, cellAt_succ, lget_zero, lget_succ, frAt_zero, frAt_succ, blAt_zero, blAt_succ, isEx_ok, isEx_ne, isEx_none, isRt_some, isRt_none, like_st, likeFG_nil, likeFG_cons, likeBG_nil, likeBG_obj, likeBG_row, likeSG_nil, likeSG_cons, likeT_nil, likeS_nil, isNP_nil, isNP_ob, likeT_ep, isEp_ep, epCells_ep, likeT_agg, likeT_int, likeT_bool, likeT_str, likeT_lst, likeT_sl0, likeT_sl1, likeT_ptr, likeS_int, likeS_bool, likeS_str, likeS_lst, likeS_sl0, likeS_sl1, likeS_ptr, isPtr_ok, isSl_0, isSl_1, beq_self_b, Bool.and_self, Bool.and_true, Bool.true_and, Bool.and_false, Bool.false_and, cond_true, cond_false, Bool.not_true, Bool.not_false]
theorem s_RGen {l h d0 d1 d2 d3 d4 d5 d6 : Int} (h0 : 0 ≤ d0) (h1 : d0 < 18446744073709551616) : ev 40 [.agg (pg l h d0 d1 d2 d3 d4 d5 d6)] = some [.v (.int .i64 (d0 / 256 % 16777216))] := by
  rw [ev40, tdiv_pos _ _ h0]
  simp only [w_i64, w_u64]
  rw [tmod_pos _ _ (by omega)]
  exact int1 (by omega)
theorem s_RKind {l h d0 d1 d2 d3 d4 d5 d6 : Int} (h0 : 0 ≤ d0) (h1 : d0 < 18446744073709551616) : ev 36 [.agg (pg l h d0 d1 d2 d3 d4 d5 d6)] = some [.v (.int .i64 (d0 % 256))] := by
  rw [ev36]
  simp only [w_i64, tmod_pos _ _ h0]
  exact int1 (by omega)
theorem s_pAt {l h d0 d1 d2 d3 d4 d5 d6 : Int} (h0 : 0 ≤ d0) (h1 : d0 < 18446744073709551616) : ev 31 [.agg (pg l h d0 d1 d2 d3 d4 d5 d6)] = some [.agg [.v (.int .i64 l), .v (.int .i64 (d0 / 256 % 16777216))]] := by
  rw [ev31, s_ptagOf h0 h1]
  simp -implicitDefEqProofs only [some_bind', obCells_agg, obCells_ob, isOb_ok, isL_ok, isOw_ok, avXs_lst, avXs_ow, avNil_lst, avNil_ow, avNil_sl, avOff_sl, avCut_sl, isAgg_agg, nat_beq_self, List.length_cons, List.length_nil, Nat.reduceAdd, Nat.zero_add, isI_v, isB_v, isS_v, avInt_v, avBool_v, avStr_v, cellAt_zero, cellAt_succ, lget_zero, lget_succ, frAt_zero, frAt_succ, blAt_zero, blAt_succ, isEx_ok, isEx_ne, isEx_none, isRt_some, isRt_none, like_st, likeFG_nil, likeFG_cons, likeBG_nil, likeBG_obj, likeBG_row, likeSG_nil, likeSG_cons, likeT_nil, likeS_nil, isNP_nil, isNP_ob, likeT_ep, isEp_ep, epCells_ep, likeT_agg, likeT_int, likeT_bool, likeT_str, likeT_lst, likeT_sl0, likeT_sl1, likeT_ptr, likeS_int, likeS_bool, likeS_str, likeS_lst, likeS_sl0, likeS_sl1, likeS_ptr, isPtr_ok, isSl_0, isSl_1, beq_self_b, Bool.and_self, Bool.and_true, Bool.true_and, Bool.and_false, Bool.false_and, cond_true, cond_false, Bool.not_true, Bool.not_false]
theorem s_RAt {l h d0 d1 d2 d3 d4 d5 d6 : Int} (h0 : 0 ≤ d0) (h1 : d0 < 18446744073709551616) : ev 46 [.agg (pg l h d0 d1 d2 d3 d4 d5 d6)] = some [.agg [.v (.int .i64 l), .v (.int .i64 (d0 / 256 % 16777216))]] := by
  rw [ev46, s_RGen h0 h1]
  simp -implicitDefEqProofs only [some_bind', obCells_agg, obCells_ob, isOb_ok, isL_ok, isOw_ok, avXs_lst, avXs_ow, avNil_lst, avNil_ow, avNil_sl, avOff_sl, avCut_sl, isAgg_agg, nat_beq_self, List.length_cons, List.length_nil, Nat.reduceAdd, Nat.zero_add, isI_v, isB_v, isS_v, avInt_v, avBool_v, avStr_v, cellAt_zero, cellAt_succ, lget_zero, lget_succ, frAt_zero, frAt_succ, blAt_zero, blAt_succ, isEx_ok, isEx_ne, isEx_none, isRt_some, isRt_none, like_st, likeFG_nil, likeFG_cons, likeBG_nil, likeBG_obj, likeBG_row, likeSG_nil, likeSG_cons, likeT_nil, likeS_nil, isNP_nil, isNP_ob, likeT_ep, isEp_ep, epCells_ep, likeT_agg, likeT_int, likeT_bool, likeT_str, likeT_lst, likeT_sl0, likeT_sl1, likeT_ptr, likeS_int, likeS_bool, likeS_str, likeS_lst, likeS_sl0, likeS_sl1, likeS_ptr, isPtr_ok, isSl_0, isSl_1, beq_self_b, Bool.and_self, Bool.and_true, Bool.true_and, Bool.and_false, Bool.false_and, cond_true, cond_false, Bool.not_true, Bool.not_false]
theorem s_pLocked {l h d0 d1 d2 d3 d4 d5 d6 : Int} (h0 : 0 ≤ h) (h1 : h < 18446744073709551616) : ev 44 [.agg (pg l h d0 d1 d2 d3 d4 d5 d6)] = some [.v (.bool (!(h % 256 == 0)))] := by
  rw [ev44, and_u64 8 (by decide) h 255 (by decide) h0 h1]; rfl
theorem s_RLocked {l h d0 d1 d2 d3 d4 d5 d6 : Int} (h0 : 0 ≤ h) : ev 45 [.agg (pg l h d0 d1 d2 d3 d4 d5 d6)] = some [.v (.bool (!(h % 256 == 0)))] := by
  rw [ev45, tmod_pos _ _ h0]

def okT (c s : Int) : Bool := decide (0 ≤ c ∧ c < 6 ∧ 1 ≤ s ∧ s < 1073741824)
theorem okT_iff {c s : Int} : okT c s = true ↔ (0 ≤ c ∧ c < 6 ∧ 1 ≤ s ∧ s < 1073741824) := decide_eq_true_iff
theorem okT_f {c s : Int} (h : ¬ (0 ≤ c ∧ c < 6 ∧ 1 ≤ s ∧ s < 1073741824)) : okT c s = false := decide_eq_false h
theorem s_Stamp (c s : Int) : ev 13 [.v (.int .i64 c), .v (.int .i64 s)] = some [.v (.int .u64 (if okT c s then s * 256 + (c + 1) else 0))] := by
  rw [ev13]
  by_cases h : 0 ≤ c ∧ c < 6 ∧ 1 ≤ s ∧ s < 1073741824
  · rw [if_pos (okT_iff.2 h), ltI_f (by omega), leI_f (by omega), ltI_f (by omega), leI_f (by omega)]
    simp only [cond_false]
    have e1 : IntKind.u64.wrap (IntKind.u64.wrap s * 256) = s * 256 := by rw [w_u64, w_u64]; omega
    have e2 : IntKind.u64.wrap (IntKind.i64.wrap (c + 1)) = c + 1 := by rw [w_u64, w_i64]; omega
    rw [e1, e2, or_u64 8 _ _ (by omega) (by omega) (by omega) (by omega) (by omega) (by omega)]
  · rw [okT_f h, if_neg (by decide)]
    by_cases h1 : c < 0
    · rw [ltI_t h1]; rfl
    · by_cases h2 : 6 ≤ c
      · rw [ltI_f (by omega), leI_t h2]; rfl
      · by_cases h3 : s < 1
        · rw [ltI_f (by omega), leI_f (by omega), ltI_t h3]; rfl
        · rw [ltI_f (by omega), leI_f (by omega), ltI_f (by omega), leI_t (by omega)]; rfl
def okS (x : Int) : Bool := okT (x % 256 - 1) (x / 256)
theorem s_Origin (x : Int) (h0 : 0 ≤ x) (h1 : x < 18446744073709551616) : ev 10 [.v (.int .u64 x)] = some [.v (.int .i64 (if okS x then x % 256 - 1 else 0)), .v (.int .i64 (if okS x then x / 256 else 0)), .v (.bool (okS x))] := by
  rw [ev10, and_u64 8 (by decide) x 255 (by decide) h0 h1, fdiv_pos _ _ (by decide)]
  have e1 : IntKind.i64.wrap (IntKind.i64.wrap (x % 2 ^ 8) - 1) = x % 256 - 1 := by rw [w_i64, w_i64]; omega
  have e2 : IntKind.i64.wrap (x / 256) = x / 256 := by rw [w_i64]; omega
  rw [e1, e2, s_Stamp]
  cases h : okS x with
  | true =>
    have := okT_iff.1 h
    unfold okS at h
    simp -implicitDefEqProofs only [some_bind', obCells_agg, obCells_ob, isOb_ok, isL_ok, isOw_ok, avXs_lst, avXs_ow, avNil_lst, avNil_ow, avNil_sl, avOff_sl, avCut_sl, isAgg_agg, nat_beq_self, List.length_cons, List.length_nil, Nat.reduceAdd, Nat.zero_add, isI_v, isB_v, isS_v, avInt_v, avBool_v, avStr_v, cellAt_zero, cellAt_succ, lget_zero, lget_succ, frAt_zero, frAt_succ, blAt_zero, blAt_succ, isEx_ok, isEx_ne, isEx_none, isRt_some, isRt_none, like_st, likeFG_nil, likeFG_cons, likeBG_nil, likeBG_obj, likeBG_row, likeSG_nil, likeSG_cons, likeT_nil, likeS_nil, isNP_nil, isNP_ob, likeT_ep, isEp_ep, epCells_ep, likeT_agg, likeT_int, likeT_bool, likeT_str, likeT_lst, likeT_sl0, likeT_sl1, likeT_ptr, likeS_int, likeS_bool, likeS_str, likeS_lst, likeS_sl0, likeS_sl1, likeS_ptr, isPtr_ok, isSl_0, isSl_1, beq_self_b, Bool.and_self, Bool.and_true, Bool.true_and, Bool.and_false, Bool.false_and, cond_true, cond_false, Bool.not_true, Bool.not_false, ltI_f this.1, h, if_true, beq_eq_false_iff_ne.2 (show x / 256 * 256 + (x % 256 - 1 + 1) ≠ 0 by omega)]
  | false =>
    unfold okS at h
    by_cases h2 : x % 256 - 1 < 0
    · rw [ltI_t h2]; rfl
    · simp -implicitDefEqProofs only [some_bind', obCells_agg, obCells_ob, isOb_ok, isL_ok, isOw_ok, avXs_lst, avXs_ow, avNil_lst, avNil_ow, avNil_sl, avOff_sl, avCut_sl, isAgg_agg, nat_beq_self, List.length_cons, List.length_nil, Nat.reduceAdd, Nat.zero_add, isI_v, isB_v, isS_v, avInt_v, avBool_v, avStr_v, cellAt_zero, cellAt_succ, lget_zero, lget_succ, frAt_zero, frAt_succ, blAt_zero, blAt_succ, isEx_ok, isEx_ne, isEx_none, isRt_some, isRt_none, like_st, likeFG_nil, likeFG_cons, likeBG_nil, likeBG_obj, likeBG_row, likeSG_nil, likeSG_cons, likeT_nil, likeS_nil, isNP_nil, isNP_ob, likeT_ep, isEp_ep, epCells_ep, likeT_agg, likeT_int, likeT_bool, likeT_str, likeT_lst, likeT_sl0, likeT_sl1, likeT_ptr, likeS_int, likeS_bool, likeS_str, likeS_lst, likeS_sl0, likeS_sl1, likeS_ptr, isPtr_ok, isSl_0, isSl_1, beq_self_b, Bool.and_self, Bool.and_true, Bool.true_and, Bool.and_false, Bool.false_and, cond_true, cond_false, Bool.not_true, Bool.not_false, ltI_f (show 0 ≤ x % 256 - 1 by omega), h, Bool.false_eq_true, if_false, beq_self_i]
theorem s_RStamp (c s : Int) : ev 14 [.v (.int .i64 c), .v (.int .i64 s)] = some [.v (.int .u64 (if okT c s then s * 256 + (c + 1) else 0))] := by
  rw [ev14]
  by_cases h : 0 ≤ c ∧ c < 6 ∧ 1 ≤ s ∧ s < 1073741824
  · rw [if_pos (okT_iff.2 h), ltI_f (by omega), leI_f (by omega), ltI_f (by omega), leI_f (by omega)]
    simp only [cond_false, w_u64]
    exact int1 (by omega)
  · rw [okT_f h, if_neg (by decide)]
    by_cases h1 : c < 0
    · rw [ltI_t h1]; rfl
    · by_cases h2 : 6 ≤ c
      · rw [ltI_f (by omega), leI_t h2]; rfl
      · by_cases h3 : s < 1
        · rw [ltI_f (by omega), leI_f (by omega), ltI_t h3]; rfl
        · rw [ltI_f (by omega), leI_f (by omega), ltI_f (by omega), leI_t (by omega)]; rfl
theorem s_ROrigin (x : Int) (h0 : 0 ≤ x) (h1 : x < 18446744073709551616) : ev 11 [.v (.int .u64 x)] = some [.v (.int .i64 (if okS x then x % 256 - 1 else 0)), .v (.int .i64 (if okS x then x / 256 else 0)), .v (.bool (okS x))] := by
  rw [ev11, tdiv_pos _ _ h0, tmod_pos _ _ h0]
  have e0 : IntKind.u64.wrap (x / 256) = x / 256 := by rw [w_u64]; omega
  have e1 : IntKind.i64.wrap (IntKind.i64.wrap (x % 256) - 1) = x % 256 - 1 := by rw [w_i64, w_i64]; omega
  have e2 : IntKind.i64.wrap (x / 256) = x / 256 := by rw [w_i64]; omega
  rw [e0, e1, e2, s_RStamp]
  cases h : okS x with
  | true =>
    have := okT_iff.1 h
    unfold okS at h
    simp -implicitDefEqProofs only [some_bind', obCells_agg, obCells_ob, isOb_ok, isL_ok, isOw_ok, avXs_lst, avXs_ow, avNil_lst, avNil_ow, avNil_sl, avOff_sl, avCut_sl, isAgg_agg, nat_beq_self, List.length_cons, List.length_nil, Nat.reduceAdd, Nat.zero_add, isI_v, isB_v, isS_v, avInt_v, avBool_v, avStr_v, cellAt_zero, cellAt_succ, lget_zero, lget_succ, frAt_zero, frAt_succ, blAt_zero, blAt_succ, isEx_ok, isEx_ne, isEx_none, isRt_some, isRt_none, like_st, likeFG_nil, likeFG_cons, likeBG_nil, likeBG_obj, likeBG_row, likeSG_nil, likeSG_cons, likeT_nil, likeS_nil, isNP_nil, isNP_ob, likeT_ep, isEp_ep, epCells_ep, likeT_agg, likeT_int, likeT_bool, likeT_str, likeT_lst, likeT_sl0, likeT_sl1, likeT_ptr, likeS_int, likeS_bool, likeS_str, likeS_lst, likeS_sl0, likeS_sl1, likeS_ptr, isPtr_ok, isSl_0, isSl_1, beq_self_b, Bool.and_self, Bool.and_true, Bool.true_and, Bool.and_false, Bool.false_and, cond_true, cond_false, Bool.not_true, Bool.not_false, leI_f this.2.2.2, h, if_true, beq_eq_false_iff_ne.2 (show x / 256 * 256 + (x % 256 - 1 + 1) ≠ 0 by omega)]
  | false =>
    unfold okS at h
    cases h2 : leI 1073741824 (x / 256) with
    | true => rfl
    | false => simp -implicitDefEqProofs only [some_bind', obCells_agg, obCells_ob, isOb_ok, isL_ok, isOw_ok, avXs_lst, avXs_ow, avNil_lst, avNil_ow, avNil_sl, avOff_sl, avCut_sl, isAgg_agg, nat_beq_self, List.length_cons, List.length_nil, Nat.reduceAdd, Nat.zero_add, isI_v, isB_v, isS_v, avInt_v, avBool_v, avStr_v, cellAt_zero, cellAt_succ, lget_zero, lget_succ, frAt_zero, frAt_succ, blAt_zero, blAt_succ, isEx_ok, isEx_ne, isEx_none, isRt_some, isRt_none, like_st, likeFG_nil, likeFG_cons, likeBG_nil, likeBG_obj, likeBG_row, likeSG_nil, likeSG_cons, likeT_nil, likeS_nil, isNP_nil, isNP_ob, likeT_ep, isEp_ep, epCells_ep, likeT_agg, likeT_int, likeT_bool, likeT_str, likeT_lst, likeT_sl0, likeT_sl1, likeT_ptr, likeS_int, likeS_bool, likeS_str, likeS_lst, likeS_sl0, likeS_sl1, likeS_ptr, isPtr_ok, isSl_0, isSl_1, beq_self_b, Bool.and_self, Bool.and_true, Bool.true_and, Bool.and_false, Bool.false_and, cond_true, cond_false, Bool.not_true, Bool.not_false, h, Bool.false_eq_true, if_false, beq_self_i]
structure Ver where
  key : Int
  c0 : Int
  c1 : Int
  c2 : Int
  del : Bool
  ep : Int
  st : Int
  pl : Int
  pg : Int
abbrev verl (key c0 c1 c2 : Int) (del : Bool) (ep st pl pg : Int) : List AV := [.v (.int .u32 key), .v (.int .i64 c0), .v (.int .i64 c1), .v (.int .i64 c2), .v (.bool del), .v (.int .u32 ep), .v (.int .u64 st), .v (.int .i64 pl), .v (.int .i64 pg)]
def Ver.row (v : Ver) : List AV := verl v.key v.c0 v.c1 v.c2 v.del v.ep v.st v.pl v.pg
theorem Ver.row_eq (v : Ver) : v.row = verl v.key v.c0 v.c1 v.c2 v.del v.ep v.st v.pl v.pg := rfl
def u32ok (x : Int) : Prop := 0 ≤ x ∧ x ≤ 4294967295
def Ver.ok (v : Ver) : Prop := u32ok v.key ∧ i64ok v.c0 ∧ i64ok v.c1 ∧ i64ok v.c2 ∧ u32ok v.ep ∧ u64ok v.st ∧ i64ok v.pl ∧ i64ok v.pg
def vzero : Ver := ⟨0, 0, 0, 0, false, 0, 0, 0, 0⟩
def ptrOk (pl pg : Int) : Bool := (pl == 0 && pg == 0) || valid pl pg
def validV (v : Ver) : Bool := okS v.st && (leI 1 v.key && leI v.key 4294967294) && ptrOk v.pl v.pg && (bif v.del then (v.c0 == 0 && (v.c1 == 0 && v.c2 == 0)) else v.ep == 0)
theorem ltI_not (a b : Int) : ltI a b = !(leI b a) := by
  rcases Int.lt_or_le a b with h | h
  · rw [ltI_t h, leI_f h]; rfl
  · rw [ltI_f h, leI_t h]; rfl
theorem s_recValid (v : Ver) (h0 : 0 ≤ v.st) (h1 : v.st < 18446744073709551616) : ev 21 [.agg (verl v.key v.c0 v.c1 v.c2 v.del v.ep v.st v.pl v.pg)] = some [.v (.bool (validV v))] := by
  rw [ev21, s_Origin _ h0 h1]
  unfold validV ptrOk
  rw [ltI_not, ltI_not]
  have hp := s_pValid v.pl v.pg
  cases okS v.st <;> cases leI 1 v.key <;> cases leI v.key 4294967294 <;> cases (v.pl == 0 && v.pg == 0) <;> cases hv : valid v.pl v.pg <;> cases v.del <;> rw [hv] at hp <;> simp -implicitDefEqProofs only [some_bind', obCells_agg, obCells_ob, isOb_ok, isL_ok, isOw_ok, avXs_lst, avXs_ow, avNil_lst, avNil_ow, avNil_sl, avOff_sl, avCut_sl, isAgg_agg, nat_beq_self, List.length_cons, List.length_nil, Nat.reduceAdd, Nat.zero_add, isI_v, isB_v, isS_v, avInt_v, avBool_v, avStr_v, cellAt_zero, cellAt_succ, lget_zero, lget_succ, frAt_zero, frAt_succ, blAt_zero, blAt_succ, isEx_ok, isEx_ne, isEx_none, isRt_some, isRt_none, like_st, likeFG_nil, likeFG_cons, likeBG_nil, likeBG_obj, likeBG_row, likeSG_nil, likeSG_cons, likeT_nil, likeS_nil, isNP_nil, isNP_ob, likeT_ep, isEp_ep, epCells_ep, likeT_agg, likeT_int, likeT_bool, likeT_str, likeT_lst, likeT_sl0, likeT_sl1, likeT_ptr, likeS_int, likeS_bool, likeS_str, likeS_lst, likeS_sl0, likeS_sl1, likeS_ptr, isPtr_ok, isSl_0, isSl_1, beq_self_b, Bool.and_self, Bool.and_true, Bool.true_and, Bool.and_false, Bool.false_and, cond_true, cond_false, Bool.not_true, Bool.not_false, hp, Bool.true_or, Bool.false_or, Bool.or_false]
theorem s_RValidVersion (v : Ver) (h0 : 0 ≤ v.st) (h1 : v.st < 18446744073709551616) : ev 22 [.agg (verl v.key v.c0 v.c1 v.c2 v.del v.ep v.st v.pl v.pg)] = some [.v (.bool (validV v))] := by
  rw [ev22, s_ROrigin _ h0 h1]
  unfold validV ptrOk
  rw [ltI_not, ltI_not]
  have hp := s_RValidPointer v.pl v.pg
  cases okS v.st <;> cases leI 1 v.key <;> cases leI v.key 4294967294 <;> cases (v.pl == 0 && v.pg == 0) <;> cases hv : valid v.pl v.pg <;> cases v.del <;> rw [hv] at hp <;> simp -implicitDefEqProofs only [some_bind', obCells_agg, obCells_ob, isOb_ok, isL_ok, isOw_ok, avXs_lst, avXs_ow, avNil_lst, avNil_ow, avNil_sl, avOff_sl, avCut_sl, isAgg_agg, nat_beq_self, List.length_cons, List.length_nil, Nat.reduceAdd, Nat.zero_add, isI_v, isB_v, isS_v, avInt_v, avBool_v, avStr_v, cellAt_zero, cellAt_succ, lget_zero, lget_succ, frAt_zero, frAt_succ, blAt_zero, blAt_succ, isEx_ok, isEx_ne, isEx_none, isRt_some, isRt_none, like_st, likeFG_nil, likeFG_cons, likeBG_nil, likeBG_obj, likeBG_row, likeSG_nil, likeSG_cons, likeT_nil, likeS_nil, isNP_nil, isNP_ob, likeT_ep, isEp_ep, epCells_ep, likeT_agg, likeT_int, likeT_bool, likeT_str, likeT_lst, likeT_sl0, likeT_sl1, likeT_ptr, likeS_int, likeS_bool, likeS_str, likeS_lst, likeS_sl0, likeS_sl1, likeS_ptr, isPtr_ok, isSl_0, isSl_1, beq_self_b, Bool.and_self, Bool.and_true, Bool.true_and, Bool.and_false, Bool.false_and, cond_true, cond_false, Bool.not_true, Bool.not_false, hp, Bool.true_or, Bool.false_or, Bool.or_false]
def w64 (x : Int) : Int := IntKind.u64.wrap x
theorem w64_eq (x : Int) : w64 x = x % 18446744073709551616 := w_u64 x
def fillP (p : Pg) (v : Ver) : Pg := ⟨p.l, p.h, tag (p.d0 % 256) (p.d0 / 256 % 16777216) (bif v.del then 1 else 0), v.key + pack v.pl v.pg * 4294967296, w64 (bif v.del then v.ep else v.c0), w64 v.c1, w64 v.c2, v.st, 0⟩
theorem fillP_ok (p : Pg) (v : Ver) (hp : p.ok) (hv : v.ok) : (fillP p v).ok := by
  obtain ⟨p0, p1, _⟩ := hp
  obtain ⟨v0, _, _, _, v4, v5, _⟩ := hv
  have hk := pack_range v.pl v.pg
  have ht : ∀ a : Int, 0 ≤ a → a < 4294967296 → u64ok (tag (p.d0 % 256) (p.d0 / 256 % 16777216) a) := fun a h h' => by
    have := tag_range (k := p.d0 % 256) (g := p.d0 / 256 % 16777216) h h'
    exact ⟨this.1, by omega⟩
  have hw : ∀ x : Int, u64ok (w64 x) := fun x => by rw [w64_eq]; exact ⟨by omega, by omega⟩
  refine ⟨p0, p1, ?_, ?_, hw _, hw _, hw _, v5, ⟨Int.le_refl 0, by show (0:Int) ≤ _; decide⟩⟩
  · show u64ok (tag _ _ (bif v.del then 1 else 0))
    cases v.del
    · exact ht 0 (by decide) (by decide)
    · exact ht 1 (by decide) (by decide)
  · have := v0.1; have := v0.2
    show u64ok (v.key + pack v.pl v.pg * 4294967296)
    exact ⟨by omega, by omega⟩
theorem s_fill (p : Pg) (v : Ver) (hp : p.ok) (hv : v.ok) : ev 34 [.agg (pgl p.l p.h p.d0 p.d1 p.d2 p.d3 p.d4 p.d5 p.d6), .agg (verl v.key v.c0 v.c1 v.c2 v.del v.ep v.st v.pl v.pg)] = some [.agg (fillP p v).row] := by
  obtain ⟨_, _, hd, _⟩ := hp
  have hd1 := hd.1
  have hd2 := hd.2
  have hk := hv.1.1
  have hk2 := hv.1.2
  have hpk := pack_range v.pl v.pg
  rw [ev34, s_pUnpackTag _ hd1 (by omega)]
  have e1 := s_pPack v.pl v.pg
  have e2 : bits .or .u64 (IntKind.u64.wrap v.key) (IntKind.u64.wrap (IntKind.u64.wrap (pack v.pl v.pg) * 4294967296)) = v.key + pack v.pl v.pg * 4294967296 := by
    have h1 : IntKind.u64.wrap v.key = v.key := by rw [w_u64]; omega
    have h2 : IntKind.u64.wrap (IntKind.u64.wrap (pack v.pl v.pg) * 4294967296) = pack v.pl v.pg * 4294967296 := by rw [w_u64, w_u64]; omega
    rw [h1, h2, Go.Ev.bits_or_comm, or_u64 32 _ _ (by omega) (by omega) (by omega) (by omega) (by omega) (by omega)]
    omega
  have e3 := s_pPackTag (p.d0 % 256) (p.d0 / 256 % 16777216) 1 (by decide) (by decide)
  have e4 := s_pPackTag (p.d0 % 256) (p.d0 / 256 % 16777216) 0 (by decide) (by decide)
  unfold fillP w64
  cases v.del <;> simp -implicitDefEqProofs only [some_bind', obCells_agg, obCells_ob, isOb_ok, isL_ok, isOw_ok, avXs_lst, avXs_ow, avNil_lst, avNil_ow, avNil_sl, avOff_sl, avCut_sl, isAgg_agg, nat_beq_self, List.length_cons, List.length_nil, Nat.reduceAdd, Nat.zero_add, isI_v, isB_v, isS_v, avInt_v, avBool_v, avStr_v, cellAt_zero, cellAt_succ, lget_zero, lget_succ, frAt_zero, frAt_succ, blAt_zero, blAt_succ, isEx_ok, isEx_ne, isEx_none, isRt_some, isRt_none, like_st, likeFG_nil, likeFG_cons, likeBG_nil, likeBG_obj, likeBG_row, likeSG_nil, likeSG_cons, likeT_nil, likeS_nil, isNP_nil, isNP_ob, likeT_ep, isEp_ep, epCells_ep, likeT_agg, likeT_int, likeT_bool, likeT_str, likeT_lst, likeT_sl0, likeT_sl1, likeT_ptr, likeS_int, likeS_bool, likeS_str, likeS_lst, likeS_sl0, likeS_sl1, likeS_ptr, isPtr_ok, isSl_0, isSl_1, beq_self_b, Bool.and_self, Bool.and_true, Bool.true_and, Bool.and_false, Bool.false_and, cond_true, cond_false, Bool.not_true, Bool.not_false, e1, e2, e3, e4, Pg.row_eq]
def writeR (p : Pg) (v : Ver) : Pg × Int := bif validV v && p.d0 % 256 == 1 then (fillP p v, 0) else (pz, 1)
theorem s_recWrite (p : Pg) (v : Ver) (hp : p.ok) (hv : v.ok) : ev 18 [.agg (pgl p.l p.h p.d0 p.d1 p.d2 p.d3 p.d4 p.d5 p.d6), .agg (verl v.key v.c0 v.c1 v.c2 v.del v.ep v.st v.pl v.pg)] = some [.agg (writeR p v).1.row, .v (.int .i64 (writeR p v).2)] := by
  obtain ⟨_, _, hd, _⟩ := id hp
  obtain ⟨_, _, _, _, _, hs, _⟩ := id hv
  have hd2 := hd.2
  have hs2 := hs.2
  rw [ev18, s_recValid v hs.1 (by omega)]
  have e1 := s_pUnpackTag p.d0 hd.1 (by omega)
  have e2 := s_fill p v hp hv
  rw [Pg.row_eq] at e2
  unfold writeR
  cases validV v with
  | false => rfl
  | true => cases h : (p.d0 % 256 == 1) <;> simp -implicitDefEqProofs only [some_bind', obCells_agg, obCells_ob, isOb_ok, isL_ok, isOw_ok, avXs_lst, avXs_ow, avNil_lst, avNil_ow, avNil_sl, avOff_sl, avCut_sl, isAgg_agg, nat_beq_self, List.length_cons, List.length_nil, Nat.reduceAdd, Nat.zero_add, isI_v, isB_v, isS_v, avInt_v, avBool_v, avStr_v, cellAt_zero, cellAt_succ, lget_zero, lget_succ, frAt_zero, frAt_succ, blAt_zero, blAt_succ, isEx_ok, isEx_ne, isEx_none, isRt_some, isRt_none, like_st, likeFG_nil, likeFG_cons, likeBG_nil, likeBG_obj, likeBG_row, likeSG_nil, likeSG_cons, likeT_nil, likeS_nil, isNP_nil, isNP_ob, likeT_ep, isEp_ep, epCells_ep, likeT_agg, likeT_int, likeT_bool, likeT_str, likeT_lst, likeT_sl0, likeT_sl1, likeT_ptr, likeS_int, likeS_bool, likeS_str, likeS_lst, likeS_sl0, likeS_sl1, likeS_ptr, isPtr_ok, isSl_0, isSl_1, beq_self_b, Bool.and_self, Bool.and_true, Bool.true_and, Bool.and_false, Bool.false_and, cond_true, cond_false, Bool.not_true, Bool.not_false, e1, e2, h, Pg.row_eq] <;> rfl
/-- What a page holds, if it holds a version. -/
def rawV (p : Pg) : Ver :=
  let w := p.d1 / 4294967296
  let del := p.d0 / 4294967296 == 1
  ⟨p.d1 % 4294967296, bif del then 0 else IntKind.i64.wrap p.d2, bif del then 0 else IntKind.i64.wrap p.d3, bif del then 0 else IntKind.i64.wrap p.d4, del, bif del then p.d2 % 4294967296 else 0, p.d5, bif w == 0 then 0 else w % 256, bif w == 0 then 0 else w / 256⟩
def sameD (p q : Pg) : Bool := (p.d0 == q.d0) && ((p.d1 == q.d1) && ((p.d2 == q.d2) && ((p.d3 == q.d3) && ((p.d4 == q.d4) && ((p.d5 == q.d5) && (p.d6 == q.d6))))))
def readable (p : Pg) : Bool := p.d0 % 256 == 1 && leI (p.d0 / 4294967296) 1 && validV (rawV p) && sameD (fillP p (rawV p)) p
def readR (p : Pg) : Ver × Int := bif readable p then (rawV p, 0) else (vzero, 14)
theorem i64_wrap_ok (x : Int) : i64ok (IntKind.i64.wrap x) := by rw [w_i64]; unfold i64ok; omega
theorem rawV_ok (p : Pg) (hp : p.ok) : (rawV p).ok := by
  obtain ⟨_, _, h0, h1, h2, h3, h4, h5, h6⟩ := hp
  have a0 := h0.1; have a0' := h0.2
  have a1 := h1.1; have a1' := h1.2
  have a2 := h2.1
  have z : i64ok 0 := ⟨by decide, by decide⟩
  refine ⟨⟨by show 0 ≤ p.d1 % 4294967296; omega, by show p.d1 % 4294967296 ≤ _; omega⟩, ?_, ?_, ?_, ?_, h5, ?_, ?_⟩
  · show i64ok (bif _ then 0 else _); cases (p.d0 / 4294967296 == 1) <;> first | exact z | exact i64_wrap_ok _
  · show i64ok (bif _ then 0 else _); cases (p.d0 / 4294967296 == 1) <;> first | exact z | exact i64_wrap_ok _
  · show i64ok (bif _ then 0 else _); cases (p.d0 / 4294967296 == 1) <;> first | exact z | exact i64_wrap_ok _
  · show u32ok (bif _ then _ else 0); cases (p.d0 / 4294967296 == 1)
    · exact ⟨Int.le_refl 0, by show (0:Int) ≤ _; decide⟩
    · exact ⟨by show 0 ≤ p.d2 % 4294967296; omega, by show p.d2 % 4294967296 ≤ _; omega⟩
  · show i64ok (bif _ then 0 else _); cases (p.d1 / 4294967296 == 0)
    · exact ⟨by show _ ≤ p.d1 / 4294967296 % 256; omega, by show p.d1 / 4294967296 % 256 ≤ _; omega⟩
    · exact z
  · show i64ok (bif _ then 0 else _); cases (p.d1 / 4294967296 == 0)
    · exact ⟨by show _ ≤ p.d1 / 4294967296 / 256; omega, by show p.d1 / 4294967296 / 256 ≤ _; omega⟩
    · exact z
theorem s_recRead (p : Pg) (hp : p.ok) : ev 16 [.agg (pgl p.l p.h p.d0 p.d1 p.d2 p.d3 p.d4 p.d5 p.d6)] = some [.agg (readR p).1.row, .v (.int .i64 (readR p).2)] := by
  have hrok := rawV_ok p hp
  have hfl := s_fill p (rawV p) hp hrok
  have hval := s_recValid (rawV p) hrok.2.2.2.2.2.1.1 (by have := hrok.2.2.2.2.2.1.2; omega)
  obtain ⟨_, _, h0, h1, h2, h3, h4, h5, h6⟩ := hp
  have a0 := h0.1; have a0' := h0.2
  have a1 := h1.1; have a1' := h1.2
  rw [ev16, s_pUnpackTag _ a0 (by omega), fdiv_pos _ _ (by decide)]
  have e1 : IntKind.u32.wrap (p.d1 / 4294967296) = p.d1 / 4294967296 := by rw [w_u32]; omega
  have e2 := s_pUnpack (p.d1 / 4294967296) (by omega) (by omega)
  have e3 : IntKind.u32.wrap p.d1 = p.d1 % 4294967296 := w_u32 _
  have e4 : IntKind.u32.wrap p.d2 = p.d2 % 4294967296 := w_u32 _
  rw [e1]
  unfold readR readable
  generalize hf : fillP p (rawV p) = f at hfl
  have hsd : sameD f p = ((f.d0 == p.d0) && ((f.d1 == p.d1) && ((f.d2 == p.d2) && ((f.d3 == p.d3) && ((f.d4 == p.d4) && ((f.d5 == p.d5) && (f.d6 == p.d6))))))) := rfl
  rw [Pg.row_eq] at hfl
  cases c1 : (p.d0 % 256 == 1) with
  | false => simp -implicitDefEqProofs only [some_bind', obCells_agg, obCells_ob, isOb_ok, isL_ok, isOw_ok, avXs_lst, avXs_ow, avNil_lst, avNil_ow, avNil_sl, avOff_sl, avCut_sl, isAgg_agg, nat_beq_self, List.length_cons, List.length_nil, Nat.reduceAdd, Nat.zero_add, isI_v, isB_v, isS_v, avInt_v, avBool_v, avStr_v, cellAt_zero, cellAt_succ, lget_zero, lget_succ, frAt_zero, frAt_succ, blAt_zero, blAt_succ, isEx_ok, isEx_ne, isEx_none, isRt_some, isRt_none, like_st, likeFG_nil, likeFG_cons, likeBG_nil, likeBG_obj, likeBG_row, likeSG_nil, likeSG_cons, likeT_nil, likeS_nil, isNP_nil, isNP_ob, likeT_ep, isEp_ep, epCells_ep, likeT_agg, likeT_int, likeT_bool, likeT_str, likeT_lst, likeT_sl0, likeT_sl1, likeT_ptr, likeS_int, likeS_bool, likeS_str, likeS_lst, likeS_sl0, likeS_sl1, likeS_ptr, isPtr_ok, isSl_0, isSl_1, beq_self_b, Bool.and_self, Bool.and_true, Bool.true_and, Bool.and_false, Bool.false_and, cond_true, cond_false, Bool.not_true, Bool.not_false, ltI_not, c1]; rfl
  | true =>
    cases c2 : leI (p.d0 / 4294967296) 1 with
    | false => simp -implicitDefEqProofs only [some_bind', obCells_agg, obCells_ob, isOb_ok, isL_ok, isOw_ok, avXs_lst, avXs_ow, avNil_lst, avNil_ow, avNil_sl, avOff_sl, avCut_sl, isAgg_agg, nat_beq_self, List.length_cons, List.length_nil, Nat.reduceAdd, Nat.zero_add, isI_v, isB_v, isS_v, avInt_v, avBool_v, avStr_v, cellAt_zero, cellAt_succ, lget_zero, lget_succ, frAt_zero, frAt_succ, blAt_zero, blAt_succ, isEx_ok, isEx_ne, isEx_none, isRt_some, isRt_none, like_st, likeFG_nil, likeFG_cons, likeBG_nil, likeBG_obj, likeBG_row, likeSG_nil, likeSG_cons, likeT_nil, likeS_nil, isNP_nil, isNP_ob, likeT_ep, isEp_ep, epCells_ep, likeT_agg, likeT_int, likeT_bool, likeT_str, likeT_lst, likeT_sl0, likeT_sl1, likeT_ptr, likeS_int, likeS_bool, likeS_str, likeS_lst, likeS_sl0, likeS_sl1, likeS_ptr, isPtr_ok, isSl_0, isSl_1, beq_self_b, Bool.and_self, Bool.and_true, Bool.true_and, Bool.and_false, Bool.false_and, cond_true, cond_false, Bool.not_true, Bool.not_false, ltI_not, c1, c2]; rfl
    | true =>
      have hraw : (rawV p).row = verl (p.d1 % 4294967296) (bif p.d0 / 4294967296 == 1 then 0 else IntKind.i64.wrap p.d2) (bif p.d0 / 4294967296 == 1 then 0 else IntKind.i64.wrap p.d3) (bif p.d0 / 4294967296 == 1 then 0 else IntKind.i64.wrap p.d4) (p.d0 / 4294967296 == 1) (bif p.d0 / 4294967296 == 1 then p.d2 % 4294967296 else 0) p.d5 (bif p.d1 / 4294967296 == 0 then 0 else p.d1 / 4294967296 % 256) (bif p.d1 / 4294967296 == 0 then 0 else p.d1 / 4294967296 / 256) := rfl
      rw [← Ver.row_eq, hraw] at hfl hval
      cases c3 : (p.d1 / 4294967296 == 0) <;> cases c4 : (p.d0 / 4294967296 == 1) <;> cases c5 : validV (rawV p) <;> cases c6 : sameD f p <;> rw [c5] at hval <;> rw [c3, c4] at hval hfl <;> rw [c6] at hsd <;> simp only [cond_true, cond_false] at hval hfl <;>
        simp -implicitDefEqProofs only [some_bind', obCells_agg, obCells_ob, isOb_ok, isL_ok, isOw_ok, avXs_lst, avXs_ow, avNil_lst, avNil_ow, avNil_sl, avOff_sl, avCut_sl, isAgg_agg, nat_beq_self, List.length_cons, List.length_nil, Nat.reduceAdd, Nat.zero_add, isI_v, isB_v, isS_v, avInt_v, avBool_v, avStr_v, cellAt_zero, cellAt_succ, lget_zero, lget_succ, frAt_zero, frAt_succ, blAt_zero, blAt_succ, isEx_ok, isEx_ne, isEx_none, isRt_some, isRt_none, like_st, likeFG_nil, likeFG_cons, likeBG_nil, likeBG_obj, likeBG_row, likeSG_nil, likeSG_cons, likeT_nil, likeS_nil, isNP_nil, isNP_ob, likeT_ep, isEp_ep, epCells_ep, likeT_agg, likeT_int, likeT_bool, likeT_str, likeT_lst, likeT_sl0, likeT_sl1, likeT_ptr, likeS_int, likeS_bool, likeS_str, likeS_lst, likeS_sl0, likeS_sl1, likeS_ptr, isPtr_ok, isSl_0, isSl_1, beq_self_b, Bool.and_self, Bool.and_true, Bool.true_and, Bool.and_false, Bool.false_and, cond_true, cond_false, Bool.not_true, Bool.not_false, ltI_not, c1, c2, c3, c4, e2, e3, e4, hval, hfl, ← hsd, hraw, Ver.row_eq, vzero] <;> rfl
theorem ver9 {a a' b b' c c' d d' : Int} {e e' : Bool} {f f' g g' h h' i i' : Int} (h1 : a = a') (h2 : b = b') (h3 : c = c') (h4 : d = d') (h5 : e = e') (h6 : f = f') (h7 : g = g') (h8 : h = h') (h9 : i = i') : Ver.mk a b c d e f g h i = Ver.mk a' b' c' d' e' f' g' h' i' := by subst h1 h2 h3 h4 h5 h6 h7 h8 h9; rfl
theorem pack_hi {l g : Int} (h : ptrOk l g = true) : (bif pack l g == 0 then 0 else pack l g % 256) = l ∧ (bif pack l g == 0 then 0 else pack l g / 256) = g := by
  unfold ptrOk at h
  cases hv : valid l g with
  | true =>
    have := valid_iff.1 hv
    unfold pack
    rw [if_pos hv, beq_eq_false_iff_ne.2 (show g * 256 + l ≠ 0 by omega)]
    exact ⟨by show (g * 256 + l) % 256 = l; omega, by show (g * 256 + l) / 256 = g; omega⟩
  | false =>
    rw [hv, Bool.or_false, Bool.and_eq_true, beq_iff_eq, beq_iff_eq] at h
    obtain ⟨rfl, rfl⟩ := h
    exact ⟨by decide, by decide⟩
theorem i64_w64 {x : Int} (h : i64ok x) : IntKind.i64.wrap (w64 x) = x := by
  have := h.1; have := h.2
  rw [w64_eq, w_i64]; omega
theorem fill_d0 (p : Pg) (v : Ver) (hk : p.d0 % 256 = 1) : (fillP p v).d0 % 256 = 1 ∧ (fillP p v).d0 / 256 % 16777216 = p.d0 / 256 % 16777216 ∧ (fillP p v).d0 / 4294967296 = (bif v.del then 1 else 0) := by
  show tag _ _ (bif v.del then 1 else 0) % 256 = 1 ∧ tag _ _ (bif v.del then 1 else 0) / 256 % 16777216 = _ ∧ tag _ _ (bif v.del then 1 else 0) / 4294967296 = _
  unfold tag
  cases v.del
  · refine ⟨?_, ?_, ?_⟩ <;> simp only [cond_false] <;> omega
  · refine ⟨?_, ?_, ?_⟩ <;> simp only [cond_true] <;> omega
theorem raw_fill (p : Pg) (v : Ver) (hv : v.ok) (h : validV v = true) (hk : p.d0 % 256 = 1) : rawV (fillP p v) = v := by
  obtain ⟨_, _, f3⟩ := fill_d0 p v hk
  obtain ⟨h0, h1, h2, h3, h4, h5, _⟩ := hv
  have hpk := pack_range v.pl v.pg
  have k0 := h0.1; have k1 := h0.2
  have e0 := h4.1; have e1 := h4.2
  unfold validV at h
  simp only [Bool.and_eq_true] at h
  obtain ⟨⟨_, hp⟩, hd⟩ := h
  obtain ⟨p1, p2⟩ := pack_hi hp
  have d1 : (fillP p v).d1 = v.key + pack v.pl v.pg * 4294967296 := rfl
  have d2 : (fillP p v).d2 = w64 (bif v.del then v.ep else v.c0) := rfl
  have d3 : (fillP p v).d3 = w64 v.c1 := rfl
  have d4 : (fillP p v).d4 = w64 v.c2 := rfl
  have q1 : (v.key + pack v.pl v.pg * 4294967296) % 4294967296 = v.key := by omega
  have q2 : (v.key + pack v.pl v.pg * 4294967296) / 4294967296 = pack v.pl v.pg := by omega
  have q3 : (v.del, (bif v.del then (0 : Int) else v.c0), (bif v.del then (0 : Int) else v.c1), (bif v.del then (0 : Int) else v.c2), (bif v.del then v.ep else 0)) = (v.del, v.c0, v.c1, v.c2, v.ep) := by
    cases hb : v.del with
    | true =>
      rw [hb, cond_true] at hd
      simp only [Bool.and_eq_true, beq_iff_eq] at hd
      simp only [cond_true, hd.1, hd.2.1, hd.2.2]
    | false =>
      rw [hb, cond_false, beq_iff_eq] at hd
      simp only [cond_false, hd]
  simp only [Prod.mk.injEq] at q3
  obtain ⟨_, q4, q5, q6, q7⟩ := q3
  have bb : ((bif v.del then (1 : Int) else 0) == 1) = v.del := by cases v.del <;> rfl
  unfold rawV
  simp only [f3, d1, d2, d3, d4, q1, q2, p1, p2, bb, i64_w64 h2, i64_w64 h3]
  refine ver9 rfl ?_ q5 q6 rfl ?_ rfl rfl rfl
  · refine Eq.trans ?_ q4
    cases v.del
    · exact i64_w64 h1
    · rfl
  · refine Eq.trans ?_ q7
    cases v.del
    · rfl
    · show w64 v.ep % 4294967296 = v.ep
      rw [w64_eq]; omega
theorem read_fill (p : Pg) (v : Ver) (hv : v.ok) (h : validV v = true) (hk : p.d0 % 256 = 1) : readR (fillP p v) = (v, 0) := by
  obtain ⟨f1, f2, f3⟩ := fill_d0 p v hk
  have hs : sameD (fillP (fillP p v) v) (fillP p v) = true := by
    have e : (fillP (fillP p v) v).d0 = (fillP p v).d0 := by
      show tag ((fillP p v).d0 % 256) ((fillP p v).d0 / 256 % 16777216) _ = tag (p.d0 % 256) (p.d0 / 256 % 16777216) _
      rw [f1, f2, hk]
    unfold sameD
    rw [e]
    simp only [fillP, beq_self_eq_true, Bool.and_self]
  have hl : leI ((fillP p v).d0 / 4294967296) 1 = true := by
    rw [f3]; cases v.del <;> rfl
  unfold readR readable
  rw [raw_fill p v hv h hk, h, hl, hs, f1]
  rfl
theorem u32_wrap_ok (x : Int) : u32ok (IntKind.u32.wrap x) := by rw [w_u32]; unfold u32ok; omega
theorem u64_wrap_ok (x : Int) : u64ok (IntKind.u64.wrap x) := by rw [w_u64]; unfold u64ok; omega
theorem i64_pick_ok {n m : Int} (h : 0 < m) (h' : m ≤ 4611686018427387904) : i64ok (pick n m) := by
  have := pick_range (n := n) h
  unfold i64ok; omega
theorem i64_0 : i64ok 0 := ⟨by decide, by decide⟩
theorem verI {k a b c : Int} {d : Bool} {e s l g : Int} {o : Option (List AV)} (h : u32ok k ∧ i64ok a ∧ i64ok b ∧ i64ok c ∧ u32ok e ∧ u64ok s ∧ i64ok l ∧ i64ok g) (ho : o = some [.agg (verl k a b c d e s l g)]) : ∃ w : Ver, w.ok ∧ o = some [.agg (verl w.key w.c0 w.c1 w.c2 w.del w.ep w.st w.pl w.pg)] := ⟨⟨k, a, b, c, d, e, s, l, g⟩, h, ho⟩
theorem s_near (v : Ver) (n : Int) (hv : v.ok) : ∃ w : Ver, w.ok ∧ ev 15 [.agg (verl v.key v.c0 v.c1 v.c2 v.del v.ep v.st v.pl v.pg), .v (.int .i64 n)] = some [.agg (verl w.key w.c0 w.c1 w.c2 w.del w.ep w.st w.pl w.pg)] := by
  obtain ⟨v0, v1, v2, v3, v4, v5, v6, v7⟩ := id hv
  rw [ev15]
  have a := s_Pick n 3 (by decide) (by decide)
  have b := s_Pick (IntKind.i64.wrap (v.st.tmod 5000)) 5000 (by decide) (by decide)
  have c := s_Pick v.pl 154 (by decide) (by decide)
  have d := s_Pick v.pg 9 (by decide) (by decide)
  have d' := i64_pick_ok (n := v.pg) (m := 9) (by decide) (by decide)
  cases h1 : (pick n 3 == 0)
  · cases h2 : (v.pl.tmod 2 == 0) <;> cases h3 : v.del <;> cases h4 : ltI 0 (v.ep.tmod 9) <;> cases h5 : (v.key.tmod 5 == 4) <;> simp -implicitDefEqProofs only [some_bind', obCells_agg, obCells_ob, isOb_ok, isL_ok, isOw_ok, avXs_lst, avXs_ow, avNil_lst, avNil_ow, avNil_sl, avOff_sl, avCut_sl, isAgg_agg, nat_beq_self, List.length_cons, List.length_nil, Nat.reduceAdd, Nat.zero_add, isI_v, isB_v, isS_v, avInt_v, avBool_v, avStr_v, cellAt_zero, cellAt_succ, lget_zero, lget_succ, frAt_zero, frAt_succ, blAt_zero, blAt_succ, isEx_ok, isEx_ne, isEx_none, isRt_some, isRt_none, like_st, likeFG_nil, likeFG_cons, likeBG_nil, likeBG_obj, likeBG_row, likeSG_nil, likeSG_cons, likeT_nil, likeS_nil, isNP_nil, isNP_ob, likeT_ep, isEp_ep, epCells_ep, likeT_agg, likeT_int, likeT_bool, likeT_str, likeT_lst, likeT_sl0, likeT_sl1, likeT_ptr, likeS_int, likeS_bool, likeS_str, likeS_lst, likeS_sl0, likeS_sl1, likeS_ptr, isPtr_ok, isSl_0, isSl_1, beq_self_b, Bool.and_self, Bool.and_true, Bool.true_and, Bool.and_false, Bool.false_and, cond_true, cond_false, Bool.not_true, Bool.not_false, a, b, c, d, h1, h2, h3, h4, h5] <;>
      refine verI ?_ rfl <;>
      refine ⟨?_, ?_, ?_, ?_, ?_, ?_, ?_, ?_⟩ <;> first | assumption | exact u32_wrap_ok _ | exact u64_wrap_ok _ | exact i64_wrap_ok _ | exact i64_0
  · simp -implicitDefEqProofs only [some_bind', obCells_agg, obCells_ob, isOb_ok, isL_ok, isOw_ok, avXs_lst, avXs_ow, avNil_lst, avNil_ow, avNil_sl, avOff_sl, avCut_sl, isAgg_agg, nat_beq_self, List.length_cons, List.length_nil, Nat.reduceAdd, Nat.zero_add, isI_v, isB_v, isS_v, avInt_v, avBool_v, avStr_v, cellAt_zero, cellAt_succ, lget_zero, lget_succ, frAt_zero, frAt_succ, blAt_zero, blAt_succ, isEx_ok, isEx_ne, isEx_none, isRt_some, isRt_none, like_st, likeFG_nil, likeFG_cons, likeBG_nil, likeBG_obj, likeBG_row, likeSG_nil, likeSG_cons, likeT_nil, likeS_nil, isNP_nil, isNP_ob, likeT_ep, isEp_ep, epCells_ep, likeT_agg, likeT_int, likeT_bool, likeT_str, likeT_lst, likeT_sl0, likeT_sl1, likeT_ptr, likeS_int, likeS_bool, likeS_str, likeS_lst, likeS_sl0, likeS_sl1, likeS_ptr, isPtr_ok, isSl_0, isSl_1, beq_self_b, Bool.and_self, Bool.and_true, Bool.true_and, Bool.and_false, Bool.false_and, cond_true, cond_false, Bool.not_true, Bool.not_false, a, h1]
    exact ⟨v, hv, rfl⟩
theorem s_awake : ev 12 [] = some [.v (.bool true)] := evL_of (n := 12) (by kernel_rfl)
def nilv (w : Int) : Bool := (w == 0) || valid (w % 256) (w / 256)
theorem ltI_le {a b : Int} : ltI a b = !(leI b a) := ltI_not a b
theorem leI_not (a b : Int) : leI a b = !(ltI b a) := by
  rcases Int.lt_or_le b a with h | h
  · rw [ltI_t h, leI_f h]; rfl
  · rw [ltI_f h, leI_t h]; rfl
theorem s_RKind2 (p : Pg) (hp : p.ok) : ev 36 [.agg (pgl p.l p.h p.d0 p.d1 p.d2 p.d3 p.d4 p.d5 p.d6)] = some [.v (.int .i64 (p.d0 % 256))] := by
  obtain ⟨_, _, h0, _⟩ := hp
  have := h0.1; have := h0.2
  rw [ev36, tmod_pos _ _ (by omega), w_i64]
  exact int1 (by omega)
theorem s_RAux (p : Pg) (hp : p.ok) : ev 35 [.agg (pgl p.l p.h p.d0 p.d1 p.d2 p.d3 p.d4 p.d5 p.d6)] = some [.v (.int .u32 (p.d0 / 4294967296))] := by
  obtain ⟨_, _, h0, _⟩ := hp
  have := h0.1; have := h0.2
  rw [ev35, fdiv_pos _ _ (by decide), w_u32]
  exact int1 (by omega)
theorem s_RGen2 (p : Pg) (hp : p.ok) : ev 40 [.agg (pgl p.l p.h p.d0 p.d1 p.d2 p.d3 p.d4 p.d5 p.d6)] = some [.v (.int .i64 (p.d0 / 256 % 16777216))] := by
  obtain ⟨_, _, h0, _⟩ := hp
  have := h0.1; have := h0.2
  rw [ev40, tdiv_pos _ _ (by omega), tmod_pos _ _ (by rw [w_u64]; omega), w_u64, w_i64]
  exact int1 (by omega)
theorem s_RUnpack2 (w : Int) (h0 : 0 ≤ w) (h1 : w < 4294967296) : ev 38 [.v (.int .u32 w)] = some [.agg [.v (.int .i64 (w % 256)), .v (.int .i64 (w / 256))]] := by
  rw [ev38, tmod_pos _ _ h0, tdiv_pos _ _ h0, w_u32, w_i64, w_i64]
  exact int2 (by omega) (by omega)
theorem s_RnilOrValid (w : Int) (h0 : 0 ≤ w) (h1 : w < 4294967296) : ev 37 [.v (.int .u32 w)] = some [.v (.bool (nilv w))] := by
  rw [ev37]
  unfold nilv
  have a := s_RUnpack2 w h0 h1
  have b := s_RValidPointer (w % 256) (w / 256)
  cases (w == 0) <;> simp -implicitDefEqProofs only [some_bind', obCells_agg, obCells_ob, isOb_ok, isL_ok, isOw_ok, avXs_lst, avXs_ow, avNil_lst, avNil_ow, avNil_sl, avOff_sl, avCut_sl, isAgg_agg, nat_beq_self, List.length_cons, List.length_nil, Nat.reduceAdd, Nat.zero_add, isI_v, isB_v, isS_v, avInt_v, avBool_v, avStr_v, cellAt_zero, cellAt_succ, lget_zero, lget_succ, frAt_zero, frAt_succ, blAt_zero, blAt_succ, isEx_ok, isEx_ne, isEx_none, isRt_some, isRt_none, like_st, likeFG_nil, likeFG_cons, likeBG_nil, likeBG_obj, likeBG_row, likeSG_nil, likeSG_cons, likeT_nil, likeS_nil, isNP_nil, isNP_ob, likeT_ep, isEp_ep, epCells_ep, likeT_agg, likeT_int, likeT_bool, likeT_str, likeT_lst, likeT_sl0, likeT_sl1, likeT_ptr, likeS_int, likeS_bool, likeS_str, likeS_lst, likeS_sl0, likeS_sl1, likeS_ptr, isPtr_ok, isSl_0, isSl_1, beq_self_b, Bool.and_self, Bool.and_true, Bool.true_and, Bool.and_false, Bool.false_and, cond_true, cond_false, Bool.not_true, Bool.not_false, a, b, Bool.true_or, Bool.false_or]
theorem s_RTag2 (g a : Int) (hg : 0 ≤ g ∧ g < 16777216) (h0 : 0 ≤ a) (h1 : a ≤ 1) : ev 39 [.v (.int .i64 1), .v (.int .i64 g), .v (.int .u32 a)] = some [.v (.int .u64 (tag 1 g a))] := by
  rw [ev39]
  have e1 : IntKind.u64.wrap g = g := by rw [w_u64]; omega
  have e2 : IntKind.u64.wrap a = a := by rw [w_u64]; omega
  have e3 : (IntKind.u64.wrap 1).tmod 256 = 1 := by decide
  rw [e1, e2, e3, tmod_pos _ _ hg.1, w_u64, w_u64, w_u64, w_u64]
  unfold tag
  exact int1 (by omega)
theorem s_RPack2 (l g : Int) : ev 41 [.agg [.v (.int .i64 l), .v (.int .i64 g)]] = some [.v (.int .u32 (pack l g))] := by
  rw [ev41, s_RValidPointer]
  unfold pack
  cases h : valid l g with
  | false => rfl
  | true =>
    have := valid_iff.1 h
    simp -implicitDefEqProofs only [some_bind', obCells_agg, obCells_ob, isOb_ok, isL_ok, isOw_ok, avXs_lst, avXs_ow, avNil_lst, avNil_ow, avNil_sl, avOff_sl, avCut_sl, isAgg_agg, nat_beq_self, List.length_cons, List.length_nil, Nat.reduceAdd, Nat.zero_add, isI_v, isB_v, isS_v, avInt_v, avBool_v, avStr_v, cellAt_zero, cellAt_succ, lget_zero, lget_succ, frAt_zero, frAt_succ, blAt_zero, blAt_succ, isEx_ok, isEx_ne, isEx_none, isRt_some, isRt_none, like_st, likeFG_nil, likeFG_cons, likeBG_nil, likeBG_obj, likeBG_row, likeSG_nil, likeSG_cons, likeT_nil, likeS_nil, isNP_nil, isNP_ob, likeT_ep, isEp_ep, epCells_ep, likeT_agg, likeT_int, likeT_bool, likeT_str, likeT_lst, likeT_sl0, likeT_sl1, likeT_ptr, likeS_int, likeS_bool, likeS_str, likeS_lst, likeS_sl0, likeS_sl1, likeS_ptr, isPtr_ok, isSl_0, isSl_1, beq_self_b, Bool.and_self, Bool.and_true, Bool.true_and, Bool.and_false, Bool.false_and, cond_true, cond_false, Bool.not_true, Bool.not_false, if_true, w_u32]
    exact int1 (by omega)
theorem l_RWrite (k c0 c1 c2 : Int) (del : Bool) (ep st pl pg l h d0 d1 d5 : Int) :
    lp 19 0 0 ⟨[(3, (.ptr 0 0 0)), (4, (.ptr 1 0 0)), (6, (.ptr 2 0 0)), (8, (.v (.int .i64 0)))], [⟨1, 51, 9, true, [verl k c0 c1 c2 del ep st pl pg]⟩, ⟨1, 34, 9, true, [pgl 0 0 0 0 0 0 0 0 0]⟩, ⟨1, 34, 9, true, [pgl l h d0 d1 0 0 0 d5 0]⟩]⟩ =
    some ⟨some 0, ⟨[(3, (.ptr 0 0 0)), (4, (.ptr 1 0 0)), (6, (.ptr 2 0 0))], [⟨1, 51, 9, true, [verl k c0 c1 c2 del ep st pl pg]⟩, ⟨1, 34, 9, true, [pgl 0 0 0 0 0 0 0 0 0]⟩, ⟨1, 34, 9, true, [pgl l h d0 d1 (w64 c0) (w64 c1) (w64 c2) d5 0]⟩]⟩, []⟩ := by
  refine (lp19_0 0 k c0 c1 c2 del ep st pl pg 0 0 0 0 0 0 0 0 0 l h d0 d1 0 0 0 d5 0).trans ?_
  refine (lp19_0 1 k c0 c1 c2 del ep st pl pg 0 0 0 0 0 0 0 0 0 l h d0 d1 (w64 c0) 0 0 d5 0).trans ?_
  refine (lp19_0 2 k c0 c1 c2 del ep st pl pg 0 0 0 0 0 0 0 0 0 l h d0 d1 (w64 c0) (w64 c1) 0 d5 0).trans ?_
  refine (lp19_0 3 k c0 c1 c2 del ep st pl pg 0 0 0 0 0 0 0 0 0 l h d0 d1 (w64 c0) (w64 c1) (w64 c2) d5 0).trans ?_
  rfl
theorem s_RWriteRecord (p : Pg) (v : Ver) (hp : p.ok) (hv : v.ok) : ev 19 [.agg (pgl p.l p.h p.d0 p.d1 p.d2 p.d3 p.d4 p.d5 p.d6), .agg (verl v.key v.c0 v.c1 v.c2 v.del v.ep v.st v.pl v.pg)] = some [.agg (writeR p v).1.row, .v (.int .i64 (writeR p v).2)] := by
  have a1 := s_RValidVersion v hv.2.2.2.2.2.1.1 (by have := hv.2.2.2.2.2.1.2; omega)
  have a2 := s_RKind2 p hp
  have a3 := s_RGen2 p hp
  have a4 := s_RPack2 v.pl v.pg
  have hk := hv.1.1
  have hk2 := hv.1.2
  have hpk := pack_range v.pl v.pg
  have t0 := s_RTag2 (p.d0 / 256 % 16777216) 0 (by omega) (by decide) (by decide)
  have t1 := s_RTag2 (p.d0 / 256 % 16777216) 1 (by omega) (by decide) (by decide)
  have e : IntKind.u64.wrap (IntKind.u64.wrap v.key + IntKind.u64.wrap (IntKind.u64.wrap (pack v.pl v.pg) * 4294967296)) = v.key + pack v.pl v.pg * 4294967296 := by
    rw [w_u64, w_u64, w_u64, w_u64]; omega
  rw [ev19]
  unfold writeR
  cases hV : validV v with
  | false => rw [hV] at a1; simp -implicitDefEqProofs only [some_bind', obCells_agg, obCells_ob, isOb_ok, isL_ok, isOw_ok, avXs_lst, avXs_ow, avNil_lst, avNil_ow, avNil_sl, avOff_sl, avCut_sl, isAgg_agg, nat_beq_self, List.length_cons, List.length_nil, Nat.reduceAdd, Nat.zero_add, isI_v, isB_v, isS_v, avInt_v, avBool_v, avStr_v, cellAt_zero, cellAt_succ, lget_zero, lget_succ, frAt_zero, frAt_succ, blAt_zero, blAt_succ, isEx_ok, isEx_ne, isEx_none, isRt_some, isRt_none, like_st, likeFG_nil, likeFG_cons, likeBG_nil, likeBG_obj, likeBG_row, likeSG_nil, likeSG_cons, likeT_nil, likeS_nil, isNP_nil, isNP_ob, likeT_ep, isEp_ep, epCells_ep, likeT_agg, likeT_int, likeT_bool, likeT_str, likeT_lst, likeT_sl0, likeT_sl1, likeT_ptr, likeS_int, likeS_bool, likeS_str, likeS_lst, likeS_sl0, likeS_sl1, likeS_ptr, isPtr_ok, isSl_0, isSl_1, beq_self_b, Bool.and_self, Bool.and_true, Bool.true_and, Bool.and_false, Bool.false_and, cond_true, cond_false, Bool.not_true, Bool.not_false, a1]; rfl
  | true =>
    rw [hV] at a1
    cases h : (p.d0 % 256 == 1) with
    | false => simp -implicitDefEqProofs only [some_bind', obCells_agg, obCells_ob, isOb_ok, isL_ok, isOw_ok, avXs_lst, avXs_ow, avNil_lst, avNil_ow, avNil_sl, avOff_sl, avCut_sl, isAgg_agg, nat_beq_self, List.length_cons, List.length_nil, Nat.reduceAdd, Nat.zero_add, isI_v, isB_v, isS_v, avInt_v, avBool_v, avStr_v, cellAt_zero, cellAt_succ, lget_zero, lget_succ, frAt_zero, frAt_succ, blAt_zero, blAt_succ, isEx_ok, isEx_ne, isEx_none, isRt_some, isRt_none, like_st, likeFG_nil, likeFG_cons, likeBG_nil, likeBG_obj, likeBG_row, likeSG_nil, likeSG_cons, likeT_nil, likeS_nil, isNP_nil, isNP_ob, likeT_ep, isEp_ep, epCells_ep, likeT_agg, likeT_int, likeT_bool, likeT_str, likeT_lst, likeT_sl0, likeT_sl1, likeT_ptr, likeS_int, likeS_bool, likeS_str, likeS_lst, likeS_sl0, likeS_sl1, likeS_ptr, isPtr_ok, isSl_0, isSl_1, beq_self_b, Bool.and_self, Bool.and_true, Bool.true_and, Bool.and_false, Bool.false_and, cond_true, cond_false, Bool.not_true, Bool.not_false, a1, a2, h]; rfl
    | true =>
      have hq : p.d0 % 256 = 1 := beq_iff_eq.1 h
      cases hd : v.del with
      | true =>
        rw [hd] at a1
        simp -implicitDefEqProofs only [some_bind', obCells_agg, obCells_ob, isOb_ok, isL_ok, isOw_ok, avXs_lst, avXs_ow, avNil_lst, avNil_ow, avNil_sl, avOff_sl, avCut_sl, isAgg_agg, nat_beq_self, List.length_cons, List.length_nil, Nat.reduceAdd, Nat.zero_add, isI_v, isB_v, isS_v, avInt_v, avBool_v, avStr_v, cellAt_zero, cellAt_succ, lget_zero, lget_succ, frAt_zero, frAt_succ, blAt_zero, blAt_succ, isEx_ok, isEx_ne, isEx_none, isRt_some, isRt_none, like_st, likeFG_nil, likeFG_cons, likeBG_nil, likeBG_obj, likeBG_row, likeSG_nil, likeSG_cons, likeT_nil, likeS_nil, isNP_nil, isNP_ob, likeT_ep, isEp_ep, epCells_ep, likeT_agg, likeT_int, likeT_bool, likeT_str, likeT_lst, likeT_sl0, likeT_sl1, likeT_ptr, likeS_int, likeS_bool, likeS_str, likeS_lst, likeS_sl0, likeS_sl1, likeS_ptr, isPtr_ok, isSl_0, isSl_1, beq_self_b, Bool.and_self, Bool.and_true, Bool.true_and, Bool.and_false, Bool.false_and, cond_true, cond_false, Bool.not_true, Bool.not_false, a1, a2, a3, a4, t1, e, h]
        have hc : v.c1 = 0 ∧ v.c2 = 0 := by
          unfold validV at hV
          rw [hd] at hV
          simp only [cond_true, Bool.and_eq_true, beq_iff_eq] at hV
          exact ⟨hV.2.2.1, hV.2.2.2⟩
        unfold fillP
        rw [hd, hq, hc.1, hc.2]; rfl
      | false =>
        rw [hd] at a1
        simp -implicitDefEqProofs only [some_bind', obCells_agg, obCells_ob, isOb_ok, isL_ok, isOw_ok, avXs_lst, avXs_ow, avNil_lst, avNil_ow, avNil_sl, avOff_sl, avCut_sl, isAgg_agg, nat_beq_self, List.length_cons, List.length_nil, Nat.reduceAdd, Nat.zero_add, isI_v, isB_v, isS_v, avInt_v, avBool_v, avStr_v, cellAt_zero, cellAt_succ, lget_zero, lget_succ, frAt_zero, frAt_succ, blAt_zero, blAt_succ, isEx_ok, isEx_ne, isEx_none, isRt_some, isRt_none, like_st, likeFG_nil, likeFG_cons, likeBG_nil, likeBG_obj, likeBG_row, likeSG_nil, likeSG_cons, likeT_nil, likeS_nil, isNP_nil, isNP_ob, likeT_ep, isEp_ep, epCells_ep, likeT_agg, likeT_int, likeT_bool, likeT_str, likeT_lst, likeT_sl0, likeT_sl1, likeT_ptr, likeS_int, likeS_bool, likeS_str, likeS_lst, likeS_sl0, likeS_sl1, likeS_ptr, isPtr_ok, isSl_0, isSl_1, beq_self_b, Bool.and_self, Bool.and_true, Bool.true_and, Bool.and_false, Bool.false_and, cond_true, cond_false, Bool.not_true, Bool.not_false, a1, a2, a3, a4, t0, e, h, l_RWrite]
        unfold fillP
        rw [hd, hq]; rfl
def readD (p : Pg) : Ver × Int := bif p.d0 % 256 == 1 && (leI (p.d0 / 4294967296) 1 && ((p.d6 == 0) && (nilv (p.d1 / 4294967296) && ((bif p.d0 / 4294967296 == 1 then ltI p.d2 4294967296 && ((p.d3 == 0) && (p.d4 == 0)) else true) && validV (rawV p))))) then (rawV p, 0) else (vzero, 14)
theorem pack_raw {w : Int} (h0 : 0 ≤ w) (h : ptrOk (bif w == 0 then 0 else w % 256) (bif w == 0 then 0 else w / 256) = true) : nilv w = true ∧ pack (bif w == 0 then 0 else w % 256) (bif w == 0 then 0 else w / 256) = w := by
  unfold nilv
  cases hw : (w == 0) with
  | true =>
    have := beq_iff_eq.1 hw
    subst this
    exact ⟨rfl, by decide⟩
  | false =>
    have hne : w ≠ 0 := beq_eq_false_iff_ne.1 hw
    rw [hw, cond_false, cond_false] at h
    unfold ptrOk at h
    have : ((w % 256 == 0) && (w / 256 == 0)) = false := by
      rw [Bool.eq_false_iff]
      intro hh
      rw [Bool.and_eq_true, beq_iff_eq, beq_iff_eq] at hh
      omega
    rw [this, Bool.false_or] at h
    refine ⟨by rw [h]; rfl, ?_⟩
    show pack (w % 256) (w / 256) = w
    unfold pack
    rw [if_pos h]; omega
theorem beq_zero (x : Int) : ((0 : Int) == x) = (x == 0) := by rw [Bool.eq_iff_iff, beq_iff_eq, beq_iff_eq]; exact eq_comm
theorem w64_i64 {x : Int} (h : u64ok x) : w64 (IntKind.i64.wrap x) = x := by
  have := h.1; have := h.2
  rw [w64_eq, w_i64]; omega
theorem raw_ptr (p : Pg) (hp : p.ok) (hv : validV (rawV p) = true) : nilv (p.d1 / 4294967296) = true ∧ pack (rawV p).pl (rawV p).pg = p.d1 / 4294967296 := by
  obtain ⟨_, _, _, h1, _⟩ := hp
  have := h1.1
  unfold validV at hv
  simp only [Bool.and_eq_true] at hv
  exact pack_raw (by omega) hv.1.2
theorem same_raw (p : Pg) (hp : p.ok) (hk : p.d0 % 256 = 1) (ha : p.d0 / 4294967296 ≤ 1) (hv : validV (rawV p) = true) : sameD (fillP p (rawV p)) p = ((p.d6 == 0) && (bif p.d0 / 4294967296 == 1 then ltI p.d2 4294967296 && ((p.d3 == 0) && (p.d4 == 0)) else true)) := by
  obtain ⟨_, hpk⟩ := raw_ptr p hp hv
  obtain ⟨_, _, h0, h1, h2, h3, h4, h5, h6⟩ := hp
  have a0 := h0.1; have a0' := h0.2
  have a1 := h1.1; have a1' := h1.2
  have a2 := h2.1; have a2' := h2.2
  have q1 : (fillP p (rawV p)).d1 = p.d1 := by
    show p.d1 % 4294967296 + pack (rawV p).pl (rawV p).pg * 4294967296 = p.d1
    rw [hpk]; omega
  have q5 : (fillP p (rawV p)).d5 = p.d5 := rfl
  have q6 : (fillP p (rawV p)).d6 = 0 := rfl
  have q0 : (fillP p (rawV p)).d0 = tag (p.d0 % 256) (p.d0 / 256 % 16777216) (bif p.d0 / 4294967296 == 1 then 1 else 0) := rfl
  have q2 : (fillP p (rawV p)).d2 = w64 (bif p.d0 / 4294967296 == 1 then (bif p.d0 / 4294967296 == 1 then p.d2 % 4294967296 else 0) else (bif p.d0 / 4294967296 == 1 then 0 else IntKind.i64.wrap p.d2)) := rfl
  have q3 : (fillP p (rawV p)).d3 = w64 (bif p.d0 / 4294967296 == 1 then 0 else IntKind.i64.wrap p.d3) := rfl
  have q4 : (fillP p (rawV p)).d4 = w64 (bif p.d0 / 4294967296 == 1 then 0 else IntKind.i64.wrap p.d4) := rfl
  unfold sameD
  rw [q0, q1, q2, q3, q4, q5, q6, beq_zero]
  cases hd : (p.d0 / 4294967296 == 1) with
  | false =>
    have := beq_eq_false_iff_ne.1 hd
    simp only [cond_false, w64_i64 h2, w64_i64 h3, w64_i64 h4, beq_self_eq_true, Bool.true_and, Bool.and_true]
    rw [show tag (p.d0 % 256) (p.d0 / 256 % 16777216) 0 = p.d0 by unfold tag; omega, beq_self_eq_true, Bool.true_and]
  | true =>
    have := beq_iff_eq.1 hd
    have z : w64 0 = 0 := by decide
    have y : (w64 (p.d2 % 4294967296) == p.d2) = ltI p.d2 4294967296 := by
      rw [w64_eq, Bool.eq_iff_iff, beq_iff_eq, ltI_iff]; omega
    simp only [cond_true, z, y, beq_zero, beq_self_eq_true, Bool.true_and, Bool.and_true]
    rw [show tag (p.d0 % 256) (p.d0 / 256 % 16777216) 1 = p.d0 by unfold tag; omega, beq_self_eq_true, Bool.true_and]
    cases (p.d6 == 0) <;> cases ltI p.d2 4294967296 <;> cases (p.d3 == 0) <;> cases (p.d4 == 0) <;> rfl
theorem readD_eq (p : Pg) (hp : p.ok) : readD p = readR p := by
  unfold readD readR readable
  cases c1 : (p.d0 % 256 == 1) with
  | false => rfl
  | true =>
    cases c2 : leI (p.d0 / 4294967296) 1 with
    | false => rfl
    | true =>
      cases c5 : validV (rawV p) with
      | false => simp only [Bool.and_false, Bool.true_and, Bool.false_and]
      | true =>
        rw [same_raw p hp (beq_iff_eq.1 c1) (leI_iff.1 c2) c5, (raw_ptr p hp c5).1]
        simp only [Bool.true_and, Bool.and_true]
theorem l_RRead (l h d0 d1 d2 d3 d4 d5 d6 k st pl pg : Int) (del : Bool) :
    lp 17 0 0 ⟨[(1, (.ptr 0 0 0)), (2, (.ptr 1 0 0)), (4, (.ptr 2 0 0)), (6, (.v (.int .i64 0)))], [⟨1, 34, 9, true, [pgl l h d0 d1 d2 d3 d4 d5 d6]⟩, ⟨1, 51, 9, true, [verl 0 0 0 0 false 0 0 0 0]⟩, ⟨1, 51, 9, true, [verl k 0 0 0 del 0 st pl pg]⟩]⟩ =
    some ⟨some 0, ⟨[(2, (.ptr 0 0 0)), (4, (.ptr 1 0 0))], [⟨1, 51, 9, true, [verl 0 0 0 0 false 0 0 0 0]⟩, ⟨1, 51, 9, true, [verl k (IntKind.i64.wrap d2) (IntKind.i64.wrap d3) (IntKind.i64.wrap d4) del 0 st pl pg]⟩]⟩, []⟩ := by
  refine (lp17_0 0 l h d0 d1 d2 d3 d4 d5 d6 0 0 0 0 false 0 0 0 0 k 0 0 0 del 0 st pl pg).trans ?_
  refine (lp17_0 1 l h d0 d1 d2 d3 d4 d5 d6 0 0 0 0 false 0 0 0 0 k (IntKind.i64.wrap d2) 0 0 del 0 st pl pg).trans ?_
  refine (lp17_0 2 l h d0 d1 d2 d3 d4 d5 d6 0 0 0 0 false 0 0 0 0 k (IntKind.i64.wrap d2) (IntKind.i64.wrap d3) 0 del 0 st pl pg).trans ?_
  refine (lp17_0 3 l h d0 d1 d2 d3 d4 d5 d6 0 0 0 0 false 0 0 0 0 k (IntKind.i64.wrap d2) (IntKind.i64.wrap d3) (IntKind.i64.wrap d4) del 0 st pl pg).trans ?_
  rfl
theorem s_RReadRecord (p : Pg) (hp : p.ok) : ev 17 [.agg (pgl p.l p.h p.d0 p.d1 p.d2 p.d3 p.d4 p.d5 p.d6)] = some [.agg (readR p).1.row, .v (.int .i64 (readR p).2)] := by
  rw [← readD_eq p hp]
  have hrok := rawV_ok p hp
  have hval := s_RValidVersion (rawV p) hrok.2.2.2.2.2.1.1 (by have := hrok.2.2.2.2.2.1.2; omega)
  have a1 := s_RAux p hp
  have a2 := s_RKind2 p hp
  obtain ⟨_, _, h0, h1, h2, h3, h4, h5, h6⟩ := hp
  have x1 := h1.1; have x1' := h1.2
  rw [ev17, fdiv_pos _ _ (by decide)]
  have e1 : IntKind.u32.wrap (p.d1 / 4294967296) = p.d1 / 4294967296 := by rw [w_u32]; omega
  have e3 : IntKind.u32.wrap p.d1 = p.d1 % 4294967296 := w_u32 _
  have e4 : IntKind.u32.wrap p.d2 = p.d2 % 4294967296 := w_u32 _
  have b1 := s_RnilOrValid (p.d1 / 4294967296) (by omega) (by omega)
  have b2 := s_RUnpack2 (p.d1 / 4294967296) (by omega) (by omega)
  rw [e1, e3, e4]
  have hraw : (rawV p).row = verl (p.d1 % 4294967296) (bif p.d0 / 4294967296 == 1 then 0 else IntKind.i64.wrap p.d2) (bif p.d0 / 4294967296 == 1 then 0 else IntKind.i64.wrap p.d3) (bif p.d0 / 4294967296 == 1 then 0 else IntKind.i64.wrap p.d4) (p.d0 / 4294967296 == 1) (bif p.d0 / 4294967296 == 1 then p.d2 % 4294967296 else 0) p.d5 (bif p.d1 / 4294967296 == 0 then 0 else p.d1 / 4294967296 % 256) (bif p.d1 / 4294967296 == 0 then 0 else p.d1 / 4294967296 / 256) := rfl
  rw [← Ver.row_eq, hraw] at hval
  unfold readD
  cases c1 : (p.d0 % 256 == 1) with
  | false => simp -implicitDefEqProofs only [some_bind', obCells_agg, obCells_ob, isOb_ok, isL_ok, isOw_ok, avXs_lst, avXs_ow, avNil_lst, avNil_ow, avNil_sl, avOff_sl, avCut_sl, isAgg_agg, nat_beq_self, List.length_cons, List.length_nil, Nat.reduceAdd, Nat.zero_add, isI_v, isB_v, isS_v, avInt_v, avBool_v, avStr_v, cellAt_zero, cellAt_succ, lget_zero, lget_succ, frAt_zero, frAt_succ, blAt_zero, blAt_succ, isEx_ok, isEx_ne, isEx_none, isRt_some, isRt_none, like_st, likeFG_nil, likeFG_cons, likeBG_nil, likeBG_obj, likeBG_row, likeSG_nil, likeSG_cons, likeT_nil, likeS_nil, isNP_nil, isNP_ob, likeT_ep, isEp_ep, epCells_ep, likeT_agg, likeT_int, likeT_bool, likeT_str, likeT_lst, likeT_sl0, likeT_sl1, likeT_ptr, likeS_int, likeS_bool, likeS_str, likeS_lst, likeS_sl0, likeS_sl1, likeS_ptr, isPtr_ok, isSl_0, isSl_1, beq_self_b, Bool.and_self, Bool.and_true, Bool.true_and, Bool.and_false, Bool.false_and, cond_true, cond_false, Bool.not_true, Bool.not_false, a1, a2, c1]; rfl
  | true =>
  cases c2 : leI (p.d0 / 4294967296) 1 with
  | false => simp -implicitDefEqProofs only [some_bind', obCells_agg, obCells_ob, isOb_ok, isL_ok, isOw_ok, avXs_lst, avXs_ow, avNil_lst, avNil_ow, avNil_sl, avOff_sl, avCut_sl, isAgg_agg, nat_beq_self, List.length_cons, List.length_nil, Nat.reduceAdd, Nat.zero_add, isI_v, isB_v, isS_v, avInt_v, avBool_v, avStr_v, cellAt_zero, cellAt_succ, lget_zero, lget_succ, frAt_zero, frAt_succ, blAt_zero, blAt_succ, isEx_ok, isEx_ne, isEx_none, isRt_some, isRt_none, like_st, likeFG_nil, likeFG_cons, likeBG_nil, likeBG_obj, likeBG_row, likeSG_nil, likeSG_cons, likeT_nil, likeS_nil, isNP_nil, isNP_ob, likeT_ep, isEp_ep, epCells_ep, likeT_agg, likeT_int, likeT_bool, likeT_str, likeT_lst, likeT_sl0, likeT_sl1, likeT_ptr, likeS_int, likeS_bool, likeS_str, likeS_lst, likeS_sl0, likeS_sl1, likeS_ptr, isPtr_ok, isSl_0, isSl_1, beq_self_b, Bool.and_self, Bool.and_true, Bool.true_and, Bool.and_false, Bool.false_and, cond_true, cond_false, Bool.not_true, Bool.not_false, a1, a2, c1, c2, ltI_not]; rfl
  | true =>
  cases c6 : (p.d6 == 0) with
  | false => simp -implicitDefEqProofs only [some_bind', obCells_agg, obCells_ob, isOb_ok, isL_ok, isOw_ok, avXs_lst, avXs_ow, avNil_lst, avNil_ow, avNil_sl, avOff_sl, avCut_sl, isAgg_agg, nat_beq_self, List.length_cons, List.length_nil, Nat.reduceAdd, Nat.zero_add, isI_v, isB_v, isS_v, avInt_v, avBool_v, avStr_v, cellAt_zero, cellAt_succ, lget_zero, lget_succ, frAt_zero, frAt_succ, blAt_zero, blAt_succ, isEx_ok, isEx_ne, isEx_none, isRt_some, isRt_none, like_st, likeFG_nil, likeFG_cons, likeBG_nil, likeBG_obj, likeBG_row, likeSG_nil, likeSG_cons, likeT_nil, likeS_nil, isNP_nil, isNP_ob, likeT_ep, isEp_ep, epCells_ep, likeT_agg, likeT_int, likeT_bool, likeT_str, likeT_lst, likeT_sl0, likeT_sl1, likeT_ptr, likeS_int, likeS_bool, likeS_str, likeS_lst, likeS_sl0, likeS_sl1, likeS_ptr, isPtr_ok, isSl_0, isSl_1, beq_self_b, Bool.and_self, Bool.and_true, Bool.true_and, Bool.and_false, Bool.false_and, cond_true, cond_false, Bool.not_true, Bool.not_false, a1, a2, c1, c2, c6, ltI_not]; rfl
  | true =>
  cases c7 : nilv (p.d1 / 4294967296) with
  | false => rw [c7] at b1; simp -implicitDefEqProofs only [some_bind', obCells_agg, obCells_ob, isOb_ok, isL_ok, isOw_ok, avXs_lst, avXs_ow, avNil_lst, avNil_ow, avNil_sl, avOff_sl, avCut_sl, isAgg_agg, nat_beq_self, List.length_cons, List.length_nil, Nat.reduceAdd, Nat.zero_add, isI_v, isB_v, isS_v, avInt_v, avBool_v, avStr_v, cellAt_zero, cellAt_succ, lget_zero, lget_succ, frAt_zero, frAt_succ, blAt_zero, blAt_succ, isEx_ok, isEx_ne, isEx_none, isRt_some, isRt_none, like_st, likeFG_nil, likeFG_cons, likeBG_nil, likeBG_obj, likeBG_row, likeSG_nil, likeSG_cons, likeT_nil, likeS_nil, isNP_nil, isNP_ob, likeT_ep, isEp_ep, epCells_ep, likeT_agg, likeT_int, likeT_bool, likeT_str, likeT_lst, likeT_sl0, likeT_sl1, likeT_ptr, likeS_int, likeS_bool, likeS_str, likeS_lst, likeS_sl0, likeS_sl1, likeS_ptr, isPtr_ok, isSl_0, isSl_1, beq_self_b, Bool.and_self, Bool.and_true, Bool.true_and, Bool.and_false, Bool.false_and, cond_true, cond_false, Bool.not_true, Bool.not_false, a1, a2, c1, c2, c6, b1, ltI_not]; rfl
  | true =>
  rw [c7] at b1
  cases c4 : (p.d0 / 4294967296 == 1) with
  | true =>
    cases c8 : ltI p.d2 4294967296 with
    | false => cases c3 : (p.d1 / 4294967296 == 0) <;> simp -implicitDefEqProofs only [some_bind', obCells_agg, obCells_ob, isOb_ok, isL_ok, isOw_ok, avXs_lst, avXs_ow, avNil_lst, avNil_ow, avNil_sl, avOff_sl, avCut_sl, isAgg_agg, nat_beq_self, List.length_cons, List.length_nil, Nat.reduceAdd, Nat.zero_add, isI_v, isB_v, isS_v, avInt_v, avBool_v, avStr_v, cellAt_zero, cellAt_succ, lget_zero, lget_succ, frAt_zero, frAt_succ, blAt_zero, blAt_succ, isEx_ok, isEx_ne, isEx_none, isRt_some, isRt_none, like_st, likeFG_nil, likeFG_cons, likeBG_nil, likeBG_obj, likeBG_row, likeSG_nil, likeSG_cons, likeT_nil, likeS_nil, isNP_nil, isNP_ob, likeT_ep, isEp_ep, epCells_ep, likeT_agg, likeT_int, likeT_bool, likeT_str, likeT_lst, likeT_sl0, likeT_sl1, likeT_ptr, likeS_int, likeS_bool, likeS_str, likeS_lst, likeS_sl0, likeS_sl1, likeS_ptr, isPtr_ok, isSl_0, isSl_1, beq_self_b, Bool.and_self, Bool.and_true, Bool.true_and, Bool.and_false, Bool.false_and, cond_true, cond_false, Bool.not_true, Bool.not_false, a1, a2, c1, c2, c3, c4, c6, c8, b1, b2, ltI_not 1, leI_not 4294967296] <;> rfl
    | true =>
    cases c9 : (p.d3 == 0) with
    | false => cases c3 : (p.d1 / 4294967296 == 0) <;> simp -implicitDefEqProofs only [some_bind', obCells_agg, obCells_ob, isOb_ok, isL_ok, isOw_ok, avXs_lst, avXs_ow, avNil_lst, avNil_ow, avNil_sl, avOff_sl, avCut_sl, isAgg_agg, nat_beq_self, List.length_cons, List.length_nil, Nat.reduceAdd, Nat.zero_add, isI_v, isB_v, isS_v, avInt_v, avBool_v, avStr_v, cellAt_zero, cellAt_succ, lget_zero, lget_succ, frAt_zero, frAt_succ, blAt_zero, blAt_succ, isEx_ok, isEx_ne, isEx_none, isRt_some, isRt_none, like_st, likeFG_nil, likeFG_cons, likeBG_nil, likeBG_obj, likeBG_row, likeSG_nil, likeSG_cons, likeT_nil, likeS_nil, isNP_nil, isNP_ob, likeT_ep, isEp_ep, epCells_ep, likeT_agg, likeT_int, likeT_bool, likeT_str, likeT_lst, likeT_sl0, likeT_sl1, likeT_ptr, likeS_int, likeS_bool, likeS_str, likeS_lst, likeS_sl0, likeS_sl1, likeS_ptr, isPtr_ok, isSl_0, isSl_1, beq_self_b, Bool.and_self, Bool.and_true, Bool.true_and, Bool.and_false, Bool.false_and, cond_true, cond_false, Bool.not_true, Bool.not_false, a1, a2, c1, c2, c3, c4, c6, c8, c9, b1, b2, ltI_not 1, leI_not 4294967296] <;> rfl
    | true =>
    cases c10 : (p.d4 == 0) with
    | false => cases c3 : (p.d1 / 4294967296 == 0) <;> simp -implicitDefEqProofs only [some_bind', obCells_agg, obCells_ob, isOb_ok, isL_ok, isOw_ok, avXs_lst, avXs_ow, avNil_lst, avNil_ow, avNil_sl, avOff_sl, avCut_sl, isAgg_agg, nat_beq_self, List.length_cons, List.length_nil, Nat.reduceAdd, Nat.zero_add, isI_v, isB_v, isS_v, avInt_v, avBool_v, avStr_v, cellAt_zero, cellAt_succ, lget_zero, lget_succ, frAt_zero, frAt_succ, blAt_zero, blAt_succ, isEx_ok, isEx_ne, isEx_none, isRt_some, isRt_none, like_st, likeFG_nil, likeFG_cons, likeBG_nil, likeBG_obj, likeBG_row, likeSG_nil, likeSG_cons, likeT_nil, likeS_nil, isNP_nil, isNP_ob, likeT_ep, isEp_ep, epCells_ep, likeT_agg, likeT_int, likeT_bool, likeT_str, likeT_lst, likeT_sl0, likeT_sl1, likeT_ptr, likeS_int, likeS_bool, likeS_str, likeS_lst, likeS_sl0, likeS_sl1, likeS_ptr, isPtr_ok, isSl_0, isSl_1, beq_self_b, Bool.and_self, Bool.and_true, Bool.true_and, Bool.and_false, Bool.false_and, cond_true, cond_false, Bool.not_true, Bool.not_false, a1, a2, c1, c2, c3, c4, c6, c8, c9, c10, b1, b2, ltI_not 1, leI_not 4294967296] <;> rfl
    | true =>
    cases c3 : (p.d1 / 4294967296 == 0) <;> cases c5 : validV (rawV p) <;> rw [c3, c4, c5] at hval <;> rw [c3, c4] at hraw <;> simp only [cond_true, cond_false] at hval hraw <;> simp -implicitDefEqProofs only [some_bind', obCells_agg, obCells_ob, isOb_ok, isL_ok, isOw_ok, avXs_lst, avXs_ow, avNil_lst, avNil_ow, avNil_sl, avOff_sl, avCut_sl, isAgg_agg, nat_beq_self, List.length_cons, List.length_nil, Nat.reduceAdd, Nat.zero_add, isI_v, isB_v, isS_v, avInt_v, avBool_v, avStr_v, cellAt_zero, cellAt_succ, lget_zero, lget_succ, frAt_zero, frAt_succ, blAt_zero, blAt_succ, isEx_ok, isEx_ne, isEx_none, isRt_some, isRt_none, like_st, likeFG_nil, likeFG_cons, likeBG_nil, likeBG_obj, likeBG_row, likeSG_nil, likeSG_cons, likeT_nil, likeS_nil, isNP_nil, isNP_ob, likeT_ep, isEp_ep, epCells_ep, likeT_agg, likeT_int, likeT_bool, likeT_str, likeT_lst, likeT_sl0, likeT_sl1, likeT_ptr, likeS_int, likeS_bool, likeS_str, likeS_lst, likeS_sl0, likeS_sl1, likeS_ptr, isPtr_ok, isSl_0, isSl_1, beq_self_b, Bool.and_self, Bool.and_true, Bool.true_and, Bool.and_false, Bool.false_and, cond_true, cond_false, Bool.not_true, Bool.not_false, a1, a2, c1, c2, c3, c4, c6, c8, c9, c10, b1, b2, hval, hraw, vzero, Ver.row_eq, ltI_not 1, leI_not 4294967296]
  | false =>
    cases c3 : (p.d1 / 4294967296 == 0) <;> cases c5 : validV (rawV p) <;> rw [c3, c4, c5] at hval <;> rw [c3, c4] at hraw <;> simp only [cond_true, cond_false] at hval hraw <;> simp -implicitDefEqProofs only [some_bind', obCells_agg, obCells_ob, isOb_ok, isL_ok, isOw_ok, avXs_lst, avXs_ow, avNil_lst, avNil_ow, avNil_sl, avOff_sl, avCut_sl, isAgg_agg, nat_beq_self, List.length_cons, List.length_nil, Nat.reduceAdd, Nat.zero_add, isI_v, isB_v, isS_v, avInt_v, avBool_v, avStr_v, cellAt_zero, cellAt_succ, lget_zero, lget_succ, frAt_zero, frAt_succ, blAt_zero, blAt_succ, isEx_ok, isEx_ne, isEx_none, isRt_some, isRt_none, like_st, likeFG_nil, likeFG_cons, likeBG_nil, likeBG_obj, likeBG_row, likeSG_nil, likeSG_cons, likeT_nil, likeS_nil, isNP_nil, isNP_ob, likeT_ep, isEp_ep, epCells_ep, likeT_agg, likeT_int, likeT_bool, likeT_str, likeT_lst, likeT_sl0, likeT_sl1, likeT_ptr, likeS_int, likeS_bool, likeS_str, likeS_lst, likeS_sl0, likeS_sl1, likeS_ptr, isPtr_ok, isSl_0, isSl_1, beq_self_b, Bool.and_self, Bool.and_true, Bool.true_and, Bool.and_false, Bool.false_and, cond_true, cond_false, Bool.not_true, Bool.not_false, a1, a2, c1, c2, c3, c4, c6, b1, b2, l_RRead, hval, hraw, vzero, Ver.row_eq, ltI_not 1, leI_not 4294967296]
end Go.Proofs.Ythihfpcleejjfaa
