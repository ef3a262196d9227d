/- What the chapter's functions are. -/
import Derived.Test.YtkealdacgocafaaTy
set_option linter.all false
namespace Go.Proofs.Ytkealdacgocafaa
open Go.Ev
attribute [local congr] bind_first cond_first
def valid (l g : Int) : Bool := decide (104 ≤ l ∧ l < 256 ∧ 1 ≤ g ∧ g ≤ 16777215)
theorem valid_iff {l g : Int} : valid l g = true ↔ (104 ≤ l ∧ l < 256 ∧ 1 ≤ g ∧ g ≤ 16777215) := decide_eq_true_iff
def pack (l g : Int) : Int := if valid l g then g * 256 + l else 0
theorem pack_range (l g : Int) : 0 ≤ pack l g ∧ pack l g < 4294967296 := by
  unfold pack; split
  · rename_i h; have := valid_iff.1 h; omega
  · omega

theorem s_Pick (a m : Int) (hm : 0 < m) (hm' : m ≤ 4611686018427387904) : ev 5 [.v (.int .i64 a), .v (.int .i64 m)] = some [.v (.int .i64 (pick a m))] := by
  rw [ev5]
  simp only [ltI_f (show 1 ≤ m by omega), eqI_f (show m ≠ 0 by omega), cond_false, pick_ok hm hm']
theorem s_pinHeap (l : Int) : ev 17 [.v (.int .i64 l)] = some [.v (.bool (leI 104 l && ltI l 256))] := by
  rw [ev17]; cases leI 104 l <;> rfl
theorem valid_eq (l g : Int) : (leI 104 l && ltI l 256 && leI 1 g && leI g 16777215) = valid l g := by
  unfold valid leI ltI
  rw [Bool.eq_iff_iff]
  simp only [Bool.and_eq_true, decide_eq_true_eq]
  omega
theorem s_pValid (l g : Int) : ev 23 [.agg [.v (.int .i64 l), .v (.int .i64 g)]] = some [.v (.bool (valid l g))] := by
  rw [ev23, s_pinHeap, ← valid_eq]
  simp -implicitDefEqProofs only [some_bind', obCells_agg, obCells_ob, isOb_ok, isL_ok, isOw_ok, avXs_lst, avXs_ow, avNil_lst, avNil_ow, avNil_sl, avOff_sl, avCut_sl, isAgg_agg, nat_beq_self, List.length_cons, List.length_nil, Nat.reduceAdd, Nat.zero_add, isI_v, isB_v, isS_v, avInt_v, avBool_v, avStr_v, cellAt_zero, cellAt_succ, lget_zero, lget_succ, frAt_zero, frAt_succ, blAt_zero, blAt_succ, isEx_ok, isEx_ne, isEx_none, isRt_some, isRt_none, like_st, likeFG_nil, likeFG_cons, likeBG_nil, likeBG_obj, likeBG_row, likeSG_nil, likeSG_cons, likeT_nil, likeS_nil, isNP_nil, isNP_ob, likeT_ep, isEp_ep, epCells_ep, likeT_agg, likeT_int, likeT_bool, likeT_str, likeT_lst, likeT_sl0, likeT_sl1, likeT_ptr, likeS_int, likeS_bool, likeS_str, likeS_lst, likeS_sl0, likeS_sl1, likeS_ptr, isPtr_ok, isSl_0, isSl_1, beq_self_b, Bool.and_self, Bool.and_true, Bool.true_and, Bool.and_false, Bool.false_and, cond_true, cond_false, Bool.not_true, Bool.not_false]
  cases (leI 104 l && ltI l 256) <;> cases leI 1 g <;> rfl
theorem s_pPack (l g : Int) : ev 28 [.agg [.v (.int .i64 l), .v (.int .i64 g)]] = some [.v (.int .u32 (pack l g))] := by
  rw [ev28, s_pValid]
  simp -implicitDefEqProofs only [some_bind', obCells_agg, obCells_ob, isOb_ok, isL_ok, isOw_ok, avXs_lst, avXs_ow, avNil_lst, avNil_ow, avNil_sl, avOff_sl, avCut_sl, isAgg_agg, nat_beq_self, List.length_cons, List.length_nil, Nat.reduceAdd, Nat.zero_add, isI_v, isB_v, isS_v, avInt_v, avBool_v, avStr_v, cellAt_zero, cellAt_succ, lget_zero, lget_succ, frAt_zero, frAt_succ, blAt_zero, blAt_succ, isEx_ok, isEx_ne, isEx_none, isRt_some, isRt_none, like_st, likeFG_nil, likeFG_cons, likeBG_nil, likeBG_obj, likeBG_row, likeSG_nil, likeSG_cons, likeT_nil, likeS_nil, isNP_nil, isNP_ob, likeT_ep, isEp_ep, epCells_ep, likeT_agg, likeT_int, likeT_bool, likeT_str, likeT_lst, likeT_sl0, likeT_sl1, likeT_ptr, likeS_int, likeS_bool, likeS_str, likeS_lst, likeS_sl0, likeS_sl1, likeS_ptr, isPtr_ok, isSl_0, isSl_1, beq_self_b, Bool.and_self, Bool.and_true, Bool.true_and, Bool.and_false, Bool.false_and, cond_true, cond_false, Bool.not_true, Bool.not_false]
  unfold pack
  cases h : valid l g with
  | false => rfl
  | true =>
    have := valid_iff.1 h
    simp -implicitDefEqProofs only [some_bind', obCells_agg, obCells_ob, isOb_ok, isL_ok, isOw_ok, avXs_lst, avXs_ow, avNil_lst, avNil_ow, avNil_sl, avOff_sl, avCut_sl, isAgg_agg, nat_beq_self, List.length_cons, List.length_nil, Nat.reduceAdd, Nat.zero_add, isI_v, isB_v, isS_v, avInt_v, avBool_v, avStr_v, cellAt_zero, cellAt_succ, lget_zero, lget_succ, frAt_zero, frAt_succ, blAt_zero, blAt_succ, isEx_ok, isEx_ne, isEx_none, isRt_some, isRt_none, like_st, likeFG_nil, likeFG_cons, likeBG_nil, likeBG_obj, likeBG_row, likeSG_nil, likeSG_cons, likeT_nil, likeS_nil, isNP_nil, isNP_ob, likeT_ep, isEp_ep, epCells_ep, likeT_agg, likeT_int, likeT_bool, likeT_str, likeT_lst, likeT_sl0, likeT_sl1, likeT_ptr, likeS_int, likeS_bool, likeS_str, likeS_lst, likeS_sl0, likeS_sl1, likeS_ptr, isPtr_ok, isSl_0, isSl_1, beq_self_b, Bool.and_self, Bool.and_true, Bool.true_and, Bool.and_false, Bool.false_and, cond_true, cond_false, Bool.not_true, Bool.not_false, if_true, w_u32]
    rw [or_u32 8 _ _ (by omega) (by omega) (by omega) (by omega) (by omega) (by omega)]
    exact int1 (by omega)
theorem int2 {k k' : IntKind} {a b c d : Int} (h : a = b) (h' : c = d) : (some [AV.agg [.v (.int k a), .v (.int k' c)]] : Option (List AV)) = some [.agg [.v (.int k b), .v (.int k' d)]] := by rw [h, h']
theorem int3 {k k' k'' : IntKind} {a b c d e f : Int} (h : a = b) (h' : c = d) (h'' : e = f) : (some [AV.agg [.v (.int k a), .v (.int k' c), .v (.int k'' e)]] : Option (List AV)) = some [.agg [.v (.int k b), .v (.int k' d), .v (.int k'' f)]] := by rw [h, h', h'']
theorem s_pUnpack (w : Int) (h0 : 0 ≤ w) (h1 : w < 4294967296) : ev 26 [.v (.int .u32 w)] = some [.agg [.v (.int .i64 (w % 256)), .v (.int .i64 (w / 256))]] := by
  rw [ev26, and_u32 8 (by decide) w 255 (by decide) h0 h1, fdiv_pos _ _ (by decide)]
  simp only [w_i64]
  exact int2 (by omega) (by omega)
theorem s_pUnpackTag (t : Int) (h0 : 0 ≤ t) (h1 : t < 18446744073709551616) : ev 21 [.v (.int .u64 t)] = some [.agg [.v (.int .i64 (t % 256)), .v (.int .i64 (t / 256 % 16777216)), .v (.int .u32 (t / 4294967296))]] := by
  rw [ev21, and_u64 8 (by decide) t 255 (by decide) h0 h1, fdiv_pos _ _ (by decide), fdiv_pos _ _ (by decide), and_u64 24 (by decide) (t / 256) 16777215 (by decide) (by omega) (by omega)]
  simp only [w_i64, w_u32]
  exact int3 (by omega) (by omega) (by omega)
/-- A tag as a word. -/
def tag (k g a : Int) : Int := k % 256 + g % 16777216 * 256 + a * 4294967296
theorem tag_range {k g a : Int} (h0 : 0 ≤ a) (h1 : a < 4294967296) : 0 ≤ tag k g a ∧ tag k g a < 18446744073709551616 := by
  unfold tag; omega
theorem s_pPackTag (k g a : Int) (h0 : 0 ≤ a) (h1 : a < 4294967296) : ev 27 [.agg [.v (.int .i64 k), .v (.int .i64 g), .v (.int .u32 a)]] = some [.v (.int .u64 (tag k g a))] := by
  rw [ev27]
  simp only [w_u64]
  rw [and_u64 8 (by decide) _ 255 (by decide) (by omega) (by omega), and_u64 24 (by decide) _ 16777215 (by decide) (by omega) (by omega)]
  have e (x y : Int) (h0 : 0 ≤ x) (h1 : x < 2 ^ 8) (h2 : 0 ≤ y) (h3 : y < 2 ^ 32) (h4 : y % 2 ^ 8 = 0) : bits .or .u64 x y = y + x := by
    rw [Go.Ev.bits_or_comm, or_u64 8 _ _ (by omega) (by omega) (by omega) (by omega) (by omega) (by omega)]
  rw [e (k % 18446744073709551616 % 2 ^ 8) _ (by omega) (by omega) (by omega) (by omega) (by omega)]
  rw [Go.Ev.bits_or_comm, or_u64 32 _ _ (by omega) (by omega) (by omega) (by omega) (by omega) (by omega)]
  unfold tag
  exact int1 (by omega)
abbrev pg := pgl
abbrev zero9 : List AV := pgl 0 0 0 0 0 0 0 0 0
theorem s_ptagOf {l h d0 d1 d2 d3 d4 d5 d6 : Int} (h0 : 0 ≤ d0) (h1 : d0 < 18446744073709551616) : ev 16 [.agg (pg l h d0 d1 d2 d3 d4 d5 d6)] = some [.agg [.v (.int .i64 (d0 % 256)), .v (.int .i64 (d0 / 256 % 16777216)), .v (.int .u32 (d0 / 4294967296))]] := by
  rw [ev16, s_pUnpackTag _ h0 h1]
  simp -implicitDefEqProofs only [some_bind', obCells_agg, obCells_ob, isOb_ok, isL_ok, isOw_ok, avXs_lst, avXs_ow, avNil_lst, avNil_ow, avNil_sl, avOff_sl, avCut_sl, isAgg_agg, nat_beq_self, List.length_cons, List.length_nil, Nat.reduceAdd, Nat.zero_add, isI_v, isB_v, isS_v, avInt_v, avBool_v, avStr_v, cellAt_zero, cellAt_succ, lget_zero, lget_succ, frAt_zero, frAt_succ, blAt_zero, blAt_succ, isEx_ok, isEx_ne, isEx_none, isRt_some, isRt_none, like_st, likeFG_nil, likeFG_cons, likeBG_nil, likeBG_obj, likeBG_row, likeSG_nil, likeSG_cons, likeT_nil, likeS_nil, isNP_nil, isNP_ob, likeT_ep, isEp_ep, epCells_ep, likeT_agg, likeT_int, likeT_bool, likeT_str, likeT_lst, likeT_sl0, likeT_sl1, likeT_ptr, likeS_int, likeS_bool, likeS_str, likeS_lst, likeS_sl0, likeS_sl1, likeS_ptr, isPtr_ok, isSl_0, isSl_1, beq_self_b, Bool.and_self, Bool.and_true, Bool.true_and, Bool.and_false, Bool.false_and, cond_true, cond_false, Bool.not_true, Bool.not_false]
theorem s_pAt {l h d0 d1 d2 d3 d4 d5 d6 : Int} (h0 : 0 ≤ d0) (h1 : d0 < 18446744073709551616) : ev 11 [.agg (pg l h d0 d1 d2 d3 d4 d5 d6)] = some [.agg [.v (.int .i64 l), .v (.int .i64 (d0 / 256 % 16777216))]] := by
  rw [ev11, s_ptagOf h0 h1]
  simp -implicitDefEqProofs only [some_bind', obCells_agg, obCells_ob, isOb_ok, isL_ok, isOw_ok, avXs_lst, avXs_ow, avNil_lst, avNil_ow, avNil_sl, avOff_sl, avCut_sl, isAgg_agg, nat_beq_self, List.length_cons, List.length_nil, Nat.reduceAdd, Nat.zero_add, isI_v, isB_v, isS_v, avInt_v, avBool_v, avStr_v, cellAt_zero, cellAt_succ, lget_zero, lget_succ, frAt_zero, frAt_succ, blAt_zero, blAt_succ, isEx_ok, isEx_ne, isEx_none, isRt_some, isRt_none, like_st, likeFG_nil, likeFG_cons, likeBG_nil, likeBG_obj, likeBG_row, likeSG_nil, likeSG_cons, likeT_nil, likeS_nil, isNP_nil, isNP_ob, likeT_ep, isEp_ep, epCells_ep, likeT_agg, likeT_int, likeT_bool, likeT_str, likeT_lst, likeT_sl0, likeT_sl1, likeT_ptr, likeS_int, likeS_bool, likeS_str, likeS_lst, likeS_sl0, likeS_sl1, likeS_ptr, isPtr_ok, isSl_0, isSl_1, beq_self_b, Bool.and_self, Bool.and_true, Bool.true_and, Bool.and_false, Bool.false_and, cond_true, cond_false, Bool.not_true, Bool.not_false]
theorem s_pLocked {l h d0 d1 d2 d3 d4 d5 d6 : Int} (h0 : 0 ≤ h) (h1 : h < 18446744073709551616) : ev 18 [.agg (pg l h d0 d1 d2 d3 d4 d5 d6)] = some [.v (.bool (!(h % 256 == 0)))] := by
  rw [ev18, and_u64 8 (by decide) h 255 (by decide) h0 h1]; rfl
def okT (c s : Int) : Bool := decide (0 ≤ c ∧ c < 6 ∧ 1 ≤ s ∧ s < 1073741824)
theorem okT_iff {c s : Int} : okT c s = true ↔ (0 ≤ c ∧ c < 6 ∧ 1 ≤ s ∧ s < 1073741824) := decide_eq_true_iff
theorem okT_f {c s : Int} (h : ¬ (0 ≤ c ∧ c < 6 ∧ 1 ≤ s ∧ s < 1073741824)) : okT c s = false := decide_eq_false h
theorem s_Stamp (c s : Int) : ev 6 [.v (.int .i64 c), .v (.int .i64 s)] = some [.v (.int .u64 (if okT c s then s * 256 + (c + 1) else 0))] := by
  rw [ev6]
  by_cases h : 0 ≤ c ∧ c < 6 ∧ 1 ≤ s ∧ s < 1073741824
  · rw [if_pos (okT_iff.2 h), ltI_f (by omega), leI_f (by omega), ltI_f (by omega), leI_f (by omega)]
    simp only [cond_false]
    have e1 : IntKind.u64.wrap (IntKind.u64.wrap s * 256) = s * 256 := by rw [w_u64, w_u64]; omega
    have e2 : IntKind.u64.wrap (IntKind.i64.wrap (c + 1)) = c + 1 := by rw [w_u64, w_i64]; omega
    rw [e1, e2, or_u64 8 _ _ (by omega) (by omega) (by omega) (by omega) (by omega) (by omega)]
  · rw [okT_f h, if_neg (by decide)]
    by_cases h1 : c < 0
    · rw [ltI_t h1]; rfl
    · by_cases h2 : 6 ≤ c
      · rw [ltI_f (by omega), leI_t h2]; rfl
      · by_cases h3 : s < 1
        · rw [ltI_f (by omega), leI_f (by omega), ltI_t h3]; rfl
        · rw [ltI_f (by omega), leI_f (by omega), ltI_f (by omega), leI_t (by omega)]; rfl
def okS (x : Int) : Bool := okT (x % 256 - 1) (x / 256)
theorem s_Origin (x : Int) (h0 : 0 ≤ x) (h1 : x < 18446744073709551616) : ev 10 [.v (.int .u64 x)] = some [.v (.int .i64 (if okS x then x % 256 - 1 else 0)), .v (.int .i64 (if okS x then x / 256 else 0)), .v (.bool (okS x))] := by
  rw [ev10, and_u64 8 (by decide) x 255 (by decide) h0 h1, fdiv_pos _ _ (by decide)]
  have e1 : IntKind.i64.wrap (IntKind.i64.wrap (x % 2 ^ 8) - 1) = x % 256 - 1 := by rw [w_i64, w_i64]; omega
  have e2 : IntKind.i64.wrap (x / 256) = x / 256 := by rw [w_i64]; omega
  rw [e1, e2, s_Stamp]
  cases h : okS x with
  | true =>
    have := okT_iff.1 h
    unfold okS at h
    simp -implicitDefEqProofs only [some_bind', obCells_agg, obCells_ob, isOb_ok, isL_ok, isOw_ok, avXs_lst, avXs_ow, avNil_lst, avNil_ow, avNil_sl, avOff_sl, avCut_sl, isAgg_agg, nat_beq_self, List.length_cons, List.length_nil, Nat.reduceAdd, Nat.zero_add, isI_v, isB_v, isS_v, avInt_v, avBool_v, avStr_v, cellAt_zero, cellAt_succ, lget_zero, lget_succ, frAt_zero, frAt_succ, blAt_zero, blAt_succ, isEx_ok, isEx_ne, isEx_none, isRt_some, isRt_none, like_st, likeFG_nil, likeFG_cons, likeBG_nil, likeBG_obj, likeBG_row, likeSG_nil, likeSG_cons, likeT_nil, likeS_nil, isNP_nil, isNP_ob, likeT_ep, isEp_ep, epCells_ep, likeT_agg, likeT_int, likeT_bool, likeT_str, likeT_lst, likeT_sl0, likeT_sl1, likeT_ptr, likeS_int, likeS_bool, likeS_str, likeS_lst, likeS_sl0, likeS_sl1, likeS_ptr, isPtr_ok, isSl_0, isSl_1, beq_self_b, Bool.and_self, Bool.and_true, Bool.true_and, Bool.and_false, Bool.false_and, cond_true, cond_false, Bool.not_true, Bool.not_false, ltI_f this.1, h, if_true, beq_eq_false_iff_ne.2 (show x / 256 * 256 + (x % 256 - 1 + 1) ≠ 0 by omega)]
  | false =>
    unfold okS at h
    by_cases h2 : x % 256 - 1 < 0
    · rw [ltI_t h2]; rfl
    · simp -implicitDefEqProofs only [some_bind', obCells_agg, obCells_ob, isOb_ok, isL_ok, isOw_ok, avXs_lst, avXs_ow, avNil_lst, avNil_ow, avNil_sl, avOff_sl, avCut_sl, isAgg_agg, nat_beq_self, List.length_cons, List.length_nil, Nat.reduceAdd, Nat.zero_add, isI_v, isB_v, isS_v, avInt_v, avBool_v, avStr_v, cellAt_zero, cellAt_succ, lget_zero, lget_succ, frAt_zero, frAt_succ, blAt_zero, blAt_succ, isEx_ok, isEx_ne, isEx_none, isRt_some, isRt_none, like_st, likeFG_nil, likeFG_cons, likeBG_nil, likeBG_obj, likeBG_row, likeSG_nil, likeSG_cons, likeT_nil, likeS_nil, isNP_nil, isNP_ob, likeT_ep, isEp_ep, epCells_ep, likeT_agg, likeT_int, likeT_bool, likeT_str, likeT_lst, likeT_sl0, likeT_sl1, likeT_ptr, likeS_int, likeS_bool, likeS_str, likeS_lst, likeS_sl0, likeS_sl1, likeS_ptr, isPtr_ok, isSl_0, isSl_1, beq_self_b, Bool.and_self, Bool.and_true, Bool.true_and, Bool.and_false, Bool.false_and, cond_true, cond_false, Bool.not_true, Bool.not_false, ltI_f (show 0 ≤ x % 256 - 1 by omega), h, Bool.false_eq_true, if_false, beq_self_i]
structure Ver where
  key : Int
  c0 : Int
  c1 : Int
  c2 : Int
  del : Bool
  ep : Int
  st : Int
  pl : Int
  pg : Int
abbrev verl (key c0 c1 c2 : Int) (del : Bool) (ep st pl pg : Int) : List AV := [.v (.int .u32 key), .v (.int .i64 c0), .v (.int .i64 c1), .v (.int .i64 c2), .v (.bool del), .v (.int .u32 ep), .v (.int .u64 st), .v (.int .i64 pl), .v (.int .i64 pg)]
def Ver.row (v : Ver) : List AV := verl v.key v.c0 v.c1 v.c2 v.del v.ep v.st v.pl v.pg
theorem Ver.row_eq (v : Ver) : v.row = verl v.key v.c0 v.c1 v.c2 v.del v.ep v.st v.pl v.pg := rfl
def u32ok (x : Int) : Prop := 0 ≤ x ∧ x ≤ 4294967295
def Ver.ok (v : Ver) : Prop := u32ok v.key ∧ i64ok v.c0 ∧ i64ok v.c1 ∧ i64ok v.c2 ∧ u32ok v.ep ∧ u64ok v.st ∧ i64ok v.pl ∧ i64ok v.pg
def vzero : Ver := ⟨0, 0, 0, 0, false, 0, 0, 0, 0⟩
def ptrOk (pl pg : Int) : Bool := (pl == 0 && pg == 0) || valid pl pg
def validV (v : Ver) : Bool := okS v.st && (leI 1 v.key && leI v.key 4294967294) && ptrOk v.pl v.pg && (bif v.del then (v.c0 == 0 && (v.c1 == 0 && v.c2 == 0)) else v.ep == 0)
theorem ltI_not (a b : Int) : ltI a b = !(leI b a) := by
  rcases Int.lt_or_le a b with h | h
  · rw [ltI_t h, leI_f h]; rfl
  · rw [ltI_f h, leI_t h]; rfl
theorem s_recValid (v : Ver) (h0 : 0 ≤ v.st) (h1 : v.st < 18446744073709551616) : ev 20 [.agg (verl v.key v.c0 v.c1 v.c2 v.del v.ep v.st v.pl v.pg)] = some [.v (.bool (validV v))] := by
  rw [ev20, s_Origin _ h0 h1]
  unfold validV ptrOk
  rw [ltI_not, ltI_not]
  have hp := s_pValid v.pl v.pg
  cases okS v.st <;> cases leI 1 v.key <;> cases leI v.key 4294967294 <;> cases (v.pl == 0 && v.pg == 0) <;> cases hv : valid v.pl v.pg <;> cases v.del <;> rw [hv] at hp <;> simp -implicitDefEqProofs only [some_bind', obCells_agg, obCells_ob, isOb_ok, isL_ok, isOw_ok, avXs_lst, avXs_ow, avNil_lst, avNil_ow, avNil_sl, avOff_sl, avCut_sl, isAgg_agg, nat_beq_self, List.length_cons, List.length_nil, Nat.reduceAdd, Nat.zero_add, isI_v, isB_v, isS_v, avInt_v, avBool_v, avStr_v, cellAt_zero, cellAt_succ, lget_zero, lget_succ, frAt_zero, frAt_succ, blAt_zero, blAt_succ, isEx_ok, isEx_ne, isEx_none, isRt_some, isRt_none, like_st, likeFG_nil, likeFG_cons, likeBG_nil, likeBG_obj, likeBG_row, likeSG_nil, likeSG_cons, likeT_nil, likeS_nil, isNP_nil, isNP_ob, likeT_ep, isEp_ep, epCells_ep, likeT_agg, likeT_int, likeT_bool, likeT_str, likeT_lst, likeT_sl0, likeT_sl1, likeT_ptr, likeS_int, likeS_bool, likeS_str, likeS_lst, likeS_sl0, likeS_sl1, likeS_ptr, isPtr_ok, isSl_0, isSl_1, beq_self_b, Bool.and_self, Bool.and_true, Bool.true_and, Bool.and_false, Bool.false_and, cond_true, cond_false, Bool.not_true, Bool.not_false, hp, Bool.true_or, Bool.false_or, Bool.or_false]
def w64 (x : Int) : Int := IntKind.u64.wrap x
theorem w64_eq (x : Int) : w64 x = x % 18446744073709551616 := w_u64 x
def fillP (p : Pg) (v : Ver) : Pg := ⟨p.l, p.h, tag (p.d0 % 256) (p.d0 / 256 % 16777216) (bif v.del then 1 else 0), v.key + pack v.pl v.pg * 4294967296, w64 (bif v.del then v.ep else v.c0), w64 v.c1, w64 v.c2, v.st, 0⟩
theorem fillP_ok (p : Pg) (v : Ver) (hp : p.ok) (hv : v.ok) : (fillP p v).ok := by
  obtain ⟨p0, p1, _⟩ := hp
  obtain ⟨v0, _, _, _, v4, v5, _⟩ := hv
  have hk := pack_range v.pl v.pg
  have ht : ∀ a : Int, 0 ≤ a → a < 4294967296 → u64ok (tag (p.d0 % 256) (p.d0 / 256 % 16777216) a) := fun a h h' => by
    have := tag_range (k := p.d0 % 256) (g := p.d0 / 256 % 16777216) h h'
    exact ⟨this.1, by omega⟩
  have hw : ∀ x : Int, u64ok (w64 x) := fun x => by rw [w64_eq]; exact ⟨by omega, by omega⟩
  refine ⟨p0, p1, ?_, ?_, hw _, hw _, hw _, v5, ⟨Int.le_refl 0, by show (0:Int) ≤ _; decide⟩⟩
  · show u64ok (tag _ _ (bif v.del then 1 else 0))
    cases v.del
    · exact ht 0 (by decide) (by decide)
    · exact ht 1 (by decide) (by decide)
  · have := v0.1; have := v0.2
    show u64ok (v.key + pack v.pl v.pg * 4294967296)
    exact ⟨by omega, by omega⟩
theorem s_fill (p : Pg) (v : Ver) (hp : p.ok) (hv : v.ok) : ev 22 [.agg (pgl p.l p.h p.d0 p.d1 p.d2 p.d3 p.d4 p.d5 p.d6), .agg (verl v.key v.c0 v.c1 v.c2 v.del v.ep v.st v.pl v.pg)] = some [.agg (fillP p v).row] := by
  obtain ⟨_, _, hd, _⟩ := hp
  have hd1 := hd.1
  have hd2 := hd.2
  have hk := hv.1.1
  have hk2 := hv.1.2
  have hpk := pack_range v.pl v.pg
  rw [ev22, s_pUnpackTag _ hd1 (by omega)]
  have e1 := s_pPack v.pl v.pg
  have e2 : bits .or .u64 (IntKind.u64.wrap v.key) (IntKind.u64.wrap (IntKind.u64.wrap (pack v.pl v.pg) * 4294967296)) = v.key + pack v.pl v.pg * 4294967296 := by
    have h1 : IntKind.u64.wrap v.key = v.key := by rw [w_u64]; omega
    have h2 : IntKind.u64.wrap (IntKind.u64.wrap (pack v.pl v.pg) * 4294967296) = pack v.pl v.pg * 4294967296 := by rw [w_u64, w_u64]; omega
    rw [h1, h2, Go.Ev.bits_or_comm, or_u64 32 _ _ (by omega) (by omega) (by omega) (by omega) (by omega) (by omega)]
    omega
  have e3 := s_pPackTag (p.d0 % 256) (p.d0 / 256 % 16777216) 1 (by decide) (by decide)
  have e4 := s_pPackTag (p.d0 % 256) (p.d0 / 256 % 16777216) 0 (by decide) (by decide)
  unfold fillP w64
  cases v.del <;> simp -implicitDefEqProofs only [some_bind', obCells_agg, obCells_ob, isOb_ok, isL_ok, isOw_ok, avXs_lst, avXs_ow, avNil_lst, avNil_ow, avNil_sl, avOff_sl, avCut_sl, isAgg_agg, nat_beq_self, List.length_cons, List.length_nil, Nat.reduceAdd, Nat.zero_add, isI_v, isB_v, isS_v, avInt_v, avBool_v, avStr_v, cellAt_zero, cellAt_succ, lget_zero, lget_succ, frAt_zero, frAt_succ, blAt_zero, blAt_succ, isEx_ok, isEx_ne, isEx_none, isRt_some, isRt_none, like_st, likeFG_nil, likeFG_cons, likeBG_nil, likeBG_obj, likeBG_row, likeSG_nil, likeSG_cons, likeT_nil, likeS_nil, isNP_nil, isNP_ob, likeT_ep, isEp_ep, epCells_ep, likeT_agg, likeT_int, likeT_bool, likeT_str, likeT_lst, likeT_sl0, likeT_sl1, likeT_ptr, likeS_int, likeS_bool, likeS_str, likeS_lst, likeS_sl0, likeS_sl1, likeS_ptr, isPtr_ok, isSl_0, isSl_1, beq_self_b, Bool.and_self, Bool.and_true, Bool.true_and, Bool.and_false, Bool.false_and, cond_true, cond_false, Bool.not_true, Bool.not_false, e1, e2, e3, e4, Pg.row_eq]
def writeR (p : Pg) (v : Ver) : Pg × Int := bif validV v && p.d0 % 256 == 1 then (fillP p v, 0) else (pz, 1)
theorem s_recWrite (p : Pg) (v : Ver) (hp : p.ok) (hv : v.ok) : ev 8 [.agg (pgl p.l p.h p.d0 p.d1 p.d2 p.d3 p.d4 p.d5 p.d6), .agg (verl v.key v.c0 v.c1 v.c2 v.del v.ep v.st v.pl v.pg)] = some [.agg (writeR p v).1.row, .v (.int .i64 (writeR p v).2)] := by
  obtain ⟨_, _, hd, _⟩ := id hp
  obtain ⟨_, _, _, _, _, hs, _⟩ := id hv
  have hd2 := hd.2
  have hs2 := hs.2
  rw [ev8, s_recValid v hs.1 (by omega)]
  have e1 := s_pUnpackTag p.d0 hd.1 (by omega)
  have e2 := s_fill p v hp hv
  rw [Pg.row_eq] at e2
  unfold writeR
  cases validV v with
  | false => rfl
  | true => cases h : (p.d0 % 256 == 1) <;> simp -implicitDefEqProofs only [some_bind', obCells_agg, obCells_ob, isOb_ok, isL_ok, isOw_ok, avXs_lst, avXs_ow, avNil_lst, avNil_ow, avNil_sl, avOff_sl, avCut_sl, isAgg_agg, nat_beq_self, List.length_cons, List.length_nil, Nat.reduceAdd, Nat.zero_add, isI_v, isB_v, isS_v, avInt_v, avBool_v, avStr_v, cellAt_zero, cellAt_succ, lget_zero, lget_succ, frAt_zero, frAt_succ, blAt_zero, blAt_succ, isEx_ok, isEx_ne, isEx_none, isRt_some, isRt_none, like_st, likeFG_nil, likeFG_cons, likeBG_nil, likeBG_obj, likeBG_row, likeSG_nil, likeSG_cons, likeT_nil, likeS_nil, isNP_nil, isNP_ob, likeT_ep, isEp_ep, epCells_ep, likeT_agg, likeT_int, likeT_bool, likeT_str, likeT_lst, likeT_sl0, likeT_sl1, likeT_ptr, likeS_int, likeS_bool, likeS_str, likeS_lst, likeS_sl0, likeS_sl1, likeS_ptr, isPtr_ok, isSl_0, isSl_1, beq_self_b, Bool.and_self, Bool.and_true, Bool.true_and, Bool.and_false, Bool.false_and, cond_true, cond_false, Bool.not_true, Bool.not_false, e1, e2, h, Pg.row_eq] <;> rfl
/-- What a page holds, if it holds a version. -/
def rawV (p : Pg) : Ver :=
  let w := p.d1 / 4294967296
  let del := p.d0 / 4294967296 == 1
  ⟨p.d1 % 4294967296, bif del then 0 else IntKind.i64.wrap p.d2, bif del then 0 else IntKind.i64.wrap p.d3, bif del then 0 else IntKind.i64.wrap p.d4, del, bif del then p.d2 % 4294967296 else 0, p.d5, bif w == 0 then 0 else w % 256, bif w == 0 then 0 else w / 256⟩
def sameD (p q : Pg) : Bool := (p.d0 == q.d0) && ((p.d1 == q.d1) && ((p.d2 == q.d2) && ((p.d3 == q.d3) && ((p.d4 == q.d4) && ((p.d5 == q.d5) && (p.d6 == q.d6))))))
def readable (p : Pg) : Bool := p.d0 % 256 == 1 && leI (p.d0 / 4294967296) 1 && validV (rawV p) && sameD (fillP p (rawV p)) p
def readR (p : Pg) : Ver × Int := bif readable p then (rawV p, 0) else (vzero, 14)
theorem i64_wrap_ok (x : Int) : i64ok (IntKind.i64.wrap x) := by rw [w_i64]; unfold i64ok; omega
theorem rawV_ok (p : Pg) (hp : p.ok) : (rawV p).ok := by
  obtain ⟨_, _, h0, h1, h2, h3, h4, h5, h6⟩ := hp
  have a0 := h0.1; have a0' := h0.2
  have a1 := h1.1; have a1' := h1.2
  have a2 := h2.1
  have z : i64ok 0 := ⟨by decide, by decide⟩
  refine ⟨⟨by show 0 ≤ p.d1 % 4294967296; omega, by show p.d1 % 4294967296 ≤ _; omega⟩, ?_, ?_, ?_, ?_, h5, ?_, ?_⟩
  · show i64ok (bif _ then 0 else _); cases (p.d0 / 4294967296 == 1) <;> first | exact z | exact i64_wrap_ok _
  · show i64ok (bif _ then 0 else _); cases (p.d0 / 4294967296 == 1) <;> first | exact z | exact i64_wrap_ok _
  · show i64ok (bif _ then 0 else _); cases (p.d0 / 4294967296 == 1) <;> first | exact z | exact i64_wrap_ok _
  · show u32ok (bif _ then _ else 0); cases (p.d0 / 4294967296 == 1)
    · exact ⟨Int.le_refl 0, by show (0:Int) ≤ _; decide⟩
    · exact ⟨by show 0 ≤ p.d2 % 4294967296; omega, by show p.d2 % 4294967296 ≤ _; omega⟩
  · show i64ok (bif _ then 0 else _); cases (p.d1 / 4294967296 == 0)
    · exact ⟨by show _ ≤ p.d1 / 4294967296 % 256; omega, by show p.d1 / 4294967296 % 256 ≤ _; omega⟩
    · exact z
  · show i64ok (bif _ then 0 else _); cases (p.d1 / 4294967296 == 0)
    · exact ⟨by show _ ≤ p.d1 / 4294967296 / 256; omega, by show p.d1 / 4294967296 / 256 ≤ _; omega⟩
    · exact z
theorem s_recRead (p : Pg) (hp : p.ok) : ev 13 [.agg (pgl p.l p.h p.d0 p.d1 p.d2 p.d3 p.d4 p.d5 p.d6)] = some [.agg (readR p).1.row, .v (.int .i64 (readR p).2)] := by
  have hrok := rawV_ok p hp
  have hfl := s_fill p (rawV p) hp hrok
  have hval := s_recValid (rawV p) hrok.2.2.2.2.2.1.1 (by have := hrok.2.2.2.2.2.1.2; omega)
  obtain ⟨_, _, h0, h1, h2, h3, h4, h5, h6⟩ := hp
  have a0 := h0.1; have a0' := h0.2
  have a1 := h1.1; have a1' := h1.2
  rw [ev13, s_pUnpackTag _ a0 (by omega), fdiv_pos _ _ (by decide)]
  have e1 : IntKind.u32.wrap (p.d1 / 4294967296) = p.d1 / 4294967296 := by rw [w_u32]; omega
  have e2 := s_pUnpack (p.d1 / 4294967296) (by omega) (by omega)
  have e3 : IntKind.u32.wrap p.d1 = p.d1 % 4294967296 := w_u32 _
  have e4 : IntKind.u32.wrap p.d2 = p.d2 % 4294967296 := w_u32 _
  rw [e1]
  unfold readR readable
  generalize hf : fillP p (rawV p) = f at hfl
  have hsd : sameD f p = ((f.d0 == p.d0) && ((f.d1 == p.d1) && ((f.d2 == p.d2) && ((f.d3 == p.d3) && ((f.d4 == p.d4) && ((f.d5 == p.d5) && (f.d6 == p.d6))))))) := rfl
  rw [Pg.row_eq] at hfl
  cases c1 : (p.d0 % 256 == 1) with
  | false => simp -implicitDefEqProofs only [some_bind', obCells_agg, obCells_ob, isOb_ok, isL_ok, isOw_ok, avXs_lst, avXs_ow, avNil_lst, avNil_ow, avNil_sl, avOff_sl, avCut_sl, isAgg_agg, nat_beq_self, List.length_cons, List.length_nil, Nat.reduceAdd, Nat.zero_add, isI_v, isB_v, isS_v, avInt_v, avBool_v, avStr_v, cellAt_zero, cellAt_succ, lget_zero, lget_succ, frAt_zero, frAt_succ, blAt_zero, blAt_succ, isEx_ok, isEx_ne, isEx_none, isRt_some, isRt_none, like_st, likeFG_nil, likeFG_cons, likeBG_nil, likeBG_obj, likeBG_row, likeSG_nil, likeSG_cons, likeT_nil, likeS_nil, isNP_nil, isNP_ob, likeT_ep, isEp_ep, epCells_ep, likeT_agg, likeT_int, likeT_bool, likeT_str, likeT_lst, likeT_sl0, likeT_sl1, likeT_ptr, likeS_int, likeS_bool, likeS_str, likeS_lst, likeS_sl0, likeS_sl1, likeS_ptr, isPtr_ok, isSl_0, isSl_1, beq_self_b, Bool.and_self, Bool.and_true, Bool.true_and, Bool.and_false, Bool.false_and, cond_true, cond_false, Bool.not_true, Bool.not_false, ltI_not, c1]; rfl
  | true =>
    cases c2 : leI (p.d0 / 4294967296) 1 with
    | false => simp -implicitDefEqProofs only [some_bind', obCells_agg, obCells_ob, isOb_ok, isL_ok, isOw_ok, avXs_lst, avXs_ow, avNil_lst, avNil_ow, avNil_sl, avOff_sl, avCut_sl, isAgg_agg, nat_beq_self, List.length_cons, List.length_nil, Nat.reduceAdd, Nat.zero_add, isI_v, isB_v, isS_v, avInt_v, avBool_v, avStr_v, cellAt_zero, cellAt_succ, lget_zero, lget_succ, frAt_zero, frAt_succ, blAt_zero, blAt_succ, isEx_ok, isEx_ne, isEx_none, isRt_some, isRt_none, like_st, likeFG_nil, likeFG_cons, likeBG_nil, likeBG_obj, likeBG_row, likeSG_nil, likeSG_cons, likeT_nil, likeS_nil, isNP_nil, isNP_ob, likeT_ep, isEp_ep, epCells_ep, likeT_agg, likeT_int, likeT_bool, likeT_str, likeT_lst, likeT_sl0, likeT_sl1, likeT_ptr, likeS_int, likeS_bool, likeS_str, likeS_lst, likeS_sl0, likeS_sl1, likeS_ptr, isPtr_ok, isSl_0, isSl_1, beq_self_b, Bool.and_self, Bool.and_true, Bool.true_and, Bool.and_false, Bool.false_and, cond_true, cond_false, Bool.not_true, Bool.not_false, ltI_not, c1, c2]; rfl
    | true =>
      have hraw : (rawV p).row = verl (p.d1 % 4294967296) (bif p.d0 / 4294967296 == 1 then 0 else IntKind.i64.wrap p.d2) (bif p.d0 / 4294967296 == 1 then 0 else IntKind.i64.wrap p.d3) (bif p.d0 / 4294967296 == 1 then 0 else IntKind.i64.wrap p.d4) (p.d0 / 4294967296 == 1) (bif p.d0 / 4294967296 == 1 then p.d2 % 4294967296 else 0) p.d5 (bif p.d1 / 4294967296 == 0 then 0 else p.d1 / 4294967296 % 256) (bif p.d1 / 4294967296 == 0 then 0 else p.d1 / 4294967296 / 256) := rfl
      rw [← Ver.row_eq, hraw] at hfl hval
      cases c3 : (p.d1 / 4294967296 == 0) <;> cases c4 : (p.d0 / 4294967296 == 1) <;> cases c5 : validV (rawV p) <;> cases c6 : sameD f p <;> rw [c5] at hval <;> rw [c3, c4] at hval hfl <;> rw [c6] at hsd <;> simp only [cond_true, cond_false] at hval hfl <;>
        simp -implicitDefEqProofs only [some_bind', obCells_agg, obCells_ob, isOb_ok, isL_ok, isOw_ok, avXs_lst, avXs_ow, avNil_lst, avNil_ow, avNil_sl, avOff_sl, avCut_sl, isAgg_agg, nat_beq_self, List.length_cons, List.length_nil, Nat.reduceAdd, Nat.zero_add, isI_v, isB_v, isS_v, avInt_v, avBool_v, avStr_v, cellAt_zero, cellAt_succ, lget_zero, lget_succ, frAt_zero, frAt_succ, blAt_zero, blAt_succ, isEx_ok, isEx_ne, isEx_none, isRt_some, isRt_none, like_st, likeFG_nil, likeFG_cons, likeBG_nil, likeBG_obj, likeBG_row, likeSG_nil, likeSG_cons, likeT_nil, likeS_nil, isNP_nil, isNP_ob, likeT_ep, isEp_ep, epCells_ep, likeT_agg, likeT_int, likeT_bool, likeT_str, likeT_lst, likeT_sl0, likeT_sl1, likeT_ptr, likeS_int, likeS_bool, likeS_str, likeS_lst, likeS_sl0, likeS_sl1, likeS_ptr, isPtr_ok, isSl_0, isSl_1, beq_self_b, Bool.and_self, Bool.and_true, Bool.true_and, Bool.and_false, Bool.false_and, cond_true, cond_false, Bool.not_true, Bool.not_false, ltI_not, c1, c2, c3, c4, e2, e3, e4, hval, hfl, ← hsd, hraw, Ver.row_eq, vzero] <;> rfl
theorem ver9 {a a' b b' c c' d d' : Int} {e e' : Bool} {f f' g g' h h' i i' : Int} (h1 : a = a') (h2 : b = b') (h3 : c = c') (h4 : d = d') (h5 : e = e') (h6 : f = f') (h7 : g = g') (h8 : h = h') (h9 : i = i') : Ver.mk a b c d e f g h i = Ver.mk a' b' c' d' e' f' g' h' i' := by subst h1 h2 h3 h4 h5 h6 h7 h8 h9; rfl
theorem pack_hi {l g : Int} (h : ptrOk l g = true) : (bif pack l g == 0 then 0 else pack l g % 256) = l ∧ (bif pack l g == 0 then 0 else pack l g / 256) = g := by
  unfold ptrOk at h
  cases hv : valid l g with
  | true =>
    have := valid_iff.1 hv
    unfold pack
    rw [if_pos hv, beq_eq_false_iff_ne.2 (show g * 256 + l ≠ 0 by omega)]
    exact ⟨by show (g * 256 + l) % 256 = l; omega, by show (g * 256 + l) / 256 = g; omega⟩
  | false =>
    rw [hv, Bool.or_false, Bool.and_eq_true, beq_iff_eq, beq_iff_eq] at h
    obtain ⟨rfl, rfl⟩ := h
    exact ⟨by decide, by decide⟩
theorem i64_w64 {x : Int} (h : i64ok x) : IntKind.i64.wrap (w64 x) = x := by
  have := h.1; have := h.2
  rw [w64_eq, w_i64]; omega
theorem fill_d0 (p : Pg) (v : Ver) (hk : p.d0 % 256 = 1) : (fillP p v).d0 % 256 = 1 ∧ (fillP p v).d0 / 256 % 16777216 = p.d0 / 256 % 16777216 ∧ (fillP p v).d0 / 4294967296 = (bif v.del then 1 else 0) := by
  show tag _ _ (bif v.del then 1 else 0) % 256 = 1 ∧ tag _ _ (bif v.del then 1 else 0) / 256 % 16777216 = _ ∧ tag _ _ (bif v.del then 1 else 0) / 4294967296 = _
  unfold tag
  cases v.del
  · refine ⟨?_, ?_, ?_⟩ <;> simp only [cond_false] <;> omega
  · refine ⟨?_, ?_, ?_⟩ <;> simp only [cond_true] <;> omega
theorem raw_fill (p : Pg) (v : Ver) (hv : v.ok) (h : validV v = true) (hk : p.d0 % 256 = 1) : rawV (fillP p v) = v := by
  obtain ⟨_, _, f3⟩ := fill_d0 p v hk
  obtain ⟨h0, h1, h2, h3, h4, h5, _⟩ := hv
  have hpk := pack_range v.pl v.pg
  have k0 := h0.1; have k1 := h0.2
  have e0 := h4.1; have e1 := h4.2
  unfold validV at h
  simp only [Bool.and_eq_true] at h
  obtain ⟨⟨_, hp⟩, hd⟩ := h
  obtain ⟨p1, p2⟩ := pack_hi hp
  have d1 : (fillP p v).d1 = v.key + pack v.pl v.pg * 4294967296 := rfl
  have d2 : (fillP p v).d2 = w64 (bif v.del then v.ep else v.c0) := rfl
  have d3 : (fillP p v).d3 = w64 v.c1 := rfl
  have d4 : (fillP p v).d4 = w64 v.c2 := rfl
  have q1 : (v.key + pack v.pl v.pg * 4294967296) % 4294967296 = v.key := by omega
  have q2 : (v.key + pack v.pl v.pg * 4294967296) / 4294967296 = pack v.pl v.pg := by omega
  have q3 : (v.del, (bif v.del then (0 : Int) else v.c0), (bif v.del then (0 : Int) else v.c1), (bif v.del then (0 : Int) else v.c2), (bif v.del then v.ep else 0)) = (v.del, v.c0, v.c1, v.c2, v.ep) := by
    cases hb : v.del with
    | true =>
      rw [hb, cond_true] at hd
      simp only [Bool.and_eq_true, beq_iff_eq] at hd
      simp only [cond_true, hd.1, hd.2.1, hd.2.2]
    | false =>
      rw [hb, cond_false, beq_iff_eq] at hd
      simp only [cond_false, hd]
  simp only [Prod.mk.injEq] at q3
  obtain ⟨_, q4, q5, q6, q7⟩ := q3
  have bb : ((bif v.del then (1 : Int) else 0) == 1) = v.del := by cases v.del <;> rfl
  unfold rawV
  simp only [f3, d1, d2, d3, d4, q1, q2, p1, p2, bb, i64_w64 h2, i64_w64 h3]
  refine ver9 rfl ?_ q5 q6 rfl ?_ rfl rfl rfl
  · refine Eq.trans ?_ q4
    cases v.del
    · exact i64_w64 h1
    · rfl
  · refine Eq.trans ?_ q7
    cases v.del
    · rfl
    · show w64 v.ep % 4294967296 = v.ep
      rw [w64_eq]; omega
theorem read_fill (p : Pg) (v : Ver) (hv : v.ok) (h : validV v = true) (hk : p.d0 % 256 = 1) : readR (fillP p v) = (v, 0) := by
  obtain ⟨f1, f2, f3⟩ := fill_d0 p v hk
  have hs : sameD (fillP (fillP p v) v) (fillP p v) = true := by
    have e : (fillP (fillP p v) v).d0 = (fillP p v).d0 := by
      show tag ((fillP p v).d0 % 256) ((fillP p v).d0 / 256 % 16777216) _ = tag (p.d0 % 256) (p.d0 / 256 % 16777216) _
      rw [f1, f2, hk]
    unfold sameD
    rw [e]
    simp only [fillP, beq_self_eq_true, Bool.and_self]
  have hl : leI ((fillP p v).d0 / 4294967296) 1 = true := by
    rw [f3]; cases v.del <;> rfl
  unfold readR readable
  rw [raw_fill p v hv h hk, h, hl, hs, f1]
  rfl
structure Vc where
  c0 : Int
  c1 : Int
  c2 : Int
  c3 : Int
  c4 : Int
  c5 : Int
abbrev vcl (a b c d e f : Int) : List AV := [.v (.int .u64 a), .v (.int .u64 b), .v (.int .u64 c), .v (.int .u64 d), .v (.int .u64 e), .v (.int .u64 f)]
def Vc.row (v : Vc) : List AV := vcl v.c0 v.c1 v.c2 v.c3 v.c4 v.c5
theorem Vc.row_eq (v : Vc) : v.row = vcl v.c0 v.c1 v.c2 v.c3 v.c4 v.c5 := rfl
def vget (v : Vc) (i : Nat) : Int := cond (Nat.beq i 0) v.c0 (cond (Nat.beq i 1) v.c1 (cond (Nat.beq i 2) v.c2 (cond (Nat.beq i 3) v.c3 (cond (Nat.beq i 4) v.c4 v.c5))))
def vis (v : Vc) (x : Int) : Bool := okS x && leI (x / 256) (vget v (x % 256 - 1).toNat)
theorem s_Visible (v : Vc) (x : Int) (h0 : 0 ≤ x) (h1 : x < 18446744073709551616) : ev 15 [.agg (vcl v.c0 v.c1 v.c2 v.c3 v.c4 v.c5), .v (.int .u64 x)] = some [.v (.bool (vis v x))] := by
  rw [ev15, s_Origin x h0 h1]
  unfold vis
  cases h : okS x with
  | false => simp -implicitDefEqProofs only [some_bind', obCells_agg, obCells_ob, isOb_ok, isL_ok, isOw_ok, avXs_lst, avXs_ow, avNil_lst, avNil_ow, avNil_sl, avOff_sl, avCut_sl, isAgg_agg, nat_beq_self, List.length_cons, List.length_nil, Nat.reduceAdd, Nat.zero_add, isI_v, isB_v, isS_v, avInt_v, avBool_v, avStr_v, cellAt_zero, cellAt_succ, lget_zero, lget_succ, frAt_zero, frAt_succ, blAt_zero, blAt_succ, isEx_ok, isEx_ne, isEx_none, isRt_some, isRt_none, like_st, likeFG_nil, likeFG_cons, likeBG_nil, likeBG_obj, likeBG_row, likeSG_nil, likeSG_cons, likeT_nil, likeS_nil, isNP_nil, isNP_ob, likeT_ep, isEp_ep, epCells_ep, likeT_agg, likeT_int, likeT_bool, likeT_str, likeT_lst, likeT_sl0, likeT_sl1, likeT_ptr, likeS_int, likeS_bool, likeS_str, likeS_lst, likeS_sl0, likeS_sl1, likeS_ptr, isPtr_ok, isSl_0, isSl_1, beq_self_b, Bool.and_self, Bool.and_true, Bool.true_and, Bool.and_false, Bool.false_and, cond_true, cond_false, Bool.not_true, Bool.not_false, Bool.false_eq_true, if_false]
  | true =>
    have := okT_iff.1 h
    have e : IntKind.u64.wrap (x / 256) = x / 256 := by rw [w_u64]; omega
    simp -implicitDefEqProofs only [some_bind', obCells_agg, obCells_ob, isOb_ok, isL_ok, isOw_ok, avXs_lst, avXs_ow, avNil_lst, avNil_ow, avNil_sl, avOff_sl, avCut_sl, isAgg_agg, nat_beq_self, List.length_cons, List.length_nil, Nat.reduceAdd, Nat.zero_add, isI_v, isB_v, isS_v, avInt_v, avBool_v, avStr_v, cellAt_zero, cellAt_succ, lget_zero, lget_succ, frAt_zero, frAt_succ, blAt_zero, blAt_succ, isEx_ok, isEx_ne, isEx_none, isRt_some, isRt_none, like_st, likeFG_nil, likeFG_cons, likeBG_nil, likeBG_obj, likeBG_row, likeSG_nil, likeSG_cons, likeT_nil, likeS_nil, isNP_nil, isNP_ob, likeT_ep, isEp_ep, epCells_ep, likeT_agg, likeT_int, likeT_bool, likeT_str, likeT_lst, likeT_sl0, likeT_sl1, likeT_ptr, likeS_int, likeS_bool, likeS_str, likeS_lst, likeS_sl0, likeS_sl1, likeS_ptr, isPtr_ok, isSl_0, isSl_1, beq_self_b, Bool.and_self, Bool.and_true, Bool.true_and, Bool.and_false, Bool.false_and, cond_true, cond_false, Bool.not_true, Bool.not_false, if_true, leI_t this.1, ltI_t this.2.1, e]
    rfl
end Go.Proofs.Ytkealdacgocafaa
