/- Pointers and tags: what the chapter's small functions are. -/
import Derived.Test.YtcalaooabgklbaaDefs
import Derived.Test.YtcalaooabgklbaaEv40
import Derived.Test.YtcalaooabgklbaaEv41
set_option linter.all false
namespace Go.Proofs.Ytcalaooabgklbaa
open Go.Ev
attribute [local congr] bind_first cond_first

def valid (l g : Int) : Bool := decide (104 ≤ l ∧ l < 256 ∧ 1 ≤ g ∧ g ≤ 16777215)
theorem valid_iff {l g : Int} : valid l g = true ↔ (104 ≤ l ∧ l < 256 ∧ 1 ≤ g ∧ g ≤ 16777215) := decide_eq_true_iff
def pack (l g : Int) : Int := if valid l g then g * 256 + l else 0
theorem pack_range (l g : Int) : 0 ≤ pack l g ∧ pack l g < 4294967296 := by
  unfold pack; split
  · rename_i h; have := valid_iff.1 h; omega
  · omega

theorem s30 (n : Nat) (a m : Int) (hm : 0 < m) (hm' : m ≤ 4611686018427387904) : ev (n + 1) 30 [.v (.int .i64 a), .v (.int .i64 m)] = some [.v (.int .i64 (pick a m))] := by
  rw [ev30]
  simp only [ltI_f (show 1 ≤ m by omega), eqI_f (show m ≠ 0 by omega), cond_false, pick_ok hm hm']
theorem s40 (n : Nat) (l : Int) : ev (n + 1) 40 [.v (.int .i64 l)] = some [.v (.bool (leI 104 l && ltI l 256))] := by
  rw [ev40]; cases leI 104 l <;> rfl
theorem s41 (n : Nat) (l : Int) : ev (n + 1) 41 [.v (.int .i64 l)] = some [.v (.bool (leI 104 l && ltI l 256))] := by
  rw [ev41]; cases leI 104 l <;> rfl
theorem valid_eq (l g : Int) : (leI 104 l && ltI l 256 && leI 1 g && leI g 16777215) = valid l g := by
  unfold valid leI ltI
  rw [Bool.eq_iff_iff]
  simp only [Bool.and_eq_true, decide_eq_true_eq]
  omega
theorem s16 (n : Nat) (l g : Int) : ev (n + 2) 16 [.agg [.v (.int .i64 l), .v (.int .i64 g)]] = some [.v (.bool (valid l g))] := by
  rw [ev16, s40, ← valid_eq]
  simp -implicitDefEqProofs only [some_bind', obCells_agg, obCells_ob, isOb_ok, isL_ok, isOw_ok, avXs_lst, avXs_ow, avNil_lst, avNil_ow, avNil_sl, avOff_sl, avCut_sl, isAgg_agg, nat_beq_self, List.length_cons, List.length_nil, Nat.reduceAdd, Nat.zero_add, isI_v, isB_v, isS_v, avInt_v, avBool_v, avStr_v, cellAt_zero, cellAt_succ, lget_zero, lget_succ, frAt_zero, frAt_succ, blAt_zero, blAt_succ, isEx_ok, isEx_ne, isEx_none, isRt_some, isRt_none, like_st, likeFG_nil, likeFG_cons, likeBG_nil, likeBG_obj, likeBG_row, likeSG_nil, likeSG_cons, likeT_agg, likeT_int, likeT_bool, likeT_str, likeT_lst, likeT_sl0, likeT_sl1, likeT_ptr, likeS_int, likeS_bool, likeS_str, likeS_lst, likeS_sl0, likeS_sl1, likeS_ptr, isPtr_ok, isSl_0, isSl_1, beq_self_b, Bool.and_self, Bool.and_true, Bool.true_and, Bool.and_false, Bool.false_and, cond_true, cond_false, Bool.not_true, Bool.not_false]
  cases (leI 104 l && ltI l 256) <;> cases leI 1 g <;> rfl
theorem s17 (n : Nat) (l g : Int) : ev (n + 2) 17 [.agg [.v (.int .i64 l), .v (.int .i64 g)]] = some [.v (.bool (valid l g))] := by
  rw [ev17, s41, ← valid_eq]
  simp -implicitDefEqProofs only [some_bind', obCells_agg, obCells_ob, isOb_ok, isL_ok, isOw_ok, avXs_lst, avXs_ow, avNil_lst, avNil_ow, avNil_sl, avOff_sl, avCut_sl, isAgg_agg, nat_beq_self, List.length_cons, List.length_nil, Nat.reduceAdd, Nat.zero_add, isI_v, isB_v, isS_v, avInt_v, avBool_v, avStr_v, cellAt_zero, cellAt_succ, lget_zero, lget_succ, frAt_zero, frAt_succ, blAt_zero, blAt_succ, isEx_ok, isEx_ne, isEx_none, isRt_some, isRt_none, like_st, likeFG_nil, likeFG_cons, likeBG_nil, likeBG_obj, likeBG_row, likeSG_nil, likeSG_cons, likeT_agg, likeT_int, likeT_bool, likeT_str, likeT_lst, likeT_sl0, likeT_sl1, likeT_ptr, likeS_int, likeS_bool, likeS_str, likeS_lst, likeS_sl0, likeS_sl1, likeS_ptr, isPtr_ok, isSl_0, isSl_1, beq_self_b, Bool.and_self, Bool.and_true, Bool.true_and, Bool.and_false, Bool.false_and, cond_true, cond_false, Bool.not_true, Bool.not_false]
  cases (leI 104 l && ltI l 256) <;> cases leI 1 g <;> rfl
theorem s18 (n : Nat) (l g : Int) : ev (n + 1) 18 [.agg [.v (.int .i64 l), .v (.int .i64 g)]] = some [.agg [.v (.int .i64 l), .v (.int .i64 g)]] := by rw [ev18]
theorem s19 (n : Nat) (l g : Int) : ev (n + 3) 19 [.agg [.v (.int .i64 l), .v (.int .i64 g)]] = some [.v (.int .u32 (pack l g))] := by
  rw [ev19, s16]
  simp -implicitDefEqProofs only [some_bind', obCells_agg, obCells_ob, isOb_ok, isL_ok, isOw_ok, avXs_lst, avXs_ow, avNil_lst, avNil_ow, avNil_sl, avOff_sl, avCut_sl, isAgg_agg, nat_beq_self, List.length_cons, List.length_nil, Nat.reduceAdd, Nat.zero_add, isI_v, isB_v, isS_v, avInt_v, avBool_v, avStr_v, cellAt_zero, cellAt_succ, lget_zero, lget_succ, frAt_zero, frAt_succ, blAt_zero, blAt_succ, isEx_ok, isEx_ne, isEx_none, isRt_some, isRt_none, like_st, likeFG_nil, likeFG_cons, likeBG_nil, likeBG_obj, likeBG_row, likeSG_nil, likeSG_cons, likeT_agg, likeT_int, likeT_bool, likeT_str, likeT_lst, likeT_sl0, likeT_sl1, likeT_ptr, likeS_int, likeS_bool, likeS_str, likeS_lst, likeS_sl0, likeS_sl1, likeS_ptr, isPtr_ok, isSl_0, isSl_1, beq_self_b, Bool.and_self, Bool.and_true, Bool.true_and, Bool.and_false, Bool.false_and, cond_true, cond_false, Bool.not_true, Bool.not_false]
  unfold pack
  cases h : valid l g with
  | false => rfl
  | true =>
    have := valid_iff.1 h
    simp -implicitDefEqProofs only [some_bind', obCells_agg, obCells_ob, isOb_ok, isL_ok, isOw_ok, avXs_lst, avXs_ow, avNil_lst, avNil_ow, avNil_sl, avOff_sl, avCut_sl, isAgg_agg, nat_beq_self, List.length_cons, List.length_nil, Nat.reduceAdd, Nat.zero_add, isI_v, isB_v, isS_v, avInt_v, avBool_v, avStr_v, cellAt_zero, cellAt_succ, lget_zero, lget_succ, frAt_zero, frAt_succ, blAt_zero, blAt_succ, isEx_ok, isEx_ne, isEx_none, isRt_some, isRt_none, like_st, likeFG_nil, likeFG_cons, likeBG_nil, likeBG_obj, likeBG_row, likeSG_nil, likeSG_cons, likeT_agg, likeT_int, likeT_bool, likeT_str, likeT_lst, likeT_sl0, likeT_sl1, likeT_ptr, likeS_int, likeS_bool, likeS_str, likeS_lst, likeS_sl0, likeS_sl1, likeS_ptr, isPtr_ok, isSl_0, isSl_1, beq_self_b, Bool.and_self, Bool.and_true, Bool.true_and, Bool.and_false, Bool.false_and, cond_true, cond_false, Bool.not_true, Bool.not_false, if_true, w_u32]
    rw [or_u32 8 _ _ (by omega) (by omega) (by omega) (by omega) (by omega) (by omega)]
    exact int1 (by omega)
theorem s20 (n : Nat) (l g : Int) : ev (n + 3) 20 [.agg [.v (.int .i64 l), .v (.int .i64 g)]] = some [.v (.int .u32 (pack l g))] := by
  rw [ev20, s17]
  simp -implicitDefEqProofs only [some_bind', obCells_agg, obCells_ob, isOb_ok, isL_ok, isOw_ok, avXs_lst, avXs_ow, avNil_lst, avNil_ow, avNil_sl, avOff_sl, avCut_sl, isAgg_agg, nat_beq_self, List.length_cons, List.length_nil, Nat.reduceAdd, Nat.zero_add, isI_v, isB_v, isS_v, avInt_v, avBool_v, avStr_v, cellAt_zero, cellAt_succ, lget_zero, lget_succ, frAt_zero, frAt_succ, blAt_zero, blAt_succ, isEx_ok, isEx_ne, isEx_none, isRt_some, isRt_none, like_st, likeFG_nil, likeFG_cons, likeBG_nil, likeBG_obj, likeBG_row, likeSG_nil, likeSG_cons, likeT_agg, likeT_int, likeT_bool, likeT_str, likeT_lst, likeT_sl0, likeT_sl1, likeT_ptr, likeS_int, likeS_bool, likeS_str, likeS_lst, likeS_sl0, likeS_sl1, likeS_ptr, isPtr_ok, isSl_0, isSl_1, beq_self_b, Bool.and_self, Bool.and_true, Bool.true_and, Bool.and_false, Bool.false_and, cond_true, cond_false, Bool.not_true, Bool.not_false]
  unfold pack
  cases h : valid l g with
  | false => rfl
  | true =>
    have := valid_iff.1 h
    simp -implicitDefEqProofs only [some_bind', obCells_agg, obCells_ob, isOb_ok, isL_ok, isOw_ok, avXs_lst, avXs_ow, avNil_lst, avNil_ow, avNil_sl, avOff_sl, avCut_sl, isAgg_agg, nat_beq_self, List.length_cons, List.length_nil, Nat.reduceAdd, Nat.zero_add, isI_v, isB_v, isS_v, avInt_v, avBool_v, avStr_v, cellAt_zero, cellAt_succ, lget_zero, lget_succ, frAt_zero, frAt_succ, blAt_zero, blAt_succ, isEx_ok, isEx_ne, isEx_none, isRt_some, isRt_none, like_st, likeFG_nil, likeFG_cons, likeBG_nil, likeBG_obj, likeBG_row, likeSG_nil, likeSG_cons, likeT_agg, likeT_int, likeT_bool, likeT_str, likeT_lst, likeT_sl0, likeT_sl1, likeT_ptr, likeS_int, likeS_bool, likeS_str, likeS_lst, likeS_sl0, likeS_sl1, likeS_ptr, isPtr_ok, isSl_0, isSl_1, beq_self_b, Bool.and_self, Bool.and_true, Bool.true_and, Bool.and_false, Bool.false_and, cond_true, cond_false, Bool.not_true, Bool.not_false, if_true, w_u32]
    exact int1 (by omega)
theorem int2 {k k' : IntKind} {a b c d : Int} (h : a = b) (h' : c = d) : (some [AV.agg [.v (.int k a), .v (.int k' c)]] : Option (List AV)) = some [.agg [.v (.int k b), .v (.int k' d)]] := by rw [h, h']
theorem int3 {k k' k'' : IntKind} {a b c d e f : Int} (h : a = b) (h' : c = d) (h'' : e = f) : (some [AV.agg [.v (.int k a), .v (.int k' c), .v (.int k'' e)]] : Option (List AV)) = some [.agg [.v (.int k b), .v (.int k' d), .v (.int k'' f)]] := by rw [h, h', h'']
theorem s12 (n : Nat) (w : Int) (h0 : 0 ≤ w) (h1 : w < 4294967296) : ev (n + 1) 12 [.v (.int .u32 w)] = some [.agg [.v (.int .i64 (w % 256)), .v (.int .i64 (w / 256))]] := by
  rw [ev12, and_u32 8 (by decide) w 255 (by decide) h0 h1, fdiv_pos _ _ (by decide)]
  simp only [w_i64]
  exact int2 (by omega) (by omega)
theorem s25 (n : Nat) (w : Int) (h0 : 0 ≤ w) (h1 : w < 4294967296) : ev (n + 1) 25 [.v (.int .u32 w)] = some [.agg [.v (.int .i64 (w % 256)), .v (.int .i64 (w / 256))]] := by
  rw [ev25, tmod_pos _ _ h0, tdiv_pos _ _ h0]
  simp only [w_i64, w_u32]
  exact int2 (by omega) (by omega)
theorem s13 (n : Nat) (t : Int) (h0 : 0 ≤ t) (h1 : t < 18446744073709551616) : ev (n + 1) 13 [.v (.int .u64 t)] = some [.agg [.v (.int .i64 (t % 256)), .v (.int .i64 (t / 256 % 16777216)), .v (.int .u32 (t / 4294967296))]] := by
  rw [ev13, and_u64 8 (by decide) t 255 (by decide) h0 h1, fdiv_pos _ _ (by decide), fdiv_pos _ _ (by decide), and_u64 24 (by decide) (t / 2 ^ 8) 16777215 (by decide) (by omega) (by omega)]
  simp only [w_i64, w_u32]
  exact int3 (by omega) (by omega) (by omega)
/-- A tag as a word. -/
def tag (k g a : Int) : Int := k % 256 + g % 16777216 * 256 + a * 4294967296
theorem tag_range {k g a : Int} (h0 : 0 ≤ a) (h1 : a < 4294967296) : 0 ≤ tag k g a ∧ tag k g a < 18446744073709551616 := by
  unfold tag; omega
theorem s14 (n : Nat) (k g a : Int) (h0 : 0 ≤ a) (h1 : a < 4294967296) : ev (n + 1) 14 [.agg [.v (.int .i64 k), .v (.int .i64 g), .v (.int .u32 a)]] = some [.v (.int .u64 (tag k g a))] := by
  rw [ev14]
  simp only [w_u64]
  rw [and_u64 8 (by decide) _ 255 (by decide) (by omega) (by omega), and_u64 24 (by decide) _ 16777215 (by decide) (by omega) (by omega)]
  have e (x y : Int) (h0 : 0 ≤ x) (h1 : x < 2 ^ 8) (h2 : 0 ≤ y) (h3 : y < 2 ^ 32) (h4 : y % 2 ^ 8 = 0) : bits .or .u64 x y = y + x := by
    rw [Go.Ev.bits_or_comm, or_u64 8 _ _ (by omega) (by omega) (by omega) (by omega) (by omega) (by omega)]
  rw [e (k % 18446744073709551616 % 2 ^ 8) _ (by omega) (by omega) (by omega) (by omega) (by omega)]
  rw [Go.Ev.bits_or_comm, or_u64 32 _ _ (by omega) (by omega) (by omega) (by omega) (by omega) (by omega)]
  unfold tag
  exact int1 (by omega)
theorem s27 (n : Nat) (k g a : Int) (h0 : 0 ≤ a) (h1 : a < 4294967296) : ev (n + 1) 27 [.v (.int .i64 k), .v (.int .i64 g), .v (.int .u32 a)] = some [.v (.int .u64 (tag k g a))] := by
  rw [ev27]
  simp only [w_u64]
  rw [tmod_pos _ _ (by omega), tmod_pos _ _ (by omega)]
  unfold tag
  exact int1 (by omega)
theorem s15 (n : Nat) : ev (n + 8) 15 [] = some [.v (.bool true)] := by kernel_rfl

/-- Sixty-four bits. -/
def I (a : Int) : Prop := -9223372036854775808 ≤ a ∧ a ≤ 9223372036854775807
theorem s11 (n : Nat) (l g k w t : Int) (b : Bool) (hl : I l) (hg : I g) (hk : I k) : ∃ l' g' k', I l' ∧ I g' ∧ I k' ∧
    ev (n + 2) 11 [.agg [.v (.int .i64 l), .v (.int .i64 g), .v (.int .i64 k), .v (.int .u32 w), .v (.int .u64 t), .v (.bool b)]] = some [.agg [.v (.int .i64 l'), .v (.int .i64 g'), .v (.int .i64 k'), .v (.int .u32 w), .v (.int .u64 t), .v (.bool b)]] := by
  rw [ev11]
  cases b with
  | false => exact ⟨l, g, k, hl, hg, hk, rfl⟩
  | true =>
    rw [s30 _ _ _ (by decide) (by decide), s30 _ _ _ (by decide) (by decide), s30 _ _ _ (by decide) (by decide)]
    have r1 := pick_range (n := l) (m := 270) (by decide)
    have r2 := pick_range (n := g) (m := 7) (by decide)
    have r3 := pick_range (n := k) (m := 7) (by decide)
    simp -implicitDefEqProofs only [some_bind', obCells_agg, obCells_ob, isOb_ok, isL_ok, isOw_ok, avXs_lst, avXs_ow, avNil_lst, avNil_ow, avNil_sl, avOff_sl, avCut_sl, isAgg_agg, nat_beq_self, List.length_cons, List.length_nil, Nat.reduceAdd, Nat.zero_add, isI_v, isB_v, isS_v, avInt_v, avBool_v, avStr_v, cellAt_zero, cellAt_succ, lget_zero, lget_succ, frAt_zero, frAt_succ, blAt_zero, blAt_succ, isEx_ok, isEx_ne, isEx_none, isRt_some, isRt_none, like_st, likeFG_nil, likeFG_cons, likeBG_nil, likeBG_obj, likeBG_row, likeSG_nil, likeSG_cons, likeT_agg, likeT_int, likeT_bool, likeT_str, likeT_lst, likeT_sl0, likeT_sl1, likeT_ptr, likeS_int, likeS_bool, likeS_str, likeS_lst, likeS_sl0, likeS_sl1, likeS_ptr, isPtr_ok, isSl_0, isSl_1, beq_self_b, Bool.and_self, Bool.and_true, Bool.true_and, Bool.and_false, Bool.false_and, cond_true, cond_false, Bool.not_true, Bool.not_false, leI_t r2.1, show ((7 : Nat) : Int) = 7 from rfl, ltI_t r2.2]
    generalize pick l 270 = x at r1 ⊢
    generalize pick g 7 = y at r2 ⊢
    generalize pick k 7 = z at r3 ⊢
    have e1 : IntKind.i64.wrap (x - 5) = x - 5 := by rw [w_i64]; omega
    have e2 : IntKind.i64.wrap (z - 1) = z - 1 := by rw [w_i64]; omega
    rw [e1, e2]
    have hy : y = 0 ∨ y = 1 ∨ y = 2 ∨ y = 3 ∨ y = 4 ∨ y = 5 ∨ y = 6 := by omega
    rcases hy with h | h | h | h | h | h | h <;> subst h
    all_goals exact ⟨x - 5, _, z - 1, by unfold I; omega, by first | exact (⟨by decide, by decide⟩ : I (-1)) | exact (⟨by decide, by decide⟩ : I 0) | exact (⟨by decide, by decide⟩ : I 1) | exact (⟨by decide, by decide⟩ : I 2) | exact (⟨by decide, by decide⟩ : I 16777214) | exact (⟨by decide, by decide⟩ : I 16777215) | exact (⟨by decide, by decide⟩ : I 16777216), by unfold I; omega, rfl⟩
abbrev pg := pgl
abbrev zero9 : List AV := pgl 0 0 0 0 0 0 0 0 0
theorem s42 (n : Nat) {l h d0 d1 d2 d3 d4 d5 d6 : Int} (h0 : 0 ≤ d0) (h1 : d0 < 18446744073709551616) : ev (n + 2) 42 [.agg (pg l h d0 d1 d2 d3 d4 d5 d6)] = some [.agg [.v (.int .i64 (d0 % 256)), .v (.int .i64 (d0 / 256 % 16777216)), .v (.int .u32 (d0 / 4294967296))]] := by
  rw [ev42, s13 _ _ h0 h1]
  simp -implicitDefEqProofs only [some_bind', obCells_agg, obCells_ob, isOb_ok, isL_ok, isOw_ok, avXs_lst, avXs_ow, avNil_lst, avNil_ow, avNil_sl, avOff_sl, avCut_sl, isAgg_agg, nat_beq_self, List.length_cons, List.length_nil, Nat.reduceAdd, Nat.zero_add, isI_v, isB_v, isS_v, avInt_v, avBool_v, avStr_v, cellAt_zero, cellAt_succ, lget_zero, lget_succ, frAt_zero, frAt_succ, blAt_zero, blAt_succ, isEx_ok, isEx_ne, isEx_none, isRt_some, isRt_none, like_st, likeFG_nil, likeFG_cons, likeBG_nil, likeBG_obj, likeBG_row, likeSG_nil, likeSG_cons, likeT_agg, likeT_int, likeT_bool, likeT_str, likeT_lst, likeT_sl0, likeT_sl1, likeT_ptr, likeS_int, likeS_bool, likeS_str, likeS_lst, likeS_sl0, likeS_sl1, likeS_ptr, isPtr_ok, isSl_0, isSl_1, beq_self_b, Bool.and_self, Bool.and_true, Bool.true_and, Bool.and_false, Bool.false_and, cond_true, cond_false, Bool.not_true, Bool.not_false]
theorem s26 (n : Nat) {l h d0 d1 d2 d3 d4 d5 d6 : Int} (h0 : 0 ≤ d0) (h1 : d0 < 18446744073709551616) : ev (n + 1) 26 [.agg (pg l h d0 d1 d2 d3 d4 d5 d6)] = some [.v (.int .i64 (d0 / 256 % 16777216))] := by
  rw [ev26, tdiv_pos _ _ h0]
  simp only [w_i64, w_u64]
  rw [tmod_pos _ _ (by omega)]
  exact int1 (by omega)
theorem s44 (n : Nat) {l h d0 d1 d2 d3 d4 d5 d6 : Int} (h0 : 0 ≤ d0) (h1 : d0 < 18446744073709551616) : ev (n + 1) 44 [.agg (pg l h d0 d1 d2 d3 d4 d5 d6)] = some [.v (.int .i64 (d0 % 256))] := by
  rw [ev44]
  simp only [w_i64, tmod_pos _ _ h0]
  exact int1 (by omega)
theorem s21 (n : Nat) {l h d0 d1 d2 d3 d4 d5 d6 : Int} (h0 : 0 ≤ d0) (h1 : d0 < 18446744073709551616) : ev (n + 3) 21 [.agg (pg l h d0 d1 d2 d3 d4 d5 d6)] = some [.agg [.v (.int .i64 l), .v (.int .i64 (d0 / 256 % 16777216))]] := by
  rw [ev21, s42 _ h0 h1]
  simp -implicitDefEqProofs only [some_bind', obCells_agg, obCells_ob, isOb_ok, isL_ok, isOw_ok, avXs_lst, avXs_ow, avNil_lst, avNil_ow, avNil_sl, avOff_sl, avCut_sl, isAgg_agg, nat_beq_self, List.length_cons, List.length_nil, Nat.reduceAdd, Nat.zero_add, isI_v, isB_v, isS_v, avInt_v, avBool_v, avStr_v, cellAt_zero, cellAt_succ, lget_zero, lget_succ, frAt_zero, frAt_succ, blAt_zero, blAt_succ, isEx_ok, isEx_ne, isEx_none, isRt_some, isRt_none, like_st, likeFG_nil, likeFG_cons, likeBG_nil, likeBG_obj, likeBG_row, likeSG_nil, likeSG_cons, likeT_agg, likeT_int, likeT_bool, likeT_str, likeT_lst, likeT_sl0, likeT_sl1, likeT_ptr, likeS_int, likeS_bool, likeS_str, likeS_lst, likeS_sl0, likeS_sl1, likeS_ptr, isPtr_ok, isSl_0, isSl_1, beq_self_b, Bool.and_self, Bool.and_true, Bool.true_and, Bool.and_false, Bool.false_and, cond_true, cond_false, Bool.not_true, Bool.not_false]
theorem s22 (n : Nat) {l h d0 d1 d2 d3 d4 d5 d6 : Int} (h0 : 0 ≤ d0) (h1 : d0 < 18446744073709551616) : ev (n + 2) 22 [.agg (pg l h d0 d1 d2 d3 d4 d5 d6)] = some [.agg [.v (.int .i64 l), .v (.int .i64 (d0 / 256 % 16777216))]] := by
  rw [ev22, s26 _ h0 h1]
  simp -implicitDefEqProofs only [some_bind', obCells_agg, obCells_ob, isOb_ok, isL_ok, isOw_ok, avXs_lst, avXs_ow, avNil_lst, avNil_ow, avNil_sl, avOff_sl, avCut_sl, isAgg_agg, nat_beq_self, List.length_cons, List.length_nil, Nat.reduceAdd, Nat.zero_add, isI_v, isB_v, isS_v, avInt_v, avBool_v, avStr_v, cellAt_zero, cellAt_succ, lget_zero, lget_succ, frAt_zero, frAt_succ, blAt_zero, blAt_succ, isEx_ok, isEx_ne, isEx_none, isRt_some, isRt_none, like_st, likeFG_nil, likeFG_cons, likeBG_nil, likeBG_obj, likeBG_row, likeSG_nil, likeSG_cons, likeT_agg, likeT_int, likeT_bool, likeT_str, likeT_lst, likeT_sl0, likeT_sl1, likeT_ptr, likeS_int, likeS_bool, likeS_str, likeS_lst, likeS_sl0, likeS_sl1, likeS_ptr, isPtr_ok, isSl_0, isSl_1, beq_self_b, Bool.and_self, Bool.and_true, Bool.true_and, Bool.and_false, Bool.false_and, cond_true, cond_false, Bool.not_true, Bool.not_false]
theorem s23 (n : Nat) {l h d0 d1 d2 d3 d4 d5 d6 : Int} (h0 : 0 ≤ h) (h1 : h < 18446744073709551616) : ev (n + 1) 23 [.agg (pg l h d0 d1 d2 d3 d4 d5 d6)] = some [.v (.bool (!(h % 256 == 0)))] := by
  rw [ev23, and_u64 8 (by decide) h 255 (by decide) h0 h1]; rfl
theorem s24 (n : Nat) {l h d0 d1 d2 d3 d4 d5 d6 : Int} (h0 : 0 ≤ h) : ev (n + 1) 24 [.agg (pg l h d0 d1 d2 d3 d4 d5 d6)] = some [.v (.bool (!(h % 256 == 0)))] := by
  rw [ev24, tmod_pos _ _ h0]

end Go.Proofs.Ytcalaooabgklbaa
