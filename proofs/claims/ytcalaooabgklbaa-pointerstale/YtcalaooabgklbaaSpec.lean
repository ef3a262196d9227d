/- What the chapter's functions are. -/
import Derived.Test.YtcalaooabgklbaaTy
set_option linter.all false
namespace Go.Proofs.Ytcalaooabgklbaa
open Go.Ev
attribute [local congr] bind_first cond_first
def valid (l g : Int) : Bool := decide (104 ≤ l ∧ l < 256 ∧ 1 ≤ g ∧ g ≤ 16777215)
theorem valid_iff {l g : Int} : valid l g = true ↔ (104 ≤ l ∧ l < 256 ∧ 1 ≤ g ∧ g ≤ 16777215) := decide_eq_true_iff
def pack (l g : Int) : Int := if valid l g then g * 256 + l else 0
theorem pack_range (l g : Int) : 0 ≤ pack l g ∧ pack l g < 4294967296 := by
  unfold pack; split
  · rename_i h; have := valid_iff.1 h; omega
  · omega

theorem s_Pick (a m : Int) (hm : 0 < m) (hm' : m ≤ 4611686018427387904) : ev 30 [.v (.int .i64 a), .v (.int .i64 m)] = some [.v (.int .i64 (pick a m))] := by
  rw [ev30]
  simp only [ltI_f (show 1 ≤ m by omega), eqI_f (show m ≠ 0 by omega), cond_false, pick_ok hm hm']
theorem s_pinHeap (l : Int) : ev 40 [.v (.int .i64 l)] = some [.v (.bool (leI 104 l && ltI l 256))] := by
  rw [ev40]; cases leI 104 l <;> rfl
theorem valid_eq (l g : Int) : (leI 104 l && ltI l 256 && leI 1 g && leI g 16777215) = valid l g := by
  unfold valid leI ltI
  rw [Bool.eq_iff_iff]
  simp only [Bool.and_eq_true, decide_eq_true_eq]
  omega
theorem s_pValid (l g : Int) : ev 16 [.agg [.v (.int .i64 l), .v (.int .i64 g)]] = some [.v (.bool (valid l g))] := by
  rw [ev16, s_pinHeap, ← valid_eq]
  simp -implicitDefEqProofs only [some_bind', obCells_agg, obCells_ob, isOb_ok, isL_ok, isOw_ok, avXs_lst, avXs_ow, avNil_lst, avNil_ow, avNil_sl, avOff_sl, avCut_sl, isAgg_agg, nat_beq_self, List.length_cons, List.length_nil, Nat.reduceAdd, Nat.zero_add, isI_v, isB_v, isS_v, avInt_v, avBool_v, avStr_v, cellAt_zero, cellAt_succ, lget_zero, lget_succ, frAt_zero, frAt_succ, blAt_zero, blAt_succ, isEx_ok, isEx_ne, isEx_none, isRt_some, isRt_none, like_st, likeFG_nil, likeFG_cons, likeBG_nil, likeBG_obj, likeBG_row, likeSG_nil, likeSG_cons, likeT_nil, likeS_nil, isNP_nil, isNP_ob, likeT_ep, isEp_ep, epCells_ep, likeT_agg, likeT_int, likeT_bool, likeT_str, likeT_lst, likeT_sl0, likeT_sl1, likeT_ptr, likeS_int, likeS_bool, likeS_str, likeS_lst, likeS_sl0, likeS_sl1, likeS_ptr, isPtr_ok, isSl_0, isSl_1, beq_self_b, Bool.and_self, Bool.and_true, Bool.true_and, Bool.and_false, Bool.false_and, cond_true, cond_false, Bool.not_true, Bool.not_false]
  cases (leI 104 l && ltI l 256) <;> cases leI 1 g <;> rfl
theorem s_pPack (l g : Int) : ev 19 [.agg [.v (.int .i64 l), .v (.int .i64 g)]] = some [.v (.int .u32 (pack l g))] := by
  rw [ev19, s_pValid]
  simp -implicitDefEqProofs only [some_bind', obCells_agg, obCells_ob, isOb_ok, isL_ok, isOw_ok, avXs_lst, avXs_ow, avNil_lst, avNil_ow, avNil_sl, avOff_sl, avCut_sl, isAgg_agg, nat_beq_self, List.length_cons, List.length_nil, Nat.reduceAdd, Nat.zero_add, isI_v, isB_v, isS_v, avInt_v, avBool_v, avStr_v, cellAt_zero, cellAt_succ, lget_zero, lget_succ, frAt_zero, frAt_succ, blAt_zero, blAt_succ, isEx_ok, isEx_ne, isEx_none, isRt_some, isRt_none, like_st, likeFG_nil, likeFG_cons, likeBG_nil, likeBG_obj, likeBG_row, likeSG_nil, likeSG_cons, likeT_nil, likeS_nil, isNP_nil, isNP_ob, likeT_ep, isEp_ep, epCells_ep, likeT_agg, likeT_int, likeT_bool, likeT_str, likeT_lst, likeT_sl0, likeT_sl1, likeT_ptr, likeS_int, likeS_bool, likeS_str, likeS_lst, likeS_sl0, likeS_sl1, likeS_ptr, isPtr_ok, isSl_0, isSl_1, beq_self_b, Bool.and_self, Bool.and_true, Bool.true_and, Bool.and_false, Bool.false_and, cond_true, cond_false, Bool.not_true, Bool.not_false]
  unfold pack
  cases h : valid l g with
  | false => rfl
  | true =>
    have := valid_iff.1 h
    simp -implicitDefEqProofs only [some_bind', obCells_agg, obCells_ob, isOb_ok, isL_ok, isOw_ok, avXs_lst, avXs_ow, avNil_lst, avNil_ow, avNil_sl, avOff_sl, avCut_sl, isAgg_agg, nat_beq_self, List.length_cons, List.length_nil, Nat.reduceAdd, Nat.zero_add, isI_v, isB_v, isS_v, avInt_v, avBool_v, avStr_v, cellAt_zero, cellAt_succ, lget_zero, lget_succ, frAt_zero, frAt_succ, blAt_zero, blAt_succ, isEx_ok, isEx_ne, isEx_none, isRt_some, isRt_none, like_st, likeFG_nil, likeFG_cons, likeBG_nil, likeBG_obj, likeBG_row, likeSG_nil, likeSG_cons, likeT_nil, likeS_nil, isNP_nil, isNP_ob, likeT_ep, isEp_ep, epCells_ep, likeT_agg, likeT_int, likeT_bool, likeT_str, likeT_lst, likeT_sl0, likeT_sl1, likeT_ptr, likeS_int, likeS_bool, likeS_str, likeS_lst, likeS_sl0, likeS_sl1, likeS_ptr, isPtr_ok, isSl_0, isSl_1, beq_self_b, Bool.and_self, Bool.and_true, Bool.true_and, Bool.and_false, Bool.false_and, cond_true, cond_false, Bool.not_true, Bool.not_false, if_true, w_u32]
    rw [or_u32 8 _ _ (by omega) (by omega) (by omega) (by omega) (by omega) (by omega)]
    exact int1 (by omega)
theorem int2 {k k' : IntKind} {a b c d : Int} (h : a = b) (h' : c = d) : (some [AV.agg [.v (.int k a), .v (.int k' c)]] : Option (List AV)) = some [.agg [.v (.int k b), .v (.int k' d)]] := by rw [h, h']
theorem int3 {k k' k'' : IntKind} {a b c d e f : Int} (h : a = b) (h' : c = d) (h'' : e = f) : (some [AV.agg [.v (.int k a), .v (.int k' c), .v (.int k'' e)]] : Option (List AV)) = some [.agg [.v (.int k b), .v (.int k' d), .v (.int k'' f)]] := by rw [h, h', h'']
theorem s_pUnpack (w : Int) (h0 : 0 ≤ w) (h1 : w < 4294967296) : ev 12 [.v (.int .u32 w)] = some [.agg [.v (.int .i64 (w % 256)), .v (.int .i64 (w / 256))]] := by
  rw [ev12, and_u32 8 (by decide) w 255 (by decide) h0 h1, fdiv_pos _ _ (by decide)]
  simp only [w_i64]
  exact int2 (by omega) (by omega)
theorem s_pUnpackTag (t : Int) (h0 : 0 ≤ t) (h1 : t < 18446744073709551616) : ev 13 [.v (.int .u64 t)] = some [.agg [.v (.int .i64 (t % 256)), .v (.int .i64 (t / 256 % 16777216)), .v (.int .u32 (t / 4294967296))]] := by
  rw [ev13, and_u64 8 (by decide) t 255 (by decide) h0 h1, fdiv_pos _ _ (by decide), fdiv_pos _ _ (by decide), and_u64 24 (by decide) (t / 256) 16777215 (by decide) (by omega) (by omega)]
  simp only [w_i64, w_u32]
  exact int3 (by omega) (by omega) (by omega)
/-- A tag as a word. -/
def tag (k g a : Int) : Int := k % 256 + g % 16777216 * 256 + a * 4294967296
theorem tag_range {k g a : Int} (h0 : 0 ≤ a) (h1 : a < 4294967296) : 0 ≤ tag k g a ∧ tag k g a < 18446744073709551616 := by
  unfold tag; omega
theorem s_pPackTag (k g a : Int) (h0 : 0 ≤ a) (h1 : a < 4294967296) : ev 14 [.agg [.v (.int .i64 k), .v (.int .i64 g), .v (.int .u32 a)]] = some [.v (.int .u64 (tag k g a))] := by
  rw [ev14]
  simp only [w_u64]
  rw [and_u64 8 (by decide) _ 255 (by decide) (by omega) (by omega), and_u64 24 (by decide) _ 16777215 (by decide) (by omega) (by omega)]
  have e (x y : Int) (h0 : 0 ≤ x) (h1 : x < 2 ^ 8) (h2 : 0 ≤ y) (h3 : y < 2 ^ 32) (h4 : y % 2 ^ 8 = 0) : bits .or .u64 x y = y + x := by
    rw [Go.Ev.bits_or_comm, or_u64 8 _ _ (by omega) (by omega) (by omega) (by omega) (by omega) (by omega)]
  rw [e (k % 18446744073709551616 % 2 ^ 8) _ (by omega) (by omega) (by omega) (by omega) (by omega)]
  rw [Go.Ev.bits_or_comm, or_u64 32 _ _ (by omega) (by omega) (by omega) (by omega) (by omega) (by omega)]
  unfold tag
  exact int1 (by omega)
theorem s_lawawake : ev 15 [] = some [.v (.bool true)] := evL_of (n := 12) (by kernel_rfl)

abbrev pg := pgl
abbrev zero9 : List AV := pgl 0 0 0 0 0 0 0 0 0
theorem s_ptagOf {l h d0 d1 d2 d3 d4 d5 d6 : Int} (h0 : 0 ≤ d0) (h1 : d0 < 18446744073709551616) : ev 42 [.agg (pg l h d0 d1 d2 d3 d4 d5 d6)] = some [.agg [.v (.int .i64 (d0 % 256)), .v (.int .i64 (d0 / 256 % 16777216)), .v (.int .u32 (d0 / 4294967296))]] := by
  rw [ev42, s_pUnpackTag _ h0 h1]
  simp -implicitDefEqProofs only [some_bind', obCells_agg, obCells_ob, isOb_ok, isL_ok, isOw_ok, avXs_lst, avXs_ow, avNil_lst, avNil_ow, avNil_sl, avOff_sl, avCut_sl, isAgg_agg, nat_beq_self, List.length_cons, List.length_nil, Nat.reduceAdd, Nat.zero_add, isI_v, isB_v, isS_v, avInt_v, avBool_v, avStr_v, cellAt_zero, cellAt_succ, lget_zero, lget_succ, frAt_zero, frAt_succ, blAt_zero, blAt_succ, isEx_ok, isEx_ne, isEx_none, isRt_some, isRt_none, like_st, likeFG_nil, likeFG_cons, likeBG_nil, likeBG_obj, likeBG_row, likeSG_nil, likeSG_cons, likeT_nil, likeS_nil, isNP_nil, isNP_ob, likeT_ep, isEp_ep, epCells_ep, likeT_agg, likeT_int, likeT_bool, likeT_str, likeT_lst, likeT_sl0, likeT_sl1, likeT_ptr, likeS_int, likeS_bool, likeS_str, likeS_lst, likeS_sl0, likeS_sl1, likeS_ptr, isPtr_ok, isSl_0, isSl_1, beq_self_b, Bool.and_self, Bool.and_true, Bool.true_and, Bool.and_false, Bool.false_and, cond_true, cond_false, Bool.not_true, Bool.not_false]
theorem s_pAt {l h d0 d1 d2 d3 d4 d5 d6 : Int} (h0 : 0 ≤ d0) (h1 : d0 < 18446744073709551616) : ev 21 [.agg (pg l h d0 d1 d2 d3 d4 d5 d6)] = some [.agg [.v (.int .i64 l), .v (.int .i64 (d0 / 256 % 16777216))]] := by
  rw [ev21, s_ptagOf h0 h1]
  simp -implicitDefEqProofs only [some_bind', obCells_agg, obCells_ob, isOb_ok, isL_ok, isOw_ok, avXs_lst, avXs_ow, avNil_lst, avNil_ow, avNil_sl, avOff_sl, avCut_sl, isAgg_agg, nat_beq_self, List.length_cons, List.length_nil, Nat.reduceAdd, Nat.zero_add, isI_v, isB_v, isS_v, avInt_v, avBool_v, avStr_v, cellAt_zero, cellAt_succ, lget_zero, lget_succ, frAt_zero, frAt_succ, blAt_zero, blAt_succ, isEx_ok, isEx_ne, isEx_none, isRt_some, isRt_none, like_st, likeFG_nil, likeFG_cons, likeBG_nil, likeBG_obj, likeBG_row, likeSG_nil, likeSG_cons, likeT_nil, likeS_nil, isNP_nil, isNP_ob, likeT_ep, isEp_ep, epCells_ep, likeT_agg, likeT_int, likeT_bool, likeT_str, likeT_lst, likeT_sl0, likeT_sl1, likeT_ptr, likeS_int, likeS_bool, likeS_str, likeS_lst, likeS_sl0, likeS_sl1, likeS_ptr, isPtr_ok, isSl_0, isSl_1, beq_self_b, Bool.and_self, Bool.and_true, Bool.true_and, Bool.and_false, Bool.false_and, cond_true, cond_false, Bool.not_true, Bool.not_false]
theorem s_pLocked {l h d0 d1 d2 d3 d4 d5 d6 : Int} (h0 : 0 ≤ h) (h1 : h < 18446744073709551616) : ev 23 [.agg (pg l h d0 d1 d2 d3 d4 d5 d6)] = some [.v (.bool (!(h % 256 == 0)))] := by
  rw [ev23, and_u64 8 (by decide) h 255 (by decide) h0 h1]; rfl
/-- Among the first k pages the last one of a line. -/
def lat (ps : List Pg) (x : Int) : Nat → Option Pg
  | 0 => none
  | k + 1 => cond ((ps.getD k pz).l == x) (some (ps.getD k pz)) (lat ps x k)
theorem lat_mem (ps : List Pg) (x : Int) : ∀ k, k ≤ ps.length → ∀ p, lat ps x k = some p → p ∈ ps
  | 0, _, _, h => by cases h
  | k + 1, hk, p, h => by
    rw [lat] at h
    cases h2 : ((ps.getD k pz).l == x) with
    | true => rw [h2] at h; cases h; exact mem_getD ps pz k (by omega)
    | false => rw [h2] at h; exact lat_mem ps x k (by omega) p h
theorem lat_app (ps qs : List Pg) (x : Int) : ∀ k, k ≤ ps.length → lat (ps ++ qs) x k = lat ps x k
  | 0, _ => rfl
  | k + 1, h => by
    rw [lat, lat, lat_app ps qs x k (by omega)]
    have : (ps ++ qs).getD k pz = ps.getD k pz := by
      simp only [List.getD_eq_getElem?_getD]
      rw [List.getElem?_append_left (by omega)]
    rw [this]
theorem lat_snoc (ps : List Pg) (q : Pg) (x : Int) : lat (ps ++ [q]) x (ps ++ [q]).length = cond (q.l == x) (some q) (lat ps x ps.length) := by
  rw [List.length_append, List.length_singleton, lat, lat_app ps [q] x _ (Nat.le_refl _)]
  have : (ps ++ [q]).getD ps.length pz = q := by simp
  rw [this]
def down (o : Option Pg) : LR := match o with
  | none => ⟨some 0, ⟨[(4, .ptr 0 0 0)], [⟨1, 43, 9, true, [zero9]⟩]⟩, []⟩
  | some p => ⟨none, ⟨[], []⟩, [.agg p.row, .v (.bool true)]⟩
theorem l_pLatest (ps : List Pg) (b : Bool) (x : Int) (hl : ps.length ≤ 1000) : ∀ (k : Nat), k ≤ ps.length →
    lp 28 0 0 ⟨[(0, (.lst b 9 (ps.map Pg.row))), (1, (.v (.int .i64 x))), (4, (.ptr 0 0 0)), (6, (.v (.int .i64 ((k : Int) - 1))))], [⟨1, 43, 9, true, [zero9]⟩]⟩ = some (down (lat ps x k))
  | 0, _ => by
    rw [lp28_0, leI_f (by omega)]; rfl
  | k + 1, hk => by
    have ih := l_pLatest ps b x hl k (by omega)
    rw [lp28_0]
    have e : (((k + 1 : Nat) : Int) - 1) = (k : Int) := by omega
    have e2 : lget (ps.map Pg.row) k = Pg.row (ps.getD k pz) := lget_mapD Pg.row ps pz k (by omega)
    have e3 : IntKind.i64.wrap ((k : Int) - 1) = (k : Int) - 1 := by rw [w_i64]; omega
    simp -implicitDefEqProofs only [some_bind', obCells_agg, obCells_ob, isOb_ok, isL_ok, isOw_ok, avXs_lst, avXs_ow, avNil_lst, avNil_ow, avNil_sl, avOff_sl, avCut_sl, isAgg_agg, nat_beq_self, List.length_cons, List.length_nil, Nat.reduceAdd, Nat.zero_add, isI_v, isB_v, isS_v, avInt_v, avBool_v, avStr_v, cellAt_zero, cellAt_succ, lget_zero, lget_succ, frAt_zero, frAt_succ, blAt_zero, blAt_succ, isEx_ok, isEx_ne, isEx_none, isRt_some, isRt_none, like_st, likeFG_nil, likeFG_cons, likeBG_nil, likeBG_obj, likeBG_row, likeSG_nil, likeSG_cons, likeT_nil, likeS_nil, isNP_nil, isNP_ob, likeT_ep, isEp_ep, epCells_ep, likeT_agg, likeT_int, likeT_bool, likeT_str, likeT_lst, likeT_sl0, likeT_sl1, likeT_ptr, likeS_int, likeS_bool, likeS_str, likeS_lst, likeS_sl0, likeS_sl1, likeS_ptr, isPtr_ok, isSl_0, isSl_1, beq_self_b, Bool.and_self, Bool.and_true, Bool.true_and, Bool.and_false, Bool.false_and, cond_true, cond_false, Bool.not_true, Bool.not_false, e, leI_t (show (0 : Int) ≤ (k : Int) by omega), List.length_map, ltI_t (show (k : Int) < (ps.length : Int) by omega), Int.toNat_natCast, e2, Pg.row_eq, e3]
    rw [lat]
    cases h : ((ps.getD k pz).l == x) with
    | true => simp -implicitDefEqProofs only [some_bind', obCells_agg, obCells_ob, isOb_ok, isL_ok, isOw_ok, avXs_lst, avXs_ow, avNil_lst, avNil_ow, avNil_sl, avOff_sl, avCut_sl, isAgg_agg, nat_beq_self, List.length_cons, List.length_nil, Nat.reduceAdd, Nat.zero_add, isI_v, isB_v, isS_v, avInt_v, avBool_v, avStr_v, cellAt_zero, cellAt_succ, lget_zero, lget_succ, frAt_zero, frAt_succ, blAt_zero, blAt_succ, isEx_ok, isEx_ne, isEx_none, isRt_some, isRt_none, like_st, likeFG_nil, likeFG_cons, likeBG_nil, likeBG_obj, likeBG_row, likeSG_nil, likeSG_cons, likeT_nil, likeS_nil, isNP_nil, isNP_ob, likeT_ep, isEp_ep, epCells_ep, likeT_agg, likeT_int, likeT_bool, likeT_str, likeT_lst, likeT_sl0, likeT_sl1, likeT_ptr, likeS_int, likeS_bool, likeS_str, likeS_lst, likeS_sl0, likeS_sl1, likeS_ptr, isPtr_ok, isSl_0, isSl_1, beq_self_b, Bool.and_self, Bool.and_true, Bool.true_and, Bool.and_false, Bool.false_and, cond_true, cond_false, Bool.not_true, Bool.not_false]; rfl
    | false => simp -implicitDefEqProofs only [some_bind', obCells_agg, obCells_ob, isOb_ok, isL_ok, isOw_ok, avXs_lst, avXs_ow, avNil_lst, avNil_ow, avNil_sl, avOff_sl, avCut_sl, isAgg_agg, nat_beq_self, List.length_cons, List.length_nil, Nat.reduceAdd, Nat.zero_add, isI_v, isB_v, isS_v, avInt_v, avBool_v, avStr_v, cellAt_zero, cellAt_succ, lget_zero, lget_succ, frAt_zero, frAt_succ, blAt_zero, blAt_succ, isEx_ok, isEx_ne, isEx_none, isRt_some, isRt_none, like_st, likeFG_nil, likeFG_cons, likeBG_nil, likeBG_obj, likeBG_row, likeSG_nil, likeSG_cons, likeT_nil, likeS_nil, isNP_nil, isNP_ob, likeT_ep, isEp_ep, epCells_ep, likeT_agg, likeT_int, likeT_bool, likeT_str, likeT_lst, likeT_sl0, likeT_sl1, likeT_ptr, likeS_int, likeS_bool, likeS_str, likeS_lst, likeS_sl0, likeS_sl1, likeS_ptr, isPtr_ok, isSl_0, isSl_1, beq_self_b, Bool.and_self, Bool.and_true, Bool.true_and, Bool.and_false, Bool.false_and, cond_true, cond_false, Bool.not_true, Bool.not_false]; exact ih
theorem s_pLatest (ps : List Pg) (b : Bool) (x : Int) (hl : ps.length ≤ 1000) :
    ev 28 [.lst b 9 (ps.map Pg.row), .v (.int .i64 x)] = some [.agg ((lat ps x ps.length).getD pz).row, .v (.bool (lat ps x ps.length).isSome)] := by
  rw [ev28]
  have e3 : IntKind.i64.wrap (((ps.map Pg.row).length : Int) - 1) = (ps.length : Int) - 1 := by rw [List.length_map, w_i64]; omega
  rw [e3, l_pLatest ps b x hl ps.length (Nat.le_refl _)]
  cases lat ps x ps.length with
  | none => simp -implicitDefEqProofs only [some_bind', obCells_agg, obCells_ob, isOb_ok, isL_ok, isOw_ok, avXs_lst, avXs_ow, avNil_lst, avNil_ow, avNil_sl, avOff_sl, avCut_sl, isAgg_agg, nat_beq_self, List.length_cons, List.length_nil, Nat.reduceAdd, Nat.zero_add, isI_v, isB_v, isS_v, avInt_v, avBool_v, avStr_v, cellAt_zero, cellAt_succ, lget_zero, lget_succ, frAt_zero, frAt_succ, blAt_zero, blAt_succ, isEx_ok, isEx_ne, isEx_none, isRt_some, isRt_none, like_st, likeFG_nil, likeFG_cons, likeBG_nil, likeBG_obj, likeBG_row, likeSG_nil, likeSG_cons, likeT_nil, likeS_nil, isNP_nil, isNP_ob, likeT_ep, isEp_ep, epCells_ep, likeT_agg, likeT_int, likeT_bool, likeT_str, likeT_lst, likeT_sl0, likeT_sl1, likeT_ptr, likeS_int, likeS_bool, likeS_str, likeS_lst, likeS_sl0, likeS_sl1, likeS_ptr, isPtr_ok, isSl_0, isSl_1, beq_self_b, Bool.and_self, Bool.and_true, Bool.true_and, Bool.and_false, Bool.false_and, cond_true, cond_false, Bool.not_true, Bool.not_false, down]; rfl
  | some p => simp -implicitDefEqProofs only [some_bind', obCells_agg, obCells_ob, isOb_ok, isL_ok, isOw_ok, avXs_lst, avXs_ow, avNil_lst, avNil_ow, avNil_sl, avOff_sl, avCut_sl, isAgg_agg, nat_beq_self, List.length_cons, List.length_nil, Nat.reduceAdd, Nat.zero_add, isI_v, isB_v, isS_v, avInt_v, avBool_v, avStr_v, cellAt_zero, cellAt_succ, lget_zero, lget_succ, frAt_zero, frAt_succ, blAt_zero, blAt_succ, isEx_ok, isEx_ne, isEx_none, isRt_some, isRt_none, like_st, likeFG_nil, likeFG_cons, likeBG_nil, likeBG_obj, likeBG_row, likeSG_nil, likeSG_cons, likeT_nil, likeS_nil, isNP_nil, isNP_ob, likeT_ep, isEp_ep, epCells_ep, likeT_agg, likeT_int, likeT_bool, likeT_str, likeT_lst, likeT_sl0, likeT_sl1, likeT_ptr, likeS_int, likeS_bool, likeS_str, likeS_lst, likeS_sl0, likeS_sl1, likeS_ptr, isPtr_ok, isSl_0, isSl_1, beq_self_b, Bool.and_self, Bool.and_true, Bool.true_and, Bool.and_false, Bool.false_and, cond_true, cond_false, Bool.not_true, Bool.not_false, down]; rfl
theorem s_same (p q : Pg) : ev 29 [.agg p.row, .agg q.row] = some [.v (.bool (p.l == q.l && (p.h == q.h && (p.d0 == q.d0 && (p.d1 == q.d1 && (p.d2 == q.d2 && (p.d3 == q.d3 && (p.d4 == q.d4 && (p.d5 == q.d5 && p.d6 == q.d6)))))))))] := by
  rw [Pg.row_eq, Pg.row_eq, ev29]
  cases (p.l == q.l) <;> cases (p.h == q.h) <;> simp -implicitDefEqProofs only [some_bind', obCells_agg, obCells_ob, isOb_ok, isL_ok, isOw_ok, avXs_lst, avXs_ow, avNil_lst, avNil_ow, avNil_sl, avOff_sl, avCut_sl, isAgg_agg, nat_beq_self, List.length_cons, List.length_nil, Nat.reduceAdd, Nat.zero_add, isI_v, isB_v, isS_v, avInt_v, avBool_v, avStr_v, cellAt_zero, cellAt_succ, lget_zero, lget_succ, frAt_zero, frAt_succ, blAt_zero, blAt_succ, isEx_ok, isEx_ne, isEx_none, isRt_some, isRt_none, like_st, likeFG_nil, likeFG_cons, likeBG_nil, likeBG_obj, likeBG_row, likeSG_nil, likeSG_cons, likeT_nil, likeS_nil, isNP_nil, isNP_ob, likeT_ep, isEp_ep, epCells_ep, likeT_agg, likeT_int, likeT_bool, likeT_str, likeT_lst, likeT_sl0, likeT_sl1, likeT_ptr, likeS_int, likeS_bool, likeS_str, likeS_lst, likeS_sl0, likeS_sl1, likeS_ptr, isPtr_ok, isSl_0, isSl_1, beq_self_b, Bool.and_self, Bool.and_true, Bool.true_and, Bool.and_false, Bool.false_and, cond_true, cond_false, Bool.not_true, Bool.not_false]
theorem s_sameSelf (p : Pg) : ev 29 [.agg p.row, .agg p.row] = some [.v (.bool true)] := by
  rw [s_same]; simp -implicitDefEqProofs only [some_bind', obCells_agg, obCells_ob, isOb_ok, isL_ok, isOw_ok, avXs_lst, avXs_ow, avNil_lst, avNil_ow, avNil_sl, avOff_sl, avCut_sl, isAgg_agg, nat_beq_self, List.length_cons, List.length_nil, Nat.reduceAdd, Nat.zero_add, isI_v, isB_v, isS_v, avInt_v, avBool_v, avStr_v, cellAt_zero, cellAt_succ, lget_zero, lget_succ, frAt_zero, frAt_succ, blAt_zero, blAt_succ, isEx_ok, isEx_ne, isEx_none, isRt_some, isRt_none, like_st, likeFG_nil, likeFG_cons, likeBG_nil, likeBG_obj, likeBG_row, likeSG_nil, likeSG_cons, likeT_nil, likeS_nil, isNP_nil, isNP_ob, likeT_ep, isEp_ep, epCells_ep, likeT_agg, likeT_int, likeT_bool, likeT_str, likeT_lst, likeT_sl0, likeT_sl1, likeT_ptr, likeS_int, likeS_bool, likeS_str, likeS_lst, likeS_sl0, likeS_sl1, likeS_ptr, isPtr_ok, isSl_0, isSl_1, beq_self_b, Bool.and_self, Bool.and_true, Bool.true_and, Bool.and_false, Bool.false_and, cond_true, cond_false, Bool.not_true, Bool.not_false, beq_self_i]
def irow (i : Int) : List AV := [.v (.int .i64 i)]
theorem irow_eq (i : Int) : irow i = [.v (.int .i64 i)] := rfl
def heap (l : Int) : Bool := leI 104 l && ltI l 256
/-- What allocating makes of a page. -/
def allocR (l h d k a : Int) : List AV :=
  cond (heap l && !(ltI k 1 || ltI 4 k))
    (cond (h % 256 == 0)
      (cond (d % 256 == 0)
        (cond (d / 256 % 16777216 == 16777215) [.agg zero9, .v (.int .i64 18)]
          [.agg (pg l h (tag k (d / 256 % 16777216 + 1) a) 0 0 0 0 0 0), .v (.int .i64 0)])
        [.agg zero9, .v (.int .i64 17)])
      [.agg zero9, .v (.int .i64 3)])
    [.agg zero9, .v (.int .i64 1)]
/-- What releasing makes of a page. -/
def freeR (l h d : Int) : List AV :=
  cond (heap l)
    (cond (h % 256 == 0)
      (cond (d % 256 == 0) [.agg zero9, .v (.int .i64 16)]
        [.agg (pg l h (tag 0 (d / 256 % 16777216) 0) 0 0 0 0 0 0), .v (.int .i64 0)])
      [.agg zero9, .v (.int .i64 3)])
    [.agg zero9, .v (.int .i64 1)]
theorem s_ptagged {l h d0 d1 d2 d3 d4 d5 d6 k g a : Int} (h0 : 0 ≤ a) (h1 : a < 4294967296) : ev 43 [.agg (pg l h d0 d1 d2 d3 d4 d5 d6), .agg [.v (.int .i64 k), .v (.int .i64 g), .v (.int .u32 a)]] = some [.agg (pg l h (tag k g a) 0 0 0 0 0 0)] := by
  rw [ev43, s_pPackTag _ _ _ h0 h1]
  simp -implicitDefEqProofs only [some_bind', obCells_agg, obCells_ob, isOb_ok, isL_ok, isOw_ok, avXs_lst, avXs_ow, avNil_lst, avNil_ow, avNil_sl, avOff_sl, avCut_sl, isAgg_agg, nat_beq_self, List.length_cons, List.length_nil, Nat.reduceAdd, Nat.zero_add, isI_v, isB_v, isS_v, avInt_v, avBool_v, avStr_v, cellAt_zero, cellAt_succ, lget_zero, lget_succ, frAt_zero, frAt_succ, blAt_zero, blAt_succ, isEx_ok, isEx_ne, isEx_none, isRt_some, isRt_none, like_st, likeFG_nil, likeFG_cons, likeBG_nil, likeBG_obj, likeBG_row, likeSG_nil, likeSG_cons, likeT_nil, likeS_nil, isNP_nil, isNP_ob, likeT_ep, isEp_ep, epCells_ep, likeT_agg, likeT_int, likeT_bool, likeT_str, likeT_lst, likeT_sl0, likeT_sl1, likeT_ptr, likeS_int, likeS_bool, likeS_str, likeS_lst, likeS_sl0, likeS_sl1, likeS_ptr, isPtr_ok, isSl_0, isSl_1, beq_self_b, Bool.and_self, Bool.and_true, Bool.true_and, Bool.and_false, Bool.false_and, cond_true, cond_false, Bool.not_true, Bool.not_false]
section
variable {l h d0 d1 d2 d3 d4 d5 d6 k a : Int} (hh : 0 ≤ h ∧ h < 18446744073709551616) (hd : 0 ≤ d0 ∧ d0 < 18446744073709551616) (ha : 0 ≤ a ∧ a < 4294967296)
include hh hd ha
theorem s_pAllocate : ev 31 [.agg (pg l h d0 d1 d2 d3 d4 d5 d6), .v (.int .i64 k), .v (.int .u32 a)] = some (allocR l h d0 k a) := by
  rw [ev31, s_ptagOf hd.1 hd.2]
  have h23 := s_pLocked (l := l) (d0 := d0) (d1 := d1) (d2 := d2) (d3 := d3) (d4 := d4) (d5 := d5) (d6 := d6) hh.1 hh.2
  have h43 := fun g => s_ptagged (l := l) (h := h) (d0 := d0) (d1 := d1) (d2 := d2) (d3 := d3) (d4 := d4) (d5 := d5) (d6 := d6) (k := k) (g := g) ha.1 ha.2
  have e : IntKind.i64.wrap (d0 / 256 % 16777216 + 1) = d0 / 256 % 16777216 + 1 := by rw [w_i64]; omega
  unfold allocR heap
  cases hc : (leI 104 l && ltI l 256) with
  | false => simp -implicitDefEqProofs only [some_bind', obCells_agg, obCells_ob, isOb_ok, isL_ok, isOw_ok, avXs_lst, avXs_ow, avNil_lst, avNil_ow, avNil_sl, avOff_sl, avCut_sl, isAgg_agg, nat_beq_self, List.length_cons, List.length_nil, Nat.reduceAdd, Nat.zero_add, isI_v, isB_v, isS_v, avInt_v, avBool_v, avStr_v, cellAt_zero, cellAt_succ, lget_zero, lget_succ, frAt_zero, frAt_succ, blAt_zero, blAt_succ, isEx_ok, isEx_ne, isEx_none, isRt_some, isRt_none, like_st, likeFG_nil, likeFG_cons, likeBG_nil, likeBG_obj, likeBG_row, likeSG_nil, likeSG_cons, likeT_nil, likeS_nil, isNP_nil, isNP_ob, likeT_ep, isEp_ep, epCells_ep, likeT_agg, likeT_int, likeT_bool, likeT_str, likeT_lst, likeT_sl0, likeT_sl1, likeT_ptr, likeS_int, likeS_bool, likeS_str, likeS_lst, likeS_sl0, likeS_sl1, likeS_ptr, isPtr_ok, isSl_0, isSl_1, beq_self_b, Bool.and_self, Bool.and_true, Bool.true_and, Bool.and_false, Bool.false_and, cond_true, cond_false, Bool.not_true, Bool.not_false, s_pinHeap, hc]
  | true =>
    cases h2 : ltI k 1 with
    | true => simp -implicitDefEqProofs only [some_bind', obCells_agg, obCells_ob, isOb_ok, isL_ok, isOw_ok, avXs_lst, avXs_ow, avNil_lst, avNil_ow, avNil_sl, avOff_sl, avCut_sl, isAgg_agg, nat_beq_self, List.length_cons, List.length_nil, Nat.reduceAdd, Nat.zero_add, isI_v, isB_v, isS_v, avInt_v, avBool_v, avStr_v, cellAt_zero, cellAt_succ, lget_zero, lget_succ, frAt_zero, frAt_succ, blAt_zero, blAt_succ, isEx_ok, isEx_ne, isEx_none, isRt_some, isRt_none, like_st, likeFG_nil, likeFG_cons, likeBG_nil, likeBG_obj, likeBG_row, likeSG_nil, likeSG_cons, likeT_nil, likeS_nil, isNP_nil, isNP_ob, likeT_ep, isEp_ep, epCells_ep, likeT_agg, likeT_int, likeT_bool, likeT_str, likeT_lst, likeT_sl0, likeT_sl1, likeT_ptr, likeS_int, likeS_bool, likeS_str, likeS_lst, likeS_sl0, likeS_sl1, likeS_ptr, isPtr_ok, isSl_0, isSl_1, beq_self_b, Bool.and_self, Bool.and_true, Bool.true_and, Bool.and_false, Bool.false_and, cond_true, cond_false, Bool.not_true, Bool.not_false, s_pinHeap, hc, h2, Bool.true_or]
    | false =>
      cases h3 : ltI 4 k with
      | true => simp -implicitDefEqProofs only [some_bind', obCells_agg, obCells_ob, isOb_ok, isL_ok, isOw_ok, avXs_lst, avXs_ow, avNil_lst, avNil_ow, avNil_sl, avOff_sl, avCut_sl, isAgg_agg, nat_beq_self, List.length_cons, List.length_nil, Nat.reduceAdd, Nat.zero_add, isI_v, isB_v, isS_v, avInt_v, avBool_v, avStr_v, cellAt_zero, cellAt_succ, lget_zero, lget_succ, frAt_zero, frAt_succ, blAt_zero, blAt_succ, isEx_ok, isEx_ne, isEx_none, isRt_some, isRt_none, like_st, likeFG_nil, likeFG_cons, likeBG_nil, likeBG_obj, likeBG_row, likeSG_nil, likeSG_cons, likeT_nil, likeS_nil, isNP_nil, isNP_ob, likeT_ep, isEp_ep, epCells_ep, likeT_agg, likeT_int, likeT_bool, likeT_str, likeT_lst, likeT_sl0, likeT_sl1, likeT_ptr, likeS_int, likeS_bool, likeS_str, likeS_lst, likeS_sl0, likeS_sl1, likeS_ptr, isPtr_ok, isSl_0, isSl_1, beq_self_b, Bool.and_self, Bool.and_true, Bool.true_and, Bool.and_false, Bool.false_and, cond_true, cond_false, Bool.not_true, Bool.not_false, s_pinHeap, hc, h2, h3, Bool.or_true]
      | false =>
        cases h4 : (h % 256 == 0) with
        | false => simp -implicitDefEqProofs only [some_bind', obCells_agg, obCells_ob, isOb_ok, isL_ok, isOw_ok, avXs_lst, avXs_ow, avNil_lst, avNil_ow, avNil_sl, avOff_sl, avCut_sl, isAgg_agg, nat_beq_self, List.length_cons, List.length_nil, Nat.reduceAdd, Nat.zero_add, isI_v, isB_v, isS_v, avInt_v, avBool_v, avStr_v, cellAt_zero, cellAt_succ, lget_zero, lget_succ, frAt_zero, frAt_succ, blAt_zero, blAt_succ, isEx_ok, isEx_ne, isEx_none, isRt_some, isRt_none, like_st, likeFG_nil, likeFG_cons, likeBG_nil, likeBG_obj, likeBG_row, likeSG_nil, likeSG_cons, likeT_nil, likeS_nil, isNP_nil, isNP_ob, likeT_ep, isEp_ep, epCells_ep, likeT_agg, likeT_int, likeT_bool, likeT_str, likeT_lst, likeT_sl0, likeT_sl1, likeT_ptr, likeS_int, likeS_bool, likeS_str, likeS_lst, likeS_sl0, likeS_sl1, likeS_ptr, isPtr_ok, isSl_0, isSl_1, beq_self_b, Bool.and_self, Bool.and_true, Bool.true_and, Bool.and_false, Bool.false_and, cond_true, cond_false, Bool.not_true, Bool.not_false, s_pinHeap, hc, h2, h3, h4, h23, Bool.or_false]
        | true =>
          cases h5 : (d0 % 256 == 0) with
          | false => simp -implicitDefEqProofs only [some_bind', obCells_agg, obCells_ob, isOb_ok, isL_ok, isOw_ok, avXs_lst, avXs_ow, avNil_lst, avNil_ow, avNil_sl, avOff_sl, avCut_sl, isAgg_agg, nat_beq_self, List.length_cons, List.length_nil, Nat.reduceAdd, Nat.zero_add, isI_v, isB_v, isS_v, avInt_v, avBool_v, avStr_v, cellAt_zero, cellAt_succ, lget_zero, lget_succ, frAt_zero, frAt_succ, blAt_zero, blAt_succ, isEx_ok, isEx_ne, isEx_none, isRt_some, isRt_none, like_st, likeFG_nil, likeFG_cons, likeBG_nil, likeBG_obj, likeBG_row, likeSG_nil, likeSG_cons, likeT_nil, likeS_nil, isNP_nil, isNP_ob, likeT_ep, isEp_ep, epCells_ep, likeT_agg, likeT_int, likeT_bool, likeT_str, likeT_lst, likeT_sl0, likeT_sl1, likeT_ptr, likeS_int, likeS_bool, likeS_str, likeS_lst, likeS_sl0, likeS_sl1, likeS_ptr, isPtr_ok, isSl_0, isSl_1, beq_self_b, Bool.and_self, Bool.and_true, Bool.true_and, Bool.and_false, Bool.false_and, cond_true, cond_false, Bool.not_true, Bool.not_false, s_pinHeap, hc, h2, h3, h4, h5, h23, Bool.or_false]
          | true =>
            cases h6 : (d0 / 256 % 16777216 == 16777215) with
            | true => simp -implicitDefEqProofs only [some_bind', obCells_agg, obCells_ob, isOb_ok, isL_ok, isOw_ok, avXs_lst, avXs_ow, avNil_lst, avNil_ow, avNil_sl, avOff_sl, avCut_sl, isAgg_agg, nat_beq_self, List.length_cons, List.length_nil, Nat.reduceAdd, Nat.zero_add, isI_v, isB_v, isS_v, avInt_v, avBool_v, avStr_v, cellAt_zero, cellAt_succ, lget_zero, lget_succ, frAt_zero, frAt_succ, blAt_zero, blAt_succ, isEx_ok, isEx_ne, isEx_none, isRt_some, isRt_none, like_st, likeFG_nil, likeFG_cons, likeBG_nil, likeBG_obj, likeBG_row, likeSG_nil, likeSG_cons, likeT_nil, likeS_nil, isNP_nil, isNP_ob, likeT_ep, isEp_ep, epCells_ep, likeT_agg, likeT_int, likeT_bool, likeT_str, likeT_lst, likeT_sl0, likeT_sl1, likeT_ptr, likeS_int, likeS_bool, likeS_str, likeS_lst, likeS_sl0, likeS_sl1, likeS_ptr, isPtr_ok, isSl_0, isSl_1, beq_self_b, Bool.and_self, Bool.and_true, Bool.true_and, Bool.and_false, Bool.false_and, cond_true, cond_false, Bool.not_true, Bool.not_false, s_pinHeap, hc, h2, h3, h4, h5, h6, h23, Bool.or_false]
            | false => simp -implicitDefEqProofs only [some_bind', obCells_agg, obCells_ob, isOb_ok, isL_ok, isOw_ok, avXs_lst, avXs_ow, avNil_lst, avNil_ow, avNil_sl, avOff_sl, avCut_sl, isAgg_agg, nat_beq_self, List.length_cons, List.length_nil, Nat.reduceAdd, Nat.zero_add, isI_v, isB_v, isS_v, avInt_v, avBool_v, avStr_v, cellAt_zero, cellAt_succ, lget_zero, lget_succ, frAt_zero, frAt_succ, blAt_zero, blAt_succ, isEx_ok, isEx_ne, isEx_none, isRt_some, isRt_none, like_st, likeFG_nil, likeFG_cons, likeBG_nil, likeBG_obj, likeBG_row, likeSG_nil, likeSG_cons, likeT_nil, likeS_nil, isNP_nil, isNP_ob, likeT_ep, isEp_ep, epCells_ep, likeT_agg, likeT_int, likeT_bool, likeT_str, likeT_lst, likeT_sl0, likeT_sl1, likeT_ptr, likeS_int, likeS_bool, likeS_str, likeS_lst, likeS_sl0, likeS_sl1, likeS_ptr, isPtr_ok, isSl_0, isSl_1, beq_self_b, Bool.and_self, Bool.and_true, Bool.true_and, Bool.and_false, Bool.false_and, cond_true, cond_false, Bool.not_true, Bool.not_false, s_pinHeap, hc, h2, h3, h4, h5, h6, h23, h43, e, Bool.or_false]
end
section
variable {l h d0 d1 d2 d3 d4 d5 d6 : Int} (hh : 0 ≤ h ∧ h < 18446744073709551616) (hd : 0 ≤ d0 ∧ d0 < 18446744073709551616)
include hh hd
theorem s_pRelease : ev 33 [.agg (pg l h d0 d1 d2 d3 d4 d5 d6)] = some (freeR l h d0) := by
  rw [ev33, s_ptagOf hd.1 hd.2]
  have h23 := s_pLocked (l := l) (d0 := d0) (d1 := d1) (d2 := d2) (d3 := d3) (d4 := d4) (d5 := d5) (d6 := d6) hh.1 hh.2
  have h43 := fun g => s_ptagged (l := l) (h := h) (d0 := d0) (d1 := d1) (d2 := d2) (d3 := d3) (d4 := d4) (d5 := d5) (d6 := d6) (k := 0) (g := g) (a := 0) (by decide) (by decide)
  unfold freeR heap
  cases hc : (leI 104 l && ltI l 256) with
  | false => simp -implicitDefEqProofs only [some_bind', obCells_agg, obCells_ob, isOb_ok, isL_ok, isOw_ok, avXs_lst, avXs_ow, avNil_lst, avNil_ow, avNil_sl, avOff_sl, avCut_sl, isAgg_agg, nat_beq_self, List.length_cons, List.length_nil, Nat.reduceAdd, Nat.zero_add, isI_v, isB_v, isS_v, avInt_v, avBool_v, avStr_v, cellAt_zero, cellAt_succ, lget_zero, lget_succ, frAt_zero, frAt_succ, blAt_zero, blAt_succ, isEx_ok, isEx_ne, isEx_none, isRt_some, isRt_none, like_st, likeFG_nil, likeFG_cons, likeBG_nil, likeBG_obj, likeBG_row, likeSG_nil, likeSG_cons, likeT_nil, likeS_nil, isNP_nil, isNP_ob, likeT_ep, isEp_ep, epCells_ep, likeT_agg, likeT_int, likeT_bool, likeT_str, likeT_lst, likeT_sl0, likeT_sl1, likeT_ptr, likeS_int, likeS_bool, likeS_str, likeS_lst, likeS_sl0, likeS_sl1, likeS_ptr, isPtr_ok, isSl_0, isSl_1, beq_self_b, Bool.and_self, Bool.and_true, Bool.true_and, Bool.and_false, Bool.false_and, cond_true, cond_false, Bool.not_true, Bool.not_false, s_pinHeap, hc]
  | true =>
    cases h4 : (h % 256 == 0) with
    | false => simp -implicitDefEqProofs only [some_bind', obCells_agg, obCells_ob, isOb_ok, isL_ok, isOw_ok, avXs_lst, avXs_ow, avNil_lst, avNil_ow, avNil_sl, avOff_sl, avCut_sl, isAgg_agg, nat_beq_self, List.length_cons, List.length_nil, Nat.reduceAdd, Nat.zero_add, isI_v, isB_v, isS_v, avInt_v, avBool_v, avStr_v, cellAt_zero, cellAt_succ, lget_zero, lget_succ, frAt_zero, frAt_succ, blAt_zero, blAt_succ, isEx_ok, isEx_ne, isEx_none, isRt_some, isRt_none, like_st, likeFG_nil, likeFG_cons, likeBG_nil, likeBG_obj, likeBG_row, likeSG_nil, likeSG_cons, likeT_nil, likeS_nil, isNP_nil, isNP_ob, likeT_ep, isEp_ep, epCells_ep, likeT_agg, likeT_int, likeT_bool, likeT_str, likeT_lst, likeT_sl0, likeT_sl1, likeT_ptr, likeS_int, likeS_bool, likeS_str, likeS_lst, likeS_sl0, likeS_sl1, likeS_ptr, isPtr_ok, isSl_0, isSl_1, beq_self_b, Bool.and_self, Bool.and_true, Bool.true_and, Bool.and_false, Bool.false_and, cond_true, cond_false, Bool.not_true, Bool.not_false, s_pinHeap, hc, h4, h23]
    | true =>
      cases h5 : (d0 % 256 == 0) with
      | true => simp -implicitDefEqProofs only [some_bind', obCells_agg, obCells_ob, isOb_ok, isL_ok, isOw_ok, avXs_lst, avXs_ow, avNil_lst, avNil_ow, avNil_sl, avOff_sl, avCut_sl, isAgg_agg, nat_beq_self, List.length_cons, List.length_nil, Nat.reduceAdd, Nat.zero_add, isI_v, isB_v, isS_v, avInt_v, avBool_v, avStr_v, cellAt_zero, cellAt_succ, lget_zero, lget_succ, frAt_zero, frAt_succ, blAt_zero, blAt_succ, isEx_ok, isEx_ne, isEx_none, isRt_some, isRt_none, like_st, likeFG_nil, likeFG_cons, likeBG_nil, likeBG_obj, likeBG_row, likeSG_nil, likeSG_cons, likeT_nil, likeS_nil, isNP_nil, isNP_ob, likeT_ep, isEp_ep, epCells_ep, likeT_agg, likeT_int, likeT_bool, likeT_str, likeT_lst, likeT_sl0, likeT_sl1, likeT_ptr, likeS_int, likeS_bool, likeS_str, likeS_lst, likeS_sl0, likeS_sl1, likeS_ptr, isPtr_ok, isSl_0, isSl_1, beq_self_b, Bool.and_self, Bool.and_true, Bool.true_and, Bool.and_false, Bool.false_and, cond_true, cond_false, Bool.not_true, Bool.not_false, s_pinHeap, hc, h4, h5, h23]
      | false => simp -implicitDefEqProofs only [some_bind', obCells_agg, obCells_ob, isOb_ok, isL_ok, isOw_ok, avXs_lst, avXs_ow, avNil_lst, avNil_ow, avNil_sl, avOff_sl, avCut_sl, isAgg_agg, nat_beq_self, List.length_cons, List.length_nil, Nat.reduceAdd, Nat.zero_add, isI_v, isB_v, isS_v, avInt_v, avBool_v, avStr_v, cellAt_zero, cellAt_succ, lget_zero, lget_succ, frAt_zero, frAt_succ, blAt_zero, blAt_succ, isEx_ok, isEx_ne, isEx_none, isRt_some, isRt_none, like_st, likeFG_nil, likeFG_cons, likeBG_nil, likeBG_obj, likeBG_row, likeSG_nil, likeSG_cons, likeT_nil, likeS_nil, isNP_nil, isNP_ob, likeT_ep, isEp_ep, epCells_ep, likeT_agg, likeT_int, likeT_bool, likeT_str, likeT_lst, likeT_sl0, likeT_sl1, likeT_ptr, likeS_int, likeS_bool, likeS_str, likeS_lst, likeS_sl0, likeS_sl1, likeS_ptr, isPtr_ok, isSl_0, isSl_1, beq_self_b, Bool.and_self, Bool.and_true, Bool.true_and, Bool.and_false, Bool.false_and, cond_true, cond_false, Bool.not_true, Bool.not_false, s_pinHeap, hc, h4, h5, h23, h43]
end
/-- What is found at a pointer. -/
def lookR (o : Option Pg) (l g k : Int) (locks : Bool) : List AV :=
  cond (valid l g)
    (match o with
    | none => [.agg zero9, .v (.bool false), .v (.int .i64 0)]
    | some p =>
      cond (locks && !(p.h % 256 == 0)) [.agg zero9, .v (.bool false), .v (.int .i64 3)]
        (cond (p.d0 % 256 == 0) [.agg zero9, .v (.bool false), .v (.int .i64 11)]
          (cond (p.d0 / 256 % 16777216 == g)
            (cond (p.d0 % 256 == k) [.agg p.row, .v (.bool true), .v (.int .i64 0)] [.agg zero9, .v (.bool false), .v (.int .i64 14)])
            [.agg zero9, .v (.bool false), .v (.int .i64 11)])))
    [.agg zero9, .v (.bool false), .v (.int .i64 1)]
/-- A page, whether, and a number. -/
theorem look_form (o : Option Pg) (l g k : Int) (locks : Bool) : ∃ (p : Pg) (f : Bool) (e : Int), lookR o l g k locks = [.agg p.row, .v (.bool f), .v (.int .i64 e)] := by
  unfold lookR
  cases valid l g with
  | false => exact ⟨pz, _, _, rfl⟩
  | true =>
    cases o with
    | none => exact ⟨pz, _, _, rfl⟩
    | some p =>
      dsimp only
      cases (locks && !(p.h % 256 == 0)) <;> cases (p.d0 % 256 == 0) <;> cases (p.d0 / 256 % 16777216 == g) <;> cases (p.d0 % 256 == k) <;> first | exact ⟨pz, _, _, rfl⟩ | exact ⟨p, _, _, rfl⟩
theorem lat_one (p : Pg) : lat [p] p.l 1 = some p := by unfold lat; simp
theorem s_plookup (ps : List Pg) (b : Bool) (l g k : Int) (locks : Bool) (hl : ps.length ≤ 1000) (hp : ∀ p ∈ ps, p.ok) : ev 45 [.lst b 9 (ps.map Pg.row), .agg [.v (.int .i64 l), .v (.int .i64 g)], .v (.int .i64 k), .v (.bool locks)] = some (lookR (lat ps l ps.length) l g k locks) := by
  rw [ev45]
  have h28 := s_pLatest ps b l hl
  unfold lookR
  cases hv : valid l g with
  | false => simp -implicitDefEqProofs only [some_bind', obCells_agg, obCells_ob, isOb_ok, isL_ok, isOw_ok, avXs_lst, avXs_ow, avNil_lst, avNil_ow, avNil_sl, avOff_sl, avCut_sl, isAgg_agg, nat_beq_self, List.length_cons, List.length_nil, Nat.reduceAdd, Nat.zero_add, isI_v, isB_v, isS_v, avInt_v, avBool_v, avStr_v, cellAt_zero, cellAt_succ, lget_zero, lget_succ, frAt_zero, frAt_succ, blAt_zero, blAt_succ, isEx_ok, isEx_ne, isEx_none, isRt_some, isRt_none, like_st, likeFG_nil, likeFG_cons, likeBG_nil, likeBG_obj, likeBG_row, likeSG_nil, likeSG_cons, likeT_nil, likeS_nil, isNP_nil, isNP_ob, likeT_ep, isEp_ep, epCells_ep, likeT_agg, likeT_int, likeT_bool, likeT_str, likeT_lst, likeT_sl0, likeT_sl1, likeT_ptr, likeS_int, likeS_bool, likeS_str, likeS_lst, likeS_sl0, likeS_sl1, likeS_ptr, isPtr_ok, isSl_0, isSl_1, beq_self_b, Bool.and_self, Bool.and_true, Bool.true_and, Bool.and_false, Bool.false_and, cond_true, cond_false, Bool.not_true, Bool.not_false, s_pValid, hv]
  | true =>
    cases ho : lat ps l ps.length with
    | none => simp -implicitDefEqProofs only [some_bind', obCells_agg, obCells_ob, isOb_ok, isL_ok, isOw_ok, avXs_lst, avXs_ow, avNil_lst, avNil_ow, avNil_sl, avOff_sl, avCut_sl, isAgg_agg, nat_beq_self, List.length_cons, List.length_nil, Nat.reduceAdd, Nat.zero_add, isI_v, isB_v, isS_v, avInt_v, avBool_v, avStr_v, cellAt_zero, cellAt_succ, lget_zero, lget_succ, frAt_zero, frAt_succ, blAt_zero, blAt_succ, isEx_ok, isEx_ne, isEx_none, isRt_some, isRt_none, like_st, likeFG_nil, likeFG_cons, likeBG_nil, likeBG_obj, likeBG_row, likeSG_nil, likeSG_cons, likeT_nil, likeS_nil, isNP_nil, isNP_ob, likeT_ep, isEp_ep, epCells_ep, likeT_agg, likeT_int, likeT_bool, likeT_str, likeT_lst, likeT_sl0, likeT_sl1, likeT_ptr, likeS_int, likeS_bool, likeS_str, likeS_lst, likeS_sl0, likeS_sl1, likeS_ptr, isPtr_ok, isSl_0, isSl_1, beq_self_b, Bool.and_self, Bool.and_true, Bool.true_and, Bool.and_false, Bool.false_and, cond_true, cond_false, Bool.not_true, Bool.not_false, s_pValid, hv, h28, ho, Option.isSome, Option.getD, Pg.row_eq]
    | some p =>
      have hq := hp p (lat_mem ps l _ (Nat.le_refl _) p ho)
      obtain ⟨_, hh, hd, _⟩ := hq
      have h42 := s_ptagOf (l := p.l) (h := p.h) (d0 := p.d0) (d1 := p.d1) (d2 := p.d2) (d3 := p.d3) (d4 := p.d4) (d5 := p.d5) (d6 := p.d6) hd.1 (by have := hd.2; omega)
      have h23 := s_pLocked (l := p.l) (h := p.h) (d0 := p.d0) (d1 := p.d1) (d2 := p.d2) (d3 := p.d3) (d4 := p.d4) (d5 := p.d5) (d6 := p.d6) hh.1 (by have := hh.2; omega)
      cases locks <;> cases h4 : (p.h % 256 == 0) <;> cases h5 : (p.d0 % 256 == 0) <;> cases h6 : (p.d0 / 256 % 16777216 == g) <;> cases h7 : (p.d0 % 256 == k) <;>
        simp -implicitDefEqProofs only [some_bind', obCells_agg, obCells_ob, isOb_ok, isL_ok, isOw_ok, avXs_lst, avXs_ow, avNil_lst, avNil_ow, avNil_sl, avOff_sl, avCut_sl, isAgg_agg, nat_beq_self, List.length_cons, List.length_nil, Nat.reduceAdd, Nat.zero_add, isI_v, isB_v, isS_v, avInt_v, avBool_v, avStr_v, cellAt_zero, cellAt_succ, lget_zero, lget_succ, frAt_zero, frAt_succ, blAt_zero, blAt_succ, isEx_ok, isEx_ne, isEx_none, isRt_some, isRt_none, like_st, likeFG_nil, likeFG_cons, likeBG_nil, likeBG_obj, likeBG_row, likeSG_nil, likeSG_cons, likeT_nil, likeS_nil, isNP_nil, isNP_ob, likeT_ep, isEp_ep, epCells_ep, likeT_agg, likeT_int, likeT_bool, likeT_str, likeT_lst, likeT_sl0, likeT_sl1, likeT_ptr, likeS_int, likeS_bool, likeS_str, likeS_lst, likeS_sl0, likeS_sl1, likeS_ptr, isPtr_ok, isSl_0, isSl_1, beq_self_b, Bool.and_self, Bool.and_true, Bool.true_and, Bool.and_false, Bool.false_and, cond_true, cond_false, Bool.not_true, Bool.not_false, s_pValid, hv, h28, ho, Option.isSome, Option.getD, Pg.row_eq, h42, h23, h4, h5, h6, h7]
theorem s_pPeek (ps : List Pg) (b : Bool) (l g k : Int) (hl : ps.length ≤ 1000) (hp : ∀ p ∈ ps, p.ok) : ev 37 [.lst b 9 (ps.map Pg.row), .agg [.v (.int .i64 l), .v (.int .i64 g)], .v (.int .i64 k)] = some (lookR (lat ps l ps.length) l g k false) := by
  rw [ev37, s_plookup ps b l g k false hl hp]
  obtain ⟨p, f, e, h⟩ := look_form (lat ps l ps.length) l g k false
  rw [h]
  simp -implicitDefEqProofs only [some_bind', obCells_agg, obCells_ob, isOb_ok, isL_ok, isOw_ok, avXs_lst, avXs_ow, avNil_lst, avNil_ow, avNil_sl, avOff_sl, avCut_sl, isAgg_agg, nat_beq_self, List.length_cons, List.length_nil, Nat.reduceAdd, Nat.zero_add, isI_v, isB_v, isS_v, avInt_v, avBool_v, avStr_v, cellAt_zero, cellAt_succ, lget_zero, lget_succ, frAt_zero, frAt_succ, blAt_zero, blAt_succ, isEx_ok, isEx_ne, isEx_none, isRt_some, isRt_none, like_st, likeFG_nil, likeFG_cons, likeBG_nil, likeBG_obj, likeBG_row, likeSG_nil, likeSG_cons, likeT_nil, likeS_nil, isNP_nil, isNP_ob, likeT_ep, isEp_ep, epCells_ep, likeT_agg, likeT_int, likeT_bool, likeT_str, likeT_lst, likeT_sl0, likeT_sl1, likeT_ptr, likeS_int, likeS_bool, likeS_str, likeS_lst, likeS_sl0, likeS_sl1, likeS_ptr, isPtr_ok, isSl_0, isSl_1, beq_self_b, Bool.and_self, Bool.and_true, Bool.true_and, Bool.and_false, Bool.false_and, cond_true, cond_false, Bool.not_true, Bool.not_false, Pg.row_eq]
theorem s_pPeek1 (p : Pg) (hp : p.ok) (b : Bool) (g k : Int) : ev 37 [.lst b 9 [pgl p.l p.h p.d0 p.d1 p.d2 p.d3 p.d4 p.d5 p.d6], .agg [.v (.int .i64 p.l), .v (.int .i64 g)], .v (.int .i64 k)] = some (lookR (some p) p.l g k false) := by
  have h1 := s_pPeek [p] b p.l g k (by simp) (fun q hq => by obtain rfl := List.mem_singleton.1 hq; exact hp)
  rw [show [p].length = 1 from rfl, lat_one] at h1
  exact h1
theorem s_pOpen (ps : List Pg) (b : Bool) (l g k : Int) (hl : ps.length ≤ 1000) (hp : ∀ p ∈ ps, p.ok) : ev 39 [.lst b 9 (ps.map Pg.row), .agg [.v (.int .i64 l), .v (.int .i64 g)], .v (.int .i64 k)] = some (lookR (lat ps l ps.length) l g k true) := by
  rw [ev39, s_plookup ps b l g k true hl hp]
  obtain ⟨p, f, e, h⟩ := look_form (lat ps l ps.length) l g k true
  rw [h]
  simp -implicitDefEqProofs only [some_bind', obCells_agg, obCells_ob, isOb_ok, isL_ok, isOw_ok, avXs_lst, avXs_ow, avNil_lst, avNil_ow, avNil_sl, avOff_sl, avCut_sl, isAgg_agg, nat_beq_self, List.length_cons, List.length_nil, Nat.reduceAdd, Nat.zero_add, isI_v, isB_v, isS_v, avInt_v, avBool_v, avStr_v, cellAt_zero, cellAt_succ, lget_zero, lget_succ, frAt_zero, frAt_succ, blAt_zero, blAt_succ, isEx_ok, isEx_ne, isEx_none, isRt_some, isRt_none, like_st, likeFG_nil, likeFG_cons, likeBG_nil, likeBG_obj, likeBG_row, likeSG_nil, likeSG_cons, likeT_nil, likeS_nil, isNP_nil, isNP_ob, likeT_ep, isEp_ep, epCells_ep, likeT_agg, likeT_int, likeT_bool, likeT_str, likeT_lst, likeT_sl0, likeT_sl1, likeT_ptr, likeS_int, likeS_bool, likeS_str, likeS_lst, likeS_sl0, likeS_sl1, likeS_ptr, isPtr_ok, isSl_0, isSl_1, beq_self_b, Bool.and_self, Bool.and_true, Bool.true_and, Bool.and_false, Bool.false_and, cond_true, cond_false, Bool.not_true, Bool.not_false, Pg.row_eq]
theorem s_pOpen1 (p : Pg) (hp : p.ok) (b : Bool) (g k : Int) : ev 39 [.lst b 9 [pgl p.l p.h p.d0 p.d1 p.d2 p.d3 p.d4 p.d5 p.d6], .agg [.v (.int .i64 p.l), .v (.int .i64 g)], .v (.int .i64 k)] = some (lookR (some p) p.l g k true) := by
  have h1 := s_pOpen [p] b p.l g k (by simp) (fun q hq => by obtain rfl := List.mem_singleton.1 hq; exact hp)
  rw [show [p].length = 1 from rfl, lat_one] at h1
  exact h1
end Go.Proofs.Ytcalaooabgklbaa
