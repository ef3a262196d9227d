/- The formats' specifications. -/
import Derived.Test.YtniocbmadbaojaaSpc2
import Derived.Test.YtniocbmadbaojaaEq6
set_option linter.all false
namespace Go.Proofs.Ytniocbmadbaojaa
open Go.Ev
attribute [local congr] bind_first cond_first
def drs : Nat → Nat → List Int → List Int
  | 0, _, w => w
  | k + 1, i, w => drs k (i + 1) (w.set (24 + i) 1)
def hds : Nat → Nat → List Int → List Int
  | 0, _, w => w
  | k + 1, i, w => hds k (i + 1) (w.set (8 * i) 256)
theorem drs_len : ∀ k i w, (drs k i w).length = w.length
  | 0, _, _ => rfl
  | k + 1, i, w => by rw [drs, drs_len]; simp
theorem hds_len : ∀ k i w, (hds k i w).length = w.length
  | 0, _, _ => rfl
  | k + 1, i, w => by rw [hds, hds_len]; simp
theorem drs_ok : ∀ k i w, Wok w → Wok (drs k i w)
  | 0, _, _, h => h
  | k + 1, i, w, h => drs_ok k _ _ (wok_set h _ ⟨by decide, by decide⟩)
theorem hds_ok : ∀ k i w, Wok w → Wok (hds k i w)
  | 0, _, _, h => h
  | k + 1, i, w, h => hds_ok k _ _ (wok_set h _ ⟨by decide, by decide⟩)
def ivl (k : Int) : Int := if k = 1 then 549755813895 else if k = 2 then 549755814791 else if k = 3 then 549755929479 else if k = 4 then 549770609543 else 551649657735
def fmt (L : Nat) (k : Int) : List Int := hds (L - 96) 96 (drs 6 0 ((((List.replicate (8 * L) 0).set 0 1).set 1 1).set 8 (4503599627370496 + 1099511627776 + ivl k)))
theorem fmt_len (L : Nat) (k : Int) : (fmt L k).length = 8 * L := by unfold fmt; rw [hds_len, drs_len]; simp
theorem ivl_ok (k : Int) : 0 ≤ ivl k ∧ ivl k < 1099511627776 := by
  unfold ivl; repeat' split
  all_goals omega
theorem fmt_ok (L : Nat) (k : Int) : Wok (fmt L k) := by
  have h0 : Wok (List.replicate (8 * L) (0 : Int)) := fun x hx => by obtain ⟨_, rfl⟩ := List.mem_replicate.1 hx; exact ⟨by decide, by decide⟩
  have hi := ivl_ok k
  exact hds_ok _ _ _ (drs_ok _ _ _ (wok_set (wok_set (wok_set h0 _ ⟨by decide, by decide⟩) _ ⟨by decide, by decide⟩) _ ⟨by omega, by omega⟩))
theorem five {k : Int} (h : 1 ≤ k ∧ k ≤ 5) : k = 1 ∨ k = 2 ∨ k = 3 ∨ k = 4 ∨ k = 5 := by omega
theorem s_IV {k : Int} (h : 1 ≤ k ∧ k ≤ 5) : ev 10 [.v (.int .i64 k)] = some [.v (.int .u64 (ivl k)), .v (.int .i64 0)] := by
  rcases five h with rfl | rfl | rfl | rfl | rfl
  · exact evL_of (n := 12) (by kernel_rfl)
  · exact evL_of (n := 12) (by kernel_rfl)
  · exact evL_of (n := 12) (by kernel_rfl)
  · exact evL_of (n := 12) (by kernel_rfl)
  · exact evL_of (n := 12) (by kernel_rfl)
theorem s_IVbad {k : Int} (h : k < 1 ∨ 5 < k) : ev 10 [.v (.int .i64 k)] = some [.v (.int .u64 0), .v (.int .i64 2)] := by
  rw [ev10]
  by_cases h1 : k < 1
  · rw [ltI_t h1]; rfl
  · rw [ltI_f (by omega), ltI_t (by omega)]; rfl
theorem s_RIV {k : Int} (h : 1 ≤ k ∧ k ≤ 5) : ev 11 [.v (.int .i64 k)] = some [.v (.int .u64 (ivl k)), .v (.int .i64 0)] := by
  rcases five h with rfl | rfl | rfl | rfl | rfl
  · exact evL_of (n := 12) (by kernel_rfl)
  · exact evL_of (n := 12) (by kernel_rfl)
  · exact evL_of (n := 12) (by kernel_rfl)
  · exact evL_of (n := 12) (by kernel_rfl)
  · exact evL_of (n := 12) (by kernel_rfl)
theorem s_Cons {k : Int} (h : 1 ≤ k ∧ k ≤ 5) : ev 53 [.v (.int .u64 1), .v (.int .u64 1), .v (.int .u64 (ivl k))] = some [.v (.int .u64 (4503599627370496 + 1099511627776 + ivl k)), .v (.int .i64 0)] := by
  rcases five h with rfl | rfl | rfl | rfl | rfl
  · exact evL_of (n := 12) (by kernel_rfl)
  · exact evL_of (n := 12) (by kernel_rfl)
  · exact evL_of (n := 12) (by kernel_rfl)
  · exact evL_of (n := 12) (by kernel_rfl)
  · exact evL_of (n := 12) (by kernel_rfl)
theorem r_cons {k : Int} (h : 1 ≤ k ∧ k ≤ 5) : bits .or .u64 4504699138998272 (ivl k) = 4503599627370496 + 1099511627776 + ivl k := by
  rcases five h with rfl | rfl | rfl | rfl | rfl <;> decide +kernel
theorem s_Door (c : Nat) (h : c < 6) : ev 12 [.v (.int .i64 (c : Int))] = some [.v (.int .i64 ((24 + c : Nat) : Int))] := by
  have : c = 0 ∨ c = 1 ∨ c = 2 ∨ c = 3 ∨ c = 4 ∨ c = 5 := by omega
  rcases this with rfl | rfl | rfl | rfl | rfl | rfl
  · exact evL_of (n := 12) (by kernel_rfl)
  · exact evL_of (n := 12) (by kernel_rfl)
  · exact evL_of (n := 12) (by kernel_rfl)
  · exact evL_of (n := 12) (by kernel_rfl)
  · exact evL_of (n := 12) (by kernel_rfl)
  · exact evL_of (n := 12) (by kernel_rfl)
theorem s_RDoor (c : Nat) (h : c < 6) : ev 13 [.v (.int .i64 (c : Int))] = some [.v (.int .i64 ((24 + c : Nat) : Int))] := by
  have hc : ev 44 [.v (.int .i64 (c : Int))] = some [.v (.bool true)] := by
    rw [ev44, leI_t (by omega), ltI_t (by omega)]; rfl
  rw [ev13]
  refine bnd hc ?_
  show some [AV.v (.int .i64 (IntKind.i64.wrap (24 + (c : Int))))] = _
  rw [show IntKind.i64.wrap (24 + (c : Int)) = ((24 + c : Nat) : Int) by rw [w_i64]; omega]
theorem s_Page (l : Nat) (h : 96 ≤ l ∧ l < 256) : ev 26 [.v (.int .i64 (l : Int))] = some [.v (.int .i64 ((8 * l : Nat) : Int))] := by
  rw [ev26, ltI_f (by omega), leI_f (by omega), show IntKind.i64.wrap ((l : Int) * 8) = ((8 * l : Nat) : Int) by rw [w_i64]; omega]; rfl
theorem s_Key : ev 52 [.v (.int .i64 0), .v (.bool true)] = some [.v (.int .u64 1), .v (.int .i64 0)] := evL_of (n := 12) (by kernel_rfl)
theorem s_Hd : ev 54 [.v (.int .u64 1), .v (.int .i64 0)] = some [.v (.int .u64 256), .v (.int .i64 0)] := evL_of (n := 12) (by kernel_rfl)
theorem s_C0 : ev 18 [.v (.int .i64 0)] = some [.v (.int .i64 8)] := evL_of (n := 12) (by kernel_rfl)
theorem s_RC0 : ev 19 [.v (.int .i64 0)] = some [.v (.int .i64 8)] := evL_of (n := 12) (by kernel_rfl)
theorem l_F0 (dn : Bool) (xs : List (List AV)) : ∀ (k i : Nat) (w : List Int), i + k = 6 → 30 ≤ w.length → w.length ≤ 100000 →
    lp 35 0 1 ⟨[(0, (.ptr 0 0 0)), (7, (.sl false 2 0 none)), (46, (.v (.int .i64 (i : Int)))), (1000000, (.ptr 0 0 0))], [⟨1, 61, 2, true, [[(.sl false 1 0 none), (.v (.bool dn))]]⟩, ⟨1, 29, 1, false, xs⟩, ⟨1, 29, 1, false, w.map wr⟩]⟩ =
      some ⟨some 1, ⟨[(0, (.ptr 0 0 0)), (7, (.sl false 2 0 none)), (1000000, (.ptr 0 0 0))], [⟨1, 61, 2, true, [[(.sl false 1 0 none), (.v (.bool dn))]]⟩, ⟨1, 29, 1, false, xs⟩, ⟨1, 29, 1, false, (drs k i w).map wr⟩]⟩, []⟩
  | 0, i, w, hi, hl, hl2 => by rw [lp35_0, ltI_f (by omega)]; rfl
  | k + 1, i, w, hi, hl, hl2 => by
    have ih := l_F0 dn xs k (i + 1) (w.set (24 + i) 1) (by omega) (by rw [List.length_set]; exact hl) (by rw [List.length_set]; exact hl2)
    have e1 : IntKind.i64.wrap ((i : Int) + 1) = ((i + 1 : Nat) : Int) := by rw [w_i64]; omega
    rw [lp35_0, ltI_t (by omega)]
    refine bnd (s_Door i (by omega)) ?_
    have h1 : ltI ((24 + i : Nat) : Int) (((w.map wr).length - 0 : Nat) : Int) = true := ltI_t (by rw [List.length_map]; omega)
    have h2 : ltN (24 + i) (w.map wr).length = true := ltN_t (by rw [List.length_map]; omega)
    simp -implicitDefEqProofs only [some_bind', obCells_agg, obCells_ob, isOb_ok, isL_ok, isOw_ok, avXs_lst, avXs_ow, avNil_lst, avNil_ow, avNil_sl, avOff_sl, avCut_sl, isAgg_agg, nat_beq_self, List.length_cons, List.length_nil, Nat.reduceAdd, Nat.zero_add, isI_v, isB_v, isS_v, avInt_v, avBool_v, avStr_v, cellAt_zero, cellAt_succ, lget_zero, lget_succ, frAt_zero, frAt_succ, blAt_zero, blAt_succ, isEx_ok, isEx_ne, isEx_none, isRt_some, isRt_none, like_st, likeFG_nil, likeFG_cons, likeBG_nil, likeBG_obj, likeBG_row, likeSG_nil, likeSG_cons, likeT_nil, likeS_nil, isNP_nil, isNP_ob, likeT_ep, isEp_ep, epCells_ep, likeT_agg, likeT_int, likeT_bool, likeT_str, likeT_lst, likeT_sl0, likeT_sl1, likeT_ptr, likeS_int, likeS_bool, likeS_str, likeS_lst, likeS_sl0, likeS_sl1, likeS_ptr, isPtr_ok, isSl_0, isSl_1, beq_self_b, Bool.and_self, Bool.and_true, Bool.true_and, Bool.and_false, Bool.false_and, cond_true, cond_false, Bool.not_true, Bool.not_false, leI_t (show (0 : Int) ≤ ((24 + i : Nat) : Int) by omega), Int.toNat_natCast, h1, h2, e1, set_wr]
    exact ih
theorem l_F1 (dn : Bool) (ws : List Int) (L : Nat) (hL : 96 ≤ L ∧ L ≤ 256) (hw : ws.length = 8 * L) : ∀ (k i : Nat) (w : List Int), i + k = L → 96 ≤ i → w.length = 8 * L →
    lp 35 1 1 ⟨[(0, (.ptr 0 0 0)), (7, (.sl false 2 0 none)), (9, (.v (.int .i64 (i : Int)))), (1000000, (.ptr 0 0 0))], [⟨1, 61, 2, true, [[(.sl false 1 0 none), (.v (.bool dn))]]⟩, ⟨1, 29, 1, false, ws.map wr⟩, ⟨1, 29, 1, false, w.map wr⟩]⟩ =
      some ⟨some 3, ⟨[(0, (.ptr 0 0 0)), (7, (.sl false 2 0 none)), (1000000, (.ptr 0 0 0))], [⟨1, 61, 2, true, [[(.sl false 1 0 none), (.v (.bool dn))]]⟩, ⟨1, 29, 1, false, ws.map wr⟩, ⟨1, 29, 1, false, (hds k i w).map wr⟩]⟩, []⟩
  | 0, i, w, hi, h9, hl => by
    have a := s_Lines false (ws.map wr) dn (by rw [List.length_map]; omega)
    rw [List.length_map, hw, show 8 * L / 8 = L by omega] at a
    rw [lp35_1]
    refine bnd a ?_
    simp -implicitDefEqProofs only [some_bind', obCells_agg, obCells_ob, isOb_ok, isL_ok, isOw_ok, avXs_lst, avXs_ow, avNil_lst, avNil_ow, avNil_sl, avOff_sl, avCut_sl, isAgg_agg, nat_beq_self, List.length_cons, List.length_nil, Nat.reduceAdd, Nat.zero_add, isI_v, isB_v, isS_v, avInt_v, avBool_v, avStr_v, cellAt_zero, cellAt_succ, lget_zero, lget_succ, frAt_zero, frAt_succ, blAt_zero, blAt_succ, isEx_ok, isEx_ne, isEx_none, isRt_some, isRt_none, like_st, likeFG_nil, likeFG_cons, likeBG_nil, likeBG_obj, likeBG_row, likeSG_nil, likeSG_cons, likeT_nil, likeS_nil, isNP_nil, isNP_ob, likeT_ep, isEp_ep, epCells_ep, likeT_agg, likeT_int, likeT_bool, likeT_str, likeT_lst, likeT_sl0, likeT_sl1, likeT_ptr, likeS_int, likeS_bool, likeS_str, likeS_lst, likeS_sl0, likeS_sl1, likeS_ptr, isPtr_ok, isSl_0, isSl_1, beq_self_b, Bool.and_self, Bool.and_true, Bool.true_and, Bool.and_false, Bool.false_and, cond_true, cond_false, Bool.not_true, Bool.not_false, ltI_f (show (L : Int) ≤ (i : Int) by omega), hds]
  | k + 1, i, w, hi, h9, hl => by
    have ih := l_F1 dn ws L hL hw k (i + 1) (w.set (8 * i) 256) (by omega) (by omega) (by rw [List.length_set]; exact hl)
    have a := s_Lines false (ws.map wr) dn (by rw [List.length_map]; omega)
    rw [List.length_map, hw, show 8 * L / 8 = L by omega] at a
    have e1 : IntKind.i64.wrap ((i : Int) + 1) = ((i + 1 : Nat) : Int) := by rw [w_i64]; omega
    have h1 : ltI ((8 * i : Nat) : Int) (((w.map wr).length - 0 : Nat) : Int) = true := ltI_t (by rw [List.length_map]; omega)
    have h2 : ltN (8 * i) (w.map wr).length = true := ltN_t (by rw [List.length_map]; omega)
    rw [lp35_1]
    refine bnd a ?_
    simp -implicitDefEqProofs only [some_bind', obCells_agg, obCells_ob, isOb_ok, isL_ok, isOw_ok, avXs_lst, avXs_ow, avNil_lst, avNil_ow, avNil_sl, avOff_sl, avCut_sl, isAgg_agg, nat_beq_self, List.length_cons, List.length_nil, Nat.reduceAdd, Nat.zero_add, isI_v, isB_v, isS_v, avInt_v, avBool_v, avStr_v, cellAt_zero, cellAt_succ, lget_zero, lget_succ, frAt_zero, frAt_succ, blAt_zero, blAt_succ, isEx_ok, isEx_ne, isEx_none, isRt_some, isRt_none, like_st, likeFG_nil, likeFG_cons, likeBG_nil, likeBG_obj, likeBG_row, likeSG_nil, likeSG_cons, likeT_nil, likeS_nil, isNP_nil, isNP_ob, likeT_ep, isEp_ep, epCells_ep, likeT_agg, likeT_int, likeT_bool, likeT_str, likeT_lst, likeT_sl0, likeT_sl1, likeT_ptr, likeS_int, likeS_bool, likeS_str, likeS_lst, likeS_sl0, likeS_sl1, likeS_ptr, isPtr_ok, isSl_0, isSl_1, beq_self_b, Bool.and_self, Bool.and_true, Bool.true_and, Bool.and_false, Bool.false_and, cond_true, cond_false, Bool.not_true, Bool.not_false, ltI_t (show (i : Int) < (L : Int) by omega)]
    refine bnd (s_Page i (by omega)) ?_
    simp -implicitDefEqProofs only [some_bind', obCells_agg, obCells_ob, isOb_ok, isL_ok, isOw_ok, avXs_lst, avXs_ow, avNil_lst, avNil_ow, avNil_sl, avOff_sl, avCut_sl, isAgg_agg, nat_beq_self, List.length_cons, List.length_nil, Nat.reduceAdd, Nat.zero_add, isI_v, isB_v, isS_v, avInt_v, avBool_v, avStr_v, cellAt_zero, cellAt_succ, lget_zero, lget_succ, frAt_zero, frAt_succ, blAt_zero, blAt_succ, isEx_ok, isEx_ne, isEx_none, isRt_some, isRt_none, like_st, likeFG_nil, likeFG_cons, likeBG_nil, likeBG_obj, likeBG_row, likeSG_nil, likeSG_cons, likeT_nil, likeS_nil, isNP_nil, isNP_ob, likeT_ep, isEp_ep, epCells_ep, likeT_agg, likeT_int, likeT_bool, likeT_str, likeT_lst, likeT_sl0, likeT_sl1, likeT_ptr, likeS_int, likeS_bool, likeS_str, likeS_lst, likeS_sl0, likeS_sl1, likeS_ptr, isPtr_ok, isSl_0, isSl_1, beq_self_b, Bool.and_self, Bool.and_true, Bool.true_and, Bool.and_false, Bool.false_and, cond_true, cond_false, Bool.not_true, Bool.not_false, s_Hd, leI_t (show (0 : Int) ≤ ((8 * i : Nat) : Int) by omega), Int.toNat_natCast, h1, h2, e1, set_wr]
    exact ih
theorem l_R0 (L : Int) : ∀ (k i : Nat) (w : List Int), i + k = 6 → 30 ≤ w.length → w.length ≤ 100000 →
    lp 37 0 0 ⟨[(1, (.v (.int .i64 L))), (5, (.sl false 0 0 none)), (8, (.v (.int .i64 (i : Int))))], [⟨1, 29, 1, false, w.map wr⟩]⟩ =
      some ⟨some 0, ⟨[(1, (.v (.int .i64 L))), (5, (.sl false 0 0 none))], [⟨1, 29, 1, false, (drs k i w).map wr⟩]⟩, []⟩
  | 0, i, w, hi, hl, hl2 => by rw [lp37_0, ltI_f (by omega)]; rfl
  | k + 1, i, w, hi, hl, hl2 => by
    have ih := l_R0 L k (i + 1) (w.set (24 + i) 1) (by omega) (by rw [List.length_set]; exact hl) (by rw [List.length_set]; exact hl2)
    have e1 : IntKind.i64.wrap ((i : Int) + 1) = ((i + 1 : Nat) : Int) := by rw [w_i64]; omega
    rw [lp37_0, ltI_t (by omega)]
    refine bnd (s_RDoor i (by omega)) ?_
    have h1 : ltI ((24 + i : Nat) : Int) (((w.map wr).length - 0 : Nat) : Int) = true := ltI_t (by rw [List.length_map]; omega)
    have h2 : ltN (24 + i) (w.map wr).length = true := ltN_t (by rw [List.length_map]; omega)
    simp -implicitDefEqProofs only [some_bind', obCells_agg, obCells_ob, isOb_ok, isL_ok, isOw_ok, avXs_lst, avXs_ow, avNil_lst, avNil_ow, avNil_sl, avOff_sl, avCut_sl, isAgg_agg, nat_beq_self, List.length_cons, List.length_nil, Nat.reduceAdd, Nat.zero_add, isI_v, isB_v, isS_v, avInt_v, avBool_v, avStr_v, cellAt_zero, cellAt_succ, lget_zero, lget_succ, frAt_zero, frAt_succ, blAt_zero, blAt_succ, isEx_ok, isEx_ne, isEx_none, isRt_some, isRt_none, like_st, likeFG_nil, likeFG_cons, likeBG_nil, likeBG_obj, likeBG_row, likeSG_nil, likeSG_cons, likeT_nil, likeS_nil, isNP_nil, isNP_ob, likeT_ep, isEp_ep, epCells_ep, likeT_agg, likeT_int, likeT_bool, likeT_str, likeT_lst, likeT_sl0, likeT_sl1, likeT_ptr, likeS_int, likeS_bool, likeS_str, likeS_lst, likeS_sl0, likeS_sl1, likeS_ptr, isPtr_ok, isSl_0, isSl_1, beq_self_b, Bool.and_self, Bool.and_true, Bool.true_and, Bool.and_false, Bool.false_and, cond_true, cond_false, Bool.not_true, Bool.not_false, leI_t (show (0 : Int) ≤ ((24 + i : Nat) : Int) by omega), Int.toNat_natCast, h1, h2, e1, set_wr]
    exact ih
theorem l_R1 (L : Nat) (hL : 96 ≤ L ∧ L ≤ 256) : ∀ (k i : Nat) (w : List Int), i + k = L → w.length = 8 * L →
    lp 37 1 0 ⟨[(1, (.v (.int .i64 (L : Int)))), (5, (.sl false 0 0 none)), (9, (.v (.int .i64 (i : Int))))], [⟨1, 29, 1, false, w.map wr⟩]⟩ =
      some ⟨some 2, ⟨[(5, (.sl false 0 0 none))], [⟨1, 29, 1, false, (hds k i w).map wr⟩]⟩, []⟩
  | 0, i, w, hi, hl => by rw [lp37_1, ltI_f (by omega)]; rfl
  | k + 1, i, w, hi, hl => by
    have ih := l_R1 L hL k (i + 1) (w.set (8 * i) 256) (by omega) (by rw [List.length_set]; exact hl)
    have e1 : IntKind.i64.wrap ((i : Int) + 1) = ((i + 1 : Nat) : Int) := by rw [w_i64]; omega
    have e2 : IntKind.i64.wrap ((i : Int) * 8) = ((8 * i : Nat) : Int) := by rw [w_i64]; omega
    have h1 : ltI ((8 * i : Nat) : Int) (((w.map wr).length - 0 : Nat) : Int) = true := ltI_t (by rw [List.length_map]; omega)
    have h2 : ltN (0 + 8 * i) (w.map wr).length = true := ltN_t (by rw [List.length_map]; omega)
    rw [lp37_1, ltI_t (by omega), e2, leI_t (show (0 : Int) ≤ ((8 * i : Nat) : Int) by omega), h1, Int.toNat_natCast, h2, e1, Nat.zero_add, set_wr]
    exact ih
theorem rep_wr (n : Nat) : List.replicate n [AV.v (.int .u64 0)] = (List.replicate n (0 : Int)).map wr := by rw [List.map_replicate]; rfl
theorem s_Formatted (L : Nat) (k : Int) (hL : 96 ≤ L ∧ L ≤ 256) (hk : 1 ≤ k ∧ k ≤ 5) : ev 37 [.v (.int .i64 k), .v (.int .i64 (L : Int))] = some [.ow false 29 1 ((fmt L k).map wr)] := by
  have e1 : IntKind.i64.wrap ((L : Int) * 8) = ((8 * L : Nat) : Int) := by rw [w_i64]; omega
  have ll : ∀ w : List Int, w.length = 8 * L → ltI 0 (((w.map wr).length - 0 : Nat) : Int) = true ∧ ltI 1 (((w.map wr).length - 0 : Nat) : Int) = true ∧ ltI 8 (((w.map wr).length - 0 : Nat) : Int) = true ∧ ltN 0 (w.map wr).length = true ∧ ltN 1 (w.map wr).length = true ∧ ltN 8 (w.map wr).length = true := fun w h => by
    rw [List.length_map]
    exact ⟨ltI_t (by omega), ltI_t (by omega), ltI_t (by omega), ltN_t (by omega), ltN_t (by omega), ltN_t (by omega)⟩
  obtain ⟨p1, p2, p3, p4, p5, p6⟩ := ll (List.replicate (8 * L) 0) (by simp)
  obtain ⟨q1, q2, q3, q4, q5, q6⟩ := ll ((List.replicate (8 * L) 0).set 0 1) (by simp)
  obtain ⟨r1, r2, r3, r4, r5, r6⟩ := ll (((List.replicate (8 * L) 0).set 0 1).set 1 1) (by simp)
  have f0 := l_R0 (L : Int) 6 0 ((((List.replicate (8 * L) 0).set 0 1).set 1 1).set 8 (4503599627370496 + 1099511627776 + ivl k)) rfl (by simp; omega) (by simp; omega)
  have f1 := l_R1 L hL (L - 96) 96 (drs 6 0 ((((List.replicate (8 * L) 0).set 0 1).set 1 1).set 8 (4503599627370496 + 1099511627776 + ivl k))) (by omega) (by rw [drs_len]; simp)
  have z0 : ((0 : Nat) : Int) = 0 := rfl
  have z9 : ((96 : Nat) : Int) = 96 := rfl
  have z8 : (8 : Int).toNat = 8 := rfl
  rw [z0] at f0
  rw [z9] at f1
  have g1 : leI 0 ((8 * L : Nat) : Int) = true := leI_t (by omega)
  have g2 : leI ((8 * L : Nat) : Int) ((8 * L : Nat) : Int) = true := leI_t (by omega)
  have g3 : leI (((8 * L : Nat) : Int) * 8) 281474976710656 = true := leI_t (by omega)
  have g4 : leI ((8 * L : Nat) : Int) 281474976710656 = true := leI_t (by omega)
  have lz : leI 0 8 = true := rfl
  rw [ev37]
  simp -implicitDefEqProofs only [some_bind', obCells_agg, obCells_ob, isOb_ok, isL_ok, isOw_ok, avXs_lst, avXs_ow, avNil_lst, avNil_ow, avNil_sl, avOff_sl, avCut_sl, isAgg_agg, nat_beq_self, List.length_cons, List.length_nil, Nat.reduceAdd, Nat.zero_add, isI_v, isB_v, isS_v, avInt_v, avBool_v, avStr_v, cellAt_zero, cellAt_succ, lget_zero, lget_succ, frAt_zero, frAt_succ, blAt_zero, blAt_succ, isEx_ok, isEx_ne, isEx_none, isRt_some, isRt_none, like_st, likeFG_nil, likeFG_cons, likeBG_nil, likeBG_obj, likeBG_row, likeSG_nil, likeSG_cons, likeT_nil, likeS_nil, isNP_nil, isNP_ob, likeT_ep, isEp_ep, epCells_ep, likeT_agg, likeT_int, likeT_bool, likeT_str, likeT_lst, likeT_sl0, likeT_sl1, likeT_ptr, likeS_int, likeS_bool, likeS_str, likeS_lst, likeS_sl0, likeS_sl1, likeS_ptr, isPtr_ok, isSl_0, isSl_1, beq_self_b, Bool.and_self, Bool.and_true, Bool.true_and, Bool.and_false, Bool.false_and, cond_true, cond_false, Bool.not_true, Bool.not_false, e1, g1, g2, g3, g4, Int.toNat_natCast, rep_wr, p1, p4, set_wr, q2, q5, s_RIV hk, s_RC0, lz, z8, r3, r6, r_cons hk]
  refine bnd f0 ?_
  simp -implicitDefEqProofs only [some_bind', obCells_agg, obCells_ob, isOb_ok, isL_ok, isOw_ok, avXs_lst, avXs_ow, avNil_lst, avNil_ow, avNil_sl, avOff_sl, avCut_sl, isAgg_agg, nat_beq_self, List.length_cons, List.length_nil, Nat.reduceAdd, Nat.zero_add, isI_v, isB_v, isS_v, avInt_v, avBool_v, avStr_v, cellAt_zero, cellAt_succ, lget_zero, lget_succ, frAt_zero, frAt_succ, blAt_zero, blAt_succ, isEx_ok, isEx_ne, isEx_none, isRt_some, isRt_none, like_st, likeFG_nil, likeFG_cons, likeBG_nil, likeBG_obj, likeBG_row, likeSG_nil, likeSG_cons, likeT_nil, likeS_nil, isNP_nil, isNP_ob, likeT_ep, isEp_ep, epCells_ep, likeT_agg, likeT_int, likeT_bool, likeT_str, likeT_lst, likeT_sl0, likeT_sl1, likeT_ptr, likeS_int, likeS_bool, likeS_str, likeS_lst, likeS_sl0, likeS_sl1, likeS_ptr, isPtr_ok, isSl_0, isSl_1, beq_self_b, Bool.and_self, Bool.and_true, Bool.true_and, Bool.and_false, Bool.false_and, cond_true, cond_false, Bool.not_true, Bool.not_false]
  refine bnd f1 ?_
  simp -implicitDefEqProofs only [some_bind', obCells_agg, obCells_ob, isOb_ok, isL_ok, isOw_ok, avXs_lst, avXs_ow, avNil_lst, avNil_ow, avNil_sl, avOff_sl, avCut_sl, isAgg_agg, nat_beq_self, List.length_cons, List.length_nil, Nat.reduceAdd, Nat.zero_add, isI_v, isB_v, isS_v, avInt_v, avBool_v, avStr_v, cellAt_zero, cellAt_succ, lget_zero, lget_succ, frAt_zero, frAt_succ, blAt_zero, blAt_succ, isEx_ok, isEx_ne, isEx_none, isRt_some, isRt_none, like_st, likeFG_nil, likeFG_cons, likeBG_nil, likeBG_obj, likeBG_row, likeSG_nil, likeSG_cons, likeT_nil, likeS_nil, isNP_nil, isNP_ob, likeT_ep, isEp_ep, epCells_ep, likeT_agg, likeT_int, likeT_bool, likeT_str, likeT_lst, likeT_sl0, likeT_sl1, likeT_ptr, likeS_int, likeS_bool, likeS_str, likeS_lst, likeS_sl0, likeS_sl1, likeS_ptr, isPtr_ok, isSl_0, isSl_1, beq_self_b, Bool.and_self, Bool.and_true, Bool.true_and, Bool.and_false, Bool.false_and, cond_true, cond_false, Bool.not_true, Bool.not_false]
  rfl
def fmtE (L : Nat) (k : Int) (dn : Bool) : Int := if k < 1 ∨ 5 < k then 1 else if L < 98 then 18 else if dn then 4 else 0
theorem s_Format (ws : List Int) (dn : Bool) (L : Nat) (k : Int) (hL : 1 ≤ L ∧ L ≤ 256) (hw : ws.length = 8 * L) : ev 35 [ndO ws dn, .v (.int .i64 k)] =
    some [.v (.int .i64 (fmtE L k dn)), ndO (if fmtE L k dn = 0 then fmt L k else ws) dn] := by
  unfold fmtE
  rw [ev35]
  by_cases hk : k < 1 ∨ 5 < k
  · rw [if_pos hk]
    refine bnd (s_IVbad hk) ?_
    rfl
  rw [if_neg hk]
  refine bnd (s_IV (by omega)) ?_
  have a := s_Lines false (ws.map wr) dn (by rw [List.length_map]; omega)
  rw [List.length_map, hw, show 8 * L / 8 = L by omega] at a
  simp -implicitDefEqProofs only [some_bind', obCells_agg, obCells_ob, isOb_ok, isL_ok, isOw_ok, avXs_lst, avXs_ow, avNil_lst, avNil_ow, avNil_sl, avOff_sl, avCut_sl, isAgg_agg, nat_beq_self, List.length_cons, List.length_nil, Nat.reduceAdd, Nat.zero_add, isI_v, isB_v, isS_v, avInt_v, avBool_v, avStr_v, cellAt_zero, cellAt_succ, lget_zero, lget_succ, frAt_zero, frAt_succ, blAt_zero, blAt_succ, isEx_ok, isEx_ne, isEx_none, isRt_some, isRt_none, like_st, likeFG_nil, likeFG_cons, likeBG_nil, likeBG_obj, likeBG_row, likeSG_nil, likeSG_cons, likeT_nil, likeS_nil, isNP_nil, isNP_ob, likeT_ep, isEp_ep, epCells_ep, likeT_agg, likeT_int, likeT_bool, likeT_str, likeT_lst, likeT_sl0, likeT_sl1, likeT_ptr, likeS_int, likeS_bool, likeS_str, likeS_lst, likeS_sl0, likeS_sl1, likeS_ptr, isPtr_ok, isSl_0, isSl_1, beq_self_b, Bool.and_self, Bool.and_true, Bool.true_and, Bool.and_false, Bool.false_and, cond_true, cond_false, Bool.not_true, Bool.not_false, Int.reduceBEq]
  refine bnd a ?_
  by_cases h98 : L < 98
  · rw [if_pos h98]
    simp -implicitDefEqProofs only [some_bind', obCells_agg, obCells_ob, isOb_ok, isL_ok, isOw_ok, avXs_lst, avXs_ow, avNil_lst, avNil_ow, avNil_sl, avOff_sl, avCut_sl, isAgg_agg, nat_beq_self, List.length_cons, List.length_nil, Nat.reduceAdd, Nat.zero_add, isI_v, isB_v, isS_v, avInt_v, avBool_v, avStr_v, cellAt_zero, cellAt_succ, lget_zero, lget_succ, frAt_zero, frAt_succ, blAt_zero, blAt_succ, isEx_ok, isEx_ne, isEx_none, isRt_some, isRt_none, like_st, likeFG_nil, likeFG_cons, likeBG_nil, likeBG_obj, likeBG_row, likeSG_nil, likeSG_cons, likeT_nil, likeS_nil, isNP_nil, isNP_ob, likeT_ep, isEp_ep, epCells_ep, likeT_agg, likeT_int, likeT_bool, likeT_str, likeT_lst, likeT_sl0, likeT_sl1, likeT_ptr, likeS_int, likeS_bool, likeS_str, likeS_lst, likeS_sl0, likeS_sl1, likeS_ptr, isPtr_ok, isSl_0, isSl_1, beq_self_b, Bool.and_self, Bool.and_true, Bool.true_and, Bool.and_false, Bool.false_and, cond_true, cond_false, Bool.not_true, Bool.not_false, ltI_t (show (L : Int) < 98 by omega)]
    rfl
  rw [if_neg h98]
  have u := s_Up false (ws.map wr) dn
  simp -implicitDefEqProofs only [some_bind', obCells_agg, obCells_ob, isOb_ok, isL_ok, isOw_ok, avXs_lst, avXs_ow, avNil_lst, avNil_ow, avNil_sl, avOff_sl, avCut_sl, isAgg_agg, nat_beq_self, List.length_cons, List.length_nil, Nat.reduceAdd, Nat.zero_add, isI_v, isB_v, isS_v, avInt_v, avBool_v, avStr_v, cellAt_zero, cellAt_succ, lget_zero, lget_succ, frAt_zero, frAt_succ, blAt_zero, blAt_succ, isEx_ok, isEx_ne, isEx_none, isRt_some, isRt_none, like_st, likeFG_nil, likeFG_cons, likeBG_nil, likeBG_obj, likeBG_row, likeSG_nil, likeSG_cons, likeT_nil, likeS_nil, isNP_nil, isNP_ob, likeT_ep, isEp_ep, epCells_ep, likeT_agg, likeT_int, likeT_bool, likeT_str, likeT_lst, likeT_sl0, likeT_sl1, likeT_ptr, likeS_int, likeS_bool, likeS_str, likeS_lst, likeS_sl0, likeS_sl1, likeS_ptr, isPtr_ok, isSl_0, isSl_1, beq_self_b, Bool.and_self, Bool.and_true, Bool.true_and, Bool.and_false, Bool.false_and, cond_true, cond_false, Bool.not_true, Bool.not_false, ltI_f (show (98 : Int) ≤ (L : Int) by omega), u]
  cases dn with
  | true => rfl
  | false =>
    have hwd : ev 30 [.v (.int .i64 (L : Int))] = some [.v (.int .i64 ((8 * L : Nat) : Int))] := by
      rw [ev30, ltI_f (by omega), ltI_f (by omega), show IntKind.i64.wrap ((L : Int) * 8) = ((8 * L : Nat) : Int) by rw [w_i64]; omega]; rfl
    have ll : ∀ w : List Int, w.length = 8 * L → ltI 0 (((w.map wr).length - 0 : Nat) : Int) = true ∧ ltI 1 (((w.map wr).length - 0 : Nat) : Int) = true ∧ ltI 8 (((w.map wr).length - 0 : Nat) : Int) = true ∧ ltN 0 (w.map wr).length = true ∧ ltN 1 (w.map wr).length = true ∧ ltN 8 (w.map wr).length = true := fun w h => by
      rw [List.length_map]
      exact ⟨ltI_t (by omega), ltI_t (by omega), ltI_t (by omega), ltN_t (by omega), ltN_t (by omega), ltN_t (by omega)⟩
    obtain ⟨p1, p2, p3, p4, p5, p6⟩ := ll (List.replicate (8 * L) 0) (by simp)
    obtain ⟨q1, q2, q3, q4, q5, q6⟩ := ll ((List.replicate (8 * L) 0).set 0 1) (by simp)
    obtain ⟨r1, r2, r3, r4, r5, r6⟩ := ll (((List.replicate (8 * L) 0).set 0 1).set 1 1) (by simp)
    have f0 := l_F0 false (ws.map wr) 6 0 ((((List.replicate (8 * L) 0).set 0 1).set 1 1).set 8 (4503599627370496 + 1099511627776 + ivl k)) rfl (by simp; omega) (by simp; omega)
    have f1 := l_F1 false ws L (by omega) hw (L - 96) 96 (drs 6 0 ((((List.replicate (8 * L) 0).set 0 1).set 1 1).set 8 (4503599627370496 + 1099511627776 + ivl k))) (by omega) (by omega) (by rw [drs_len]; simp)
    have z0 : ((0 : Nat) : Int) = 0 := rfl
    have z9 : ((96 : Nat) : Int) = 96 := rfl
    have z8 : (8 : Int).toNat = 8 := rfl
    rw [z0] at f0
    rw [z9] at f1
    have g1 : leI 0 ((8 * L : Nat) : Int) = true := leI_t (by omega)
    have g2 : leI ((8 * L : Nat) : Int) ((8 * L : Nat) : Int) = true := leI_t (by omega)
    have g3 : leI (((8 * L : Nat) : Int) * 8) 281474976710656 = true := leI_t (by omega)
    have g4 : leI ((8 * L : Nat) : Int) 281474976710656 = true := leI_t (by omega)
    have lz : leI 0 8 = true := rfl
    have hwr := s_Write ws false 0 false (fmt L k) (by omega) ⟨by decide, by decide⟩
    have hacc : acc ws.length (!false) 0 ((fmt L k).length : Int) = 0 := by rw [fmt_len, acc_ok (by omega) (by omega) (by omega)]; rfl
    rw [hacc, if_pos rfl] at hwr
    have hsp : splice ws (0 : Int).toNat (fmt L k) = fmt L k := by
      unfold splice
      rw [show (0 : Int).toNat = 0 from rfl, List.take_zero, List.nil_append, List.drop_of_length_le (by rw [fmt_len]; omega), List.append_nil]
    rw [hsp] at hwr
    simp -implicitDefEqProofs only [some_bind', obCells_agg, obCells_ob, isOb_ok, isL_ok, isOw_ok, avXs_lst, avXs_ow, avNil_lst, avNil_ow, avNil_sl, avOff_sl, avCut_sl, isAgg_agg, nat_beq_self, List.length_cons, List.length_nil, Nat.reduceAdd, Nat.zero_add, isI_v, isB_v, isS_v, avInt_v, avBool_v, avStr_v, cellAt_zero, cellAt_succ, lget_zero, lget_succ, frAt_zero, frAt_succ, blAt_zero, blAt_succ, isEx_ok, isEx_ne, isEx_none, isRt_some, isRt_none, like_st, likeFG_nil, likeFG_cons, likeBG_nil, likeBG_obj, likeBG_row, likeSG_nil, likeSG_cons, likeT_nil, likeS_nil, isNP_nil, isNP_ob, likeT_ep, isEp_ep, epCells_ep, likeT_agg, likeT_int, likeT_bool, likeT_str, likeT_lst, likeT_sl0, likeT_sl1, likeT_ptr, likeS_int, likeS_bool, likeS_str, likeS_lst, likeS_sl0, likeS_sl1, likeS_ptr, isPtr_ok, isSl_0, isSl_1, beq_self_b, Bool.and_self, Bool.and_true, Bool.true_and, Bool.and_false, Bool.false_and, cond_true, cond_false, Bool.not_true, Bool.not_false, a, hwd, g1, g2, g3, g4, Int.toNat_natCast, rep_wr, s_Key, p1, p4, set_wr, q2, q5, s_C0, s_Cons (show 1 ≤ k ∧ k ≤ 5 by omega), lz, z8, r3, r6]
    refine bnd f0 ?_
    simp -implicitDefEqProofs only [some_bind', obCells_agg, obCells_ob, isOb_ok, isL_ok, isOw_ok, avXs_lst, avXs_ow, avNil_lst, avNil_ow, avNil_sl, avOff_sl, avCut_sl, isAgg_agg, nat_beq_self, List.length_cons, List.length_nil, Nat.reduceAdd, Nat.zero_add, isI_v, isB_v, isS_v, avInt_v, avBool_v, avStr_v, cellAt_zero, cellAt_succ, lget_zero, lget_succ, frAt_zero, frAt_succ, blAt_zero, blAt_succ, isEx_ok, isEx_ne, isEx_none, isRt_some, isRt_none, like_st, likeFG_nil, likeFG_cons, likeBG_nil, likeBG_obj, likeBG_row, likeSG_nil, likeSG_cons, likeT_nil, likeS_nil, isNP_nil, isNP_ob, likeT_ep, isEp_ep, epCells_ep, likeT_agg, likeT_int, likeT_bool, likeT_str, likeT_lst, likeT_sl0, likeT_sl1, likeT_ptr, likeS_int, likeS_bool, likeS_str, likeS_lst, likeS_sl0, likeS_sl1, likeS_ptr, isPtr_ok, isSl_0, isSl_1, beq_self_b, Bool.and_self, Bool.and_true, Bool.true_and, Bool.and_false, Bool.false_and, cond_true, cond_false, Bool.not_true, Bool.not_false]
    refine bnd f1 ?_
    simp -implicitDefEqProofs only [some_bind', obCells_agg, obCells_ob, isOb_ok, isL_ok, isOw_ok, avXs_lst, avXs_ow, avNil_lst, avNil_ow, avNil_sl, avOff_sl, avCut_sl, isAgg_agg, nat_beq_self, List.length_cons, List.length_nil, Nat.reduceAdd, Nat.zero_add, isI_v, isB_v, isS_v, avInt_v, avBool_v, avStr_v, cellAt_zero, cellAt_succ, lget_zero, lget_succ, frAt_zero, frAt_succ, blAt_zero, blAt_succ, isEx_ok, isEx_ne, isEx_none, isRt_some, isRt_none, like_st, likeFG_nil, likeFG_cons, likeBG_nil, likeBG_obj, likeBG_row, likeSG_nil, likeSG_cons, likeT_nil, likeS_nil, isNP_nil, isNP_ob, likeT_ep, isEp_ep, epCells_ep, likeT_agg, likeT_int, likeT_bool, likeT_str, likeT_lst, likeT_sl0, likeT_sl1, likeT_ptr, likeS_int, likeS_bool, likeS_str, likeS_lst, likeS_sl0, likeS_sl1, likeS_ptr, isPtr_ok, isSl_0, isSl_1, beq_self_b, Bool.and_self, Bool.and_true, Bool.true_and, Bool.and_false, Bool.false_and, cond_true, cond_false, Bool.not_true, Bool.not_false]
    refine bnd hwr ?_
    simp -implicitDefEqProofs only [some_bind', obCells_agg, obCells_ob, isOb_ok, isL_ok, isOw_ok, avXs_lst, avXs_ow, avNil_lst, avNil_ow, avNil_sl, avOff_sl, avCut_sl, isAgg_agg, nat_beq_self, List.length_cons, List.length_nil, Nat.reduceAdd, Nat.zero_add, isI_v, isB_v, isS_v, avInt_v, avBool_v, avStr_v, cellAt_zero, cellAt_succ, lget_zero, lget_succ, frAt_zero, frAt_succ, blAt_zero, blAt_succ, isEx_ok, isEx_ne, isEx_none, isRt_some, isRt_none, like_st, likeFG_nil, likeFG_cons, likeBG_nil, likeBG_obj, likeBG_row, likeSG_nil, likeSG_cons, likeT_nil, likeS_nil, isNP_nil, isNP_ob, likeT_ep, isEp_ep, epCells_ep, likeT_agg, likeT_int, likeT_bool, likeT_str, likeT_lst, likeT_sl0, likeT_sl1, likeT_ptr, likeS_int, likeS_bool, likeS_str, likeS_lst, likeS_sl0, likeS_sl1, likeS_ptr, isPtr_ok, isSl_0, isSl_1, beq_self_b, Bool.and_self, Bool.and_true, Bool.true_and, Bool.and_false, Bool.false_and, cond_true, cond_false, Bool.not_true, Bool.not_false, likeG_nil, likeG_cons, likeB_ow, likeB_bool, all_wr, Bool.false_or]
    rfl
theorem s_awake7 : ev 8 [] = some [.v (.bool true)] := evL_of (n := 12) (by kernel_rfl)
end Go.Proofs.Ytniocbmadbaojaa
