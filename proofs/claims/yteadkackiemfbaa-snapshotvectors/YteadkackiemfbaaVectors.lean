/- SnapshotVectors holds for every input. No conditions. -/
import Derived.Test.YteadkackiemfbaaOrder
set_option linter.all false
namespace Go.Proofs.Yteadkackiemfbaa
open Go.Ev
attribute [local congr] bind_first cond_first
def urow (i : Int) : List AV := [.v (.int .u64 i)]
theorem urow_eq (i : Int) : urow i = [.v (.int .u64 i)] := rfl
def vset (v : Vc) (i : Nat) (w : Int) : Vc := ⟨cond (Nat.beq i 0) w v.c0, cond (Nat.beq i 1) w v.c1, cond (Nat.beq i 2) w v.c2, cond (Nat.beq i 3) w v.c3, cond (Nat.beq i 4) w v.c4, cond (Nat.beq i 5) w v.c5⟩
def ofk (ws : List Int) : Nat → Nat → Vc → Option Vc
  | 0, _, v => some v
  | j + 1, k, v =>
    cond (ltI (k : Int) 6) (cond (ltI (ws.getD k 0) 1073741824) (ofk ws j (k + 1) (vset v k (ws.getD k 0))) none)
      (cond (ws.getD k 0 == 0) (ofk ws j (k + 1) v) none)
abbrev vz : Vc := ⟨0, 0, 0, 0, 0, 0⟩
def of11 (o : Option Vc) : LR := match o with
  | some v => ⟨some 0, ⟨[(2, (.ptr 0 0 0)), (4, (.ptr 1 0 0))], [vb 0 0 0 0 0 0, ⟨1, 24, 6, true, [v.row]⟩]⟩, []⟩
  | none => ⟨none, ⟨[], []⟩, [.agg (vcl 0 0 0 0 0 0), .v (.int .i64 14)]⟩
abbrev vb2 (a b c d e f : Int) : Blk := ⟨1, 35, 6, true, [vcl a b c d e f]⟩
def of12 (o : Option Vc) : LR := match o with
  | some v => ⟨some 0, ⟨[(2, (.ptr 0 0 0)), (4, (.ptr 1 0 0))], [vb2 0 0 0 0 0 0, ⟨1, 35, 6, true, [v.row]⟩]⟩, []⟩
  | none => ⟨none, ⟨[], []⟩, [.agg (vcl 0 0 0 0 0 0), .v (.int .i64 14)]⟩
theorem l_Of (ws : List Int) (b : Bool) (hl : ws.length ≤ 1000) : ∀ (j k : Nat) (v : Vc), j + k = ws.length →
    lp 11 0 0 ⟨[(2, (.ptr 0 0 0)), (4, (.ptr 1 0 0)), (11, (.lst b 1 (ws.map urow))), (12, (.v (.int .i64 ((ws.length : Nat) : Int)))), (13, (.v (.int .i64 (k : Int))))], [vb 0 0 0 0 0 0, ⟨1, 24, 6, true, [v.row]⟩]⟩ = some (of11 (ofk ws j k v))
  | 0, k, v, hk => by
    rw [Vc.row_eq, lp11_0, ltI_f (by omega)]; rfl
  | j + 1, k, v, hk => by
    have e2 : lget (ws.map urow) k = urow (ws.getD k 0) := lget_mapD urow ws 0 k (by omega)
    have e3 : IntKind.i64.wrap ((k : Int) + 1) = ((k + 1 : Nat) : Int) := by rw [w_i64]; omega
    have i1 := l_Of ws b hl j (k + 1) v (by omega)
    have i2 := l_Of ws b hl j (k + 1) (vset v k (ws.getD k 0)) (by omega)
    rw [Vc.row_eq] at i1
    rw [Vc.row_eq] at i2
    rw [Vc.row_eq, lp11_0, ofk]
    generalize ws.getD k 0 = w at *
    cases h1 : ltI (k : Int) 6 with
    | true =>
      cases h2 : ltI w 1073741824 with
      | true =>
        simp -implicitDefEqProofs only [some_bind', obCells_agg, obCells_ob, isOb_ok, isL_ok, isOw_ok, avXs_lst, avXs_ow, avNil_lst, avNil_ow, avNil_sl, avOff_sl, avCut_sl, isAgg_agg, nat_beq_self, List.length_cons, List.length_nil, Nat.reduceAdd, Nat.zero_add, isI_v, isB_v, isS_v, avInt_v, avBool_v, avStr_v, cellAt_zero, cellAt_succ, lget_zero, lget_succ, frAt_zero, frAt_succ, blAt_zero, blAt_succ, isEx_ok, isEx_ne, isEx_none, isRt_some, isRt_none, like_st, likeFG_nil, likeFG_cons, likeBG_nil, likeBG_obj, likeBG_row, likeSG_nil, likeSG_cons, likeT_nil, likeS_nil, isNP_nil, isNP_ob, likeT_ep, isEp_ep, epCells_ep, likeT_agg, likeT_int, likeT_bool, likeT_str, likeT_lst, likeT_sl0, likeT_sl1, likeT_ptr, likeS_int, likeS_bool, likeS_str, likeS_lst, likeS_sl0, likeS_sl1, likeS_ptr, isPtr_ok, isSl_0, isSl_1, beq_self_b, Bool.and_self, Bool.and_true, Bool.true_and, Bool.and_false, Bool.false_and, cond_true, cond_false, Bool.not_true, Bool.not_false, ltI_t (show (k : Int) < (ws.length : Int) by omega), leI_t (show (0 : Int) ≤ (k : Int) by omega), List.length_map, Int.toNat_natCast, e2, urow_eq, e3, h1, h2]
        exact i2
      | false => simp -implicitDefEqProofs only [some_bind', obCells_agg, obCells_ob, isOb_ok, isL_ok, isOw_ok, avXs_lst, avXs_ow, avNil_lst, avNil_ow, avNil_sl, avOff_sl, avCut_sl, isAgg_agg, nat_beq_self, List.length_cons, List.length_nil, Nat.reduceAdd, Nat.zero_add, isI_v, isB_v, isS_v, avInt_v, avBool_v, avStr_v, cellAt_zero, cellAt_succ, lget_zero, lget_succ, frAt_zero, frAt_succ, blAt_zero, blAt_succ, isEx_ok, isEx_ne, isEx_none, isRt_some, isRt_none, like_st, likeFG_nil, likeFG_cons, likeBG_nil, likeBG_obj, likeBG_row, likeSG_nil, likeSG_cons, likeT_nil, likeS_nil, isNP_nil, isNP_ob, likeT_ep, isEp_ep, epCells_ep, likeT_agg, likeT_int, likeT_bool, likeT_str, likeT_lst, likeT_sl0, likeT_sl1, likeT_ptr, likeS_int, likeS_bool, likeS_str, likeS_lst, likeS_sl0, likeS_sl1, likeS_ptr, isPtr_ok, isSl_0, isSl_1, beq_self_b, Bool.and_self, Bool.and_true, Bool.true_and, Bool.and_false, Bool.false_and, cond_true, cond_false, Bool.not_true, Bool.not_false, ltI_t (show (k : Int) < (ws.length : Int) by omega), leI_t (show (0 : Int) ≤ (k : Int) by omega), List.length_map, Int.toNat_natCast, e2, urow_eq, e3, h1, h2]; rfl
    | false =>
      cases h2 : (w == 0) with
      | true => simp -implicitDefEqProofs only [some_bind', obCells_agg, obCells_ob, isOb_ok, isL_ok, isOw_ok, avXs_lst, avXs_ow, avNil_lst, avNil_ow, avNil_sl, avOff_sl, avCut_sl, isAgg_agg, nat_beq_self, List.length_cons, List.length_nil, Nat.reduceAdd, Nat.zero_add, isI_v, isB_v, isS_v, avInt_v, avBool_v, avStr_v, cellAt_zero, cellAt_succ, lget_zero, lget_succ, frAt_zero, frAt_succ, blAt_zero, blAt_succ, isEx_ok, isEx_ne, isEx_none, isRt_some, isRt_none, like_st, likeFG_nil, likeFG_cons, likeBG_nil, likeBG_obj, likeBG_row, likeSG_nil, likeSG_cons, likeT_nil, likeS_nil, isNP_nil, isNP_ob, likeT_ep, isEp_ep, epCells_ep, likeT_agg, likeT_int, likeT_bool, likeT_str, likeT_lst, likeT_sl0, likeT_sl1, likeT_ptr, likeS_int, likeS_bool, likeS_str, likeS_lst, likeS_sl0, likeS_sl1, likeS_ptr, isPtr_ok, isSl_0, isSl_1, beq_self_b, Bool.and_self, Bool.and_true, Bool.true_and, Bool.and_false, Bool.false_and, cond_true, cond_false, Bool.not_true, Bool.not_false, ltI_t (show (k : Int) < (ws.length : Int) by omega), leI_t (show (0 : Int) ≤ (k : Int) by omega), List.length_map, Int.toNat_natCast, e2, urow_eq, e3, h1, h2]; exact i1
      | false => simp -implicitDefEqProofs only [some_bind', obCells_agg, obCells_ob, isOb_ok, isL_ok, isOw_ok, avXs_lst, avXs_ow, avNil_lst, avNil_ow, avNil_sl, avOff_sl, avCut_sl, isAgg_agg, nat_beq_self, List.length_cons, List.length_nil, Nat.reduceAdd, Nat.zero_add, isI_v, isB_v, isS_v, avInt_v, avBool_v, avStr_v, cellAt_zero, cellAt_succ, lget_zero, lget_succ, frAt_zero, frAt_succ, blAt_zero, blAt_succ, isEx_ok, isEx_ne, isEx_none, isRt_some, isRt_none, like_st, likeFG_nil, likeFG_cons, likeBG_nil, likeBG_obj, likeBG_row, likeSG_nil, likeSG_cons, likeT_nil, likeS_nil, isNP_nil, isNP_ob, likeT_ep, isEp_ep, epCells_ep, likeT_agg, likeT_int, likeT_bool, likeT_str, likeT_lst, likeT_sl0, likeT_sl1, likeT_ptr, likeS_int, likeS_bool, likeS_str, likeS_lst, likeS_sl0, likeS_sl1, likeS_ptr, isPtr_ok, isSl_0, isSl_1, beq_self_b, Bool.and_self, Bool.and_true, Bool.true_and, Bool.and_false, Bool.false_and, cond_true, cond_false, Bool.not_true, Bool.not_false, ltI_t (show (k : Int) < (ws.length : Int) by omega), leI_t (show (0 : Int) ≤ (k : Int) by omega), List.length_map, Int.toNat_natCast, e2, urow_eq, e3, h1, h2]; rfl
theorem l_VectorOf (ws : List Int) (b : Bool) (hl : ws.length ≤ 1000) : ∀ (j k : Nat) (v : Vc), j + k = ws.length →
    lp 12 0 0 ⟨[(0, (.lst b 1 (ws.map urow))), (2, (.ptr 0 0 0)), (4, (.ptr 1 0 0)), (5, (.v (.int .i64 (k : Int))))], [vb2 0 0 0 0 0 0, ⟨1, 35, 6, true, [v.row]⟩]⟩ = some (of12 (ofk ws j k v))
  | 0, k, v, hk => by
    rw [Vc.row_eq, lp12_0, List.length_map, ltI_f (by omega)]; rfl
  | j + 1, k, v, hk => by
    have e2 : lget (ws.map urow) k = urow (ws.getD k 0) := lget_mapD urow ws 0 k (by omega)
    have e3 : IntKind.i64.wrap ((k : Int) + 1) = ((k + 1 : Nat) : Int) := by rw [w_i64]; omega
    have i1 := l_VectorOf ws b hl j (k + 1) v (by omega)
    have i2 := l_VectorOf ws b hl j (k + 1) (vset v k (ws.getD k 0)) (by omega)
    rw [Vc.row_eq] at i1
    rw [Vc.row_eq] at i2
    rw [Vc.row_eq, lp12_0, ofk]
    generalize ws.getD k 0 = w at *
    cases h1 : ltI (k : Int) 6 with
    | true =>
      have h3 : leI 6 (k : Int) = false := leI_f (ltI_iff.1 h1)
      cases h2 : ltI w 1073741824 with
      | true =>
        have h4 : leI 1073741824 w = false := leI_f (ltI_iff.1 h2)
        simp -implicitDefEqProofs only [some_bind', obCells_agg, obCells_ob, isOb_ok, isL_ok, isOw_ok, avXs_lst, avXs_ow, avNil_lst, avNil_ow, avNil_sl, avOff_sl, avCut_sl, isAgg_agg, nat_beq_self, List.length_cons, List.length_nil, Nat.reduceAdd, Nat.zero_add, isI_v, isB_v, isS_v, avInt_v, avBool_v, avStr_v, cellAt_zero, cellAt_succ, lget_zero, lget_succ, frAt_zero, frAt_succ, blAt_zero, blAt_succ, isEx_ok, isEx_ne, isEx_none, isRt_some, isRt_none, like_st, likeFG_nil, likeFG_cons, likeBG_nil, likeBG_obj, likeBG_row, likeSG_nil, likeSG_cons, likeT_nil, likeS_nil, isNP_nil, isNP_ob, likeT_ep, isEp_ep, epCells_ep, likeT_agg, likeT_int, likeT_bool, likeT_str, likeT_lst, likeT_sl0, likeT_sl1, likeT_ptr, likeS_int, likeS_bool, likeS_str, likeS_lst, likeS_sl0, likeS_sl1, likeS_ptr, isPtr_ok, isSl_0, isSl_1, beq_self_b, Bool.and_self, Bool.and_true, Bool.true_and, Bool.and_false, Bool.false_and, cond_true, cond_false, Bool.not_true, Bool.not_false, ltI_t (show (k : Int) < (ws.length : Int) by omega), leI_t (show (0 : Int) ≤ (k : Int) by omega), List.length_map, Int.toNat_natCast, e2, urow_eq, e3, h1, h2, h3, h4]
        exact i2
      | false =>
        have h4 : leI 1073741824 w = true := by
          rcases Int.lt_or_le w 1073741824 with h | h
          · rw [ltI_t h] at h2; cases h2
          · exact leI_t h
        simp -implicitDefEqProofs only [some_bind', obCells_agg, obCells_ob, isOb_ok, isL_ok, isOw_ok, avXs_lst, avXs_ow, avNil_lst, avNil_ow, avNil_sl, avOff_sl, avCut_sl, isAgg_agg, nat_beq_self, List.length_cons, List.length_nil, Nat.reduceAdd, Nat.zero_add, isI_v, isB_v, isS_v, avInt_v, avBool_v, avStr_v, cellAt_zero, cellAt_succ, lget_zero, lget_succ, frAt_zero, frAt_succ, blAt_zero, blAt_succ, isEx_ok, isEx_ne, isEx_none, isRt_some, isRt_none, like_st, likeFG_nil, likeFG_cons, likeBG_nil, likeBG_obj, likeBG_row, likeSG_nil, likeSG_cons, likeT_nil, likeS_nil, isNP_nil, isNP_ob, likeT_ep, isEp_ep, epCells_ep, likeT_agg, likeT_int, likeT_bool, likeT_str, likeT_lst, likeT_sl0, likeT_sl1, likeT_ptr, likeS_int, likeS_bool, likeS_str, likeS_lst, likeS_sl0, likeS_sl1, likeS_ptr, isPtr_ok, isSl_0, isSl_1, beq_self_b, Bool.and_self, Bool.and_true, Bool.true_and, Bool.and_false, Bool.false_and, cond_true, cond_false, Bool.not_true, Bool.not_false, ltI_t (show (k : Int) < (ws.length : Int) by omega), leI_t (show (0 : Int) ≤ (k : Int) by omega), List.length_map, Int.toNat_natCast, e2, urow_eq, e3, h1, h2, h3, h4]; rfl
    | false =>
      have h3 : leI 6 (k : Int) = true := by
        rcases Int.lt_or_le (k : Int) 6 with h | h
        · rw [ltI_t h] at h1; cases h1
        · exact leI_t h
      cases h2 : (w == 0) with
      | true => simp -implicitDefEqProofs only [some_bind', obCells_agg, obCells_ob, isOb_ok, isL_ok, isOw_ok, avXs_lst, avXs_ow, avNil_lst, avNil_ow, avNil_sl, avOff_sl, avCut_sl, isAgg_agg, nat_beq_self, List.length_cons, List.length_nil, Nat.reduceAdd, Nat.zero_add, isI_v, isB_v, isS_v, avInt_v, avBool_v, avStr_v, cellAt_zero, cellAt_succ, lget_zero, lget_succ, frAt_zero, frAt_succ, blAt_zero, blAt_succ, isEx_ok, isEx_ne, isEx_none, isRt_some, isRt_none, like_st, likeFG_nil, likeFG_cons, likeBG_nil, likeBG_obj, likeBG_row, likeSG_nil, likeSG_cons, likeT_nil, likeS_nil, isNP_nil, isNP_ob, likeT_ep, isEp_ep, epCells_ep, likeT_agg, likeT_int, likeT_bool, likeT_str, likeT_lst, likeT_sl0, likeT_sl1, likeT_ptr, likeS_int, likeS_bool, likeS_str, likeS_lst, likeS_sl0, likeS_sl1, likeS_ptr, isPtr_ok, isSl_0, isSl_1, beq_self_b, Bool.and_self, Bool.and_true, Bool.true_and, Bool.and_false, Bool.false_and, cond_true, cond_false, Bool.not_true, Bool.not_false, ltI_t (show (k : Int) < (ws.length : Int) by omega), leI_t (show (0 : Int) ≤ (k : Int) by omega), List.length_map, Int.toNat_natCast, e2, urow_eq, e3, h1, h2, h3]; exact i1
      | false => simp -implicitDefEqProofs only [some_bind', obCells_agg, obCells_ob, isOb_ok, isL_ok, isOw_ok, avXs_lst, avXs_ow, avNil_lst, avNil_ow, avNil_sl, avOff_sl, avCut_sl, isAgg_agg, nat_beq_self, List.length_cons, List.length_nil, Nat.reduceAdd, Nat.zero_add, isI_v, isB_v, isS_v, avInt_v, avBool_v, avStr_v, cellAt_zero, cellAt_succ, lget_zero, lget_succ, frAt_zero, frAt_succ, blAt_zero, blAt_succ, isEx_ok, isEx_ne, isEx_none, isRt_some, isRt_none, like_st, likeFG_nil, likeFG_cons, likeBG_nil, likeBG_obj, likeBG_row, likeSG_nil, likeSG_cons, likeT_nil, likeS_nil, isNP_nil, isNP_ob, likeT_ep, isEp_ep, epCells_ep, likeT_agg, likeT_int, likeT_bool, likeT_str, likeT_lst, likeT_sl0, likeT_sl1, likeT_ptr, likeS_int, likeS_bool, likeS_str, likeS_lst, likeS_sl0, likeS_sl1, likeS_ptr, isPtr_ok, isSl_0, isSl_1, beq_self_b, Bool.and_self, Bool.and_true, Bool.true_and, Bool.and_false, Bool.false_and, cond_true, cond_false, Bool.not_true, Bool.not_false, ltI_t (show (k : Int) < (ws.length : Int) by omega), leI_t (show (0 : Int) ≤ (k : Int) by omega), List.length_map, Int.toNat_natCast, e2, urow_eq, e3, h1, h2, h3]; rfl
def ofR (ws : List Int) : Vc × Int := if (ws.length : Int) = 8 then (match ofk ws ws.length 0 vz with | some v => (v, 0) | none => (vz, 14)) else (vz, 1)
theorem s_Of (ws : List Int) (b : Bool) (hl : ws.length ≤ 1000) : ev 11 [.lst b 1 (ws.map urow)] = some [.agg (ofR ws).1.row, .v (.int .i64 (ofR ws).2)] := by
  rw [ev11, List.length_map]
  unfold ofR
  by_cases h : (ws.length : Int) = 8
  · rw [if_pos h, show ((ws.length : Int) == 8) = true by simp [h]]
    have := l_Of ws b hl ws.length 0 vz (by omega)
    simp only [Vc.row_eq, show ((0 : Nat) : Int) = 0 from rfl] at this
    simp -implicitDefEqProofs only [some_bind', obCells_agg, obCells_ob, isOb_ok, isL_ok, isOw_ok, avXs_lst, avXs_ow, avNil_lst, avNil_ow, avNil_sl, avOff_sl, avCut_sl, isAgg_agg, nat_beq_self, List.length_cons, List.length_nil, Nat.reduceAdd, Nat.zero_add, isI_v, isB_v, isS_v, avInt_v, avBool_v, avStr_v, cellAt_zero, cellAt_succ, lget_zero, lget_succ, frAt_zero, frAt_succ, blAt_zero, blAt_succ, isEx_ok, isEx_ne, isEx_none, isRt_some, isRt_none, like_st, likeFG_nil, likeFG_cons, likeBG_nil, likeBG_obj, likeBG_row, likeSG_nil, likeSG_cons, likeT_nil, likeS_nil, isNP_nil, isNP_ob, likeT_ep, isEp_ep, epCells_ep, likeT_agg, likeT_int, likeT_bool, likeT_str, likeT_lst, likeT_sl0, likeT_sl1, likeT_ptr, likeS_int, likeS_bool, likeS_str, likeS_lst, likeS_sl0, likeS_sl1, likeS_ptr, isPtr_ok, isSl_0, isSl_1, beq_self_b, Bool.and_self, Bool.and_true, Bool.true_and, Bool.and_false, Bool.false_and, cond_true, cond_false, Bool.not_true, Bool.not_false, this]
    cases ofk ws ws.length 0 vz with
    | none => simp -implicitDefEqProofs only [some_bind', obCells_agg, obCells_ob, isOb_ok, isL_ok, isOw_ok, avXs_lst, avXs_ow, avNil_lst, avNil_ow, avNil_sl, avOff_sl, avCut_sl, isAgg_agg, nat_beq_self, List.length_cons, List.length_nil, Nat.reduceAdd, Nat.zero_add, isI_v, isB_v, isS_v, avInt_v, avBool_v, avStr_v, cellAt_zero, cellAt_succ, lget_zero, lget_succ, frAt_zero, frAt_succ, blAt_zero, blAt_succ, isEx_ok, isEx_ne, isEx_none, isRt_some, isRt_none, like_st, likeFG_nil, likeFG_cons, likeBG_nil, likeBG_obj, likeBG_row, likeSG_nil, likeSG_cons, likeT_nil, likeS_nil, isNP_nil, isNP_ob, likeT_ep, isEp_ep, epCells_ep, likeT_agg, likeT_int, likeT_bool, likeT_str, likeT_lst, likeT_sl0, likeT_sl1, likeT_ptr, likeS_int, likeS_bool, likeS_str, likeS_lst, likeS_sl0, likeS_sl1, likeS_ptr, isPtr_ok, isSl_0, isSl_1, beq_self_b, Bool.and_self, Bool.and_true, Bool.true_and, Bool.and_false, Bool.false_and, cond_true, cond_false, Bool.not_true, Bool.not_false, of11]; rfl
    | some v => simp -implicitDefEqProofs only [some_bind', obCells_agg, obCells_ob, isOb_ok, isL_ok, isOw_ok, avXs_lst, avXs_ow, avNil_lst, avNil_ow, avNil_sl, avOff_sl, avCut_sl, isAgg_agg, nat_beq_self, List.length_cons, List.length_nil, Nat.reduceAdd, Nat.zero_add, isI_v, isB_v, isS_v, avInt_v, avBool_v, avStr_v, cellAt_zero, cellAt_succ, lget_zero, lget_succ, frAt_zero, frAt_succ, blAt_zero, blAt_succ, isEx_ok, isEx_ne, isEx_none, isRt_some, isRt_none, like_st, likeFG_nil, likeFG_cons, likeBG_nil, likeBG_obj, likeBG_row, likeSG_nil, likeSG_cons, likeT_nil, likeS_nil, isNP_nil, isNP_ob, likeT_ep, isEp_ep, epCells_ep, likeT_agg, likeT_int, likeT_bool, likeT_str, likeT_lst, likeT_sl0, likeT_sl1, likeT_ptr, likeS_int, likeS_bool, likeS_str, likeS_lst, likeS_sl0, likeS_sl1, likeS_ptr, isPtr_ok, isSl_0, isSl_1, beq_self_b, Bool.and_self, Bool.and_true, Bool.true_and, Bool.and_false, Bool.false_and, cond_true, cond_false, Bool.not_true, Bool.not_false, of11, Vc.row_eq]
  · rw [if_neg h, show ((ws.length : Int) == 8) = false by simp [h]]; rfl
theorem s_VectorOf (ws : List Int) (b : Bool) (hl : ws.length ≤ 1000) : ev 12 [.lst b 1 (ws.map urow)] = some [.agg (ofR ws).1.row, .v (.int .i64 (ofR ws).2)] := by
  rw [ev12, List.length_map]
  unfold ofR
  by_cases h : (ws.length : Int) = 8
  · rw [if_pos h, show ((ws.length : Int) == 8) = true by simp [h]]
    have := l_VectorOf ws b hl ws.length 0 vz (by omega)
    simp only [Vc.row_eq, show ((0 : Nat) : Int) = 0 from rfl] at this
    simp -implicitDefEqProofs only [some_bind', obCells_agg, obCells_ob, isOb_ok, isL_ok, isOw_ok, avXs_lst, avXs_ow, avNil_lst, avNil_ow, avNil_sl, avOff_sl, avCut_sl, isAgg_agg, nat_beq_self, List.length_cons, List.length_nil, Nat.reduceAdd, Nat.zero_add, isI_v, isB_v, isS_v, avInt_v, avBool_v, avStr_v, cellAt_zero, cellAt_succ, lget_zero, lget_succ, frAt_zero, frAt_succ, blAt_zero, blAt_succ, isEx_ok, isEx_ne, isEx_none, isRt_some, isRt_none, like_st, likeFG_nil, likeFG_cons, likeBG_nil, likeBG_obj, likeBG_row, likeSG_nil, likeSG_cons, likeT_nil, likeS_nil, isNP_nil, isNP_ob, likeT_ep, isEp_ep, epCells_ep, likeT_agg, likeT_int, likeT_bool, likeT_str, likeT_lst, likeT_sl0, likeT_sl1, likeT_ptr, likeS_int, likeS_bool, likeS_str, likeS_lst, likeS_sl0, likeS_sl1, likeS_ptr, isPtr_ok, isSl_0, isSl_1, beq_self_b, Bool.and_self, Bool.and_true, Bool.true_and, Bool.and_false, Bool.false_and, cond_true, cond_false, Bool.not_true, Bool.not_false, this]
    cases ofk ws ws.length 0 vz with
    | none => simp -implicitDefEqProofs only [some_bind', obCells_agg, obCells_ob, isOb_ok, isL_ok, isOw_ok, avXs_lst, avXs_ow, avNil_lst, avNil_ow, avNil_sl, avOff_sl, avCut_sl, isAgg_agg, nat_beq_self, List.length_cons, List.length_nil, Nat.reduceAdd, Nat.zero_add, isI_v, isB_v, isS_v, avInt_v, avBool_v, avStr_v, cellAt_zero, cellAt_succ, lget_zero, lget_succ, frAt_zero, frAt_succ, blAt_zero, blAt_succ, isEx_ok, isEx_ne, isEx_none, isRt_some, isRt_none, like_st, likeFG_nil, likeFG_cons, likeBG_nil, likeBG_obj, likeBG_row, likeSG_nil, likeSG_cons, likeT_nil, likeS_nil, isNP_nil, isNP_ob, likeT_ep, isEp_ep, epCells_ep, likeT_agg, likeT_int, likeT_bool, likeT_str, likeT_lst, likeT_sl0, likeT_sl1, likeT_ptr, likeS_int, likeS_bool, likeS_str, likeS_lst, likeS_sl0, likeS_sl1, likeS_ptr, isPtr_ok, isSl_0, isSl_1, beq_self_b, Bool.and_self, Bool.and_true, Bool.true_and, Bool.and_false, Bool.false_and, cond_true, cond_false, Bool.not_true, Bool.not_false, of12]; rfl
    | some v => simp -implicitDefEqProofs only [some_bind', obCells_agg, obCells_ob, isOb_ok, isL_ok, isOw_ok, avXs_lst, avXs_ow, avNil_lst, avNil_ow, avNil_sl, avOff_sl, avCut_sl, isAgg_agg, nat_beq_self, List.length_cons, List.length_nil, Nat.reduceAdd, Nat.zero_add, isI_v, isB_v, isS_v, avInt_v, avBool_v, avStr_v, cellAt_zero, cellAt_succ, lget_zero, lget_succ, frAt_zero, frAt_succ, blAt_zero, blAt_succ, isEx_ok, isEx_ne, isEx_none, isRt_some, isRt_none, like_st, likeFG_nil, likeFG_cons, likeBG_nil, likeBG_obj, likeBG_row, likeSG_nil, likeSG_cons, likeT_nil, likeS_nil, isNP_nil, isNP_ob, likeT_ep, isEp_ep, epCells_ep, likeT_agg, likeT_int, likeT_bool, likeT_str, likeT_lst, likeT_sl0, likeT_sl1, likeT_ptr, likeS_int, likeS_bool, likeS_str, likeS_lst, likeS_sl0, likeS_sl1, likeS_ptr, isPtr_ok, isSl_0, isSl_1, beq_self_b, Bool.and_self, Bool.and_true, Bool.true_and, Bool.and_false, Bool.false_and, cond_true, cond_false, Bool.not_true, Bool.not_false, of12, Vc.row_eq]
  · rw [if_neg h, show ((ws.length : Int) == 8) = false by simp [h]]; rfl
theorem s_RStamp (c s : Int) : ev 35 [.v (.int .i64 c), .v (.int .i64 s)] = some [.v (.int .u64 (if okT c s then s * 256 + (c + 1) else 0))] := by
  rw [ev35]
  by_cases h : 0 ≤ c ∧ c < 6 ∧ 1 ≤ s ∧ s < 1073741824
  · rw [if_pos (okT_iff.2 h), ltI_f (by omega), leI_f (by omega), ltI_f (by omega), leI_f (by omega)]
    simp only [cond_false, w_u64]
    exact int1 (by omega)
  · have hf : okT c s = false := by
      cases e : okT c s with
      | false => rfl
      | true => exact absurd (okT_iff.1 e) h
    rw [hf, if_neg (by decide)]
    by_cases h1 : c < 0
    · rw [ltI_t h1]; rfl
    · by_cases h2 : 6 ≤ c
      · rw [ltI_f (by omega), leI_t h2]; rfl
      · by_cases h3 : s < 1
        · rw [ltI_f (by omega), leI_f (by omega), ltI_t h3]; rfl
        · rw [ltI_f (by omega), leI_f (by omega), ltI_f (by omega), leI_t (by omega)]; rfl
theorem s_ROrigin (x : Int) (h0 : 0 ≤ x) (h1 : x < 18446744073709551616) : ev 23 [.v (.int .u64 x)] = some [.v (.int .i64 (if okS x then x % 256 - 1 else 0)), .v (.int .i64 (if okS x then x / 256 else 0)), .v (.bool (okS x))] := by
  rw [ev23, tdiv_pos _ _ h0, tmod_pos _ _ h0]
  have e0 : IntKind.u64.wrap (x / 256) = x / 256 := by rw [w_u64]; omega
  have e1 : IntKind.i64.wrap (IntKind.i64.wrap (x % 256) - 1) = x % 256 - 1 := by rw [w_i64, w_i64]; omega
  have e2 : IntKind.i64.wrap (x / 256) = x / 256 := by rw [w_i64]; omega
  rw [e0, e1, e2, s_RStamp]
  cases h : okS x with
  | true =>
    have := okT_iff.1 h
    unfold okS at h
    simp -implicitDefEqProofs only [some_bind', obCells_agg, obCells_ob, isOb_ok, isL_ok, isOw_ok, avXs_lst, avXs_ow, avNil_lst, avNil_ow, avNil_sl, avOff_sl, avCut_sl, isAgg_agg, nat_beq_self, List.length_cons, List.length_nil, Nat.reduceAdd, Nat.zero_add, isI_v, isB_v, isS_v, avInt_v, avBool_v, avStr_v, cellAt_zero, cellAt_succ, lget_zero, lget_succ, frAt_zero, frAt_succ, blAt_zero, blAt_succ, isEx_ok, isEx_ne, isEx_none, isRt_some, isRt_none, like_st, likeFG_nil, likeFG_cons, likeBG_nil, likeBG_obj, likeBG_row, likeSG_nil, likeSG_cons, likeT_nil, likeS_nil, isNP_nil, isNP_ob, likeT_ep, isEp_ep, epCells_ep, likeT_agg, likeT_int, likeT_bool, likeT_str, likeT_lst, likeT_sl0, likeT_sl1, likeT_ptr, likeS_int, likeS_bool, likeS_str, likeS_lst, likeS_sl0, likeS_sl1, likeS_ptr, isPtr_ok, isSl_0, isSl_1, beq_self_b, Bool.and_self, Bool.and_true, Bool.true_and, Bool.and_false, Bool.false_and, cond_true, cond_false, Bool.not_true, Bool.not_false, leI_f this.2.2.2, h, if_true, beq_eq_false_iff_ne.2 (show x / 256 * 256 + (x % 256 - 1 + 1) ≠ 0 by omega)]
  | false =>
    unfold okS at h
    cases h2 : leI 1073741824 (x / 256) with
    | true => rfl
    | false => simp -implicitDefEqProofs only [some_bind', obCells_agg, obCells_ob, isOb_ok, isL_ok, isOw_ok, avXs_lst, avXs_ow, avNil_lst, avNil_ow, avNil_sl, avOff_sl, avCut_sl, isAgg_agg, nat_beq_self, List.length_cons, List.length_nil, Nat.reduceAdd, Nat.zero_add, isI_v, isB_v, isS_v, avInt_v, avBool_v, avStr_v, cellAt_zero, cellAt_succ, lget_zero, lget_succ, frAt_zero, frAt_succ, blAt_zero, blAt_succ, isEx_ok, isEx_ne, isEx_none, isRt_some, isRt_none, like_st, likeFG_nil, likeFG_cons, likeBG_nil, likeBG_obj, likeBG_row, likeSG_nil, likeSG_cons, likeT_nil, likeS_nil, isNP_nil, isNP_ob, likeT_ep, isEp_ep, epCells_ep, likeT_agg, likeT_int, likeT_bool, likeT_str, likeT_lst, likeT_sl0, likeT_sl1, likeT_ptr, likeS_int, likeS_bool, likeS_str, likeS_lst, likeS_sl0, likeS_sl1, likeS_ptr, isPtr_ok, isSl_0, isSl_1, beq_self_b, Bool.and_self, Bool.and_true, Bool.true_and, Bool.and_false, Bool.false_and, cond_true, cond_false, Bool.not_true, Bool.not_false, h, Bool.false_eq_true, if_false, beq_self_i]
theorem s_RVisible (v : Vc) (x : Int) (h0 : 0 ≤ x) (h1 : x < 18446744073709551616) : ev 13 [.agg (vcl v.c0 v.c1 v.c2 v.c3 v.c4 v.c5), .v (.int .u64 x)] = some [.v (.bool (vis v x))] := by
  rw [ev13, s_ROrigin x h0 h1]
  unfold vis
  cases h : okS x with
  | false => simp -implicitDefEqProofs only [some_bind', obCells_agg, obCells_ob, isOb_ok, isL_ok, isOw_ok, avXs_lst, avXs_ow, avNil_lst, avNil_ow, avNil_sl, avOff_sl, avCut_sl, isAgg_agg, nat_beq_self, List.length_cons, List.length_nil, Nat.reduceAdd, Nat.zero_add, isI_v, isB_v, isS_v, avInt_v, avBool_v, avStr_v, cellAt_zero, cellAt_succ, lget_zero, lget_succ, frAt_zero, frAt_succ, blAt_zero, blAt_succ, isEx_ok, isEx_ne, isEx_none, isRt_some, isRt_none, like_st, likeFG_nil, likeFG_cons, likeBG_nil, likeBG_obj, likeBG_row, likeSG_nil, likeSG_cons, likeT_nil, likeS_nil, isNP_nil, isNP_ob, likeT_ep, isEp_ep, epCells_ep, likeT_agg, likeT_int, likeT_bool, likeT_str, likeT_lst, likeT_sl0, likeT_sl1, likeT_ptr, likeS_int, likeS_bool, likeS_str, likeS_lst, likeS_sl0, likeS_sl1, likeS_ptr, isPtr_ok, isSl_0, isSl_1, beq_self_b, Bool.and_self, Bool.and_true, Bool.true_and, Bool.and_false, Bool.false_and, cond_true, cond_false, Bool.not_true, Bool.not_false, Bool.false_eq_true, if_false]
  | true =>
    have := okT_iff.1 h
    have e : IntKind.u64.wrap (x / 256) = x / 256 := by rw [w_u64]; omega
    simp -implicitDefEqProofs only [some_bind', obCells_agg, obCells_ob, isOb_ok, isL_ok, isOw_ok, avXs_lst, avXs_ow, avNil_lst, avNil_ow, avNil_sl, avOff_sl, avCut_sl, isAgg_agg, nat_beq_self, List.length_cons, List.length_nil, Nat.reduceAdd, Nat.zero_add, isI_v, isB_v, isS_v, avInt_v, avBool_v, avStr_v, cellAt_zero, cellAt_succ, lget_zero, lget_succ, frAt_zero, frAt_succ, blAt_zero, blAt_succ, isEx_ok, isEx_ne, isEx_none, isRt_some, isRt_none, like_st, likeFG_nil, likeFG_cons, likeBG_nil, likeBG_obj, likeBG_row, likeSG_nil, likeSG_cons, likeT_nil, likeS_nil, isNP_nil, isNP_ob, likeT_ep, isEp_ep, epCells_ep, likeT_agg, likeT_int, likeT_bool, likeT_str, likeT_lst, likeT_sl0, likeT_sl1, likeT_ptr, likeS_int, likeS_bool, likeS_str, likeS_lst, likeS_sl0, likeS_sl1, likeS_ptr, isPtr_ok, isSl_0, isSl_1, beq_self_b, Bool.and_self, Bool.and_true, Bool.true_and, Bool.and_false, Bool.false_and, cond_true, cond_false, Bool.not_true, Bool.not_false, if_true, leI_t this.1, ltI_t this.2.1, e]
    rfl
theorem wrap_r (e : Int) : 0 ≤ IntKind.u64.wrap e ∧ IntKind.u64.wrap e < 18446744073709551616 := by rw [w_u64]; omega
theorem s_Visw (v : Vc) (e : Int) : ev 9 [.agg (vcl v.c0 v.c1 v.c2 v.c3 v.c4 v.c5), .v (.int .u64 (IntKind.wrap .u64 e))] = some [.v (.bool (vis v (IntKind.wrap .u64 e)))] := s_Visible v _ (wrap_r e).1 (wrap_r e).2
theorem s_RVisw (v : Vc) (e : Int) : ev 13 [.agg (vcl v.c0 v.c1 v.c2 v.c3 v.c4 v.c5), .v (.int .u64 (IntKind.wrap .u64 e))] = some [.v (.bool (vis v (IntKind.wrap .u64 e)))] := s_RVisible v _ (wrap_r e).1 (wrap_r e).2
theorem s_Pick (a m : Int) (hm : 0 < m) (hm' : m ≤ 4611686018427387904) : ev 10 [.v (.int .i64 a), .v (.int .i64 m)] = some [.v (.int .i64 (pick a m))] := by
  rw [ev10]
  simp only [ltI_f (show 1 ≤ m by omega), eqI_f (show m ≠ 0 by omega), cond_false, pick_ok hm hm']
theorem s_Pick4 (a : Int) : ev 10 [.v (.int .i64 a), .v (.int .i64 4)] = some [.v (.int .i64 (pick a 4))] := s_Pick a 4 (by decide) (by decide)
theorem s_Pick8 (a : Int) : ev 10 [.v (.int .i64 a), .v (.int .i64 8)] = some [.v (.int .i64 (pick a 8))] := s_Pick a 8 (by decide) (by decide)
theorem s_Pick6 (a : Int) : ev 10 [.v (.int .i64 a), .v (.int .i64 6)] = some [.v (.int .i64 (pick a 6))] := s_Pick a 6 (by decide) (by decide)
theorem pad (x2 x3 x10 : Int) (v : Vc) : ∀ (j : Nat) (l : List Int) (x9 : Bool), 8 ≤ l.length + j → l.length + j ≤ 100 → ∃ (l' : List Int) (y9 : Bool), 8 ≤ l'.length ∧ l'.length ≤ 100 ∧
    lp 4 0 0 ⟨[(2, (.v (.int .u64 x2))), (3, (.v (.int .i64 x3))), (5, (.ptr 0 0 0)), (9, (.sl x9 1 0 none)), (10, (.v (.int .i64 x10)))], [⟨1, 24, 6, true, [v.row]⟩, ⟨1, 22, 1, false, l.map urow⟩]⟩ =
      some ⟨some 0, ⟨[(2, (.v (.int .u64 x2))), (3, (.v (.int .i64 x3))), (5, (.ptr 0 0 0)), (9, (.sl y9 1 0 none)), (10, (.v (.int .i64 x10)))], [⟨1, 24, 6, true, [v.row]⟩, ⟨1, 22, 1, false, l'.map urow⟩]⟩, []⟩ := by
  intro j
  induction j with
  | zero =>
    intro l x9 h h2
    refine ⟨l, x9, by omega, by omega, ?_⟩
    rw [Vc.row_eq, lp4_0, List.length_map, ltI_f (by omega)]; rfl
  | succ j ih =>
    intro l x9 h h2
    by_cases h3 : 8 ≤ l.length
    · refine ⟨l, x9, h3, by omega, ?_⟩
      rw [Vc.row_eq, lp4_0, List.length_map, ltI_f (by omega)]; rfl
    · obtain ⟨l', y9, e1, e2, e3⟩ := ih (l ++ [x2]) false (by simp; omega) (by simp; omega)
      refine ⟨l', y9, e1, e2, ?_⟩
      rw [← e3, Vc.row_eq, lp4_0, List.length_map, ltI_t (by omega), leN_t (by omega), List.map_append]; rfl
theorem cut_loop (x2 x3 x10 : Int) (v : Vc) (x9 : Bool) : ∀ (j k : Nat) (l : List Int), j + k = 8 → 8 ≤ l.length → l.length ≤ 100 → ∃ (l' : List Int), 8 ≤ l'.length ∧ l'.length ≤ 100 ∧
    lp 4 1 0 ⟨[(2, (.v (.int .u64 x2))), (3, (.v (.int .i64 x3))), (5, (.ptr 0 0 0)), (9, (.sl x9 1 0 (some 8))), (10, (.v (.int .i64 x10))), (11, (.v (.int .i64 (k : Int))))], [⟨1, 24, 6, true, [v.row]⟩, ⟨1, 22, 1, false, l.map urow⟩]⟩ =
      some ⟨some 2, ⟨[(2, (.v (.int .u64 x2))), (3, (.v (.int .i64 x3))), (5, (.ptr 0 0 0)), (9, (.sl x9 1 0 (some 8)))], [⟨1, 24, 6, true, [v.row]⟩, ⟨1, 22, 1, false, l'.map urow⟩]⟩, []⟩
  | 0, k, l, hk, h1, h2 => ⟨l, h1, h2, by rw [Vc.row_eq, lp4_1, ltI_f (by omega)]; rfl⟩
  | j + 1, k, l, hk, h1, h2 => by
    have e2 : lget (l.map urow) k = urow (l.getD k 0) := lget_mapD urow l 0 k (by omega)
    have e3 : IntKind.i64.wrap ((k : Int) + 1) = ((k + 1 : Nat) : Int) := by rw [w_i64]; omega
    have es : ∀ w : Int, (l.map urow).set k [.v (.int .u64 w)] = (l.set k w).map urow := fun w => by rw [List.map_set]; rfl
    have es2 : ∀ (l : List Int) (w : Int), (l.map urow).set k [.v (.int .u64 w)] = (l.set k w).map urow := fun l w => by rw [List.map_set]; rfl
    have kx : ∀ l' : List Int, 8 ≤ l'.length → l'.length ≤ 100 → ∃ (l'' : List Int), 8 ≤ l''.length ∧ l''.length ≤ 100 ∧ lp 4 1 0 ⟨[(2, (.v (.int .u64 x2))), (3, (.v (.int .i64 x3))), (5, (.ptr 0 0 0)), (9, (.sl x9 1 0 (some 8))), (10, (.v (.int .i64 x10))), (11, (.v (.int .i64 ((k + 1 : Nat) : Int))))], [⟨1, 24, 6, true, [v.row]⟩, ⟨1, 22, 1, false, l'.map urow⟩]⟩ = _ := fun l' a b => cut_loop x2 x3 x10 v x9 j (k + 1) l' (by omega) a b
    rw [Vc.row_eq] at kx ⊢
    rw [lp4_1]
    cases c1 : leI 6 (k : Int) with
    | false =>
      obtain ⟨l', q1, q2, q3⟩ := kx (l.set k ((l.getD k 0).tmod 1073741825)) (by simpa using h1) (by simpa using h2)
      refine ⟨l', q1, q2, ?_⟩
      rw [← q3]
      simp -implicitDefEqProofs only [some_bind', obCells_agg, obCells_ob, isOb_ok, isL_ok, isOw_ok, avXs_lst, avXs_ow, avNil_lst, avNil_ow, avNil_sl, avOff_sl, avCut_sl, isAgg_agg, nat_beq_self, List.length_cons, List.length_nil, Nat.reduceAdd, Nat.zero_add, isI_v, isB_v, isS_v, avInt_v, avBool_v, avStr_v, cellAt_zero, cellAt_succ, lget_zero, lget_succ, frAt_zero, frAt_succ, blAt_zero, blAt_succ, isEx_ok, isEx_ne, isEx_none, isRt_some, isRt_none, like_st, likeFG_nil, likeFG_cons, likeBG_nil, likeBG_obj, likeBG_row, likeSG_nil, likeSG_cons, likeT_nil, likeS_nil, isNP_nil, isNP_ob, likeT_ep, isEp_ep, epCells_ep, likeT_agg, likeT_int, likeT_bool, likeT_str, likeT_lst, likeT_sl0, likeT_sl1, likeT_ptr, likeS_int, likeS_bool, likeS_str, likeS_lst, likeS_sl0, likeS_sl1, likeS_ptr, isPtr_ok, isSl_0, isSl_1, beq_self_b, Bool.and_self, Bool.and_true, Bool.true_and, Bool.and_false, Bool.false_and, cond_true, cond_false, Bool.not_true, Bool.not_false, ltI_t (show (k : Int) < ((8 : Nat) : Int) by omega), leI_t (show (0 : Int) ≤ (k : Int) by omega), List.length_map, Int.toNat_natCast, e2, urow_eq, e3, es, c1, ltN_t (show k < l.length by omega)]
    | true =>
      cases c2 : ltI 1 x10 with
      | false =>
        obtain ⟨l', q1, q2, q3⟩ := kx (l.set k ((l.getD k 0).tmod 1073741825)) (by simpa using h1) (by simpa using h2)
        refine ⟨l', q1, q2, ?_⟩
        rw [← q3]
        simp -implicitDefEqProofs only [some_bind', obCells_agg, obCells_ob, isOb_ok, isL_ok, isOw_ok, avXs_lst, avXs_ow, avNil_lst, avNil_ow, avNil_sl, avOff_sl, avCut_sl, isAgg_agg, nat_beq_self, List.length_cons, List.length_nil, Nat.reduceAdd, Nat.zero_add, isI_v, isB_v, isS_v, avInt_v, avBool_v, avStr_v, cellAt_zero, cellAt_succ, lget_zero, lget_succ, frAt_zero, frAt_succ, blAt_zero, blAt_succ, isEx_ok, isEx_ne, isEx_none, isRt_some, isRt_none, like_st, likeFG_nil, likeFG_cons, likeBG_nil, likeBG_obj, likeBG_row, likeSG_nil, likeSG_cons, likeT_nil, likeS_nil, isNP_nil, isNP_ob, likeT_ep, isEp_ep, epCells_ep, likeT_agg, likeT_int, likeT_bool, likeT_str, likeT_lst, likeT_sl0, likeT_sl1, likeT_ptr, likeS_int, likeS_bool, likeS_str, likeS_lst, likeS_sl0, likeS_sl1, likeS_ptr, isPtr_ok, isSl_0, isSl_1, beq_self_b, Bool.and_self, Bool.and_true, Bool.true_and, Bool.and_false, Bool.false_and, cond_true, cond_false, Bool.not_true, Bool.not_false, ltI_t (show (k : Int) < ((8 : Nat) : Int) by omega), leI_t (show (0 : Int) ≤ (k : Int) by omega), List.length_map, Int.toNat_natCast, e2, urow_eq, e3, es, c1, c2, ltN_t (show k < l.length by omega)]
      | true =>
        obtain ⟨l', q1, q2, q3⟩ := kx ((l.set k ((l.getD k 0).tmod 1073741825)).set k 0) (by simpa using h1) (by simpa using h2)
        refine ⟨l', q1, q2, ?_⟩
        rw [← q3]
        simp -implicitDefEqProofs only [some_bind', obCells_agg, obCells_ob, isOb_ok, isL_ok, isOw_ok, avXs_lst, avXs_ow, avNil_lst, avNil_ow, avNil_sl, avOff_sl, avCut_sl, isAgg_agg, nat_beq_self, List.length_cons, List.length_nil, Nat.reduceAdd, Nat.zero_add, isI_v, isB_v, isS_v, avInt_v, avBool_v, avStr_v, cellAt_zero, cellAt_succ, lget_zero, lget_succ, frAt_zero, frAt_succ, blAt_zero, blAt_succ, isEx_ok, isEx_ne, isEx_none, isRt_some, isRt_none, like_st, likeFG_nil, likeFG_cons, likeBG_nil, likeBG_obj, likeBG_row, likeSG_nil, likeSG_cons, likeT_nil, likeS_nil, isNP_nil, isNP_ob, likeT_ep, isEp_ep, epCells_ep, likeT_agg, likeT_int, likeT_bool, likeT_str, likeT_lst, likeT_sl0, likeT_sl1, likeT_ptr, likeS_int, likeS_bool, likeS_str, likeS_lst, likeS_sl0, likeS_sl1, likeS_ptr, isPtr_ok, isSl_0, isSl_1, beq_self_b, Bool.and_self, Bool.and_true, Bool.true_and, Bool.and_false, Bool.false_and, cond_true, cond_false, Bool.not_true, Bool.not_false, ltI_t (show (k : Int) < ((8 : Nat) : Int) by omega), leI_t (show (0 : Int) ≤ (k : Int) by omega), List.length_map, List.length_set, Int.toNat_natCast, e2, urow_eq, e3, es, es2, c1, c2, ltN_t (show k < l.length by omega)]
theorem vectors (n1 : Bool) (ws : List Int) (v : Vc) (x n : Int) (hx : 0 ≤ x ∧ x ≤ 18446744073709551615) : ev 4 [.lst n1 1 (ws.map urow), .agg (vcl v.c0 v.c1 v.c2 v.c3 v.c4 v.c5), .v (.int .u64 x), .v (.int .i64 n)] = some [.v (.bool true)] := by
  rw [ev4]
  cases h1 : ltI 20 (((ws.map urow).length : Nat) : Int) with
  | true => rfl
  | false =>
    have hk : ws.length ≤ 20 := by
      rw [List.length_map] at h1
      rcases Nat.lt_or_ge 20 ws.length with h | h
      · rw [ltI_t (by omega)] at h1; cases h1
      · exact h
    have p6 := pick_range (n := IntKind.i64.wrap (n.tdiv 4)) (m := 6) (by decide)
    have v1 := s_Visible v x hx.1 (by omega)
    have v2 := s_RVisible v x hx.1 (by omega)
    rw [cond_false, leN_t (by rw [List.length_map]; omega), cond_true, List.nil_append]
    rw [s_Pick4]
    cases hp : ltI 0 (pick n 4) with
    | false =>
      have o1 := s_Of ws (List.isEmpty (ws.map urow) && false) (by omega)
      have o2 := s_VectorOf ws (List.isEmpty (ws.map urow) && false) (by omega)
      rw [Vc.row_eq] at o1 o2
      simp -implicitDefEqProofs only [some_bind', obCells_agg, obCells_ob, isOb_ok, isL_ok, isOw_ok, avXs_lst, avXs_ow, avNil_lst, avNil_ow, avNil_sl, avOff_sl, avCut_sl, isAgg_agg, nat_beq_self, List.length_cons, List.length_nil, Nat.reduceAdd, Nat.zero_add, isI_v, isB_v, isS_v, avInt_v, avBool_v, avStr_v, cellAt_zero, cellAt_succ, lget_zero, lget_succ, frAt_zero, frAt_succ, blAt_zero, blAt_succ, isEx_ok, isEx_ne, isEx_none, isRt_some, isRt_none, like_st, likeFG_nil, likeFG_cons, likeBG_nil, likeBG_obj, likeBG_row, likeSG_nil, likeSG_cons, likeT_nil, likeS_nil, isNP_nil, isNP_ob, likeT_ep, isEp_ep, epCells_ep, likeT_agg, likeT_int, likeT_bool, likeT_str, likeT_lst, likeT_sl0, likeT_sl1, likeT_ptr, likeS_int, likeS_bool, likeS_str, likeS_lst, likeS_sl0, likeS_sl1, likeS_ptr, isPtr_ok, isSl_0, isSl_1, beq_self_b, Bool.and_self, Bool.and_true, Bool.true_and, Bool.and_false, Bool.false_and, cond_true, cond_false, Bool.not_true, Bool.not_false, hp]
      simp only [Bool.and_false] at o1 o2
      simp -implicitDefEqProofs only [some_bind', obCells_agg, obCells_ob, isOb_ok, isL_ok, isOw_ok, avXs_lst, avXs_ow, avNil_lst, avNil_ow, avNil_sl, avOff_sl, avCut_sl, isAgg_agg, nat_beq_self, List.length_cons, List.length_nil, Nat.reduceAdd, Nat.zero_add, isI_v, isB_v, isS_v, avInt_v, avBool_v, avStr_v, cellAt_zero, cellAt_succ, lget_zero, lget_succ, frAt_zero, frAt_succ, blAt_zero, blAt_succ, isEx_ok, isEx_ne, isEx_none, isRt_some, isRt_none, like_st, likeFG_nil, likeFG_cons, likeBG_nil, likeBG_obj, likeBG_row, likeSG_nil, likeSG_cons, likeT_nil, likeS_nil, isNP_nil, isNP_ob, likeT_ep, isEp_ep, epCells_ep, likeT_agg, likeT_int, likeT_bool, likeT_str, likeT_lst, likeT_sl0, likeT_sl1, likeT_ptr, likeS_int, likeS_bool, likeS_str, likeS_lst, likeS_sl0, likeS_sl1, likeS_ptr, isPtr_ok, isSl_0, isSl_1, beq_self_b, Bool.and_self, Bool.and_true, Bool.true_and, Bool.and_false, Bool.false_and, cond_true, cond_false, Bool.not_true, Bool.not_false, o1, o2, s_Pick8, s_Pick6, leI_t p6.1, ltI_t p6.2, s_awake, beq_self_i, v1, v2, s_Visw, s_RVisw]
    | true =>
      obtain ⟨l1, y9, q1, q2, q3⟩ := pad x n (pick n 4) v 8 ws (List.isEmpty (ws.map urow) && false) (by omega) (by omega)
      obtain ⟨l2, q4, q5, q6⟩ := cut_loop x n (pick n 4) v y9 8 0 l1 (by omega) q1 q2
      simp only [Vc.row_eq, Bool.and_false] at q3
      simp only [Vc.row_eq, show ((0 : Nat) : Int) = 0 from rfl] at q6
      have o1 := s_Of (l2.take 8) y9 (by simp; omega)
      have o2 := s_VectorOf (l2.take 8) y9 (by simp; omega)
      rw [Vc.row_eq, List.map_take] at o1 o2
      simp -implicitDefEqProofs only [some_bind', obCells_agg, obCells_ob, isOb_ok, isL_ok, isOw_ok, avXs_lst, avXs_ow, avNil_lst, avNil_ow, avNil_sl, avOff_sl, avCut_sl, isAgg_agg, nat_beq_self, List.length_cons, List.length_nil, Nat.reduceAdd, Nat.zero_add, isI_v, isB_v, isS_v, avInt_v, avBool_v, avStr_v, cellAt_zero, cellAt_succ, lget_zero, lget_succ, frAt_zero, frAt_succ, blAt_zero, blAt_succ, isEx_ok, isEx_ne, isEx_none, isRt_some, isRt_none, like_st, likeFG_nil, likeFG_cons, likeBG_nil, likeBG_obj, likeBG_row, likeSG_nil, likeSG_cons, likeT_nil, likeS_nil, isNP_nil, isNP_ob, likeT_ep, isEp_ep, epCells_ep, likeT_agg, likeT_int, likeT_bool, likeT_str, likeT_lst, likeT_sl0, likeT_sl1, likeT_ptr, likeS_int, likeS_bool, likeS_str, likeS_lst, likeS_sl0, likeS_sl1, likeS_ptr, isPtr_ok, isSl_0, isSl_1, beq_self_b, Bool.and_self, Bool.and_true, Bool.true_and, Bool.and_false, Bool.false_and, cond_true, cond_false, Bool.not_true, Bool.not_false, hp, q3, List.length_map, leI_t (show (8 : Int) ≤ ((l1.length - 0 : Nat) : Int) by omega), q6]
      simp -implicitDefEqProofs only [some_bind', obCells_agg, obCells_ob, isOb_ok, isL_ok, isOw_ok, avXs_lst, avXs_ow, avNil_lst, avNil_ow, avNil_sl, avOff_sl, avCut_sl, isAgg_agg, nat_beq_self, List.length_cons, List.length_nil, Nat.reduceAdd, Nat.zero_add, isI_v, isB_v, isS_v, avInt_v, avBool_v, avStr_v, cellAt_zero, cellAt_succ, lget_zero, lget_succ, frAt_zero, frAt_succ, blAt_zero, blAt_succ, isEx_ok, isEx_ne, isEx_none, isRt_some, isRt_none, like_st, likeFG_nil, likeFG_cons, likeBG_nil, likeBG_obj, likeBG_row, likeSG_nil, likeSG_cons, likeT_nil, likeS_nil, isNP_nil, isNP_ob, likeT_ep, isEp_ep, epCells_ep, likeT_agg, likeT_int, likeT_bool, likeT_str, likeT_lst, likeT_sl0, likeT_sl1, likeT_ptr, likeS_int, likeS_bool, likeS_str, likeS_lst, likeS_sl0, likeS_sl1, likeS_ptr, isPtr_ok, isSl_0, isSl_1, beq_self_b, Bool.and_self, Bool.and_true, Bool.true_and, Bool.and_false, Bool.false_and, cond_true, cond_false, Bool.not_true, Bool.not_false, o1, o2, s_Pick8, s_Pick6, leI_t p6.1, ltI_t p6.2, s_awake, beq_self_i, v1, v2, s_Visw, s_RVisw]
theorem vectors_all {N : Nat} (l : List AV) (h : TypA Try.prog N Try.f4.params.toList l) : ∃ n, evF Try.prog cfg n 4 l = some [.v (.bool true)] := by
  rw [show Try.f4.params.toList = [30, 24, 22, 3] by kernel_rfl] at h
  obtain ⟨a0, r, rfl, h0, h⟩ := h
  obtain ⟨a1, r, rfl, h1, h⟩ := h
  obtain ⟨a2, r, rfl, h2, h⟩ := h
  obtain ⟨a3, r, rfl, h3, h⟩ := h
  obtain rfl : r = [] := h
  obtain ⟨a0n, a0, rfl, _, _, f0⟩ := openV30 h0
  obtain ⟨q0, q1, q2, q3, q4, q5, rfl, _⟩ := openV24 h1
  obtain ⟨x, rfl, hx⟩ := openV22 h2
  obtain ⟨n, rfl, _⟩ := openV3 h3
  obtain ⟨ws, rfl, _⟩ := rows_of urow (fun _ => True) a0 fun y hy => by
    obtain ⟨m, e, _⟩ := typC_int (k := .u64) (by kernel_rfl) (f0 y hy)
    exact ⟨m, e, trivial⟩
  exact evF_of_evL (vectors a0n ws ⟨q0, q1, q2, q3, q4, q5⟩ x n hx)
end Go.Proofs.Yteadkackiemfbaa
