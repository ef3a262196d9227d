/- PointerLatest holds for every input. No conditions. -/
import Derived.Test.YtcalaooabgklbaaSpec
set_option linter.all false
namespace Go.Proofs.Ytcalaooabgklbaa
open Go.Ev
attribute [local congr] bind_first cond_first
abbrev pb (p : Pg) : Blk := ⟨1, 43, 9, true, [p.row]⟩
theorem lat_loop (x0n : Bool) (x0 : List (List AV)) (os : List Int) (p : Pg) (x2n : Bool) (ho : os.length ≤ 100) : ∀ (j k : Nat) (l : List Pg) (x7 : Bool), j + k = os.length → l.length + j ≤ 200 → lat l p.l l.length = some p →
    ∃ (l' : List Pg) (y7 : Bool), lp 5 0 0 ⟨[(0, (.lst x0n 9 x0)), (2, (.lst x2n 1 (os.map irow))), (4, (.ptr 0 0 0)), (7, (.sl x7 1 0 none)), (8, (.v (.int .i64 (k : Int))))], [pb p, ⟨1, 43, 9, false, l.map Pg.row⟩]⟩ =
      some ⟨some 0, ⟨[(0, (.lst x0n 9 x0)), (4, (.ptr 0 0 0)), (7, (.sl y7 1 0 none))], [pb p, ⟨1, 43, 9, false, l'.map Pg.row⟩]⟩, []⟩ ∧ lat l' p.l l'.length = some p ∧ l'.length ≤ 200
  | 0, k, l, x7, hk, hl, h => ⟨l, x7, by
      simp only [pb, Pg.row_eq p]
      rw [lp5_0, List.length_map, ltI_f (by omega)]; rfl, h, by omega⟩
  | j + 1, k, l, x7, hk, hl, h => by
    have e2 : lget (os.map irow) k = irow (os.getD k 0) := lget_mapD irow os 0 k (by omega)
    have e3 : IntKind.i64.wrap ((k : Int) + 1) = ((k + 1 : Nat) : Int) := by rw [w_i64]; omega
    cases hc : (os.getD k 0 == p.l) with
    | true =>
      obtain ⟨l', y7, h1, h2⟩ := lat_loop x0n x0 os p x2n ho j (k + 1) l x7 (by omega) (by omega) h
      refine ⟨l', y7, ?_, h2⟩
      rw [← h1]
      simp only [pb, Pg.row_eq p]
      rw [lp5_0]
      simp -implicitDefEqProofs only [some_bind', obCells_agg, obCells_ob, isOb_ok, isL_ok, isOw_ok, avXs_lst, avXs_ow, avNil_lst, avNil_ow, avNil_sl, avOff_sl, avCut_sl, isAgg_agg, nat_beq_self, List.length_cons, List.length_nil, Nat.reduceAdd, Nat.zero_add, isI_v, isB_v, isS_v, avInt_v, avBool_v, avStr_v, cellAt_zero, cellAt_succ, lget_zero, lget_succ, frAt_zero, frAt_succ, blAt_zero, blAt_succ, isEx_ok, isEx_ne, isEx_none, isRt_some, isRt_none, like_st, likeFG_nil, likeFG_cons, likeBG_nil, likeBG_obj, likeBG_row, likeSG_nil, likeSG_cons, likeT_nil, likeS_nil, isNP_nil, isNP_ob, likeT_ep, isEp_ep, epCells_ep, likeT_agg, likeT_int, likeT_bool, likeT_str, likeT_lst, likeT_sl0, likeT_sl1, likeT_ptr, likeS_int, likeS_bool, likeS_str, likeS_lst, likeS_sl0, likeS_sl1, likeS_ptr, isPtr_ok, isSl_0, isSl_1, beq_self_b, Bool.and_self, Bool.and_true, Bool.true_and, Bool.and_false, Bool.false_and, cond_true, cond_false, Bool.not_true, Bool.not_false, leI_t (show (0 : Int) ≤ (k : Int) by omega), List.length_map, ltI_t (show (k : Int) < (os.length : Int) by omega), Int.toNat_natCast, e2, irow_eq, e3, hc]
    | false =>
      have hq : lat (l ++ [⟨os.getD k 0, IntKind.u64.wrap k, 0, 0, 0, 0, 0, 0, 0⟩]) p.l (l ++ [⟨os.getD k 0, IntKind.u64.wrap k, 0, 0, 0, 0, 0, 0, 0⟩] : List Pg).length = some p := by
        rw [lat_snoc]
        show cond (os.getD k 0 == p.l) _ _ = _
        rw [hc]; exact h
      obtain ⟨l', y7, h1, h2⟩ := lat_loop x0n x0 os p x2n ho j (k + 1) _ false (by omega) (by simp; omega) hq
      refine ⟨l', y7, ?_, h2⟩
      rw [← h1]
      simp only [pb, Pg.row_eq p]
      rw [lp5_0]
      simp -implicitDefEqProofs only [some_bind', obCells_agg, obCells_ob, isOb_ok, isL_ok, isOw_ok, avXs_lst, avXs_ow, avNil_lst, avNil_ow, avNil_sl, avOff_sl, avCut_sl, isAgg_agg, nat_beq_self, List.length_cons, List.length_nil, Nat.reduceAdd, Nat.zero_add, isI_v, isB_v, isS_v, avInt_v, avBool_v, avStr_v, cellAt_zero, cellAt_succ, lget_zero, lget_succ, frAt_zero, frAt_succ, blAt_zero, blAt_succ, isEx_ok, isEx_ne, isEx_none, isRt_some, isRt_none, like_st, likeFG_nil, likeFG_cons, likeBG_nil, likeBG_obj, likeBG_row, likeSG_nil, likeSG_cons, likeT_nil, likeS_nil, isNP_nil, isNP_ob, likeT_ep, isEp_ep, epCells_ep, likeT_agg, likeT_int, likeT_bool, likeT_str, likeT_lst, likeT_sl0, likeT_sl1, likeT_ptr, likeS_int, likeS_bool, likeS_str, likeS_lst, likeS_sl0, likeS_sl1, likeS_ptr, isPtr_ok, isSl_0, isSl_1, beq_self_b, Bool.and_self, Bool.and_true, Bool.true_and, Bool.and_false, Bool.false_and, cond_true, cond_false, Bool.not_true, Bool.not_false, leI_t (show (0 : Int) ≤ (k : Int) by omega), List.length_map, ltI_t (show (k : Int) < (os.length : Int) by omega), Int.toNat_natCast, e2, irow_eq, e3, hc, leN_t (show (l.length + 1) * 72 ≤ 140737488355328 by omega), List.map_append, List.map_cons, List.map_nil, Pg.row_eq]
theorem in_loop (x0n : Bool) (ks : List Pg) (p q r : Pg) (x10 x12 : Bool) (ho : ks.length ≤ 100) : ∀ (j k : Nat), j + k = ks.length →
    lp 5 1 0 ⟨[(0, (.lst x0n 9 (ks.map Pg.row))), (4, (.ptr 0 0 0)), (9, (.ptr 1 0 0)), (10, (.v (.bool x10))), (11, (.ptr 2 0 0)), (12, (.v (.bool x12))), (13, (.v (.bool (lat ks p.l k).isSome))), (14, (.v (.int .i64 (k : Int))))], [pb p, pb q, pb r]⟩ =
      some ⟨some 2, ⟨[(4, (.ptr 0 0 0)), (9, (.ptr 1 0 0)), (10, (.v (.bool x10))), (11, (.ptr 2 0 0)), (12, (.v (.bool x12))), (13, (.v (.bool (lat ks p.l ks.length).isSome)))], [pb p, pb q, pb r]⟩, []⟩
  | 0, k, hk => by
    obtain rfl : k = ks.length := by omega
    simp only [pb, Pg.row_eq p, Pg.row_eq q, Pg.row_eq r]
    rw [lp5_1, List.length_map, ltI_f (by omega)]; rfl
  | j + 1, k, hk => by
    have ih := in_loop x0n ks p q r x10 x12 ho j (k + 1) (by omega)
    have e2 : lget (ks.map Pg.row) k = Pg.row (ks.getD k pz) := lget_mapD Pg.row ks pz k (by omega)
    have e3 : IntKind.i64.wrap ((k : Int) + 1) = ((k + 1 : Nat) : Int) := by rw [w_i64]; omega
    rw [← ih]
    simp only [pb, Pg.row_eq p, Pg.row_eq q, Pg.row_eq r]
    rw [lp5_1, lat]
    cases h1 : (lat ks p.l k).isSome with
    | true =>
      have h2 : (bif (ks.getD k pz).l == p.l then some (ks.getD k pz) else lat ks p.l k).isSome = true := by
        cases ((ks.getD k pz).l == p.l)
        · exact h1
        · rfl
      simp -implicitDefEqProofs only [some_bind', obCells_agg, obCells_ob, isOb_ok, isL_ok, isOw_ok, avXs_lst, avXs_ow, avNil_lst, avNil_ow, avNil_sl, avOff_sl, avCut_sl, isAgg_agg, nat_beq_self, List.length_cons, List.length_nil, Nat.reduceAdd, Nat.zero_add, isI_v, isB_v, isS_v, avInt_v, avBool_v, avStr_v, cellAt_zero, cellAt_succ, lget_zero, lget_succ, frAt_zero, frAt_succ, blAt_zero, blAt_succ, isEx_ok, isEx_ne, isEx_none, isRt_some, isRt_none, like_st, likeFG_nil, likeFG_cons, likeBG_nil, likeBG_obj, likeBG_row, likeSG_nil, likeSG_cons, likeT_nil, likeS_nil, isNP_nil, isNP_ob, likeT_ep, isEp_ep, epCells_ep, likeT_agg, likeT_int, likeT_bool, likeT_str, likeT_lst, likeT_sl0, likeT_sl1, likeT_ptr, likeS_int, likeS_bool, likeS_str, likeS_lst, likeS_sl0, likeS_sl1, likeS_ptr, isPtr_ok, isSl_0, isSl_1, beq_self_b, Bool.and_self, Bool.and_true, Bool.true_and, Bool.and_false, Bool.false_and, cond_true, cond_false, Bool.not_true, Bool.not_false, List.length_map, ltI_t (show (k : Int) < (ks.length : Int) by omega), e3, h2]
    | false =>
      have h2 : (bif (ks.getD k pz).l == p.l then some (ks.getD k pz) else lat ks p.l k).isSome = ((ks.getD k pz).l == p.l) := by
        cases ((ks.getD k pz).l == p.l)
        · exact h1
        · rfl
      simp -implicitDefEqProofs only [some_bind', obCells_agg, obCells_ob, isOb_ok, isL_ok, isOw_ok, avXs_lst, avXs_ow, avNil_lst, avNil_ow, avNil_sl, avOff_sl, avCut_sl, isAgg_agg, nat_beq_self, List.length_cons, List.length_nil, Nat.reduceAdd, Nat.zero_add, isI_v, isB_v, isS_v, avInt_v, avBool_v, avStr_v, cellAt_zero, cellAt_succ, lget_zero, lget_succ, frAt_zero, frAt_succ, blAt_zero, blAt_succ, isEx_ok, isEx_ne, isEx_none, isRt_some, isRt_none, like_st, likeFG_nil, likeFG_cons, likeBG_nil, likeBG_obj, likeBG_row, likeSG_nil, likeSG_cons, likeT_nil, likeS_nil, isNP_nil, isNP_ob, likeT_ep, isEp_ep, epCells_ep, likeT_agg, likeT_int, likeT_bool, likeT_str, likeT_lst, likeT_sl0, likeT_sl1, likeT_ptr, likeS_int, likeS_bool, likeS_str, likeS_lst, likeS_sl0, likeS_sl1, likeS_ptr, isPtr_ok, isSl_0, isSl_1, beq_self_b, Bool.and_self, Bool.and_true, Bool.true_and, Bool.and_false, Bool.false_and, cond_true, cond_false, Bool.not_true, Bool.not_false, List.length_map, ltI_t (show (k : Int) < (ks.length : Int) by omega), e3, h2, leI_t (show (0 : Int) ≤ (k : Int) by omega), Int.toNat_natCast, e2, Pg.row_eq]
theorem latest (n1 n2 : Bool) (ks : List Pg) (p : Pg) (os : List Int) : ev 5 [.lst n1 9 (ks.map Pg.row), .agg p.row, .lst n2 1 (os.map irow)] = some [.v (.bool true)] := by
  rw [Pg.row_eq, ev5]
  cases h1 : ltI 20 (((ks.map Pg.row).length : Nat) : Int) with
  | true => simp -implicitDefEqProofs only [some_bind', obCells_agg, obCells_ob, isOb_ok, isL_ok, isOw_ok, avXs_lst, avXs_ow, avNil_lst, avNil_ow, avNil_sl, avOff_sl, avCut_sl, isAgg_agg, nat_beq_self, List.length_cons, List.length_nil, Nat.reduceAdd, Nat.zero_add, isI_v, isB_v, isS_v, avInt_v, avBool_v, avStr_v, cellAt_zero, cellAt_succ, lget_zero, lget_succ, frAt_zero, frAt_succ, blAt_zero, blAt_succ, isEx_ok, isEx_ne, isEx_none, isRt_some, isRt_none, like_st, likeFG_nil, likeFG_cons, likeBG_nil, likeBG_obj, likeBG_row, likeSG_nil, likeSG_cons, likeT_nil, likeS_nil, isNP_nil, isNP_ob, likeT_ep, isEp_ep, epCells_ep, likeT_agg, likeT_int, likeT_bool, likeT_str, likeT_lst, likeT_sl0, likeT_sl1, likeT_ptr, likeS_int, likeS_bool, likeS_str, likeS_lst, likeS_sl0, likeS_sl1, likeS_ptr, isPtr_ok, isSl_0, isSl_1, beq_self_b, Bool.and_self, Bool.and_true, Bool.true_and, Bool.and_false, Bool.false_and, cond_true, cond_false, Bool.not_true, Bool.not_false]
  | false =>
    cases h2 : ltI 20 (((os.map irow).length : Nat) : Int) with
    | true => simp -implicitDefEqProofs only [some_bind', obCells_agg, obCells_ob, isOb_ok, isL_ok, isOw_ok, avXs_lst, avXs_ow, avNil_lst, avNil_ow, avNil_sl, avOff_sl, avCut_sl, isAgg_agg, nat_beq_self, List.length_cons, List.length_nil, Nat.reduceAdd, Nat.zero_add, isI_v, isB_v, isS_v, avInt_v, avBool_v, avStr_v, cellAt_zero, cellAt_succ, lget_zero, lget_succ, frAt_zero, frAt_succ, blAt_zero, blAt_succ, isEx_ok, isEx_ne, isEx_none, isRt_some, isRt_none, like_st, likeFG_nil, likeFG_cons, likeBG_nil, likeBG_obj, likeBG_row, likeSG_nil, likeSG_cons, likeT_nil, likeS_nil, isNP_nil, isNP_ob, likeT_ep, isEp_ep, epCells_ep, likeT_agg, likeT_int, likeT_bool, likeT_str, likeT_lst, likeT_sl0, likeT_sl1, likeT_ptr, likeS_int, likeS_bool, likeS_str, likeS_lst, likeS_sl0, likeS_sl1, likeS_ptr, isPtr_ok, isSl_0, isSl_1, beq_self_b, Bool.and_self, Bool.and_true, Bool.true_and, Bool.and_false, Bool.false_and, cond_true, cond_false, Bool.not_true, Bool.not_false]
    | false =>
      have hk : ks.length ≤ 20 := by
        rw [List.length_map] at h1
        rcases Nat.lt_or_ge 20 ks.length with h | h
        · rw [ltI_t (by omega)] at h1; cases h1
        · exact h
      have ho : os.length ≤ 20 := by
        rw [List.length_map] at h2
        rcases Nat.lt_or_ge 20 os.length with h | h
        · rw [ltI_t (by omega)] at h2; cases h2
        · exact h
      have hp : lat (ks ++ [p]) p.l (ks ++ [p]).length = some p := by
        rw [lat_snoc, beq_self_i]; rfl
      obtain ⟨l', y7, e1, e2, e3⟩ := lat_loop n1 (ks.map Pg.row) os p n2 (by omega) os.length 0 (ks ++ [p]) false (by omega) (by simp; omega) hp
      have hr : ([] ++ List.map Pg.row ks) ++ [pgl p.l p.h p.d0 p.d1 p.d2 p.d3 p.d4 p.d5 p.d6] = (ks ++ [p]).map Pg.row := by rw [List.map_append]; rfl
      have l1 := s_pLatest l' y7 p.l (by omega)
      have l2 := s_pLatest ks n1 p.l (by omega)
      rw [e2] at l1
      simp only [Option.getD, Option.isSome] at l1
      have li := in_loop n1 ks p p ((lat ks p.l ks.length).getD pz) true (lat ks p.l ks.length).isSome (by omega) ks.length 0 (by omega)
      have hz : (lat ks p.l 0).isSome = false := rfl
      rw [hz, show ((0 : Nat) : Int) = 0 from rfl] at li
      rw [show ((0 : Nat) : Int) = 0 from rfl] at e1
      rw [cond_false, cond_false, leN_t (by rw [List.length_map]; omega), leN_t (by simp; omega), cond_true, cond_true, hr]
      simp only [pb, Pg.row_eq p] at e1
      refine bnd e1 ?_
      simp -implicitDefEqProofs only [some_bind', obCells_agg, obCells_ob, isOb_ok, isL_ok, isOw_ok, avXs_lst, avXs_ow, avNil_lst, avNil_ow, avNil_sl, avOff_sl, avCut_sl, isAgg_agg, nat_beq_self, List.length_cons, List.length_nil, Nat.reduceAdd, Nat.zero_add, isI_v, isB_v, isS_v, avInt_v, avBool_v, avStr_v, cellAt_zero, cellAt_succ, lget_zero, lget_succ, frAt_zero, frAt_succ, blAt_zero, blAt_succ, isEx_ok, isEx_ne, isEx_none, isRt_some, isRt_none, like_st, likeFG_nil, likeFG_cons, likeBG_nil, likeBG_obj, likeBG_row, likeSG_nil, likeSG_cons, likeT_nil, likeS_nil, isNP_nil, isNP_ob, likeT_ep, isEp_ep, epCells_ep, likeT_agg, likeT_int, likeT_bool, likeT_str, likeT_lst, likeT_sl0, likeT_sl1, likeT_ptr, likeS_int, likeS_bool, likeS_str, likeS_lst, likeS_sl0, likeS_sl1, likeS_ptr, isPtr_ok, isSl_0, isSl_1, beq_self_b, Bool.and_self, Bool.and_true, Bool.true_and, Bool.and_false, Bool.false_and, cond_true, cond_false, Bool.not_true, Bool.not_false]
      rw [Pg.row_eq] at l1
      simp -implicitDefEqProofs only [some_bind', obCells_agg, obCells_ob, isOb_ok, isL_ok, isOw_ok, avXs_lst, avXs_ow, avNil_lst, avNil_ow, avNil_sl, avOff_sl, avCut_sl, isAgg_agg, nat_beq_self, List.length_cons, List.length_nil, Nat.reduceAdd, Nat.zero_add, isI_v, isB_v, isS_v, avInt_v, avBool_v, avStr_v, cellAt_zero, cellAt_succ, lget_zero, lget_succ, frAt_zero, frAt_succ, blAt_zero, blAt_succ, isEx_ok, isEx_ne, isEx_none, isRt_some, isRt_none, like_st, likeFG_nil, likeFG_cons, likeBG_nil, likeBG_obj, likeBG_row, likeSG_nil, likeSG_cons, likeT_nil, likeS_nil, isNP_nil, isNP_ob, likeT_ep, isEp_ep, epCells_ep, likeT_agg, likeT_int, likeT_bool, likeT_str, likeT_lst, likeT_sl0, likeT_sl1, likeT_ptr, likeS_int, likeS_bool, likeS_str, likeS_lst, likeS_sl0, likeS_sl1, likeS_ptr, isPtr_ok, isSl_0, isSl_1, beq_self_b, Bool.and_self, Bool.and_true, Bool.true_and, Bool.and_false, Bool.false_and, cond_true, cond_false, Bool.not_true, Bool.not_false, l1]
      cases hc : lat ks p.l ks.length with
      | none =>
        rw [hc] at l2 li
        simp only [Option.getD, Option.isSome, pb, Pg.row_eq] at l2 li
        have ss := s_sameSelf p
        have sz := s_sameSelf pz
        rw [Pg.row_eq] at ss sz
        simp -implicitDefEqProofs only [some_bind', obCells_agg, obCells_ob, isOb_ok, isL_ok, isOw_ok, avXs_lst, avXs_ow, avNil_lst, avNil_ow, avNil_sl, avOff_sl, avCut_sl, isAgg_agg, nat_beq_self, List.length_cons, List.length_nil, Nat.reduceAdd, Nat.zero_add, isI_v, isB_v, isS_v, avInt_v, avBool_v, avStr_v, cellAt_zero, cellAt_succ, lget_zero, lget_succ, frAt_zero, frAt_succ, blAt_zero, blAt_succ, isEx_ok, isEx_ne, isEx_none, isRt_some, isRt_none, like_st, likeFG_nil, likeFG_cons, likeBG_nil, likeBG_obj, likeBG_row, likeSG_nil, likeSG_cons, likeT_nil, likeS_nil, isNP_nil, isNP_ob, likeT_ep, isEp_ep, epCells_ep, likeT_agg, likeT_int, likeT_bool, likeT_str, likeT_lst, likeT_sl0, likeT_sl1, likeT_ptr, likeS_int, likeS_bool, likeS_str, likeS_lst, likeS_sl0, likeS_sl1, likeS_ptr, isPtr_ok, isSl_0, isSl_1, beq_self_b, Bool.and_self, Bool.and_true, Bool.true_and, Bool.and_false, Bool.false_and, cond_true, cond_false, Bool.not_true, Bool.not_false, l2, li, s_lawawake, ss]
        exact bnd sz rfl
      | some q =>
        rw [hc] at l2 li
        simp only [Option.getD, Option.isSome, pb, Pg.row_eq] at l2 li
        have ss := s_sameSelf p
        rw [Pg.row_eq] at ss
        simp -implicitDefEqProofs only [some_bind', obCells_agg, obCells_ob, isOb_ok, isL_ok, isOw_ok, avXs_lst, avXs_ow, avNil_lst, avNil_ow, avNil_sl, avOff_sl, avCut_sl, isAgg_agg, nat_beq_self, List.length_cons, List.length_nil, Nat.reduceAdd, Nat.zero_add, isI_v, isB_v, isS_v, avInt_v, avBool_v, avStr_v, cellAt_zero, cellAt_succ, lget_zero, lget_succ, frAt_zero, frAt_succ, blAt_zero, blAt_succ, isEx_ok, isEx_ne, isEx_none, isRt_some, isRt_none, like_st, likeFG_nil, likeFG_cons, likeBG_nil, likeBG_obj, likeBG_row, likeSG_nil, likeSG_cons, likeT_nil, likeS_nil, isNP_nil, isNP_ob, likeT_ep, isEp_ep, epCells_ep, likeT_agg, likeT_int, likeT_bool, likeT_str, likeT_lst, likeT_sl0, likeT_sl1, likeT_ptr, likeS_int, likeS_bool, likeS_str, likeS_lst, likeS_sl0, likeS_sl1, likeS_ptr, isPtr_ok, isSl_0, isSl_1, beq_self_b, Bool.and_self, Bool.and_true, Bool.true_and, Bool.and_false, Bool.false_and, cond_true, cond_false, Bool.not_true, Bool.not_false, l2, li, s_lawawake, ss]
theorem latest_all {N : Nat} (l : List AV) (h : TypA Try.prog N Try.f5.params.toList l) : ∃ n, evF Try.prog cfg n 5 l = some [.v (.bool true)] := by
  rw [show Try.f5.params.toList = [53, 43, 54] by kernel_rfl] at h
  obtain ⟨a0, r, rfl, h0, h⟩ := h
  obtain ⟨a1, r, rfl, h1, h⟩ := h
  obtain ⟨a2, r, rfl, h2, h⟩ := h
  obtain rfl : r = [] := h
  obtain ⟨a0n, a0, rfl, _, _, f0⟩ := openV53 h0
  obtain ⟨p0, p1, p2, p3, p4, p5, p6, p7, p8, rfl, _⟩ := openV43 h1
  obtain ⟨a2n, a2, rfl, _, _, f2⟩ := openV54 h2
  obtain ⟨ks, rfl, _⟩ := rows_of Pg.row (fun _ => True) a0 fun y hy => by
    obtain ⟨a0, a1, a2, a3, a4, a5, a6, a7, a8, e, _⟩ := openC43 (f0 y hy)
    exact ⟨⟨a0, a1, a2, a3, a4, a5, a6, a7, a8⟩, e, trivial⟩
  obtain ⟨os, rfl, _⟩ := rows_of irow (fun _ => True) a2 fun y hy => by
    obtain ⟨m, e, _⟩ := typC_int (k := .i64) (by kernel_rfl) (f2 y hy)
    exact ⟨m, e, trivial⟩
  exact evF_of_evL (latest a0n a2n ks ⟨p0, p1, p2, p3, p4, p5, p6, p7, p8⟩ os)
end Go.Proofs.Ytcalaooabgklbaa
