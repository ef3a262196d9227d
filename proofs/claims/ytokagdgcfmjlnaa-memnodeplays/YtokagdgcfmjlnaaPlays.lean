/- MemnodePlays holds for every input. No conditions. -/
import Derived.Test.YtokagdgcfmjlnaaOpr
import Derived.Test.YtokagdgcfmjlnaaEq5
set_option linter.all false
namespace Go.Proofs.Ytokagdgcfmjlnaa
open Go.Ev
attribute [local congr] bind_first cond_first
theorem l_plays (b : Bool) (os : List Opr) (n : Int) (ho : ∀ o ∈ os, o.ok) (hn : os.length ≤ 60) : ∀ (k i : Nat) (ws : List Int) (dn : Bool), i + k = os.length → (ws.length : Int) = 8 * n → 1 < ws.length → ws.length ≤ 100 → Wok ws →
    ∃ ws' dn', Wok ws' ∧ ws'.length = ws.length ∧ lp 5 0 0 ⟨[(0, (.v (.int .i64 n))), (1, (.lst b 5 (os.map Opr.row))), (5, (.ptr 0 0 0)), (7, (.ptr 2 0 0)), (8, (.v (.int .i64 (i : Int))))], [⟨1, 60, 2, true, [[(.sl false 1 0 none), (.v (.bool dn))]]⟩, ⟨1, 31, 1, false, ws.map wr⟩, ⟨1, 36, 2, true, [[(.sl false 3 0 none), (.v (.bool (!dn)))]]⟩, ⟨1, 31, 1, false, ws.map wr⟩]⟩ =
      some ⟨some 0, ⟨[(5, (.ptr 0 0 0)), (7, (.ptr 2 0 0))], [⟨1, 60, 2, true, [[(.sl false 1 0 none), (.v (.bool dn'))]]⟩, ⟨1, 31, 1, false, ws'.map wr⟩, ⟨1, 36, 2, true, [[(.sl false 3 0 none), (.v (.bool (!dn')))]]⟩, ⟨1, 31, 1, false, ws'.map wr⟩]⟩, []⟩
  | 0, i, ws, dn, hi, hw, hw1, hw2, hok => by
    refine ⟨ws, dn, hok, rfl, ?_⟩
    rw [lp5_0, List.length_map, ltI_f (by omega)]; rfl
  | k + 1, i, ws, dn, hi, hw, hw1, hw2, hok => by
    have hlt : i < os.length := by omega
    have hoo := ho _ (mem_getD os o0 i hlt)
    have hg : lget (os.map Opr.row) i = Opr.row (os.getD i o0) := lget_mapD Opr.row os o0 i hlt
    have e1 : IntKind.i64.wrap ((i : Int) + 1) = ((i + 1 : Nat) : Int) := by rw [w_i64]; omega
    generalize os.getD i o0 = o at *
    have hlen := opW_len ws dn o
    obtain ⟨ws', dn', w0, w1, w2⟩ := l_plays b os n ho hn k (i + 1) (opW ws dn o) (opD ws dn o) (by omega) (by rw [hlen]; exact hw) (by omega) (by omega) (wok_op hok dn o hoo)
    refine ⟨ws', dn', w0, w1.trans hlen, ?_⟩
    have hd := s_op ws dn o ⟨hw1, by omega⟩ hoo
    rw [← hlen] at hw hw1 hw2
    generalize opW ws dn o = V at *
    generalize opD ws dn o = D at *
    have u1 := s_Up false (V.map wr) D
    have u2 := s_Boot V D hw1
    have u3 := s_Lines false (V.map wr) D (by rw [List.length_map]; omega)
    have u4 : ltI 1 (((V.map wr).length - 0 : Nat) : Int) = true := ltI_t (by rw [List.length_map]; omega)
    have u5 : ltN 1 (V.map wr).length = true := ltN_t (by rw [List.length_map]; omega)
    have u6 := get_wr V 1 hw1
    have u7 : (((V.map wr).length / 8 : Nat) : Int) = n := by rw [List.length_map]; omega
    rw [u7] at u3
    rw [lp5_0, List.length_map, ltI_t (by omega), leI_t (by omega), Int.toNat_natCast, hg, Opr.row_eq, e1]
    simp -implicitDefEqProofs only [some_bind', obCells_agg, obCells_ob, isOb_ok, isL_ok, isOw_ok, avXs_lst, avXs_ow, avNil_lst, avNil_ow, avNil_sl, avOff_sl, avCut_sl, isAgg_agg, nat_beq_self, List.length_cons, List.length_nil, Nat.reduceAdd, Nat.zero_add, isI_v, isB_v, isS_v, avInt_v, avBool_v, avStr_v, cellAt_zero, cellAt_succ, lget_zero, lget_succ, frAt_zero, frAt_succ, blAt_zero, blAt_succ, isEx_ok, isEx_ne, isEx_none, isRt_some, isRt_none, like_st, likeFG_nil, likeFG_cons, likeBG_nil, likeBG_obj, likeBG_row, likeSG_nil, likeSG_cons, likeT_nil, likeS_nil, isNP_nil, isNP_ob, likeT_ep, isEp_ep, epCells_ep, likeT_agg, likeT_int, likeT_bool, likeT_str, likeT_lst, likeT_sl0, likeT_sl1, likeT_ptr, likeS_int, likeS_bool, likeS_str, likeS_lst, likeS_sl0, likeS_sl1, likeS_ptr, isPtr_ok, isSl_0, isSl_1, beq_self_b, Bool.and_self, Bool.and_true, Bool.true_and, Bool.and_false, Bool.false_and, cond_true, cond_false, Bool.not_true, Bool.not_false]
    refine bnd hd ?_
    simp -implicitDefEqProofs only [some_bind', obCells_agg, obCells_ob, isOb_ok, isL_ok, isOw_ok, avXs_lst, avXs_ow, avNil_lst, avNil_ow, avNil_sl, avOff_sl, avCut_sl, isAgg_agg, nat_beq_self, List.length_cons, List.length_nil, Nat.reduceAdd, Nat.zero_add, isI_v, isB_v, isS_v, avInt_v, avBool_v, avStr_v, cellAt_zero, cellAt_succ, lget_zero, lget_succ, frAt_zero, frAt_succ, blAt_zero, blAt_succ, isEx_ok, isEx_ne, isEx_none, isRt_some, isRt_none, like_st, likeFG_nil, likeFG_cons, likeBG_nil, likeBG_obj, likeBG_row, likeSG_nil, likeSG_cons, likeT_nil, likeS_nil, isNP_nil, isNP_ob, likeT_ep, isEp_ep, epCells_ep, likeT_agg, likeT_int, likeT_bool, likeT_str, likeT_lst, likeT_sl0, likeT_sl1, likeT_ptr, likeS_int, likeS_bool, likeS_str, likeS_lst, likeS_sl0, likeS_sl1, likeS_ptr, isPtr_ok, isSl_0, isSl_1, beq_self_b, Bool.and_self, Bool.and_true, Bool.true_and, Bool.and_false, Bool.false_and, cond_true, cond_false, Bool.not_true, Bool.not_false, likeG_nil, likeG_cons, likeB_ow, likeB_bool, u1, u2, u3, u4, u5, u6, wr_eq, beq_self_i, not_beq_self]
    exact w2
theorem plays_all {N : Nat} (l : List AV) (h : TypA Try.prog N Try.f5.params.toList l) : ∃ n, evF Try.prog cfg n 5 l = some [.v (.bool true)] := by
  rw [show Try.f5.params.toList = [3, 34] by kernel_rfl] at h
  obtain ⟨a0, r, rfl, h0, h⟩ := h
  obtain ⟨a1, r, rfl, h1, h⟩ := h
  obtain rfl : r = [] := h
  obtain ⟨t, rfl, ht⟩ := openV3 h0
  obtain ⟨b, xs, rfl, _, _, f0⟩ := openV34 h1
  obtain ⟨os, rfl, ho⟩ := rows_of Opr.row Opr.ok xs fun y hy => by
    obtain ⟨a0, a1, a2, a3, a4, e, r0, r1, r2, r3, r4⟩ := openC39 (f0 y hy)
    exact ⟨⟨a0, a1, a2, a3, a4⟩, e, r0, r1, r2, ⟨r3.1, by show a3 < _; omega⟩, ⟨r4.1, by show a4 < _; omega⟩⟩
  refine evF_of_evL ?_
  refine (ev5 _ _ _).trans ?_
  have hp := s_Pick t 5 (by decide) (by decide)
  have hr := pick_range (n := t) (m := 5) (by decide)
  have e1 : IntKind.i64.wrap (pick t 5 + 1) = pick t 5 + 1 := by rw [w_i64]; omega
  have e2 : IntKind.i64.wrap ((pick t 5 + 1) * 8) = (pick t 5 + 1) * 8 := by rw [w_i64]; omega
  have hN := s_New (pick t 5 + 1) ⟨by omega, by omega⟩
  generalize hm : pick t 5 + 1 = m at *
  refine bnd hp ?_
  simp only [cellAt_zero, isI_v, cond_true, avInt_v, hm, e1]
  refine bnd hN ?_
  simp -implicitDefEqProofs only [some_bind', obCells_agg, obCells_ob, isOb_ok, isL_ok, isOw_ok, avXs_lst, avXs_ow, avNil_lst, avNil_ow, avNil_sl, avOff_sl, avCut_sl, isAgg_agg, nat_beq_self, List.length_cons, List.length_nil, Nat.reduceAdd, Nat.zero_add, isI_v, isB_v, isS_v, avInt_v, avBool_v, avStr_v, cellAt_zero, cellAt_succ, lget_zero, lget_succ, frAt_zero, frAt_succ, blAt_zero, blAt_succ, isEx_ok, isEx_ne, isEx_none, isRt_some, isRt_none, like_st, likeFG_nil, likeFG_cons, likeBG_nil, likeBG_obj, likeBG_row, likeSG_nil, likeSG_cons, likeT_nil, likeS_nil, isNP_nil, isNP_ob, likeT_ep, isEp_ep, epCells_ep, likeT_agg, likeT_int, likeT_bool, likeT_str, likeT_lst, likeT_sl0, likeT_sl1, likeT_ptr, likeS_int, likeS_bool, likeS_str, likeS_lst, likeS_sl0, likeS_sl1, likeS_ptr, isPtr_ok, isSl_0, isSl_1, beq_self_b, Bool.and_self, Bool.and_true, Bool.true_and, Bool.and_false, Bool.false_and, cond_true, cond_false, Bool.not_true, Bool.not_false, isNP_ob, s_awake, Int.reduceBEq, List.length_map]
  by_cases hn : os.length ≤ 60
  · obtain ⟨ws, dn, w1, w2, w3⟩ := l_plays b os m ho hn os.length 0 (List.replicate (8 * m.toNat) 0) false (by omega) (by rw [List.length_replicate]; omega) (by rw [List.length_replicate]; omega) (by rw [List.length_replicate]; omega) (fun w hw => by obtain ⟨_, rfl⟩ := List.mem_replicate.1 hw; exact ⟨by decide, by decide⟩)
    have q1 : leI 0 (m * 8) = true := leI_t (by omega)
    have q2 : leI (m * 8) (m * 8) = true := leI_t (by omega)
    have q3 : leI (m * 8 * 8) 281474976710656 = true := leI_t (by omega)
    have q4 : leI (m * 8) 281474976710656 = true := leI_t (by omega)
    have q5 : List.replicate (m * 8).toNat [AV.v (.int .u64 0)] = (List.replicate (8 * m.toNat) 0).map wr := by
      rw [show (m * 8).toNat = 8 * m.toNat by omega, List.map_replicate]; rfl
    rw [ltI_f (by omega)]
    simp -implicitDefEqProofs only [some_bind', obCells_agg, obCells_ob, isOb_ok, isL_ok, isOw_ok, avXs_lst, avXs_ow, avNil_lst, avNil_ow, avNil_sl, avOff_sl, avCut_sl, isAgg_agg, nat_beq_self, List.length_cons, List.length_nil, Nat.reduceAdd, Nat.zero_add, isI_v, isB_v, isS_v, avInt_v, avBool_v, avStr_v, cellAt_zero, cellAt_succ, lget_zero, lget_succ, frAt_zero, frAt_succ, blAt_zero, blAt_succ, isEx_ok, isEx_ne, isEx_none, isRt_some, isRt_none, like_st, likeFG_nil, likeFG_cons, likeBG_nil, likeBG_obj, likeBG_row, likeSG_nil, likeSG_cons, likeT_nil, likeS_nil, isNP_nil, isNP_ob, likeT_ep, isEp_ep, epCells_ep, likeT_agg, likeT_int, likeT_bool, likeT_str, likeT_lst, likeT_sl0, likeT_sl1, likeT_ptr, likeS_int, likeS_bool, likeS_str, likeS_lst, likeS_sl0, likeS_sl1, likeS_ptr, isPtr_ok, isSl_0, isSl_1, beq_self_b, Bool.and_self, Bool.and_true, Bool.true_and, Bool.and_false, Bool.false_and, cond_true, cond_false, Bool.not_true, Bool.not_false, e2, q1, q2, q3, q4, q5]
    have z0 : ((0 : Nat) : Int) = 0 := rfl
    rw [z0, Bool.not_false] at w3
    refine bnd w3 ?_
    rw [List.length_replicate] at w2
    have i1 := s_Image ws dn w1 (by omega)
    have i2 := s_SameImg false false ws (!dn) w1 (by omega)
    simp -implicitDefEqProofs only [some_bind', obCells_agg, obCells_ob, isOb_ok, isL_ok, isOw_ok, avXs_lst, avXs_ow, avNil_lst, avNil_ow, avNil_sl, avOff_sl, avCut_sl, isAgg_agg, nat_beq_self, List.length_cons, List.length_nil, Nat.reduceAdd, Nat.zero_add, isI_v, isB_v, isS_v, avInt_v, avBool_v, avStr_v, cellAt_zero, cellAt_succ, lget_zero, lget_succ, frAt_zero, frAt_succ, blAt_zero, blAt_succ, isEx_ok, isEx_ne, isEx_none, isRt_some, isRt_none, like_st, likeFG_nil, likeFG_cons, likeBG_nil, likeBG_obj, likeBG_row, likeSG_nil, likeSG_cons, likeT_nil, likeS_nil, isNP_nil, isNP_ob, likeT_ep, isEp_ep, epCells_ep, likeT_agg, likeT_int, likeT_bool, likeT_str, likeT_lst, likeT_sl0, likeT_sl1, likeT_ptr, likeS_int, likeS_bool, likeS_str, likeS_lst, likeS_sl0, likeS_sl1, likeS_ptr, isPtr_ok, isSl_0, isSl_1, beq_self_b, Bool.and_self, Bool.and_true, Bool.true_and, Bool.and_false, Bool.false_and, cond_true, cond_false, Bool.not_true, Bool.not_false, i1, i2, all_btsV, Bool.false_or]
  · rw [ltI_t (by omega)]; rfl
end Go.Proofs.Ytokagdgcfmjlnaa
