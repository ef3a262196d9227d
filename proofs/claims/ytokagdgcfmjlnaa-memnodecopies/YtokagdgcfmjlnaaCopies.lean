/- MemnodeCopies holds for every input. No conditions. -/
import Derived.Test.YtokagdgcfmjlnaaOpr
import Derived.Test.YtokagdgcfmjlnaaEq6
set_option linter.all false
namespace Go.Proofs.Ytokagdgcfmjlnaa
open Go.Ev
attribute [local congr] bind_first cond_first
abbrev bN (l : Nat) (d : Bool) : Blk := ⟨1, 60, 2, true, [[.sl false l 0 none, .v (.bool d)]]⟩
abbrev bR (l : Nat) (d : Bool) : Blk := ⟨1, 36, 2, true, [[.sl false l 0 none, .v (.bool (!d))]]⟩
abbrev bW (ws : List Int) : Blk := ⟨1, 31, 1, false, ws.map wr⟩
theorem l_c0 (b c e : Bool) (os : List Opr) (xs ys : List (List AV)) (ho : ∀ o ∈ os, o.ok) (hn : os.length ≤ 20) : ∀ (k i : Nat) (ws : List Int) (dn : Bool), i + k = os.length → ws.length = 16 → Wok ws →
    ∃ ws' dn', Wok ws' ∧ ws'.length = 16 ∧ lp 6 0 0 ⟨[(0, (.lst b 5 (os.map Opr.row))), (1, (.lst c 5 xs)), (2, (.lst e 5 ys)), (7, (.ptr 0 0 0)), (9, (.ptr 2 0 0)), (10, (.v (.int .i64 (i : Int))))], [bN 1 dn, bW ws, bR 3 dn, bW ws]⟩ =
      some ⟨some 0, ⟨[(1, (.lst c 5 xs)), (2, (.lst e 5 ys)), (7, (.ptr 0 0 0)), (9, (.ptr 2 0 0))], [bN 1 dn', bW ws', bR 3 dn', bW ws']⟩, []⟩
  | 0, i, ws, dn, hi, hw, hok => by
    refine ⟨ws, dn, hok, hw, ?_⟩
    rw [lp6_0, List.length_map, ltI_f (by omega)]; rfl
  | k + 1, i, ws, dn, hi, hw, hok => by
    have hlt : i < os.length := by omega
    have hoo := ho _ (mem_getD os o0 i hlt)
    have hg : lget (os.map Opr.row) i = Opr.row (os.getD i o0) := lget_mapD Opr.row os o0 i hlt
    have e1 : IntKind.i64.wrap ((i : Int) + 1) = ((i + 1 : Nat) : Int) := by rw [w_i64]; omega
    generalize os.getD i o0 = o at *
    obtain ⟨ws', dn', w0, w1, w2⟩ := l_c0 b c e os xs ys ho hn k (i + 1) (opW ws dn o) (opD ws dn o) (by omega) (by rw [opW_len]; exact hw) (wok_op hok dn o hoo)
    refine ⟨ws', dn', w0, w1, ?_⟩
    have hd := s_op ws dn o ⟨by omega, by omega⟩ hoo
    rw [lp6_0, List.length_map, ltI_t (by omega), leI_t (by omega), Int.toNat_natCast, hg, Opr.row_eq, e1]
    simp -implicitDefEqProofs only [some_bind', obCells_agg, obCells_ob, isOb_ok, isL_ok, isOw_ok, avXs_lst, avXs_ow, avNil_lst, avNil_ow, avNil_sl, avOff_sl, avCut_sl, isAgg_agg, nat_beq_self, List.length_cons, List.length_nil, Nat.reduceAdd, Nat.zero_add, isI_v, isB_v, isS_v, avInt_v, avBool_v, avStr_v, cellAt_zero, cellAt_succ, lget_zero, lget_succ, frAt_zero, frAt_succ, blAt_zero, blAt_succ, isEx_ok, isEx_ne, isEx_none, isRt_some, isRt_none, like_st, likeFG_nil, likeFG_cons, likeBG_nil, likeBG_obj, likeBG_row, likeSG_nil, likeSG_cons, likeT_nil, likeS_nil, isNP_nil, isNP_ob, likeT_ep, isEp_ep, epCells_ep, likeT_agg, likeT_int, likeT_bool, likeT_str, likeT_lst, likeT_sl0, likeT_sl1, likeT_ptr, likeS_int, likeS_bool, likeS_str, likeS_lst, likeS_sl0, likeS_sl1, likeS_ptr, isPtr_ok, isSl_0, isSl_1, beq_self_b, Bool.and_self, Bool.and_true, Bool.true_and, Bool.and_false, Bool.false_and, cond_true, cond_false, Bool.not_true, Bool.not_false]
    refine bnd hd ?_
    simp -implicitDefEqProofs only [some_bind', obCells_agg, obCells_ob, isOb_ok, isL_ok, isOw_ok, avXs_lst, avXs_ow, avNil_lst, avNil_ow, avNil_sl, avOff_sl, avCut_sl, isAgg_agg, nat_beq_self, List.length_cons, List.length_nil, Nat.reduceAdd, Nat.zero_add, isI_v, isB_v, isS_v, avInt_v, avBool_v, avStr_v, cellAt_zero, cellAt_succ, lget_zero, lget_succ, frAt_zero, frAt_succ, blAt_zero, blAt_succ, isEx_ok, isEx_ne, isEx_none, isRt_some, isRt_none, like_st, likeFG_nil, likeFG_cons, likeBG_nil, likeBG_obj, likeBG_row, likeSG_nil, likeSG_cons, likeT_nil, likeS_nil, isNP_nil, isNP_ob, likeT_ep, isEp_ep, epCells_ep, likeT_agg, likeT_int, likeT_bool, likeT_str, likeT_lst, likeT_sl0, likeT_sl1, likeT_ptr, likeS_int, likeS_bool, likeS_str, likeS_lst, likeS_sl0, likeS_sl1, likeS_ptr, isPtr_ok, isSl_0, isSl_1, beq_self_b, Bool.and_self, Bool.and_true, Bool.true_and, Bool.and_false, Bool.false_and, cond_true, cond_false, Bool.not_true, Bool.not_false, likeG_nil, likeG_cons, likeB_ow, likeB_bool]
    exact w2
theorem l_c1 (c e : Bool) (os : List Opr) (ys : List (List AV)) (vs : List Int) (dm : Bool) (ho : ∀ o ∈ os, o.ok) (hn : os.length ≤ 20) : ∀ (k i : Nat) (ws : List Int) (dn : Bool), i + k = os.length → ws.length = 16 → Wok ws →
    ∃ ws' dn', Wok ws' ∧ ws'.length = 16 ∧ lp 6 1 0 ⟨[(1, (.lst c 5 (os.map Opr.row))), (2, (.lst e 5 ys)), (7, (.ptr 0 0 0)), (9, (.ptr 2 0 0)), (11, (.ptr 4 0 0)), (12, (.ptr 6 0 0)), (13, (.v (.int .i64 (i : Int))))], [bN 1 dn, bW ws, bR 3 dn, bW ws, bN 5 dm, bW vs, bR 7 dm, bW vs]⟩ =
      some ⟨some 2, ⟨[(2, (.lst e 5 ys)), (7, (.ptr 0 0 0)), (9, (.ptr 2 0 0)), (11, (.ptr 4 0 0)), (12, (.ptr 6 0 0))], [bN 1 dn', bW ws', bR 3 dn', bW ws', bN 5 dm, bW vs, bR 7 dm, bW vs]⟩, []⟩
  | 0, i, ws, dn, hi, hw, hok => by
    refine ⟨ws, dn, hok, hw, ?_⟩
    rw [lp6_1, List.length_map, ltI_f (by omega)]; rfl
  | k + 1, i, ws, dn, hi, hw, hok => by
    have hlt : i < os.length := by omega
    have hoo := ho _ (mem_getD os o0 i hlt)
    have hg : lget (os.map Opr.row) i = Opr.row (os.getD i o0) := lget_mapD Opr.row os o0 i hlt
    have e1 : IntKind.i64.wrap ((i : Int) + 1) = ((i + 1 : Nat) : Int) := by rw [w_i64]; omega
    generalize os.getD i o0 = o at *
    obtain ⟨ws', dn', w0, w1, w2⟩ := l_c1 c e os ys vs dm ho hn k (i + 1) (opW ws dn o) (opD ws dn o) (by omega) (by rw [opW_len]; exact hw) (wok_op hok dn o hoo)
    refine ⟨ws', dn', w0, w1, ?_⟩
    have hd := s_op ws dn o ⟨by omega, by omega⟩ hoo
    rw [lp6_1, List.length_map, ltI_t (by omega), leI_t (by omega), Int.toNat_natCast, hg, Opr.row_eq, e1]
    simp -implicitDefEqProofs only [some_bind', obCells_agg, obCells_ob, isOb_ok, isL_ok, isOw_ok, avXs_lst, avXs_ow, avNil_lst, avNil_ow, avNil_sl, avOff_sl, avCut_sl, isAgg_agg, nat_beq_self, List.length_cons, List.length_nil, Nat.reduceAdd, Nat.zero_add, isI_v, isB_v, isS_v, avInt_v, avBool_v, avStr_v, cellAt_zero, cellAt_succ, lget_zero, lget_succ, frAt_zero, frAt_succ, blAt_zero, blAt_succ, isEx_ok, isEx_ne, isEx_none, isRt_some, isRt_none, like_st, likeFG_nil, likeFG_cons, likeBG_nil, likeBG_obj, likeBG_row, likeSG_nil, likeSG_cons, likeT_nil, likeS_nil, isNP_nil, isNP_ob, likeT_ep, isEp_ep, epCells_ep, likeT_agg, likeT_int, likeT_bool, likeT_str, likeT_lst, likeT_sl0, likeT_sl1, likeT_ptr, likeS_int, likeS_bool, likeS_str, likeS_lst, likeS_sl0, likeS_sl1, likeS_ptr, isPtr_ok, isSl_0, isSl_1, beq_self_b, Bool.and_self, Bool.and_true, Bool.true_and, Bool.and_false, Bool.false_and, cond_true, cond_false, Bool.not_true, Bool.not_false]
    refine bnd hd ?_
    simp -implicitDefEqProofs only [some_bind', obCells_agg, obCells_ob, isOb_ok, isL_ok, isOw_ok, avXs_lst, avXs_ow, avNil_lst, avNil_ow, avNil_sl, avOff_sl, avCut_sl, isAgg_agg, nat_beq_self, List.length_cons, List.length_nil, Nat.reduceAdd, Nat.zero_add, isI_v, isB_v, isS_v, avInt_v, avBool_v, avStr_v, cellAt_zero, cellAt_succ, lget_zero, lget_succ, frAt_zero, frAt_succ, blAt_zero, blAt_succ, isEx_ok, isEx_ne, isEx_none, isRt_some, isRt_none, like_st, likeFG_nil, likeFG_cons, likeBG_nil, likeBG_obj, likeBG_row, likeSG_nil, likeSG_cons, likeT_nil, likeS_nil, isNP_nil, isNP_ob, likeT_ep, isEp_ep, epCells_ep, likeT_agg, likeT_int, likeT_bool, likeT_str, likeT_lst, likeT_sl0, likeT_sl1, likeT_ptr, likeS_int, likeS_bool, likeS_str, likeS_lst, likeS_sl0, likeS_sl1, likeS_ptr, isPtr_ok, isSl_0, isSl_1, beq_self_b, Bool.and_self, Bool.and_true, Bool.true_and, Bool.and_false, Bool.false_and, cond_true, cond_false, Bool.not_true, Bool.not_false, likeG_nil, likeG_cons, likeB_ow, likeB_bool]
    exact w2
theorem l_c2 (e : Bool) (os : List Opr) (vs : List Int) (dm : Bool) (ho : ∀ o ∈ os, o.ok) (hn : os.length ≤ 20) : ∀ (k i : Nat) (ws : List Int) (dn : Bool), i + k = os.length → ws.length = 16 → Wok ws →
    ∃ ws' dn', Wok ws' ∧ ws'.length = 16 ∧ lp 6 2 0 ⟨[(2, (.lst e 5 (os.map Opr.row))), (7, (.ptr 0 0 0)), (9, (.ptr 2 0 0)), (11, (.ptr 4 0 0)), (12, (.ptr 6 0 0)), (14, (.v (.int .i64 (i : Int))))], [bN 1 dm, bW vs, bR 3 dm, bW vs, bN 5 dn, bW ws, bR 7 dn, bW ws]⟩ =
      some ⟨some 4, ⟨[(7, (.ptr 0 0 0)), (9, (.ptr 2 0 0)), (11, (.ptr 4 0 0)), (12, (.ptr 6 0 0))], [bN 1 dm, bW vs, bR 3 dm, bW vs, bN 5 dn', bW ws', bR 7 dn', bW ws']⟩, []⟩
  | 0, i, ws, dn, hi, hw, hok => by
    refine ⟨ws, dn, hok, hw, ?_⟩
    rw [lp6_2, List.length_map, ltI_f (by omega)]; rfl
  | k + 1, i, ws, dn, hi, hw, hok => by
    have hlt : i < os.length := by omega
    have hoo := ho _ (mem_getD os o0 i hlt)
    have hg : lget (os.map Opr.row) i = Opr.row (os.getD i o0) := lget_mapD Opr.row os o0 i hlt
    have e1 : IntKind.i64.wrap ((i : Int) + 1) = ((i + 1 : Nat) : Int) := by rw [w_i64]; omega
    generalize os.getD i o0 = o at *
    obtain ⟨ws', dn', w0, w1, w2⟩ := l_c2 e os vs dm ho hn k (i + 1) (opW ws dn o) (opD ws dn o) (by omega) (by rw [opW_len]; exact hw) (wok_op hok dn o hoo)
    refine ⟨ws', dn', w0, w1, ?_⟩
    have hd := s_op ws dn o ⟨by omega, by omega⟩ hoo
    rw [lp6_2, List.length_map, ltI_t (by omega), leI_t (by omega), Int.toNat_natCast, hg, Opr.row_eq, e1]
    simp -implicitDefEqProofs only [some_bind', obCells_agg, obCells_ob, isOb_ok, isL_ok, isOw_ok, avXs_lst, avXs_ow, avNil_lst, avNil_ow, avNil_sl, avOff_sl, avCut_sl, isAgg_agg, nat_beq_self, List.length_cons, List.length_nil, Nat.reduceAdd, Nat.zero_add, isI_v, isB_v, isS_v, avInt_v, avBool_v, avStr_v, cellAt_zero, cellAt_succ, lget_zero, lget_succ, frAt_zero, frAt_succ, blAt_zero, blAt_succ, isEx_ok, isEx_ne, isEx_none, isRt_some, isRt_none, like_st, likeFG_nil, likeFG_cons, likeBG_nil, likeBG_obj, likeBG_row, likeSG_nil, likeSG_cons, likeT_nil, likeS_nil, isNP_nil, isNP_ob, likeT_ep, isEp_ep, epCells_ep, likeT_agg, likeT_int, likeT_bool, likeT_str, likeT_lst, likeT_sl0, likeT_sl1, likeT_ptr, likeS_int, likeS_bool, likeS_str, likeS_lst, likeS_sl0, likeS_sl1, likeS_ptr, isPtr_ok, isSl_0, isSl_1, beq_self_b, Bool.and_self, Bool.and_true, Bool.true_and, Bool.and_false, Bool.false_and, cond_true, cond_false, Bool.not_true, Bool.not_false]
    refine bnd hd ?_
    simp -implicitDefEqProofs only [some_bind', obCells_agg, obCells_ob, isOb_ok, isL_ok, isOw_ok, avXs_lst, avXs_ow, avNil_lst, avNil_ow, avNil_sl, avOff_sl, avCut_sl, isAgg_agg, nat_beq_self, List.length_cons, List.length_nil, Nat.reduceAdd, Nat.zero_add, isI_v, isB_v, isS_v, avInt_v, avBool_v, avStr_v, cellAt_zero, cellAt_succ, lget_zero, lget_succ, frAt_zero, frAt_succ, blAt_zero, blAt_succ, isEx_ok, isEx_ne, isEx_none, isRt_some, isRt_none, like_st, likeFG_nil, likeFG_cons, likeBG_nil, likeBG_obj, likeBG_row, likeSG_nil, likeSG_cons, likeT_nil, likeS_nil, isNP_nil, isNP_ob, likeT_ep, isEp_ep, epCells_ep, likeT_agg, likeT_int, likeT_bool, likeT_str, likeT_lst, likeT_sl0, likeT_sl1, likeT_ptr, likeS_int, likeS_bool, likeS_str, likeS_lst, likeS_sl0, likeS_sl1, likeS_ptr, isPtr_ok, isSl_0, isSl_1, beq_self_b, Bool.and_self, Bool.and_true, Bool.true_and, Bool.and_false, Bool.false_and, cond_true, cond_false, Bool.not_true, Bool.not_false, likeG_nil, likeG_cons, likeB_ow, likeB_bool]
    exact w2
theorem oprs {N : Nat} {xs : List (List AV)} (f0 : ∀ y ∈ xs, TypC Try.prog N 11 39 y) : ∃ ps : List Opr, xs = ps.map Opr.row ∧ ∀ p ∈ ps, p.ok :=
  rows_of Opr.row Opr.ok xs fun y hy => by
    obtain ⟨a0, a1, a2, a3, a4, e, r0, r1, r2, r3, r4⟩ := openC39 (f0 y hy)
    exact ⟨⟨a0, a1, a2, a3, a4⟩, e, r0, r1, r2, ⟨r3.1, by show a3 < _; omega⟩, ⟨r4.1, by show a4 < _; omega⟩⟩
theorem copies_all {N : Nat} (l : List AV) (h : TypA Try.prog N Try.f6.params.toList l) : ∃ n, evF Try.prog cfg n 6 l = some [.v (.bool true)] := by
  rw [show Try.f6.params.toList = [34, 34, 34] by kernel_rfl] at h
  obtain ⟨a0, r, rfl, h0, h⟩ := h
  obtain ⟨a1, r, rfl, h1, h⟩ := h
  obtain ⟨a2, r, rfl, h2, h⟩ := h
  obtain rfl : r = [] := h
  obtain ⟨b, xs, rfl, _, _, f0⟩ := openV34 h0
  obtain ⟨c, ys, rfl, _, _, f1⟩ := openV34 h1
  obtain ⟨e, zs, rfl, _, _, f2⟩ := openV34 h2
  obtain ⟨os, rfl, ho⟩ := oprs f0
  obtain ⟨ps, rfl, hp⟩ := oprs f1
  obtain ⟨qs, rfl, hq⟩ := oprs f2
  refine evF_of_evL ?_
  refine (ev6 _ _ _ _ _ _).trans ?_
  simp only [List.length_map]
  by_cases n0 : os.length ≤ 20
  · by_cases n1 : ps.length ≤ 20
    · by_cases n2 : qs.length ≤ 20
      · have hN := s_New 2 ⟨by decide, by decide⟩
        have hx : (List.replicate 16 (0 : Int)).map wr = [[.v (.int .u64 0)], [.v (.int .u64 0)], [.v (.int .u64 0)], [.v (.int .u64 0)], [.v (.int .u64 0)], [.v (.int .u64 0)], [.v (.int .u64 0)], [.v (.int .u64 0)], [.v (.int .u64 0)], [.v (.int .u64 0)], [.v (.int .u64 0)], [.v (.int .u64 0)], [.v (.int .u64 0)], [.v (.int .u64 0)], [.v (.int .u64 0)], [.v (.int .u64 0)]] := rfl
        rw [show 8 * (2 : Int).toNat = 16 from rfl, ndO, hx] at hN
        obtain ⟨ws, dn, w1, w2, w3⟩ := l_c0 b c e os (ps.map Opr.row) (qs.map Opr.row) ho n0 os.length 0 (List.replicate 16 0) false (by omega) (by simp) (fun w hw => by obtain ⟨_, rfl⟩ := List.mem_replicate.1 hw; exact ⟨by decide, by decide⟩)
        rw [bW, hx] at w3
        obtain ⟨vs, dv, v1, v2, v3⟩ := l_c1 c e ps (qs.map Opr.row) ws dn hp n1 ps.length 0 ws dn (by omega) w2 w1
        obtain ⟨us, du, u1, u2, u3⟩ := l_c2 e qs vs dv hq n2 qs.length 0 ws dn (by omega) w2 w1
        have hc := s_CloneW false ws (by omega) (fun h => by cases h)
        have hcp : ev 25 [ndP ws dn] = some [ndO ws dn] := by
          rw [ev25]
          refine bnd hc ?_
          simp -implicitDefEqProofs only [some_bind', obCells_agg, obCells_ob, isOb_ok, isL_ok, isOw_ok, avXs_lst, avXs_ow, avNil_lst, avNil_ow, avNil_sl, avOff_sl, avCut_sl, isAgg_agg, nat_beq_self, List.length_cons, List.length_nil, Nat.reduceAdd, Nat.zero_add, isI_v, isB_v, isS_v, avInt_v, avBool_v, avStr_v, cellAt_zero, cellAt_succ, lget_zero, lget_succ, frAt_zero, frAt_succ, blAt_zero, blAt_succ, isEx_ok, isEx_ne, isEx_none, isRt_some, isRt_none, like_st, likeFG_nil, likeFG_cons, likeBG_nil, likeBG_obj, likeBG_row, likeSG_nil, likeSG_cons, likeT_nil, likeS_nil, isNP_nil, isNP_ob, likeT_ep, isEp_ep, epCells_ep, likeT_agg, likeT_int, likeT_bool, likeT_str, likeT_lst, likeT_sl0, likeT_sl1, likeT_ptr, likeS_int, likeS_bool, likeS_str, likeS_lst, likeS_sl0, likeS_sl1, likeS_ptr, isPtr_ok, isSl_0, isSl_1, beq_self_b, Bool.and_self, Bool.and_true, Bool.true_and, Bool.and_false, Bool.false_and, cond_true, cond_false, Bool.not_true, Bool.not_false]
        have i1 := s_Image vs dv v1 (by omega)
        have i2 := s_SameImg false false vs (!dv) v1 (by omega)
        have i3 := s_Image us du u1 (by omega)
        have i4 := s_SameImg false false us (!du) u1 (by omega)
        have he : List.isEmpty (ws.map wr) = false := by
          cases ws with
          | nil => simp at w2
          | cons => rfl
        have hle : leN ((ws.map wr).length * 8) 140737488355328 = true := leN_t (by rw [List.length_map]; omega)
        rw [ltI_f (by omega), ltI_f (by omega), ltI_f (by omega)]
        refine bnd hN ?_
        simp -implicitDefEqProofs only [some_bind', obCells_agg, obCells_ob, isOb_ok, isL_ok, isOw_ok, avXs_lst, avXs_ow, avNil_lst, avNil_ow, avNil_sl, avOff_sl, avCut_sl, isAgg_agg, nat_beq_self, List.length_cons, List.length_nil, Nat.reduceAdd, Nat.zero_add, isI_v, isB_v, isS_v, avInt_v, avBool_v, avStr_v, cellAt_zero, cellAt_succ, lget_zero, lget_succ, frAt_zero, frAt_succ, blAt_zero, blAt_succ, isEx_ok, isEx_ne, isEx_none, isRt_some, isRt_none, like_st, likeFG_nil, likeFG_cons, likeBG_nil, likeBG_obj, likeBG_row, likeSG_nil, likeSG_cons, likeT_nil, likeS_nil, isNP_nil, isNP_ob, likeT_ep, isEp_ep, epCells_ep, likeT_agg, likeT_int, likeT_bool, likeT_str, likeT_lst, likeT_sl0, likeT_sl1, likeT_ptr, likeS_int, likeS_bool, likeS_str, likeS_lst, likeS_sl0, likeS_sl1, likeS_ptr, isPtr_ok, isSl_0, isSl_1, beq_self_b, Bool.and_self, Bool.and_true, Bool.true_and, Bool.and_false, Bool.false_and, cond_true, cond_false, Bool.not_true, Bool.not_false, isNP_ob, s_awake, Int.reduceBEq]
        refine bnd w3 ?_
        simp -implicitDefEqProofs only [some_bind', obCells_agg, obCells_ob, isOb_ok, isL_ok, isOw_ok, avXs_lst, avXs_ow, avNil_lst, avNil_ow, avNil_sl, avOff_sl, avCut_sl, isAgg_agg, nat_beq_self, List.length_cons, List.length_nil, Nat.reduceAdd, Nat.zero_add, isI_v, isB_v, isS_v, avInt_v, avBool_v, avStr_v, cellAt_zero, cellAt_succ, lget_zero, lget_succ, frAt_zero, frAt_succ, blAt_zero, blAt_succ, isEx_ok, isEx_ne, isEx_none, isRt_some, isRt_none, like_st, likeFG_nil, likeFG_cons, likeBG_nil, likeBG_obj, likeBG_row, likeSG_nil, likeSG_cons, likeT_nil, likeS_nil, isNP_nil, isNP_ob, likeT_ep, isEp_ep, epCells_ep, likeT_agg, likeT_int, likeT_bool, likeT_str, likeT_lst, likeT_sl0, likeT_sl1, likeT_ptr, likeS_int, likeS_bool, likeS_str, likeS_lst, likeS_sl0, likeS_sl1, likeS_ptr, isPtr_ok, isSl_0, isSl_1, beq_self_b, Bool.and_self, Bool.and_true, Bool.true_and, Bool.and_false, Bool.false_and, cond_true, cond_false, Bool.not_true, Bool.not_false]
        refine bnd hcp ?_
        simp -implicitDefEqProofs only [some_bind', obCells_agg, obCells_ob, isOb_ok, isL_ok, isOw_ok, avXs_lst, avXs_ow, avNil_lst, avNil_ow, avNil_sl, avOff_sl, avCut_sl, isAgg_agg, nat_beq_self, List.length_cons, List.length_nil, Nat.reduceAdd, Nat.zero_add, isI_v, isB_v, isS_v, avInt_v, avBool_v, avStr_v, cellAt_zero, cellAt_succ, lget_zero, lget_succ, frAt_zero, frAt_succ, blAt_zero, blAt_succ, isEx_ok, isEx_ne, isEx_none, isRt_some, isRt_none, like_st, likeFG_nil, likeFG_cons, likeBG_nil, likeBG_obj, likeBG_row, likeSG_nil, likeSG_cons, likeT_nil, likeS_nil, isNP_nil, isNP_ob, likeT_ep, isEp_ep, epCells_ep, likeT_agg, likeT_int, likeT_bool, likeT_str, likeT_lst, likeT_sl0, likeT_sl1, likeT_ptr, likeS_int, likeS_bool, likeS_str, likeS_lst, likeS_sl0, likeS_sl1, likeS_ptr, isPtr_ok, isSl_0, isSl_1, beq_self_b, Bool.and_self, Bool.and_true, Bool.true_and, Bool.and_false, Bool.false_and, cond_true, cond_false, Bool.not_true, Bool.not_false, isNP_ob, all_wr, hle, he, Bool.false_or]
        refine bnd v3 ?_
        simp -implicitDefEqProofs only [some_bind', obCells_agg, obCells_ob, isOb_ok, isL_ok, isOw_ok, avXs_lst, avXs_ow, avNil_lst, avNil_ow, avNil_sl, avOff_sl, avCut_sl, isAgg_agg, nat_beq_self, List.length_cons, List.length_nil, Nat.reduceAdd, Nat.zero_add, isI_v, isB_v, isS_v, avInt_v, avBool_v, avStr_v, cellAt_zero, cellAt_succ, lget_zero, lget_succ, frAt_zero, frAt_succ, blAt_zero, blAt_succ, isEx_ok, isEx_ne, isEx_none, isRt_some, isRt_none, like_st, likeFG_nil, likeFG_cons, likeBG_nil, likeBG_obj, likeBG_row, likeSG_nil, likeSG_cons, likeT_nil, likeS_nil, isNP_nil, isNP_ob, likeT_ep, isEp_ep, epCells_ep, likeT_agg, likeT_int, likeT_bool, likeT_str, likeT_lst, likeT_sl0, likeT_sl1, likeT_ptr, likeS_int, likeS_bool, likeS_str, likeS_lst, likeS_sl0, likeS_sl1, likeS_ptr, isPtr_ok, isSl_0, isSl_1, beq_self_b, Bool.and_self, Bool.and_true, Bool.true_and, Bool.and_false, Bool.false_and, cond_true, cond_false, Bool.not_true, Bool.not_false]
        refine bnd u3 ?_
        simp -implicitDefEqProofs only [some_bind', obCells_agg, obCells_ob, isOb_ok, isL_ok, isOw_ok, avXs_lst, avXs_ow, avNil_lst, avNil_ow, avNil_sl, avOff_sl, avCut_sl, isAgg_agg, nat_beq_self, List.length_cons, List.length_nil, Nat.reduceAdd, Nat.zero_add, isI_v, isB_v, isS_v, avInt_v, avBool_v, avStr_v, cellAt_zero, cellAt_succ, lget_zero, lget_succ, frAt_zero, frAt_succ, blAt_zero, blAt_succ, isEx_ok, isEx_ne, isEx_none, isRt_some, isRt_none, like_st, likeFG_nil, likeFG_cons, likeBG_nil, likeBG_obj, likeBG_row, likeSG_nil, likeSG_cons, likeT_nil, likeS_nil, isNP_nil, isNP_ob, likeT_ep, isEp_ep, epCells_ep, likeT_agg, likeT_int, likeT_bool, likeT_str, likeT_lst, likeT_sl0, likeT_sl1, likeT_ptr, likeS_int, likeS_bool, likeS_str, likeS_lst, likeS_sl0, likeS_sl1, likeS_ptr, isPtr_ok, isSl_0, isSl_1, beq_self_b, Bool.and_self, Bool.and_true, Bool.true_and, Bool.and_false, Bool.false_and, cond_true, cond_false, Bool.not_true, Bool.not_false, i1, i2, i3, i4, all_btsV, Bool.false_or]
      · rw [ltI_f (by omega), ltI_f (by omega), ltI_t (by omega)]; rfl
    · rw [ltI_f (by omega), ltI_t (by omega)]; rfl
  · rw [ltI_t (by omega)]; rfl
end Go.Proofs.Ytokagdgcfmjlnaa
