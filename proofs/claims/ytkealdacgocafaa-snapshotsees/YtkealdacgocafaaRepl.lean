/- Replacing a version, looking pages up. -/
import Derived.Test.YtkealdacgocafaaSpec
set_option linter.all false
namespace Go.Proofs.Ytkealdacgocafaa
open Go.Ev
attribute [local congr] bind_first cond_first
def newV (c : Pg) (v : Ver) : Ver := ⟨v.key, v.c0, v.c1, v.c2, v.del, v.ep, v.st, c.l, c.d0 / 256 % 16777216⟩
def replOk (h c : Pg) (v : Ver) : Bool := (c.d0 % 256 == 1) && (valid c.l (c.d0 / 256 % 16777216) && (!(c.l == h.l) && ((v.key == (rawV h).key) && validV (newV c v))))
def replXs (h c : Pg) (v : Ver) : List (List AV) := bif ltI c.l h.l then [(fillP c (rawV h)).row, (fillP h (newV c v)).row] else [(fillP h (newV c v)).row, (fillP c (rawV h)).row]
def replR (h c : Pg) (v : Ver) : Bool × List (List AV) × Int :=
  bif !(h.h % 256 == 0) then (true, [], 3) else bif !(c.h % 256 == 0) then (true, [], 3) else bif !(readable h) then (true, [], 14) else bif replOk h c v then (false, replXs h c v, 0) else (true, [], 1)
theorem newV_ok (c : Pg) (v : Ver) (hc : c.ok) (hv : v.ok) : (newV c v).ok := by
  obtain ⟨v0, v1, v2, v3, v4, v5, _⟩ := hv
  exact ⟨v0, v1, v2, v3, v4, v5, hc.1, ⟨by show _ ≤ c.d0 / 256 % 16777216; omega, by show c.d0 / 256 % 16777216 ≤ _; omega⟩⟩
theorem s_pReplace (h c : Pg) (v : Ver) (hh : h.ok) (hc : c.ok) (hv : v.ok) : ev 9 [.agg (pgl h.l h.h h.d0 h.d1 h.d2 h.d3 h.d4 h.d5 h.d6), .agg (pgl c.l c.h c.d0 c.d1 c.d2 c.d3 c.d4 c.d5 c.d6), .agg (verl v.key v.c0 v.c1 v.c2 v.del v.ep v.st v.pl v.pg)] = some [.lst (replR h c v).1 9 (replR h c v).2.1, .v (.int .i64 (replR h c v).2.2)] := by
  have hn := newV_ok c v hc hv
  have hr := rawV_ok h hh
  have a1 := s_pLocked (l := h.l) (d0 := h.d0) (d1 := h.d1) (d2 := h.d2) (d3 := h.d3) (d4 := h.d4) (d5 := h.d5) (d6 := h.d6) hh.2.1.1 (by have := hh.2.1.2; omega)
  have a2 := s_pLocked (l := c.l) (d0 := c.d0) (d1 := c.d1) (d2 := c.d2) (d3 := c.d3) (d4 := c.d4) (d5 := c.d5) (d6 := c.d6) hc.2.1.1 (by have := hc.2.1.2; omega)
  have a3 := s_recRead h hh
  have a4 := s_pAt (l := c.l) (h := c.h) (d1 := c.d1) (d2 := c.d2) (d3 := c.d3) (d4 := c.d4) (d5 := c.d5) (d6 := c.d6) hc.2.2.1.1 (by have := hc.2.2.1.2; omega)
  have a5 := s_pUnpackTag c.d0 hc.2.2.1.1 (by have := hc.2.2.1.2; omega)
  have a6 := s_pValid c.l (c.d0 / 256 % 16777216)
  have a7 : ev 20 [.agg (verl v.key v.c0 v.c1 v.c2 v.del v.ep v.st c.l (c.d0 / 256 % 16777216))] = some [.v (.bool (validV (newV c v)))] := s_recValid (newV c v) hv.2.2.2.2.2.1.1 (by show v.st < _; have := hv.2.2.2.2.2.1.2; omega)
  have a8 := s_fill c (rawV h) hc hr
  have a9 : ev 22 [.agg (pgl h.l h.h h.d0 h.d1 h.d2 h.d3 h.d4 h.d5 h.d6), .agg (verl v.key v.c0 v.c1 v.c2 v.del v.ep v.st c.l (c.d0 / 256 % 16777216))] = some [.agg (fillP h (newV c v)).row] := s_fill h (newV c v) hh hn
  rw [ev9]
  unfold replR replOk replXs
  cases c1 : (h.h % 256 == 0) with
  | false => rw [c1] at a1; simp -implicitDefEqProofs only [some_bind', obCells_agg, obCells_ob, isOb_ok, isL_ok, isOw_ok, avXs_lst, avXs_ow, avNil_lst, avNil_ow, avNil_sl, avOff_sl, avCut_sl, isAgg_agg, nat_beq_self, List.length_cons, List.length_nil, Nat.reduceAdd, Nat.zero_add, isI_v, isB_v, isS_v, avInt_v, avBool_v, avStr_v, cellAt_zero, cellAt_succ, lget_zero, lget_succ, frAt_zero, frAt_succ, blAt_zero, blAt_succ, isEx_ok, isEx_ne, isEx_none, isRt_some, isRt_none, like_st, likeFG_nil, likeFG_cons, likeBG_nil, likeBG_obj, likeBG_row, likeSG_nil, likeSG_cons, likeT_nil, likeS_nil, isNP_nil, isNP_ob, likeT_ep, isEp_ep, epCells_ep, likeT_agg, likeT_int, likeT_bool, likeT_str, likeT_lst, likeT_sl0, likeT_sl1, likeT_ptr, likeS_int, likeS_bool, likeS_str, likeS_lst, likeS_sl0, likeS_sl1, likeS_ptr, isPtr_ok, isSl_0, isSl_1, beq_self_b, Bool.and_self, Bool.and_true, Bool.true_and, Bool.and_false, Bool.false_and, cond_true, cond_false, Bool.not_true, Bool.not_false, a1]
  | true =>
  rw [c1] at a1
  cases c2 : (c.h % 256 == 0) with
  | false => rw [c2] at a2; simp -implicitDefEqProofs only [some_bind', obCells_agg, obCells_ob, isOb_ok, isL_ok, isOw_ok, avXs_lst, avXs_ow, avNil_lst, avNil_ow, avNil_sl, avOff_sl, avCut_sl, isAgg_agg, nat_beq_self, List.length_cons, List.length_nil, Nat.reduceAdd, Nat.zero_add, isI_v, isB_v, isS_v, avInt_v, avBool_v, avStr_v, cellAt_zero, cellAt_succ, lget_zero, lget_succ, frAt_zero, frAt_succ, blAt_zero, blAt_succ, isEx_ok, isEx_ne, isEx_none, isRt_some, isRt_none, like_st, likeFG_nil, likeFG_cons, likeBG_nil, likeBG_obj, likeBG_row, likeSG_nil, likeSG_cons, likeT_nil, likeS_nil, isNP_nil, isNP_ob, likeT_ep, isEp_ep, epCells_ep, likeT_agg, likeT_int, likeT_bool, likeT_str, likeT_lst, likeT_sl0, likeT_sl1, likeT_ptr, likeS_int, likeS_bool, likeS_str, likeS_lst, likeS_sl0, likeS_sl1, likeS_ptr, isPtr_ok, isSl_0, isSl_1, beq_self_b, Bool.and_self, Bool.and_true, Bool.true_and, Bool.and_false, Bool.false_and, cond_true, cond_false, Bool.not_true, Bool.not_false, a1, a2]
  | true =>
  rw [c2] at a2
  unfold readR at a3
  cases c3 : readable h with
  | false => rw [c3] at a3; simp only [cond_false, vzero, Ver.row_eq] at a3; simp -implicitDefEqProofs only [some_bind', obCells_agg, obCells_ob, isOb_ok, isL_ok, isOw_ok, avXs_lst, avXs_ow, avNil_lst, avNil_ow, avNil_sl, avOff_sl, avCut_sl, isAgg_agg, nat_beq_self, List.length_cons, List.length_nil, Nat.reduceAdd, Nat.zero_add, isI_v, isB_v, isS_v, avInt_v, avBool_v, avStr_v, cellAt_zero, cellAt_succ, lget_zero, lget_succ, frAt_zero, frAt_succ, blAt_zero, blAt_succ, isEx_ok, isEx_ne, isEx_none, isRt_some, isRt_none, like_st, likeFG_nil, likeFG_cons, likeBG_nil, likeBG_obj, likeBG_row, likeSG_nil, likeSG_cons, likeT_nil, likeS_nil, isNP_nil, isNP_ob, likeT_ep, isEp_ep, epCells_ep, likeT_agg, likeT_int, likeT_bool, likeT_str, likeT_lst, likeT_sl0, likeT_sl1, likeT_ptr, likeS_int, likeS_bool, likeS_str, likeS_lst, likeS_sl0, likeS_sl1, likeS_ptr, isPtr_ok, isSl_0, isSl_1, beq_self_b, Bool.and_self, Bool.and_true, Bool.true_and, Bool.and_false, Bool.false_and, cond_true, cond_false, Bool.not_true, Bool.not_false, a1, a2, a3]; rfl
  | true =>
  rw [c3] at a3
  simp only [cond_true, Ver.row_eq] at a3
  cases c4 : (c.d0 % 256 == 1) with
  | false => simp -implicitDefEqProofs only [some_bind', obCells_agg, obCells_ob, isOb_ok, isL_ok, isOw_ok, avXs_lst, avXs_ow, avNil_lst, avNil_ow, avNil_sl, avOff_sl, avCut_sl, isAgg_agg, nat_beq_self, List.length_cons, List.length_nil, Nat.reduceAdd, Nat.zero_add, isI_v, isB_v, isS_v, avInt_v, avBool_v, avStr_v, cellAt_zero, cellAt_succ, lget_zero, lget_succ, frAt_zero, frAt_succ, blAt_zero, blAt_succ, isEx_ok, isEx_ne, isEx_none, isRt_some, isRt_none, like_st, likeFG_nil, likeFG_cons, likeBG_nil, likeBG_obj, likeBG_row, likeSG_nil, likeSG_cons, likeT_nil, likeS_nil, isNP_nil, isNP_ob, likeT_ep, isEp_ep, epCells_ep, likeT_agg, likeT_int, likeT_bool, likeT_str, likeT_lst, likeT_sl0, likeT_sl1, likeT_ptr, likeS_int, likeS_bool, likeS_str, likeS_lst, likeS_sl0, likeS_sl1, likeS_ptr, isPtr_ok, isSl_0, isSl_1, beq_self_b, Bool.and_self, Bool.and_true, Bool.true_and, Bool.and_false, Bool.false_and, cond_true, cond_false, Bool.not_true, Bool.not_false, a1, a2, a3, a4, a5, c4]; rfl
  | true =>
  cases c5 : valid c.l (c.d0 / 256 % 16777216) with
  | false => rw [c5] at a6; simp -implicitDefEqProofs only [some_bind', obCells_agg, obCells_ob, isOb_ok, isL_ok, isOw_ok, avXs_lst, avXs_ow, avNil_lst, avNil_ow, avNil_sl, avOff_sl, avCut_sl, isAgg_agg, nat_beq_self, List.length_cons, List.length_nil, Nat.reduceAdd, Nat.zero_add, isI_v, isB_v, isS_v, avInt_v, avBool_v, avStr_v, cellAt_zero, cellAt_succ, lget_zero, lget_succ, frAt_zero, frAt_succ, blAt_zero, blAt_succ, isEx_ok, isEx_ne, isEx_none, isRt_some, isRt_none, like_st, likeFG_nil, likeFG_cons, likeBG_nil, likeBG_obj, likeBG_row, likeSG_nil, likeSG_cons, likeT_nil, likeS_nil, isNP_nil, isNP_ob, likeT_ep, isEp_ep, epCells_ep, likeT_agg, likeT_int, likeT_bool, likeT_str, likeT_lst, likeT_sl0, likeT_sl1, likeT_ptr, likeS_int, likeS_bool, likeS_str, likeS_lst, likeS_sl0, likeS_sl1, likeS_ptr, isPtr_ok, isSl_0, isSl_1, beq_self_b, Bool.and_self, Bool.and_true, Bool.true_and, Bool.and_false, Bool.false_and, cond_true, cond_false, Bool.not_true, Bool.not_false, a1, a2, a3, a4, a5, a6, c4]; rfl
  | true =>
  rw [c5] at a6
  cases c6 : (c.l == h.l) with
  | true => simp -implicitDefEqProofs only [some_bind', obCells_agg, obCells_ob, isOb_ok, isL_ok, isOw_ok, avXs_lst, avXs_ow, avNil_lst, avNil_ow, avNil_sl, avOff_sl, avCut_sl, isAgg_agg, nat_beq_self, List.length_cons, List.length_nil, Nat.reduceAdd, Nat.zero_add, isI_v, isB_v, isS_v, avInt_v, avBool_v, avStr_v, cellAt_zero, cellAt_succ, lget_zero, lget_succ, frAt_zero, frAt_succ, blAt_zero, blAt_succ, isEx_ok, isEx_ne, isEx_none, isRt_some, isRt_none, like_st, likeFG_nil, likeFG_cons, likeBG_nil, likeBG_obj, likeBG_row, likeSG_nil, likeSG_cons, likeT_nil, likeS_nil, isNP_nil, isNP_ob, likeT_ep, isEp_ep, epCells_ep, likeT_agg, likeT_int, likeT_bool, likeT_str, likeT_lst, likeT_sl0, likeT_sl1, likeT_ptr, likeS_int, likeS_bool, likeS_str, likeS_lst, likeS_sl0, likeS_sl1, likeS_ptr, isPtr_ok, isSl_0, isSl_1, beq_self_b, Bool.and_self, Bool.and_true, Bool.true_and, Bool.and_false, Bool.false_and, cond_true, cond_false, Bool.not_true, Bool.not_false, a1, a2, a3, a4, a5, a6, c4, c6]; rfl
  | false =>
  cases c7 : (v.key == (rawV h).key) with
  | false => simp -implicitDefEqProofs only [some_bind', obCells_agg, obCells_ob, isOb_ok, isL_ok, isOw_ok, avXs_lst, avXs_ow, avNil_lst, avNil_ow, avNil_sl, avOff_sl, avCut_sl, isAgg_agg, nat_beq_self, List.length_cons, List.length_nil, Nat.reduceAdd, Nat.zero_add, isI_v, isB_v, isS_v, avInt_v, avBool_v, avStr_v, cellAt_zero, cellAt_succ, lget_zero, lget_succ, frAt_zero, frAt_succ, blAt_zero, blAt_succ, isEx_ok, isEx_ne, isEx_none, isRt_some, isRt_none, like_st, likeFG_nil, likeFG_cons, likeBG_nil, likeBG_obj, likeBG_row, likeSG_nil, likeSG_cons, likeT_nil, likeS_nil, isNP_nil, isNP_ob, likeT_ep, isEp_ep, epCells_ep, likeT_agg, likeT_int, likeT_bool, likeT_str, likeT_lst, likeT_sl0, likeT_sl1, likeT_ptr, likeS_int, likeS_bool, likeS_str, likeS_lst, likeS_sl0, likeS_sl1, likeS_ptr, isPtr_ok, isSl_0, isSl_1, beq_self_b, Bool.and_self, Bool.and_true, Bool.true_and, Bool.and_false, Bool.false_and, cond_true, cond_false, Bool.not_true, Bool.not_false, a1, a2, a3, a4, a5, a6, c4, c6, c7]; rfl
  | true =>
  cases c8 : validV (newV c v) with
  | false => rw [c8] at a7; simp -implicitDefEqProofs only [some_bind', obCells_agg, obCells_ob, isOb_ok, isL_ok, isOw_ok, avXs_lst, avXs_ow, avNil_lst, avNil_ow, avNil_sl, avOff_sl, avCut_sl, isAgg_agg, nat_beq_self, List.length_cons, List.length_nil, Nat.reduceAdd, Nat.zero_add, isI_v, isB_v, isS_v, avInt_v, avBool_v, avStr_v, cellAt_zero, cellAt_succ, lget_zero, lget_succ, frAt_zero, frAt_succ, blAt_zero, blAt_succ, isEx_ok, isEx_ne, isEx_none, isRt_some, isRt_none, like_st, likeFG_nil, likeFG_cons, likeBG_nil, likeBG_obj, likeBG_row, likeSG_nil, likeSG_cons, likeT_nil, likeS_nil, isNP_nil, isNP_ob, likeT_ep, isEp_ep, epCells_ep, likeT_agg, likeT_int, likeT_bool, likeT_str, likeT_lst, likeT_sl0, likeT_sl1, likeT_ptr, likeS_int, likeS_bool, likeS_str, likeS_lst, likeS_sl0, likeS_sl1, likeS_ptr, isPtr_ok, isSl_0, isSl_1, beq_self_b, Bool.and_self, Bool.and_true, Bool.true_and, Bool.and_false, Bool.false_and, cond_true, cond_false, Bool.not_true, Bool.not_false, a1, a2, a3, a4, a5, a6, a7, c4, c6, c7]; rfl
  | true =>
    rw [c8] at a7
    have l1 : (fillP c (rawV h)).l = c.l := rfl
    have l2 : (fillP h (newV c v)).l = h.l := rfl
    generalize fillP c (rawV h) = s at *
    generalize fillP h (newV c v) = w at *
    rw [Pg.row_eq] at a8 a9
    simp only [Pg.row_eq]
    rw [l1] at a8
    rw [l2] at a9
    rw [l1, l2]
    cases c9 : ltI c.l h.l <;> simp -implicitDefEqProofs only [some_bind', obCells_agg, obCells_ob, isOb_ok, isL_ok, isOw_ok, avXs_lst, avXs_ow, avNil_lst, avNil_ow, avNil_sl, avOff_sl, avCut_sl, isAgg_agg, nat_beq_self, List.length_cons, List.length_nil, Nat.reduceAdd, Nat.zero_add, isI_v, isB_v, isS_v, avInt_v, avBool_v, avStr_v, cellAt_zero, cellAt_succ, lget_zero, lget_succ, frAt_zero, frAt_succ, blAt_zero, blAt_succ, isEx_ok, isEx_ne, isEx_none, isRt_some, isRt_none, like_st, likeFG_nil, likeFG_cons, likeBG_nil, likeBG_obj, likeBG_row, likeSG_nil, likeSG_cons, likeT_nil, likeS_nil, isNP_nil, isNP_ob, likeT_ep, isEp_ep, epCells_ep, likeT_agg, likeT_int, likeT_bool, likeT_str, likeT_lst, likeT_sl0, likeT_sl1, likeT_ptr, likeS_int, likeS_bool, likeS_str, likeS_lst, likeS_sl0, likeS_sl1, likeS_ptr, isPtr_ok, isSl_0, isSl_1, beq_self_b, Bool.and_self, Bool.and_true, Bool.true_and, Bool.and_false, Bool.false_and, cond_true, cond_false, Bool.not_true, Bool.not_false, a1, a2, a3, a4, a5, a6, a7, a8, a9, c4, c6, c7, c9] <;> rfl
theorem vrI {k a b c : Int} {d : Bool} {e s l g : Int} (h1 : u32ok k) (h2 : i64ok a) (h3 : i64ok b) (h4 : i64ok c) (h5 : u32ok e) (h6 : u64ok s) (h7 : i64ok l) (h8 : i64ok g) : Ver.ok ⟨k, a, b, c, d, e, s, l, g⟩ := ⟨h1, h2, h3, h4, h5, h6, h7, h8⟩
def heap (l : Int) : Bool := leI 104 l && ltI l 256
/-- What allocating makes of a page. -/
def allocR (l h d k a : Int) : List AV :=
  cond (heap l && !(ltI k 1 || ltI 4 k))
    (cond (h % 256 == 0)
      (cond (d % 256 == 0)
        (cond (d / 256 % 16777216 == 16777215) [.agg zero9, .v (.int .i64 18)]
          [.agg (pg l h (tag k (d / 256 % 16777216 + 1) a) 0 0 0 0 0 0), .v (.int .i64 0)])
        [.agg zero9, .v (.int .i64 17)])
      [.agg zero9, .v (.int .i64 3)])
    [.agg zero9, .v (.int .i64 1)]
/-- What releasing makes of a page. -/
def freeR (l h d : Int) : List AV :=
  cond (heap l)
    (cond (h % 256 == 0)
      (cond (d % 256 == 0) [.agg zero9, .v (.int .i64 16)]
        [.agg (pg l h (tag 0 (d / 256 % 16777216) 0) 0 0 0 0 0 0), .v (.int .i64 0)])
      [.agg zero9, .v (.int .i64 3)])
    [.agg zero9, .v (.int .i64 1)]
theorem s_ptagged {l h d0 d1 d2 d3 d4 d5 d6 k g a : Int} (h0 : 0 ≤ a) (h1 : a < 4294967296) : ev 19 [.agg (pg l h d0 d1 d2 d3 d4 d5 d6), .agg [.v (.int .i64 k), .v (.int .i64 g), .v (.int .u32 a)]] = some [.agg (pg l h (tag k g a) 0 0 0 0 0 0)] := by
  rw [ev19, s_pPackTag _ _ _ h0 h1]
  simp -implicitDefEqProofs only [some_bind', obCells_agg, obCells_ob, isOb_ok, isL_ok, isOw_ok, avXs_lst, avXs_ow, avNil_lst, avNil_ow, avNil_sl, avOff_sl, avCut_sl, isAgg_agg, nat_beq_self, List.length_cons, List.length_nil, Nat.reduceAdd, Nat.zero_add, isI_v, isB_v, isS_v, avInt_v, avBool_v, avStr_v, cellAt_zero, cellAt_succ, lget_zero, lget_succ, frAt_zero, frAt_succ, blAt_zero, blAt_succ, isEx_ok, isEx_ne, isEx_none, isRt_some, isRt_none, like_st, likeFG_nil, likeFG_cons, likeBG_nil, likeBG_obj, likeBG_row, likeSG_nil, likeSG_cons, likeT_nil, likeS_nil, isNP_nil, isNP_ob, likeT_ep, isEp_ep, epCells_ep, likeT_agg, likeT_int, likeT_bool, likeT_str, likeT_lst, likeT_sl0, likeT_sl1, likeT_ptr, likeS_int, likeS_bool, likeS_str, likeS_lst, likeS_sl0, likeS_sl1, likeS_ptr, isPtr_ok, isSl_0, isSl_1, beq_self_b, Bool.and_self, Bool.and_true, Bool.true_and, Bool.and_false, Bool.false_and, cond_true, cond_false, Bool.not_true, Bool.not_false]
section
variable {l h d0 d1 d2 d3 d4 d5 d6 k a : Int} (hh : 0 ≤ h ∧ h < 18446744073709551616) (hd : 0 ≤ d0 ∧ d0 < 18446744073709551616) (ha : 0 ≤ a ∧ a < 4294967296)
include hh hd ha
theorem s_pAllocate : ev 7 [.agg (pg l h d0 d1 d2 d3 d4 d5 d6), .v (.int .i64 k), .v (.int .u32 a)] = some (allocR l h d0 k a) := by
  rw [ev7, s_ptagOf hd.1 hd.2]
  have h23 := s_pLocked (l := l) (d0 := d0) (d1 := d1) (d2 := d2) (d3 := d3) (d4 := d4) (d5 := d5) (d6 := d6) hh.1 hh.2
  have h43 := fun g => s_ptagged (l := l) (h := h) (d0 := d0) (d1 := d1) (d2 := d2) (d3 := d3) (d4 := d4) (d5 := d5) (d6 := d6) (k := k) (g := g) ha.1 ha.2
  have e : IntKind.i64.wrap (d0 / 256 % 16777216 + 1) = d0 / 256 % 16777216 + 1 := by rw [w_i64]; omega
  unfold allocR heap
  cases hc : (leI 104 l && ltI l 256) with
  | false => simp -implicitDefEqProofs only [some_bind', obCells_agg, obCells_ob, isOb_ok, isL_ok, isOw_ok, avXs_lst, avXs_ow, avNil_lst, avNil_ow, avNil_sl, avOff_sl, avCut_sl, isAgg_agg, nat_beq_self, List.length_cons, List.length_nil, Nat.reduceAdd, Nat.zero_add, isI_v, isB_v, isS_v, avInt_v, avBool_v, avStr_v, cellAt_zero, cellAt_succ, lget_zero, lget_succ, frAt_zero, frAt_succ, blAt_zero, blAt_succ, isEx_ok, isEx_ne, isEx_none, isRt_some, isRt_none, like_st, likeFG_nil, likeFG_cons, likeBG_nil, likeBG_obj, likeBG_row, likeSG_nil, likeSG_cons, likeT_nil, likeS_nil, isNP_nil, isNP_ob, likeT_ep, isEp_ep, epCells_ep, likeT_agg, likeT_int, likeT_bool, likeT_str, likeT_lst, likeT_sl0, likeT_sl1, likeT_ptr, likeS_int, likeS_bool, likeS_str, likeS_lst, likeS_sl0, likeS_sl1, likeS_ptr, isPtr_ok, isSl_0, isSl_1, beq_self_b, Bool.and_self, Bool.and_true, Bool.true_and, Bool.and_false, Bool.false_and, cond_true, cond_false, Bool.not_true, Bool.not_false, s_pinHeap, hc]
  | true =>
    cases h2 : ltI k 1 with
    | true => simp -implicitDefEqProofs only [some_bind', obCells_agg, obCells_ob, isOb_ok, isL_ok, isOw_ok, avXs_lst, avXs_ow, avNil_lst, avNil_ow, avNil_sl, avOff_sl, avCut_sl, isAgg_agg, nat_beq_self, List.length_cons, List.length_nil, Nat.reduceAdd, Nat.zero_add, isI_v, isB_v, isS_v, avInt_v, avBool_v, avStr_v, cellAt_zero, cellAt_succ, lget_zero, lget_succ, frAt_zero, frAt_succ, blAt_zero, blAt_succ, isEx_ok, isEx_ne, isEx_none, isRt_some, isRt_none, like_st, likeFG_nil, likeFG_cons, likeBG_nil, likeBG_obj, likeBG_row, likeSG_nil, likeSG_cons, likeT_nil, likeS_nil, isNP_nil, isNP_ob, likeT_ep, isEp_ep, epCells_ep, likeT_agg, likeT_int, likeT_bool, likeT_str, likeT_lst, likeT_sl0, likeT_sl1, likeT_ptr, likeS_int, likeS_bool, likeS_str, likeS_lst, likeS_sl0, likeS_sl1, likeS_ptr, isPtr_ok, isSl_0, isSl_1, beq_self_b, Bool.and_self, Bool.and_true, Bool.true_and, Bool.and_false, Bool.false_and, cond_true, cond_false, Bool.not_true, Bool.not_false, s_pinHeap, hc, h2, Bool.true_or]
    | false =>
      cases h3 : ltI 4 k with
      | true => simp -implicitDefEqProofs only [some_bind', obCells_agg, obCells_ob, isOb_ok, isL_ok, isOw_ok, avXs_lst, avXs_ow, avNil_lst, avNil_ow, avNil_sl, avOff_sl, avCut_sl, isAgg_agg, nat_beq_self, List.length_cons, List.length_nil, Nat.reduceAdd, Nat.zero_add, isI_v, isB_v, isS_v, avInt_v, avBool_v, avStr_v, cellAt_zero, cellAt_succ, lget_zero, lget_succ, frAt_zero, frAt_succ, blAt_zero, blAt_succ, isEx_ok, isEx_ne, isEx_none, isRt_some, isRt_none, like_st, likeFG_nil, likeFG_cons, likeBG_nil, likeBG_obj, likeBG_row, likeSG_nil, likeSG_cons, likeT_nil, likeS_nil, isNP_nil, isNP_ob, likeT_ep, isEp_ep, epCells_ep, likeT_agg, likeT_int, likeT_bool, likeT_str, likeT_lst, likeT_sl0, likeT_sl1, likeT_ptr, likeS_int, likeS_bool, likeS_str, likeS_lst, likeS_sl0, likeS_sl1, likeS_ptr, isPtr_ok, isSl_0, isSl_1, beq_self_b, Bool.and_self, Bool.and_true, Bool.true_and, Bool.and_false, Bool.false_and, cond_true, cond_false, Bool.not_true, Bool.not_false, s_pinHeap, hc, h2, h3, Bool.or_true]
      | false =>
        cases h4 : (h % 256 == 0) with
        | false => simp -implicitDefEqProofs only [some_bind', obCells_agg, obCells_ob, isOb_ok, isL_ok, isOw_ok, avXs_lst, avXs_ow, avNil_lst, avNil_ow, avNil_sl, avOff_sl, avCut_sl, isAgg_agg, nat_beq_self, List.length_cons, List.length_nil, Nat.reduceAdd, Nat.zero_add, isI_v, isB_v, isS_v, avInt_v, avBool_v, avStr_v, cellAt_zero, cellAt_succ, lget_zero, lget_succ, frAt_zero, frAt_succ, blAt_zero, blAt_succ, isEx_ok, isEx_ne, isEx_none, isRt_some, isRt_none, like_st, likeFG_nil, likeFG_cons, likeBG_nil, likeBG_obj, likeBG_row, likeSG_nil, likeSG_cons, likeT_nil, likeS_nil, isNP_nil, isNP_ob, likeT_ep, isEp_ep, epCells_ep, likeT_agg, likeT_int, likeT_bool, likeT_str, likeT_lst, likeT_sl0, likeT_sl1, likeT_ptr, likeS_int, likeS_bool, likeS_str, likeS_lst, likeS_sl0, likeS_sl1, likeS_ptr, isPtr_ok, isSl_0, isSl_1, beq_self_b, Bool.and_self, Bool.and_true, Bool.true_and, Bool.and_false, Bool.false_and, cond_true, cond_false, Bool.not_true, Bool.not_false, s_pinHeap, hc, h2, h3, h4, h23, Bool.or_false]
        | true =>
          cases h5 : (d0 % 256 == 0) with
          | false => simp -implicitDefEqProofs only [some_bind', obCells_agg, obCells_ob, isOb_ok, isL_ok, isOw_ok, avXs_lst, avXs_ow, avNil_lst, avNil_ow, avNil_sl, avOff_sl, avCut_sl, isAgg_agg, nat_beq_self, List.length_cons, List.length_nil, Nat.reduceAdd, Nat.zero_add, isI_v, isB_v, isS_v, avInt_v, avBool_v, avStr_v, cellAt_zero, cellAt_succ, lget_zero, lget_succ, frAt_zero, frAt_succ, blAt_zero, blAt_succ, isEx_ok, isEx_ne, isEx_none, isRt_some, isRt_none, like_st, likeFG_nil, likeFG_cons, likeBG_nil, likeBG_obj, likeBG_row, likeSG_nil, likeSG_cons, likeT_nil, likeS_nil, isNP_nil, isNP_ob, likeT_ep, isEp_ep, epCells_ep, likeT_agg, likeT_int, likeT_bool, likeT_str, likeT_lst, likeT_sl0, likeT_sl1, likeT_ptr, likeS_int, likeS_bool, likeS_str, likeS_lst, likeS_sl0, likeS_sl1, likeS_ptr, isPtr_ok, isSl_0, isSl_1, beq_self_b, Bool.and_self, Bool.and_true, Bool.true_and, Bool.and_false, Bool.false_and, cond_true, cond_false, Bool.not_true, Bool.not_false, s_pinHeap, hc, h2, h3, h4, h5, h23, Bool.or_false]
          | true =>
            cases h6 : (d0 / 256 % 16777216 == 16777215) with
            | true => simp -implicitDefEqProofs only [some_bind', obCells_agg, obCells_ob, isOb_ok, isL_ok, isOw_ok, avXs_lst, avXs_ow, avNil_lst, avNil_ow, avNil_sl, avOff_sl, avCut_sl, isAgg_agg, nat_beq_self, List.length_cons, List.length_nil, Nat.reduceAdd, Nat.zero_add, isI_v, isB_v, isS_v, avInt_v, avBool_v, avStr_v, cellAt_zero, cellAt_succ, lget_zero, lget_succ, frAt_zero, frAt_succ, blAt_zero, blAt_succ, isEx_ok, isEx_ne, isEx_none, isRt_some, isRt_none, like_st, likeFG_nil, likeFG_cons, likeBG_nil, likeBG_obj, likeBG_row, likeSG_nil, likeSG_cons, likeT_nil, likeS_nil, isNP_nil, isNP_ob, likeT_ep, isEp_ep, epCells_ep, likeT_agg, likeT_int, likeT_bool, likeT_str, likeT_lst, likeT_sl0, likeT_sl1, likeT_ptr, likeS_int, likeS_bool, likeS_str, likeS_lst, likeS_sl0, likeS_sl1, likeS_ptr, isPtr_ok, isSl_0, isSl_1, beq_self_b, Bool.and_self, Bool.and_true, Bool.true_and, Bool.and_false, Bool.false_and, cond_true, cond_false, Bool.not_true, Bool.not_false, s_pinHeap, hc, h2, h3, h4, h5, h6, h23, Bool.or_false]
            | false => simp -implicitDefEqProofs only [some_bind', obCells_agg, obCells_ob, isOb_ok, isL_ok, isOw_ok, avXs_lst, avXs_ow, avNil_lst, avNil_ow, avNil_sl, avOff_sl, avCut_sl, isAgg_agg, nat_beq_self, List.length_cons, List.length_nil, Nat.reduceAdd, Nat.zero_add, isI_v, isB_v, isS_v, avInt_v, avBool_v, avStr_v, cellAt_zero, cellAt_succ, lget_zero, lget_succ, frAt_zero, frAt_succ, blAt_zero, blAt_succ, isEx_ok, isEx_ne, isEx_none, isRt_some, isRt_none, like_st, likeFG_nil, likeFG_cons, likeBG_nil, likeBG_obj, likeBG_row, likeSG_nil, likeSG_cons, likeT_nil, likeS_nil, isNP_nil, isNP_ob, likeT_ep, isEp_ep, epCells_ep, likeT_agg, likeT_int, likeT_bool, likeT_str, likeT_lst, likeT_sl0, likeT_sl1, likeT_ptr, likeS_int, likeS_bool, likeS_str, likeS_lst, likeS_sl0, likeS_sl1, likeS_ptr, isPtr_ok, isSl_0, isSl_1, beq_self_b, Bool.and_self, Bool.and_true, Bool.true_and, Bool.and_false, Bool.false_and, cond_true, cond_false, Bool.not_true, Bool.not_false, s_pinHeap, hc, h2, h3, h4, h5, h6, h23, h43, e, Bool.or_false]
end
section
variable {l h d0 d1 d2 d3 d4 d5 d6 : Int} (hh : 0 ≤ h ∧ h < 18446744073709551616) (hd : 0 ≤ d0 ∧ d0 < 18446744073709551616)
include hh hd
theorem s_pRelease : ev 14 [.agg (pg l h d0 d1 d2 d3 d4 d5 d6)] = some (freeR l h d0) := by
  rw [ev14, s_ptagOf hd.1 hd.2]
  have h23 := s_pLocked (l := l) (d0 := d0) (d1 := d1) (d2 := d2) (d3 := d3) (d4 := d4) (d5 := d5) (d6 := d6) hh.1 hh.2
  have h43 := fun g => s_ptagged (l := l) (h := h) (d0 := d0) (d1 := d1) (d2 := d2) (d3 := d3) (d4 := d4) (d5 := d5) (d6 := d6) (k := 0) (g := g) (a := 0) (by decide) (by decide)
  unfold freeR heap
  cases hc : (leI 104 l && ltI l 256) with
  | false => simp -implicitDefEqProofs only [some_bind', obCells_agg, obCells_ob, isOb_ok, isL_ok, isOw_ok, avXs_lst, avXs_ow, avNil_lst, avNil_ow, avNil_sl, avOff_sl, avCut_sl, isAgg_agg, nat_beq_self, List.length_cons, List.length_nil, Nat.reduceAdd, Nat.zero_add, isI_v, isB_v, isS_v, avInt_v, avBool_v, avStr_v, cellAt_zero, cellAt_succ, lget_zero, lget_succ, frAt_zero, frAt_succ, blAt_zero, blAt_succ, isEx_ok, isEx_ne, isEx_none, isRt_some, isRt_none, like_st, likeFG_nil, likeFG_cons, likeBG_nil, likeBG_obj, likeBG_row, likeSG_nil, likeSG_cons, likeT_nil, likeS_nil, isNP_nil, isNP_ob, likeT_ep, isEp_ep, epCells_ep, likeT_agg, likeT_int, likeT_bool, likeT_str, likeT_lst, likeT_sl0, likeT_sl1, likeT_ptr, likeS_int, likeS_bool, likeS_str, likeS_lst, likeS_sl0, likeS_sl1, likeS_ptr, isPtr_ok, isSl_0, isSl_1, beq_self_b, Bool.and_self, Bool.and_true, Bool.true_and, Bool.and_false, Bool.false_and, cond_true, cond_false, Bool.not_true, Bool.not_false, s_pinHeap, hc]
  | true =>
    cases h4 : (h % 256 == 0) with
    | false => simp -implicitDefEqProofs only [some_bind', obCells_agg, obCells_ob, isOb_ok, isL_ok, isOw_ok, avXs_lst, avXs_ow, avNil_lst, avNil_ow, avNil_sl, avOff_sl, avCut_sl, isAgg_agg, nat_beq_self, List.length_cons, List.length_nil, Nat.reduceAdd, Nat.zero_add, isI_v, isB_v, isS_v, avInt_v, avBool_v, avStr_v, cellAt_zero, cellAt_succ, lget_zero, lget_succ, frAt_zero, frAt_succ, blAt_zero, blAt_succ, isEx_ok, isEx_ne, isEx_none, isRt_some, isRt_none, like_st, likeFG_nil, likeFG_cons, likeBG_nil, likeBG_obj, likeBG_row, likeSG_nil, likeSG_cons, likeT_nil, likeS_nil, isNP_nil, isNP_ob, likeT_ep, isEp_ep, epCells_ep, likeT_agg, likeT_int, likeT_bool, likeT_str, likeT_lst, likeT_sl0, likeT_sl1, likeT_ptr, likeS_int, likeS_bool, likeS_str, likeS_lst, likeS_sl0, likeS_sl1, likeS_ptr, isPtr_ok, isSl_0, isSl_1, beq_self_b, Bool.and_self, Bool.and_true, Bool.true_and, Bool.and_false, Bool.false_and, cond_true, cond_false, Bool.not_true, Bool.not_false, s_pinHeap, hc, h4, h23]
    | true =>
      cases h5 : (d0 % 256 == 0) with
      | true => simp -implicitDefEqProofs only [some_bind', obCells_agg, obCells_ob, isOb_ok, isL_ok, isOw_ok, avXs_lst, avXs_ow, avNil_lst, avNil_ow, avNil_sl, avOff_sl, avCut_sl, isAgg_agg, nat_beq_self, List.length_cons, List.length_nil, Nat.reduceAdd, Nat.zero_add, isI_v, isB_v, isS_v, avInt_v, avBool_v, avStr_v, cellAt_zero, cellAt_succ, lget_zero, lget_succ, frAt_zero, frAt_succ, blAt_zero, blAt_succ, isEx_ok, isEx_ne, isEx_none, isRt_some, isRt_none, like_st, likeFG_nil, likeFG_cons, likeBG_nil, likeBG_obj, likeBG_row, likeSG_nil, likeSG_cons, likeT_nil, likeS_nil, isNP_nil, isNP_ob, likeT_ep, isEp_ep, epCells_ep, likeT_agg, likeT_int, likeT_bool, likeT_str, likeT_lst, likeT_sl0, likeT_sl1, likeT_ptr, likeS_int, likeS_bool, likeS_str, likeS_lst, likeS_sl0, likeS_sl1, likeS_ptr, isPtr_ok, isSl_0, isSl_1, beq_self_b, Bool.and_self, Bool.and_true, Bool.true_and, Bool.and_false, Bool.false_and, cond_true, cond_false, Bool.not_true, Bool.not_false, s_pinHeap, hc, h4, h5, h23]
      | false => simp -implicitDefEqProofs only [some_bind', obCells_agg, obCells_ob, isOb_ok, isL_ok, isOw_ok, avXs_lst, avXs_ow, avNil_lst, avNil_ow, avNil_sl, avOff_sl, avCut_sl, isAgg_agg, nat_beq_self, List.length_cons, List.length_nil, Nat.reduceAdd, Nat.zero_add, isI_v, isB_v, isS_v, avInt_v, avBool_v, avStr_v, cellAt_zero, cellAt_succ, lget_zero, lget_succ, frAt_zero, frAt_succ, blAt_zero, blAt_succ, isEx_ok, isEx_ne, isEx_none, isRt_some, isRt_none, like_st, likeFG_nil, likeFG_cons, likeBG_nil, likeBG_obj, likeBG_row, likeSG_nil, likeSG_cons, likeT_nil, likeS_nil, isNP_nil, isNP_ob, likeT_ep, isEp_ep, epCells_ep, likeT_agg, likeT_int, likeT_bool, likeT_str, likeT_lst, likeT_sl0, likeT_sl1, likeT_ptr, likeS_int, likeS_bool, likeS_str, likeS_lst, likeS_sl0, likeS_sl1, likeS_ptr, isPtr_ok, isSl_0, isSl_1, beq_self_b, Bool.and_self, Bool.and_true, Bool.true_and, Bool.and_false, Bool.false_and, cond_true, cond_false, Bool.not_true, Bool.not_false, s_pinHeap, hc, h4, h5, h23, h43]
end
/-- Among the first k pages the last one of a line. -/
def lat (ps : List Pg) (x : Int) : Nat → Option Pg
  | 0 => none
  | k + 1 => cond ((ps.getD k pz).l == x) (some (ps.getD k pz)) (lat ps x k)
theorem lat_mem (ps : List Pg) (x : Int) : ∀ k, k ≤ ps.length → ∀ p, lat ps x k = some p → p ∈ ps
  | 0, _, _, h => by cases h
  | k + 1, hk, p, h => by
    rw [lat] at h
    cases h2 : ((ps.getD k pz).l == x) with
    | true => rw [h2] at h; cases h; exact mem_getD ps pz k (by omega)
    | false => rw [h2] at h; exact lat_mem ps x k (by omega) p h
theorem lat_app (ps qs : List Pg) (x : Int) : ∀ k, k ≤ ps.length → lat (ps ++ qs) x k = lat ps x k
  | 0, _ => rfl
  | k + 1, h => by
    rw [lat, lat, lat_app ps qs x k (by omega)]
    have : (ps ++ qs).getD k pz = ps.getD k pz := by
      simp only [List.getD_eq_getElem?_getD]
      rw [List.getElem?_append_left (by omega)]
    rw [this]
theorem lat_snoc (ps : List Pg) (q : Pg) (x : Int) : lat (ps ++ [q]) x (ps ++ [q]).length = cond (q.l == x) (some q) (lat ps x ps.length) := by
  rw [List.length_append, List.length_singleton, lat, lat_app ps [q] x _ (Nat.le_refl _)]
  have : (ps ++ [q]).getD ps.length pz = q := by simp
  rw [this]
def down (o : Option Pg) : LR := match o with
  | none => ⟨some 0, ⟨[(4, .ptr 0 0 0)], [⟨1, 34, 9, true, [zero9]⟩]⟩, []⟩
  | some p => ⟨none, ⟨[], []⟩, [.agg p.row, .v (.bool true)]⟩
theorem l_pLatest (ps : List Pg) (b : Bool) (x : Int) (hl : ps.length ≤ 1000) : ∀ (k : Nat), k ≤ ps.length →
    lp 30 0 0 ⟨[(0, (.lst b 9 (ps.map Pg.row))), (1, (.v (.int .i64 x))), (4, (.ptr 0 0 0)), (6, (.v (.int .i64 ((k : Int) - 1))))], [⟨1, 34, 9, true, [zero9]⟩]⟩ = some (down (lat ps x k))
  | 0, _ => by
    rw [lp30_0, leI_f (by omega)]; rfl
  | k + 1, hk => by
    have ih := l_pLatest ps b x hl k (by omega)
    rw [lp30_0]
    have e : (((k + 1 : Nat) : Int) - 1) = (k : Int) := by omega
    have e2 : lget (ps.map Pg.row) k = Pg.row (ps.getD k pz) := lget_mapD Pg.row ps pz k (by omega)
    have e3 : IntKind.i64.wrap ((k : Int) - 1) = (k : Int) - 1 := by rw [w_i64]; omega
    simp -implicitDefEqProofs only [some_bind', obCells_agg, obCells_ob, isOb_ok, isL_ok, isOw_ok, avXs_lst, avXs_ow, avNil_lst, avNil_ow, avNil_sl, avOff_sl, avCut_sl, isAgg_agg, nat_beq_self, List.length_cons, List.length_nil, Nat.reduceAdd, Nat.zero_add, isI_v, isB_v, isS_v, avInt_v, avBool_v, avStr_v, cellAt_zero, cellAt_succ, lget_zero, lget_succ, frAt_zero, frAt_succ, blAt_zero, blAt_succ, isEx_ok, isEx_ne, isEx_none, isRt_some, isRt_none, like_st, likeFG_nil, likeFG_cons, likeBG_nil, likeBG_obj, likeBG_row, likeSG_nil, likeSG_cons, likeT_nil, likeS_nil, isNP_nil, isNP_ob, likeT_ep, isEp_ep, epCells_ep, likeT_agg, likeT_int, likeT_bool, likeT_str, likeT_lst, likeT_sl0, likeT_sl1, likeT_ptr, likeS_int, likeS_bool, likeS_str, likeS_lst, likeS_sl0, likeS_sl1, likeS_ptr, isPtr_ok, isSl_0, isSl_1, beq_self_b, Bool.and_self, Bool.and_true, Bool.true_and, Bool.and_false, Bool.false_and, cond_true, cond_false, Bool.not_true, Bool.not_false, e, leI_t (show (0 : Int) ≤ (k : Int) by omega), List.length_map, ltI_t (show (k : Int) < (ps.length : Int) by omega), Int.toNat_natCast, e2, Pg.row_eq, e3]
    rw [lat]
    cases h : ((ps.getD k pz).l == x) with
    | true => simp -implicitDefEqProofs only [some_bind', obCells_agg, obCells_ob, isOb_ok, isL_ok, isOw_ok, avXs_lst, avXs_ow, avNil_lst, avNil_ow, avNil_sl, avOff_sl, avCut_sl, isAgg_agg, nat_beq_self, List.length_cons, List.length_nil, Nat.reduceAdd, Nat.zero_add, isI_v, isB_v, isS_v, avInt_v, avBool_v, avStr_v, cellAt_zero, cellAt_succ, lget_zero, lget_succ, frAt_zero, frAt_succ, blAt_zero, blAt_succ, isEx_ok, isEx_ne, isEx_none, isRt_some, isRt_none, like_st, likeFG_nil, likeFG_cons, likeBG_nil, likeBG_obj, likeBG_row, likeSG_nil, likeSG_cons, likeT_nil, likeS_nil, isNP_nil, isNP_ob, likeT_ep, isEp_ep, epCells_ep, likeT_agg, likeT_int, likeT_bool, likeT_str, likeT_lst, likeT_sl0, likeT_sl1, likeT_ptr, likeS_int, likeS_bool, likeS_str, likeS_lst, likeS_sl0, likeS_sl1, likeS_ptr, isPtr_ok, isSl_0, isSl_1, beq_self_b, Bool.and_self, Bool.and_true, Bool.true_and, Bool.and_false, Bool.false_and, cond_true, cond_false, Bool.not_true, Bool.not_false]; rfl
    | false => simp -implicitDefEqProofs only [some_bind', obCells_agg, obCells_ob, isOb_ok, isL_ok, isOw_ok, avXs_lst, avXs_ow, avNil_lst, avNil_ow, avNil_sl, avOff_sl, avCut_sl, isAgg_agg, nat_beq_self, List.length_cons, List.length_nil, Nat.reduceAdd, Nat.zero_add, isI_v, isB_v, isS_v, avInt_v, avBool_v, avStr_v, cellAt_zero, cellAt_succ, lget_zero, lget_succ, frAt_zero, frAt_succ, blAt_zero, blAt_succ, isEx_ok, isEx_ne, isEx_none, isRt_some, isRt_none, like_st, likeFG_nil, likeFG_cons, likeBG_nil, likeBG_obj, likeBG_row, likeSG_nil, likeSG_cons, likeT_nil, likeS_nil, isNP_nil, isNP_ob, likeT_ep, isEp_ep, epCells_ep, likeT_agg, likeT_int, likeT_bool, likeT_str, likeT_lst, likeT_sl0, likeT_sl1, likeT_ptr, likeS_int, likeS_bool, likeS_str, likeS_lst, likeS_sl0, likeS_sl1, likeS_ptr, isPtr_ok, isSl_0, isSl_1, beq_self_b, Bool.and_self, Bool.and_true, Bool.true_and, Bool.and_false, Bool.false_and, cond_true, cond_false, Bool.not_true, Bool.not_false]; exact ih
theorem s_pLatest (ps : List Pg) (b : Bool) (x : Int) (hl : ps.length ≤ 1000) :
    ev 30 [.lst b 9 (ps.map Pg.row), .v (.int .i64 x)] = some [.agg ((lat ps x ps.length).getD pz).row, .v (.bool (lat ps x ps.length).isSome)] := by
  rw [ev30]
  have e3 : IntKind.i64.wrap (((ps.map Pg.row).length : Int) - 1) = (ps.length : Int) - 1 := by rw [List.length_map, w_i64]; omega
  rw [e3, l_pLatest ps b x hl ps.length (Nat.le_refl _)]
  cases lat ps x ps.length with
  | none => simp -implicitDefEqProofs only [some_bind', obCells_agg, obCells_ob, isOb_ok, isL_ok, isOw_ok, avXs_lst, avXs_ow, avNil_lst, avNil_ow, avNil_sl, avOff_sl, avCut_sl, isAgg_agg, nat_beq_self, List.length_cons, List.length_nil, Nat.reduceAdd, Nat.zero_add, isI_v, isB_v, isS_v, avInt_v, avBool_v, avStr_v, cellAt_zero, cellAt_succ, lget_zero, lget_succ, frAt_zero, frAt_succ, blAt_zero, blAt_succ, isEx_ok, isEx_ne, isEx_none, isRt_some, isRt_none, like_st, likeFG_nil, likeFG_cons, likeBG_nil, likeBG_obj, likeBG_row, likeSG_nil, likeSG_cons, likeT_nil, likeS_nil, isNP_nil, isNP_ob, likeT_ep, isEp_ep, epCells_ep, likeT_agg, likeT_int, likeT_bool, likeT_str, likeT_lst, likeT_sl0, likeT_sl1, likeT_ptr, likeS_int, likeS_bool, likeS_str, likeS_lst, likeS_sl0, likeS_sl1, likeS_ptr, isPtr_ok, isSl_0, isSl_1, beq_self_b, Bool.and_self, Bool.and_true, Bool.true_and, Bool.and_false, Bool.false_and, cond_true, cond_false, Bool.not_true, Bool.not_false, down]; rfl
  | some p => simp -implicitDefEqProofs only [some_bind', obCells_agg, obCells_ob, isOb_ok, isL_ok, isOw_ok, avXs_lst, avXs_ow, avNil_lst, avNil_ow, avNil_sl, avOff_sl, avCut_sl, isAgg_agg, nat_beq_self, List.length_cons, List.length_nil, Nat.reduceAdd, Nat.zero_add, isI_v, isB_v, isS_v, avInt_v, avBool_v, avStr_v, cellAt_zero, cellAt_succ, lget_zero, lget_succ, frAt_zero, frAt_succ, blAt_zero, blAt_succ, isEx_ok, isEx_ne, isEx_none, isRt_some, isRt_none, like_st, likeFG_nil, likeFG_cons, likeBG_nil, likeBG_obj, likeBG_row, likeSG_nil, likeSG_cons, likeT_nil, likeS_nil, isNP_nil, isNP_ob, likeT_ep, isEp_ep, epCells_ep, likeT_agg, likeT_int, likeT_bool, likeT_str, likeT_lst, likeT_sl0, likeT_sl1, likeT_ptr, likeS_int, likeS_bool, likeS_str, likeS_lst, likeS_sl0, likeS_sl1, likeS_ptr, isPtr_ok, isSl_0, isSl_1, beq_self_b, Bool.and_self, Bool.and_true, Bool.true_and, Bool.and_false, Bool.false_and, cond_true, cond_false, Bool.not_true, Bool.not_false, down]; rfl
/-- What is found at a pointer. -/
def lookR (o : Option Pg) (l g k : Int) (locks : Bool) : List AV :=
  cond (valid l g)
    (match o with
    | none => [.agg zero9, .v (.bool false), .v (.int .i64 0)]
    | some p =>
      cond (locks && !(p.h % 256 == 0)) [.agg zero9, .v (.bool false), .v (.int .i64 3)]
        (cond (p.d0 % 256 == 0) [.agg zero9, .v (.bool false), .v (.int .i64 11)]
          (cond (p.d0 / 256 % 16777216 == g)
            (cond (p.d0 % 256 == k) [.agg p.row, .v (.bool true), .v (.int .i64 0)] [.agg zero9, .v (.bool false), .v (.int .i64 14)])
            [.agg zero9, .v (.bool false), .v (.int .i64 11)])))
    [.agg zero9, .v (.bool false), .v (.int .i64 1)]
/-- A page, whether, and a number. -/
theorem look_form (o : Option Pg) (l g k : Int) (locks : Bool) : ∃ (p : Pg) (f : Bool) (e : Int), lookR o l g k locks = [.agg p.row, .v (.bool f), .v (.int .i64 e)] := by
  unfold lookR
  cases valid l g with
  | false => exact ⟨pz, _, _, rfl⟩
  | true =>
    cases o with
    | none => exact ⟨pz, _, _, rfl⟩
    | some p =>
      dsimp only
      cases (locks && !(p.h % 256 == 0)) <;> cases (p.d0 % 256 == 0) <;> cases (p.d0 / 256 % 16777216 == g) <;> cases (p.d0 % 256 == k) <;> first | exact ⟨pz, _, _, rfl⟩ | exact ⟨p, _, _, rfl⟩
theorem s_plookup (ps : List Pg) (b : Bool) (l g k : Int) (locks : Bool) (hl : ps.length ≤ 1000) (hp : ∀ p ∈ ps, p.ok) : ev 29 [.lst b 9 (ps.map Pg.row), .agg [.v (.int .i64 l), .v (.int .i64 g)], .v (.int .i64 k), .v (.bool locks)] = some (lookR (lat ps l ps.length) l g k locks) := by
  rw [ev29]
  have h28 := s_pLatest ps b l hl
  unfold lookR
  cases hv : valid l g with
  | false => simp -implicitDefEqProofs only [some_bind', obCells_agg, obCells_ob, isOb_ok, isL_ok, isOw_ok, avXs_lst, avXs_ow, avNil_lst, avNil_ow, avNil_sl, avOff_sl, avCut_sl, isAgg_agg, nat_beq_self, List.length_cons, List.length_nil, Nat.reduceAdd, Nat.zero_add, isI_v, isB_v, isS_v, avInt_v, avBool_v, avStr_v, cellAt_zero, cellAt_succ, lget_zero, lget_succ, frAt_zero, frAt_succ, blAt_zero, blAt_succ, isEx_ok, isEx_ne, isEx_none, isRt_some, isRt_none, like_st, likeFG_nil, likeFG_cons, likeBG_nil, likeBG_obj, likeBG_row, likeSG_nil, likeSG_cons, likeT_nil, likeS_nil, isNP_nil, isNP_ob, likeT_ep, isEp_ep, epCells_ep, likeT_agg, likeT_int, likeT_bool, likeT_str, likeT_lst, likeT_sl0, likeT_sl1, likeT_ptr, likeS_int, likeS_bool, likeS_str, likeS_lst, likeS_sl0, likeS_sl1, likeS_ptr, isPtr_ok, isSl_0, isSl_1, beq_self_b, Bool.and_self, Bool.and_true, Bool.true_and, Bool.and_false, Bool.false_and, cond_true, cond_false, Bool.not_true, Bool.not_false, s_pValid, hv]
  | true =>
    cases ho : lat ps l ps.length with
    | none => simp -implicitDefEqProofs only [some_bind', obCells_agg, obCells_ob, isOb_ok, isL_ok, isOw_ok, avXs_lst, avXs_ow, avNil_lst, avNil_ow, avNil_sl, avOff_sl, avCut_sl, isAgg_agg, nat_beq_self, List.length_cons, List.length_nil, Nat.reduceAdd, Nat.zero_add, isI_v, isB_v, isS_v, avInt_v, avBool_v, avStr_v, cellAt_zero, cellAt_succ, lget_zero, lget_succ, frAt_zero, frAt_succ, blAt_zero, blAt_succ, isEx_ok, isEx_ne, isEx_none, isRt_some, isRt_none, like_st, likeFG_nil, likeFG_cons, likeBG_nil, likeBG_obj, likeBG_row, likeSG_nil, likeSG_cons, likeT_nil, likeS_nil, isNP_nil, isNP_ob, likeT_ep, isEp_ep, epCells_ep, likeT_agg, likeT_int, likeT_bool, likeT_str, likeT_lst, likeT_sl0, likeT_sl1, likeT_ptr, likeS_int, likeS_bool, likeS_str, likeS_lst, likeS_sl0, likeS_sl1, likeS_ptr, isPtr_ok, isSl_0, isSl_1, beq_self_b, Bool.and_self, Bool.and_true, Bool.true_and, Bool.and_false, Bool.false_and, cond_true, cond_false, Bool.not_true, Bool.not_false, s_pValid, hv, h28, ho, Option.isSome, Option.getD, Pg.row_eq]
    | some p =>
      have hq := hp p (lat_mem ps l _ (Nat.le_refl _) p ho)
      obtain ⟨_, hh, hd, _⟩ := hq
      have h42 := s_ptagOf (l := p.l) (h := p.h) (d0 := p.d0) (d1 := p.d1) (d2 := p.d2) (d3 := p.d3) (d4 := p.d4) (d5 := p.d5) (d6 := p.d6) hd.1 (by have := hd.2; omega)
      have h23 := s_pLocked (l := p.l) (h := p.h) (d0 := p.d0) (d1 := p.d1) (d2 := p.d2) (d3 := p.d3) (d4 := p.d4) (d5 := p.d5) (d6 := p.d6) hh.1 (by have := hh.2; omega)
      cases locks <;> cases h4 : (p.h % 256 == 0) <;> cases h5 : (p.d0 % 256 == 0) <;> cases h6 : (p.d0 / 256 % 16777216 == g) <;> cases h7 : (p.d0 % 256 == k) <;>
        simp -implicitDefEqProofs only [some_bind', obCells_agg, obCells_ob, isOb_ok, isL_ok, isOw_ok, avXs_lst, avXs_ow, avNil_lst, avNil_ow, avNil_sl, avOff_sl, avCut_sl, isAgg_agg, nat_beq_self, List.length_cons, List.length_nil, Nat.reduceAdd, Nat.zero_add, isI_v, isB_v, isS_v, avInt_v, avBool_v, avStr_v, cellAt_zero, cellAt_succ, lget_zero, lget_succ, frAt_zero, frAt_succ, blAt_zero, blAt_succ, isEx_ok, isEx_ne, isEx_none, isRt_some, isRt_none, like_st, likeFG_nil, likeFG_cons, likeBG_nil, likeBG_obj, likeBG_row, likeSG_nil, likeSG_cons, likeT_nil, likeS_nil, isNP_nil, isNP_ob, likeT_ep, isEp_ep, epCells_ep, likeT_agg, likeT_int, likeT_bool, likeT_str, likeT_lst, likeT_sl0, likeT_sl1, likeT_ptr, likeS_int, likeS_bool, likeS_str, likeS_lst, likeS_sl0, likeS_sl1, likeS_ptr, isPtr_ok, isSl_0, isSl_1, beq_self_b, Bool.and_self, Bool.and_true, Bool.true_and, Bool.and_false, Bool.false_and, cond_true, cond_false, Bool.not_true, Bool.not_false, s_pValid, hv, h28, ho, Option.isSome, Option.getD, Pg.row_eq, h42, h23, h4, h5, h6, h7]
theorem s_pOpen (ps : List Pg) (b : Bool) (l g k : Int) (hl : ps.length ≤ 1000) (hp : ∀ p ∈ ps, p.ok) : ev 25 [.lst b 9 (ps.map Pg.row), .agg [.v (.int .i64 l), .v (.int .i64 g)], .v (.int .i64 k)] = some (lookR (lat ps l ps.length) l g k true) := by
  rw [ev25, s_plookup ps b l g k true hl hp]
  obtain ⟨p, f, e, h⟩ := look_form (lat ps l ps.length) l g k true
  rw [h]
  simp -implicitDefEqProofs only [some_bind', obCells_agg, obCells_ob, isOb_ok, isL_ok, isOw_ok, avXs_lst, avXs_ow, avNil_lst, avNil_ow, avNil_sl, avOff_sl, avCut_sl, isAgg_agg, nat_beq_self, List.length_cons, List.length_nil, Nat.reduceAdd, Nat.zero_add, isI_v, isB_v, isS_v, avInt_v, avBool_v, avStr_v, cellAt_zero, cellAt_succ, lget_zero, lget_succ, frAt_zero, frAt_succ, blAt_zero, blAt_succ, isEx_ok, isEx_ne, isEx_none, isRt_some, isRt_none, like_st, likeFG_nil, likeFG_cons, likeBG_nil, likeBG_obj, likeBG_row, likeSG_nil, likeSG_cons, likeT_nil, likeS_nil, isNP_nil, isNP_ob, likeT_ep, isEp_ep, epCells_ep, likeT_agg, likeT_int, likeT_bool, likeT_str, likeT_lst, likeT_sl0, likeT_sl1, likeT_ptr, likeS_int, likeS_bool, likeS_str, likeS_lst, likeS_sl0, likeS_sl1, likeS_ptr, isPtr_ok, isSl_0, isSl_1, beq_self_b, Bool.and_self, Bool.and_true, Bool.true_and, Bool.and_false, Bool.false_and, cond_true, cond_false, Bool.not_true, Bool.not_false, Pg.row_eq]
end Go.Proofs.Ytkealdacgocafaa
