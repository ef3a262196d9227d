/- RecordRound holds for every input. No conditions. -/
import Derived.Test.YthihfpcleejjfaaSpec
set_option linter.all false
namespace Go.Proofs.Ythihfpcleejjfaa
open Go.Ev
attribute [local congr] bind_first cond_first
theorem round (p : Pg) (v : Ver) (n : Int) (hp : p.ok) (hv : v.ok) : ev 6 [.agg (pgl p.l p.h p.d0 p.d1 p.d2 p.d3 p.d4 p.d5 p.d6), .agg (verl v.key v.c0 v.c1 v.c2 v.del v.ep v.st v.pl v.pg), .v (.int .i64 n)] = some [.v (.bool true)] := by
  obtain ⟨w, hw, e1⟩ := s_near v n hv
  rw [ev6, e1]
  have hk := pick_range (n := IntKind.i64.wrap (n.tdiv 3)) (m := 16777216) (by decide)
  have e2 := s_Pick (IntKind.i64.wrap (n.tdiv 3)) 16777216 (by decide) (by decide)
  generalize pick (IntKind.i64.wrap (n.tdiv 3)) 16777216 = k at *
  have ha : 0 ≤ IntKind.u32.wrap p.d0 ∧ IntKind.u32.wrap p.d0 < 4294967296 := by rw [w_u32]; omega
  have e3 := s_pPackTag 1 k (IntKind.u32.wrap p.d0) ha.1 ha.2
  have ht := tag_range (k := 1) (g := k) ha.1 ha.2
  have t1 : tag 1 k (IntKind.u32.wrap p.d0) % 256 = 1 := by unfold tag; omega
  have t2 : tag 1 k (IntKind.u32.wrap p.d0) / 256 % 16777216 = k := by unfold tag; omega
  generalize tag 1 k (IntKind.u32.wrap p.d0) = t at *
  obtain ⟨p0, p1, _, pr⟩ := hp
  generalize hq : (⟨p.l, p.h, t, p.d1, p.d2, p.d3, p.d4, p.d5, p.d6⟩ : Pg) = q
  have hqo : q.ok := by subst hq; exact ⟨p0, p1, ⟨ht.1, by show t ≤ 18446744073709551615; omega⟩, pr⟩
  have hqt : q.d0 = t := by subst hq; rfl
  have e4 : ev 18 [.agg (pgl p.l p.h t p.d1 p.d2 p.d3 p.d4 p.d5 p.d6), .agg (verl w.key w.c0 w.c1 w.c2 w.del w.ep w.st w.pl w.pg)] = some [.agg (writeR q w).1.row, .v (.int .i64 (writeR q w).2)] := by
    have := s_recWrite q w hqo hw
    subst hq
    exact this
  have e5 := s_recValid w hw.2.2.2.2.2.1.1 (by have := hw.2.2.2.2.2.1.2; omega)
  unfold writeR at e4
  rw [hqt, t1] at e4
  cases hV : validV w with
  | false =>
    rw [hV] at e4 e5
    simp only [Bool.false_and, cond_false, pz, Pg.row_eq] at e4
    simp -implicitDefEqProofs only [some_bind', obCells_agg, obCells_ob, isOb_ok, isL_ok, isOw_ok, avXs_lst, avXs_ow, avNil_lst, avNil_ow, avNil_sl, avOff_sl, avCut_sl, isAgg_agg, nat_beq_self, List.length_cons, List.length_nil, Nat.reduceAdd, Nat.zero_add, isI_v, isB_v, isS_v, avInt_v, avBool_v, avStr_v, cellAt_zero, cellAt_succ, lget_zero, lget_succ, frAt_zero, frAt_succ, blAt_zero, blAt_succ, isEx_ok, isEx_ne, isEx_none, isRt_some, isRt_none, like_st, likeFG_nil, likeFG_cons, likeBG_nil, likeBG_obj, likeBG_row, likeSG_nil, likeSG_cons, likeT_nil, likeS_nil, isNP_nil, isNP_ob, likeT_ep, isEp_ep, epCells_ep, likeT_agg, likeT_int, likeT_bool, likeT_str, likeT_lst, likeT_sl0, likeT_sl1, likeT_ptr, likeS_int, likeS_bool, likeS_str, likeS_lst, likeS_sl0, likeS_sl1, likeS_ptr, isPtr_ok, isSl_0, isSl_1, beq_self_b, Bool.and_self, Bool.and_true, Bool.true_and, Bool.and_false, Bool.false_and, cond_true, cond_false, Bool.not_true, Bool.not_false, e2, e3, e4, s_awake, e5]
    rfl
  | true =>
    rw [hV] at e4
    simp only [beq_self_eq_true, Bool.and_self, cond_true] at e4
    obtain ⟨f1, f2, _⟩ := fill_d0 q w (by rw [hqt]; exact t1)
    have hf := fillP_ok q w hqo hw
    have e6 := s_recRead (fillP q w) hf
    rw [read_fill q w hw hV (by rw [hqt]; exact t1)] at e6
    have hl : (fillP q w).l = p.l := by subst hq; rfl
    have hh : (fillP q w).h = p.h := by subst hq; rfl
    have e7 := s_pUnpackTag (fillP q w).d0 hf.2.2.1.1 (by have := hf.2.2.1.2; omega)
    rw [f1, f2, hqt, t2] at e7
    generalize fillP q w = f at *
    rw [Pg.row_eq] at e4
    simp only [Ver.row_eq] at e6
    rw [hl, hh] at e6 e4
    simp -implicitDefEqProofs only [some_bind', obCells_agg, obCells_ob, isOb_ok, isL_ok, isOw_ok, avXs_lst, avXs_ow, avNil_lst, avNil_ow, avNil_sl, avOff_sl, avCut_sl, isAgg_agg, nat_beq_self, List.length_cons, List.length_nil, Nat.reduceAdd, Nat.zero_add, isI_v, isB_v, isS_v, avInt_v, avBool_v, avStr_v, cellAt_zero, cellAt_succ, lget_zero, lget_succ, frAt_zero, frAt_succ, blAt_zero, blAt_succ, isEx_ok, isEx_ne, isEx_none, isRt_some, isRt_none, like_st, likeFG_nil, likeFG_cons, likeBG_nil, likeBG_obj, likeBG_row, likeSG_nil, likeSG_cons, likeT_nil, likeS_nil, isNP_nil, isNP_ob, likeT_ep, isEp_ep, epCells_ep, likeT_agg, likeT_int, likeT_bool, likeT_str, likeT_lst, likeT_sl0, likeT_sl1, likeT_ptr, likeS_int, likeS_bool, likeS_str, likeS_lst, likeS_sl0, likeS_sl1, likeS_ptr, isPtr_ok, isSl_0, isSl_1, beq_self_b, Bool.and_self, Bool.and_true, Bool.true_and, Bool.and_false, Bool.false_and, cond_true, cond_false, Bool.not_true, Bool.not_false, e2, e3, e4, s_awake, e6, e7, beq_self_eq_true]
theorem round_all {N : Nat} (l : List AV) (h : TypA Try.prog N Try.f6.params.toList l) : ∃ n, evF Try.prog cfg n 6 l = some [.v (.bool true)] := by
  rw [show Try.f6.params.toList = [34, 42, 3] by kernel_rfl] at h
  obtain ⟨a0, r, rfl, h0, h⟩ := h
  obtain ⟨a1, r, rfl, h1, h⟩ := h
  obtain ⟨a2, r, rfl, h2, h⟩ := h
  obtain rfl : r = [] := h
  obtain ⟨x0, x1, x2, x3, x4, x5, x6, x7, x8, rfl, hx⟩ := openV34 h0
  obtain ⟨y0, y1, y2, y3, y4, y5, y6, y7, y8, rfl, g0, g1, g2, g3, _, g5⟩ := openV42 h1
  obtain ⟨x, rfl, _⟩ := openV3 h2
  exact evF_of_evL (round ⟨x0, x1, x2, x3, x4, x5, x6, x7, x8⟩ ⟨y0, y1, y2, y3, y4, y5, y6, y7, y8⟩ x hx ⟨g0, g1, g2, g3, g5⟩)
end Go.Proofs.Ythihfpcleejjfaa
