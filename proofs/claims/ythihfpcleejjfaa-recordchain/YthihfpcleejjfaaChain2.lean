/- RecordChain holds for every input. No conditions. -/
import Derived.Test.YthihfpcleejjfaaChain1
set_option linter.all false
namespace Go.Proofs.Ythihfpcleejjfaa
open Go.Ev
attribute [local congr] bind_first cond_first
theorem VI_f (k : Int) (C : Nat → Int × Int × Int) (D : Nat → Bool) (i : Nat) : (VI k C D i).key = (vi k C D i).key ∧ (VI k C D i).c0 = (vi k C D i).c0 ∧ (VI k C D i).c1 = (vi k C D i).c1 ∧ (VI k C D i).c2 = (vi k C D i).c2 ∧ (VI k C D i).del = (vi k C D i).del ∧ (VI k C D i).ep = (vi k C D i).ep ∧ (VI k C D i).st = (vi k C D i).st := by
  cases i with
  | zero => exact ⟨rfl, rfl, rfl, rfl, rfl, rfl, rfl⟩
  | succ i => exact ⟨rfl, rfl, rfl, rfl, rfl, rfl, rfl⟩
theorem look_fr {q : Nat} {v : Ver} {pl : Int} (hv : valid pl 1 = true) : lookR (some (fillP (fr q) v)) pl 1 1 true = [.agg (fillP (fr q) v).row, .v (.bool true), .v (.int .i64 0)] := by
  obtain ⟨f1, f2, _⟩ := fill_d0 (fr q) v (by show (257 : Int) % 256 = 1; decide)
  have f2' : (fillP (fr q) v).d0 / 256 % 16777216 = 1 := f2.trans (by show (257 : Int) / 256 % 16777216 = 1; decide)
  have fh : (fillP (fr q) v).h = 256 := rfl
  unfold lookR
  simp only [hv, f1, f2', fh]
  rfl
theorem pgs_ok {k : Int} {C : Nat → Int × Int × Int} {D : Nat → Bool} (hc : Cok k C) {m : Nat} (hm : m ≤ 19) : ∀ p ∈ pgs k C D m, p.ok := by
  intro p hp
  unfold pgs at hp
  rcases List.mem_cons.1 hp with rfl | hp
  · exact fillP_ok _ _ (fr_ok (by omega)) (VI_ok hc (by omega)).1
  · obtain ⟨j, hj, rfl⟩ := List.mem_map.1 hp
    have := List.mem_range.1 hj
    exact fillP_ok _ _ (fr_ok (by omega)) (VI_ok hc (by omega)).1
theorem pgs_len (k : Int) (C : Nat → Int × Int × Int) (D : Nat → Bool) (m : Nat) : (pgs k C D m).length = m + 1 := by
  unfold pgs; rw [List.length_cons, List.length_map, List.length_range]
theorem l_walk {k : Int} {C : Nat → Int × Int × Int} {D : Nat → Bool} (hc : Cok k C) {m : Nat} (hm : m ≤ 19) : ∀ (u t : Nat) (pl pg : Int), u + t = m + 1 →
    ((u = 0 ∧ pl = 0 ∧ pg = 0) ∨ (0 < u ∧ pg = 1 ∧ valid pl 1 = true ∧ ∃ q, q ≤ 100 ∧ lat (pgs k C D m) pl (pgs k C D m).length = some (fillP (fr q) (VI k C D (m - t))))) →
    lp 8 2 0 ⟨[(8, (.sl false 0 0 none)), (9, (.sl false 1 0 none)), (20, (.ptr 2 0 0)), (21, (.v (.int .i64 (t : Int))))], [⟨1, 34, 9, false, (pgs k C D m).map Pg.row⟩, ⟨1, 42, 9, false, (wnt k C D m).map Ver.row⟩, ⟨1, 40, 2, true, [[.v (.int .i64 pl), .v (.int .i64 pg)]]⟩]⟩ =
    some ⟨some 4, ⟨[(8, (.sl false 0 0 none)), (20, (.ptr 1 0 0))], [⟨1, 34, 9, false, (pgs k C D m).map Pg.row⟩, ⟨1, 40, 2, true, [[.v (.int .i64 0), .v (.int .i64 0)]]⟩]⟩, []⟩
  | 0, t, pl, pg, hu, h => by
    rcases h with ⟨_, rfl, rfl⟩ | ⟨h0, _⟩
    · rw [lp8_2, List.length_map, wnt_len, ltI_f (by omega)]; rfl
    · exact absurd h0 (by omega)
  | u + 1, t, pl, pg, hu, h => by
    rcases h with ⟨h0, _⟩ | ⟨_, rfl, hv, q, hq, hl⟩
    · exact absurd h0 (by omega)
    obtain ⟨v1, v2, v3⟩ := VI_ok (D := D) hc (i := m - t) (by omega)
    obtain ⟨y1, y2, y3, y4, y5⟩ := vi_ok (D := D) hc (i := m - t) (by omega)
    obtain ⟨x1, x2, x3, x4, x5, x6, x7⟩ := VI_f k C D (m - t)
    have a32 := s_pOpen (pgs k C D m) false pl 1 1 (by rw [pgs_len]; omega) (pgs_ok hc hm)
    rw [hl, look_fr hv] at a32
    have hk : (fr q).d0 % 256 = 1 := by show (257 : Int) % 256 = 1; decide
    have a16 := s_recRead (fillP (fr q) (VI k C D (m - t))) (fillP_ok _ _ (fr_ok (by omega)) v1)
    rw [read_fill _ _ v1 v2 hk] at a16
    have g1 : ltI (t : Int) ((((wnt k C D m).length - 0 : Nat)) : Int) = true := ltI_t (by rw [wnt_len]; omega)
    have g2 : leI 0 (t : Int) = true := leI_t (by omega)
    have g3 : ltN t (wnt k C D m).length = true := by rw [wnt_len]; simp [ltN]; omega
    have g4 : lget ((wnt k C D m).map Ver.row) t = (vi k C D (m - t)).row := by
      exact (lget_mapD Ver.row (wnt k C D m) vzero t (by rw [wnt_len]; omega)).trans (by rw [wnt_get _ _ _ _ _ _ (by omega)])
    have e3 : IntKind.i64.wrap ((t : Int) + 1) = ((t + 1 : Nat) : Int) := by rw [w_i64]; omega
    have ih := l_walk hc hm u (t + 1) (VI k C D (m - t)).pl (VI k C D (m - t)).pg (by omega) (by
      cases hmt : m - t with
      | zero => exact Or.inl ⟨by omega, (vi_ok (D := D) hc (i := 0) (by omega)).2.2.2.1, (vi_ok (D := D) hc (i := 0) (by omega)).2.2.2.2⟩
      | succ j =>
        refine Or.inr ⟨by omega, by show (257 : Int) / 256 % 16777216 = 1; decide, ?_, j + 1, by omega, ?_⟩
        · show valid (105 + ((j + 1 : Nat) : Int)) 1 = true
          exact valid_iff.2 (by omega)
        · rw [show m - (t + 1) = j by omega]
          exact (lat_pgs (fillP (fr 0) (VI k C D m)) (fun j => fillP (fr (j + 1)) (VI k C D j)) rfl (fun _ => rfl) m).2 j (by omega))
    generalize fillP (fr q) (VI k C D (m - t)) = P at *
    rw [lp8_2]
    generalize VI k C D (m - t) = V at *
    simp only [Pg.row_eq P, Ver.row_eq] at a32 a16 g4
    simp -implicitDefEqProofs only [some_bind', obCells_agg, obCells_ob, isOb_ok, isL_ok, isOw_ok, avXs_lst, avXs_ow, avNil_lst, avNil_ow, avNil_sl, avOff_sl, avCut_sl, isAgg_agg, nat_beq_self, List.length_cons, List.length_nil, Nat.reduceAdd, Nat.zero_add, isI_v, isB_v, isS_v, avInt_v, avBool_v, avStr_v, cellAt_zero, cellAt_succ, lget_zero, lget_succ, frAt_zero, frAt_succ, blAt_zero, blAt_succ, isEx_ok, isEx_ne, isEx_none, isRt_some, isRt_none, like_st, likeFG_nil, likeFG_cons, likeBG_nil, likeBG_obj, likeBG_row, likeSG_nil, likeSG_cons, likeT_nil, likeS_nil, isNP_nil, isNP_ob, likeT_ep, isEp_ep, epCells_ep, likeT_agg, likeT_int, likeT_bool, likeT_str, likeT_lst, likeT_sl0, likeT_sl1, likeT_ptr, likeS_int, likeS_bool, likeS_str, likeS_lst, likeS_sl0, likeS_sl1, likeS_ptr, isPtr_ok, isSl_0, isSl_1, beq_self_b, Bool.and_self, Bool.and_true, Bool.true_and, Bool.and_false, Bool.false_and, cond_true, cond_false, Bool.not_true, Bool.not_false, g1, g2, g3, g4, a32, a16, e3, x1, x2, x3, x4, x5, x6, x7, y4, y5, beq_self_i, List.length_map, Int.toNat_natCast]
    exact ih
theorem s_Key (x : Int) : ∃ k : Int, (1 ≤ k ∧ k ≤ 4294967294) ∧ ev 29 [.v (.int .i64 x)] = some [.v (.int .u32 k)] := by
  have a := s_Pick x 50 (by decide) (by decide)
  have b := s_Pick x 4294967294 (by decide) (by decide)
  have c := s_Pick x 40 (by decide) (by decide)
  have pb := pick_range (n := x) (m := 4294967294) (by decide)
  have pc := pick_range (n := x) (m := 40) (by decide)
  rw [ev29]
  cases h : leI 47 (pick x 50)
  · refine ⟨pick x 40 + 1, ⟨by omega, by omega⟩, ?_⟩
    simp -implicitDefEqProofs only [some_bind', obCells_agg, obCells_ob, isOb_ok, isL_ok, isOw_ok, avXs_lst, avXs_ow, avNil_lst, avNil_ow, avNil_sl, avOff_sl, avCut_sl, isAgg_agg, nat_beq_self, List.length_cons, List.length_nil, Nat.reduceAdd, Nat.zero_add, isI_v, isB_v, isS_v, avInt_v, avBool_v, avStr_v, cellAt_zero, cellAt_succ, lget_zero, lget_succ, frAt_zero, frAt_succ, blAt_zero, blAt_succ, isEx_ok, isEx_ne, isEx_none, isRt_some, isRt_none, like_st, likeFG_nil, likeFG_cons, likeBG_nil, likeBG_obj, likeBG_row, likeSG_nil, likeSG_cons, likeT_nil, likeS_nil, isNP_nil, isNP_ob, likeT_ep, isEp_ep, epCells_ep, likeT_agg, likeT_int, likeT_bool, likeT_str, likeT_lst, likeT_sl0, likeT_sl1, likeT_ptr, likeS_int, likeS_bool, likeS_str, likeS_lst, likeS_sl0, likeS_sl1, likeS_ptr, isPtr_ok, isSl_0, isSl_1, beq_self_b, Bool.and_self, Bool.and_true, Bool.true_and, Bool.and_false, Bool.false_and, cond_true, cond_false, Bool.not_true, Bool.not_false, a, c, h]
    rw [show IntKind.u32.wrap (IntKind.u32.wrap (pick x 40) + 1) = pick x 40 + 1 by rw [w_u32, w_u32]; omega]
  · refine ⟨pick x 4294967294 + 1, ⟨by omega, by omega⟩, ?_⟩
    simp -implicitDefEqProofs only [some_bind', obCells_agg, obCells_ob, isOb_ok, isL_ok, isOw_ok, avXs_lst, avXs_ow, avNil_lst, avNil_ow, avNil_sl, avOff_sl, avCut_sl, isAgg_agg, nat_beq_self, List.length_cons, List.length_nil, Nat.reduceAdd, Nat.zero_add, isI_v, isB_v, isS_v, avInt_v, avBool_v, avStr_v, cellAt_zero, cellAt_succ, lget_zero, lget_succ, frAt_zero, frAt_succ, blAt_zero, blAt_succ, isEx_ok, isEx_ne, isEx_none, isRt_some, isRt_none, like_st, likeFG_nil, likeFG_cons, likeBG_nil, likeBG_obj, likeBG_row, likeSG_nil, likeSG_cons, likeT_nil, likeS_nil, isNP_nil, isNP_ob, likeT_ep, isEp_ep, epCells_ep, likeT_agg, likeT_int, likeT_bool, likeT_str, likeT_lst, likeT_sl0, likeT_sl1, likeT_ptr, likeS_int, likeS_bool, likeS_str, likeS_lst, likeS_sl0, likeS_sl1, likeS_ptr, isPtr_ok, isSl_0, isSl_1, beq_self_b, Bool.and_self, Bool.and_true, Bool.true_and, Bool.and_false, Bool.false_and, cond_true, cond_false, Bool.not_true, Bool.not_false, a, b, h]
    rw [show IntKind.u32.wrap (IntKind.u32.wrap (pick x 4294967294) + 1) = pick x 4294967294 + 1 by rw [w_u32, w_u32]; omega]
theorem chain (x : Int) (x1n x2n : Bool) (cols : List (Int × Int × Int)) (dels : List Bool) (hC : ∀ i, i64ok (CC cols i).1 ∧ i64ok (CC cols i).2.1 ∧ i64ok (CC cols i).2.2) : ev 8 [.v (.int .i64 x), .lst x1n 3 (cols.map crow), .lst x2n 1 (dels.map brow)] = some [.v (.bool true)] := by
  rw [ev8, List.length_map]
  obtain ⟨k, hk, ek⟩ := s_Key x
  cases h1 : (((cols.length : Nat) : Int) == 0) with
  | true => simp -implicitDefEqProofs only [some_bind', obCells_agg, obCells_ob, isOb_ok, isL_ok, isOw_ok, avXs_lst, avXs_ow, avNil_lst, avNil_ow, avNil_sl, avOff_sl, avCut_sl, isAgg_agg, nat_beq_self, List.length_cons, List.length_nil, Nat.reduceAdd, Nat.zero_add, isI_v, isB_v, isS_v, avInt_v, avBool_v, avStr_v, cellAt_zero, cellAt_succ, lget_zero, lget_succ, frAt_zero, frAt_succ, blAt_zero, blAt_succ, isEx_ok, isEx_ne, isEx_none, isRt_some, isRt_none, like_st, likeFG_nil, likeFG_cons, likeBG_nil, likeBG_obj, likeBG_row, likeSG_nil, likeSG_cons, likeT_nil, likeS_nil, isNP_nil, isNP_ob, likeT_ep, isEp_ep, epCells_ep, likeT_agg, likeT_int, likeT_bool, likeT_str, likeT_lst, likeT_sl0, likeT_sl1, likeT_ptr, likeS_int, likeS_bool, likeS_str, likeS_lst, likeS_sl0, likeS_sl1, likeS_ptr, isPtr_ok, isSl_0, isSl_1, beq_self_b, Bool.and_self, Bool.and_true, Bool.true_and, Bool.and_false, Bool.false_and, cond_true, cond_false, Bool.not_true, Bool.not_false, s_awake]
  | false =>
  cases h2 : ltI 20 ((cols.length : Nat) : Int) with
  | true => simp -implicitDefEqProofs only [some_bind', obCells_agg, obCells_ob, isOb_ok, isL_ok, isOw_ok, avXs_lst, avXs_ow, avNil_lst, avNil_ow, avNil_sl, avOff_sl, avCut_sl, isAgg_agg, nat_beq_self, List.length_cons, List.length_nil, Nat.reduceAdd, Nat.zero_add, isI_v, isB_v, isS_v, avInt_v, avBool_v, avStr_v, cellAt_zero, cellAt_succ, lget_zero, lget_succ, frAt_zero, frAt_succ, blAt_zero, blAt_succ, isEx_ok, isEx_ne, isEx_none, isRt_some, isRt_none, like_st, likeFG_nil, likeFG_cons, likeBG_nil, likeBG_obj, likeBG_row, likeSG_nil, likeSG_cons, likeT_nil, likeS_nil, isNP_nil, isNP_ob, likeT_ep, isEp_ep, epCells_ep, likeT_agg, likeT_int, likeT_bool, likeT_str, likeT_lst, likeT_sl0, likeT_sl1, likeT_ptr, likeS_int, likeS_bool, likeS_str, likeS_lst, likeS_sl0, likeS_sl1, likeS_ptr, isPtr_ok, isSl_0, isSl_1, beq_self_b, Bool.and_self, Bool.and_true, Bool.true_and, Bool.and_false, Bool.false_and, cond_true, cond_false, Bool.not_true, Bool.not_false, s_awake]
  | false =>
  have n1 : cols.length ≠ 0 := by have := beq_eq_false_iff_ne.1 h1; omega
  have n2 : cols.length ≤ 20 := by
    rcases Nat.lt_or_ge 20 cols.length with h | h
    · rw [ltI_t (by omega)] at h2; cases h2
    · exact h
  have hc : Cok k (CC cols) := ⟨hk, hC⟩
  have lb := l_first x1n x2n cols dels k hc n2 (by omega)
  have lw : lp 8 2 0 ⟨[(8, (.sl false 0 0 none)), (9, (.sl false 1 0 none)), (20, (.ptr 2 0 0)), (21, (.v (.int .i64 0)))], [⟨1, 34, 9, false, (pgs k (CC cols) (DD dels) (cols.length - 1)).map Pg.row⟩, ⟨1, 42, 9, false, (wnt k (CC cols) (DD dels) (cols.length - 1)).map Ver.row⟩, ⟨1, 40, 2, true, [[.v (.int .i64 105), .v (.int .i64 1)]]⟩]⟩ = _ :=
    l_walk (D := DD dels) hc (m := cols.length - 1) (by omega) cols.length 0 105 1 (by omega) (Or.inr ⟨by omega, rfl, by decide, 0, by omega, (lat_pgs (fillP (fr 0) (VI k (CC cols) (DD dels) (cols.length - 1))) (fun j => fillP (fr (j + 1)) (VI k (CC cols) (DD dels) j)) rfl (fun _ => rfl) (cols.length - 1)).1⟩)
  have v1 := (VI_ok (D := DD dels) hc (i := cols.length - 1) (by omega)).1
  have ho := fillP_ok (fr 0) _ (fr_ok (by omega)) v1
  obtain ⟨_, f2, _⟩ := fill_d0 (fr 0) (VI k (CC cols) (DD dels) (cols.length - 1)) (by show (257 : Int) % 256 = 1; decide)
  have f2' : (fillP (fr 0) (VI k (CC cols) (DD dels) (cols.length - 1))).d0 / 256 % 16777216 = 1 := f2.trans (by show (257 : Int) / 256 % 16777216 = 1; decide)
  have hl : (fillP (fr 0) (VI k (CC cols) (DD dels) (cols.length - 1))).l = 105 := rfl
  have q0 : lget ((pgs k (CC cols) (DD dels) (cols.length - 1)).map Pg.row) 0 = (fillP (fr 0) (VI k (CC cols) (DD dels) (cols.length - 1))).row := rfl
  have q1 : ltI 0 (((((pgs k (CC cols) (DD dels) (cols.length - 1)).map Pg.row).length - 0 : Nat)) : Int) = true := ltI_t (by rw [List.length_map, pgs_len]; omega)
  have q2 : ltN 0 ((pgs k (CC cols) (DD dels) (cols.length - 1)).map Pg.row).length = true := by rw [List.length_map, pgs_len]; simp [ltN]
  generalize fillP (fr 0) (VI k (CC cols) (DD dels) (cols.length - 1)) = H at *
  have a31 := s_pAt (l := H.l) (h := H.h) (d1 := H.d1) (d2 := H.d2) (d3 := H.d3) (d4 := H.d4) (d5 := H.d5) (d6 := H.d6) ho.2.2.1.1 (by have := ho.2.2.1.2; omega)
  rw [f2'] at a31
  rw [Pg.row_eq] at q0
  rw [hl] at a31 q0
  simp -implicitDefEqProofs only [some_bind', obCells_agg, obCells_ob, isOb_ok, isL_ok, isOw_ok, avXs_lst, avXs_ow, avNil_lst, avNil_ow, avNil_sl, avOff_sl, avCut_sl, isAgg_agg, nat_beq_self, List.length_cons, List.length_nil, Nat.reduceAdd, Nat.zero_add, isI_v, isB_v, isS_v, avInt_v, avBool_v, avStr_v, cellAt_zero, cellAt_succ, lget_zero, lget_succ, frAt_zero, frAt_succ, blAt_zero, blAt_succ, isEx_ok, isEx_ne, isEx_none, isRt_some, isRt_none, like_st, likeFG_nil, likeFG_cons, likeBG_nil, likeBG_obj, likeBG_row, likeSG_nil, likeSG_cons, likeT_nil, likeS_nil, isNP_nil, isNP_ob, likeT_ep, isEp_ep, epCells_ep, likeT_agg, likeT_int, likeT_bool, likeT_str, likeT_lst, likeT_sl0, likeT_sl1, likeT_ptr, likeS_int, likeS_bool, likeS_str, likeS_lst, likeS_sl0, likeS_sl1, likeS_ptr, isPtr_ok, isSl_0, isSl_1, beq_self_b, Bool.and_self, Bool.and_true, Bool.true_and, Bool.and_false, Bool.false_and, cond_true, cond_false, Bool.not_true, Bool.not_false, s_awake, ek, lb, q0, q1, q2, a31, lw, beq_self_i]
theorem chain_all {N : Nat} (l : List AV) (h : TypA Try.prog N Try.f8.params.toList l) : ∃ n, evF Try.prog cfg n 8 l = some [.v (.bool true)] := by
  rw [show Try.f8.params.toList = [3, 73, 74] by kernel_rfl] at h
  obtain ⟨a0, r, rfl, h0, h⟩ := h
  obtain ⟨a1, r, rfl, h1, h⟩ := h
  obtain ⟨a2, r, rfl, h2, h⟩ := h
  obtain rfl : r = [] := h
  obtain ⟨x, rfl, _⟩ := openV3 h0
  obtain ⟨n1, xs, rfl, _, _, hx⟩ := openV73 h1
  obtain ⟨n2, ys, rfl, _, _, hy⟩ := openV74 h2
  obtain ⟨cols, rfl, hC⟩ := rows_of crow (fun c => i64ok c.1 ∧ i64ok c.2.1 ∧ i64ok c.2.2) xs fun y hy => by
    obtain ⟨c0, c1, c2, rfl, i0, i1, i2⟩ := openC36 (hx y hy)
    exact ⟨(c0, c1, c2), rfl, i0, i1, i2⟩
  obtain ⟨dels, rfl, _⟩ := rows_of brow (fun _ => True) ys fun y hy' => by
    obtain ⟨b, rfl, _⟩ := openC4 (hy y hy')
    exact ⟨b, rfl, trivial⟩
  refine evF_of_evL (chain x n1 n2 cols dels (fun i => ?_))
  unfold CC
  rcases Nat.lt_or_ge i cols.length with hi | hi
  · exact hC _ (mem_getD cols (0, 0, 0) i hi)
  · rw [List.getD_eq_getElem?_getD, List.getElem?_eq_none hi]; exact ⟨i64_0, i64_0, i64_0⟩
end Go.Proofs.Ythihfpcleejjfaa
