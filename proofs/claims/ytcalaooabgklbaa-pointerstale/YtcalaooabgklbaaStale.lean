/- PointerStale holds for every input. No conditions. -/
import Derived.Test.YtcalaooabgklbaaSpec
set_option linter.all false
namespace Go.Proofs.Ytcalaooabgklbaa
open Go.Ev
attribute [local congr] bind_first cond_first
abbrev wb (b0 b1 b2 b3 b4 b5 b6 : Int) : Blk := ⟨1, 41, 7, true, [[(.v (.int .u64 b0)), (.v (.int .u64 b1)), (.v (.int .u64 b2)), (.v (.int .u64 b3)), (.v (.int .u64 b4)), (.v (.int .u64 b5)), (.v (.int .u64 b6))]]⟩
abbrev pgb (l h d0 d1 d2 d3 d4 d5 d6 : Int) : Blk := ⟨1, 43, 9, true, [pgl l h d0 d1 d2 d3 d4 d5 d6]⟩
abbrev atb (l g : Int) : Blk := ⟨1, 28, 2, true, [[(.v (.int .i64 l)), (.v (.int .i64 g))]]⟩
def prow (l g : Int) : List AV := [(.v (.int .i64 l)), (.v (.int .i64 g))]
theorem prow_eq (l g : Int) : prow l g = [(.v (.int .i64 l)), (.v (.int .i64 g))] := rfl
section
variable (x2n : Bool) (x2 : List (List AV)) (x11 : Bool) (x12 x13 : Int) (w0 w1 w2 w3 w4 w5 w6 : Int) (p0 p1 p2 p3 p4 p5 p6 p7 p8 : Int) (b2 : List (List AV)) (l h d0 al ag : Int)
theorem st_l1 : lp 9 1 0 ⟨[(2, (.lst x2n 1 x2)), (7, (.ptr 0 0 0)), (9, (.ptr 1 0 0)), (11, (.sl x11 2 0 none)), (12, (.v (.int .i64 x12))), (13, (.v (.int .i64 x13))), (14, (.ptr 3 0 0)), (16, (.ptr 4 0 0)), (17, (.v (.int .i64 1)))], [wb w0 w1 w2 w3 w4 w5 w6, pgb p0 p1 p2 p3 p4 p5 p6 p7 p8, ⟨1, 28, 2, false, b2⟩, pgb l h d0 0 0 0 0 0 0, atb al ag]⟩ =
    some ⟨some 2, ⟨[(2, (.lst x2n 1 x2)), (7, (.ptr 0 0 0)), (9, (.ptr 1 0 0)), (11, (.sl x11 2 0 none)), (12, (.v (.int .i64 x12))), (13, (.v (.int .i64 x13))), (14, (.ptr 3 0 0)), (16, (.ptr 4 0 0))], [wb w0 w1 w2 w3 w4 w5 w6, pgb p0 p1 p2 p3 p4 p5 p6 p7 p8, ⟨1, 28, 2, false, b2⟩, pgb l h d0 w1 w2 w3 w4 w5 w6, atb al ag]⟩, []⟩ := by
  refine (lp9_1 x2n x2 x11 x12 x13 1 w0 w1 w2 w3 w4 w5 w6 p0 p1 p2 p3 p4 p5 p6 p7 p8 b2 l h d0 0 0 0 0 0 0 al ag).trans ?_
  refine (lp9_1 x2n x2 x11 x12 x13 2 w0 w1 w2 w3 w4 w5 w6 p0 p1 p2 p3 p4 p5 p6 p7 p8 b2 l h d0 w1 0 0 0 0 0 al ag).trans ?_
  refine (lp9_1 x2n x2 x11 x12 x13 3 w0 w1 w2 w3 w4 w5 w6 p0 p1 p2 p3 p4 p5 p6 p7 p8 b2 l h d0 w1 w2 0 0 0 0 al ag).trans ?_
  refine (lp9_1 x2n x2 x11 x12 x13 4 w0 w1 w2 w3 w4 w5 w6 p0 p1 p2 p3 p4 p5 p6 p7 p8 b2 l h d0 w1 w2 w3 0 0 0 al ag).trans ?_
  refine (lp9_1 x2n x2 x11 x12 x13 5 w0 w1 w2 w3 w4 w5 w6 p0 p1 p2 p3 p4 p5 p6 p7 p8 b2 l h d0 w1 w2 w3 w4 0 0 al ag).trans ?_
  refine (lp9_1 x2n x2 x11 x12 x13 6 w0 w1 w2 w3 w4 w5 w6 p0 p1 p2 p3 p4 p5 p6 p7 p8 b2 l h d0 w1 w2 w3 w4 w5 0 al ag).trans ?_
  refine (lp9_1 x2n x2 x11 x12 x13 7 w0 w1 w2 w3 w4 w5 w6 p0 p1 p2 p3 p4 p5 p6 p7 p8 b2 l h d0 w1 w2 w3 w4 w5 w6 al ag).trans ?_
  rfl
end
theorem stale_found {q : Pg} {l g k : Int} (hv : valid l g = true) (hh : (q.h % 256 == 0) = true) (hk : q.d0 % 256 = k) (hk1 : k ≠ 0) (hg : q.d0 / 256 % 16777216 = g) : lookR (some q) l g k true = [.agg q.row, .v (.bool true), .v (.int .i64 0)] := by
  unfold lookR
  rw [hv]
  simp only [hh, Bool.not_true, Bool.and_false, cond_true, cond_false, hk, hg, beq_self_i, beq_eq_false_iff_ne.2 hk1]
theorem stale_gen {q : Pg} {l g k : Int} (b : Bool) (hv : valid l g = true) (hh : (q.h % 256 == 0) = true) (hg : q.d0 / 256 % 16777216 ≠ g) : lookR (some q) l g k b = [.agg zero9, .v (.bool false), .v (.int .i64 11)] := by
  unfold lookR
  rw [hv]
  simp only [hh, Bool.not_true, Bool.and_false, cond_true, cond_false, beq_eq_false_iff_ne.2 hg]
  cases (q.d0 % 256 == 0) <;> rfl
theorem stale_free {q : Pg} {l g k : Int} (b : Bool) (hv : valid l g = true) (hh : (q.h % 256 == 0) = true) (hk : q.d0 % 256 = 0) : lookR (some q) l g k b = [.agg zero9, .v (.bool false), .v (.int .i64 11)] := by
  unfold lookR
  rw [hv]
  simp only [hh, Bool.not_true, Bool.and_false, cond_true, cond_false, hk, beq_self_i]
theorem st_l2 (x2n : Bool) (x2 : List (List AV)) (x11 : Bool) (x12 x13 : Int) (w0 w1 w2 w3 w4 w5 w6 : Int) (p : Pg) (gs : List Int) (q : Pg) (hq : q.ok) (hh : (q.h % 256 == 0) = true) (hl : 104 ≤ q.l ∧ q.l < 256) (G : Int) (hG : q.d0 / 256 % 16777216 = G) (hgs : ∀ g ∈ gs, 1 ≤ g ∧ g < G) (hlen : gs.length ≤ 100) :
    ∀ j k : Nat, j + k = gs.length → lp 9 2 0 ⟨[(2, (.lst x2n 1 x2)), (7, (.ptr 0 0 0)), (9, (.ptr 1 0 0)), (11, (.sl x11 2 0 none)), (12, (.v (.int .i64 x12))), (13, (.v (.int .i64 x13))), (14, (.ptr 3 0 0)), (16, (.ptr 4 0 0)), (21, (.v (.int .i64 (k : Int))))], [wb w0 w1 w2 w3 w4 w5 w6, pgb p.l p.h p.d0 p.d1 p.d2 p.d3 p.d4 p.d5 p.d6, ⟨1, 28, 2, false, gs.map (prow q.l)⟩, pgb q.l q.h q.d0 q.d1 q.d2 q.d3 q.d4 q.d5 q.d6, atb q.l G]⟩ =
      some ⟨some 4, ⟨[(2, (.lst x2n 1 x2)), (7, (.ptr 0 0 0)), (9, (.ptr 1 0 0)), (11, (.sl x11 2 0 none)), (12, (.v (.int .i64 x12))), (13, (.v (.int .i64 x13))), (14, (.ptr 3 0 0)), (16, (.ptr 4 0 0))], [wb w0 w1 w2 w3 w4 w5 w6, pgb p.l p.h p.d0 p.d1 p.d2 p.d3 p.d4 p.d5 p.d6, ⟨1, 28, 2, false, gs.map (prow q.l)⟩, pgb q.l q.h q.d0 q.d1 q.d2 q.d3 q.d4 q.d5 q.d6, atb q.l G]⟩, []⟩
  | 0, k, hk => by rw [lp9_2, List.length_map, ltI_f (by omega)]; rfl
  | j + 1, k, hk => by
    have ih := st_l2 x2n x2 x11 x12 x13 w0 w1 w2 w3 w4 w5 w6 p gs q hq hh hl G hG hgs hlen j (k + 1) (by omega)
    rw [← ih, lp9_2]
    have e2 : lget (gs.map (prow q.l)) k = prow q.l (gs.getD k 0) := lget_mapD (prow q.l) gs 0 k (by omega)
    have e3 : IntKind.i64.wrap ((k : Int) + 1) = ((k + 1 : Nat) : Int) := by rw [w_i64]; omega
    have hm := hgs _ (mem_getD gs 0 k (by omega))
    have ho := s_pOpen1 q hq false (gs.getD k 0) x13
    rw [stale_gen true (valid_iff.2 ⟨hl.1, hl.2, hm.1, by omega⟩) hh (by omega)] at ho
    simp -implicitDefEqProofs only [some_bind', obCells_agg, obCells_ob, isOb_ok, isL_ok, isOw_ok, avXs_lst, avXs_ow, avNil_lst, avNil_ow, avNil_sl, avOff_sl, avCut_sl, isAgg_agg, nat_beq_self, List.length_cons, List.length_nil, Nat.reduceAdd, Nat.zero_add, isI_v, isB_v, isS_v, avInt_v, avBool_v, avStr_v, cellAt_zero, cellAt_succ, lget_zero, lget_succ, frAt_zero, frAt_succ, blAt_zero, blAt_succ, isEx_ok, isEx_ne, isEx_none, isRt_some, isRt_none, like_st, likeFG_nil, likeFG_cons, likeBG_nil, likeBG_obj, likeBG_row, likeSG_nil, likeSG_cons, likeT_nil, likeS_nil, isNP_nil, isNP_ob, likeT_ep, isEp_ep, epCells_ep, likeT_agg, likeT_int, likeT_bool, likeT_str, likeT_lst, likeT_sl0, likeT_sl1, likeT_ptr, likeS_int, likeS_bool, likeS_str, likeS_lst, likeS_sl0, likeS_sl1, likeS_ptr, isPtr_ok, isSl_0, isSl_1, beq_self_b, Bool.and_self, Bool.and_true, Bool.true_and, Bool.and_false, Bool.false_and, cond_true, cond_false, Bool.not_true, Bool.not_false, List.length_map, ltI_t (show (k : Int) < ((gs.length - 0 : Nat) : Int) by omega), leI_t (show (0 : Int) ≤ (k : Int) by omega), Int.toNat_natCast, ltN_t (show k < gs.length by omega), e2, prow_eq, ho, beq_self_i, e3, beq_eq_false_iff_ne.2 (show gs.getD k 0 ≠ G by omega)]
theorem tag_kind {k g a : Int} (hk : 0 ≤ k ∧ k < 256) (hg : 0 ≤ g ∧ g < 16777216) : tag k g a % 256 = k := by unfold tag; omega
theorem tag_gen {k g a : Int} (hk : 0 ≤ k ∧ k < 256) (hg : 0 ≤ g ∧ g < 16777216) : tag k g a / 256 % 16777216 = g := by unfold tag; omega
theorem ok0 : u64ok 0 := ⟨by decide, by decide⟩
theorem ok512 : u64ok 512 := ⟨by decide, by decide⟩
def u64r (x : Int) : Prop := 0 ≤ x ∧ x ≤ 18446744073709551615
theorem st_l0 (x2n : Bool) (ks : List Int) (w0 w1 w2 w3 w4 w5 w6 : Int) (hw : u64r w1 ∧ u64r w2 ∧ u64r w3 ∧ u64r w4 ∧ u64r w5 ∧ u64r w6) (L : Int) (hL : 104 ≤ L ∧ L < 256) (hlen : ks.length ≤ 12) :
    ∀ (j k : Nat) (x11 : Bool) (G d0 d1 d2 d3 d4 d5 d6 : Int) (gs : List Int), j + k = ks.length → gs.length = k → 0 ≤ d0 → d0 < 18446744073709551616 → d0 % 256 = 0 → d0 / 256 % 16777216 = G → G + j < 16777215 → (∀ g ∈ gs, 1 ≤ g ∧ g ≤ G) →
      lp 9 0 0 ⟨[(2, (.lst x2n 1 (ks.map irow))), (7, (.ptr 0 0 0)), (9, (.ptr 1 0 0)), (11, (.sl x11 2 0 none)), (12, (.v (.int .i64 (k : Int))))], [wb w0 w1 w2 w3 w4 w5 w6, pgb L 512 d0 d1 d2 d3 d4 d5 d6, ⟨1, 28, 2, false, gs.map (prow L)⟩]⟩ = some ⟨some 0, ⟨[], []⟩, []⟩
  | 0, k, x11, G, d0, d1, d2, d3, d4, d5, d6, gs, hk, hn, h0, h1, h2, h3, h4, h5 => by rw [lp9_0, List.length_map, ltI_f (by omega)]; rfl
  | j + 1, k, x11, G, d0, d1, d2, d3, d4, d5, d6, gs, hk, hn, h0, h1, h2, h3, h4, h5 => by
    have e2 : lget (ks.map irow) k = irow (ks.getD k 0) := lget_mapD irow ks 0 k (by omega)
    have e3 : IntKind.i64.wrap ((k : Int) + 1) = ((k + 1 : Nat) : Int) := by rw [w_i64]; omega
    have pk := pick_range (n := ks.getD k 0) (m := 4) (by decide)
    have hp4 := s_Pick (ks.getD k 0) 4 (by decide) (by decide)
    obtain ⟨K, hK⟩ : ∃ K, K = 1 + pick (ks.getD k 0) 4 := ⟨_, rfl⟩
    have eK : IntKind.i64.wrap (1 + pick (ks.getD k 0) 4) = K := by rw [w_i64]; omega
    have ea : IntKind.u32.wrap (k : Int) = (k : Int) := by rw [w_u32]; omega
    have hG0 : 0 ≤ G := by omega
    have hal : ev 31 [.agg (pg L 512 d0 d1 d2 d3 d4 d5 d6), .v (.int .i64 K), .v (.int .u32 (k : Int))] = some [.agg (pg L 512 (tag K (G + 1) k) 0 0 0 0 0 0), .v (.int .i64 0)] := by
      rw [s_pAllocate ⟨by decide, by decide⟩ ⟨h0, h1⟩ ⟨by omega, by omega⟩]
      unfold allocR heap
      rw [leI_t hL.1, ltI_t hL.2, ltI_f (show 1 ≤ K by omega), ltI_f (show K ≤ 4 by omega), h2, h3, beq_eq_false_iff_ne.2 (show G ≠ 16777215 by omega)]
      rfl
    have tr := tag_range (k := K) (g := G + 1) (a := (k : Int)) (by omega) (by omega)
    have tk := tag_kind (k := K) (g := G + 1) (a := (k : Int)) (by omega) (by omega)
    have tg := tag_gen (k := K) (g := G + 1) (a := (k : Int)) (by omega) (by omega)
    generalize tag K (G + 1) k = t at hal tr tk tg
    have hat := s_pAt (l := L) (h := 512) (d0 := t) (d1 := 0) (d2 := 0) (d3 := 0) (d4 := 0) (d5 := 0) (d6 := 0) tr.1 tr.2
    rw [tg] at hat
    have hq : Pg.ok ⟨L, 512, t, w1, w2, w3, w4, w5, w6⟩ := ⟨⟨by show _ ≤ L; omega, by show L ≤ _; omega⟩, ok512, ⟨tr.1, by have := tr.2; show t ≤ _; omega⟩, hw.1, hw.2.1, hw.2.2.1, hw.2.2.2.1, hw.2.2.2.2.1, hw.2.2.2.2.2⟩
    have l1 := st_l1 x2n (ks.map irow) x11 (k : Int) K w0 w1 w2 w3 w4 w5 w6 L 512 d0 d1 d2 d3 d4 d5 d6 (gs.map (prow L)) L 512 t L (G + 1)
    have ho := s_pOpen1 ⟨L, 512, t, w1, w2, w3, w4, w5, w6⟩ hq false (G + 1) K
    have hvl : valid L (G + 1) = true := valid_iff.2 ⟨hL.1, hL.2, by omega, by omega⟩
    rw [stale_found (q := ⟨L, 512, t, w1, w2, w3, w4, w5, w6⟩) hvl rfl tk (by omega) tg] at ho
    have l2 := st_l2 x2n (ks.map irow) x11 (k : Int) K w0 w1 w2 w3 w4 w5 w6 ⟨L, 512, d0, d1, d2, d3, d4, d5, d6⟩ gs ⟨L, 512, t, w1, w2, w3, w4, w5, w6⟩ hq rfl hL (G + 1) tg (fun g hg => by have := h5 g hg; omega) (by omega) gs.length 0 (by omega)
    have hr : ev 33 [.agg (pg L 512 t w1 w2 w3 w4 w5 w6)] = some [.agg (pg L 512 (tag 0 (G + 1) 0) 0 0 0 0 0 0), .v (.int .i64 0)] := by
      rw [s_pRelease ⟨by decide, by decide⟩ tr]
      unfold freeR heap
      rw [leI_t hL.1, ltI_t hL.2, tk, tg, beq_eq_false_iff_ne.2 (show K ≠ 0 by omega)]
      rfl
    have ur := tag_range (k := 0) (g := G + 1) (a := 0) (by omega) (by omega)
    have uk := tag_kind (k := 0) (g := G + 1) (a := 0) (by omega) (by omega)
    have ug := tag_gen (k := 0) (g := G + 1) (a := 0) (by omega) (by omega)
    generalize tag 0 (G + 1) 0 = u at hr ur uk ug
    have hu : Pg.ok ⟨L, 512, u, 0, 0, 0, 0, 0, 0⟩ := ⟨⟨by show _ ≤ L; omega, by show L ≤ _; omega⟩, ok512, ⟨ur.1, by have := ur.2; show u ≤ _; omega⟩, ok0, ok0, ok0, ok0, ok0, ok0⟩
    have hpk := s_pPeek1 ⟨L, 512, u, 0, 0, 0, 0, 0, 0⟩ hu false (G + 1) K
    rw [stale_free (q := ⟨L, 512, u, 0, 0, 0, 0, 0, 0⟩) false hvl rfl uk] at hpk
    have ih := st_l0 x2n ks w0 w1 w2 w3 w4 w5 w6 hw L hL hlen j (k + 1) false (G + 1) u 0 0 0 0 0 0 (gs ++ [G + 1]) (by omega) (by simp [hn]) ur.1 ur.2 uk ug (by omega) (fun g hg => by
      rcases List.mem_append.1 hg with h | h
      · have := h5 g h; omega
      · obtain rfl := List.mem_singleton.1 h; omega)
    rw [← ih, lp9_0]
    rw [show ((0 : Nat) : Int) = 0 from rfl] at l2
    simp only [Pg.row_eq] at ho
    simp -implicitDefEqProofs only [some_bind', obCells_agg, obCells_ob, isOb_ok, isL_ok, isOw_ok, avXs_lst, avXs_ow, avNil_lst, avNil_ow, avNil_sl, avOff_sl, avCut_sl, isAgg_agg, nat_beq_self, List.length_cons, List.length_nil, Nat.reduceAdd, Nat.zero_add, isI_v, isB_v, isS_v, avInt_v, avBool_v, avStr_v, cellAt_zero, cellAt_succ, lget_zero, lget_succ, frAt_zero, frAt_succ, blAt_zero, blAt_succ, isEx_ok, isEx_ne, isEx_none, isRt_some, isRt_none, like_st, likeFG_nil, likeFG_cons, likeBG_nil, likeBG_obj, likeBG_row, likeSG_nil, likeSG_cons, likeT_nil, likeS_nil, isNP_nil, isNP_ob, likeT_ep, isEp_ep, epCells_ep, likeT_agg, likeT_int, likeT_bool, likeT_str, likeT_lst, likeT_sl0, likeT_sl1, likeT_ptr, likeS_int, likeS_bool, likeS_str, likeS_lst, likeS_sl0, likeS_sl1, likeS_ptr, isPtr_ok, isSl_0, isSl_1, beq_self_b, Bool.and_self, Bool.and_true, Bool.true_and, Bool.and_false, Bool.false_and, cond_true, cond_false, Bool.not_true, Bool.not_false, List.length_map, ltI_t (show (k : Int) < (ks.length : Int) by omega), leI_t (show (0 : Int) ≤ (k : Int) by omega), Int.toNat_natCast, e2, irow_eq, hp4, eK, ea, hal, beq_self_i, hat, l1, ho, l2, leN_t (show (gs.length + 1) * 16 ≤ 140737488355328 by omega), hr, hpk, e3, List.map_append, List.map_cons, List.map_nil, prow_eq]
theorem stale (a0 a1 : Int) (n : Bool) (ks : List Int) (w0 w1 w2 w3 w4 w5 w6 : Int) (hw : u64r w1 ∧ u64r w2 ∧ u64r w3 ∧ u64r w4 ∧ u64r w5 ∧ u64r w6) :
    ev 9 [.v (.int .i64 a0), .v (.int .i64 a1), .lst n 1 (ks.map irow), .agg [(.v (.int .u64 w0)), (.v (.int .u64 w1)), (.v (.int .u64 w2)), (.v (.int .u64 w3)), (.v (.int .u64 w4)), (.v (.int .u64 w5)), (.v (.int .u64 w6))]] = some [.v (.bool true)] := by
  rw [ev9, List.length_map]
  cases h1 : ((ks.length : Int) == 0) with
  | true => rfl
  | false =>
    cases h2 : ltI 12 (ks.length : Int) with
    | true => rfl
    | false =>
      have hlen : ks.length ≤ 12 := by
        rcases Nat.lt_or_ge 12 ks.length with h | h
        · rw [ltI_t (by omega)] at h2; cases h2
        · exact h
      have p1 := pick_range (n := a0) (m := 152) (by decide)
      have p2 := pick_range (n := a1) (m := 16777195) (by decide)
      have q1 := s_Pick a0 152 (by decide) (by decide)
      have q2 := s_Pick a1 16777195 (by decide) (by decide)
      have eL : IntKind.i64.wrap (104 + pick a0 152) = 104 + pick a0 152 := by rw [w_i64]; omega
      generalize pick a1 16777195 = g at p2 q2
      have tr := tag_range (k := 0) (g := g) (a := 0) (by omega) (by omega)
      have tk := tag_kind (k := 0) (g := g) (a := 0) (by omega) (by omega)
      have tg := tag_gen (k := 0) (g := g) (a := 0) (by omega) (by omega)
      have ht := s_pPackTag 0 g 0 (by omega) (by omega)
      generalize tag 0 g 0 = t at ht tr tk tg
      have hl := st_l0 n ks w0 w1 w2 w3 w4 w5 w6 hw (104 + pick a0 152) (by omega) hlen ks.length 0 true g t 0 0 0 0 0 0 [] (by omega) rfl tr.1 tr.2 tk tg (by omega) (fun g hg => by cases hg)
      rw [show ((0 : Nat) : Int) = 0 from rfl, List.map_nil] at hl
      simp -implicitDefEqProofs only [some_bind', obCells_agg, obCells_ob, isOb_ok, isL_ok, isOw_ok, avXs_lst, avXs_ow, avNil_lst, avNil_ow, avNil_sl, avOff_sl, avCut_sl, isAgg_agg, nat_beq_self, List.length_cons, List.length_nil, Nat.reduceAdd, Nat.zero_add, isI_v, isB_v, isS_v, avInt_v, avBool_v, avStr_v, cellAt_zero, cellAt_succ, lget_zero, lget_succ, frAt_zero, frAt_succ, blAt_zero, blAt_succ, isEx_ok, isEx_ne, isEx_none, isRt_some, isRt_none, like_st, likeFG_nil, likeFG_cons, likeBG_nil, likeBG_obj, likeBG_row, likeSG_nil, likeSG_cons, likeT_nil, likeS_nil, isNP_nil, isNP_ob, likeT_ep, isEp_ep, epCells_ep, likeT_agg, likeT_int, likeT_bool, likeT_str, likeT_lst, likeT_sl0, likeT_sl1, likeT_ptr, likeS_int, likeS_bool, likeS_str, likeS_lst, likeS_sl0, likeS_sl1, likeS_ptr, isPtr_ok, isSl_0, isSl_1, beq_self_b, Bool.and_self, Bool.and_true, Bool.true_and, Bool.and_false, Bool.false_and, cond_true, cond_false, Bool.not_true, Bool.not_false, q1, q2, ht, eL, hl, s_lawawake]
theorem stale_all {N : Nat} (l : List AV) (h : TypA Try.prog N Try.f9.params.toList l) : ∃ n, evF Try.prog cfg n 9 l = some [.v (.bool true)] := by
  rw [show Try.f9.params.toList = [3, 3, 54, 41] by kernel_rfl] at h
  obtain ⟨a0, r, rfl, h0, h⟩ := h
  obtain ⟨a1, r, rfl, h1, h⟩ := h
  obtain ⟨a2, r, rfl, h2, h⟩ := h
  obtain ⟨a3, r, rfl, h3, h⟩ := h
  obtain rfl : r = [] := h
  obtain ⟨x0, rfl, _⟩ := openV3 h0
  obtain ⟨x1, rfl, _⟩ := openV3 h1
  obtain ⟨a2n, a2, rfl, _, _, f2⟩ := openV54 h2
  obtain ⟨w0, w1, w2, w3, w4, w5, w6, rfl, g0, g1, g2, g3, g4, g5, g6⟩ := openV41 h3
  obtain ⟨os, rfl, _⟩ := rows_of irow (fun _ => True) a2 fun y hy => by
    obtain ⟨m, e, _⟩ := typC_int (k := .i64) (by kernel_rfl) (f2 y hy)
    exact ⟨m, e, trivial⟩
  exact evF_of_evL (stale x0 x1 a2n os w0 w1 w2 w3 w4 w5 w6 ⟨g1, g2, g3, g4, g5, g6⟩)
end Go.Proofs.Ytcalaooabgklbaa
