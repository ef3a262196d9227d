/- The loops of RecordChain. -/
import Derived.Test.YthihfpcleejjfaaChain0
set_option linter.all false
namespace Go.Proofs.Ythihfpcleejjfaa
open Go.Ev
attribute [local congr] bind_first cond_first
theorem l_two (x1n x2n x8n x9n x17n : Bool) (x1 x2 R b1 : List (List AV)) (k x10 : Int) (a b h : Pg) (ha : (a.l == h.l) = true) (hb : (b.l == a.l) = false) (hR : R.length ≤ 100) :
    lp 8 1 0 ⟨[(1, (.lst x1n 3 x1)), (2, (.lst x2n 1 x2)), (7, (.v (.int .u32 k))), (8, (.sl x8n 0 0 none)), (9, (.sl x9n 1 0 none)), (10, (.v (.int .i64 x10))), (17, (.lst x17n 9 [a.row, b.row])), (19, (.v (.int .i64 0)))], [⟨1, 34, 9, false, h.row :: R⟩, ⟨1, 42, 9, false, b1⟩]⟩ =
    some ⟨some 2, ⟨[(1, (.lst x1n 3 x1)), (2, (.lst x2n 1 x2)), (7, (.v (.int .u32 k))), (8, (.sl false 0 0 none)), (9, (.sl x9n 1 0 none)), (10, (.v (.int .i64 x10)))], [⟨1, 34, 9, false, (a.row :: R) ++ [b.row]⟩, ⟨1, 42, 9, false, b1⟩]⟩, []⟩ := by
  have q1 : ∀ x : List AV, ltI 0 ((((x :: R).length - 0 : Nat)) : Int) = true := fun x => ltI_t (by simp only [List.length_cons]; omega)
  have q2 : ∀ x : List AV, ltN 0 (x :: R).length = true := fun x => by simp [ltN]
  have q3 : ∀ x : List AV, leN (((x :: R).length + 1) * 72) 140737488355328 = true := fun x => by simp only [List.length_cons]; exact leN_t (by omega)
  refine (lp8_1 x1n x1 x2n x2 k x8n x9n x10 x17n [a.row, b.row] 0 (h.row :: R) b1).trans ?_
  refine Eq.trans (b := lp 8 1 0 ⟨[(1, (.lst x1n 3 x1)), (2, (.lst x2n 1 x2)), (7, (.v (.int .u32 k))), (8, (.sl x8n 0 0 none)), (9, (.sl x9n 1 0 none)), (10, (.v (.int .i64 x10))), (17, (.lst x17n 9 [a.row, b.row])), (19, (.v (.int .i64 1)))], [⟨1, 34, 9, false, a.row :: R⟩, ⟨1, 42, 9, false, b1⟩]⟩) ?_ ?_
  · refine (show _ = cond (ltI 0 ((((h.row :: R).length - 0 : Nat)) : Int)) (cond (ltN 0 (h.row :: R).length && true) (cond (a.l == h.l) (cond (ltI 0 ((((h.row :: R).length - 0 : Nat)) : Int)) (cond (ltN 0 (h.row :: R).length) (lp 8 1 0 ⟨[(1, (.lst x1n 3 x1)), (2, (.lst x2n 1 x2)), (7, (.v (.int .u32 k))), (8, (.sl x8n 0 0 none)), (9, (.sl x9n 1 0 none)), (10, (.v (.int .i64 x10))), (17, (.lst x17n 9 [a.row, b.row])), (19, (.v (.int .i64 1)))], [⟨1, 34, 9, false, a.row :: R⟩, ⟨1, 42, 9, false, b1⟩]⟩) none) none) _) none) none from rfl).trans ?_
    rw [q1, q2, ha]; rfl
  refine (lp8_1 x1n x1 x2n x2 k x8n x9n x10 x17n [a.row, b.row] 1 (a.row :: R) b1).trans ?_
  refine Eq.trans (b := lp 8 1 0 ⟨[(1, (.lst x1n 3 x1)), (2, (.lst x2n 1 x2)), (7, (.v (.int .u32 k))), (8, (.sl false 0 0 none)), (9, (.sl x9n 1 0 none)), (10, (.v (.int .i64 x10))), (17, (.lst x17n 9 [a.row, b.row])), (19, (.v (.int .i64 2)))], [⟨1, 34, 9, false, (a.row :: R) ++ [b.row]⟩, ⟨1, 42, 9, false, b1⟩]⟩) ?_ ?_
  · refine (show _ = cond (ltI 0 ((((a.row :: R).length - 0 : Nat)) : Int)) (cond (ltN 0 (a.row :: R).length && true) (cond (b.l == a.l) _ (cond (leN (((a.row :: R).length + 1) * 72) 140737488355328) (lp 8 1 0 ⟨[(1, (.lst x1n 3 x1)), (2, (.lst x2n 1 x2)), (7, (.v (.int .u32 k))), (8, (.sl false 0 0 none)), (9, (.sl x9n 1 0 none)), (10, (.v (.int .i64 x10))), (17, (.lst x17n 9 [a.row, b.row])), (19, (.v (.int .i64 2)))], [⟨1, 34, 9, false, (a.row :: R) ++ [b.row]⟩, ⟨1, 42, 9, false, b1⟩]⟩) none)) none) none from rfl).trans ?_
    rw [q1, q2, hb, q3]; rfl
  exact (lp8_1 x1n x1 x2n x2 k false x9n x10 x17n [a.row, b.row] 2 ((a.row :: R) ++ [b.row]) b1).trans rfl
theorem s_free {j : Nat} (hj : j ≤ 50) : ev 30 [.agg (pgl (105 + (j : Int)) 256 0 0 0 0 0 0 0), .v (.int .i64 1), .v (.int .u32 0)] = some [.agg (fr j).row, .v (.int .i64 0)] := by
  have := s_pAllocate (l := 105 + (j : Int)) (h := 256) (d0 := 0) (d1 := 0) (d2 := 0) (d3 := 0) (d4 := 0) (d5 := 0) (d6 := 0) (k := 1) (a := 0) ⟨by decide, by decide⟩ ⟨by decide, by decide⟩ ⟨by decide, by decide⟩
  rw [this]
  unfold allocR
  have hh : heap (105 + (j : Int)) = true := by unfold heap; rw [leI_t (by omega), ltI_t (by omega)]; rfl
  rw [hh]; rfl
theorem s_stp {j : Nat} (hj : j ≤ 50) : ev 13 [.v (.int .i64 (Int.tmod (j : Int) 6)), .v (.int .i64 (IntKind.i64.wrap ((j : Int) + 1)))] = some [.v (.int .u64 (stp j))] := by
  have e1 : Int.tmod (j : Int) 6 = (j : Int) % 6 := tmod_pos _ _ (by omega)
  have e2 : IntKind.i64.wrap ((j : Int) + 1) = (j : Int) + 1 := by rw [w_i64]; omega
  rw [e1, e2, s_Stamp, if_pos (okT_iff.2 (by omega))]
  rfl
theorem wnt_len (k : Int) (C : Nat → Int × Int × Int) (D : Nat → Bool) : ∀ i, (wnt k C D i).length = i + 1
  | 0 => rfl
  | i + 1 => by show (wnt k C D i).length + 1 = _; rw [wnt_len]
abbrev crow (c : Int × Int × Int) : List AV := [.v (.int .i64 c.1), .v (.int .i64 c.2.1), .v (.int .i64 c.2.2)]
abbrev brow (b : Bool) : List AV := [.v (.bool b)]
def CC (cols : List (Int × Int × Int)) (i : Nat) : Int × Int × Int := cols.getD i (0, 0, 0)
def DD (dels : List Bool) (i : Nat) : Bool := cond (Nat.blt i dels.length) (dels.getD i false) false
theorem l_build (x1n x2n : Bool) (cols : List (Int × Int × Int)) (dels : List Bool) (k : Int) (hc : Cok k (CC cols)) (hn : cols.length ≤ 20) : ∀ (j i : Nat), j + (i + 1) = cols.length →
    lp 8 0 0 ⟨[(1, (.lst x1n 3 (cols.map crow))), (2, (.lst x2n 1 (dels.map brow))), (7, (.v (.int .u32 k))), (8, (.sl false 0 0 none)), (9, (.sl false 1 0 none)), (10, (.v (.int .i64 ((i + 1 : Nat) : Int))))], [⟨1, 34, 9, false, (pgs k (CC cols) (DD dels) i).map Pg.row⟩, ⟨1, 42, 9, false, (wnt k (CC cols) (DD dels) i).map Ver.row⟩]⟩ =
    some ⟨some 0, ⟨[(8, (.sl false 0 0 none)), (9, (.sl false 1 0 none))], [⟨1, 34, 9, false, (pgs k (CC cols) (DD dels) (cols.length - 1)).map Pg.row⟩, ⟨1, 42, 9, false, (wnt k (CC cols) (DD dels) (cols.length - 1)).map Ver.row⟩]⟩, []⟩
  | 0, i, hi => by
    rw [lp8_0, List.length_map, ltI_f (by omega), show cols.length - 1 = i by omega]; rfl
  | j + 1, i, hi => by
    have ih := l_build x1n x2n cols dels k hc hn j (i + 1) (by omega)
    have f1 := s_free (j := i + 1) (by omega)
    have f2 := s_stp (j := i + 1) (by omega)
    have e1 : IntKind.i64.wrap (105 + ((i + 1 : Nat) : Int)) = 105 + ((i + 1 : Nat) : Int) := by rw [w_i64]; omega
    have e2 : IntKind.i64.wrap (((i + 1 : Nat) : Int) + 1) = ((i + 1 + 1 : Nat) : Int) := by rw [w_i64]; omega
    have e3 : IntKind.u32.wrap ((i + 1 : Nat) : Int) = ((i + 1 : Nat) : Int) := by rw [w_u32]; omega
    rw [e2] at f2
    have g1 : ltI ((i + 1 : Nat) : Int) ((cols.length : Nat) : Int) = true := ltI_t (by omega)
    have g2 : leI 0 ((i + 1 : Nat) : Int) = true := leI_t (by omega)
    have g3 : (((i + 1 : Nat) : Int) == 0) = false := beq_eq_false_iff_ne.2 (by omega)
    have g4 : lget (cols.map crow) (i + 1) = crow (CC cols (i + 1)) := lget_mapD crow cols (0, 0, 0) (i + 1) (by omega)
    have r0 := repl_step (D := DD dels) hc (i := i) (by omega)
    obtain ⟨v1, v2, v3⟩ := VI_ok (D := DD dels) hc (i := i) (by omega)
    have w1 := (vi_ok (D := DD dels) hc (i := i + 1) (by omega)).1
    have a26 := s_pReplace (fillP (fr 0) (VI k (CC cols) (DD dels) i)) (fr (i + 1)) (vi k (CC cols) (DD dels) (i + 1)) (fillP_ok _ _ (fr_ok (by omega)) v1) (fr_ok (by omega)) w1
    rw [r0] at a26
    have hp : (pgs k (CC cols) (DD dels) i).map Pg.row = (fillP (fr 0) (VI k (CC cols) (DD dels) i)).row :: ((List.range i).map fun j => fillP (fr (j + 1)) (VI k (CC cols) (DD dels) j)).map Pg.row := rfl
    have hp2 : (pgs k (CC cols) (DD dels) (i + 1)).map Pg.row = ((fillP (fr 0) (VI k (CC cols) (DD dels) (i + 1))).row :: ((List.range i).map fun j => fillP (fr (j + 1)) (VI k (CC cols) (DD dels) j)).map Pg.row) ++ [(fillP (fr (i + 1)) (VI k (CC cols) (DD dels) i)).row] := by
      rw [pgs_succ, List.map_cons, List.map_append]; rfl
    have hw : (wnt k (CC cols) (DD dels) (i + 1)).map Ver.row = (vi k (CC cols) (DD dels) (i + 1)).row :: (wnt k (CC cols) (DD dels) i).map Ver.row := rfl
    have hwl : ((wnt k (CC cols) (DD dels) i).map Ver.row).length = i + 1 := by rw [List.length_map, wnt_len]
    have hRl : (((List.range i).map fun j => fillP (fr (j + 1)) (VI k (CC cols) (DD dels) j)).map Pg.row).length ≤ 100 := by rw [List.length_map, List.length_map, List.length_range]; omega
    have l2 := l_two x1n x2n false false false (cols.map crow) (dels.map brow) (((List.range i).map fun j => fillP (fr (j + 1)) (VI k (CC cols) (DD dels) j)).map Pg.row) ((vi k (CC cols) (DD dels) (i + 1)).row :: (wnt k (CC cols) (DD dels) i).map Ver.row) k ((i + 1 : Nat) : Int) (fillP (fr 0) (VI k (CC cols) (DD dels) (i + 1))) (fillP (fr (i + 1)) (VI k (CC cols) (DD dels) i)) (fillP (fr 0) (VI k (CC cols) (DD dels) i)) (beq_self_eq_true _) (beq_eq_false_iff_ne.2 (by show 105 + ((i + 1 : Nat) : Int) ≠ 105 + ((0 : Nat) : Int); omega)) hRl
    rw [hp2, hw] at ih
    rw [hp]
    generalize (((List.range i).map fun j => fillP (fr (j + 1)) (VI k (CC cols) (DD dels) j)).map Pg.row) = R at *
    generalize (wnt k (CC cols) (DD dels) i).map Ver.row = B at *
    generalize fillP (fr 0) (VI k (CC cols) (DD dels) (i + 1)) = P at *
    generalize fillP (fr (i + 1)) (VI k (CC cols) (DD dels) i) = Q at *
    generalize fillP (fr 0) (VI k (CC cols) (DD dels) i) = H at *
    have q1 : ltI 0 (((R.length + 1 - 0 : Nat)) : Int) = true := ltI_t (by omega)
    have q2 : ltN 0 (R.length + 1) = true := by simp [ltN]
    have q3 : leN ((1 + B.length) * 64) 140737488355328 = true := leN_t (by omega)
    have q4 : ((((0 + 1 + 1 : Nat)) : Int) == 2) = true := rfl
    rw [lp8_0]
    cases hd : DD dels (i + 1) with
    | true =>
      have hv : vi k (CC cols) (DD dels) (i + 1) = ⟨k, 0, 0, 0, true, ((i + 1 : Nat) : Int), stp (i + 1), 0, 0⟩ := by unfold vi; rw [hd]; rfl
      have hb : i + 1 < dels.length ∧ dels.getD (i + 1) false = true := by
        unfold DD at hd
        cases hx : Nat.blt (i + 1) dels.length with
        | false => rw [hx] at hd; cases hd
        | true => rw [hx] at hd; exact ⟨Nat.le_of_ble_eq_true hx, hd⟩
      have g5 : lget (dels.map brow) (i + 1) = brow true := (lget_mapD brow dels false (i + 1) hb.1).trans (by rw [hb.2])
      have g6 : ltI ((i + 1 : Nat) : Int) ((dels.length : Nat) : Int) = true := ltI_t (by omega)
      rw [hv] at a26 l2 ih
      simp only [Ver.row_eq, Pg.row_eq] at a26 l2 ih f1 ⊢
      simp -implicitDefEqProofs only [some_bind', obCells_agg, obCells_ob, isOb_ok, isL_ok, isOw_ok, avXs_lst, avXs_ow, avNil_lst, avNil_ow, avNil_sl, avOff_sl, avCut_sl, isAgg_agg, nat_beq_self, List.length_cons, List.length_nil, Nat.reduceAdd, Nat.zero_add, isI_v, isB_v, isS_v, avInt_v, avBool_v, avStr_v, cellAt_zero, cellAt_succ, lget_zero, lget_succ, frAt_zero, frAt_succ, blAt_zero, blAt_succ, isEx_ok, isEx_ne, isEx_none, isRt_some, isRt_none, like_st, likeFG_nil, likeFG_cons, likeBG_nil, likeBG_obj, likeBG_row, likeSG_nil, likeSG_cons, likeT_nil, likeS_nil, isNP_nil, isNP_ob, likeT_ep, isEp_ep, epCells_ep, likeT_agg, likeT_int, likeT_bool, likeT_str, likeT_lst, likeT_sl0, likeT_sl1, likeT_ptr, likeS_int, likeS_bool, likeS_str, likeS_lst, likeS_sl0, likeS_sl1, likeS_ptr, isPtr_ok, isSl_0, isSl_1, beq_self_b, Bool.and_self, Bool.and_true, Bool.true_and, Bool.and_false, Bool.false_and, cond_true, cond_false, Bool.not_true, Bool.not_false, g1, g2, g3, g4, g5, g6, e1, e2, e3, f1, f2, q1, q2, q3, q4, a26, l2, Int.toNat_natCast, List.length_map, beq_self_i, List.cons_append, List.nil_append]
      exact ih
    | false =>
      have hv : vi k (CC cols) (DD dels) (i + 1) = ⟨k, (CC cols (i + 1)).1, (CC cols (i + 1)).2.1, (CC cols (i + 1)).2.2, false, 0, stp (i + 1), 0, 0⟩ := by unfold vi; rw [hd]; rfl
      rw [hv] at a26 l2 ih
      simp only [Ver.row_eq, Pg.row_eq] at a26 l2 ih f1 ⊢
      by_cases hb : i + 1 < dels.length
      · have hb2 : dels.getD (i + 1) false = false := by
          unfold DD at hd
          rw [show Nat.blt (i + 1) dels.length = true from Nat.ble_eq_true_of_le hb] at hd
          exact hd
        have g5 : lget (dels.map brow) (i + 1) = brow false := (lget_mapD brow dels false (i + 1) hb).trans (by rw [hb2])
        have g6 : ltI ((i + 1 : Nat) : Int) ((dels.length : Nat) : Int) = true := ltI_t (by omega)
        simp -implicitDefEqProofs only [some_bind', obCells_agg, obCells_ob, isOb_ok, isL_ok, isOw_ok, avXs_lst, avXs_ow, avNil_lst, avNil_ow, avNil_sl, avOff_sl, avCut_sl, isAgg_agg, nat_beq_self, List.length_cons, List.length_nil, Nat.reduceAdd, Nat.zero_add, isI_v, isB_v, isS_v, avInt_v, avBool_v, avStr_v, cellAt_zero, cellAt_succ, lget_zero, lget_succ, frAt_zero, frAt_succ, blAt_zero, blAt_succ, isEx_ok, isEx_ne, isEx_none, isRt_some, isRt_none, like_st, likeFG_nil, likeFG_cons, likeBG_nil, likeBG_obj, likeBG_row, likeSG_nil, likeSG_cons, likeT_nil, likeS_nil, isNP_nil, isNP_ob, likeT_ep, isEp_ep, epCells_ep, likeT_agg, likeT_int, likeT_bool, likeT_str, likeT_lst, likeT_sl0, likeT_sl1, likeT_ptr, likeS_int, likeS_bool, likeS_str, likeS_lst, likeS_sl0, likeS_sl1, likeS_ptr, isPtr_ok, isSl_0, isSl_1, beq_self_b, Bool.and_self, Bool.and_true, Bool.true_and, Bool.and_false, Bool.false_and, cond_true, cond_false, Bool.not_true, Bool.not_false, g1, g2, g3, g4, g5, g6, e1, e2, e3, f1, f2, q1, q2, q3, q4, a26, l2, Int.toNat_natCast, List.length_map, beq_self_i, List.cons_append, List.nil_append]
        exact ih
      · have g6 : ltI ((i + 1 : Nat) : Int) ((dels.length : Nat) : Int) = false := ltI_f (by omega)
        simp -implicitDefEqProofs only [some_bind', obCells_agg, obCells_ob, isOb_ok, isL_ok, isOw_ok, avXs_lst, avXs_ow, avNil_lst, avNil_ow, avNil_sl, avOff_sl, avCut_sl, isAgg_agg, nat_beq_self, List.length_cons, List.length_nil, Nat.reduceAdd, Nat.zero_add, isI_v, isB_v, isS_v, avInt_v, avBool_v, avStr_v, cellAt_zero, cellAt_succ, lget_zero, lget_succ, frAt_zero, frAt_succ, blAt_zero, blAt_succ, isEx_ok, isEx_ne, isEx_none, isRt_some, isRt_none, like_st, likeFG_nil, likeFG_cons, likeBG_nil, likeBG_obj, likeBG_row, likeSG_nil, likeSG_cons, likeT_nil, likeS_nil, isNP_nil, isNP_ob, likeT_ep, isEp_ep, epCells_ep, likeT_agg, likeT_int, likeT_bool, likeT_str, likeT_lst, likeT_sl0, likeT_sl1, likeT_ptr, likeS_int, likeS_bool, likeS_str, likeS_lst, likeS_sl0, likeS_sl1, likeS_ptr, isPtr_ok, isSl_0, isSl_1, beq_self_b, Bool.and_self, Bool.and_true, Bool.true_and, Bool.and_false, Bool.false_and, cond_true, cond_false, Bool.not_true, Bool.not_false, g1, g2, g3, g4, g6, e1, e2, e3, f1, f2, q1, q2, q3, q4, a26, l2, Int.toNat_natCast, List.length_map, beq_self_i, List.cons_append, List.nil_append]
        exact ih
theorem l_first (x1n x2n : Bool) (cols : List (Int × Int × Int)) (dels : List Bool) (k : Int) (hc : Cok k (CC cols)) (hn : cols.length ≤ 20) (h0 : 0 < cols.length) :
    lp 8 0 0 ⟨[(1, (.lst x1n 3 (cols.map crow))), (2, (.lst x2n 1 (dels.map brow))), (7, (.v (.int .u32 k))), (8, (.sl false 0 0 none)), (9, (.sl true 1 0 none)), (10, (.v (.int .i64 0)))], [⟨1, 34, 9, false, []⟩, ⟨1, 42, 9, false, []⟩]⟩ =
    some ⟨some 0, ⟨[(8, (.sl false 0 0 none)), (9, (.sl false 1 0 none))], [⟨1, 34, 9, false, (pgs k (CC cols) (DD dels) (cols.length - 1)).map Pg.row⟩, ⟨1, 42, 9, false, (wnt k (CC cols) (DD dels) (cols.length - 1)).map Ver.row⟩]⟩, []⟩ := by
  have ih := l_build x1n x2n cols dels k hc hn (cols.length - 1) 0 (by omega)
  have f1 := s_free (j := 0) (by omega)
  have f2 : ev 13 [.v (.int .i64 (Int.tmod 0 6)), .v (.int .i64 ((0 + 1 : Nat) : Int))] = some [.v (.int .u64 (stp 0))] := by
    have := s_stp (j := 0) (by omega)
    rw [show IntKind.i64.wrap (((0 : Nat) : Int) + 1) = ((0 + 1 : Nat) : Int) by decide] at this
    exact this
  have e1 : IntKind.i64.wrap (105 + 0) = 105 + ((0 : Nat) : Int) := by decide
  have e2 : IntKind.i64.wrap (0 + 1) = ((0 + 1 : Nat) : Int) := by decide
  have e3 : IntKind.u32.wrap 0 = 0 := by decide
  have g1 : ltI 0 ((cols.length : Nat) : Int) = true := ltI_t (by omega)
  have g2 : leI 0 0 = true := leI_t (by omega)
  have g4 : lget (cols.map crow) 0 = crow (CC cols 0) := lget_mapD crow cols (0, 0, 0) 0 (by omega)
  obtain ⟨v1, v2, _⟩ := vi_ok (D := DD dels) hc (i := 0) (by omega)
  have a18 := s_recWrite (fr 0) (vi k (CC cols) (DD dels) 0) (fr_ok (by omega)) v1
  have hwr : writeR (fr 0) (vi k (CC cols) (DD dels) 0) = (fillP (fr 0) (vi k (CC cols) (DD dels) 0), 0) := by unfold writeR; rw [v2]; rfl
  rw [hwr] at a18
  have hp : (pgs k (CC cols) (DD dels) 0).map Pg.row = [(fillP (fr 0) (vi k (CC cols) (DD dels) 0)).row] := rfl
  have hw : (wnt k (CC cols) (DD dels) 0).map Ver.row = [(vi k (CC cols) (DD dels) 0).row] := rfl
  rw [hp, hw] at ih
  rw [lp8_0]
  have z0 : (((0 : Int)) == 0) = true := rfl
  have z1 : leN (1 * 64) 140737488355328 = true := rfl
  have z2 : leN (1 * 72) 140737488355328 = true := rfl
  cases hd : DD dels 0 with
  | true =>
    have hv : vi k (CC cols) (DD dels) 0 = ⟨k, 0, 0, 0, true, 0, stp 0, 0, 0⟩ := by unfold vi; rw [hd]; rfl
    have hb : 0 < dels.length ∧ dels.getD 0 false = true := by
      unfold DD at hd
      cases hx : Nat.blt 0 dels.length with
      | false => rw [hx] at hd; cases hd
      | true => rw [hx] at hd; exact ⟨Nat.le_of_ble_eq_true hx, hd⟩
    have g5 : lget (dels.map brow) 0 = brow true := (lget_mapD brow dels false 0 hb.1).trans (by rw [hb.2])
    have g6 : ltI 0 ((dels.length : Nat) : Int) = true := ltI_t (by omega)
    rw [hv] at a18 ih
    generalize fillP (fr 0) _ = P at *
    simp only [Ver.row_eq, Pg.row_eq] at a18 ih f1 ⊢
    simp -implicitDefEqProofs only [some_bind', obCells_agg, obCells_ob, isOb_ok, isL_ok, isOw_ok, avXs_lst, avXs_ow, avNil_lst, avNil_ow, avNil_sl, avOff_sl, avCut_sl, isAgg_agg, nat_beq_self, List.length_cons, List.length_nil, Nat.reduceAdd, Nat.zero_add, isI_v, isB_v, isS_v, avInt_v, avBool_v, avStr_v, cellAt_zero, cellAt_succ, lget_zero, lget_succ, frAt_zero, frAt_succ, blAt_zero, blAt_succ, isEx_ok, isEx_ne, isEx_none, isRt_some, isRt_none, like_st, likeFG_nil, likeFG_cons, likeBG_nil, likeBG_obj, likeBG_row, likeSG_nil, likeSG_cons, likeT_nil, likeS_nil, isNP_nil, isNP_ob, likeT_ep, isEp_ep, epCells_ep, likeT_agg, likeT_int, likeT_bool, likeT_str, likeT_lst, likeT_sl0, likeT_sl1, likeT_ptr, likeS_int, likeS_bool, likeS_str, likeS_lst, likeS_sl0, likeS_sl1, likeS_ptr, isPtr_ok, isSl_0, isSl_1, beq_self_b, Bool.and_self, Bool.and_true, Bool.true_and, Bool.and_false, Bool.false_and, cond_true, cond_false, Bool.not_true, Bool.not_false, g1, g2, g4, g5, g6, e1, e2, e3, f1, f2, a18, z0, z1, z2, Int.toNat_zero, List.length_map, beq_self_i, List.cons_append, List.nil_append]
    exact ih
  | false =>
    have hv : vi k (CC cols) (DD dels) 0 = ⟨k, (CC cols 0).1, (CC cols 0).2.1, (CC cols 0).2.2, false, 0, stp 0, 0, 0⟩ := by unfold vi; rw [hd]; rfl
    rw [hv] at a18 ih
    generalize fillP (fr 0) _ = P at *
    simp only [Ver.row_eq, Pg.row_eq] at a18 ih f1 ⊢
    by_cases hb : 0 < dels.length
    · have hb2 : dels.getD 0 false = false := by
        unfold DD at hd
        rw [show Nat.blt 0 dels.length = true from Nat.ble_eq_true_of_le hb] at hd
        exact hd
      have g5 : lget (dels.map brow) 0 = brow false := (lget_mapD brow dels false 0 hb).trans (by rw [hb2])
      have g6 : ltI 0 ((dels.length : Nat) : Int) = true := ltI_t (by omega)
      simp -implicitDefEqProofs only [some_bind', obCells_agg, obCells_ob, isOb_ok, isL_ok, isOw_ok, avXs_lst, avXs_ow, avNil_lst, avNil_ow, avNil_sl, avOff_sl, avCut_sl, isAgg_agg, nat_beq_self, List.length_cons, List.length_nil, Nat.reduceAdd, Nat.zero_add, isI_v, isB_v, isS_v, avInt_v, avBool_v, avStr_v, cellAt_zero, cellAt_succ, lget_zero, lget_succ, frAt_zero, frAt_succ, blAt_zero, blAt_succ, isEx_ok, isEx_ne, isEx_none, isRt_some, isRt_none, like_st, likeFG_nil, likeFG_cons, likeBG_nil, likeBG_obj, likeBG_row, likeSG_nil, likeSG_cons, likeT_nil, likeS_nil, isNP_nil, isNP_ob, likeT_ep, isEp_ep, epCells_ep, likeT_agg, likeT_int, likeT_bool, likeT_str, likeT_lst, likeT_sl0, likeT_sl1, likeT_ptr, likeS_int, likeS_bool, likeS_str, likeS_lst, likeS_sl0, likeS_sl1, likeS_ptr, isPtr_ok, isSl_0, isSl_1, beq_self_b, Bool.and_self, Bool.and_true, Bool.true_and, Bool.and_false, Bool.false_and, cond_true, cond_false, Bool.not_true, Bool.not_false, g1, g2, g4, g5, g6, e1, e2, e3, f1, f2, a18, z0, z1, z2, Int.toNat_zero, List.length_map, beq_self_i, List.cons_append, List.nil_append]
      exact ih
    · have g6 : ltI 0 ((dels.length : Nat) : Int) = false := ltI_f (by omega)
      simp -implicitDefEqProofs only [some_bind', obCells_agg, obCells_ob, isOb_ok, isL_ok, isOw_ok, avXs_lst, avXs_ow, avNil_lst, avNil_ow, avNil_sl, avOff_sl, avCut_sl, isAgg_agg, nat_beq_self, List.length_cons, List.length_nil, Nat.reduceAdd, Nat.zero_add, isI_v, isB_v, isS_v, avInt_v, avBool_v, avStr_v, cellAt_zero, cellAt_succ, lget_zero, lget_succ, frAt_zero, frAt_succ, blAt_zero, blAt_succ, isEx_ok, isEx_ne, isEx_none, isRt_some, isRt_none, like_st, likeFG_nil, likeFG_cons, likeBG_nil, likeBG_obj, likeBG_row, likeSG_nil, likeSG_cons, likeT_nil, likeS_nil, isNP_nil, isNP_ob, likeT_ep, isEp_ep, epCells_ep, likeT_agg, likeT_int, likeT_bool, likeT_str, likeT_lst, likeT_sl0, likeT_sl1, likeT_ptr, likeS_int, likeS_bool, likeS_str, likeS_lst, likeS_sl0, likeS_sl1, likeS_ptr, isPtr_ok, isSl_0, isSl_1, beq_self_b, Bool.and_self, Bool.and_true, Bool.true_and, Bool.and_false, Bool.false_and, cond_true, cond_false, Bool.not_true, Bool.not_false, g1, g2, g4, g6, e1, e2, e3, f1, f2, a18, z0, z1, z2, Int.toNat_zero, List.length_map, beq_self_i, List.cons_append, List.nil_append]
      exact ih
/-- The head and the first r saved pages. -/
theorem lat_pgs (H : Pg) (S : Nat → Pg) (hH : H.l = 105) (hS : ∀ j, (S j).l = 105 + ((j + 1 : Nat) : Int)) : ∀ r : Nat,
    lat (H :: (List.range r).map S) 105 (H :: (List.range r).map S).length = some H ∧ ∀ j, j < r → lat (H :: (List.range r).map S) (105 + ((j + 1 : Nat) : Int)) (H :: (List.range r).map S).length = some (S j)
  | 0 => by
    refine ⟨?_, fun j hj => absurd hj (Nat.not_lt_zero j)⟩
    show cond (H.l == 105) (some H) _ = some H
    rw [hH]; rfl
  | r + 1 => by
    obtain ⟨i1, i2⟩ := lat_pgs H S hH hS r
    have e : (H :: (List.range (r + 1)).map S) = (H :: (List.range r).map S) ++ [S r] := by rw [List.range_succ, List.map_append]; rfl
    rw [e]
    refine ⟨?_, fun j hj => ?_⟩
    · rw [lat_snoc, hS, beq_eq_false_iff_ne.2 (show 105 + ((r + 1 : Nat) : Int) ≠ 105 by omega)]
      exact i1
    · rw [lat_snoc, hS]
      by_cases hjr : j = r
      · subst hjr; rw [beq_self_eq_true]; rfl
      · rw [beq_eq_false_iff_ne.2 (show 105 + ((r + 1 : Nat) : Int) ≠ 105 + ((j + 1 : Nat) : Int) by omega)]
        exact i2 j (by omega)
theorem wnt_get (k : Int) (C : Nat → Int × Int × Int) (D : Nat → Bool) (d : Ver) : ∀ m t, t ≤ m → (wnt k C D m).getD t d = vi k C D (m - t)
  | 0, 0, _ => rfl
  | m + 1, 0, _ => rfl
  | m + 1, t + 1, h => by
    rw [show m + 1 - (t + 1) = m - t by omega]
    exact wnt_get k C D d m t (by omega)
end Go.Proofs.Ythihfpcleejjfaa
