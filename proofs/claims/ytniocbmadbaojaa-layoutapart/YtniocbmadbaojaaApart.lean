/- LayoutApart holds. No conditions. -/
import Derived.Test.YtniocbmadbaojaaSpec
import Derived.Test.YtniocbmadbaojaaEq3
set_option linter.all false
namespace Go.Proofs.Ytniocbmadbaojaa
open Go.Ev
attribute [local congr] bind_first cond_first
abbrev Ext := Nat × Nat
def erow (e : Ext) : List AV := [.v (.int .i64 (e.1 : Int)), .v (.int .i64 (e.2 : Int))]
theorem erow_eq (e : Ext) : erow e = [.v (.int .i64 (e.1 : Int)), .v (.int .i64 (e.2 : Int))] := rfl
def exts : List Ext :=
  [(0, 2)] ++ (List.range 16).map (fun v => (8 + v, 1)) ++
  (List.range 6).flatMap (fun c => [(24 + c, 1), (32 + c, 1), (40 + c, 1), (48 + 120 * c, 1), (49 + 120 * c, 1), (56 + 120 * c, 112)]) ++
  (List.range 160).map (fun p => (768 + 8 * p, 8))
set_option maxRecDepth 1000000 in
theorem s_regions : ev 7 [] = some [.ow false 26 2 (exts.map erow)] := evL_of (n := 200) (by kernel_rfl)
def cov (l : List Ext) (j : Nat) : Bool := l.any fun e => Nat.ble e.1 j && Nat.blt j (e.1 + e.2)
/-- Each extent lies within the memory and beside all earlier ones. -/
def apart : List Ext → List Ext → Bool
  | _, [] => true
  | pre, e :: r => Nat.ble (e.1 + e.2) 2048 && pre.all (fun d => Nat.ble (d.1 + d.2) e.1 || Nat.ble (e.1 + e.2) d.1) && apart (e :: pre) r
theorem exts_apart : apart [] exts = true := by kernel_rfl
def urow (u : Nat → Bool) : List (List AV) := (List.range 2048).map fun i => [.v (.bool (u i))]
theorem urow_len (u : Nat → Bool) : (urow u).length = 2048 := by unfold urow; rw [List.length_map, List.length_range]
theorem urow_get (u : Nat → Bool) (i : Nat) (h : i < 2048) : lget (urow u) i = [.v (.bool (u i))] := by
  unfold urow
  rw [lget, List.getD_eq_getElem?_getD, List.getElem?_map, List.getElem?_range h]; rfl
theorem urow_set (u : Nat → Bool) (i : Nat) (h : i < 2048) : (urow u).set i [.v (.bool true)] = urow fun j => Nat.beq j i || u j := by
  unfold urow
  apply List.ext_getElem
  · simp
  · intro j h1 h2
    rw [List.getElem_set]
    simp only [List.getElem_map, List.getElem_range]
    by_cases e : i = j
    · subst e; simp
    · rw [if_neg e, nbeq_false (Ne.symm e)]; rfl
theorem urow_congr {u v : Nat → Bool} (h : ∀ j, u j = v j) : urow u = urow v := by rw [show u = v from funext h]
abbrev bE (l : List Ext) : Blk := ⟨1, 26, 2, false, l.map erow⟩
abbrev bU (u : Nat → Bool) : Blk := ⟨1, 24, 1, false, urow u⟩
theorem l_in (l : List Ext) (i : Nat) (hi : i < l.length) (hl : l.length ≤ 1000) (u : Nat → Bool) (ha : (l.getD i (0, 0)).1 + (l.getD i (0, 0)).2 ≤ 2048) (hf : ∀ j, (l.getD i (0, 0)).1 ≤ j → j < (l.getD i (0, 0)).1 + (l.getD i (0, 0)).2 → u j = false) : ∀ (k q : Nat), q + k = (l.getD i (0, 0)).2 →
    lp 3 1 0 ⟨[(1, (.sl false 0 0 none)), (2, (.ptr 1 0 0)), (3, (.v (.int .i64 (i : Int)))), (4, (.v (.int .i64 (q : Int))))], [bE l, bU fun j => (Nat.ble (l.getD i (0, 0)).1 j && Nat.blt j ((l.getD i (0, 0)).1 + q)) || u j]⟩ =
      some ⟨some 2, ⟨[(1, (.sl false 0 0 none)), (2, (.ptr 1 0 0)), (3, (.v (.int .i64 (i : Int))))], [bE l, bU fun j => (Nat.ble (l.getD i (0, 0)).1 j && Nat.blt j ((l.getD i (0, 0)).1 + (l.getD i (0, 0)).2)) || u j]⟩, []⟩
  | 0, q, hq => by
    have hg : lget (l.map erow) (0 + i) = erow (l.getD i (0, 0)) := by rw [Nat.zero_add]; exact lget_mapD erow l (0, 0) i hi
    rw [lp3_1, List.length_map, Int.toNat_natCast, hg, leI_t (by omega), ltI_t (show (i : Int) < ((l.length - 0 : Nat) : Int) by omega), ltN_t (show 0 + i < l.length by omega)]
    generalize l.getD i (0, 0) = e at *
    obtain rfl : q = e.2 := by omega
    simp -implicitDefEqProofs only [some_bind', obCells_agg, obCells_ob, isOb_ok, isL_ok, isOw_ok, avXs_lst, avXs_ow, avNil_lst, avNil_ow, avNil_sl, avOff_sl, avCut_sl, isAgg_agg, nat_beq_self, List.length_cons, List.length_nil, Nat.reduceAdd, Nat.zero_add, isI_v, isB_v, isS_v, avInt_v, avBool_v, avStr_v, cellAt_zero, cellAt_succ, lget_zero, lget_succ, frAt_zero, frAt_succ, blAt_zero, blAt_succ, isEx_ok, isEx_ne, isEx_none, isRt_some, isRt_none, like_st, likeFG_nil, likeFG_cons, likeBG_nil, likeBG_obj, likeBG_row, likeSG_nil, likeSG_cons, likeT_nil, likeS_nil, isNP_nil, isNP_ob, likeT_ep, isEp_ep, epCells_ep, likeT_agg, likeT_int, likeT_bool, likeT_str, likeT_lst, likeT_sl0, likeT_sl1, likeT_ptr, likeS_int, likeS_bool, likeS_str, likeS_lst, likeS_sl0, likeS_sl1, likeS_ptr, isPtr_ok, isSl_0, isSl_1, beq_self_b, Bool.and_self, Bool.and_true, Bool.true_and, Bool.and_false, Bool.false_and, cond_true, cond_false, Bool.not_true, Bool.not_false, erow_eq, ltI_f (Int.le_refl _)]
  | k + 1, q, hq => by
    have ih := l_in l i hi hl u ha hf k (q + 1) (by omega)
    have hg : lget (l.map erow) (0 + i) = erow (l.getD i (0, 0)) := by rw [Nat.zero_add]; exact lget_mapD erow l (0, 0) i hi
    rw [lp3_1, List.length_map, Int.toNat_natCast, hg, leI_t (show (0 : Int) ≤ (i : Int) by omega), ltI_t (show (i : Int) < ((l.length - 0 : Nat) : Int) by omega), ltN_t (show 0 + i < l.length by omega)]
    generalize l.getD i (0, 0) = e at *
    have e1 : IntKind.i64.wrap ((e.1 : Int) + (q : Int)) = ((e.1 + q : Nat) : Int) := by rw [w_i64]; omega
    have e2 : IntKind.i64.wrap ((q : Int) + 1) = ((q + 1 : Nat) : Int) := by rw [w_i64]; omega
    have e3 : (Nat.ble e.1 (e.1 + q) && Nat.blt (e.1 + q) (e.1 + q) || u (e.1 + q)) = false := by
      rw [hf _ (by omega) (by omega), Bool.or_false, show Nat.blt (e.1 + q) (e.1 + q) = false from Bool.eq_false_iff.2 fun h => absurd (Nat.le_of_ble_eq_true h) (Nat.not_succ_le_self _), Bool.and_false]
    have e4 := urow_set (fun j => (Nat.ble e.1 j && Nat.blt j (e.1 + q)) || u j) (e.1 + q) (by omega)
    have e5 : urow (fun j => Nat.beq j (e.1 + q) || ((Nat.ble e.1 j && Nat.blt j (e.1 + q)) || u j)) = urow (fun j => (Nat.ble e.1 j && Nat.blt j (e.1 + (q + 1))) || u j) := urow_congr fun j => by
      rw [← Bool.or_assoc]
      have hb : (Nat.beq j (e.1 + q) || (Nat.ble e.1 j && Nat.blt j (e.1 + q))) = (Nat.ble e.1 j && Nat.blt j (e.1 + (q + 1))) := by
        rw [Bool.eq_iff_iff]
        simp only [Bool.or_eq_true, Bool.and_eq_true, Nat.ble_eq, Nat.blt_eq, Nat.beq_eq]
        omega
      rw [hb]
    simp only [erow_eq, cellAt_zero, cellAt_succ, isI_v, avInt_v, cond_true, Bool.and_self, ltI_t (show (q : Int) < (e.2 : Int) by omega), e1, ltI_f (show (0 : Int) ≤ ((e.1 + q : Nat) : Int) by omega), cond_false, leI_f (show ((e.1 + q : Nat) : Int) < 2048 by omega), leI_t (show (0 : Int) ≤ ((e.1 + q : Nat) : Int) by omega), ltI_t (show ((e.1 + q : Nat) : Int) < 2048 by omega), Int.toNat_natCast, urow_len, ltN_t (show e.1 + q < 2048 by omega), urow_get _ _ (show e.1 + q < 2048 by omega), isB_v, avBool_v, e2]
    rw [e3, e4, e5]
    exact ih
theorem apart_get : ∀ (l pre : List Ext), apart pre l = true → ∀ (i : Nat), i < l.length → (l.getD i (0, 0)).1 + (l.getD i (0, 0)).2 ≤ 2048 ∧ ∀ d ∈ pre ++ l.take i, d.1 + d.2 ≤ (l.getD i (0, 0)).1 ∨ (l.getD i (0, 0)).1 + (l.getD i (0, 0)).2 ≤ d.1
  | [], _, _, i, hi => by simp at hi
  | e :: r, pre, h, i, hi => by
    simp only [apart, Bool.and_eq_true, List.all_eq_true, Bool.or_eq_true, Nat.ble_eq] at h
    obtain ⟨⟨h1, h2⟩, h3⟩ := h
    cases i with
    | zero => exact ⟨h1, fun d hd => by simp at hd; exact h2 d hd⟩
    | succ i =>
      obtain ⟨g1, g2⟩ := apart_get r (e :: pre) h3 i (by simpa using hi)
      refine ⟨g1, fun d hd => g2 d ?_⟩
      simp only [List.take_succ_cons, List.mem_append, List.mem_cons] at hd ⊢
      rcases hd with hd | hd | hd
      · exact .inl (.inr hd)
      · exact .inl (.inl hd)
      · exact .inr hd
theorem cov_snoc (l : List Ext) (e : Ext) (j : Nat) : cov (l ++ [e]) j = ((Nat.ble e.1 j && Nat.blt j (e.1 + e.2)) || cov l j) := by
  unfold cov
  rw [List.any_append, Bool.or_comm]
  simp
theorem l_out (l : List Ext) (hl : l.length ≤ 1000) (h : apart [] l = true) : ∀ (k i : Nat), i + k = l.length →
    lp 3 0 0 ⟨[(1, (.sl false 0 0 none)), (2, (.ptr 1 0 0)), (3, (.v (.int .i64 (i : Int))))], [bE l, bU (cov (l.take i))]⟩ =
      some ⟨some 0, ⟨[(2, (.ptr 0 0 0))], [bU (cov l)]⟩, []⟩
  | 0, i, hi => by
    rw [lp3_0, List.length_map, ltI_f (by omega), List.take_of_length_le (by omega)]; rfl
  | k + 1, i, hi => by
    have ih := l_out l hl h k (i + 1) (by omega)
    have hlt : i < l.length := by omega
    obtain ⟨g1, g2⟩ := apart_get l [] h i hlt
    have a := l_in l i hlt hl (cov (l.take i)) g1 (fun j h1 h2 => by
      cases hc : cov (l.take i) j with
      | false => rfl
      | true =>
        unfold cov at hc
        obtain ⟨d, hd, hd2⟩ := List.any_eq_true.1 hc
        simp only [Bool.and_eq_true, Nat.ble_eq, Nat.blt_eq] at hd2
        have := g2 d (by simpa using hd)
        omega) (l.getD i (0, 0)).2 0 (by omega)
    have e0 : urow (fun j => (Nat.ble (l.getD i (0, 0)).1 j && Nat.blt j ((l.getD i (0, 0)).1 + 0)) || cov (l.take i) j) = urow (cov (l.take i)) := urow_congr fun j => by
      have : (Nat.ble (l.getD i (0, 0)).1 j && Nat.blt j ((l.getD i (0, 0)).1 + 0)) = false := by
        rw [Bool.eq_false_iff]; intro hx
        simp only [Bool.and_eq_true, Nat.ble_eq, Nat.blt_eq] at hx
        omega
      rw [this]; rfl
    have e1 : urow (fun j => (Nat.ble (l.getD i (0, 0)).1 j && Nat.blt j ((l.getD i (0, 0)).1 + (l.getD i (0, 0)).2)) || cov (l.take i) j) = urow (cov (l.take (i + 1))) := urow_congr fun j => by
      have ht : l.take (i + 1) = l.take i ++ [l.getD i (0, 0)] := by
        rw [List.take_succ_eq_append_getElem hlt]; simp [hlt]
      rw [ht, cov_snoc]
    rw [bU, e0, bU, e1] at a
    have e2 : IntKind.i64.wrap ((i : Int) + 1) = ((i + 1 : Nat) : Int) := by rw [w_i64]; omega
    rw [lp3_0, List.length_map, ltI_t (show (i : Int) < ((l.length - 0 : Nat) : Int) by omega)]
    refine bnd a ?_
    simp -implicitDefEqProofs only [some_bind', obCells_agg, obCells_ob, isOb_ok, isL_ok, isOw_ok, avXs_lst, avXs_ow, avNil_lst, avNil_ow, avNil_sl, avOff_sl, avCut_sl, isAgg_agg, nat_beq_self, List.length_cons, List.length_nil, Nat.reduceAdd, Nat.zero_add, isI_v, isB_v, isS_v, avInt_v, avBool_v, avStr_v, cellAt_zero, cellAt_succ, lget_zero, lget_succ, frAt_zero, frAt_succ, blAt_zero, blAt_succ, isEx_ok, isEx_ne, isEx_none, isRt_some, isRt_none, like_st, likeFG_nil, likeFG_cons, likeBG_nil, likeBG_obj, likeBG_row, likeSG_nil, likeSG_cons, likeT_nil, likeS_nil, isNP_nil, isNP_ob, likeT_ep, isEp_ep, epCells_ep, likeT_agg, likeT_int, likeT_bool, likeT_str, likeT_lst, likeT_sl0, likeT_sl1, likeT_ptr, likeS_int, likeS_bool, likeS_str, likeS_lst, likeS_sl0, likeS_sl1, likeS_ptr, isPtr_ok, isSl_0, isSl_1, beq_self_b, Bool.and_self, Bool.and_true, Bool.true_and, Bool.and_false, Bool.false_and, cond_true, cond_false, Bool.not_true, Bool.not_false, e2]
    exact ih
theorem s_awake7 : ev 8 [] = some [.v (.bool true)] := evL_of (n := 12) (by kernel_rfl)
set_option maxRecDepth 1000000 in
theorem apart_all {N : Nat} (l : List AV) (h : TypA Try.prog N Try.f3.params.toList l) : ∃ n, evF Try.prog cfg n 3 l = some [.v (.bool true)] := by
  rw [show Try.f3.params.toList = [] by kernel_rfl] at h
  obtain rfl : l = [] := h
  refine evF_of_evL ?_
  refine (ev3).trans ?_
  refine bnd s_regions ?_
  have hl : exts.length ≤ 1000 := by decide
  have a := l_out exts hl exts_apart exts.length 0 (by omega)
  have hu : urow (cov (exts.take 0)) = List.replicate 2048 [.v (.bool false)] := by kernel_rfl
  have hfin : lget (urow (cov exts)) 2047 = [.v (.bool true)] := by
    rw [urow_get _ _ (by omega)]
    have : cov exts 2047 = true := by kernel_rfl
    rw [this]
  have hlen := urow_len (cov exts)
  simp -implicitDefEqProofs only [some_bind', obCells_agg, obCells_ob, isOb_ok, isL_ok, isOw_ok, avXs_lst, avXs_ow, avNil_lst, avNil_ow, avNil_sl, avOff_sl, avCut_sl, isAgg_agg, nat_beq_self, List.length_cons, List.length_nil, Nat.reduceAdd, Nat.zero_add, isI_v, isB_v, isS_v, avInt_v, avBool_v, avStr_v, cellAt_zero, cellAt_succ, lget_zero, lget_succ, frAt_zero, frAt_succ, blAt_zero, blAt_succ, isEx_ok, isEx_ne, isEx_none, isRt_some, isRt_none, like_st, likeFG_nil, likeFG_cons, likeBG_nil, likeBG_obj, likeBG_row, likeSG_nil, likeSG_cons, likeT_nil, likeS_nil, isNP_nil, isNP_ob, likeT_ep, isEp_ep, epCells_ep, likeT_agg, likeT_int, likeT_bool, likeT_str, likeT_lst, likeT_sl0, likeT_sl1, likeT_ptr, likeS_int, likeS_bool, likeS_str, likeS_lst, likeS_sl0, likeS_sl1, likeS_ptr, isPtr_ok, isSl_0, isSl_1, beq_self_b, Bool.and_self, Bool.and_true, Bool.true_and, Bool.and_false, Bool.false_and, cond_true, cond_false, Bool.not_true, Bool.not_false]
  rw [← hu]
  refine bnd a ?_
  simp -implicitDefEqProofs only [some_bind', obCells_agg, obCells_ob, isOb_ok, isL_ok, isOw_ok, avXs_lst, avXs_ow, avNil_lst, avNil_ow, avNil_sl, avOff_sl, avCut_sl, isAgg_agg, nat_beq_self, List.length_cons, List.length_nil, Nat.reduceAdd, Nat.zero_add, isI_v, isB_v, isS_v, avInt_v, avBool_v, avStr_v, cellAt_zero, cellAt_succ, lget_zero, lget_succ, frAt_zero, frAt_succ, blAt_zero, blAt_succ, isEx_ok, isEx_ne, isEx_none, isRt_some, isRt_none, like_st, likeFG_nil, likeFG_cons, likeBG_nil, likeBG_obj, likeBG_row, likeSG_nil, likeSG_cons, likeT_nil, likeS_nil, isNP_nil, isNP_ob, likeT_ep, isEp_ep, epCells_ep, likeT_agg, likeT_int, likeT_bool, likeT_str, likeT_lst, likeT_sl0, likeT_sl1, likeT_ptr, likeS_int, likeS_bool, likeS_str, likeS_lst, likeS_sl0, likeS_sl1, likeS_ptr, isPtr_ok, isSl_0, isSl_1, beq_self_b, Bool.and_self, Bool.and_true, Bool.true_and, Bool.and_false, Bool.false_and, cond_true, cond_false, Bool.not_true, Bool.not_false, s_awake7, hlen, hfin]
  rfl
end Go.Proofs.Ytniocbmadbaojaa
