/- MemnodeReturns holds for every input. No conditions. -/
import Derived.Test.YtokagdgcfmjlnaaImg
import Derived.Test.YtokagdgcfmjlnaaEq4
set_option linter.all false
namespace Go.Proofs.Ytokagdgcfmjlnaa
open Go.Ev
attribute [local congr] bind_first cond_first
structure Opr where
  k : Int
  a : Int
  c : Int
  A : Int
  B : Int
def Opr.row (o : Opr) : List AV := [.v (.int .i64 o.k), .v (.int .i64 o.a), .v (.int .i64 o.c), .v (.int .u64 o.A), .v (.int .u64 o.B)]
theorem Opr.row_eq (o : Opr) : o.row = [.v (.int .i64 o.k), .v (.int .i64 o.a), .v (.int .i64 o.c), .v (.int .u64 o.A), .v (.int .u64 o.B)] := rfl
def Opr.ok (o : Opr) : Prop := i64ok o.k ∧ i64ok o.a ∧ i64ok o.c ∧ (0 ≤ o.A ∧ o.A < 18446744073709551616) ∧ (0 ≤ o.B ∧ o.B < 18446744073709551616)
def o0 : Opr := ⟨0, 0, 0, 0, 0⟩
/-- What an operation leaves. -/
def opW (ws : List Int) (dn : Bool) (o : Opr) : List Int := doW ws dn o.k o.A o.B (atE ws o.a o.A) (pick (cntE o.c o.A) 20) (pick (cntE o.c o.A) 34)
def opD (ws : List Int) (dn : Bool) (o : Opr) : Bool := doD ws dn o.k
theorem swapW_len (ws : List Int) (dn : Bool) (kind A B a : Int) : (swapW ws dn kind A B a).length = ws.length := by
  unfold swapW; repeat' split
  all_goals first | rfl | simp
theorem opW_len (ws : List Int) (dn : Bool) (o : Opr) : (opW ws dn o).length = ws.length := by
  unfold opW doW
  simp only
  repeat' split
  all_goals first
    | rfl
    | exact swapW_len _ _ _ _ _ _
    | exact back_len _ _
    | exact List.length_set ..
    | (rename_i h; refine splice_len _ _ _ ?_; obtain ⟨g1, g2, g3, _⟩ := acc_zero.1 h; rw [wds_len]; omega)
theorem wok_swap {ws : List Int} (h : Wok ws) (dn : Bool) (kind A B a : Int) (hA : 0 ≤ A ∧ A < 18446744073709551616) : Wok (swapW ws dn kind A B a) := by
  unfold swapW
  by_cases h1 : acc ws.length (!dn) a 1 = 0
  · rw [if_pos h1]
    by_cases h2 : pick kind 10 = 4
    · rw [if_pos h2]; repeat' split
      all_goals first | exact wok_set h _ hA | exact h
    · rw [if_neg h2]; exact wok_set h _ (wok_wrap _)
  · rw [if_neg h1]; exact h
theorem wok_op {ws : List Int} (h : Wok ws) (dn : Bool) (o : Opr) (ho : o.ok) : Wok (opW ws dn o) := by
  unfold opW doW
  simp only
  have hp := pick_range (n := cntE o.c o.A) (m := 34) (by decide)
  repeat' split
  all_goals first
    | exact h
    | exact wok_splice h (wok_wds _ _) _
    | exact wok_swap h _ _ _ _ _ ho.2.2.2.1
    | exact wok_back h _
    | exact wok_set h _ ⟨by omega, by omega⟩
theorem s_op (ws : List Int) (dn : Bool) (o : Opr) (hl : 1 < ws.length ∧ ws.length ≤ 100000) (ho : o.ok) : ev 14 [ndO ws dn, rfO ws (!dn), .agg [.v (.int .i64 o.k), .v (.int .i64 o.a), .v (.int .i64 o.c), .v (.int .u64 o.A), .v (.int .u64 o.B)]] = some [.v (.bool true), ndO (opW ws dn o) (opD ws dn o), rfO (opW ws dn o) (!(opD ws dn o))] :=
  s_do ws dn o.k o.a o.c o.A o.B hl ho.2.1 ho.2.2.1
theorem opD_low (ws : List Int) (dn : Bool) (o : Opr) (h : pick o.k 10 < 6) : opD ws dn o = dn := by
  unfold opD doD
  simp only
  rw [if_neg (by omega), if_neg (by omega)]
theorem s_awake : ev 10 [] = some [.v (.bool true)] := evL_of (n := 12) (by kernel_rfl)
theorem l_ret0 (b : Bool) (os : List Opr) (t : Int) (ho : ∀ o ∈ os, o.ok) (hn : os.length ≤ 30) : ∀ (k i : Nat) (ws : List Int), i + k = os.length → ws.length = 16 →
    ∃ ws', ws'.length = 16 ∧ (Wok ws → Wok ws') ∧ lp 4 0 0 ⟨[(0, (.lst b 5 (os.map Opr.row))), (1, (.v (.int .i64 t))), (5, (.ptr 0 0 0)), (7, (.ptr 2 0 0)), (8, (.v (.int .i64 (i : Int))))], [⟨1, 60, 2, true, [[(.sl false 1 0 none), (.v (.bool false))]]⟩, ⟨1, 31, 1, false, ws.map wr⟩, ⟨1, 36, 2, true, [[(.sl false 3 0 none), (.v (.bool true))]]⟩, ⟨1, 31, 1, false, ws.map wr⟩]⟩ =
      some ⟨some 0, ⟨[(1, (.v (.int .i64 t))), (5, (.ptr 0 0 0))], [⟨1, 60, 2, true, [[(.sl false 1 0 none), (.v (.bool false))]]⟩, ⟨1, 31, 1, false, ws'.map wr⟩]⟩, []⟩
  | 0, i, ws, hi, hw => by
    refine ⟨ws, hw, id, ?_⟩
    rw [lp4_0, List.length_map, ltI_f (by omega)]; rfl
  | k + 1, i, ws, hi, hw => by
    have hlt : i < os.length := by omega
    have hok := ho _ (mem_getD os o0 i hlt)
    have hg : lget (os.map Opr.row) i = Opr.row (os.getD i o0) := lget_mapD Opr.row os o0 i hlt
    have e1 : IntKind.i64.wrap ((i : Int) + 1) = ((i + 1 : Nat) : Int) := by rw [w_i64]; omega
    generalize os.getD i o0 = o at *
    have hp := s_Pick o.k 10 (by decide) (by decide)
    rw [lp4_0, List.length_map, ltI_t (by omega), leI_t (by omega), Int.toNat_natCast, hg, Opr.row_eq, e1]
    by_cases h6 : pick o.k 10 < 6
    · obtain ⟨ws', w1, w2, w3⟩ := l_ret0 b os t ho hn k (i + 1) (opW ws false o) (by omega) (by rw [opW_len]; exact hw)
      refine ⟨ws', w1, fun h => w2 (wok_op h _ _ hok), ?_⟩
      have hd := s_op ws false o (by omega) hok
      rw [opD_low _ _ _ h6] at hd
      simp -implicitDefEqProofs only [some_bind', obCells_agg, obCells_ob, isOb_ok, isL_ok, isOw_ok, avXs_lst, avXs_ow, avNil_lst, avNil_ow, avNil_sl, avOff_sl, avCut_sl, isAgg_agg, nat_beq_self, List.length_cons, List.length_nil, Nat.reduceAdd, Nat.zero_add, isI_v, isB_v, isS_v, avInt_v, avBool_v, avStr_v, cellAt_zero, cellAt_succ, lget_zero, lget_succ, frAt_zero, frAt_succ, blAt_zero, blAt_succ, isEx_ok, isEx_ne, isEx_none, isRt_some, isRt_none, like_st, likeFG_nil, likeFG_cons, likeBG_nil, likeBG_obj, likeBG_row, likeSG_nil, likeSG_cons, likeT_nil, likeS_nil, isNP_nil, isNP_ob, likeT_ep, isEp_ep, epCells_ep, likeT_agg, likeT_int, likeT_bool, likeT_str, likeT_lst, likeT_sl0, likeT_sl1, likeT_ptr, likeS_int, likeS_bool, likeS_str, likeS_lst, likeS_sl0, likeS_sl1, likeS_ptr, isPtr_ok, isSl_0, isSl_1, beq_self_b, Bool.and_self, Bool.and_true, Bool.true_and, Bool.and_false, Bool.false_and, cond_true, cond_false, Bool.not_true, Bool.not_false, hp, ltI_t h6]
      refine bnd hd ?_
      simp -implicitDefEqProofs only [some_bind', obCells_agg, obCells_ob, isOb_ok, isL_ok, isOw_ok, avXs_lst, avXs_ow, avNil_lst, avNil_ow, avNil_sl, avOff_sl, avCut_sl, isAgg_agg, nat_beq_self, List.length_cons, List.length_nil, Nat.reduceAdd, Nat.zero_add, isI_v, isB_v, isS_v, avInt_v, avBool_v, avStr_v, cellAt_zero, cellAt_succ, lget_zero, lget_succ, frAt_zero, frAt_succ, blAt_zero, blAt_succ, isEx_ok, isEx_ne, isEx_none, isRt_some, isRt_none, like_st, likeFG_nil, likeFG_cons, likeBG_nil, likeBG_obj, likeBG_row, likeSG_nil, likeSG_cons, likeT_nil, likeS_nil, isNP_nil, isNP_ob, likeT_ep, isEp_ep, epCells_ep, likeT_agg, likeT_int, likeT_bool, likeT_str, likeT_lst, likeT_sl0, likeT_sl1, likeT_ptr, likeS_int, likeS_bool, likeS_str, likeS_lst, likeS_sl0, likeS_sl1, likeS_ptr, isPtr_ok, isSl_0, isSl_1, beq_self_b, Bool.and_self, Bool.and_true, Bool.true_and, Bool.and_false, Bool.false_and, cond_true, cond_false, Bool.not_true, Bool.not_false, likeG_nil, likeG_cons, likeB_ow, likeB_bool]
      exact w3
    · obtain ⟨ws', w1, w2, w3⟩ := l_ret0 b os t ho hn k (i + 1) ws (by omega) hw
      refine ⟨ws', w1, w2, ?_⟩
      simp -implicitDefEqProofs only [some_bind', obCells_agg, obCells_ob, isOb_ok, isL_ok, isOw_ok, avXs_lst, avXs_ow, avNil_lst, avNil_ow, avNil_sl, avOff_sl, avCut_sl, isAgg_agg, nat_beq_self, List.length_cons, List.length_nil, Nat.reduceAdd, Nat.zero_add, isI_v, isB_v, isS_v, avInt_v, avBool_v, avStr_v, cellAt_zero, cellAt_succ, lget_zero, lget_succ, frAt_zero, frAt_succ, blAt_zero, blAt_succ, isEx_ok, isEx_ne, isEx_none, isRt_some, isRt_none, like_st, likeFG_nil, likeFG_cons, likeBG_nil, likeBG_obj, likeBG_row, likeSG_nil, likeSG_cons, likeT_nil, likeS_nil, isNP_nil, isNP_ob, likeT_ep, isEp_ep, epCells_ep, likeT_agg, likeT_int, likeT_bool, likeT_str, likeT_lst, likeT_sl0, likeT_sl1, likeT_ptr, likeS_int, likeS_bool, likeS_str, likeS_lst, likeS_sl0, likeS_sl1, likeS_ptr, isPtr_ok, isSl_0, isSl_1, beq_self_b, Bool.and_self, Bool.and_true, Bool.true_and, Bool.and_false, Bool.false_and, cond_true, cond_false, Bool.not_true, Bool.not_false, hp, ltI_f (show 6 ≤ pick o.k 10 by omega)]
      exact w3
theorem l_ret1 (t : Int) (ys : List (List AV)) (ws : List Int) (hw : ws.length = 16) : ∀ (k i : Nat), ((i + k : Nat) : Int) = pick t 5 + 1 →
    lp 4 1 0 ⟨[(1, (.v (.int .i64 t))), (5, (.ptr 0 0 0)), (10, (.sl false 2 0 none)), (12, (.v (.int .i64 (i : Int))))], [⟨1, 60, 2, true, [[(.sl false 1 0 none), (.v (.bool false))]]⟩, ⟨1, 31, 1, false, (ws.set 1 ((i : Int) + 1)).map wr⟩, ⟨1, 31, 1, false, ys⟩]⟩ =
      some ⟨some 2, ⟨[(1, (.v (.int .i64 t))), (5, (.ptr 0 0 0)), (10, (.sl false 2 0 none))], [⟨1, 60, 2, true, [[(.sl false 1 0 none), (.v (.bool false))]]⟩, ⟨1, 31, 1, false, (ws.set 1 (pick t 5 + 2)).map wr⟩, ⟨1, 31, 1, false, ys⟩]⟩, []⟩
  | 0, i, hi => by
    have hp := s_Pick t 5 (by decide) (by decide)
    have hr := pick_range (n := t) (m := 5) (by decide)
    have e1 : IntKind.i64.wrap (pick t 5 + 1) = pick t 5 + 1 := by rw [w_i64]; omega
    rw [lp4_1]
    refine bnd hp ?_
    simp -implicitDefEqProofs only [some_bind', obCells_agg, obCells_ob, isOb_ok, isL_ok, isOw_ok, avXs_lst, avXs_ow, avNil_lst, avNil_ow, avNil_sl, avOff_sl, avCut_sl, isAgg_agg, nat_beq_self, List.length_cons, List.length_nil, Nat.reduceAdd, Nat.zero_add, isI_v, isB_v, isS_v, avInt_v, avBool_v, avStr_v, cellAt_zero, cellAt_succ, lget_zero, lget_succ, frAt_zero, frAt_succ, blAt_zero, blAt_succ, isEx_ok, isEx_ne, isEx_none, isRt_some, isRt_none, like_st, likeFG_nil, likeFG_cons, likeBG_nil, likeBG_obj, likeBG_row, likeSG_nil, likeSG_cons, likeT_nil, likeS_nil, isNP_nil, isNP_ob, likeT_ep, isEp_ep, epCells_ep, likeT_agg, likeT_int, likeT_bool, likeT_str, likeT_lst, likeT_sl0, likeT_sl1, likeT_ptr, likeS_int, likeS_bool, likeS_str, likeS_lst, likeS_sl0, likeS_sl1, likeS_ptr, isPtr_ok, isSl_0, isSl_1, beq_self_b, Bool.and_self, Bool.and_true, Bool.true_and, Bool.and_false, Bool.false_and, cond_true, cond_false, Bool.not_true, Bool.not_false, e1, ltI_f (show pick t 5 + 1 ≤ (i : Int) by omega)]
    rw [show (i : Int) + 1 = pick t 5 + 2 by omega]
  | k + 1, i, hi => by
    have hp := s_Pick t 5 (by decide) (by decide)
    have hr := pick_range (n := t) (m := 5) (by decide)
    have ih := l_ret1 t ys ws hw k (i + 1) (by omega)
    have e1 : IntKind.i64.wrap (pick t 5 + 1) = pick t 5 + 1 := by rw [w_i64]; omega
    have e2 : IntKind.i64.wrap ((i : Int) + 1) = ((i + 1 : Nat) : Int) := by rw [w_i64]; omega
    have hg : (ws.set 1 ((i : Int) + 1)).getD 1 0 = (i : Int) + 1 := by simp [hw]
    have hset : (ws.set 1 ((i : Int) + 1)).set 1 (IntKind.u64.wrap ((i : Int) + 1 + 1)) = ws.set 1 (((i + 1 : Nat) : Int) + 1) := by
      rw [List.set_set, w_u64, show ((i : Int) + 1 + 1) % 18446744073709551616 = ((i + 1 : Nat) : Int) + 1 by omega]
    have hl : (ws.set 1 ((i : Int) + 1)).length = 16 := by rw [List.length_set]; exact hw
    have z4 : ∀ a c : Int, 1 ≤ c → 0 ≤ a → a + c ≤ 16 → acc (ws.set 1 ((i : Int) + 1)).length (!true) a c = 4 := fun a c h1 h2 h3 => by
      rw [acc_ok h1 h2 (by rw [hl]; exact h3)]; rfl
    have hb : backOk (ws.set 1 ((i : Int) + 1)) true = true := by
      unfold backOk; rw [hg, ltI_t (by omega)]; rfl
    have hbw : backW (ws.set 1 ((i : Int) + 1)) true = ws.set 1 (((i + 1 : Nat) : Int) + 1) := by
      unfold backW; rw [hb, hg]; exact hset
    have k0 := s_Fail (ws.set 1 ((i : Int) + 1)) false
    have k1 := s_Read (ws.set 1 ((i : Int) + 1)) true 0 1 (by omega) ⟨by decide, by decide⟩
    rw [z4 0 1 (by omega) (by omega) (by omega), if_neg (by decide)] at k1
    have k2 := s_Cas (ws.set 1 ((i : Int) + 1)) true 0 0 1 (by omega) ⟨by decide, by decide⟩
    rw [z4 0 1 (by omega) (by omega) (by omega), if_neg (by decide)] at k2
    have k3 := s_Add (ws.set 1 ((i : Int) + 1)) true 0 1 (by omega) ⟨by decide, by decide⟩
    rw [z4 0 1 (by omega) (by omega) (by omega), if_neg (by decide)] at k3
    have k4 := s_Write (ws.set 1 ((i : Int) + 1)) true 0 false [9] (by omega) ⟨by decide, by decide⟩
    rw [z4 0 _ (by simp) (by omega) (by simp), if_neg (by decide)] at k4
    have k5 := s_Up false ((ws.set 1 ((i : Int) + 1)).map wr) true
    have k6 := s_Back (ws.set 1 ((i : Int) + 1)) true (by omega)
    rw [hb, hbw] at k6
    have k7 := s_Back (ws.set 1 (((i + 1 : Nat) : Int) + 1)) false (by rw [List.length_set]; omega)
    have hb2 : ∀ l, backOk l false = false := fun _ => rfl
    have hbw2 : ∀ l, backW l false = l := fun _ => rfl
    rw [hb2, hbw2] at k7
    have m9 : ([9] : List Int).map wr = [[.v (.int .u64 9)]] := rfl
    rw [m9] at k4
    rw [lp4_1]
    refine bnd hp ?_
    generalize ws.set 1 ((i : Int) + 1) = V at *
    simp -implicitDefEqProofs only [some_bind', obCells_agg, obCells_ob, isOb_ok, isL_ok, isOw_ok, avXs_lst, avXs_ow, avNil_lst, avNil_ow, avNil_sl, avOff_sl, avCut_sl, isAgg_agg, nat_beq_self, List.length_cons, List.length_nil, Nat.reduceAdd, Nat.zero_add, isI_v, isB_v, isS_v, avInt_v, avBool_v, avStr_v, cellAt_zero, cellAt_succ, lget_zero, lget_succ, frAt_zero, frAt_succ, blAt_zero, blAt_succ, isEx_ok, isEx_ne, isEx_none, isRt_some, isRt_none, like_st, likeFG_nil, likeFG_cons, likeBG_nil, likeBG_obj, likeBG_row, likeSG_nil, likeSG_cons, likeT_nil, likeS_nil, isNP_nil, isNP_ob, likeT_ep, isEp_ep, epCells_ep, likeT_agg, likeT_int, likeT_bool, likeT_str, likeT_lst, likeT_sl0, likeT_sl1, likeT_ptr, likeS_int, likeS_bool, likeS_str, likeS_lst, likeS_sl0, likeS_sl1, likeS_ptr, isPtr_ok, isSl_0, isSl_1, beq_self_b, Bool.and_self, Bool.and_true, Bool.true_and, Bool.and_false, Bool.false_and, cond_true, cond_false, Bool.not_true, Bool.not_false, e1, e2, ltI_t (show (i : Int) < pick t 5 + 1 by omega), k0, k1, k2, k3, k4, k5, k6, k7, likeG_nil, likeG_cons, likeB_ow, likeB_bool, List.all_nil, all_wr, Bool.false_or, Int.reduceBEq, beq_self_i]
    exact ih
theorem ret_all {N : Nat} (l : List AV) (h : TypA Try.prog N Try.f4.params.toList l) : ∃ n, evF Try.prog cfg n 4 l = some [.v (.bool true)] := by
  rw [show Try.f4.params.toList = [34, 3] by kernel_rfl] at h
  obtain ⟨a0, r, rfl, h0, h⟩ := h
  obtain ⟨a1, r, rfl, h1, h⟩ := h
  obtain rfl : r = [] := h
  obtain ⟨b, xs, rfl, _, _, f0⟩ := openV34 h0
  obtain ⟨t, rfl, ht⟩ := openV3 h1
  obtain ⟨os, rfl, ho⟩ := rows_of Opr.row Opr.ok xs fun y hy => by
    obtain ⟨a0, a1, a2, a3, a4, e, r0, r1, r2, r3, r4⟩ := openC39 (f0 y hy)
    exact ⟨⟨a0, a1, a2, a3, a4⟩, e, r0, r1, r2, ⟨r3.1, by show a3 < _; omega⟩, ⟨r4.1, by show a4 < _; omega⟩⟩
  refine evF_of_evL ?_
  refine (ev4 _ _ _).trans ?_
  by_cases hn : os.length ≤ 30
  · obtain ⟨ws, w1, w2, w3⟩ := l_ret0 b os t ho hn os.length 0 (List.replicate 16 0) (by omega) (by simp)
    have hp := s_Pick t 5 (by decide) (by decide)
    have hr := pick_range (n := t) (m := 5) (by decide)
    have k0 : ∀ a c : Int, 1 ≤ c → 0 ≤ a → a + c ≤ 16 → acc ws.length (!false) a c = 0 := fun a c h1 h2 h3 => by
      rw [acc_ok h1 h2 (by rw [w1]; exact h3)]; rfl
    have k1 := s_Write ws false 1 false [1] (by omega) ⟨by decide, by decide⟩
    rw [k0 1 _ (by simp) (by omega) (by simp), if_pos rfl, show (1 : Int).toNat = 1 from rfl, splice_one _ _ (by omega)] at k1
    have m1 : ([1] : List Int).map wr = [[.v (.int .u64 1)]] := rfl
    rw [m1] at k1
    have hl1 : (ws.set 1 1).length = 16 := by rw [List.length_set]; exact w1
    have hl2 : (ws.set 1 (pick t 5 + 2)).length = 16 := by rw [List.length_set]; exact w1
    have k2 := s_Read (ws.set 1 1) false 0 16 (by omega) ⟨by decide, by decide⟩
    have a2 : acc (ws.set 1 1).length (!false) 0 16 = 0 := by rw [hl1]; rfl
    rw [a2, if_pos rfl] at k2
    have t1 : List.take (16 : Int).toNat (List.drop (0 : Int).toNat (ws.set 1 1)) = ws.set 1 1 := List.take_of_length_le (by simp [w1])
    rw [t1] at k2
    have k3 := s_Read (ws.set 1 (pick t 5 + 2)) false 0 16 (by omega) ⟨by decide, by decide⟩
    have a3 : acc (ws.set 1 (pick t 5 + 2)).length (!false) 0 16 = 0 := by rw [hl2]; rfl
    rw [a3, if_pos rfl] at k3
    have t2 : List.take (16 : Int).toNat (List.drop (0 : Int).toNat (ws.set 1 (pick t 5 + 2))) = ws.set 1 (pick t 5 + 2) := List.take_of_length_le (by simp [w1])
    rw [t2] at k3
    have l1 := l_ret1 t ((ws.set 1 1).map wr) ws w1 (pick t 5 + 1).toNat 0 (by omega)
    have z : (((0 : Nat) : Int) + 1) = 1 := rfl
    rw [z] at l1
    have g1 : lget ((ws.set 1 (pick t 5 + 2)).map wr) 1 = wr (pick t 5 + 2) := by rw [get_wr _ _ (by omega)]; simp [w1]
    have g2 : lget ((ws.set 1 1).map wr) 1 = wr 1 := by rw [get_wr _ _ (by omega)]; simp [w1]
    have s1 : ((ws.set 1 (pick t 5 + 2)).map wr).set 1 [.v (.int .u64 1)] = (ws.set 1 1).map wr := by rw [set_wr, List.set_set]
    have k4 := s_SameWords false false (ws.set 1 1) (ws.set 1 1) (by omega) (by omega)
    rw [decide_eq_true rfl] at k4
    have e1 : IntKind.u64.wrap (IntKind.i64.wrap (pick t 5 + 2)) = pick t 5 + 2 := by rw [w_u64, w_i64]; omega
    have hN := s_New 2 ⟨by decide, by decide⟩
    have hx : (List.replicate 16 (0 : Int)).map wr = [[.v (.int .u64 0)], [.v (.int .u64 0)], [.v (.int .u64 0)], [.v (.int .u64 0)], [.v (.int .u64 0)], [.v (.int .u64 0)], [.v (.int .u64 0)], [.v (.int .u64 0)], [.v (.int .u64 0)], [.v (.int .u64 0)], [.v (.int .u64 0)], [.v (.int .u64 0)], [.v (.int .u64 0)], [.v (.int .u64 0)], [.v (.int .u64 0)], [.v (.int .u64 0)]] := rfl
    rw [show 8 * (2 : Int).toNat = 16 from rfl, ndO, hx] at hN
    rw [hx] at w3
    rw [List.length_map, ltI_f (by omega)]
    refine bnd hN ?_
    simp -implicitDefEqProofs only [some_bind', obCells_agg, obCells_ob, isOb_ok, isL_ok, isOw_ok, avXs_lst, avXs_ow, avNil_lst, avNil_ow, avNil_sl, avOff_sl, avCut_sl, isAgg_agg, nat_beq_self, List.length_cons, List.length_nil, Nat.reduceAdd, Nat.zero_add, isI_v, isB_v, isS_v, avInt_v, avBool_v, avStr_v, cellAt_zero, cellAt_succ, lget_zero, lget_succ, frAt_zero, frAt_succ, blAt_zero, blAt_succ, isEx_ok, isEx_ne, isEx_none, isRt_some, isRt_none, like_st, likeFG_nil, likeFG_cons, likeBG_nil, likeBG_obj, likeBG_row, likeSG_nil, likeSG_cons, likeT_nil, likeS_nil, isNP_nil, isNP_ob, likeT_ep, isEp_ep, epCells_ep, likeT_agg, likeT_int, likeT_bool, likeT_str, likeT_lst, likeT_sl0, likeT_sl1, likeT_ptr, likeS_int, likeS_bool, likeS_str, likeS_lst, likeS_sl0, likeS_sl1, likeS_ptr, isPtr_ok, isSl_0, isSl_1, beq_self_b, Bool.and_self, Bool.and_true, Bool.true_and, Bool.and_false, Bool.false_and, cond_true, cond_false, Bool.not_true, Bool.not_false, isNP_ob, s_awake, Int.reduceBEq]
    refine bnd (a := ⟨some 0, ⟨[(1, (.v (.int .i64 t))), (5, (.ptr 0 0 0))], [⟨1, 60, 2, true, [[(.sl false 1 0 none), (.v (.bool false))]]⟩, ⟨1, 31, 1, false, ws.map wr⟩]⟩, []⟩) w3 ?_
    have lm1 : ((ws.set 1 1).map wr).length = 16 := by rw [List.length_map]; exact hl1
    have lm2 : ((ws.set 1 (pick t 5 + 2)).map wr).length = 16 := by rw [List.length_map]; exact hl2
    have b1 : ltI 1 (((16 - 0 : Nat)) : Int) = true := rfl
    have b2 : ltN 1 16 = true := rfl
    have b3 : ((((16 - 0 : Nat)) : Int) == 16) = true := rfl
    simp -implicitDefEqProofs only [some_bind', obCells_agg, obCells_ob, isOb_ok, isL_ok, isOw_ok, avXs_lst, avXs_ow, avNil_lst, avNil_ow, avNil_sl, avOff_sl, avCut_sl, isAgg_agg, nat_beq_self, List.length_cons, List.length_nil, Nat.reduceAdd, Nat.zero_add, isI_v, isB_v, isS_v, avInt_v, avBool_v, avStr_v, cellAt_zero, cellAt_succ, lget_zero, lget_succ, frAt_zero, frAt_succ, blAt_zero, blAt_succ, isEx_ok, isEx_ne, isEx_none, isRt_some, isRt_none, like_st, likeFG_nil, likeFG_cons, likeBG_nil, likeBG_obj, likeBG_row, likeSG_nil, likeSG_cons, likeT_nil, likeS_nil, isNP_nil, isNP_ob, likeT_ep, isEp_ep, epCells_ep, likeT_agg, likeT_int, likeT_bool, likeT_str, likeT_lst, likeT_sl0, likeT_sl1, likeT_ptr, likeS_int, likeS_bool, likeS_str, likeS_lst, likeS_sl0, likeS_sl1, likeS_ptr, isPtr_ok, isSl_0, isSl_1, beq_self_b, Bool.and_self, Bool.and_true, Bool.true_and, Bool.and_false, Bool.false_and, cond_true, cond_false, Bool.not_true, Bool.not_false, k1, k2, all_wr, likeG_nil, likeG_cons, likeB_ow, likeB_bool, Int.reduceBEq, beq_self_i, Bool.false_or]
    refine bnd l1 ?_
    simp -implicitDefEqProofs only [some_bind', obCells_agg, obCells_ob, isOb_ok, isL_ok, isOw_ok, avXs_lst, avXs_ow, avNil_lst, avNil_ow, avNil_sl, avOff_sl, avCut_sl, isAgg_agg, nat_beq_self, List.length_cons, List.length_nil, Nat.reduceAdd, Nat.zero_add, isI_v, isB_v, isS_v, avInt_v, avBool_v, avStr_v, cellAt_zero, cellAt_succ, lget_zero, lget_succ, frAt_zero, frAt_succ, blAt_zero, blAt_succ, isEx_ok, isEx_ne, isEx_none, isRt_some, isRt_none, like_st, likeFG_nil, likeFG_cons, likeBG_nil, likeBG_obj, likeBG_row, likeSG_nil, likeSG_cons, likeT_nil, likeS_nil, isNP_nil, isNP_ob, likeT_ep, isEp_ep, epCells_ep, likeT_agg, likeT_int, likeT_bool, likeT_str, likeT_lst, likeT_sl0, likeT_sl1, likeT_ptr, likeS_int, likeS_bool, likeS_str, likeS_lst, likeS_sl0, likeS_sl1, likeS_ptr, isPtr_ok, isSl_0, isSl_1, beq_self_b, Bool.and_self, Bool.and_true, Bool.true_and, Bool.and_false, Bool.false_and, cond_true, cond_false, Bool.not_true, Bool.not_false, k3, all_wr, likeG_nil, likeG_cons, likeB_ow, likeB_bool, Int.reduceBEq, beq_self_i, Bool.false_or, lm1, lm2, b1, b2, b3, g1, g2, wr_eq, hp, e1, s1, k4]
  · rw [List.length_map, ltI_t (by omega)]; rfl
end Go.Proofs.Ytokagdgcfmjlnaa
