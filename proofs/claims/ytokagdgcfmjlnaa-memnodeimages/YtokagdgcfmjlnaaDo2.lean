/- One operation on the program's node and on the reference's. -/
import Derived.Test.YtokagdgcfmjlnaaSpec
set_option linter.all false
namespace Go.Proofs.Ytokagdgcfmjlnaa
open Go.Ev
attribute [local congr] bind_first cond_first
def swapW (ws : List Int) (dn : Bool) (kind A B a : Int) : List Int :=
  if acc ws.length (!dn) a 1 = 0 then
    (if pick kind 10 = 4 then (if ws.getD a.toNat 0 = (if Int.tmod A 2 = 0 then ws.getD a.toNat 0 else B) then ws.set a.toNat A else ws) else ws.set a.toNat (IntKind.u64.wrap (ws.getD a.toNat 0 + B)))
  else ws
abbrev opA (kind at_ cnt A B : Int) : AV := .agg [.v (.int .i64 kind), .v (.int .i64 at_), .v (.int .i64 cnt), .v (.int .u64 A), .v (.int .u64 B)]
theorem s_swap (ws : List Int) (dn : Bool) (kind at_ cnt A B a : Int) (hl : ws.length ≤ 100000) (ha : i64ok a) :
    ev 31 [ndO ws dn, rfO ws (!dn), opA kind at_ cnt A B, .v (.int .i64 a)] = some [.v (.bool true), ndO (swapW ws dn kind A B a) dn, rfO (swapW ws dn kind A B a) (!dn)] := by
  have h1 := s_Access false (ws.map wr) (!dn) a 1 (by rw [List.length_map]; exact hl) ha
  rw [List.length_map] at h1
  have h2 := s_Pick kind 10 (by decide) (by decide)
  have h3 := fun old => s_Cas ws dn a old A hl ha
  have h4 := s_Add ws dn a B hl ha
  rw [ev31]
  unfold swapW
  by_cases h : acc ws.length (!dn) a 1 = 0
  · obtain ⟨g1, g2, g3, _⟩ := acc_zero.1 h
    have hlt : a.toNat < ws.length := by omega
    have e1 : ltI a (((ws.map wr).length - 0 : Nat) : Int) = true := ltI_t (by rw [List.length_map]; omega)
    have e2 : ltN a.toNat (ws.map wr).length = true := ltN_t (by rw [List.length_map]; omega)
    have e3 := get_wr ws _ hlt
    rw [if_pos h] at h4 ⊢
    simp only [if_pos h] at h3
    rw [h] at h1
    by_cases hA : Int.tmod A 2 = 0
    · have hA2 : (Int.tmod A 2 == 0) = true := by rw [hA]; rfl
      by_cases hk : pick kind 10 = 4
      · have hk2 : (pick kind 10 == 4) = true := by rw [hk]; rfl
        simp -implicitDefEqProofs only [some_bind', obCells_agg, obCells_ob, isOb_ok, isL_ok, isOw_ok, avXs_lst, avXs_ow, avNil_lst, avNil_ow, avNil_sl, avOff_sl, avCut_sl, isAgg_agg, nat_beq_self, List.length_cons, List.length_nil, Nat.reduceAdd, Nat.zero_add, isI_v, isB_v, isS_v, avInt_v, avBool_v, avStr_v, cellAt_zero, cellAt_succ, lget_zero, lget_succ, frAt_zero, frAt_succ, blAt_zero, blAt_succ, isEx_ok, isEx_ne, isEx_none, isRt_some, isRt_none, like_st, likeFG_nil, likeFG_cons, likeBG_nil, likeBG_obj, likeBG_row, likeSG_nil, likeSG_cons, likeT_nil, likeS_nil, isNP_nil, isNP_ob, likeT_ep, isEp_ep, epCells_ep, likeT_agg, likeT_int, likeT_bool, likeT_str, likeT_lst, likeT_sl0, likeT_sl1, likeT_ptr, likeS_int, likeS_bool, likeS_str, likeS_lst, likeS_sl0, likeS_sl1, likeS_ptr, isPtr_ok, isSl_0, isSl_1, beq_self_b, Bool.and_self, Bool.and_true, Bool.true_and, Bool.and_false, Bool.false_and, cond_true, cond_false, Bool.not_true, Bool.not_false, h1, h2, h3, hk2, hA2, leI_t g2, e1, e2, e3, wr_eq, beq_self_i, likeG_nil, likeG_cons, likeB_ow, likeB_bool, if_true, set_wr, hk, hA]
      · have hk2 : (pick kind 10 == 4) = false := beq_eq_false_iff_ne.2 hk
        simp -implicitDefEqProofs only [some_bind', obCells_agg, obCells_ob, isOb_ok, isL_ok, isOw_ok, avXs_lst, avXs_ow, avNil_lst, avNil_ow, avNil_sl, avOff_sl, avCut_sl, isAgg_agg, nat_beq_self, List.length_cons, List.length_nil, Nat.reduceAdd, Nat.zero_add, isI_v, isB_v, isS_v, avInt_v, avBool_v, avStr_v, cellAt_zero, cellAt_succ, lget_zero, lget_succ, frAt_zero, frAt_succ, blAt_zero, blAt_succ, isEx_ok, isEx_ne, isEx_none, isRt_some, isRt_none, like_st, likeFG_nil, likeFG_cons, likeBG_nil, likeBG_obj, likeBG_row, likeSG_nil, likeSG_cons, likeT_nil, likeS_nil, isNP_nil, isNP_ob, likeT_ep, isEp_ep, epCells_ep, likeT_agg, likeT_int, likeT_bool, likeT_str, likeT_lst, likeT_sl0, likeT_sl1, likeT_ptr, likeS_int, likeS_bool, likeS_str, likeS_lst, likeS_sl0, likeS_sl1, likeS_ptr, isPtr_ok, isSl_0, isSl_1, beq_self_b, Bool.and_self, Bool.and_true, Bool.true_and, Bool.and_false, Bool.false_and, cond_true, cond_false, Bool.not_true, Bool.not_false, h1, h2, h4, hk2, hA2, leI_t g2, e1, e2, e3, wr_eq, beq_self_i, likeG_nil, likeG_cons, likeB_ow, likeB_bool, if_true, set_wr, if_neg hk, hA]
    · have hA2 : (Int.tmod A 2 == 0) = false := beq_eq_false_iff_ne.2 hA
      by_cases hk : pick kind 10 = 4
      · have hk2 : (pick kind 10 == 4) = true := by rw [hk]; rfl
        by_cases hx : ws.getD a.toNat 0 = B
        · have hx2 : (ws.getD a.toNat 0 == B) = true := by rw [hx]; exact beq_self_i _
          simp -implicitDefEqProofs only [some_bind', obCells_agg, obCells_ob, isOb_ok, isL_ok, isOw_ok, avXs_lst, avXs_ow, avNil_lst, avNil_ow, avNil_sl, avOff_sl, avCut_sl, isAgg_agg, nat_beq_self, List.length_cons, List.length_nil, Nat.reduceAdd, Nat.zero_add, isI_v, isB_v, isS_v, avInt_v, avBool_v, avStr_v, cellAt_zero, cellAt_succ, lget_zero, lget_succ, frAt_zero, frAt_succ, blAt_zero, blAt_succ, isEx_ok, isEx_ne, isEx_none, isRt_some, isRt_none, like_st, likeFG_nil, likeFG_cons, likeBG_nil, likeBG_obj, likeBG_row, likeSG_nil, likeSG_cons, likeT_nil, likeS_nil, isNP_nil, isNP_ob, likeT_ep, isEp_ep, epCells_ep, likeT_agg, likeT_int, likeT_bool, likeT_str, likeT_lst, likeT_sl0, likeT_sl1, likeT_ptr, likeS_int, likeS_bool, likeS_str, likeS_lst, likeS_sl0, likeS_sl1, likeS_ptr, isPtr_ok, isSl_0, isSl_1, beq_self_b, Bool.and_self, Bool.and_true, Bool.true_and, Bool.and_false, Bool.false_and, cond_true, cond_false, Bool.not_true, Bool.not_false, h1, h2, h3, hk2, hA2, leI_t g2, e1, e2, e3, wr_eq, beq_self_i, likeG_nil, likeG_cons, likeB_ow, likeB_bool, if_true, set_wr, hk, if_neg hA, hx2, if_pos hx]
        · have hx2 : (ws.getD a.toNat 0 == B) = false := beq_eq_false_iff_ne.2 hx
          simp -implicitDefEqProofs only [some_bind', obCells_agg, obCells_ob, isOb_ok, isL_ok, isOw_ok, avXs_lst, avXs_ow, avNil_lst, avNil_ow, avNil_sl, avOff_sl, avCut_sl, isAgg_agg, nat_beq_self, List.length_cons, List.length_nil, Nat.reduceAdd, Nat.zero_add, isI_v, isB_v, isS_v, avInt_v, avBool_v, avStr_v, cellAt_zero, cellAt_succ, lget_zero, lget_succ, frAt_zero, frAt_succ, blAt_zero, blAt_succ, isEx_ok, isEx_ne, isEx_none, isRt_some, isRt_none, like_st, likeFG_nil, likeFG_cons, likeBG_nil, likeBG_obj, likeBG_row, likeSG_nil, likeSG_cons, likeT_nil, likeS_nil, isNP_nil, isNP_ob, likeT_ep, isEp_ep, epCells_ep, likeT_agg, likeT_int, likeT_bool, likeT_str, likeT_lst, likeT_sl0, likeT_sl1, likeT_ptr, likeS_int, likeS_bool, likeS_str, likeS_lst, likeS_sl0, likeS_sl1, likeS_ptr, isPtr_ok, isSl_0, isSl_1, beq_self_b, Bool.and_self, Bool.and_true, Bool.true_and, Bool.and_false, Bool.false_and, cond_true, cond_false, Bool.not_true, Bool.not_false, h1, h2, h3, hk2, hA2, leI_t g2, e1, e2, e3, wr_eq, beq_self_i, likeG_nil, likeG_cons, likeB_ow, likeB_bool, if_true, set_wr, hk, if_neg hA, hx2, if_neg hx]
      · have hk2 : (pick kind 10 == 4) = false := beq_eq_false_iff_ne.2 hk
        simp -implicitDefEqProofs only [some_bind', obCells_agg, obCells_ob, isOb_ok, isL_ok, isOw_ok, avXs_lst, avXs_ow, avNil_lst, avNil_ow, avNil_sl, avOff_sl, avCut_sl, isAgg_agg, nat_beq_self, List.length_cons, List.length_nil, Nat.reduceAdd, Nat.zero_add, isI_v, isB_v, isS_v, avInt_v, avBool_v, avStr_v, cellAt_zero, cellAt_succ, lget_zero, lget_succ, frAt_zero, frAt_succ, blAt_zero, blAt_succ, isEx_ok, isEx_ne, isEx_none, isRt_some, isRt_none, like_st, likeFG_nil, likeFG_cons, likeBG_nil, likeBG_obj, likeBG_row, likeSG_nil, likeSG_cons, likeT_nil, likeS_nil, isNP_nil, isNP_ob, likeT_ep, isEp_ep, epCells_ep, likeT_agg, likeT_int, likeT_bool, likeT_str, likeT_lst, likeT_sl0, likeT_sl1, likeT_ptr, likeS_int, likeS_bool, likeS_str, likeS_lst, likeS_sl0, likeS_sl1, likeS_ptr, isPtr_ok, isSl_0, isSl_1, beq_self_b, Bool.and_self, Bool.and_true, Bool.true_and, Bool.and_false, Bool.false_and, cond_true, cond_false, Bool.not_true, Bool.not_false, h1, h2, h4, hk2, hA2, leI_t g2, e1, e2, e3, wr_eq, beq_self_i, likeG_nil, likeG_cons, likeB_ow, likeB_bool, if_true, set_wr, if_neg hk, if_neg hA]
  · rw [if_neg h] at h4 ⊢
    simp only [if_neg h] at h3
    have hz : (acc ws.length (!dn) a 1 == 0) = false := beq_eq_false_iff_ne.2 h
    cases hk2 : (pick kind 10 == 4)
    · simp -implicitDefEqProofs only [some_bind', obCells_agg, obCells_ob, isOb_ok, isL_ok, isOw_ok, avXs_lst, avXs_ow, avNil_lst, avNil_ow, avNil_sl, avOff_sl, avCut_sl, isAgg_agg, nat_beq_self, List.length_cons, List.length_nil, Nat.reduceAdd, Nat.zero_add, isI_v, isB_v, isS_v, avInt_v, avBool_v, avStr_v, cellAt_zero, cellAt_succ, lget_zero, lget_succ, frAt_zero, frAt_succ, blAt_zero, blAt_succ, isEx_ok, isEx_ne, isEx_none, isRt_some, isRt_none, like_st, likeFG_nil, likeFG_cons, likeBG_nil, likeBG_obj, likeBG_row, likeSG_nil, likeSG_cons, likeT_nil, likeS_nil, isNP_nil, isNP_ob, likeT_ep, isEp_ep, epCells_ep, likeT_agg, likeT_int, likeT_bool, likeT_str, likeT_lst, likeT_sl0, likeT_sl1, likeT_ptr, likeS_int, likeS_bool, likeS_str, likeS_lst, likeS_sl0, likeS_sl1, likeS_ptr, isPtr_ok, isSl_0, isSl_1, beq_self_b, Bool.and_self, Bool.and_true, Bool.true_and, Bool.and_false, Bool.false_and, cond_true, cond_false, Bool.not_true, Bool.not_false, h1, h2, h4, hk2, hz, beq_self_i, likeG_nil, likeG_cons, likeB_ow, likeB_bool]
    · simp -implicitDefEqProofs only [some_bind', obCells_agg, obCells_ob, isOb_ok, isL_ok, isOw_ok, avXs_lst, avXs_ow, avNil_lst, avNil_ow, avNil_sl, avOff_sl, avCut_sl, isAgg_agg, nat_beq_self, List.length_cons, List.length_nil, Nat.reduceAdd, Nat.zero_add, isI_v, isB_v, isS_v, avInt_v, avBool_v, avStr_v, cellAt_zero, cellAt_succ, lget_zero, lget_succ, frAt_zero, frAt_succ, blAt_zero, blAt_succ, isEx_ok, isEx_ne, isEx_none, isRt_some, isRt_none, like_st, likeFG_nil, likeFG_cons, likeBG_nil, likeBG_obj, likeBG_row, likeSG_nil, likeSG_cons, likeT_nil, likeS_nil, isNP_nil, isNP_ob, likeT_ep, isEp_ep, epCells_ep, likeT_agg, likeT_int, likeT_bool, likeT_str, likeT_lst, likeT_sl0, likeT_sl1, likeT_ptr, likeS_int, likeS_bool, likeS_str, likeS_lst, likeS_sl0, likeS_sl1, likeS_ptr, isPtr_ok, isSl_0, isSl_1, beq_self_b, Bool.and_self, Bool.and_true, Bool.true_and, Bool.and_false, Bool.false_and, cond_true, cond_false, Bool.not_true, Bool.not_false, h1, h2, h3, hk2, hz, beq_self_i, likeG_nil, likeG_cons, likeB_ow, likeB_bool]
def wds (B : Int) (n : Nat) : List Int := (List.range n).map fun (i : Nat) => IntKind.u64.wrap (B + IntKind.u64.wrap (i : Int))
theorem wds_len (B : Int) (n : Nat) : (wds B n).length = n := by unfold wds; simp
theorem wds_succ (B : Int) (n : Nat) : wds B (n + 1) = wds B n ++ [IntKind.u64.wrap (B + IntKind.u64.wrap (n : Int))] := by
  unfold wds; rw [List.range_succ, List.map_append]; rfl
theorem set_fill (xs : List Int) (i k : Nat) (w : Int) (h : xs.length = i) : (xs ++ List.replicate (k + 1) 0).set i w = (xs ++ [w]) ++ List.replicate k 0 := by
  rw [List.set_append_right _ _ (by omega), h, Nat.sub_self, List.replicate_succ, List.set_cons_zero, List.append_assoc]
  rfl
theorem splice_set (ws ys : List Int) (a i : Nat) (h1 : a + ys.length ≤ ws.length) (h2 : i < ys.length) : (splice ws a (ys.take i)).set (a + i) (ys.getD i 0) = splice ws a (ys.take (i + 1)) := by
  unfold splice
  have l1 : (ws.take a ++ ys.take i).length = a + i := by simp; omega
  rw [List.set_append_right _ _ (by omega), l1, Nat.sub_self]
  have l2 : (ys.take i).length = i := by simp; omega
  have l3 : (ys.take (i + 1)).length = i + 1 := by simp; omega
  rw [l2, l3, List.drop_eq_getElem_cons (show a + i < ws.length by omega), List.set_cons_zero, List.take_succ_eq_append_getElem h2, show a + i + 1 = a + (i + 1) by omega, show ys.getD i 0 = ys[i] by simp [h2]]
  simp only [List.append_assoc, List.cons_append, List.nil_append]
theorem splice_nil (ws ys : List Int) (a : Nat) : splice ws a (List.take 0 ys) = ws := by
  unfold splice; simp
def Wok (ws : List Int) : Prop := ∀ w ∈ ws, 0 ≤ w ∧ w < 18446744073709551616
theorem wok_set {ws : List Int} (h : Wok ws) (i : Nat) {w : Int} (hw : 0 ≤ w ∧ w < 18446744073709551616) : Wok (ws.set i w) := fun x hx => by
  rcases List.mem_or_eq_of_mem_set hx with hx | rfl
  · exact h x hx
  · exact hw
theorem wok_splice {ws ys : List Int} (h : Wok ws) (k : Wok ys) (a : Nat) : Wok (splice ws a ys) := fun x hx => by
  unfold splice at hx
  simp only [List.mem_append] at hx
  rcases hx with (hx | hx) | hx
  · exact h x (List.mem_of_mem_take hx)
  · exact k x hx
  · exact h x (List.mem_of_mem_drop hx)
theorem wok_wrap (x : Int) : 0 ≤ IntKind.u64.wrap x ∧ IntKind.u64.wrap x < 18446744073709551616 := by rw [w_u64]; omega
theorem wok_wds (B : Int) (n : Nat) : Wok (wds B n) := fun x hx => by
  unfold wds at hx
  obtain ⟨i, _, rfl⟩ := List.mem_map.1 hx
  exact wok_wrap _
theorem wok_back {ws : List Int} (h : Wok ws) (dn : Bool) : Wok (backW ws dn) := by
  unfold backW
  cases backOk ws dn
  · exact h
  · exact wok_set h _ (wok_wrap _)
theorem back_len (ws : List Int) (dn : Bool) : (backW ws dn).length = ws.length := by
  unfold backW
  cases backOk ws dn
  · rfl
  · simp
theorem l_words (a0 a1 : Int) (d u : Bool) (xs ys : List (List AV)) (b0 b1 b2 b3 B : Int) (n : Nat) (hn : n ≤ 20) : ∀ (k i : Nat), i + k = n →
    lp 14 0 2 ⟨[(0, (.ptr 0 0 0)), (1, (.ptr 2 0 0)), (5, (.ptr 4 0 0)), (7, (.v (.int .i64 a0))), (8, (.v (.int .i64 a1))), (9, (.sl false 5 0 none)), (10, (.v (.int .i64 (i : Int)))), (1000000, (.ptr 0 0 0)), (1000001, (.ptr 2 0 0))], [⟨1, 60, 2, true, [[(.sl false 1 0 none), (.v (.bool d))]]⟩, ⟨1, 31, 1, false, xs⟩, ⟨1, 36, 2, true, [[(.sl false 3 0 none), (.v (.bool u))]]⟩, ⟨1, 31, 1, false, ys⟩, ⟨1, 39, 5, true, [[(.v (.int .i64 b0)), (.v (.int .i64 b1)), (.v (.int .i64 b2)), (.v (.int .u64 b3)), (.v (.int .u64 B))]]⟩, ⟨1, 31, 1, false, (wds B i ++ List.replicate k 0).map wr⟩]⟩ =
      some ⟨some 0, ⟨[(0, (.ptr 0 0 0)), (1, (.ptr 2 0 0)), (5, (.ptr 4 0 0)), (7, (.v (.int .i64 a0))), (8, (.v (.int .i64 a1))), (9, (.sl false 5 0 none)), (1000000, (.ptr 0 0 0)), (1000001, (.ptr 2 0 0))], [⟨1, 60, 2, true, [[(.sl false 1 0 none), (.v (.bool d))]]⟩, ⟨1, 31, 1, false, xs⟩, ⟨1, 36, 2, true, [[(.sl false 3 0 none), (.v (.bool u))]]⟩, ⟨1, 31, 1, false, ys⟩, ⟨1, 39, 5, true, [[(.v (.int .i64 b0)), (.v (.int .i64 b1)), (.v (.int .i64 b2)), (.v (.int .u64 b3)), (.v (.int .u64 B))]]⟩, ⟨1, 31, 1, false, (wds B n).map wr⟩]⟩, []⟩
  | 0, i, hi => by
    obtain rfl : i = n := by omega
    rw [lp14_0, List.replicate_zero, List.append_nil, List.length_map, wds_len, ltI_f (by omega)]; rfl
  | k + 1, i, hi => by
    have ih := l_words a0 a1 d u xs ys b0 b1 b2 b3 B n hn k (i + 1) (by omega)
    have hl : ((wds B i ++ List.replicate (k + 1) 0).map wr).length = n := by
      rw [List.length_map, List.length_append, wds_len, List.length_replicate]; omega
    have e1 : IntKind.i64.wrap ((i : Int) + 1) = ((i + 1 : Nat) : Int) := by rw [w_i64]; omega
    have e2 : ((wds B i ++ List.replicate (k + 1) 0).map wr).set (0 + i) [.v (.int .u64 (IntKind.u64.wrap (B + IntKind.u64.wrap (i : Int))))] = (wds B (i + 1) ++ List.replicate k 0).map wr := by
      rw [Nat.zero_add, set_wr, set_fill _ _ _ _ (wds_len B i), wds_succ]
    rw [lp14_0, hl, ltI_t (show (i : Int) < ((n - 0 : Nat) : Int) by omega), leI_t (show (0 : Int) ≤ (i : Int) by omega), Int.toNat_natCast, ltN_t (show 0 + i < n by omega), e1, e2]
    exact ih
theorem l_rwrite (a c : Int) (d u : Bool) (xs : List (List AV)) (ws ys : List Int) (hw : ws.length ≤ 100000) (ha : 0 ≤ a ∧ a + ys.length ≤ ws.length) : ∀ (k i : Nat), i + k = ys.length →
    lp 14 1 2 ⟨[(1, (.ptr 0 0 0)), (7, (.v (.int .i64 a))), (9, (.sl false 2 0 none)), (14, (.v (.int .i64 c))), (15, (.v (.int .i64 0))), (16, (.v (.int .i64 (i : Int)))), (1000000, (.ptr 3 0 0)), (1000001, (.ptr 0 0 0))], [⟨1, 36, 2, true, [[(.sl false 1 0 none), (.v (.bool u))]]⟩, ⟨1, 31, 1, false, (splice ws a.toNat (ys.take i)).map wr⟩, ⟨1, 31, 1, false, ys.map wr⟩, ⟨1, 60, 2, true, [[(.sl false 4 0 none), (.v (.bool d))]]⟩, ⟨1, 31, 1, false, xs⟩]⟩ =
      some ⟨some 3, ⟨[(14, (.v (.int .i64 c))), (15, (.v (.int .i64 0))), (1000000, (.ptr 0 0 0)), (1000001, (.ptr 2 0 0))], [⟨1, 60, 2, true, [[(.sl false 1 0 none), (.v (.bool d))]]⟩, ⟨1, 31, 1, false, xs⟩, ⟨1, 36, 2, true, [[(.sl false 3 0 none), (.v (.bool u))]]⟩, ⟨1, 31, 1, false, (splice ws a.toNat ys).map wr⟩]⟩, []⟩
  | 0, i, hi => by
    rw [lp14_1, beq_self_i, List.length_map, ltI_f (by omega), List.take_of_length_le (by omega)]; rfl
  | k + 1, i, hi => by
    have ih := l_rwrite a c d u xs ws ys hw ha k (i + 1) (by omega)
    have hi2 : i < ys.length := by omega
    have hs : (splice ws a.toNat (ys.take i)).length = ws.length := splice_len _ _ _ (by simp; omega)
    have e1 : IntKind.i64.wrap ((i : Int) + 1) = ((i + 1 : Nat) : Int) := by rw [w_i64]; omega
    have e2 : IntKind.i64.wrap (a + (i : Int)) = a + (i : Int) := by rw [w_i64]; omega
    have e3 : (a + (i : Int)).toNat = a.toNat + i := by omega
    have e4 := get_wr ys i hi2
    have e5 := splice_set ws ys a.toNat i (by omega) hi2
    rw [lp14_1, beq_self_i, List.length_map, ltI_t (show (i : Int) < ((ys.length - 0 : Nat) : Int) by omega), leI_t (show (0 : Int) ≤ (i : Int) by omega), Int.toNat_natCast, Nat.zero_add, ltN_t hi2, e4, e2, List.length_map, hs, leI_t (show 0 ≤ a + (i : Int) by omega), ltI_t (show a + (i : Int) < ((ws.length - 0 : Nat) : Int) by omega), e3, Nat.zero_add, ltN_t (show a.toNat + i < ws.length by omega), e1, wr_eq]
    simp only [cellAt_zero, avInt_v, isI_v, cond_true, Bool.and_self, set_wr, e5]
    exact ih
theorem l_rwrite0 (a c : Int) (d u : Bool) (xs : List (List AV)) (ws ys : List Int) (e : Int) (he : e ≠ 0) :
    lp 14 1 2 ⟨[(1, (.ptr 0 0 0)), (7, (.v (.int .i64 a))), (9, (.sl false 2 0 none)), (14, (.v (.int .i64 c))), (15, (.v (.int .i64 e))), (16, (.v (.int .i64 0))), (1000000, (.ptr 3 0 0)), (1000001, (.ptr 0 0 0))], [⟨1, 36, 2, true, [[(.sl false 1 0 none), (.v (.bool u))]]⟩, ⟨1, 31, 1, false, ws.map wr⟩, ⟨1, 31, 1, false, ys.map wr⟩, ⟨1, 60, 2, true, [[(.sl false 4 0 none), (.v (.bool d))]]⟩, ⟨1, 31, 1, false, xs⟩]⟩ =
      some ⟨some 3, ⟨[(14, (.v (.int .i64 c))), (15, (.v (.int .i64 e))), (1000000, (.ptr 0 0 0)), (1000001, (.ptr 2 0 0))], [⟨1, 60, 2, true, [[(.sl false 1 0 none), (.v (.bool d))]]⟩, ⟨1, 31, 1, false, xs⟩, ⟨1, 36, 2, true, [[(.sl false 3 0 none), (.v (.bool u))]]⟩, ⟨1, 31, 1, false, ws.map wr⟩]⟩, []⟩ := by
  rw [lp14_1, beq_eq_false_iff_ne.2 he]; rfl
theorem splice_one (ws : List Int) (w : Int) (h : 1 < ws.length) : splice ws 1 [w] = ws.set 1 w := by
  obtain ⟨a, ws, rfl⟩ : ∃ a r, ws = a :: r := by cases ws with | nil => simp at h | cons a r => exact ⟨a, r, rfl⟩
  obtain ⟨b, ws, rfl⟩ : ∃ a r, ws = a :: r := by cases ws with | nil => simp at h | cons a r => exact ⟨a, r, rfl⟩
  rfl
theorem pick10 (k : Int) : pick k 10 = 0 ∨ pick k 10 = 1 ∨ pick k 10 = 2 ∨ pick k 10 = 3 ∨ pick k 10 = 4 ∨ pick k 10 = 5 ∨ pick k 10 = 6 ∨ pick k 10 = 7 ∨ pick k 10 = 8 ∨ pick k 10 = 9 := by
  have := pick_range (n := k) (m := 10) (by decide); omega
/-- What an operation leaves, when the two agree. -/
def doW (ws : List Int) (dn : Bool) (kind A B a n : Int) (p : Int) : List Int :=
  let k := pick kind 10
  if k = 2 ∨ k = 3 then (if acc ws.length (!dn) a n.toNat = 0 then splice ws a.toNat (wds B n.toNat) else ws)
  else if k = 4 ∨ k = 5 then swapW ws dn kind A B a
  else if k = 7 ∨ k = 8 then backW ws dn
  else if k = 9 then (if acc ws.length (!dn) 1 1 = 0 then ws.set 1 p else ws)
  else ws
def doD (ws : List Int) (dn : Bool) (kind : Int) : Bool :=
  let k := pick kind 10
  if k = 6 then true else if k = 7 ∨ k = 8 then dn && !(backOk ws dn) else dn
def atE (ws : List Int) (at_ A : Int) : Int := if Int.tmod A 3 = 0 then at_ else pick at_ ws.length
def cntE (cnt A : Int) : Int := if Int.tmod A 3 = 0 then cnt else pick cnt 20
theorem not_not' (b : Bool) : (!(!b)) = b := by cases b <;> rfl
theorem s_do (ws : List Int) (dn : Bool) (kind at_ cnt A B : Int) (hl : 1 < ws.length ∧ ws.length ≤ 100000) (ha : i64ok at_) (hc : i64ok cnt) :
    ev 14 [ndO ws dn, rfO ws (!dn), opA kind at_ cnt A B] =
      some [.v (.bool true), ndO (doW ws dn kind A B (atE ws at_ A) (pick (cntE cnt A) 20) (pick (cntE cnt A) 34)) (doD ws dn kind), rfO (doW ws dn kind A B (atE ws at_ A) (pick (cntE cnt A) 20) (pick (cntE cnt A) 34)) (!(doD ws dn kind))] := by
  obtain ⟨hl1, hl2⟩ := hl
  have ha' : i64ok (atE ws at_ A) := by
    unfold atE; split
    · exact ha
    · have := pick_range (n := at_) (m := ws.length) (by omega); unfold i64ok; omega
  have hc' : i64ok (cntE cnt A) := by
    unfold cntE; split
    · exact hc
    · have := pick_range (n := cnt) (m := 20) (by omega); unfold i64ok; omega
  have hp1 := s_Pick at_ ws.length (by omega) (by omega)
  have hp2 := s_Pick cnt 20 (by decide) (by decide)
  have hp3 := fun x => s_Pick x 20 (by decide) (by decide)
  have hp4 := s_Pick kind 10 (by decide) (by decide)
  have hp5 := fun x => s_Pick x 34 (by decide) (by decide)
  rw [ev14]
  have hn := pick_range (n := cntE cnt A) (m := 20) (by decide)
  obtain ⟨n, hn1⟩ : ∃ n : Nat, pick (cntE cnt A) 20 = (n : Int) := ⟨(pick (cntE cnt A) 20).toNat, by omega⟩
  have hn2 : n ≤ 20 := by omega
  have hlen : ((ws.map wr).length - 0 : Nat) = ws.length := by rw [List.length_map]; rfl
  have q1 : leI ((n : Int) * 8) 281474976710656 = true := leI_t (by omega)
  have q2 : leI (n : Int) 281474976710656 = true := leI_t (by omega)
  have q3 : leI (0 : Int) (n : Int) = true := leI_t (by omega)
  have q4 : leI (n : Int) (n : Int) = true := leI_t (Int.le_refl _)
  have hrep : List.replicate n [AV.v (.int .u64 0)] = (wds B 0 ++ List.replicate n 0).map wr := by
    show _ = (List.replicate n 0).map wr
    rw [List.map_replicate]; rfl
  have hw := fun a0 a1 b0 b1 b2 b3 => l_words a0 a1 dn (!dn) (ws.map wr) (ws.map wr) b0 b1 b2 b3 B n hn2 n 0 (by omega)
  have z0 : ((0 : Nat) : Int) = 0 := rfl
  have z1 : ((1 : Nat) : Int) = 1 := rfl
  simp only [z0] at hw
  have hwl : ((wds B n).map wr).length = n := by rw [List.length_map, wds_len]
  have hacc := fun a c => s_Access false (ws.map wr) (!dn) a c (by rw [List.length_map]; exact hl2)
  simp only [List.length_map] at hacc
  have hread := fun a c => s_Read ws dn a c hl2
  have hwrite := fun a b ys => s_Write ws dn a b ys hl2
  have hswap := fun a => s_swap ws dn kind at_ cnt A B a hl2
  have hback := s_Back ws dn hl1
  have hrback := s_RBack ws (!dn) hl1
  rw [not_not'] at hrback
  have hrd : ∀ a c : Int, i64ok a → ev 21 [.lst false 1 (((ws.drop a.toNat).take c.toNat).map wr), .lst false 1 (((ws.drop a.toNat).take c.toNat).map wr)] = some [.v (.bool true)] := fun a c _ => by
    rw [s_SameWords _ _ _ _ (by simp; omega) (by simp; omega), decide_eq_true rfl]
  cases h3 : (Int.tmod A 3 == 0)
  case' false =>
    have h3' : ¬ Int.tmod A 3 = 0 := by simpa using h3
    have e1 : atE ws at_ A = pick at_ ws.length := if_neg h3'
    have e2 : cntE cnt A = pick cnt 20 := if_neg h3'
    rw [e1] at ha' ⊢
    rw [e2] at hc' hn1 hn ⊢
    simp -implicitDefEqProofs only [some_bind', obCells_agg, obCells_ob, isOb_ok, isL_ok, isOw_ok, avXs_lst, avXs_ow, avNil_lst, avNil_ow, avNil_sl, avOff_sl, avCut_sl, isAgg_agg, nat_beq_self, List.length_cons, List.length_nil, Nat.reduceAdd, Nat.zero_add, isI_v, isB_v, isS_v, avInt_v, avBool_v, avStr_v, cellAt_zero, cellAt_succ, lget_zero, lget_succ, frAt_zero, frAt_succ, blAt_zero, blAt_succ, isEx_ok, isEx_ne, isEx_none, isRt_some, isRt_none, like_st, likeFG_nil, likeFG_cons, likeBG_nil, likeBG_obj, likeBG_row, likeSG_nil, likeSG_cons, likeT_nil, likeS_nil, isNP_nil, isNP_ob, likeT_ep, isEp_ep, epCells_ep, likeT_agg, likeT_int, likeT_bool, likeT_str, likeT_lst, likeT_sl0, likeT_sl1, likeT_ptr, likeS_int, likeS_bool, likeS_str, likeS_lst, likeS_sl0, likeS_sl1, likeS_ptr, isPtr_ok, isSl_0, isSl_1, beq_self_b, Bool.and_self, Bool.and_true, Bool.true_and, Bool.and_false, Bool.false_and, cond_true, cond_false, Bool.not_true, Bool.not_false, hlen, hp1, hp2, hp3, hn1, q1, q2, q3, q4, Int.toNat_natCast, hrep, hw]
    generalize pick at_ ws.length = a at *
    generalize pick cnt 20 = c at *
  case' true =>
    have h3' : Int.tmod A 3 = 0 := by simpa using h3
    have e1 : atE ws at_ A = at_ := if_pos h3'
    have e2 : cntE cnt A = cnt := if_pos h3'
    rw [e1] at ha' ⊢
    rw [e2] at hc' hn1 hn ⊢
    simp -implicitDefEqProofs only [some_bind', obCells_agg, obCells_ob, isOb_ok, isL_ok, isOw_ok, avXs_lst, avXs_ow, avNil_lst, avNil_ow, avNil_sl, avOff_sl, avCut_sl, isAgg_agg, nat_beq_self, List.length_cons, List.length_nil, Nat.reduceAdd, Nat.zero_add, isI_v, isB_v, isS_v, avInt_v, avBool_v, avStr_v, cellAt_zero, cellAt_succ, lget_zero, lget_succ, frAt_zero, frAt_succ, blAt_zero, blAt_succ, isEx_ok, isEx_ne, isEx_none, isRt_some, isRt_none, like_st, likeFG_nil, likeFG_cons, likeBG_nil, likeBG_obj, likeBG_row, likeSG_nil, likeSG_cons, likeT_nil, likeS_nil, isNP_nil, isNP_ob, likeT_ep, isEp_ep, epCells_ep, likeT_agg, likeT_int, likeT_bool, likeT_str, likeT_lst, likeT_sl0, likeT_sl1, likeT_ptr, likeS_int, likeS_bool, likeS_str, likeS_lst, likeS_sl0, likeS_sl1, likeS_ptr, isPtr_ok, isSl_0, isSl_1, beq_self_b, Bool.and_self, Bool.and_true, Bool.true_and, Bool.and_false, Bool.false_and, cond_true, cond_false, Bool.not_true, Bool.not_false, hlen, hp1, hp2, hp3, hn1, q1, q2, q3, q4, Int.toNat_natCast, hrep, hw]
    generalize at_ = a at *
    generalize cnt = c at *
  all_goals
    simp -implicitDefEqProofs only [some_bind', obCells_agg, obCells_ob, isOb_ok, isL_ok, isOw_ok, avXs_lst, avXs_ow, avNil_lst, avNil_ow, avNil_sl, avOff_sl, avCut_sl, isAgg_agg, nat_beq_self, List.length_cons, List.length_nil, Nat.reduceAdd, Nat.zero_add, isI_v, isB_v, isS_v, avInt_v, avBool_v, avStr_v, cellAt_zero, cellAt_succ, lget_zero, lget_succ, frAt_zero, frAt_succ, blAt_zero, blAt_succ, isEx_ok, isEx_ne, isEx_none, isRt_some, isRt_none, like_st, likeFG_nil, likeFG_cons, likeBG_nil, likeBG_obj, likeBG_row, likeSG_nil, likeSG_cons, likeT_nil, likeS_nil, isNP_nil, isNP_ob, likeT_ep, isEp_ep, epCells_ep, likeT_agg, likeT_int, likeT_bool, likeT_str, likeT_lst, likeT_sl0, likeT_sl1, likeT_ptr, likeS_int, likeS_bool, likeS_str, likeS_lst, likeS_sl0, likeS_sl1, likeS_ptr, isPtr_ok, isSl_0, isSl_1, beq_self_b, Bool.and_self, Bool.and_true, Bool.true_and, Bool.and_false, Bool.false_and, cond_true, cond_false, Bool.not_true, Bool.not_false, hp4]
    have hn9 := pick_range (n := c) (m := 34) (by decide)
    rcases pick10 kind with hk | hk | hk | hk | hk | hk | hk | hk | hk | hk
    -- 0, 1: Read
    iterate 2
      rotate_left 0
      have r1 : doW ws dn kind A B a n (pick c 34) = ws := by unfold doW; rw [hk]; rfl
      have r2 : doD ws dn kind = dn := by unfold doD; rw [hk]; rfl
      rw [hk, r1, r2]
      by_cases hz : acc ws.length (!dn) a c = 0
      · obtain ⟨g1, g2, g3, _⟩ := acc_zero.1 hz
        have w1 : IntKind.i64.wrap (a + c) = a + c := by rw [w_i64]; omega
        have w2 : (a + c).toNat - a.toNat = c.toNat := by omega
        have w3 : List.take c.toNat (List.drop a.toNat (ws.map wr)) = ((ws.drop a.toNat).take c.toNat).map wr := by rw [List.map_take, List.map_drop]
        have hr := hread a c ha'
        rw [if_pos hz] at hr
        simp -implicitDefEqProofs only [some_bind', obCells_agg, obCells_ob, isOb_ok, isL_ok, isOw_ok, avXs_lst, avXs_ow, avNil_lst, avNil_ow, avNil_sl, avOff_sl, avCut_sl, isAgg_agg, nat_beq_self, List.length_cons, List.length_nil, Nat.reduceAdd, Nat.zero_add, isI_v, isB_v, isS_v, avInt_v, avBool_v, avStr_v, cellAt_zero, cellAt_succ, lget_zero, lget_succ, frAt_zero, frAt_succ, blAt_zero, blAt_succ, isEx_ok, isEx_ne, isEx_none, isRt_some, isRt_none, like_st, likeFG_nil, likeFG_cons, likeBG_nil, likeBG_obj, likeBG_row, likeSG_nil, likeSG_cons, likeT_nil, likeS_nil, isNP_nil, isNP_ob, likeT_ep, isEp_ep, epCells_ep, likeT_agg, likeT_int, likeT_bool, likeT_str, likeT_lst, likeT_sl0, likeT_sl1, likeT_ptr, likeS_int, likeS_bool, likeS_str, likeS_lst, likeS_sl0, likeS_sl1, likeS_ptr, isPtr_ok, isSl_0, isSl_1, beq_self_b, Bool.and_self, Bool.and_true, Bool.true_and, Bool.and_false, Bool.false_and, cond_true, cond_false, Bool.not_true, Bool.not_false, hr, hacc a c ha', hz, all_wr, w1, w2, w3, leI_t g2, leI_t (show a ≤ a + c by omega), leI_t g3, hrd a c ha', beq_self_i, Int.reduceBEq, Bool.false_or]
      · have hz2 : (acc ws.length (!dn) a c == 0) = false := beq_eq_false_iff_ne.2 hz
        have hr := hread a c ha'
        rw [if_neg hz] at hr
        simp -implicitDefEqProofs only [some_bind', obCells_agg, obCells_ob, isOb_ok, isL_ok, isOw_ok, avXs_lst, avXs_ow, avNil_lst, avNil_ow, avNil_sl, avOff_sl, avCut_sl, isAgg_agg, nat_beq_self, List.length_cons, List.length_nil, Nat.reduceAdd, Nat.zero_add, isI_v, isB_v, isS_v, avInt_v, avBool_v, avStr_v, cellAt_zero, cellAt_succ, lget_zero, lget_succ, frAt_zero, frAt_succ, blAt_zero, blAt_succ, isEx_ok, isEx_ne, isEx_none, isRt_some, isRt_none, like_st, likeFG_nil, likeFG_cons, likeBG_nil, likeBG_obj, likeBG_row, likeSG_nil, likeSG_cons, likeT_nil, likeS_nil, isNP_nil, isNP_ob, likeT_ep, isEp_ep, epCells_ep, likeT_agg, likeT_int, likeT_bool, likeT_str, likeT_lst, likeT_sl0, likeT_sl1, likeT_ptr, likeS_int, likeS_bool, likeS_str, likeS_lst, likeS_sl0, likeS_sl1, likeS_ptr, isPtr_ok, isSl_0, isSl_1, beq_self_b, Bool.and_self, Bool.and_true, Bool.true_and, Bool.and_false, Bool.false_and, cond_true, cond_false, Bool.not_true, Bool.not_false, hr, hacc a c ha', hz2, beq_self_i, Int.reduceBEq, Bool.false_or, List.all_nil]
        rfl
    -- 2, 3: Write
    iterate 2
      have r1 : doW ws dn kind A B a n (pick c 34) = (if acc ws.length (!dn) a ((n : Int).toNat : Nat) = 0 then splice ws a.toNat (wds B (n : Int).toNat) else ws) := by unfold doW; rw [hk]; rfl
      have r2 : doD ws dn kind = dn := by unfold doD; rw [hk]; rfl
      rw [hk, r1, r2, Int.toNat_natCast]
      have hwr := hwrite a false (wds B n) ha'
      rw [wds_len] at hwr
      by_cases hz : acc ws.length (!dn) a n = 0
      · obtain ⟨g1, g2, g3, _⟩ := acc_zero.1 hz
        have lr := l_rwrite a 0 dn (!dn) ((splice ws a.toNat (wds B n)).map wr) ws (wds B n) hl2 ⟨g2, by rw [wds_len]; exact g3⟩ n 0 (by rw [wds_len]; omega)
        rw [splice_nil, z0] at lr
        rw [if_pos hz] at hwr ⊢
        rw [hz] at hwr
        simp -implicitDefEqProofs only [some_bind', obCells_agg, obCells_ob, isOb_ok, isL_ok, isOw_ok, avXs_lst, avXs_ow, avNil_lst, avNil_ow, avNil_sl, avOff_sl, avCut_sl, isAgg_agg, nat_beq_self, List.length_cons, List.length_nil, Nat.reduceAdd, Nat.zero_add, isI_v, isB_v, isS_v, avInt_v, avBool_v, avStr_v, cellAt_zero, cellAt_succ, lget_zero, lget_succ, frAt_zero, frAt_succ, blAt_zero, blAt_succ, isEx_ok, isEx_ne, isEx_none, isRt_some, isRt_none, like_st, likeFG_nil, likeFG_cons, likeBG_nil, likeBG_obj, likeBG_row, likeSG_nil, likeSG_cons, likeT_nil, likeS_nil, isNP_nil, isNP_ob, likeT_ep, isEp_ep, epCells_ep, likeT_agg, likeT_int, likeT_bool, likeT_str, likeT_lst, likeT_sl0, likeT_sl1, likeT_ptr, likeS_int, likeS_bool, likeS_str, likeS_lst, likeS_sl0, likeS_sl1, likeS_ptr, isPtr_ok, isSl_0, isSl_1, beq_self_b, Bool.and_self, Bool.and_true, Bool.true_and, Bool.and_false, Bool.false_and, cond_true, cond_false, Bool.not_true, Bool.not_false, hwr, hwl, hacc a n ha', hz, all_wr, lr, beq_self_i, Int.reduceBEq, Bool.false_or, likeG_nil, likeG_cons, likeB_ow, likeB_bool, Nat.sub_zero]
      · have lr := l_rwrite0 a (acc ws.length (!dn) a n) dn (!dn) (ws.map wr) ws (wds B n) _ hz
        rw [if_neg hz] at hwr ⊢
        simp -implicitDefEqProofs only [some_bind', obCells_agg, obCells_ob, isOb_ok, isL_ok, isOw_ok, avXs_lst, avXs_ow, avNil_lst, avNil_ow, avNil_sl, avOff_sl, avCut_sl, isAgg_agg, nat_beq_self, List.length_cons, List.length_nil, Nat.reduceAdd, Nat.zero_add, isI_v, isB_v, isS_v, avInt_v, avBool_v, avStr_v, cellAt_zero, cellAt_succ, lget_zero, lget_succ, frAt_zero, frAt_succ, blAt_zero, blAt_succ, isEx_ok, isEx_ne, isEx_none, isRt_some, isRt_none, like_st, likeFG_nil, likeFG_cons, likeBG_nil, likeBG_obj, likeBG_row, likeSG_nil, likeSG_cons, likeT_nil, likeS_nil, isNP_nil, isNP_ob, likeT_ep, isEp_ep, epCells_ep, likeT_agg, likeT_int, likeT_bool, likeT_str, likeT_lst, likeT_sl0, likeT_sl1, likeT_ptr, likeS_int, likeS_bool, likeS_str, likeS_lst, likeS_sl0, likeS_sl1, likeS_ptr, isPtr_ok, isSl_0, isSl_1, beq_self_b, Bool.and_self, Bool.and_true, Bool.true_and, Bool.and_false, Bool.false_and, cond_true, cond_false, Bool.not_true, Bool.not_false, hwr, hwl, hacc a n ha', all_wr, lr, beq_self_i, Int.reduceBEq, Bool.false_or, likeG_nil, likeG_cons, likeB_ow, likeB_bool, Nat.sub_zero]
    -- 4, 5: Cas, Add
    iterate 2
      have r1 : doW ws dn kind A B a n (pick c 34) = swapW ws dn kind A B a := by unfold doW; rw [hk]; rfl
      have r2 : doD ws dn kind = dn := by unfold doD; rw [hk]; rfl
      rw [hk, r1, r2]
      simp -implicitDefEqProofs only [some_bind', obCells_agg, obCells_ob, isOb_ok, isL_ok, isOw_ok, avXs_lst, avXs_ow, avNil_lst, avNil_ow, avNil_sl, avOff_sl, avCut_sl, isAgg_agg, nat_beq_self, List.length_cons, List.length_nil, Nat.reduceAdd, Nat.zero_add, isI_v, isB_v, isS_v, avInt_v, avBool_v, avStr_v, cellAt_zero, cellAt_succ, lget_zero, lget_succ, frAt_zero, frAt_succ, blAt_zero, blAt_succ, isEx_ok, isEx_ne, isEx_none, isRt_some, isRt_none, like_st, likeFG_nil, likeFG_cons, likeBG_nil, likeBG_obj, likeBG_row, likeSG_nil, likeSG_cons, likeT_nil, likeS_nil, isNP_nil, isNP_ob, likeT_ep, isEp_ep, epCells_ep, likeT_agg, likeT_int, likeT_bool, likeT_str, likeT_lst, likeT_sl0, likeT_sl1, likeT_ptr, likeS_int, likeS_bool, likeS_str, likeS_lst, likeS_sl0, likeS_sl1, likeS_ptr, isPtr_ok, isSl_0, isSl_1, beq_self_b, Bool.and_self, Bool.and_true, Bool.true_and, Bool.and_false, Bool.false_and, cond_true, cond_false, Bool.not_true, Bool.not_false, hswap a ha', beq_self_i, Int.reduceBEq, Bool.false_or, likeG_nil, likeG_cons, likeB_ow, likeB_bool]
    -- 6: Fail
    · have r1 : doW ws dn kind A B a n (pick c 34) = ws := by unfold doW; rw [hk]; rfl
      have r2 : doD ws dn kind = true := by unfold doD; rw [hk]; rfl
      rw [hk, r1, r2]
      simp -implicitDefEqProofs only [some_bind', obCells_agg, obCells_ob, isOb_ok, isL_ok, isOw_ok, avXs_lst, avXs_ow, avNil_lst, avNil_ow, avNil_sl, avOff_sl, avCut_sl, isAgg_agg, nat_beq_self, List.length_cons, List.length_nil, Nat.reduceAdd, Nat.zero_add, isI_v, isB_v, isS_v, avInt_v, avBool_v, avStr_v, cellAt_zero, cellAt_succ, lget_zero, lget_succ, frAt_zero, frAt_succ, blAt_zero, blAt_succ, isEx_ok, isEx_ne, isEx_none, isRt_some, isRt_none, like_st, likeFG_nil, likeFG_cons, likeBG_nil, likeBG_obj, likeBG_row, likeSG_nil, likeSG_cons, likeT_nil, likeS_nil, isNP_nil, isNP_ob, likeT_ep, isEp_ep, epCells_ep, likeT_agg, likeT_int, likeT_bool, likeT_str, likeT_lst, likeT_sl0, likeT_sl1, likeT_ptr, likeS_int, likeS_bool, likeS_str, likeS_lst, likeS_sl0, likeS_sl1, likeS_ptr, isPtr_ok, isSl_0, isSl_1, beq_self_b, Bool.and_self, Bool.and_true, Bool.true_and, Bool.and_false, Bool.false_and, cond_true, cond_false, Bool.not_true, Bool.not_false, s_Fail ws dn, beq_self_i, Int.reduceBEq, Bool.false_or, likeG_nil, likeG_cons, likeB_ow, likeB_bool]
    -- 7, 8: Back
    iterate 2
      have r1 : doW ws dn kind A B a n (pick c 34) = backW ws dn := by unfold doW; rw [hk]; rfl
      have r2 : doD ws dn kind = (dn && !(backOk ws dn)) := by unfold doD; rw [hk]; rfl
      rw [hk, r1, r2]
      simp -implicitDefEqProofs only [some_bind', obCells_agg, obCells_ob, isOb_ok, isL_ok, isOw_ok, avXs_lst, avXs_ow, avNil_lst, avNil_ow, avNil_sl, avOff_sl, avCut_sl, isAgg_agg, nat_beq_self, List.length_cons, List.length_nil, Nat.reduceAdd, Nat.zero_add, isI_v, isB_v, isS_v, avInt_v, avBool_v, avStr_v, cellAt_zero, cellAt_succ, lget_zero, lget_succ, frAt_zero, frAt_succ, blAt_zero, blAt_succ, isEx_ok, isEx_ne, isEx_none, isRt_some, isRt_none, like_st, likeFG_nil, likeFG_cons, likeBG_nil, likeBG_obj, likeBG_row, likeSG_nil, likeSG_cons, likeT_nil, likeS_nil, isNP_nil, isNP_ob, likeT_ep, isEp_ep, epCells_ep, likeT_agg, likeT_int, likeT_bool, likeT_str, likeT_lst, likeT_sl0, likeT_sl1, likeT_ptr, likeS_int, likeS_bool, likeS_str, likeS_lst, likeS_sl0, likeS_sl1, likeS_ptr, isPtr_ok, isSl_0, isSl_1, beq_self_b, Bool.and_self, Bool.and_true, Bool.true_and, Bool.and_false, Bool.false_and, cond_true, cond_false, Bool.not_true, Bool.not_false, hback, hrback, beq_self_i, beq_self_b, Int.reduceBEq, Bool.false_or, likeG_nil, likeG_cons, likeB_ow, likeB_bool]
      cases dn <;> cases backOk ws _ <;> rfl
    -- 9: a boot number
    · have r1 : doW ws dn kind A B a n (pick c 34) = (if acc ws.length (!dn) 1 1 = 0 then ws.set 1 (pick c 34) else ws) := by unfold doW; rw [hk]; rfl
      have r2 : doD ws dn kind = dn := by unfold doD; rw [hk]; rfl
      have w1 : IntKind.u64.wrap (pick c 34) = pick c 34 := by rw [w_u64]; omega
      have hwr := hwrite 1 false [pick c 34] ⟨by decide, by decide⟩
      have wl : ([pick c 34] : List Int).length = 1 := rfl
      have h1t : (1 : Int).toNat = 1 := rfl
      rw [wl, h1t, splice_one ws _ hl1] at hwr
      have wm : ([pick c 34] : List Int).map wr = [[.v (.int .u64 (pick c 34))]] := rfl
      rw [wm] at hwr
      rw [hk, r1, r2]
      by_cases hz : acc ws.length (!dn) 1 1 = 0
      · have u1 : ltI 1 ((ws.length : Nat) : Int) = true := ltI_t (by omega)
        have u2 : ltN 1 (ws.map wr).length = true := ltN_t (by rw [List.length_map]; omega)
        rw [if_pos hz]
        simp only [z1, if_pos hz, hz, if_true] at hwr
        simp -implicitDefEqProofs only [some_bind', obCells_agg, obCells_ob, isOb_ok, isL_ok, isOw_ok, avXs_lst, avXs_ow, avNil_lst, avNil_ow, avNil_sl, avOff_sl, avCut_sl, isAgg_agg, nat_beq_self, List.length_cons, List.length_nil, Nat.reduceAdd, Nat.zero_add, isI_v, isB_v, isS_v, avInt_v, avBool_v, avStr_v, cellAt_zero, cellAt_succ, lget_zero, lget_succ, frAt_zero, frAt_succ, blAt_zero, blAt_succ, isEx_ok, isEx_ne, isEx_none, isRt_some, isRt_none, like_st, likeFG_nil, likeFG_cons, likeBG_nil, likeBG_obj, likeBG_row, likeSG_nil, likeSG_cons, likeT_nil, likeS_nil, isNP_nil, isNP_ob, likeT_ep, isEp_ep, epCells_ep, likeT_agg, likeT_int, likeT_bool, likeT_str, likeT_lst, likeT_sl0, likeT_sl1, likeT_ptr, likeS_int, likeS_bool, likeS_str, likeS_lst, likeS_sl0, likeS_sl1, likeS_ptr, isPtr_ok, isSl_0, isSl_1, beq_self_b, Bool.and_self, Bool.and_true, Bool.true_and, Bool.and_false, Bool.false_and, cond_true, cond_false, Bool.not_true, Bool.not_false, hp5, w1, hwr, hacc 1 1 ⟨by decide, by decide⟩, hz, hlen, u1, u2, all_wr, set_wr, beq_self_i, Int.reduceBEq, Bool.false_or, likeG_nil, likeG_cons, likeB_ow, likeB_bool]
      · have hz2 : (acc ws.length (!dn) 1 1 == 0) = false := beq_eq_false_iff_ne.2 hz
        rw [if_neg hz]
        simp only [z1, if_neg hz] at hwr
        simp -implicitDefEqProofs only [some_bind', obCells_agg, obCells_ob, isOb_ok, isL_ok, isOw_ok, avXs_lst, avXs_ow, avNil_lst, avNil_ow, avNil_sl, avOff_sl, avCut_sl, isAgg_agg, nat_beq_self, List.length_cons, List.length_nil, Nat.reduceAdd, Nat.zero_add, isI_v, isB_v, isS_v, avInt_v, avBool_v, avStr_v, cellAt_zero, cellAt_succ, lget_zero, lget_succ, frAt_zero, frAt_succ, blAt_zero, blAt_succ, isEx_ok, isEx_ne, isEx_none, isRt_some, isRt_none, like_st, likeFG_nil, likeFG_cons, likeBG_nil, likeBG_obj, likeBG_row, likeSG_nil, likeSG_cons, likeT_nil, likeS_nil, isNP_nil, isNP_ob, likeT_ep, isEp_ep, epCells_ep, likeT_agg, likeT_int, likeT_bool, likeT_str, likeT_lst, likeT_sl0, likeT_sl1, likeT_ptr, likeS_int, likeS_bool, likeS_str, likeS_lst, likeS_sl0, likeS_sl1, likeS_ptr, isPtr_ok, isSl_0, isSl_1, beq_self_b, Bool.and_self, Bool.and_true, Bool.true_and, Bool.and_false, Bool.false_and, cond_true, cond_false, Bool.not_true, Bool.not_false, hp5, w1, hwr, hacc 1 1 ⟨by decide, by decide⟩, hz2, all_wr, beq_self_i, Int.reduceBEq, Bool.false_or, likeG_nil, likeG_cons, likeB_ow, likeB_bool]
end Go.Proofs.Ytokagdgcfmjlnaa
