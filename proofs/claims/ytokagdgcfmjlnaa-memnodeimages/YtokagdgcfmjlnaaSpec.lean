/- What the chapter's functions are. -/
import Derived.Test.YtokagdgcfmjlnaaTy
import Derived.Test.YtokagdgcfmjlnaaCrc
import Derived.Test.YtokagdgcfmjlnaaDo
import Derived.Test.YtokagdgcfmjlnaaTab2
set_option linter.all false
namespace Go.Proofs.Ytokagdgcfmjlnaa
open Go.Ev
attribute [local congr] bind_first cond_first
def i64ok (a : Int) : Prop := -9223372036854775808 ≤ a ∧ a ≤ 9223372036854775807
theorem s_Pick (a m : Int) (hm : 0 < m) (hm' : m ≤ 4611686018427387904) : ev 8 [.v (.int .i64 a), .v (.int .i64 m)] = some [.v (.int .i64 (pick a m))] := by
  rw [ev8]
  simp only [ltI_f (show 1 ≤ m by omega), eqI_f (show m ≠ 0 by omega), cond_false, pick_ok hm hm']
theorem mix : Try.prog.follows .mixedOrders = true := by kernel_rfl
theorem tabL_eq : tabL = (List.range 256).map fun i => AV.v (.int .u64 (step8 i : Nat)) := rfl
theorem extOk : ExtS Try.prog cfg := by
  refine extS_ev (C' := Tab.cfg) mix (extS_none fun _ => rfl) fun f g xs rs hf hg => ?_
  change extF f = some g at hf
  unfold extF at hf
  split at hf
  · obtain rfl := Option.some.inj hf
    simp only at hg
    split at hg
    · obtain rfl := Option.some.inj hg
      rw [tabL_eq]
      exact evF_of_evL Tab.s_table
    · cases hg
  · cases hf
theorem likeG_nil (j : Nat) (c : List AV) : likeG [] j c = true := rfl
theorem likeG_cons (a : AV) (r : List AV) (j : Nat) (c : List AV) : likeG (a :: r) j c = ((likeB a (cellAt c j)).1 && likeG r (j + 1) c) := by
  cases r with
  | nil => simp [likeG]
  | cons b r => rfl
theorem likeB_ow (b : Bool) (t z : Nat) (xs : List (List AV)) (c : AV) : (likeB (.ow b t z xs) c).1 = isOw t z c := rfl
theorem likeB_bool (b : Bool) (c : AV) : (likeB (.v (.bool b)) c).1 = isB c := rfl
theorem likeB_int (k : IntKind) (n : Int) (c : AV) : (likeB (.v (.int k n)) c).1 = isI k c := rfl
theorem likeB_lst (b : Bool) (z : Nat) (xs : List (List AV)) (c : AV) : (likeB (.lst b z xs) c).1 = isL z c := rfl
def wr (w : Int) : List AV := [.v (.int .u64 w)]
theorem wr_eq (w : Int) : wr w = [.v (.int .u64 w)] := rfl
theorem all_wr (ws : List Int) : (ws.map wr).all rowV = true := by
  simp only [List.all_eq_true, List.mem_map]
  rintro _ ⟨w, _, rfl⟩; rfl
theorem get_wr (ws : List Int) (i : Nat) (h : i < ws.length) : lget (ws.map wr) i = wr (ws.getD i 0) := lget_mapD wr ws 0 i h
theorem set_wr (ws : List Int) (i : Nat) (w : Int) : (ws.map wr).set i [.v (.int .u64 w)] = (ws.set i w).map wr := by rw [List.map_set, wr_eq]
def splice (xs : List Int) (n : Nat) (ys : List Int) : List Int := xs.take n ++ ys ++ xs.drop (n + ys.length)
theorem splice_len (xs : List Int) (n : Nat) (ys : List Int) (h : n + ys.length ≤ xs.length) : (splice xs n ys).length = xs.length := by
  unfold splice
  simp only [List.length_append, List.length_take, List.length_drop]; omega
/-- An access is allowed, or its error. -/
def acc (n : Nat) (up : Bool) (a c : Int) : Int := if c < 1 ∨ a < 0 ∨ (n : Int) ≤ a ∨ (n : Int) - a < c then 2 else if up then 0 else 4
theorem acc_ok {n : Nat} {up : Bool} {a c : Int} (h1 : 1 ≤ c) (h2 : 0 ≤ a) (h3 : a + c ≤ n) : acc n up a c = if up then 0 else 4 := by
  unfold acc; rw [if_neg (by omega)]
theorem acc_bad {n : Nat} {up : Bool} {a c : Int} (h : ¬ (1 ≤ c ∧ 0 ≤ a ∧ a + c ≤ n)) : acc n up a c = 2 := by
  unfold acc; rw [if_pos (by omega)]
theorem acc_zero {n : Nat} {up : Bool} {a c : Int} : acc n up a c = 0 ↔ (1 ≤ c ∧ 0 ≤ a ∧ a + c ≤ n ∧ up = true) := by
  unfold acc
  split
  · exact ⟨fun h => (by simp at h), fun h => by omega⟩
  · cases up with
    | true => exact ⟨fun _ => (by simp; omega), fun _ => rfl⟩
    | false => exact ⟨fun h => (by simp at h), fun h => (by simp at h)⟩
theorem s_check (b : Bool) (xs : List (List AV)) (dn : Bool) (a c : Int) (hl : xs.length ≤ 100000) (ha : -9223372036854775808 ≤ a ∧ a ≤ 9223372036854775807) :
    ev 28 [.ep [.lst b 1 xs, .v (.bool dn)] 0, .v (.int .i64 a), .v (.int .i64 c)] = some [.v (.int .i64 (acc xs.length (!dn) a c))] := by
  rw [ev28]
  by_cases h1 : c < 1
  · rw [ltI_t h1, acc_bad (by omega)]; rfl
  rw [ltI_f (by omega)]
  by_cases h2 : a < 0
  · rw [ltI_t h2, acc_bad (by omega)]; rfl
  rw [ltI_f (by omega)]
  by_cases h3 : (xs.length : Int) ≤ a
  · rw [leI_t h3, acc_bad (by omega)]; rfl
  rw [leI_f (by omega), show IntKind.i64.wrap ((xs.length : Int) - a) = (xs.length : Int) - a by rw [w_i64]; omega]
  by_cases h4 : (xs.length : Int) - a < c
  · rw [ltI_t h4, acc_bad (by omega)]; rfl
  rw [ltI_f (by omega), acc_ok (by omega) (by omega) (by omega)]
  cases dn <;> rfl
theorem s_Access (b : Bool) (xs : List (List AV)) (up : Bool) (a c : Int) (hl : xs.length ≤ 100000) (ha : -9223372036854775808 ≤ a ∧ a ≤ 9223372036854775807) :
    ev 30 [.ep [.lst b 1 xs, .v (.bool up)] 0, .v (.int .i64 a), .v (.int .i64 c)] = some [.v (.int .i64 (acc xs.length up a c))] := by
  rw [ev30]
  by_cases h1 : c < 1
  · rw [ltI_t h1, acc_bad (by omega)]; rfl
  rw [ltI_f (by omega)]
  by_cases h2 : a < 0
  · rw [ltI_t h2, acc_bad (by omega)]; rfl
  rw [ltI_f (by omega)]
  by_cases h3 : (xs.length : Int) ≤ a
  · rw [leI_t h3, acc_bad (by omega)]; rfl
  rw [leI_f (by omega), show IntKind.i64.wrap ((xs.length : Int) - a) = (xs.length : Int) - a by rw [w_i64]; omega]
  by_cases h4 : (xs.length : Int) - a < c
  · rw [ltI_t h4, acc_bad (by omega)]; rfl
  rw [ltI_f (by omega), acc_ok (by omega) (by omega) (by omega)]
  cases up <;> rfl
abbrev ndO (ws : List Int) (dn : Bool) : AV := .ob 60 [.ow false 31 1 (ws.map wr), .v (.bool dn)]
abbrev ndP (ws : List Int) (dn : Bool) : AV := .ep [.lst false 1 (ws.map wr), .v (.bool dn)] 0
abbrev rfO (ws : List Int) (up : Bool) : AV := .ob 36 [.ow false 31 1 (ws.map wr), .v (.bool up)]
theorem s_CloneW (b : Bool) (ws : List Int) (hl : ws.length ≤ 100000) (hb : b = true → ws = []) : ev 29 [.lst b 1 (ws.map wr)] = some [.ow b 31 1 (ws.map wr)] := by
  rw [ev29]
  cases b with
  | true => rw [hb rfl]; rfl
  | false =>
    rw [leN_t (show (0 + (ws.map wr).length) * 8 ≤ 140737488355328 by rw [List.length_map]; omega), Bool.and_false]
    rfl
theorem s_Read (ws : List Int) (dn : Bool) (a c : Int) (hl : ws.length ≤ 100000) (ha : i64ok a) :
    ev 11 [ndP ws dn, .v (.int .i64 a), .v (.int .i64 c)] =
      some (if acc ws.length (!dn) a c = 0 then [.ow false 31 1 (((ws.drop a.toNat).take c.toNat).map wr), .v (.int .i64 0)] else [.ow true 31 1 [], .v (.int .i64 (acc ws.length (!dn) a c))]) := by
  have h1 := s_check false (ws.map wr) dn a c (by rw [List.length_map]; exact hl) ha
  rw [List.length_map] at h1
  rw [ev11]
  simp -implicitDefEqProofs only [some_bind', obCells_agg, obCells_ob, isOb_ok, isL_ok, isOw_ok, avXs_lst, avXs_ow, avNil_lst, avNil_ow, avNil_sl, avOff_sl, avCut_sl, isAgg_agg, nat_beq_self, List.length_cons, List.length_nil, Nat.reduceAdd, Nat.zero_add, isI_v, isB_v, isS_v, avInt_v, avBool_v, avStr_v, cellAt_zero, cellAt_succ, lget_zero, lget_succ, frAt_zero, frAt_succ, blAt_zero, blAt_succ, isEx_ok, isEx_ne, isEx_none, isRt_some, isRt_none, like_st, likeFG_nil, likeFG_cons, likeBG_nil, likeBG_obj, likeBG_row, likeSG_nil, likeSG_cons, likeT_nil, likeS_nil, isNP_nil, isNP_ob, likeT_ep, isEp_ep, epCells_ep, likeT_agg, likeT_int, likeT_bool, likeT_str, likeT_lst, likeT_sl0, likeT_sl1, likeT_ptr, likeS_int, likeS_bool, likeS_str, likeS_lst, likeS_sl0, likeS_sl1, likeS_ptr, isPtr_ok, isSl_0, isSl_1, beq_self_b, Bool.and_self, Bool.and_true, Bool.true_and, Bool.and_false, Bool.false_and, cond_true, cond_false, Bool.not_true, Bool.not_false, h1]
  by_cases h : acc ws.length (!dn) a c = 0
  · obtain ⟨g1, g2, g3, _⟩ := acc_zero.1 h
    have e1 : IntKind.i64.wrap (a + c) = a + c := by rw [w_i64]; omega
    have e2 : (a + c).toNat - a.toNat = c.toNat := by omega
    have e3 : List.take c.toNat (List.drop a.toNat (ws.map wr)) = ((ws.drop a.toNat).take c.toNat).map wr := by rw [List.map_take, List.map_drop]
    have c1 := s_CloneW false ((ws.drop a.toNat).take c.toNat) (by simp only [List.length_take, List.length_drop]; omega) (fun h => by cases h)
    rw [if_pos h, h, e1, leI_t g2, leI_t (show a ≤ a + c by omega), List.length_map, leI_t g3, e2, e3]
    simp -implicitDefEqProofs only [some_bind', obCells_agg, obCells_ob, isOb_ok, isL_ok, isOw_ok, avXs_lst, avXs_ow, avNil_lst, avNil_ow, avNil_sl, avOff_sl, avCut_sl, isAgg_agg, nat_beq_self, List.length_cons, List.length_nil, Nat.reduceAdd, Nat.zero_add, isI_v, isB_v, isS_v, avInt_v, avBool_v, avStr_v, cellAt_zero, cellAt_succ, lget_zero, lget_succ, frAt_zero, frAt_succ, blAt_zero, blAt_succ, isEx_ok, isEx_ne, isEx_none, isRt_some, isRt_none, like_st, likeFG_nil, likeFG_cons, likeBG_nil, likeBG_obj, likeBG_row, likeSG_nil, likeSG_cons, likeT_nil, likeS_nil, isNP_nil, isNP_ob, likeT_ep, isEp_ep, epCells_ep, likeT_agg, likeT_int, likeT_bool, likeT_str, likeT_lst, likeT_sl0, likeT_sl1, likeT_ptr, likeS_int, likeS_bool, likeS_str, likeS_lst, likeS_sl0, likeS_sl1, likeS_ptr, isPtr_ok, isSl_0, isSl_1, beq_self_b, Bool.and_self, Bool.and_true, Bool.true_and, Bool.and_false, Bool.false_and, cond_true, cond_false, Bool.not_true, Bool.not_false, c1, beq_self_i]
  · rw [if_neg h, beq_eq_false_iff_ne.2 h]; rfl
theorem s_Write (ws : List Int) (dn : Bool) (a : Int) (b : Bool) (ys : List Int) (hl : ws.length ≤ 100000) (ha : i64ok a) :
    ev 15 [ndO ws dn, .v (.int .i64 a), .lst b 1 (ys.map wr)] =
      some [.v (.int .i64 (acc ws.length (!dn) a ys.length)), ndO (if acc ws.length (!dn) a ys.length = 0 then splice ws a.toNat ys else ws) dn] := by
  have h1 := s_check false (ws.map wr) dn a ys.length (by rw [List.length_map]; exact hl) ha
  rw [List.length_map] at h1
  rw [ev15]
  simp -implicitDefEqProofs only [some_bind', obCells_agg, obCells_ob, isOb_ok, isL_ok, isOw_ok, avXs_lst, avXs_ow, avNil_lst, avNil_ow, avNil_sl, avOff_sl, avCut_sl, isAgg_agg, nat_beq_self, List.length_cons, List.length_nil, Nat.reduceAdd, Nat.zero_add, isI_v, isB_v, isS_v, avInt_v, avBool_v, avStr_v, cellAt_zero, cellAt_succ, lget_zero, lget_succ, frAt_zero, frAt_succ, blAt_zero, blAt_succ, isEx_ok, isEx_ne, isEx_none, isRt_some, isRt_none, like_st, likeFG_nil, likeFG_cons, likeBG_nil, likeBG_obj, likeBG_row, likeSG_nil, likeSG_cons, likeT_nil, likeS_nil, isNP_nil, isNP_ob, likeT_ep, isEp_ep, epCells_ep, likeT_agg, likeT_int, likeT_bool, likeT_str, likeT_lst, likeT_sl0, likeT_sl1, likeT_ptr, likeS_int, likeS_bool, likeS_str, likeS_lst, likeS_sl0, likeS_sl1, likeS_ptr, isPtr_ok, isSl_0, isSl_1, beq_self_b, Bool.and_self, Bool.and_true, Bool.true_and, Bool.and_false, Bool.false_and, cond_true, cond_false, Bool.not_true, Bool.not_false, List.length_map, h1]
  by_cases h : acc ws.length (!dn) a ys.length = 0
  · obtain ⟨g1, g2, g3, _⟩ := acc_zero.1 h
    rw [if_pos h, h, leI_t g2, leI_t (show a ≤ (((ws.length - 0 : Nat)) : Int) by omega)]
    have e1 : min ys.length (ws.length - a.toNat) = ys.length := by omega
    rw [e1, ← List.map_take, ← List.map_take, ← List.map_drop, ← List.map_append, ← List.map_append, List.take_length]
    rfl
  · rw [if_neg h, beq_eq_false_iff_ne.2 h]; rfl
theorem s_Cas (ws : List Int) (dn : Bool) (a old new : Int) (hl : ws.length ≤ 100000) (ha : i64ok a) :
    ev 17 [ndO ws dn, .v (.int .i64 a), .v (.int .u64 old), .v (.int .u64 new)] =
      some (if acc ws.length (!dn) a 1 = 0 then [.v (.int .u64 (ws.getD a.toNat 0)), .v (.int .i64 0), ndO (if ws.getD a.toNat 0 = old then ws.set a.toNat new else ws) dn] else [.v (.int .u64 0), .v (.int .i64 (acc ws.length (!dn) a 1)), ndO ws dn]) := by
  have h1 := s_check false (ws.map wr) dn a 1 (by rw [List.length_map]; exact hl) ha
  rw [List.length_map] at h1
  rw [ev17]
  simp -implicitDefEqProofs only [some_bind', obCells_agg, obCells_ob, isOb_ok, isL_ok, isOw_ok, avXs_lst, avXs_ow, avNil_lst, avNil_ow, avNil_sl, avOff_sl, avCut_sl, isAgg_agg, nat_beq_self, List.length_cons, List.length_nil, Nat.reduceAdd, Nat.zero_add, isI_v, isB_v, isS_v, avInt_v, avBool_v, avStr_v, cellAt_zero, cellAt_succ, lget_zero, lget_succ, frAt_zero, frAt_succ, blAt_zero, blAt_succ, isEx_ok, isEx_ne, isEx_none, isRt_some, isRt_none, like_st, likeFG_nil, likeFG_cons, likeBG_nil, likeBG_obj, likeBG_row, likeSG_nil, likeSG_cons, likeT_nil, likeS_nil, isNP_nil, isNP_ob, likeT_ep, isEp_ep, epCells_ep, likeT_agg, likeT_int, likeT_bool, likeT_str, likeT_lst, likeT_sl0, likeT_sl1, likeT_ptr, likeS_int, likeS_bool, likeS_str, likeS_lst, likeS_sl0, likeS_sl1, likeS_ptr, isPtr_ok, isSl_0, isSl_1, beq_self_b, Bool.and_self, Bool.and_true, Bool.true_and, Bool.and_false, Bool.false_and, cond_true, cond_false, Bool.not_true, Bool.not_false, h1]
  by_cases h : acc ws.length (!dn) a 1 = 0
  · obtain ⟨g1, g2, g3, _⟩ := acc_zero.1 h
    have hlt : a.toNat < ws.length := by omega
    have e1 : ltI a (((ws.map wr).length - 0 : Nat) : Int) = true := ltI_t (by rw [List.length_map]; omega)
    have e2 : ltN a.toNat (ws.map wr).length = true := ltN_t (by rw [List.length_map]; omega)
    rw [if_pos h, h, leI_t g2, e1, e2, get_wr ws _ hlt, set_wr]
    simp -implicitDefEqProofs only [some_bind', obCells_agg, obCells_ob, isOb_ok, isL_ok, isOw_ok, avXs_lst, avXs_ow, avNil_lst, avNil_ow, avNil_sl, avOff_sl, avCut_sl, isAgg_agg, nat_beq_self, List.length_cons, List.length_nil, Nat.reduceAdd, Nat.zero_add, isI_v, isB_v, isS_v, avInt_v, avBool_v, avStr_v, cellAt_zero, cellAt_succ, lget_zero, lget_succ, frAt_zero, frAt_succ, blAt_zero, blAt_succ, isEx_ok, isEx_ne, isEx_none, isRt_some, isRt_none, like_st, likeFG_nil, likeFG_cons, likeBG_nil, likeBG_obj, likeBG_row, likeSG_nil, likeSG_cons, likeT_nil, likeS_nil, isNP_nil, isNP_ob, likeT_ep, isEp_ep, epCells_ep, likeT_agg, likeT_int, likeT_bool, likeT_str, likeT_lst, likeT_sl0, likeT_sl1, likeT_ptr, likeS_int, likeS_bool, likeS_str, likeS_lst, likeS_sl0, likeS_sl1, likeS_ptr, isPtr_ok, isSl_0, isSl_1, beq_self_b, Bool.and_self, Bool.and_true, Bool.true_and, Bool.and_false, Bool.false_and, cond_true, cond_false, Bool.not_true, Bool.not_false, wr_eq, beq_self_i]
    by_cases hx : ws.getD a.toNat 0 = old
    · rw [if_pos hx, hx, beq_self_i]; rfl
    · rw [if_neg hx, beq_eq_false_iff_ne.2 hx]; rfl
  · rw [if_neg h, beq_eq_false_iff_ne.2 h]; rfl
theorem s_Add (ws : List Int) (dn : Bool) (a by_ : Int) (hl : ws.length ≤ 100000) (ha : i64ok a) :
    ev 18 [ndO ws dn, .v (.int .i64 a), .v (.int .u64 by_)] =
      some (if acc ws.length (!dn) a 1 = 0 then [.v (.int .u64 (ws.getD a.toNat 0)), .v (.int .i64 0), ndO (ws.set a.toNat (IntKind.u64.wrap (ws.getD a.toNat 0 + by_))) dn] else [.v (.int .u64 0), .v (.int .i64 (acc ws.length (!dn) a 1)), ndO ws dn]) := by
  have h1 := s_check false (ws.map wr) dn a 1 (by rw [List.length_map]; exact hl) ha
  rw [List.length_map] at h1
  rw [ev18]
  simp -implicitDefEqProofs only [some_bind', obCells_agg, obCells_ob, isOb_ok, isL_ok, isOw_ok, avXs_lst, avXs_ow, avNil_lst, avNil_ow, avNil_sl, avOff_sl, avCut_sl, isAgg_agg, nat_beq_self, List.length_cons, List.length_nil, Nat.reduceAdd, Nat.zero_add, isI_v, isB_v, isS_v, avInt_v, avBool_v, avStr_v, cellAt_zero, cellAt_succ, lget_zero, lget_succ, frAt_zero, frAt_succ, blAt_zero, blAt_succ, isEx_ok, isEx_ne, isEx_none, isRt_some, isRt_none, like_st, likeFG_nil, likeFG_cons, likeBG_nil, likeBG_obj, likeBG_row, likeSG_nil, likeSG_cons, likeT_nil, likeS_nil, isNP_nil, isNP_ob, likeT_ep, isEp_ep, epCells_ep, likeT_agg, likeT_int, likeT_bool, likeT_str, likeT_lst, likeT_sl0, likeT_sl1, likeT_ptr, likeS_int, likeS_bool, likeS_str, likeS_lst, likeS_sl0, likeS_sl1, likeS_ptr, isPtr_ok, isSl_0, isSl_1, beq_self_b, Bool.and_self, Bool.and_true, Bool.true_and, Bool.and_false, Bool.false_and, cond_true, cond_false, Bool.not_true, Bool.not_false, h1]
  by_cases h : acc ws.length (!dn) a 1 = 0
  · obtain ⟨g1, g2, g3, _⟩ := acc_zero.1 h
    have hlt : a.toNat < ws.length := by omega
    have e1 : ltI a (((ws.map wr).length - 0 : Nat) : Int) = true := ltI_t (by rw [List.length_map]; omega)
    have e2 : ltN a.toNat (ws.map wr).length = true := ltN_t (by rw [List.length_map]; omega)
    rw [if_pos h, h, leI_t g2, e1, e2, get_wr ws _ hlt, set_wr]
    rfl
  · rw [if_neg h, beq_eq_false_iff_ne.2 h]; rfl
theorem s_Boot (ws : List Int) (dn : Bool) (hl : 1 < ws.length) : ev 12 [ndP ws dn] = some [.v (.int .u64 (ws.getD 1 0))] := by
  rw [ev12, List.length_map, ltI_t (by omega), get_wr ws 1 hl]; rfl
theorem s_boot (ws : List Int) (dn : Bool) (hl : 1 < ws.length) : ev 39 [ndP ws dn] = some [.v (.int .u64 (ws.getD 1 0))] := by
  rw [ev39, List.length_map, ltI_t (by omega), get_wr ws 1 hl]; rfl
theorem s_Up (b : Bool) (xs : List (List AV)) (dn : Bool) : ev 19 [.ep [.lst b 1 xs, .v (.bool dn)] 0] = some [.v (.bool (!dn))] := by rw [ev19]
theorem s_Lines (b : Bool) (xs : List (List AV)) (dn : Bool) (h : xs.length ≤ 100000) : ev 22 [.ep [.lst b 1 xs, .v (.bool dn)] 0] = some [.v (.int .i64 (xs.length / 8 : Nat))] := by
  rw [ev22, tdiv_pos _ _ (by omega), w_i64]; exact int1 (by omega)
theorem s_Fail (ws : List Int) (dn : Bool) : ev 16 [ndO ws dn] = some [ndO ws true] := by rw [ev16]
/-- Back: what becomes of the words, and whether it went up. -/
def backOk (ws : List Int) (dn : Bool) : Bool := dn && ltI (ws.getD 1 0) 31
def backW (ws : List Int) (dn : Bool) : List Int := bif backOk ws dn then ws.set 1 (IntKind.u64.wrap (ws.getD 1 0 + 1)) else ws
theorem ltI_not (a b : Int) : ltI a b = !(leI b a) := by
  by_cases h : a < b
  · rw [ltI_t h, leI_f h]; rfl
  · rw [ltI_f (by omega), leI_t (by omega)]; rfl
theorem s_Back (ws : List Int) (dn : Bool) (hl : 1 < ws.length) : ev 20 [ndO ws dn] = some [.v (.bool (backOk ws dn)), ndO (backW ws dn) (dn && !(backOk ws dn))] := by
  rw [ev20, s_Boot ws dn hl]
  have e1 : ltI 1 (((ws.map wr).length - 0 : Nat) : Int) = true := ltI_t (by rw [List.length_map]; omega)
  have e2 : ltN 1 (ws.map wr).length = true := ltN_t (by rw [List.length_map]; omega)
  unfold backW backOk
  rw [ltI_not (ws.getD 1 0) 31, e1, e2, get_wr ws 1 hl, set_wr]
  simp -implicitDefEqProofs only [some_bind', obCells_agg, obCells_ob, isOb_ok, isL_ok, isOw_ok, avXs_lst, avXs_ow, avNil_lst, avNil_ow, avNil_sl, avOff_sl, avCut_sl, isAgg_agg, nat_beq_self, List.length_cons, List.length_nil, Nat.reduceAdd, Nat.zero_add, isI_v, isB_v, isS_v, avInt_v, avBool_v, avStr_v, cellAt_zero, cellAt_succ, lget_zero, lget_succ, frAt_zero, frAt_succ, blAt_zero, blAt_succ, isEx_ok, isEx_ne, isEx_none, isRt_some, isRt_none, like_st, likeFG_nil, likeFG_cons, likeBG_nil, likeBG_obj, likeBG_row, likeSG_nil, likeSG_cons, likeT_nil, likeS_nil, isNP_nil, isNP_ob, likeT_ep, isEp_ep, epCells_ep, likeT_agg, likeT_int, likeT_bool, likeT_str, likeT_lst, likeT_sl0, likeT_sl1, likeT_ptr, likeS_int, likeS_bool, likeS_str, likeS_lst, likeS_sl0, likeS_sl1, likeS_ptr, isPtr_ok, isSl_0, isSl_1, beq_self_b, Bool.and_self, Bool.and_true, Bool.true_and, Bool.and_false, Bool.false_and, cond_true, cond_false, Bool.not_true, Bool.not_false, wr_eq]
  cases dn
  · rfl
  · cases leI 31 (ws.getD 1 0) <;> rfl
theorem s_RBack (ws : List Int) (up : Bool) (hl : 1 < ws.length) : ev 32 [rfO ws up] = some [.v (.bool (backOk ws (!up))), rfO (backW ws (!up)) (up || backOk ws (!up))] := by
  rw [ev32, s_boot ws up hl]
  have e1 : ltI 1 (((ws.map wr).length - 0 : Nat) : Int) = true := ltI_t (by rw [List.length_map]; omega)
  have e2 : ltN 1 (ws.map wr).length = true := ltN_t (by rw [List.length_map]; omega)
  unfold backW backOk
  rw [ltI_not (ws.getD 1 0) 31, e1, e2, get_wr ws 1 hl, set_wr]
  simp -implicitDefEqProofs only [some_bind', obCells_agg, obCells_ob, isOb_ok, isL_ok, isOw_ok, avXs_lst, avXs_ow, avNil_lst, avNil_ow, avNil_sl, avOff_sl, avCut_sl, isAgg_agg, nat_beq_self, List.length_cons, List.length_nil, Nat.reduceAdd, Nat.zero_add, isI_v, isB_v, isS_v, avInt_v, avBool_v, avStr_v, cellAt_zero, cellAt_succ, lget_zero, lget_succ, frAt_zero, frAt_succ, blAt_zero, blAt_succ, isEx_ok, isEx_ne, isEx_none, isRt_some, isRt_none, like_st, likeFG_nil, likeFG_cons, likeBG_nil, likeBG_obj, likeBG_row, likeSG_nil, likeSG_cons, likeT_nil, likeS_nil, isNP_nil, isNP_ob, likeT_ep, isEp_ep, epCells_ep, likeT_agg, likeT_int, likeT_bool, likeT_str, likeT_lst, likeT_sl0, likeT_sl1, likeT_ptr, likeS_int, likeS_bool, likeS_str, likeS_lst, likeS_sl0, likeS_sl1, likeS_ptr, isPtr_ok, isSl_0, isSl_1, beq_self_b, Bool.and_self, Bool.and_true, Bool.true_and, Bool.and_false, Bool.false_and, cond_true, cond_false, Bool.not_true, Bool.not_false, wr_eq]
  cases up
  · cases leI 31 (ws.getD 1 0) <;> rfl
  · rfl
theorem s_New (n : Int) (h : 1 ≤ n ∧ n ≤ 256) : ev 9 [.v (.int .i64 n)] = some [ndO (List.replicate (8 * n.toNat) 0) false, .v (.int .i64 0)] := by
  have e : IntKind.i64.wrap (n * 8) = n * 8 := by rw [w_i64]; omega
  rw [ev9, ltI_f (by omega), ltI_f (by omega), e, leI_t (show 0 ≤ n * 8 by omega), leI_t (Int.le_refl _), leI_t (show n * 8 * 8 ≤ 281474976710656 by omega), leI_t (show n * 8 ≤ 281474976710656 by omega), show (n * 8).toNat = 8 * n.toNat by omega]
  show some [AV.ob _ [AV.ow false _ 1 (List.replicate (8 * n.toNat) (wr 0)), _], _] = _
  rw [← List.map_replicate]
theorem l_SameWords (b c : Bool) (xs ys : List Int) (h : xs.length = ys.length) (hl : xs.length ≤ 100000) : ∀ (k i : Nat), i + k = xs.length →
    lp 21 0 0 ⟨[(0, (.lst b 1 (xs.map wr))), (1, (.lst c 1 (ys.map wr))), (5, (.v (.int .i64 (i : Int))))], []⟩ =
      some (if xs.drop i = ys.drop i then ⟨some 0, ⟨[], []⟩, []⟩ else ⟨none, ⟨[], []⟩, [.v (.bool false)]⟩)
  | 0, i, hi => by
    rw [lp21_0, List.length_map, ltI_f (by omega), List.drop_of_length_le (by omega), List.drop_of_length_le (by omega), if_pos rfl]; rfl
  | k + 1, i, hi => by
    have ih := l_SameWords b c xs ys h hl k (i + 1) (by omega)
    have e1 : IntKind.i64.wrap ((i : Int) + 1) = ((i + 1 : Nat) : Int) := by rw [w_i64]; omega
    have h1 : i < xs.length := by omega
    have h2 : i < ys.length := by omega
    rw [lp21_0, List.length_map, List.length_map, ltI_t (by omega), leI_t (by omega), ltI_t (by omega), Int.toNat_natCast, get_wr xs i h1, get_wr ys i h2, e1, ih]
    simp -implicitDefEqProofs only [some_bind', obCells_agg, obCells_ob, isOb_ok, isL_ok, isOw_ok, avXs_lst, avXs_ow, avNil_lst, avNil_ow, avNil_sl, avOff_sl, avCut_sl, isAgg_agg, nat_beq_self, List.length_cons, List.length_nil, Nat.reduceAdd, Nat.zero_add, isI_v, isB_v, isS_v, avInt_v, avBool_v, avStr_v, cellAt_zero, cellAt_succ, lget_zero, lget_succ, frAt_zero, frAt_succ, blAt_zero, blAt_succ, isEx_ok, isEx_ne, isEx_none, isRt_some, isRt_none, like_st, likeFG_nil, likeFG_cons, likeBG_nil, likeBG_obj, likeBG_row, likeSG_nil, likeSG_cons, likeT_nil, likeS_nil, isNP_nil, isNP_ob, likeT_ep, isEp_ep, epCells_ep, likeT_agg, likeT_int, likeT_bool, likeT_str, likeT_lst, likeT_sl0, likeT_sl1, likeT_ptr, likeS_int, likeS_bool, likeS_str, likeS_lst, likeS_sl0, likeS_sl1, likeS_ptr, isPtr_ok, isSl_0, isSl_1, beq_self_b, Bool.and_self, Bool.and_true, Bool.true_and, Bool.and_false, Bool.false_and, cond_true, cond_false, Bool.not_true, Bool.not_false, wr_eq]
    rw [List.drop_eq_getElem_cons h1, List.drop_eq_getElem_cons h2]
    have g1 : xs.getD i 0 = xs[i] := by simp [h1]
    have g2 : ys.getD i 0 = ys[i] := by simp [h2]
    rw [g1, g2]
    by_cases hx : xs[i] = ys[i]
    · rw [hx, beq_self_i]
      simp only [List.cons.injEq, true_and]
      rfl
    · rw [beq_eq_false_iff_ne.2 hx, if_neg (fun e => hx (List.cons.inj e).1)]; rfl
theorem s_SameWords (b c : Bool) (xs ys : List Int) (hl : xs.length ≤ 100000) (hk : ys.length ≤ 100000) : ev 21 [.lst b 1 (xs.map wr), .lst c 1 (ys.map wr)] = some [.v (.bool (decide (xs = ys)))] := by
  rw [ev21, List.length_map, List.length_map]
  by_cases h : xs.length = ys.length
  · rw [h, beq_self_i]
    have := l_SameWords b c xs ys h hl xs.length 0 (by omega)
    rw [List.drop_zero, List.drop_zero] at this
    rw [show (0 : Int) = ((0 : Nat) : Int) from rfl, this]
    by_cases hx : xs = ys
    · rw [if_pos hx, decide_eq_true hx]; rfl
    · rw [if_neg hx, decide_eq_false hx]; rfl
  · rw [beq_eq_false_iff_ne.2 (show (xs.length : Int) ≠ ys.length by omega), decide_eq_false (fun e => h (by rw [e]))]; rfl
theorem drop_cons (l : List Nat) (i : Nat) (h : i < l.length) : l.drop i = l.getD i 0 :: l.drop (i + 1) := by
  rw [List.drop_eq_getElem_cons h]; simp [h]
theorem tab_get (i : Nat) (h : i < 256) : cellAt tabL i = .v (.int .u64 (step8 i : Nat)) := by
  rw [tabL_eq, cellAt, List.getD_eq_getElem?_getD, List.getElem?_map, List.getElem?_range h]; rfl
theorem upd_split (r x : Nat) (hx : x < 256) : r / 256 ^^^ step8 (r % 256 ^^^ x) = upd r x := by
  unfold upd
  rw [step8_split (r ^^^ x)]
  have h1 : (r ^^^ x) / 256 = r / 256 := by
    have : (r ^^^ x) / 2 ^ 8 = r / 2 ^ 8 ^^^ x / 2 ^ 8 := Nat.xor_div_two_pow
    rw [show x / 2 ^ 8 = 0 by omega, Nat.xor_zero] at this
    exact this
  have h2 : (r ^^^ x) % 256 = r % 256 ^^^ x := by
    have : (r ^^^ x) % 2 ^ 8 = r % 2 ^ 8 ^^^ x % 2 ^ 8 := Nat.xor_mod_two_pow
    rw [show x % 2 ^ 8 = x by omega] at this
    exact this
  rw [h1, h2]
theorem l_add (b : Bool) (l : List Nat) (hl : l.length ≤ 1000000) (hb : ∀ x ∈ l, x < 256) : ∀ (k i r : Nat), i + k = l.length → r < 2 ^ 64 →
    lp 45 0 0 ⟨[(0, (.v (.int .u64 (r : Int)))), (1, (.ep tabL 0)), (9, (.lst b 1 (bts l))), (10, (.v (.int .i64 (l.length : Int)))), (11, (.v (.int .i64 (i : Int))))], []⟩ =
      some ⟨some 0, ⟨[(0, (.v (.int .u64 (crcR r (l.drop i) : Nat))))], []⟩, []⟩
  | 0, i, r, hi, hr => by rw [lp45_0, ltI_f (by omega), List.drop_of_length_le (by omega)]; rfl
  | k + 1, i, r, hi, hr => by
    have hlt : i < l.length := by omega
    have hx := hb _ (mem_getD l 0 i hlt)
    have ih := l_add b l hl hb k (i + 1) (upd r (l.getD i 0)) (by omega) (upd_lt hr hx)
    rw [lp45_0, ltI_t (by omega), leI_t (by omega), bts_len, ltI_t (by omega), Int.toNat_natCast, get_bts l i hlt, drop_cons l i hlt]
    generalize l.getD i 0 = x at *
    have e0 : IntKind.u8.wrap (r : Int) = ((r % 256 : Nat) : Int) := by rw [w_u8]; rfl
    have hx2 : r % 256 ^^^ x < 2 ^ 8 := Nat.xor_lt_two_pow (by omega) (by omega)
    have e1 : bits .xor .u8 ((r % 256 : Nat) : Int) (x : Int) = ((r % 256 ^^^ x : Nat) : Int) := xor_u8 _ _ (by omega) hx
    have e2 : Int.fdiv (r : Int) 256 = ((r / 256 : Nat) : Int) := fdiv_nat r 256
    have e3 : IntKind.i64.wrap ((i : Int) + 1) = ((i + 1 : Nat) : Int) := by rw [w_i64]; omega
    have e4 : bits .xor .u64 ((r / 256 : Nat) : Int) ((step8 (r % 256 ^^^ x) : Nat) : Int) = ((r / 256 ^^^ step8 (r % 256 ^^^ x) : Nat) : Int) := xor_u64 _ _ (by omega) (step8_lt (byte_lt hx2))
    have e5 : 0 + (r % 256 ^^^ x) * 1 = r % 256 ^^^ x := by omega
    simp only [bt, cellAt_zero, isI_v, avInt_v, cond_true, e0, e1, e2, e3, Int.toNat_natCast, e5, tab_get _ hx2, leI_t (show (0 : Int) ≤ ((r % 256 ^^^ x : Nat) : Int) by omega), ltI_t (show ((r % 256 ^^^ x : Nat) : Int) < 256 by omega), Bool.and_self, e4]
    rw [upd_split r x hx]
    exact ih
set_option maxRecDepth 100000 in
theorem s_Extend (b : Bool) (s : Nat) (l : List Nat) (hs : s < 2 ^ 64) (hl : l.length ≤ 1000000) (hb : ∀ x ∈ l, x < 256) : ev 42 [.v (.int .u64 (s : Int)), .lst b 1 (bts l)] = some [.v (.int .u64 (crcX s l : Nat))] := by
  have hs2 : ones ^^^ s < 2 ^ 64 := Nat.xor_lt_two_pow ones_lt hs
  have e : bits .xor .u64 18446744073709551615 (s : Int) = ((ones ^^^ s : Nat) : Int) := xor_u64 ones s ones_lt hs
  have h := l_add b l hl hb l.length 0 (ones ^^^ s) (by omega) hs2
  have h2 : ev 45 [.v (.int .u64 (ones ^^^ s : Nat)), .ep tabL 0, .lst b 1 (bts l)] = some [.v (.int .u64 (crcR (ones ^^^ s) l : Nat))] := by
    rw [ev45, bts_len]
    exact bnd h rfl
  refine (ev42 _ _ _).trans ?_
  rw [e]
  refine bnd h2 ?_
  have e2 : bits .xor .u64 18446744073709551615 ((crcR (ones ^^^ s) l : Nat) : Int) = ((crcX s l : Nat) : Int) := xor_u64 ones _ ones_lt (crcR_lt hs2 hb)
  show some [AV.v (.int .u64 (bits .xor .u64 18446744073709551615 ((crcR (ones ^^^ s) l : Nat) : Int)))] = _
  rw [e2]
theorem s_Bytes (b : Bool) (l : List Nat) (hl : l.length ≤ 1000000) (hb : ∀ x ∈ l, x < 256) : ev 35 [.lst b 1 (bts l)] = some [.v (.int .u64 (crcX 0 l : Nat))] := by
  rw [ev35]
  exact bnd (s_Extend b 0 l (by decide) hl hb) rfl
theorem l_RExtend1 (b : Bool) (xs : List (List AV)) (x6 : Int) : ∀ (k j r : Nat), j + k = 8 → r < 2 ^ 64 →
    lp 43 1 0 ⟨[(1, (.lst b 1 xs)), (5, (.v (.int .u64 (r : Int)))), (6, (.v (.int .i64 x6))), (7, (.v (.int .i64 (j : Int))))], []⟩ =
      some ⟨some 2, ⟨[(1, (.lst b 1 xs)), (5, (.v (.int .u64 (stepK k r : Nat)))), (6, (.v (.int .i64 x6)))], []⟩, []⟩
  | 0, j, r, hj, hr => by rw [lp43_1, ltI_f (by omega)]; rfl
  | k + 1, j, r, hj, hr => by
    have ih := l_RExtend1 b xs x6 k (j + 1) (step1 r) (by omega) (step1_lt hr)
    have e1 : IntKind.i64.wrap ((j : Int) + 1) = ((j + 1 : Nat) : Int) := by rw [w_i64]; omega
    have e2 : bits .and .u64 (r : Int) 1 = ((r % 2 : Nat) : Int) := by
      rw [and_u64 1 (by decide) _ 1 (by decide) (by omega) (by omega)]; omega
    have e3 : Int.fdiv (r : Int) 2 = ((r / 2 : Nat) : Int) := fdiv_nat r 2
    have e4 : bits .xor .u64 ((r / 2 : Nat) : Int) 14514072000185962306 = ((r / 2 ^^^ poly : Nat) : Int) := xor_u64 (r / 2) poly (by omega) poly_lt
    rw [lp43_1, ltI_t (by omega), e1, e2, e3, e4]
    simp only [stepK]
    by_cases h : r % 2 = 1
    · rw [step1_eq, if_pos h] at ih ⊢
      rw [h]; exact ih
    · rw [step1_eq, if_neg h] at ih ⊢
      rw [beq_eq_false_iff_ne.2 (show ((r % 2 : Nat) : Int) ≠ 1 by omega)]; exact ih
theorem l_RExtend0 (b : Bool) (l : List Nat) (hl : l.length ≤ 1000000) (hb : ∀ x ∈ l, x < 256) : ∀ (k i r : Nat), i + k = l.length → r < 2 ^ 64 →
    lp 43 0 0 ⟨[(1, (.lst b 1 (bts l))), (5, (.v (.int .u64 (r : Int)))), (6, (.v (.int .i64 (i : Int))))], []⟩ =
      some ⟨some 0, ⟨[(5, (.v (.int .u64 (crcR r (l.drop i) : Nat))))], []⟩, []⟩
  | 0, i, r, hi, hr => by rw [lp43_0, bts_len, ltI_f (by omega), List.drop_of_length_le (by omega)]; rfl
  | k + 1, i, r, hi, hr => by
    have hlt : i < l.length := by omega
    have hx := hb _ (mem_getD l 0 i hlt)
    have ih := l_RExtend0 b l hl hb k (i + 1) (upd r (l.getD i 0)) (by omega) (upd_lt hr hx)
    rw [lp43_0, bts_len, ltI_t (by omega), leI_t (by omega), Int.toNat_natCast, get_bts l i hlt, drop_cons l i hlt]
    generalize l.getD i 0 = x at *
    have e0 : IntKind.u64.wrap (x : Int) = (x : Int) := by rw [w_u64]; omega
    have e4 : bits .xor .u64 (r : Int) (x : Int) = ((r ^^^ x : Nat) : Int) := xor_u64 _ _ hr (byte_lt hx)
    have e3 : IntKind.i64.wrap ((i : Int) + 1) = ((i + 1 : Nat) : Int) := by rw [w_i64]; omega
    have a := l_RExtend1 b (bts l) (i : Int) 8 0 (r ^^^ x) (by omega) (Nat.xor_lt_two_pow hr (byte_lt hx))
    simp only [bt, cellAt_zero, isI_v, avInt_v, cond_true, Bool.and_self, e0, e4]
    refine bnd a ?_
    have e5 : stepK 8 (r ^^^ x) = upd r x := rfl
    simp -implicitDefEqProofs only [some_bind', obCells_agg, obCells_ob, isOb_ok, isL_ok, isOw_ok, avXs_lst, avXs_ow, avNil_lst, avNil_ow, avNil_sl, avOff_sl, avCut_sl, isAgg_agg, nat_beq_self, List.length_cons, List.length_nil, Nat.reduceAdd, Nat.zero_add, isI_v, isB_v, isS_v, avInt_v, avBool_v, avStr_v, cellAt_zero, cellAt_succ, lget_zero, lget_succ, frAt_zero, frAt_succ, blAt_zero, blAt_succ, isEx_ok, isEx_ne, isEx_none, isRt_some, isRt_none, like_st, likeFG_nil, likeFG_cons, likeBG_nil, likeBG_obj, likeBG_row, likeSG_nil, likeSG_cons, likeT_nil, likeS_nil, isNP_nil, isNP_ob, likeT_ep, isEp_ep, epCells_ep, likeT_agg, likeT_int, likeT_bool, likeT_str, likeT_lst, likeT_sl0, likeT_sl1, likeT_ptr, likeS_int, likeS_bool, likeS_str, likeS_lst, likeS_sl0, likeS_sl1, likeS_ptr, isPtr_ok, isSl_0, isSl_1, beq_self_b, Bool.and_self, Bool.and_true, Bool.true_and, Bool.and_false, Bool.false_and, cond_true, cond_false, Bool.not_true, Bool.not_false, e3, e5]
    exact ih
theorem s_RExtend (b : Bool) (s : Nat) (l : List Nat) (hs : s < 2 ^ 64) (hl : l.length ≤ 1000000) (hb : ∀ x ∈ l, x < 256) : ev 43 [.v (.int .u64 (s : Int)), .lst b 1 (bts l)] = some [.v (.int .u64 (crcX s l : Nat))] := by
  have hs2 : ones ^^^ s < 2 ^ 64 := Nat.xor_lt_two_pow ones_lt hs
  have e : bits .xor .u64 18446744073709551615 (s : Int) = ((ones ^^^ s : Nat) : Int) := xor_u64 ones s ones_lt hs
  have h := l_RExtend0 b l hl hb l.length 0 (ones ^^^ s) (by omega) hs2
  rw [ev43, e]
  refine bnd h ?_
  have e2 : bits .xor .u64 18446744073709551615 ((crcR (ones ^^^ s) l : Nat) : Int) = ((crcX s l : Nat) : Int) := xor_u64 ones _ ones_lt (crcR_lt hs2 hb)
  show some [AV.v (.int .u64 (bits .xor .u64 18446744073709551615 ((crcR (ones ^^^ s) l : Nat) : Int)))] = _
  rw [e2]
theorem s_RBytes (b : Bool) (l : List Nat) (hl : l.length ≤ 1000000) (hb : ∀ x ∈ l, x < 256) : ev 41 [.lst b 1 (bts l)] = some [.v (.int .u64 (crcX 0 l : Nat))] := by
  rw [ev41]
  exact bnd (s_RExtend b 0 l (by decide) hl hb) rfl
theorem s_appendWord (b : Bool) (l : List Nat) (w : Nat) (hl : l.length ≤ 1000000) : ev 34 [.ow b 5 1 (bts l), .v (.int .u64 (w : Int))] = some [.ow false 5 1 (bts (l ++ little w))] := by
  have d : ∀ n : Nat, Int.fdiv (n : Int) 256 = ((n / 256 : Nat) : Int) := fun n => fdiv_nat n 256
  have m : ∀ n : Nat, IntKind.u8.wrap (n : Int) = ((n % 256 : Nat) : Int) := fun n => by rw [w_u8]; rfl
  have hle : ∀ j : Nat, j ≤ 8 → leN ((l.length + j + 1) * 1) 140737488355328 = true := fun j hj => leN_t (by omega)
  have h0 : leN ((l.length + 1) * 1) 140737488355328 = true := leN_t (by omega)
  rw [ev34]
  simp only [d, m, List.length_append, List.length_cons, List.length_nil, bts_len, Nat.zero_add, Nat.add_assoc, Nat.reduceAdd]
  have h : ∀ j : Nat, j ≤ 9 → leN ((l.length + j) * 1) 140737488355328 = true := fun j hj => leN_t (by omega)
  rw [h 1 (by omega), h 2 (by omega), h 3 (by omega), h 4 (by omega), h 5 (by omega), h 6 (by omega), h 7 (by omega), h 8 (by omega)]
  simp only [cond_true, List.append_assoc]
  unfold bts
  rw [List.map_append]
  rfl
end Go.Proofs.Ytokagdgcfmjlnaa
