/- Images of nodes. -/
import Derived.Test.YtokagdgcfmjlnaaDo2
set_option linter.all false
namespace Go.Proofs.Ytokagdgcfmjlnaa
open Go.Ev
attribute [local congr] bind_first cond_first
def body (ws : List Int) : List Nat := ws.flatMap fun w => little w.toNat
theorem body_snoc (ws : List Int) (w : Int) : body (ws ++ [w]) = body ws ++ little w.toNat := by
  unfold body; rw [List.flatMap_append]; simp
theorem little_len (w : Nat) : (little w).length = 8 := rfl
theorem body_len : ∀ ws : List Int, (body ws).length = 8 * ws.length
  | [] => rfl
  | w :: ws => by
    have := body_len ws
    unfold body at *
    rw [List.flatMap_cons, List.length_append, this, little_len, List.length_cons]; omega
theorem little_lt (w : Nat) : ∀ x ∈ little w, x < 256 := by
  intro x hx
  unfold little at hx
  simp only [List.mem_cons, List.not_mem_nil, or_false] at hx
  omega
theorem body_lt (ws : List Int) : ∀ x ∈ body ws, x < 256 := fun x hx => by
  unfold body at hx
  obtain ⟨w, _, hw⟩ := List.mem_flatMap.1 hx
  exact little_lt _ x hw
theorem take_succD (ws : List Int) (i : Nat) (h : i < ws.length) : ws.take (i + 1) = ws.take i ++ [ws.getD i 0] := by
  rw [List.take_succ_eq_append_getElem h]; simp [h]
def hdr (n : Nat) (up : Bool) : List Nat := [77, 69, 77, 49, n % 256, n / 256 % 256, bif up then 1 else 0]
theorem hdr_lt (n : Nat) (up : Bool) : ∀ x ∈ hdr n up, x < 256 := by
  intro x hx
  unfold hdr at hx
  simp only [List.mem_cons, List.not_mem_nil, or_false] at hx
  cases up <;> simp only [cond_true, cond_false] at hx <;> omega
def pre (ws : List Int) (up : Bool) : List Nat := hdr (ws.length / 8) up ++ body ws
def img (ws : List Int) (up : Bool) : List Nat := pre ws up ++ little (crcX 0 (pre ws up))
theorem pre_lt (ws : List Int) (up : Bool) : ∀ x ∈ pre ws up, x < 256 := fun x hx => by
  rcases List.mem_append.1 hx with h | h
  · exact hdr_lt _ _ x h
  · exact body_lt _ x h
theorem img_lt (ws : List Int) (up : Bool) : ∀ x ∈ img ws up, x < 256 := fun x hx => by
  rcases List.mem_append.1 hx with h | h
  · exact pre_lt _ _ x h
  · exact little_lt _ x h
theorem pre_len (ws : List Int) (up : Bool) : (pre ws up).length = 7 + 8 * ws.length := by
  unfold pre; rw [List.length_append, body_len]; rfl
theorem img_len (ws : List Int) (up : Bool) : (img ws up).length = 15 + 8 * ws.length := by
  unfold img; rw [List.length_append, pre_len, little_len]; omega
theorem bts_app (a b : List Nat) : bts a ++ bts b = bts (a ++ b) := by unfold bts; rw [List.map_append]
theorem all_bts (l : List Nat) : (bts l).all Ev.isByte = true := by
  unfold bts
  simp only [List.all_map, List.all_eq_true]
  exact fun _ _ => rfl
theorem all_btsV (l : List Nat) : (bts l).all rowV = true := by
  unfold bts
  simp only [List.all_map, List.all_eq_true]
  exact fun _ _ => rfl
theorem l_Image (b : Bool) (ws : List Int) (l : List Nat) (h : Wok ws) (hl : ws.length ≤ 100000) (hk : l.length ≤ 100) : ∀ (k i : Nat), i + k = ws.length →
    lp 24 0 0 ⟨[(3, (.sl false 0 0 none)), (26, (.lst b 1 (ws.map wr))), (27, (.v (.int .i64 (ws.length : Int)))), (28, (.v (.int .i64 (i : Int))))], [⟨1, 5, 1, false, bts (l ++ body (ws.take i))⟩]⟩ =
      some ⟨some 0, ⟨[(3, (.sl false 0 0 none))], [⟨1, 5, 1, false, bts (l ++ body ws)⟩]⟩, []⟩
  | 0, i, hi => by
    rw [lp24_0, ltI_f (by omega), List.take_of_length_le (by omega)]; rfl
  | k + 1, i, hi => by
    have ih := l_Image b ws l h hl hk k (i + 1) (by omega)
    have hlt : i < ws.length := by omega
    have hw := h _ (mem_getD ws 0 i hlt)
    have e1 : IntKind.i64.wrap ((i : Int) + 1) = ((i + 1 : Nat) : Int) := by rw [w_i64]; omega
    have a := s_appendWord false (l ++ body (ws.take i)) (ws.getD i 0).toNat (by rw [List.length_append, body_len, List.length_take]; omega)
    rw [show (((ws.getD i 0).toNat : Nat) : Int) = ws.getD i 0 by omega, List.append_assoc, ← body_snoc, ← take_succD ws i hlt] at a
    rw [lp24_0, ltI_t (by omega), leI_t (by omega), List.length_map, ltI_t (by omega), Int.toNat_natCast, get_wr ws i hlt, e1]
    simp only [wr_eq, cellAt_zero, isI_v, avInt_v, cond_true, Bool.and_self]
    refine bnd a ?_
    simp -implicitDefEqProofs only [some_bind', obCells_agg, obCells_ob, isOb_ok, isL_ok, isOw_ok, avXs_lst, avXs_ow, avNil_lst, avNil_ow, avNil_sl, avOff_sl, avCut_sl, isAgg_agg, nat_beq_self, List.length_cons, List.length_nil, Nat.reduceAdd, Nat.zero_add, isI_v, isB_v, isS_v, avInt_v, avBool_v, avStr_v, cellAt_zero, cellAt_succ, lget_zero, lget_succ, frAt_zero, frAt_succ, blAt_zero, blAt_succ, isEx_ok, isEx_ne, isEx_none, isRt_some, isRt_none, like_st, likeFG_nil, likeFG_cons, likeBG_nil, likeBG_obj, likeBG_row, likeSG_nil, likeSG_cons, likeT_nil, likeS_nil, isNP_nil, isNP_ob, likeT_ep, isEp_ep, epCells_ep, likeT_agg, likeT_int, likeT_bool, likeT_str, likeT_lst, likeT_sl0, likeT_sl1, likeT_ptr, likeS_int, likeS_bool, likeS_str, likeS_lst, likeS_sl0, likeS_sl1, likeS_ptr, isPtr_ok, isSl_0, isSl_1, beq_self_b, Bool.and_self, Bool.and_true, Bool.true_and, Bool.and_false, Bool.false_and, cond_true, cond_false, Bool.not_true, Bool.not_false]
    exact ih
theorem s_Image (ws : List Int) (dn : Bool) (h : Wok ws) (hl : ws.length ≤ 100000) : ev 24 [ndP ws dn] = some [.ow false 5 1 (bts (img ws (!dn)))] := by
  have a := s_Lines false (ws.map wr) dn (by rw [List.length_map]; exact hl)
  rw [List.length_map] at a
  have e1 : IntKind.u8.wrap ((ws.length / 8 : Nat) : Int) = ((ws.length / 8 % 256 : Nat) : Int) := by rw [w_u8]; rfl
  have e2 : Int.fdiv ((ws.length / 8 : Nat) : Int) 256 = ((ws.length / 8 / 256 : Nat) : Int) := fdiv_nat _ 256
  have e3 : IntKind.u8.wrap ((ws.length / 8 / 256 : Nat) : Int) = ((ws.length / 8 / 256 % 256 : Nat) : Int) := by rw [w_u8]; rfl
  rw [ev24]
  refine bnd a ?_
  simp only [cellAt_zero, isI_v, cond_true]
  refine bnd a ?_
  simp only [cellAt_zero, isI_v, cond_true, avInt_v, e1, e2, e3, List.length_map]
  have fin : ∀ up : Bool, (ev 35 [.lst false 1 (bts (pre ws up))]) = some [.v (.int .u64 (crcX 0 (pre ws up) : Nat))] := fun up => s_Bytes false _ (by rw [pre_len]; omega) (pre_lt ws up)
  have fin2 : ∀ up : Bool, ev 34 [.ow false 5 1 (bts (pre ws up)), .v (.int .u64 (crcX 0 (pre ws up) : Nat))] = some [.ow false 5 1 (bts (img ws up))] := fun up => s_appendWord false _ _ (by rw [pre_len]; omega)
  cases dn with
  | true =>
    have hb0 : bts (hdr (ws.length / 8) false ++ body (ws.take 0)) = [[.v (.int .u8 77)], [.v (.int .u8 69)], [.v (.int .u8 77)], [.v (.int .u8 49)], [.v (.int .u8 ((ws.length / 8 % 256 : Nat) : Int))], [.v (.int .u8 ((ws.length / 8 / 256 % 256 : Nat) : Int))], [.v (.int .u8 0)]] := rfl
    have lp0 := l_Image false ws (hdr (ws.length / 8) false) h hl (show 7 ≤ 100 by decide) ws.length 0 (by omega)
    rw [hb0] at lp0
    refine bnd (a := ⟨some 0, ⟨[(3, (.sl false 0 0 none))], [⟨1, 5, 1, false, bts (pre ws false)⟩]⟩, []⟩) lp0 ?_
    simp -implicitDefEqProofs only [some_bind', obCells_agg, obCells_ob, isOb_ok, isL_ok, isOw_ok, avXs_lst, avXs_ow, avNil_lst, avNil_ow, avNil_sl, avOff_sl, avCut_sl, isAgg_agg, nat_beq_self, List.length_cons, List.length_nil, Nat.reduceAdd, Nat.zero_add, isI_v, isB_v, isS_v, avInt_v, avBool_v, avStr_v, cellAt_zero, cellAt_succ, lget_zero, lget_succ, frAt_zero, frAt_succ, blAt_zero, blAt_succ, isEx_ok, isEx_ne, isEx_none, isRt_some, isRt_none, like_st, likeFG_nil, likeFG_cons, likeBG_nil, likeBG_obj, likeBG_row, likeSG_nil, likeSG_cons, likeT_nil, likeS_nil, isNP_nil, isNP_ob, likeT_ep, isEp_ep, epCells_ep, likeT_agg, likeT_int, likeT_bool, likeT_str, likeT_lst, likeT_sl0, likeT_sl1, likeT_ptr, likeS_int, likeS_bool, likeS_str, likeS_lst, likeS_sl0, likeS_sl1, likeS_ptr, isPtr_ok, isSl_0, isSl_1, beq_self_b, Bool.and_self, Bool.and_true, Bool.true_and, Bool.and_false, Bool.false_and, cond_true, cond_false, Bool.not_true, Bool.not_false, fin, fin2, Bool.not_true]
  | false =>
    have hb0 : bts (hdr (ws.length / 8) true ++ body (ws.take 0)) = [[.v (.int .u8 77)], [.v (.int .u8 69)], [.v (.int .u8 77)], [.v (.int .u8 49)], [.v (.int .u8 ((ws.length / 8 % 256 : Nat) : Int))], [.v (.int .u8 ((ws.length / 8 / 256 % 256 : Nat) : Int))], [.v (.int .u8 1)]] := rfl
    have lp0 := l_Image false ws (hdr (ws.length / 8) true) h hl (show 7 ≤ 100 by decide) ws.length 0 (by omega)
    rw [hb0] at lp0
    refine bnd (a := ⟨some 0, ⟨[(3, (.sl false 0 0 none))], [⟨1, 5, 1, false, bts (pre ws true)⟩]⟩, []⟩) lp0 ?_
    simp -implicitDefEqProofs only [some_bind', obCells_agg, obCells_ob, isOb_ok, isL_ok, isOw_ok, avXs_lst, avXs_ow, avNil_lst, avNil_ow, avNil_sl, avOff_sl, avCut_sl, isAgg_agg, nat_beq_self, List.length_cons, List.length_nil, Nat.reduceAdd, Nat.zero_add, isI_v, isB_v, isS_v, avInt_v, avBool_v, avStr_v, cellAt_zero, cellAt_succ, lget_zero, lget_succ, frAt_zero, frAt_succ, blAt_zero, blAt_succ, isEx_ok, isEx_ne, isEx_none, isRt_some, isRt_none, like_st, likeFG_nil, likeFG_cons, likeBG_nil, likeBG_obj, likeBG_row, likeSG_nil, likeSG_cons, likeT_nil, likeS_nil, isNP_nil, isNP_ob, likeT_ep, isEp_ep, epCells_ep, likeT_agg, likeT_int, likeT_bool, likeT_str, likeT_lst, likeT_sl0, likeT_sl1, likeT_ptr, likeS_int, likeS_bool, likeS_str, likeS_lst, likeS_sl0, likeS_sl1, likeS_ptr, isPtr_ok, isSl_0, isSl_1, beq_self_b, Bool.and_self, Bool.and_true, Bool.true_and, Bool.and_false, Bool.false_and, cond_true, cond_false, Bool.not_true, Bool.not_false, fin, fin2, Bool.not_false]
theorem lit_shift (w m : Nat) : IntKind.u8.wrap (Int.fdiv (w : Int) (m : Int)) = ((w / m % 256 : Nat) : Int) := by
  rw [fdiv_nat, w_u8]; rfl
theorem little_shift (w : Nat) : little w = [w / 1 % 256, w / 256 % 256, w / 65536 % 256, w / 16777216 % 256, w / 4294967296 % 256, w / 1099511627776 % 256, w / 281474976710656 % 256, w / 72057594037927936 % 256] := by
  unfold little
  simp only [Nat.div_div_eq_div_mul, Nat.reduceMul, Nat.div_one]
theorem s_Little (w : Nat) : ev 40 [.v (.int .u64 (w : Int))] = some [.ow false 5 1 (bts (little w))] := by
  have s := lit_shift w
  have h : ev 40 [.v (.int .u64 (w : Int))] = some [.ow false 5 1 [[.v (.int .u8 (IntKind.u8.wrap (Int.fdiv (w : Int) ((1 : Nat) : Int))))], [.v (.int .u8 (IntKind.u8.wrap (Int.fdiv (w : Int) ((256 : Nat) : Int))))], [.v (.int .u8 (IntKind.u8.wrap (Int.fdiv (w : Int) ((65536 : Nat) : Int))))], [.v (.int .u8 (IntKind.u8.wrap (Int.fdiv (w : Int) ((16777216 : Nat) : Int))))], [.v (.int .u8 (IntKind.u8.wrap (Int.fdiv (w : Int) ((4294967296 : Nat) : Int))))], [.v (.int .u8 (IntKind.u8.wrap (Int.fdiv (w : Int) ((1099511627776 : Nat) : Int))))], [.v (.int .u8 (IntKind.u8.wrap (Int.fdiv (w : Int) ((281474976710656 : Nat) : Int))))], [.v (.int .u8 (IntKind.u8.wrap (Int.fdiv (w : Int) ((72057594037927936 : Nat) : Int))))]]] := evL_of (n := 12) (by kernel_rfl)
  rw [h, s, s, s, s, s, s, s, s, little_shift]
  rfl
theorem l_RImage (b up : Bool) (ws : List Int) (l : List Nat) (h : Wok ws) (hl : ws.length ≤ 100000) (hk : l.length ≤ 100) : ∀ (k i : Nat), i + k = ws.length →
    lp 33 0 0 ⟨[(0, (.ep [(.lst b 1 (ws.map wr)), (.v (.bool up))] 0)), (4, (.sl false 0 0 none)), (5, (.v (.int .i64 (i : Int))))], [⟨1, 5, 1, false, bts (l ++ body (ws.take i))⟩]⟩ =
      some ⟨some 0, ⟨[(4, (.sl false 0 0 none))], [⟨1, 5, 1, false, bts (l ++ body ws)⟩]⟩, []⟩
  | 0, i, hi => by
    rw [lp33_0, List.length_map, ltI_f (by omega), List.take_of_length_le (by omega)]; rfl
  | k + 1, i, hi => by
    have ih := l_RImage b up ws l h hl hk k (i + 1) (by omega)
    have hlt : i < ws.length := by omega
    have hw := h _ (mem_getD ws 0 i hlt)
    have e1 : IntKind.i64.wrap ((i : Int) + 1) = ((i + 1 : Nat) : Int) := by rw [w_i64]; omega
    have a := s_Little (ws.getD i 0).toNat
    rw [show (((ws.getD i 0).toNat : Nat) : Int) = ws.getD i 0 by omega] at a
    have e2 : bts (l ++ body (ws.take i)) ++ bts (little (ws.getD i 0).toNat) = bts (l ++ body (ws.take (i + 1))) := by
      rw [bts_app, List.append_assoc, ← body_snoc, ← take_succD ws i hlt]
    have e3 : leN (((bts (l ++ body (ws.take i))).length + (bts (little (ws.getD i 0).toNat)).length) * 1) 140737488355328 = true := leN_t (by
      rw [bts_len, bts_len, List.length_append, body_len, List.length_take, little_len]; omega)
    rw [lp33_0, List.length_map, ltI_t (by omega), leI_t (by omega), Int.toNat_natCast, get_wr ws i hlt, e1]
    simp only [wr_eq, cellAt_zero, isI_v, avInt_v, cond_true, Bool.and_self]
    refine bnd a ?_
    simp -implicitDefEqProofs only [some_bind', obCells_agg, obCells_ob, isOb_ok, isL_ok, isOw_ok, avXs_lst, avXs_ow, avNil_lst, avNil_ow, avNil_sl, avOff_sl, avCut_sl, isAgg_agg, nat_beq_self, List.length_cons, List.length_nil, Nat.reduceAdd, Nat.zero_add, isI_v, isB_v, isS_v, avInt_v, avBool_v, avStr_v, cellAt_zero, cellAt_succ, lget_zero, lget_succ, frAt_zero, frAt_succ, blAt_zero, blAt_succ, isEx_ok, isEx_ne, isEx_none, isRt_some, isRt_none, like_st, likeFG_nil, likeFG_cons, likeBG_nil, likeBG_obj, likeBG_row, likeSG_nil, likeSG_cons, likeT_nil, likeS_nil, isNP_nil, isNP_ob, likeT_ep, isEp_ep, epCells_ep, likeT_agg, likeT_int, likeT_bool, likeT_str, likeT_lst, likeT_sl0, likeT_sl1, likeT_ptr, likeS_int, likeS_bool, likeS_str, likeS_lst, likeS_sl0, likeS_sl1, likeS_ptr, isPtr_ok, isSl_0, isSl_1, beq_self_b, Bool.and_self, Bool.and_true, Bool.true_and, Bool.and_false, Bool.false_and, cond_true, cond_false, Bool.not_true, Bool.not_false, e3, e2, Bool.and_false]
    exact ih
theorem s_RImage (b : Bool) (ws : List Int) (up : Bool) (h : Wok ws) (hl : ws.length ≤ 100000) : ev 33 [.ep [.lst b 1 (ws.map wr), .v (.bool up)] 0] = some [.ow false 5 1 (bts (img ws up))] := by
  have e0 : IntKind.i64.wrap (Int.tdiv (ws.length : Int) 8) = ((ws.length / 8 : Nat) : Int) := by rw [tdiv_pos _ _ (by omega), w_i64]; omega
  have e1 : IntKind.u8.wrap ((ws.length / 8 : Nat) : Int) = ((ws.length / 8 % 256 : Nat) : Int) := by rw [w_u8]; rfl
  have e2 : Int.fdiv ((ws.length / 8 : Nat) : Int) 256 = ((ws.length / 8 / 256 : Nat) : Int) := fdiv_nat _ 256
  have e3 : IntKind.u8.wrap ((ws.length / 8 / 256 : Nat) : Int) = ((ws.length / 8 / 256 % 256 : Nat) : Int) := by rw [w_u8]; rfl
  rw [ev33]
  simp only [e0, e1, e2, e3, List.length_map]
  have fin : ∀ up : Bool, (ev 41 [.lst false 1 (bts (pre ws up))]) = some [.v (.int .u64 (crcX 0 (pre ws up) : Nat))] := fun up => s_RBytes false _ (by rw [pre_len]; omega) (pre_lt ws up)
  have fin2 : ∀ up : Bool, ev 40 [.v (.int .u64 (crcX 0 (pre ws up) : Nat))] = some [.ow false 5 1 (bts (little (crcX 0 (pre ws up))))] := fun up => s_Little _
  have fin3 : ∀ up : Bool, leN (((bts (pre ws up)).length + (bts (little (crcX 0 (pre ws up)))).length) * 1) 140737488355328 = true := fun up => leN_t (by rw [bts_len, bts_len, pre_len, little_len]; omega)
  have fin4 : ∀ up : Bool, bts (pre ws up) ++ bts (little (crcX 0 (pre ws up))) = bts (img ws up) := fun up => bts_app _ _
  cases up with
  | false =>
    have hb0 : bts (hdr (ws.length / 8) false ++ body (ws.take 0)) = [[.v (.int .u8 77)], [.v (.int .u8 69)], [.v (.int .u8 77)], [.v (.int .u8 49)], [.v (.int .u8 ((ws.length / 8 % 256 : Nat) : Int))], [.v (.int .u8 ((ws.length / 8 / 256 % 256 : Nat) : Int))], [.v (.int .u8 0)]] := rfl
    have lp0 := l_RImage b false ws (hdr (ws.length / 8) false) h hl (show 7 ≤ 100 by decide) ws.length 0 (by omega)
    rw [hb0] at lp0
    refine bnd (a := ⟨some 0, ⟨[(4, (.sl false 0 0 none))], [⟨1, 5, 1, false, bts (pre ws false)⟩]⟩, []⟩) lp0 ?_
    simp -implicitDefEqProofs only [some_bind', obCells_agg, obCells_ob, isOb_ok, isL_ok, isOw_ok, avXs_lst, avXs_ow, avNil_lst, avNil_ow, avNil_sl, avOff_sl, avCut_sl, isAgg_agg, nat_beq_self, List.length_cons, List.length_nil, Nat.reduceAdd, Nat.zero_add, isI_v, isB_v, isS_v, avInt_v, avBool_v, avStr_v, cellAt_zero, cellAt_succ, lget_zero, lget_succ, frAt_zero, frAt_succ, blAt_zero, blAt_succ, isEx_ok, isEx_ne, isEx_none, isRt_some, isRt_none, like_st, likeFG_nil, likeFG_cons, likeBG_nil, likeBG_obj, likeBG_row, likeSG_nil, likeSG_cons, likeT_nil, likeS_nil, isNP_nil, isNP_ob, likeT_ep, isEp_ep, epCells_ep, likeT_agg, likeT_int, likeT_bool, likeT_str, likeT_lst, likeT_sl0, likeT_sl1, likeT_ptr, likeS_int, likeS_bool, likeS_str, likeS_lst, likeS_sl0, likeS_sl1, likeS_ptr, isPtr_ok, isSl_0, isSl_1, beq_self_b, Bool.and_self, Bool.and_true, Bool.true_and, Bool.and_false, Bool.false_and, cond_true, cond_false, Bool.not_true, Bool.not_false, fin, fin2, fin3, fin4]
  | true =>
    have hb0 : bts (hdr (ws.length / 8) true ++ body (ws.take 0)) = [[.v (.int .u8 77)], [.v (.int .u8 69)], [.v (.int .u8 77)], [.v (.int .u8 49)], [.v (.int .u8 ((ws.length / 8 % 256 : Nat) : Int))], [.v (.int .u8 ((ws.length / 8 / 256 % 256 : Nat) : Int))], [.v (.int .u8 1)]] := rfl
    have lp0 := l_RImage b true ws (hdr (ws.length / 8) true) h hl (show 7 ≤ 100 by decide) ws.length 0 (by omega)
    rw [hb0] at lp0
    refine bnd (a := ⟨some 0, ⟨[(4, (.sl false 0 0 none))], [⟨1, 5, 1, false, bts (pre ws true)⟩]⟩, []⟩) lp0 ?_
    simp -implicitDefEqProofs only [some_bind', obCells_agg, obCells_ob, isOb_ok, isL_ok, isOw_ok, avXs_lst, avXs_ow, avNil_lst, avNil_ow, avNil_sl, avOff_sl, avCut_sl, isAgg_agg, nat_beq_self, List.length_cons, List.length_nil, Nat.reduceAdd, Nat.zero_add, isI_v, isB_v, isS_v, avInt_v, avBool_v, avStr_v, cellAt_zero, cellAt_succ, lget_zero, lget_succ, frAt_zero, frAt_succ, blAt_zero, blAt_succ, isEx_ok, isEx_ne, isEx_none, isRt_some, isRt_none, like_st, likeFG_nil, likeFG_cons, likeBG_nil, likeBG_obj, likeBG_row, likeSG_nil, likeSG_cons, likeT_nil, likeS_nil, isNP_nil, isNP_ob, likeT_ep, isEp_ep, epCells_ep, likeT_agg, likeT_int, likeT_bool, likeT_str, likeT_lst, likeT_sl0, likeT_sl1, likeT_ptr, likeS_int, likeS_bool, likeS_str, likeS_lst, likeS_sl0, likeS_sl1, likeS_ptr, isPtr_ok, isSl_0, isSl_1, beq_self_b, Bool.and_self, Bool.and_true, Bool.true_and, Bool.and_false, Bool.false_and, cond_true, cond_false, Bool.not_true, Bool.not_false, fin, fin2, fin3, fin4]
theorem s_SameImage (b c : Bool) (l : List Nat) (ws : List Int) (up : Bool) (h : Wok ws) (hl : ws.length ≤ 100000) : ev 23 [.lst c 1 (bts l), .ep [.lst b 1 (ws.map wr), .v (.bool up)] 0] =
    some [.v (.bool (ByteArray.toList ⟨(List.map Ev.byteOf (bts l)).toArray⟩ == ByteArray.toList ⟨(List.map Ev.byteOf (bts (img ws up))).toArray⟩))] := by
  rw [ev23, all_bts]
  refine bnd (s_RImage b ws up h hl) ?_
  simp -implicitDefEqProofs only [some_bind', obCells_agg, obCells_ob, isOb_ok, isL_ok, isOw_ok, avXs_lst, avXs_ow, avNil_lst, avNil_ow, avNil_sl, avOff_sl, avCut_sl, isAgg_agg, nat_beq_self, List.length_cons, List.length_nil, Nat.reduceAdd, Nat.zero_add, isI_v, isB_v, isS_v, avInt_v, avBool_v, avStr_v, cellAt_zero, cellAt_succ, lget_zero, lget_succ, frAt_zero, frAt_succ, blAt_zero, blAt_succ, isEx_ok, isEx_ne, isEx_none, isRt_some, isRt_none, like_st, likeFG_nil, likeFG_cons, likeBG_nil, likeBG_obj, likeBG_row, likeSG_nil, likeSG_cons, likeT_nil, likeS_nil, isNP_nil, isNP_ob, likeT_ep, isEp_ep, epCells_ep, likeT_agg, likeT_int, likeT_bool, likeT_str, likeT_lst, likeT_sl0, likeT_sl1, likeT_ptr, likeS_int, likeS_bool, likeS_str, likeS_lst, likeS_sl0, likeS_sl1, likeS_ptr, isPtr_ok, isSl_0, isSl_1, beq_self_b, Bool.and_self, Bool.and_true, Bool.true_and, Bool.and_false, Bool.false_and, cond_true, cond_false, Bool.not_true, Bool.not_false, all_bts]
theorem s_SameImg (b c : Bool) (ws : List Int) (up : Bool) (h : Wok ws) (hl : ws.length ≤ 100000) : ev 23 [.lst c 1 (bts (img ws up)), .ep [.lst b 1 (ws.map wr), .v (.bool up)] 0] = some [.v (.bool true)] := by
  rw [s_SameImage b c _ ws up h hl, beq_self_eq_true]
end Go.Proofs.Ytokagdgcfmjlnaa
