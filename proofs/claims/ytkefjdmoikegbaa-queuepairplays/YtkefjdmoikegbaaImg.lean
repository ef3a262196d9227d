/- Images of the node. -/
import Derived.Test.YtkefjdmoikegbaaPlays
set_option linter.all false
namespace Go.Proofs.Ytkefjdmoikegbaa
open Go.Ev Go.RowKit
attribute [local congr] bind_first cond_first
theorem drop_cons (l : List Nat) (i : Nat) (h : i < l.length) : l.drop i = l.getD i 0 :: l.drop (i + 1) := by
  rw [List.drop_eq_getElem_cons h]; simp [h]
theorem tab_get (i : Nat) (h : i < 256) : cellAt tabL i = .v (.int .u64 (step8 i : Nat)) := by
  rw [tabL_eq, cellAt, List.getD_eq_getElem?_getD, List.getElem?_map, List.getElem?_range h]; rfl
theorem upd_split (r x : Nat) (hx : x < 256) : r / 256 ^^^ step8 (r % 256 ^^^ x) = upd r x := by
  unfold upd
  rw [step8_split (r ^^^ x)]
  have h1 : (r ^^^ x) / 256 = r / 256 := by
    have : (r ^^^ x) / 2 ^ 8 = r / 2 ^ 8 ^^^ x / 2 ^ 8 := Nat.xor_div_two_pow
    rw [show x / 2 ^ 8 = 0 by omega, Nat.xor_zero] at this
    exact this
  have h2 : (r ^^^ x) % 256 = r % 256 ^^^ x := by
    have : (r ^^^ x) % 2 ^ 8 = r % 2 ^ 8 ^^^ x % 2 ^ 8 := Nat.xor_mod_two_pow
    rw [show x % 2 ^ 8 = x by omega] at this
    exact this
  rw [h1, h2]
theorem l_add (b : Bool) (l : List Nat) (hl : l.length ≤ 1000000) (hb : ∀ x ∈ l, x < 256) : ∀ (k i r : Nat), i + k = l.length → r < 2 ^ 64 →
    lp 88 0 0 ⟨[(0, (.v (.int .u64 (r : Int)))), (1, (.ep tabL 0)), (9, (.lst b 1 (bts l))), (10, (.v (.int .i64 (l.length : Int)))), (11, (.v (.int .i64 (i : Int))))], []⟩ =
      some ⟨some 0, ⟨[(0, (.v (.int .u64 (crcR r (l.drop i) : Nat))))], []⟩, []⟩
  | 0, i, r, hi, hr => by rw [lp88_0, ltI_f (by omega), List.drop_of_length_le (by omega)]; rfl
  | k + 1, i, r, hi, hr => by
    have hlt : i < l.length := by omega
    have hx := hb _ (mem_getD l 0 i hlt)
    have ih := l_add b l hl hb k (i + 1) (upd r (l.getD i 0)) (by omega) (upd_lt hr hx)
    rw [lp88_0, ltI_t (by omega), leI_t (by omega), bts_len, ltI_t (by omega), Int.toNat_natCast, get_bts l i hlt, drop_cons l i hlt]
    generalize l.getD i 0 = x at *
    have e0 : IntKind.u8.wrap (r : Int) = ((r % 256 : Nat) : Int) := by rw [w_u8]; rfl
    have hx2 : r % 256 ^^^ x < 2 ^ 8 := Nat.xor_lt_two_pow (by omega) (by omega)
    have e1 : bits .xor .u8 ((r % 256 : Nat) : Int) (x : Int) = ((r % 256 ^^^ x : Nat) : Int) := xor_u8 _ _ (by omega) hx
    have e2 : Int.fdiv (r : Int) 256 = ((r / 256 : Nat) : Int) := fdiv_nat r 256
    have e3 : IntKind.i64.wrap ((i : Int) + 1) = ((i + 1 : Nat) : Int) := by rw [w_i64]; omega
    have e4 : bits .xor .u64 ((r / 256 : Nat) : Int) ((step8 (r % 256 ^^^ x) : Nat) : Int) = ((r / 256 ^^^ step8 (r % 256 ^^^ x) : Nat) : Int) := xor_u64 _ _ (by omega) (step8_lt (byte_lt hx2))
    have e5 : 0 + (r % 256 ^^^ x) * 1 = r % 256 ^^^ x := by omega
    simp only [bt, cellAt_zero, isI_v, avInt_v, cond_true, e0, e1, e2, e3, Int.toNat_natCast, e5, tab_get _ hx2, leI_t (show (0 : Int) ≤ ((r % 256 ^^^ x : Nat) : Int) by omega), ltI_t (show ((r % 256 ^^^ x : Nat) : Int) < 256 by omega), Bool.and_self, e4]
    rw [upd_split r x hx]
    exact ih
set_option maxRecDepth 100000 in
theorem s_Extend (b : Bool) (s : Nat) (l : List Nat) (hs : s < 2 ^ 64) (hl : l.length ≤ 1000000) (hb : ∀ x ∈ l, x < 256) : ev 81 [.v (.int .u64 (s : Int)), .lst b 1 (bts l)] = some [.v (.int .u64 (crcX s l : Nat))] := by
  have hs2 : ones ^^^ s < 2 ^ 64 := Nat.xor_lt_two_pow ones_lt hs
  have e : bits .xor .u64 18446744073709551615 (s : Int) = ((ones ^^^ s : Nat) : Int) := xor_u64 ones s ones_lt hs
  have h := l_add b l hl hb l.length 0 (ones ^^^ s) (by omega) hs2
  have h2 : ev 88 [.v (.int .u64 (ones ^^^ s : Nat)), .ep tabL 0, .lst b 1 (bts l)] = some [.v (.int .u64 (crcR (ones ^^^ s) l : Nat))] := by
    rw [ev88, bts_len]
    exact bnd h rfl
  refine (ev81 _ _ _).trans ?_
  rw [e]
  refine bnd h2 ?_
  have e2 : bits .xor .u64 18446744073709551615 ((crcR (ones ^^^ s) l : Nat) : Int) = ((crcX s l : Nat) : Int) := xor_u64 ones _ ones_lt (crcR_lt hs2 hb)
  show some [AV.v (.int .u64 (bits .xor .u64 18446744073709551615 ((crcR (ones ^^^ s) l : Nat) : Int)))] = _
  rw [e2]
theorem s_Bytes (b : Bool) (l : List Nat) (hl : l.length ≤ 1000000) (hb : ∀ x ∈ l, x < 256) : ev 55 [.lst b 1 (bts l)] = some [.v (.int .u64 (crcX 0 l : Nat))] := by
  rw [ev55]
  exact bnd (s_Extend b 0 l (by decide) hl hb) rfl
theorem l_RExtend1 (b : Bool) (xs : List (List AV)) (x6 : Int) : ∀ (k j r : Nat), j + k = 8 → r < 2 ^ 64 →
    lp 86 1 0 ⟨[(1, (.lst b 1 xs)), (5, (.v (.int .u64 (r : Int)))), (6, (.v (.int .i64 x6))), (7, (.v (.int .i64 (j : Int))))], []⟩ =
      some ⟨some 2, ⟨[(1, (.lst b 1 xs)), (5, (.v (.int .u64 (stepK k r : Nat)))), (6, (.v (.int .i64 x6)))], []⟩, []⟩
  | 0, j, r, hj, hr => by rw [lp86_1, ltI_f (by omega)]; rfl
  | k + 1, j, r, hj, hr => by
    have ih := l_RExtend1 b xs x6 k (j + 1) (step1 r) (by omega) (step1_lt hr)
    have e1 : IntKind.i64.wrap ((j : Int) + 1) = ((j + 1 : Nat) : Int) := by rw [w_i64]; omega
    have e2 : bits .and .u64 (r : Int) 1 = ((r % 2 : Nat) : Int) := by
      rw [and_u64 1 (by decide) _ 1 (by decide) (by omega) (by omega)]; omega
    have e3 : Int.fdiv (r : Int) 2 = ((r / 2 : Nat) : Int) := fdiv_nat r 2
    have e4 : bits .xor .u64 ((r / 2 : Nat) : Int) 14514072000185962306 = ((r / 2 ^^^ poly : Nat) : Int) := xor_u64 (r / 2) poly (by omega) poly_lt
    rw [lp86_1, ltI_t (by omega), e1, e2, e3, e4]
    simp only [stepK]
    by_cases h : r % 2 = 1
    · rw [step1_eq, if_pos h] at ih ⊢
      rw [h]; exact ih
    · rw [step1_eq, if_neg h] at ih ⊢
      rw [beq_eq_false_iff_ne.2 (show ((r % 2 : Nat) : Int) ≠ 1 by omega)]; exact ih
theorem l_RExtend0 (b : Bool) (l : List Nat) (hl : l.length ≤ 1000000) (hb : ∀ x ∈ l, x < 256) : ∀ (k i r : Nat), i + k = l.length → r < 2 ^ 64 →
    lp 86 0 0 ⟨[(1, (.lst b 1 (bts l))), (5, (.v (.int .u64 (r : Int)))), (6, (.v (.int .i64 (i : Int))))], []⟩ =
      some ⟨some 0, ⟨[(5, (.v (.int .u64 (crcR r (l.drop i) : Nat))))], []⟩, []⟩
  | 0, i, r, hi, hr => by rw [lp86_0, bts_len, ltI_f (by omega), List.drop_of_length_le (by omega)]; rfl
  | k + 1, i, r, hi, hr => by
    have hlt : i < l.length := by omega
    have hx := hb _ (mem_getD l 0 i hlt)
    have ih := l_RExtend0 b l hl hb k (i + 1) (upd r (l.getD i 0)) (by omega) (upd_lt hr hx)
    rw [lp86_0, bts_len, ltI_t (by omega), leI_t (by omega), Int.toNat_natCast, get_bts l i hlt, drop_cons l i hlt]
    generalize l.getD i 0 = x at *
    have e0 : IntKind.u64.wrap (x : Int) = (x : Int) := by rw [w_u64]; omega
    have e4 : bits .xor .u64 (r : Int) (x : Int) = ((r ^^^ x : Nat) : Int) := xor_u64 _ _ hr (byte_lt hx)
    have e3 : IntKind.i64.wrap ((i : Int) + 1) = ((i + 1 : Nat) : Int) := by rw [w_i64]; omega
    have a := l_RExtend1 b (bts l) (i : Int) 8 0 (r ^^^ x) (by omega) (Nat.xor_lt_two_pow hr (byte_lt hx))
    simp only [bt, cellAt_zero, isI_v, avInt_v, cond_true, Bool.and_self, e0, e4]
    refine bnd a ?_
    have e5 : stepK 8 (r ^^^ x) = upd r x := rfl
    simp -implicitDefEqProofs only [some_bind', obCells_agg, obCells_ob, isOb_ok, isL_ok, isOw_ok, avXs_lst, avXs_ow, avNil_lst, avNil_ow, avNil_sl, avOff_sl, avCut_sl, isAgg_agg, nat_beq_self, List.length_cons, List.length_nil, Nat.reduceAdd, Nat.zero_add, isI_v, isB_v, isS_v, avInt_v, avBool_v, avStr_v, cellAt_zero, cellAt_succ, lget_zero, lget_succ, frAt_zero, frAt_succ, blAt_zero, blAt_succ, isEx_ok, isEx_ne, isEx_none, isRt_some, isRt_none, like_st, likeFG_nil, likeFG_cons, likeBG_nil, likeBG_obj, likeBG_row, likeSG_nil, likeSG_cons, likeT_nil, likeS_nil, isNP_nil, isNP_ob, likeT_ep, isEp_ep, epCells_ep, likeT_agg, likeT_int, likeT_bool, likeT_str, likeT_lst, likeT_sl0, likeT_sl1, likeT_ptr, likeS_int, likeS_bool, likeS_str, likeS_lst, likeS_sl0, likeS_sl1, likeS_ptr, isPtr_ok, isSl_0, isSl_1, beq_self_b, Bool.and_self, Bool.and_true, Bool.true_and, Bool.and_false, Bool.false_and, cond_true, cond_false, Bool.not_true, Bool.not_false, e3, e5]
    exact ih
theorem s_RExtend (b : Bool) (s : Nat) (l : List Nat) (hs : s < 2 ^ 64) (hl : l.length ≤ 1000000) (hb : ∀ x ∈ l, x < 256) : ev 86 [.v (.int .u64 (s : Int)), .lst b 1 (bts l)] = some [.v (.int .u64 (crcX s l : Nat))] := by
  have hs2 : ones ^^^ s < 2 ^ 64 := Nat.xor_lt_two_pow ones_lt hs
  have e : bits .xor .u64 18446744073709551615 (s : Int) = ((ones ^^^ s : Nat) : Int) := xor_u64 ones s ones_lt hs
  have h := l_RExtend0 b l hl hb l.length 0 (ones ^^^ s) (by omega) hs2
  rw [ev86, e]
  refine bnd h ?_
  have e2 : bits .xor .u64 18446744073709551615 ((crcR (ones ^^^ s) l : Nat) : Int) = ((crcX s l : Nat) : Int) := xor_u64 ones _ ones_lt (crcR_lt hs2 hb)
  show some [AV.v (.int .u64 (bits .xor .u64 18446744073709551615 ((crcR (ones ^^^ s) l : Nat) : Int)))] = _
  rw [e2]
theorem s_RBytes (b : Bool) (l : List Nat) (hl : l.length ≤ 1000000) (hb : ∀ x ∈ l, x < 256) : ev 80 [.lst b 1 (bts l)] = some [.v (.int .u64 (crcX 0 l : Nat))] := by
  rw [ev80]
  exact bnd (s_RExtend b 0 l (by decide) hl hb) rfl
theorem s_appendWord (b : Bool) (l : List Nat) (w : Nat) (hl : l.length ≤ 1000000) : ev 54 [.ow b 5 1 (bts l), .v (.int .u64 (w : Int))] = some [.ow false 5 1 (bts (l ++ little w))] := by
  have d : ∀ n : Nat, Int.fdiv (n : Int) 256 = ((n / 256 : Nat) : Int) := fun n => fdiv_nat n 256
  have m : ∀ n : Nat, IntKind.u8.wrap (n : Int) = ((n % 256 : Nat) : Int) := fun n => by rw [w_u8]; rfl
  have hle : ∀ j : Nat, j ≤ 8 → leN ((l.length + j + 1) * 1) 140737488355328 = true := fun j hj => leN_t (by omega)
  have h0 : leN ((l.length + 1) * 1) 140737488355328 = true := leN_t (by omega)
  rw [ev54]
  simp only [d, m, List.length_append, List.length_cons, List.length_nil, bts_len, Nat.zero_add, Nat.add_assoc, Nat.reduceAdd]
  have h : ∀ j : Nat, j ≤ 9 → leN ((l.length + j) * 1) 140737488355328 = true := fun j hj => leN_t (by omega)
  rw [h 1 (by omega), h 2 (by omega), h 3 (by omega), h 4 (by omega), h 5 (by omega), h 6 (by omega), h 7 (by omega), h 8 (by omega)]
  simp only [cond_true, List.append_assoc]
  unfold bts
  rw [List.map_append]
  rfl
def body (ws : List Int) : List Nat := ws.flatMap fun w => little w.toNat
theorem body_snoc (ws : List Int) (w : Int) : body (ws ++ [w]) = body ws ++ little w.toNat := by
  unfold body; rw [List.flatMap_append]; simp
theorem little_len (w : Nat) : (little w).length = 8 := rfl
theorem body_len : ∀ ws : List Int, (body ws).length = 8 * ws.length
  | [] => rfl
  | w :: ws => by
    have := body_len ws
    unfold body at *
    rw [List.flatMap_cons, List.length_append, this, little_len, List.length_cons]; omega
theorem little_lt (w : Nat) : ∀ x ∈ little w, x < 256 := by
  intro x hx
  unfold little at hx
  simp only [List.mem_cons, List.not_mem_nil, or_false] at hx
  omega
theorem body_lt (ws : List Int) : ∀ x ∈ body ws, x < 256 := fun x hx => by
  unfold body at hx
  obtain ⟨w, _, hw⟩ := List.mem_flatMap.1 hx
  exact little_lt _ x hw
theorem take_succD (ws : List Int) (i : Nat) (h : i < ws.length) : ws.take (i + 1) = ws.take i ++ [ws.getD i 0] := by
  rw [List.take_succ_eq_append_getElem h]; simp [h]
def hdr (n : Nat) (up : Bool) : List Nat := [77, 69, 77, 49, n % 256, n / 256 % 256, bif up then 1 else 0]
theorem hdr_lt (n : Nat) (up : Bool) : ∀ x ∈ hdr n up, x < 256 := by
  intro x hx
  unfold hdr at hx
  simp only [List.mem_cons, List.not_mem_nil, or_false] at hx
  cases up <;> simp only [cond_true, cond_false] at hx <;> omega
def pre (ws : List Int) (up : Bool) : List Nat := hdr (ws.length / 8) up ++ body ws
def img (ws : List Int) (up : Bool) : List Nat := pre ws up ++ little (crcX 0 (pre ws up))
theorem pre_lt (ws : List Int) (up : Bool) : ∀ x ∈ pre ws up, x < 256 := fun x hx => by
  rcases List.mem_append.1 hx with h | h
  · exact hdr_lt _ _ x h
  · exact body_lt _ x h
theorem pre_len (ws : List Int) (up : Bool) : (pre ws up).length = 7 + 8 * ws.length := by
  unfold pre; rw [List.length_append, body_len]; rfl
theorem bts_app (a b : List Nat) : bts a ++ bts b = bts (a ++ b) := by unfold bts; rw [List.map_append]
theorem all_bts (l : List Nat) : (bts l).all Ev.isByte = true := by
  unfold bts
  simp only [List.all_map, List.all_eq_true]
  exact fun _ _ => rfl
theorem all_btsV (l : List Nat) : (bts l).all rowV = true := by
  unfold bts
  simp only [List.all_map, List.all_eq_true]
  exact fun _ _ => rfl
theorem l_Image (b : Bool) (ws : List Int) (l : List Nat) (h : Wok ws) (hl : ws.length ≤ 100000) (hk : l.length ≤ 100) : ∀ (k i : Nat), i + k = ws.length →
    lp 25 0 0 ⟨[(3, (.sl false 0 0 none)), (26, (.lst b 1 (ws.map wr))), (27, (.v (.int .i64 (ws.length : Int)))), (28, (.v (.int .i64 (i : Int))))], [⟨1, 5, 1, false, bts (l ++ body (ws.take i))⟩]⟩ =
      some ⟨some 0, ⟨[(3, (.sl false 0 0 none))], [⟨1, 5, 1, false, bts (l ++ body ws)⟩]⟩, []⟩
  | 0, i, hi => by
    rw [lp25_0, ltI_f (by omega), List.take_of_length_le (by omega)]; rfl
  | k + 1, i, hi => by
    have ih := l_Image b ws l h hl hk k (i + 1) (by omega)
    have hlt : i < ws.length := by omega
    have hw := h _ (mem_getD ws 0 i hlt)
    have e1 : IntKind.i64.wrap ((i : Int) + 1) = ((i + 1 : Nat) : Int) := by rw [w_i64]; omega
    have a := s_appendWord false (l ++ body (ws.take i)) (ws.getD i 0).toNat (by rw [List.length_append, body_len, List.length_take]; omega)
    rw [show (((ws.getD i 0).toNat : Nat) : Int) = ws.getD i 0 by omega, List.append_assoc, ← body_snoc, ← take_succD ws i hlt] at a
    rw [lp25_0, ltI_t (by omega), leI_t (by omega), List.length_map, ltI_t (by omega), Int.toNat_natCast, get_wr ws i hlt, e1]
    simp only [wr_eq, cellAt_zero, isI_v, avInt_v, cond_true, Bool.and_self]
    refine bnd a ?_
    simp -implicitDefEqProofs only [some_bind', obCells_agg, obCells_ob, isOb_ok, isL_ok, isOw_ok, avXs_lst, avXs_ow, avNil_lst, avNil_ow, avNil_sl, avOff_sl, avCut_sl, isAgg_agg, nat_beq_self, List.length_cons, List.length_nil, Nat.reduceAdd, Nat.zero_add, isI_v, isB_v, isS_v, avInt_v, avBool_v, avStr_v, cellAt_zero, cellAt_succ, lget_zero, lget_succ, frAt_zero, frAt_succ, blAt_zero, blAt_succ, isEx_ok, isEx_ne, isEx_none, isRt_some, isRt_none, like_st, likeFG_nil, likeFG_cons, likeBG_nil, likeBG_obj, likeBG_row, likeSG_nil, likeSG_cons, likeT_nil, likeS_nil, isNP_nil, isNP_ob, likeT_ep, isEp_ep, epCells_ep, likeT_agg, likeT_int, likeT_bool, likeT_str, likeT_lst, likeT_sl0, likeT_sl1, likeT_ptr, likeS_int, likeS_bool, likeS_str, likeS_lst, likeS_sl0, likeS_sl1, likeS_ptr, isPtr_ok, isSl_0, isSl_1, beq_self_b, Bool.and_self, Bool.and_true, Bool.true_and, Bool.and_false, Bool.false_and, cond_true, cond_false, Bool.not_true, Bool.not_false]
    exact ih
theorem s_Image (ws : List Int) (dn : Bool) (h : Wok ws) (hl : ws.length ≤ 100000) : ev 25 [ndP ws dn] = some [.ow false 5 1 (bts (img ws (!dn)))] := by
  have a := s_Lines false (ws.map wr) dn (by rw [List.length_map]; exact hl)
  rw [List.length_map] at a
  have e1 : IntKind.u8.wrap ((ws.length / 8 : Nat) : Int) = ((ws.length / 8 % 256 : Nat) : Int) := by rw [w_u8]; rfl
  have e2 : Int.fdiv ((ws.length / 8 : Nat) : Int) 256 = ((ws.length / 8 / 256 : Nat) : Int) := fdiv_nat _ 256
  have e3 : IntKind.u8.wrap ((ws.length / 8 / 256 : Nat) : Int) = ((ws.length / 8 / 256 % 256 : Nat) : Int) := by rw [w_u8]; rfl
  rw [ev25]
  refine bnd a ?_
  simp only [cellAt_zero, isI_v, cond_true]
  refine bnd a ?_
  simp only [cellAt_zero, isI_v, cond_true, avInt_v, e1, e2, e3, List.length_map]
  have fin : ∀ up : Bool, (ev 55 [.lst false 1 (bts (pre ws up))]) = some [.v (.int .u64 (crcX 0 (pre ws up) : Nat))] := fun up => s_Bytes false _ (by rw [pre_len]; omega) (pre_lt ws up)
  have fin2 : ∀ up : Bool, ev 54 [.ow false 5 1 (bts (pre ws up)), .v (.int .u64 (crcX 0 (pre ws up) : Nat))] = some [.ow false 5 1 (bts (img ws up))] := fun up => s_appendWord false _ _ (by rw [pre_len]; omega)
  cases dn with
  | true =>
    have hb0 : bts (hdr (ws.length / 8) false ++ body (ws.take 0)) = [[.v (.int .u8 77)], [.v (.int .u8 69)], [.v (.int .u8 77)], [.v (.int .u8 49)], [.v (.int .u8 ((ws.length / 8 % 256 : Nat) : Int))], [.v (.int .u8 ((ws.length / 8 / 256 % 256 : Nat) : Int))], [.v (.int .u8 0)]] := rfl
    have lp0 := l_Image false ws (hdr (ws.length / 8) false) h hl (show 7 ≤ 100 by decide) ws.length 0 (by omega)
    rw [hb0] at lp0
    refine bnd (a := ⟨some 0, ⟨[(3, (.sl false 0 0 none))], [⟨1, 5, 1, false, bts (pre ws false)⟩]⟩, []⟩) lp0 ?_
    simp -implicitDefEqProofs only [some_bind', obCells_agg, obCells_ob, isOb_ok, isL_ok, isOw_ok, avXs_lst, avXs_ow, avNil_lst, avNil_ow, avNil_sl, avOff_sl, avCut_sl, isAgg_agg, nat_beq_self, List.length_cons, List.length_nil, Nat.reduceAdd, Nat.zero_add, isI_v, isB_v, isS_v, avInt_v, avBool_v, avStr_v, cellAt_zero, cellAt_succ, lget_zero, lget_succ, frAt_zero, frAt_succ, blAt_zero, blAt_succ, isEx_ok, isEx_ne, isEx_none, isRt_some, isRt_none, like_st, likeFG_nil, likeFG_cons, likeBG_nil, likeBG_obj, likeBG_row, likeSG_nil, likeSG_cons, likeT_nil, likeS_nil, isNP_nil, isNP_ob, likeT_ep, isEp_ep, epCells_ep, likeT_agg, likeT_int, likeT_bool, likeT_str, likeT_lst, likeT_sl0, likeT_sl1, likeT_ptr, likeS_int, likeS_bool, likeS_str, likeS_lst, likeS_sl0, likeS_sl1, likeS_ptr, isPtr_ok, isSl_0, isSl_1, beq_self_b, Bool.and_self, Bool.and_true, Bool.true_and, Bool.and_false, Bool.false_and, cond_true, cond_false, Bool.not_true, Bool.not_false, fin, fin2, Bool.not_true]
  | false =>
    have hb0 : bts (hdr (ws.length / 8) true ++ body (ws.take 0)) = [[.v (.int .u8 77)], [.v (.int .u8 69)], [.v (.int .u8 77)], [.v (.int .u8 49)], [.v (.int .u8 ((ws.length / 8 % 256 : Nat) : Int))], [.v (.int .u8 ((ws.length / 8 / 256 % 256 : Nat) : Int))], [.v (.int .u8 1)]] := rfl
    have lp0 := l_Image false ws (hdr (ws.length / 8) true) h hl (show 7 ≤ 100 by decide) ws.length 0 (by omega)
    rw [hb0] at lp0
    refine bnd (a := ⟨some 0, ⟨[(3, (.sl false 0 0 none))], [⟨1, 5, 1, false, bts (pre ws true)⟩]⟩, []⟩) lp0 ?_
    simp -implicitDefEqProofs only [some_bind', obCells_agg, obCells_ob, isOb_ok, isL_ok, isOw_ok, avXs_lst, avXs_ow, avNil_lst, avNil_ow, avNil_sl, avOff_sl, avCut_sl, isAgg_agg, nat_beq_self, List.length_cons, List.length_nil, Nat.reduceAdd, Nat.zero_add, isI_v, isB_v, isS_v, avInt_v, avBool_v, avStr_v, cellAt_zero, cellAt_succ, lget_zero, lget_succ, frAt_zero, frAt_succ, blAt_zero, blAt_succ, isEx_ok, isEx_ne, isEx_none, isRt_some, isRt_none, like_st, likeFG_nil, likeFG_cons, likeBG_nil, likeBG_obj, likeBG_row, likeSG_nil, likeSG_cons, likeT_nil, likeS_nil, isNP_nil, isNP_ob, likeT_ep, isEp_ep, epCells_ep, likeT_agg, likeT_int, likeT_bool, likeT_str, likeT_lst, likeT_sl0, likeT_sl1, likeT_ptr, likeS_int, likeS_bool, likeS_str, likeS_lst, likeS_sl0, likeS_sl1, likeS_ptr, isPtr_ok, isSl_0, isSl_1, beq_self_b, Bool.and_self, Bool.and_true, Bool.true_and, Bool.and_false, Bool.false_and, cond_true, cond_false, Bool.not_true, Bool.not_false, fin, fin2, Bool.not_false]
theorem lit_shift (w m : Nat) : IntKind.u8.wrap (Int.fdiv (w : Int) (m : Int)) = ((w / m % 256 : Nat) : Int) := by
  rw [fdiv_nat, w_u8]; rfl
theorem little_shift (w : Nat) : little w = [w / 1 % 256, w / 256 % 256, w / 65536 % 256, w / 16777216 % 256, w / 4294967296 % 256, w / 1099511627776 % 256, w / 281474976710656 % 256, w / 72057594037927936 % 256] := by
  unfold little
  simp only [Nat.div_div_eq_div_mul, Nat.reduceMul, Nat.div_one]
theorem s_Little (w : Nat) : ev 79 [.v (.int .u64 (w : Int))] = some [.ow false 5 1 (bts (little w))] := by
  have s := lit_shift w
  have h : ev 79 [.v (.int .u64 (w : Int))] = some [.ow false 5 1 [[.v (.int .u8 (IntKind.u8.wrap (Int.fdiv (w : Int) ((1 : Nat) : Int))))], [.v (.int .u8 (IntKind.u8.wrap (Int.fdiv (w : Int) ((256 : Nat) : Int))))], [.v (.int .u8 (IntKind.u8.wrap (Int.fdiv (w : Int) ((65536 : Nat) : Int))))], [.v (.int .u8 (IntKind.u8.wrap (Int.fdiv (w : Int) ((16777216 : Nat) : Int))))], [.v (.int .u8 (IntKind.u8.wrap (Int.fdiv (w : Int) ((4294967296 : Nat) : Int))))], [.v (.int .u8 (IntKind.u8.wrap (Int.fdiv (w : Int) ((1099511627776 : Nat) : Int))))], [.v (.int .u8 (IntKind.u8.wrap (Int.fdiv (w : Int) ((281474976710656 : Nat) : Int))))], [.v (.int .u8 (IntKind.u8.wrap (Int.fdiv (w : Int) ((72057594037927936 : Nat) : Int))))]]] := evL_of (n := 12) (by kernel_rfl)
  rw [h, s, s, s, s, s, s, s, s, little_shift]
  rfl
theorem l_RImage (b up : Bool) (ws : List Int) (l : List Nat) (h : Wok ws) (hl : ws.length ≤ 100000) (hk : l.length ≤ 100) : ∀ (k i : Nat), i + k = ws.length →
    lp 52 0 0 ⟨[(0, (.ep [(.lst b 1 (ws.map wr)), (.v (.bool up))] 0)), (4, (.sl false 0 0 none)), (5, (.v (.int .i64 (i : Int))))], [⟨1, 5, 1, false, bts (l ++ body (ws.take i))⟩]⟩ =
      some ⟨some 0, ⟨[(4, (.sl false 0 0 none))], [⟨1, 5, 1, false, bts (l ++ body ws)⟩]⟩, []⟩
  | 0, i, hi => by
    rw [lp52_0, List.length_map, ltI_f (by omega), List.take_of_length_le (by omega)]; rfl
  | k + 1, i, hi => by
    have ih := l_RImage b up ws l h hl hk k (i + 1) (by omega)
    have hlt : i < ws.length := by omega
    have hw := h _ (mem_getD ws 0 i hlt)
    have e1 : IntKind.i64.wrap ((i : Int) + 1) = ((i + 1 : Nat) : Int) := by rw [w_i64]; omega
    have a := s_Little (ws.getD i 0).toNat
    rw [show (((ws.getD i 0).toNat : Nat) : Int) = ws.getD i 0 by omega] at a
    have e2 : bts (l ++ body (ws.take i)) ++ bts (little (ws.getD i 0).toNat) = bts (l ++ body (ws.take (i + 1))) := by
      rw [bts_app, List.append_assoc, ← body_snoc, ← take_succD ws i hlt]
    have e3 : leN (((bts (l ++ body (ws.take i))).length + (bts (little (ws.getD i 0).toNat)).length) * 1) 140737488355328 = true := leN_t (by
      rw [bts_len, bts_len, List.length_append, body_len, List.length_take, little_len]; omega)
    rw [lp52_0, List.length_map, ltI_t (by omega), leI_t (by omega), Int.toNat_natCast, get_wr ws i hlt, e1]
    simp only [wr_eq, cellAt_zero, isI_v, avInt_v, cond_true, Bool.and_self]
    refine bnd a ?_
    simp -implicitDefEqProofs only [some_bind', obCells_agg, obCells_ob, isOb_ok, isL_ok, isOw_ok, avXs_lst, avXs_ow, avNil_lst, avNil_ow, avNil_sl, avOff_sl, avCut_sl, isAgg_agg, nat_beq_self, List.length_cons, List.length_nil, Nat.reduceAdd, Nat.zero_add, isI_v, isB_v, isS_v, avInt_v, avBool_v, avStr_v, cellAt_zero, cellAt_succ, lget_zero, lget_succ, frAt_zero, frAt_succ, blAt_zero, blAt_succ, isEx_ok, isEx_ne, isEx_none, isRt_some, isRt_none, like_st, likeFG_nil, likeFG_cons, likeBG_nil, likeBG_obj, likeBG_row, likeSG_nil, likeSG_cons, likeT_nil, likeS_nil, isNP_nil, isNP_ob, likeT_ep, isEp_ep, epCells_ep, likeT_agg, likeT_int, likeT_bool, likeT_str, likeT_lst, likeT_sl0, likeT_sl1, likeT_ptr, likeS_int, likeS_bool, likeS_str, likeS_lst, likeS_sl0, likeS_sl1, likeS_ptr, isPtr_ok, isSl_0, isSl_1, beq_self_b, Bool.and_self, Bool.and_true, Bool.true_and, Bool.and_false, Bool.false_and, cond_true, cond_false, Bool.not_true, Bool.not_false, e3, e2, Bool.and_false]
    exact ih
theorem s_RImage (b : Bool) (ws : List Int) (up : Bool) (h : Wok ws) (hl : ws.length ≤ 100000) : ev 52 [.ep [.lst b 1 (ws.map wr), .v (.bool up)] 0] = some [.ow false 5 1 (bts (img ws up))] := by
  have e0 : IntKind.i64.wrap (Int.tdiv (ws.length : Int) 8) = ((ws.length / 8 : Nat) : Int) := by rw [tdiv_pos _ _ (by omega), w_i64]; omega
  have e1 : IntKind.u8.wrap ((ws.length / 8 : Nat) : Int) = ((ws.length / 8 % 256 : Nat) : Int) := by rw [w_u8]; rfl
  have e2 : Int.fdiv ((ws.length / 8 : Nat) : Int) 256 = ((ws.length / 8 / 256 : Nat) : Int) := fdiv_nat _ 256
  have e3 : IntKind.u8.wrap ((ws.length / 8 / 256 : Nat) : Int) = ((ws.length / 8 / 256 % 256 : Nat) : Int) := by rw [w_u8]; rfl
  rw [ev52]
  simp only [e0, e1, e2, e3, List.length_map]
  have fin : ∀ up : Bool, (ev 80 [.lst false 1 (bts (pre ws up))]) = some [.v (.int .u64 (crcX 0 (pre ws up) : Nat))] := fun up => s_RBytes false _ (by rw [pre_len]; omega) (pre_lt ws up)
  have fin2 : ∀ up : Bool, ev 79 [.v (.int .u64 (crcX 0 (pre ws up) : Nat))] = some [.ow false 5 1 (bts (little (crcX 0 (pre ws up))))] := fun up => s_Little _
  have fin3 : ∀ up : Bool, leN (((bts (pre ws up)).length + (bts (little (crcX 0 (pre ws up)))).length) * 1) 140737488355328 = true := fun up => leN_t (by rw [bts_len, bts_len, pre_len, little_len]; omega)
  have fin4 : ∀ up : Bool, bts (pre ws up) ++ bts (little (crcX 0 (pre ws up))) = bts (img ws up) := fun up => bts_app _ _
  cases up with
  | false =>
    have hb0 : bts (hdr (ws.length / 8) false ++ body (ws.take 0)) = [[.v (.int .u8 77)], [.v (.int .u8 69)], [.v (.int .u8 77)], [.v (.int .u8 49)], [.v (.int .u8 ((ws.length / 8 % 256 : Nat) : Int))], [.v (.int .u8 ((ws.length / 8 / 256 % 256 : Nat) : Int))], [.v (.int .u8 0)]] := rfl
    have lp0 := l_RImage b false ws (hdr (ws.length / 8) false) h hl (show 7 ≤ 100 by decide) ws.length 0 (by omega)
    rw [hb0] at lp0
    refine bnd (a := ⟨some 0, ⟨[(4, (.sl false 0 0 none))], [⟨1, 5, 1, false, bts (pre ws false)⟩]⟩, []⟩) lp0 ?_
    simp -implicitDefEqProofs only [some_bind', obCells_agg, obCells_ob, isOb_ok, isL_ok, isOw_ok, avXs_lst, avXs_ow, avNil_lst, avNil_ow, avNil_sl, avOff_sl, avCut_sl, isAgg_agg, nat_beq_self, List.length_cons, List.length_nil, Nat.reduceAdd, Nat.zero_add, isI_v, isB_v, isS_v, avInt_v, avBool_v, avStr_v, cellAt_zero, cellAt_succ, lget_zero, lget_succ, frAt_zero, frAt_succ, blAt_zero, blAt_succ, isEx_ok, isEx_ne, isEx_none, isRt_some, isRt_none, like_st, likeFG_nil, likeFG_cons, likeBG_nil, likeBG_obj, likeBG_row, likeSG_nil, likeSG_cons, likeT_nil, likeS_nil, isNP_nil, isNP_ob, likeT_ep, isEp_ep, epCells_ep, likeT_agg, likeT_int, likeT_bool, likeT_str, likeT_lst, likeT_sl0, likeT_sl1, likeT_ptr, likeS_int, likeS_bool, likeS_str, likeS_lst, likeS_sl0, likeS_sl1, likeS_ptr, isPtr_ok, isSl_0, isSl_1, beq_self_b, Bool.and_self, Bool.and_true, Bool.true_and, Bool.and_false, Bool.false_and, cond_true, cond_false, Bool.not_true, Bool.not_false, fin, fin2, fin3, fin4]
  | true =>
    have hb0 : bts (hdr (ws.length / 8) true ++ body (ws.take 0)) = [[.v (.int .u8 77)], [.v (.int .u8 69)], [.v (.int .u8 77)], [.v (.int .u8 49)], [.v (.int .u8 ((ws.length / 8 % 256 : Nat) : Int))], [.v (.int .u8 ((ws.length / 8 / 256 % 256 : Nat) : Int))], [.v (.int .u8 1)]] := rfl
    have lp0 := l_RImage b true ws (hdr (ws.length / 8) true) h hl (show 7 ≤ 100 by decide) ws.length 0 (by omega)
    rw [hb0] at lp0
    refine bnd (a := ⟨some 0, ⟨[(4, (.sl false 0 0 none))], [⟨1, 5, 1, false, bts (pre ws true)⟩]⟩, []⟩) lp0 ?_
    simp -implicitDefEqProofs only [some_bind', obCells_agg, obCells_ob, isOb_ok, isL_ok, isOw_ok, avXs_lst, avXs_ow, avNil_lst, avNil_ow, avNil_sl, avOff_sl, avCut_sl, isAgg_agg, nat_beq_self, List.length_cons, List.length_nil, Nat.reduceAdd, Nat.zero_add, isI_v, isB_v, isS_v, avInt_v, avBool_v, avStr_v, cellAt_zero, cellAt_succ, lget_zero, lget_succ, frAt_zero, frAt_succ, blAt_zero, blAt_succ, isEx_ok, isEx_ne, isEx_none, isRt_some, isRt_none, like_st, likeFG_nil, likeFG_cons, likeBG_nil, likeBG_obj, likeBG_row, likeSG_nil, likeSG_cons, likeT_nil, likeS_nil, isNP_nil, isNP_ob, likeT_ep, isEp_ep, epCells_ep, likeT_agg, likeT_int, likeT_bool, likeT_str, likeT_lst, likeT_sl0, likeT_sl1, likeT_ptr, likeS_int, likeS_bool, likeS_str, likeS_lst, likeS_sl0, likeS_sl1, likeS_ptr, isPtr_ok, isSl_0, isSl_1, beq_self_b, Bool.and_self, Bool.and_true, Bool.true_and, Bool.and_false, Bool.false_and, cond_true, cond_false, Bool.not_true, Bool.not_false, fin, fin2, fin3, fin4]
theorem s_SameImage (b c : Bool) (l : List Nat) (ws : List Int) (up : Bool) (h : Wok ws) (hl : ws.length ≤ 100000) : ev 24 [.lst c 1 (bts l), .ep [.lst b 1 (ws.map wr), .v (.bool up)] 0] =
    some [.v (.bool (ByteArray.toList ⟨(List.map Ev.byteOf (bts l)).toArray⟩ == ByteArray.toList ⟨(List.map Ev.byteOf (bts (img ws up))).toArray⟩))] := by
  rw [ev24, all_bts]
  refine bnd (s_RImage b ws up h hl) ?_
  simp -implicitDefEqProofs only [some_bind', obCells_agg, obCells_ob, isOb_ok, isL_ok, isOw_ok, avXs_lst, avXs_ow, avNil_lst, avNil_ow, avNil_sl, avOff_sl, avCut_sl, isAgg_agg, nat_beq_self, List.length_cons, List.length_nil, Nat.reduceAdd, Nat.zero_add, isI_v, isB_v, isS_v, avInt_v, avBool_v, avStr_v, cellAt_zero, cellAt_succ, lget_zero, lget_succ, frAt_zero, frAt_succ, blAt_zero, blAt_succ, isEx_ok, isEx_ne, isEx_none, isRt_some, isRt_none, like_st, likeFG_nil, likeFG_cons, likeBG_nil, likeBG_obj, likeBG_row, likeSG_nil, likeSG_cons, likeT_nil, likeS_nil, isNP_nil, isNP_ob, likeT_ep, isEp_ep, epCells_ep, likeT_agg, likeT_int, likeT_bool, likeT_str, likeT_lst, likeT_sl0, likeT_sl1, likeT_ptr, likeS_int, likeS_bool, likeS_str, likeS_lst, likeS_sl0, likeS_sl1, likeS_ptr, isPtr_ok, isSl_0, isSl_1, beq_self_b, Bool.and_self, Bool.and_true, Bool.true_and, Bool.and_false, Bool.false_and, cond_true, cond_false, Bool.not_true, Bool.not_false, all_bts]
theorem s_SameImg (b c : Bool) (ws : List Int) (up : Bool) (h : Wok ws) (hl : ws.length ≤ 100000) : ev 24 [.lst c 1 (bts (img ws up)), .ep [.lst b 1 (ws.map wr), .v (.bool up)] 0] = some [.v (.bool true)] := by
  rw [s_SameImage b c _ ws up h hl, beq_self_eq_true]
end Go.Proofs.Ytkefjdmoikegbaa
