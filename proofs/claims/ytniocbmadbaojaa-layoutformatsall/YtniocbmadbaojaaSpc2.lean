/- What the chapter's functions are. -/
import Derived.Test.YtniocbmadbaojaaTy
import Derived.Test.YtniocbmadbaojaaCrc
import Derived.Test.YtniocbmadbaojaaTab2
set_option linter.all false
namespace Go.Proofs.Ytniocbmadbaojaa
open Go.Ev
attribute [local congr] bind_first cond_first
def i64ok (a : Int) : Prop := -9223372036854775808 ≤ a ∧ a ≤ 9223372036854775807
theorem mix : Try.prog.follows .mixedOrders = true := by kernel_rfl
theorem tabL_eq : tabL = (List.range 256).map fun i => AV.v (.int .u64 (step8 i : Nat)) := rfl
theorem extOk : ExtS Try.prog cfg := by
  refine extS_ev (C' := Tab.cfg) mix (extS_none fun _ => rfl) fun f g xs rs hf hg => ?_
  change extF f = some g at hf
  unfold extF at hf
  split at hf
  · obtain rfl := Option.some.inj hf
    simp only at hg
    split at hg
    · obtain rfl := Option.some.inj hg
      rw [tabL_eq]
      exact evF_of_evL Tab.s_table
    · cases hg
  · cases hf
theorem likeG_nil (j : Nat) (c : List AV) : likeG [] j c = true := rfl
theorem likeG_cons (a : AV) (r : List AV) (j : Nat) (c : List AV) : likeG (a :: r) j c = ((likeB a (cellAt c j)).1 && likeG r (j + 1) c) := by
  cases r with
  | nil => simp [likeG]
  | cons b r => rfl
theorem likeB_ow (b : Bool) (t z : Nat) (xs : List (List AV)) (c : AV) : (likeB (.ow b t z xs) c).1 = (isOw t z c || isNilL c) := rfl
theorem likeB_bool (b : Bool) (c : AV) : (likeB (.v (.bool b)) c).1 = isB c := rfl
def wr (w : Int) : List AV := [.v (.int .u64 w)]
theorem wr_eq (w : Int) : wr w = [.v (.int .u64 w)] := rfl
theorem all_wr (ws : List Int) : (ws.map wr).all rowV = true := by
  simp only [List.all_eq_true, List.mem_map]
  rintro _ ⟨w, _, rfl⟩; rfl
theorem get_wr (ws : List Int) (i : Nat) (h : i < ws.length) : lget (ws.map wr) i = wr (ws.getD i 0) := lget_mapD wr ws 0 i h
theorem set_wr (ws : List Int) (i : Nat) (w : Int) : (ws.map wr).set i [.v (.int .u64 w)] = (ws.set i w).map wr := by rw [List.map_set, wr_eq]
def splice (xs : List Int) (n : Nat) (ys : List Int) : List Int := xs.take n ++ ys ++ xs.drop (n + ys.length)
def acc (n : Nat) (up : Bool) (a c : Int) : Int := if c < 1 ∨ a < 0 ∨ (n : Int) ≤ a ∨ (n : Int) - a < c then 2 else if up then 0 else 4
theorem acc_ok {n : Nat} {up : Bool} {a c : Int} (h1 : 1 ≤ c) (h2 : 0 ≤ a) (h3 : a + c ≤ n) : acc n up a c = if up then 0 else 4 := by
  unfold acc; rw [if_neg (by omega)]
theorem acc_bad {n : Nat} {up : Bool} {a c : Int} (h : ¬ (1 ≤ c ∧ 0 ≤ a ∧ a + c ≤ n)) : acc n up a c = 2 := by
  unfold acc; rw [if_pos (by omega)]
theorem acc_zero {n : Nat} {up : Bool} {a c : Int} : acc n up a c = 0 ↔ (1 ≤ c ∧ 0 ≤ a ∧ a + c ≤ n ∧ up = true) := by
  unfold acc
  split
  · exact ⟨fun h => (by simp at h), fun h => by omega⟩
  · cases up with
    | true => exact ⟨fun _ => (by simp; omega), fun _ => rfl⟩
    | false => exact ⟨fun h => (by simp at h), fun h => (by simp at h)⟩
theorem s_check (b : Bool) (xs : List (List AV)) (dn : Bool) (a c : Int) (hl : xs.length ≤ 100000) (ha : -9223372036854775808 ≤ a ∧ a ≤ 9223372036854775807) :
    ev 47 [.ep [.lst b 1 xs, .v (.bool dn)] 0, .v (.int .i64 a), .v (.int .i64 c)] = some [.v (.int .i64 (acc xs.length (!dn) a c))] := by
  rw [ev47]
  by_cases h1 : c < 1
  · rw [ltI_t h1, acc_bad (by omega)]; rfl
  rw [ltI_f (by omega)]
  by_cases h2 : a < 0
  · rw [ltI_t h2, acc_bad (by omega)]; rfl
  rw [ltI_f (by omega)]
  by_cases h3 : (xs.length : Int) ≤ a
  · rw [leI_t h3, acc_bad (by omega)]; rfl
  rw [leI_f (by omega), show IntKind.i64.wrap ((xs.length : Int) - a) = (xs.length : Int) - a by rw [w_i64]; omega]
  by_cases h4 : (xs.length : Int) - a < c
  · rw [ltI_t h4, acc_bad (by omega)]; rfl
  rw [ltI_f (by omega), acc_ok (by omega) (by omega) (by omega)]
  cases dn <;> rfl
abbrev ndO (ws : List Int) (dn : Bool) : AV := .ob 61 [.ow false 29 1 (ws.map wr), .v (.bool dn)]
abbrev ndP (ws : List Int) (dn : Bool) : AV := .ep [.lst false 1 (ws.map wr), .v (.bool dn)] 0
theorem s_Write (ws : List Int) (dn : Bool) (a : Int) (b : Bool) (ys : List Int) (hl : ws.length ≤ 100000) (ha : i64ok a) :
    ev 32 [ndO ws dn, .v (.int .i64 a), .lst b 1 (ys.map wr)] =
      some [.v (.int .i64 (acc ws.length (!dn) a ys.length)), ndO (if acc ws.length (!dn) a ys.length = 0 then splice ws a.toNat ys else ws) dn] := by
  have h1 := s_check false (ws.map wr) dn a ys.length (by rw [List.length_map]; exact hl) ha
  rw [List.length_map] at h1
  rw [ev32]
  simp -implicitDefEqProofs only [some_bind', obCells_agg, obCells_ob, isOb_ok, isL_ok, isOw_ok, avXs_lst, avXs_ow, avNil_lst, avNil_ow, avNil_sl, avOff_sl, avCut_sl, isAgg_agg, nat_beq_self, List.length_cons, List.length_nil, Nat.reduceAdd, Nat.zero_add, isI_v, isB_v, isS_v, avInt_v, avBool_v, avStr_v, cellAt_zero, cellAt_succ, lget_zero, lget_succ, frAt_zero, frAt_succ, blAt_zero, blAt_succ, isEx_ok, isEx_ne, isEx_none, isRt_some, isRt_none, like_st, likeFG_nil, likeFG_cons, likeBG_nil, likeBG_obj, likeBG_row, likeSG_nil, likeSG_cons, likeT_nil, likeS_nil, isNP_nil, isNP_ob, likeT_ep, isEp_ep, epCells_ep, likeT_agg, likeT_int, likeT_bool, likeT_str, likeT_lst, likeT_sl0, likeT_sl1, likeT_ptr, likeS_int, likeS_bool, likeS_str, likeS_lst, likeS_sl0, likeS_sl1, likeS_ptr, isPtr_ok, isSl_0, isSl_1, beq_self_b, Bool.and_self, Bool.and_true, Bool.true_and, Bool.and_false, Bool.false_and, cond_true, cond_false, Bool.not_true, Bool.not_false, List.length_map, h1]
  by_cases h : acc ws.length (!dn) a ys.length = 0
  · obtain ⟨g1, g2, g3, _⟩ := acc_zero.1 h
    rw [if_pos h, h, leI_t g2, leI_t (show a ≤ (((ws.length - 0 : Nat)) : Int) by omega)]
    have e1 : min ys.length (ws.length - a.toNat) = ys.length := by omega
    rw [e1, ← List.map_take, ← List.map_take, ← List.map_drop, ← List.map_append, ← List.map_append, List.take_length]
    rfl
  · rw [if_neg h, beq_eq_false_iff_ne.2 h]; rfl
theorem s_Up (b : Bool) (xs : List (List AV)) (dn : Bool) : ev 51 [.ep [.lst b 1 xs, .v (.bool dn)] 0] = some [.v (.bool (!dn))] := by rw [ev51]
theorem s_Lines (b : Bool) (xs : List (List AV)) (dn : Bool) (h : xs.length ≤ 100000) : ev 48 [.ep [.lst b 1 xs, .v (.bool dn)] 0] = some [.v (.int .i64 (xs.length / 8 : Nat))] := by
  rw [ev48, tdiv_pos _ _ (by omega), w_i64]; exact int1 (by omega)
theorem s_Fail (ws : List Int) (dn : Bool) : ev 33 [ndO ws dn] = some [ndO ws true] := by rw [ev33]
theorem s_New (n : Int) (h : 1 ≤ n ∧ n ≤ 256) : ev 31 [.v (.int .i64 n)] = some [ndO (List.replicate (8 * n.toNat) 0) false, .v (.int .i64 0)] := by
  have e : IntKind.i64.wrap (n * 8) = n * 8 := by rw [w_i64]; omega
  rw [ev31, ltI_f (by omega), ltI_f (by omega), e, leI_t (show 0 ≤ n * 8 by omega), leI_t (Int.le_refl _), leI_t (show n * 8 * 8 ≤ 281474976710656 by omega), leI_t (show n * 8 ≤ 281474976710656 by omega), show (n * 8).toNat = 8 * n.toNat by omega]
  show some [AV.ob _ [AV.ow false _ 1 (List.replicate (8 * n.toNat) (wr 0)), _], _] = _
  rw [← List.map_replicate]
theorem drop_cons (l : List Nat) (i : Nat) (h : i < l.length) : l.drop i = l.getD i 0 :: l.drop (i + 1) := by
  rw [List.drop_eq_getElem_cons h]; simp [h]
theorem tab_get (i : Nat) (h : i < 256) : cellAt tabL i = .v (.int .u64 (step8 i : Nat)) := by
  rw [tabL_eq, cellAt, List.getD_eq_getElem?_getD, List.getElem?_map, List.getElem?_range h]; rfl
theorem upd_split (r x : Nat) (hx : x < 256) : r / 256 ^^^ step8 (r % 256 ^^^ x) = upd r x := by
  unfold upd
  rw [step8_split (r ^^^ x)]
  have h1 : (r ^^^ x) / 256 = r / 256 := by
    have : (r ^^^ x) / 2 ^ 8 = r / 2 ^ 8 ^^^ x / 2 ^ 8 := Nat.xor_div_two_pow
    rw [show x / 2 ^ 8 = 0 by omega, Nat.xor_zero] at this
    exact this
  have h2 : (r ^^^ x) % 256 = r % 256 ^^^ x := by
    have : (r ^^^ x) % 2 ^ 8 = r % 2 ^ 8 ^^^ x % 2 ^ 8 := Nat.xor_mod_two_pow
    rw [show x % 2 ^ 8 = x by omega] at this
    exact this
  rw [h1, h2]
theorem l_add (b : Bool) (l : List Nat) (hl : l.length ≤ 1000000) (hb : ∀ x ∈ l, x < 256) : ∀ (k i r : Nat), i + k = l.length → r < 2 ^ 64 →
    lp 66 0 0 ⟨[(0, (.v (.int .u64 (r : Int)))), (1, (.ep tabL 0)), (9, (.lst b 1 (bts l))), (10, (.v (.int .i64 (l.length : Int)))), (11, (.v (.int .i64 (i : Int))))], []⟩ =
      some ⟨some 0, ⟨[(0, (.v (.int .u64 (crcR r (l.drop i) : Nat))))], []⟩, []⟩
  | 0, i, r, hi, hr => by rw [lp66_0, ltI_f (by omega), List.drop_of_length_le (by omega)]; rfl
  | k + 1, i, r, hi, hr => by
    have hlt : i < l.length := by omega
    have hx := hb _ (mem_getD l 0 i hlt)
    have ih := l_add b l hl hb k (i + 1) (upd r (l.getD i 0)) (by omega) (upd_lt hr hx)
    rw [lp66_0, ltI_t (by omega), leI_t (by omega), bts_len, ltI_t (by omega), Int.toNat_natCast, get_bts l i hlt, drop_cons l i hlt]
    generalize l.getD i 0 = x at *
    have e0 : IntKind.u8.wrap (r : Int) = ((r % 256 : Nat) : Int) := by rw [w_u8]; rfl
    have hx2 : r % 256 ^^^ x < 2 ^ 8 := Nat.xor_lt_two_pow (by omega) (by omega)
    have e1 : bits .xor .u8 ((r % 256 : Nat) : Int) (x : Int) = ((r % 256 ^^^ x : Nat) : Int) := xor_u8 _ _ (by omega) hx
    have e2 : Int.fdiv (r : Int) 256 = ((r / 256 : Nat) : Int) := fdiv_nat r 256
    have e3 : IntKind.i64.wrap ((i : Int) + 1) = ((i + 1 : Nat) : Int) := by rw [w_i64]; omega
    have e4 : bits .xor .u64 ((r / 256 : Nat) : Int) ((step8 (r % 256 ^^^ x) : Nat) : Int) = ((r / 256 ^^^ step8 (r % 256 ^^^ x) : Nat) : Int) := xor_u64 _ _ (by omega) (step8_lt (byte_lt hx2))
    have e5 : 0 + (r % 256 ^^^ x) * 1 = r % 256 ^^^ x := by omega
    simp only [bt, cellAt_zero, isI_v, avInt_v, cond_true, e0, e1, e2, e3, Int.toNat_natCast, e5, tab_get _ hx2, leI_t (show (0 : Int) ≤ ((r % 256 ^^^ x : Nat) : Int) by omega), ltI_t (show ((r % 256 ^^^ x : Nat) : Int) < 256 by omega), Bool.and_self, e4]
    rw [upd_split r x hx]
    exact ih
set_option maxRecDepth 100000 in
theorem s_Extend (b : Bool) (s : Nat) (l : List Nat) (hs : s < 2 ^ 64) (hl : l.length ≤ 1000000) (hb : ∀ x ∈ l, x < 256) : ev 59 [.v (.int .u64 (s : Int)), .lst b 1 (bts l)] = some [.v (.int .u64 (crcX s l : Nat))] := by
  have hs2 : ones ^^^ s < 2 ^ 64 := Nat.xor_lt_two_pow ones_lt hs
  have e : bits .xor .u64 18446744073709551615 (s : Int) = ((ones ^^^ s : Nat) : Int) := xor_u64 ones s ones_lt hs
  have h := l_add b l hl hb l.length 0 (ones ^^^ s) (by omega) hs2
  have h2 : ev 66 [.v (.int .u64 (ones ^^^ s : Nat)), .ep tabL 0, .lst b 1 (bts l)] = some [.v (.int .u64 (crcR (ones ^^^ s) l : Nat))] := by
    rw [ev66, bts_len]
    exact bnd h rfl
  refine (ev59 _ _ _).trans ?_
  rw [e]
  refine bnd h2 ?_
  have e2 : bits .xor .u64 18446744073709551615 ((crcR (ones ^^^ s) l : Nat) : Int) = ((crcX s l : Nat) : Int) := xor_u64 ones _ ones_lt (crcR_lt hs2 hb)
  show some [AV.v (.int .u64 (bits .xor .u64 18446744073709551615 ((crcR (ones ^^^ s) l : Nat) : Int)))] = _
  rw [e2]
theorem s_Bytes (b : Bool) (l : List Nat) (hl : l.length ≤ 1000000) (hb : ∀ x ∈ l, x < 256) : ev 50 [.lst b 1 (bts l)] = some [.v (.int .u64 (crcX 0 l : Nat))] := by
  rw [ev50]
  exact bnd (s_Extend b 0 l (by decide) hl hb) rfl
theorem l_RExtend1 (b : Bool) (xs : List (List AV)) (x6 : Int) : ∀ (k j r : Nat), j + k = 8 → r < 2 ^ 64 →
    lp 67 1 0 ⟨[(1, (.lst b 1 xs)), (5, (.v (.int .u64 (r : Int)))), (6, (.v (.int .i64 x6))), (7, (.v (.int .i64 (j : Int))))], []⟩ =
      some ⟨some 2, ⟨[(1, (.lst b 1 xs)), (5, (.v (.int .u64 (stepK k r : Nat)))), (6, (.v (.int .i64 x6)))], []⟩, []⟩
  | 0, j, r, hj, hr => by rw [lp67_1, ltI_f (by omega)]; rfl
  | k + 1, j, r, hj, hr => by
    have ih := l_RExtend1 b xs x6 k (j + 1) (step1 r) (by omega) (step1_lt hr)
    have e1 : IntKind.i64.wrap ((j : Int) + 1) = ((j + 1 : Nat) : Int) := by rw [w_i64]; omega
    have e2 : bits .and .u64 (r : Int) 1 = ((r % 2 : Nat) : Int) := by
      rw [and_u64 1 (by decide) _ 1 (by decide) (by omega) (by omega)]; omega
    have e3 : Int.fdiv (r : Int) 2 = ((r / 2 : Nat) : Int) := fdiv_nat r 2
    have e4 : bits .xor .u64 ((r / 2 : Nat) : Int) 14514072000185962306 = ((r / 2 ^^^ poly : Nat) : Int) := xor_u64 (r / 2) poly (by omega) poly_lt
    rw [lp67_1, ltI_t (by omega), e1, e2, e3, e4]
    simp only [stepK]
    by_cases h : r % 2 = 1
    · rw [step1_eq, if_pos h] at ih ⊢
      rw [h]; exact ih
    · rw [step1_eq, if_neg h] at ih ⊢
      rw [beq_eq_false_iff_ne.2 (show ((r % 2 : Nat) : Int) ≠ 1 by omega)]; exact ih
theorem l_RExtend0 (b : Bool) (l : List Nat) (hl : l.length ≤ 1000000) (hb : ∀ x ∈ l, x < 256) : ∀ (k i r : Nat), i + k = l.length → r < 2 ^ 64 →
    lp 67 0 0 ⟨[(1, (.lst b 1 (bts l))), (5, (.v (.int .u64 (r : Int)))), (6, (.v (.int .i64 (i : Int))))], []⟩ =
      some ⟨some 0, ⟨[(5, (.v (.int .u64 (crcR r (l.drop i) : Nat))))], []⟩, []⟩
  | 0, i, r, hi, hr => by rw [lp67_0, bts_len, ltI_f (by omega), List.drop_of_length_le (by omega)]; rfl
  | k + 1, i, r, hi, hr => by
    have hlt : i < l.length := by omega
    have hx := hb _ (mem_getD l 0 i hlt)
    have ih := l_RExtend0 b l hl hb k (i + 1) (upd r (l.getD i 0)) (by omega) (upd_lt hr hx)
    rw [lp67_0, bts_len, ltI_t (by omega), leI_t (by omega), Int.toNat_natCast, get_bts l i hlt, drop_cons l i hlt]
    generalize l.getD i 0 = x at *
    have e0 : IntKind.u64.wrap (x : Int) = (x : Int) := by rw [w_u64]; omega
    have e4 : bits .xor .u64 (r : Int) (x : Int) = ((r ^^^ x : Nat) : Int) := xor_u64 _ _ hr (byte_lt hx)
    have e3 : IntKind.i64.wrap ((i : Int) + 1) = ((i + 1 : Nat) : Int) := by rw [w_i64]; omega
    have a := l_RExtend1 b (bts l) (i : Int) 8 0 (r ^^^ x) (by omega) (Nat.xor_lt_two_pow hr (byte_lt hx))
    simp only [bt, cellAt_zero, isI_v, avInt_v, cond_true, Bool.and_self, e0, e4]
    refine bnd a ?_
    have e5 : stepK 8 (r ^^^ x) = upd r x := rfl
    simp -implicitDefEqProofs only [some_bind', obCells_agg, obCells_ob, isOb_ok, isL_ok, isOw_ok, avXs_lst, avXs_ow, avNil_lst, avNil_ow, avNil_sl, avOff_sl, avCut_sl, isAgg_agg, nat_beq_self, List.length_cons, List.length_nil, Nat.reduceAdd, Nat.zero_add, isI_v, isB_v, isS_v, avInt_v, avBool_v, avStr_v, cellAt_zero, cellAt_succ, lget_zero, lget_succ, frAt_zero, frAt_succ, blAt_zero, blAt_succ, isEx_ok, isEx_ne, isEx_none, isRt_some, isRt_none, like_st, likeFG_nil, likeFG_cons, likeBG_nil, likeBG_obj, likeBG_row, likeSG_nil, likeSG_cons, likeT_nil, likeS_nil, isNP_nil, isNP_ob, likeT_ep, isEp_ep, epCells_ep, likeT_agg, likeT_int, likeT_bool, likeT_str, likeT_lst, likeT_sl0, likeT_sl1, likeT_ptr, likeS_int, likeS_bool, likeS_str, likeS_lst, likeS_sl0, likeS_sl1, likeS_ptr, isPtr_ok, isSl_0, isSl_1, beq_self_b, Bool.and_self, Bool.and_true, Bool.true_and, Bool.and_false, Bool.false_and, cond_true, cond_false, Bool.not_true, Bool.not_false, e3, e5]
    exact ih
theorem s_RExtend (b : Bool) (s : Nat) (l : List Nat) (hs : s < 2 ^ 64) (hl : l.length ≤ 1000000) (hb : ∀ x ∈ l, x < 256) : ev 67 [.v (.int .u64 (s : Int)), .lst b 1 (bts l)] = some [.v (.int .u64 (crcX s l : Nat))] := by
  have hs2 : ones ^^^ s < 2 ^ 64 := Nat.xor_lt_two_pow ones_lt hs
  have e : bits .xor .u64 18446744073709551615 (s : Int) = ((ones ^^^ s : Nat) : Int) := xor_u64 ones s ones_lt hs
  have h := l_RExtend0 b l hl hb l.length 0 (ones ^^^ s) (by omega) hs2
  rw [ev67, e]
  refine bnd h ?_
  have e2 : bits .xor .u64 18446744073709551615 ((crcR (ones ^^^ s) l : Nat) : Int) = ((crcX s l : Nat) : Int) := xor_u64 ones _ ones_lt (crcR_lt hs2 hb)
  show some [AV.v (.int .u64 (bits .xor .u64 18446744073709551615 ((crcR (ones ^^^ s) l : Nat) : Int)))] = _
  rw [e2]
theorem s_RBytes (b : Bool) (l : List Nat) (hl : l.length ≤ 1000000) (hb : ∀ x ∈ l, x < 256) : ev 63 [.lst b 1 (bts l)] = some [.v (.int .u64 (crcX 0 l : Nat))] := by
  rw [ev63]
  exact bnd (s_RExtend b 0 l (by decide) hl hb) rfl
theorem s_appendWord (b : Bool) (l : List Nat) (w : Nat) (hl : l.length ≤ 1000000) : ev 49 [.ow b 5 1 (bts l), .v (.int .u64 (w : Int))] = some [.ow false 5 1 (bts (l ++ little w))] := by
  have d : ∀ n : Nat, Int.fdiv (n : Int) 256 = ((n / 256 : Nat) : Int) := fun n => fdiv_nat n 256
  have m : ∀ n : Nat, IntKind.u8.wrap (n : Int) = ((n % 256 : Nat) : Int) := fun n => by rw [w_u8]; rfl
  have hle : ∀ j : Nat, j ≤ 8 → leN ((l.length + j + 1) * 1) 140737488355328 = true := fun j hj => leN_t (by omega)
  have h0 : leN ((l.length + 1) * 1) 140737488355328 = true := leN_t (by omega)
  rw [ev49]
  simp only [d, m, List.length_append, List.length_cons, List.length_nil, bts_len, Nat.zero_add, Nat.add_assoc, Nat.reduceAdd]
  have h : ∀ j : Nat, j ≤ 9 → leN ((l.length + j) * 1) 140737488355328 = true := fun j hj => leN_t (by omega)
  rw [h 1 (by omega), h 2 (by omega), h 3 (by omega), h 4 (by omega), h 5 (by omega), h 6 (by omega), h 7 (by omega), h 8 (by omega)]
  simp only [cond_true, List.append_assoc]
  unfold bts
  rw [List.map_append]
  rfl
def Wok (ws : List Int) : Prop := ∀ w ∈ ws, 0 ≤ w ∧ w < 18446744073709551616
theorem wok_set {ws : List Int} (h : Wok ws) (i : Nat) {w : Int} (hw : 0 ≤ w ∧ w < 18446744073709551616) : Wok (ws.set i w) := fun x hx => by
  rcases List.mem_or_eq_of_mem_set hx with hx | rfl
  · exact h x hx
  · exact hw
def body (ws : List Int) : List Nat := ws.flatMap fun w => little w.toNat
theorem body_snoc (ws : List Int) (w : Int) : body (ws ++ [w]) = body ws ++ little w.toNat := by
  unfold body; rw [List.flatMap_append]; simp
theorem little_len (w : Nat) : (little w).length = 8 := rfl
theorem body_len : ∀ ws : List Int, (body ws).length = 8 * ws.length
  | [] => rfl
  | w :: ws => by
    have := body_len ws
    unfold body at *
    rw [List.flatMap_cons, List.length_append, this, little_len, List.length_cons]; omega
theorem little_lt (w : Nat) : ∀ x ∈ little w, x < 256 := by
  intro x hx
  unfold little at hx
  simp only [List.mem_cons, List.not_mem_nil, or_false] at hx
  omega
theorem body_lt (ws : List Int) : ∀ x ∈ body ws, x < 256 := fun x hx => by
  unfold body at hx
  obtain ⟨w, _, hw⟩ := List.mem_flatMap.1 hx
  exact little_lt _ x hw
theorem take_succD (ws : List Int) (i : Nat) (h : i < ws.length) : ws.take (i + 1) = ws.take i ++ [ws.getD i 0] := by
  rw [List.take_succ_eq_append_getElem h]; simp [h]
def hdr (n : Nat) (up : Bool) : List Nat := [77, 69, 77, 49, n % 256, n / 256 % 256, bif up then 1 else 0]
theorem hdr_lt (n : Nat) (up : Bool) : ∀ x ∈ hdr n up, x < 256 := by
  intro x hx
  unfold hdr at hx
  simp only [List.mem_cons, List.not_mem_nil, or_false] at hx
  cases up <;> simp only [cond_true, cond_false] at hx <;> omega
def pre (ws : List Int) (up : Bool) : List Nat := hdr (ws.length / 8) up ++ body ws
def img (ws : List Int) (up : Bool) : List Nat := pre ws up ++ little (crcX 0 (pre ws up))
theorem pre_lt (ws : List Int) (up : Bool) : ∀ x ∈ pre ws up, x < 256 := fun x hx => by
  rcases List.mem_append.1 hx with h | h
  · exact hdr_lt _ _ x h
  · exact body_lt _ x h
theorem pre_len (ws : List Int) (up : Bool) : (pre ws up).length = 7 + 8 * ws.length := by
  unfold pre; rw [List.length_append, body_len]; rfl
theorem bts_app (a b : List Nat) : bts a ++ bts b = bts (a ++ b) := by unfold bts; rw [List.map_append]
theorem all_bts (l : List Nat) : (bts l).all Ev.isByte = true := by
  unfold bts
  simp only [List.all_map, List.all_eq_true]
  exact fun _ _ => rfl
theorem l_Image (b : Bool) (ws : List Int) (l : List Nat) (h : Wok ws) (hl : ws.length ≤ 100000) (hk : l.length ≤ 100) : ∀ (k i : Nat), i + k = ws.length →
    lp 34 0 0 ⟨[(3, (.sl false 0 0 none)), (26, (.lst b 1 (ws.map wr))), (27, (.v (.int .i64 (ws.length : Int)))), (28, (.v (.int .i64 (i : Int))))], [⟨1, 5, 1, false, bts (l ++ body (ws.take i))⟩]⟩ =
      some ⟨some 0, ⟨[(3, (.sl false 0 0 none))], [⟨1, 5, 1, false, bts (l ++ body ws)⟩]⟩, []⟩
  | 0, i, hi => by
    rw [lp34_0, ltI_f (by omega), List.take_of_length_le (by omega)]; rfl
  | k + 1, i, hi => by
    have ih := l_Image b ws l h hl hk k (i + 1) (by omega)
    have hlt : i < ws.length := by omega
    have hw := h _ (mem_getD ws 0 i hlt)
    have e1 : IntKind.i64.wrap ((i : Int) + 1) = ((i + 1 : Nat) : Int) := by rw [w_i64]; omega
    have a := s_appendWord false (l ++ body (ws.take i)) (ws.getD i 0).toNat (by rw [List.length_append, body_len, List.length_take]; omega)
    rw [show (((ws.getD i 0).toNat : Nat) : Int) = ws.getD i 0 by omega, List.append_assoc, ← body_snoc, ← take_succD ws i hlt] at a
    rw [lp34_0, ltI_t (by omega), leI_t (by omega), List.length_map, ltI_t (by omega), Int.toNat_natCast, get_wr ws i hlt, e1]
    simp only [wr_eq, cellAt_zero, isI_v, avInt_v, cond_true, Bool.and_self]
    refine bnd a ?_
    simp -implicitDefEqProofs only [some_bind', obCells_agg, obCells_ob, isOb_ok, isL_ok, isOw_ok, avXs_lst, avXs_ow, avNil_lst, avNil_ow, avNil_sl, avOff_sl, avCut_sl, isAgg_agg, nat_beq_self, List.length_cons, List.length_nil, Nat.reduceAdd, Nat.zero_add, isI_v, isB_v, isS_v, avInt_v, avBool_v, avStr_v, cellAt_zero, cellAt_succ, lget_zero, lget_succ, frAt_zero, frAt_succ, blAt_zero, blAt_succ, isEx_ok, isEx_ne, isEx_none, isRt_some, isRt_none, like_st, likeFG_nil, likeFG_cons, likeBG_nil, likeBG_obj, likeBG_row, likeSG_nil, likeSG_cons, likeT_nil, likeS_nil, isNP_nil, isNP_ob, likeT_ep, isEp_ep, epCells_ep, likeT_agg, likeT_int, likeT_bool, likeT_str, likeT_lst, likeT_sl0, likeT_sl1, likeT_ptr, likeS_int, likeS_bool, likeS_str, likeS_lst, likeS_sl0, likeS_sl1, likeS_ptr, isPtr_ok, isSl_0, isSl_1, beq_self_b, Bool.and_self, Bool.and_true, Bool.true_and, Bool.and_false, Bool.false_and, cond_true, cond_false, Bool.not_true, Bool.not_false]
    exact ih
theorem s_Image (ws : List Int) (dn : Bool) (h : Wok ws) (hl : ws.length ≤ 100000) : ev 34 [ndP ws dn] = some [.ow false 5 1 (bts (img ws (!dn)))] := by
  have a := s_Lines false (ws.map wr) dn (by rw [List.length_map]; exact hl)
  rw [List.length_map] at a
  have e1 : IntKind.u8.wrap ((ws.length / 8 : Nat) : Int) = ((ws.length / 8 % 256 : Nat) : Int) := by rw [w_u8]; rfl
  have e2 : Int.fdiv ((ws.length / 8 : Nat) : Int) 256 = ((ws.length / 8 / 256 : Nat) : Int) := fdiv_nat _ 256
  have e3 : IntKind.u8.wrap ((ws.length / 8 / 256 : Nat) : Int) = ((ws.length / 8 / 256 % 256 : Nat) : Int) := by rw [w_u8]; rfl
  rw [ev34]
  refine bnd a ?_
  simp only [cellAt_zero, isI_v, cond_true]
  refine bnd a ?_
  simp only [cellAt_zero, isI_v, cond_true, avInt_v, e1, e2, e3, List.length_map]
  have fin : ∀ up : Bool, (ev 50 [.lst false 1 (bts (pre ws up))]) = some [.v (.int .u64 (crcX 0 (pre ws up) : Nat))] := fun up => s_Bytes false _ (by rw [pre_len]; omega) (pre_lt ws up)
  have fin2 : ∀ up : Bool, ev 49 [.ow false 5 1 (bts (pre ws up)), .v (.int .u64 (crcX 0 (pre ws up) : Nat))] = some [.ow false 5 1 (bts (img ws up))] := fun up => s_appendWord false _ _ (by rw [pre_len]; omega)
  cases dn with
  | true =>
    have hb0 : bts (hdr (ws.length / 8) false ++ body (ws.take 0)) = [[.v (.int .u8 77)], [.v (.int .u8 69)], [.v (.int .u8 77)], [.v (.int .u8 49)], [.v (.int .u8 ((ws.length / 8 % 256 : Nat) : Int))], [.v (.int .u8 ((ws.length / 8 / 256 % 256 : Nat) : Int))], [.v (.int .u8 0)]] := rfl
    have lp0 := l_Image false ws (hdr (ws.length / 8) false) h hl (show 7 ≤ 100 by decide) ws.length 0 (by omega)
    rw [hb0] at lp0
    refine bnd (a := ⟨some 0, ⟨[(3, (.sl false 0 0 none))], [⟨1, 5, 1, false, bts (pre ws false)⟩]⟩, []⟩) lp0 ?_
    simp -implicitDefEqProofs only [some_bind', obCells_agg, obCells_ob, isOb_ok, isL_ok, isOw_ok, avXs_lst, avXs_ow, avNil_lst, avNil_ow, avNil_sl, avOff_sl, avCut_sl, isAgg_agg, nat_beq_self, List.length_cons, List.length_nil, Nat.reduceAdd, Nat.zero_add, isI_v, isB_v, isS_v, avInt_v, avBool_v, avStr_v, cellAt_zero, cellAt_succ, lget_zero, lget_succ, frAt_zero, frAt_succ, blAt_zero, blAt_succ, isEx_ok, isEx_ne, isEx_none, isRt_some, isRt_none, like_st, likeFG_nil, likeFG_cons, likeBG_nil, likeBG_obj, likeBG_row, likeSG_nil, likeSG_cons, likeT_nil, likeS_nil, isNP_nil, isNP_ob, likeT_ep, isEp_ep, epCells_ep, likeT_agg, likeT_int, likeT_bool, likeT_str, likeT_lst, likeT_sl0, likeT_sl1, likeT_ptr, likeS_int, likeS_bool, likeS_str, likeS_lst, likeS_sl0, likeS_sl1, likeS_ptr, isPtr_ok, isSl_0, isSl_1, beq_self_b, Bool.and_self, Bool.and_true, Bool.true_and, Bool.and_false, Bool.false_and, cond_true, cond_false, Bool.not_true, Bool.not_false, fin, fin2, Bool.not_true]
  | false =>
    have hb0 : bts (hdr (ws.length / 8) true ++ body (ws.take 0)) = [[.v (.int .u8 77)], [.v (.int .u8 69)], [.v (.int .u8 77)], [.v (.int .u8 49)], [.v (.int .u8 ((ws.length / 8 % 256 : Nat) : Int))], [.v (.int .u8 ((ws.length / 8 / 256 % 256 : Nat) : Int))], [.v (.int .u8 1)]] := rfl
    have lp0 := l_Image false ws (hdr (ws.length / 8) true) h hl (show 7 ≤ 100 by decide) ws.length 0 (by omega)
    rw [hb0] at lp0
    refine bnd (a := ⟨some 0, ⟨[(3, (.sl false 0 0 none))], [⟨1, 5, 1, false, bts (pre ws true)⟩]⟩, []⟩) lp0 ?_
    simp -implicitDefEqProofs only [some_bind', obCells_agg, obCells_ob, isOb_ok, isL_ok, isOw_ok, avXs_lst, avXs_ow, avNil_lst, avNil_ow, avNil_sl, avOff_sl, avCut_sl, isAgg_agg, nat_beq_self, List.length_cons, List.length_nil, Nat.reduceAdd, Nat.zero_add, isI_v, isB_v, isS_v, avInt_v, avBool_v, avStr_v, cellAt_zero, cellAt_succ, lget_zero, lget_succ, frAt_zero, frAt_succ, blAt_zero, blAt_succ, isEx_ok, isEx_ne, isEx_none, isRt_some, isRt_none, like_st, likeFG_nil, likeFG_cons, likeBG_nil, likeBG_obj, likeBG_row, likeSG_nil, likeSG_cons, likeT_nil, likeS_nil, isNP_nil, isNP_ob, likeT_ep, isEp_ep, epCells_ep, likeT_agg, likeT_int, likeT_bool, likeT_str, likeT_lst, likeT_sl0, likeT_sl1, likeT_ptr, likeS_int, likeS_bool, likeS_str, likeS_lst, likeS_sl0, likeS_sl1, likeS_ptr, isPtr_ok, isSl_0, isSl_1, beq_self_b, Bool.and_self, Bool.and_true, Bool.true_and, Bool.and_false, Bool.false_and, cond_true, cond_false, Bool.not_true, Bool.not_false, fin, fin2, Bool.not_false]
theorem lit_shift (w m : Nat) : IntKind.u8.wrap (Int.fdiv (w : Int) (m : Int)) = ((w / m % 256 : Nat) : Int) := by
  rw [fdiv_nat, w_u8]; rfl
theorem little_shift (w : Nat) : little w = [w / 1 % 256, w / 256 % 256, w / 65536 % 256, w / 16777216 % 256, w / 4294967296 % 256, w / 1099511627776 % 256, w / 281474976710656 % 256, w / 72057594037927936 % 256] := by
  unfold little
  simp only [Nat.div_div_eq_div_mul, Nat.reduceMul, Nat.div_one]
theorem s_Little (w : Nat) : ev 62 [.v (.int .u64 (w : Int))] = some [.ow false 5 1 (bts (little w))] := by
  have s := lit_shift w
  have h : ev 62 [.v (.int .u64 (w : Int))] = some [.ow false 5 1 [[.v (.int .u8 (IntKind.u8.wrap (Int.fdiv (w : Int) ((1 : Nat) : Int))))], [.v (.int .u8 (IntKind.u8.wrap (Int.fdiv (w : Int) ((256 : Nat) : Int))))], [.v (.int .u8 (IntKind.u8.wrap (Int.fdiv (w : Int) ((65536 : Nat) : Int))))], [.v (.int .u8 (IntKind.u8.wrap (Int.fdiv (w : Int) ((16777216 : Nat) : Int))))], [.v (.int .u8 (IntKind.u8.wrap (Int.fdiv (w : Int) ((4294967296 : Nat) : Int))))], [.v (.int .u8 (IntKind.u8.wrap (Int.fdiv (w : Int) ((1099511627776 : Nat) : Int))))], [.v (.int .u8 (IntKind.u8.wrap (Int.fdiv (w : Int) ((281474976710656 : Nat) : Int))))], [.v (.int .u8 (IntKind.u8.wrap (Int.fdiv (w : Int) ((72057594037927936 : Nat) : Int))))]]] := evL_of (n := 12) (by kernel_rfl)
  rw [h, s, s, s, s, s, s, s, s, little_shift]
  rfl
theorem l_RImage (b up : Bool) (ws : List Int) (l : List Nat) (h : Wok ws) (hl : ws.length ≤ 100000) (hk : l.length ≤ 100) : ∀ (k i : Nat), i + k = ws.length →
    lp 55 0 0 ⟨[(0, (.ep [(.lst b 1 (ws.map wr)), (.v (.bool up))] 0)), (4, (.sl false 0 0 none)), (5, (.v (.int .i64 (i : Int))))], [⟨1, 5, 1, false, bts (l ++ body (ws.take i))⟩]⟩ =
      some ⟨some 0, ⟨[(4, (.sl false 0 0 none))], [⟨1, 5, 1, false, bts (l ++ body ws)⟩]⟩, []⟩
  | 0, i, hi => by
    rw [lp55_0, List.length_map, ltI_f (by omega), List.take_of_length_le (by omega)]; rfl
  | k + 1, i, hi => by
    have ih := l_RImage b up ws l h hl hk k (i + 1) (by omega)
    have hlt : i < ws.length := by omega
    have hw := h _ (mem_getD ws 0 i hlt)
    have e1 : IntKind.i64.wrap ((i : Int) + 1) = ((i + 1 : Nat) : Int) := by rw [w_i64]; omega
    have a := s_Little (ws.getD i 0).toNat
    rw [show (((ws.getD i 0).toNat : Nat) : Int) = ws.getD i 0 by omega] at a
    have e2 : bts (l ++ body (ws.take i)) ++ bts (little (ws.getD i 0).toNat) = bts (l ++ body (ws.take (i + 1))) := by
      rw [bts_app, List.append_assoc, ← body_snoc, ← take_succD ws i hlt]
    have e3 : leN (((bts (l ++ body (ws.take i))).length + (bts (little (ws.getD i 0).toNat)).length) * 1) 140737488355328 = true := leN_t (by
      rw [bts_len, bts_len, List.length_append, body_len, List.length_take, little_len]; omega)
    rw [lp55_0, List.length_map, ltI_t (by omega), leI_t (by omega), Int.toNat_natCast, get_wr ws i hlt, e1]
    simp only [wr_eq, cellAt_zero, isI_v, avInt_v, cond_true, Bool.and_self]
    refine bnd a ?_
    simp -implicitDefEqProofs only [some_bind', obCells_agg, obCells_ob, isOb_ok, isL_ok, isOw_ok, avXs_lst, avXs_ow, avNil_lst, avNil_ow, avNil_sl, avOff_sl, avCut_sl, isAgg_agg, nat_beq_self, List.length_cons, List.length_nil, Nat.reduceAdd, Nat.zero_add, isI_v, isB_v, isS_v, avInt_v, avBool_v, avStr_v, cellAt_zero, cellAt_succ, lget_zero, lget_succ, frAt_zero, frAt_succ, blAt_zero, blAt_succ, isEx_ok, isEx_ne, isEx_none, isRt_some, isRt_none, like_st, likeFG_nil, likeFG_cons, likeBG_nil, likeBG_obj, likeBG_row, likeSG_nil, likeSG_cons, likeT_nil, likeS_nil, isNP_nil, isNP_ob, likeT_ep, isEp_ep, epCells_ep, likeT_agg, likeT_int, likeT_bool, likeT_str, likeT_lst, likeT_sl0, likeT_sl1, likeT_ptr, likeS_int, likeS_bool, likeS_str, likeS_lst, likeS_sl0, likeS_sl1, likeS_ptr, isPtr_ok, isSl_0, isSl_1, beq_self_b, Bool.and_self, Bool.and_true, Bool.true_and, Bool.and_false, Bool.false_and, cond_true, cond_false, Bool.not_true, Bool.not_false, e3, e2, Bool.and_false]
    exact ih
theorem s_RImage (b : Bool) (ws : List Int) (up : Bool) (h : Wok ws) (hl : ws.length ≤ 100000) : ev 55 [.ep [.lst b 1 (ws.map wr), .v (.bool up)] 0] = some [.ow false 5 1 (bts (img ws up))] := by
  have e0 : IntKind.i64.wrap (Int.tdiv (ws.length : Int) 8) = ((ws.length / 8 : Nat) : Int) := by rw [tdiv_pos _ _ (by omega), w_i64]; omega
  have e1 : IntKind.u8.wrap ((ws.length / 8 : Nat) : Int) = ((ws.length / 8 % 256 : Nat) : Int) := by rw [w_u8]; rfl
  have e2 : Int.fdiv ((ws.length / 8 : Nat) : Int) 256 = ((ws.length / 8 / 256 : Nat) : Int) := fdiv_nat _ 256
  have e3 : IntKind.u8.wrap ((ws.length / 8 / 256 : Nat) : Int) = ((ws.length / 8 / 256 % 256 : Nat) : Int) := by rw [w_u8]; rfl
  rw [ev55]
  simp only [e0, e1, e2, e3, List.length_map]
  have fin : ∀ up : Bool, (ev 63 [.lst false 1 (bts (pre ws up))]) = some [.v (.int .u64 (crcX 0 (pre ws up) : Nat))] := fun up => s_RBytes false _ (by rw [pre_len]; omega) (pre_lt ws up)
  have fin2 : ∀ up : Bool, ev 62 [.v (.int .u64 (crcX 0 (pre ws up) : Nat))] = some [.ow false 5 1 (bts (little (crcX 0 (pre ws up))))] := fun up => s_Little _
  have fin3 : ∀ up : Bool, leN (((bts (pre ws up)).length + (bts (little (crcX 0 (pre ws up)))).length) * 1) 140737488355328 = true := fun up => leN_t (by rw [bts_len, bts_len, pre_len, little_len]; omega)
  have fin4 : ∀ up : Bool, bts (pre ws up) ++ bts (little (crcX 0 (pre ws up))) = bts (img ws up) := fun up => bts_app _ _
  cases up with
  | false =>
    have hb0 : bts (hdr (ws.length / 8) false ++ body (ws.take 0)) = [[.v (.int .u8 77)], [.v (.int .u8 69)], [.v (.int .u8 77)], [.v (.int .u8 49)], [.v (.int .u8 ((ws.length / 8 % 256 : Nat) : Int))], [.v (.int .u8 ((ws.length / 8 / 256 % 256 : Nat) : Int))], [.v (.int .u8 0)]] := rfl
    have lp0 := l_RImage b false ws (hdr (ws.length / 8) false) h hl (show 7 ≤ 100 by decide) ws.length 0 (by omega)
    rw [hb0] at lp0
    refine bnd (a := ⟨some 0, ⟨[(4, (.sl false 0 0 none))], [⟨1, 5, 1, false, bts (pre ws false)⟩]⟩, []⟩) lp0 ?_
    simp -implicitDefEqProofs only [some_bind', obCells_agg, obCells_ob, isOb_ok, isL_ok, isOw_ok, avXs_lst, avXs_ow, avNil_lst, avNil_ow, avNil_sl, avOff_sl, avCut_sl, isAgg_agg, nat_beq_self, List.length_cons, List.length_nil, Nat.reduceAdd, Nat.zero_add, isI_v, isB_v, isS_v, avInt_v, avBool_v, avStr_v, cellAt_zero, cellAt_succ, lget_zero, lget_succ, frAt_zero, frAt_succ, blAt_zero, blAt_succ, isEx_ok, isEx_ne, isEx_none, isRt_some, isRt_none, like_st, likeFG_nil, likeFG_cons, likeBG_nil, likeBG_obj, likeBG_row, likeSG_nil, likeSG_cons, likeT_nil, likeS_nil, isNP_nil, isNP_ob, likeT_ep, isEp_ep, epCells_ep, likeT_agg, likeT_int, likeT_bool, likeT_str, likeT_lst, likeT_sl0, likeT_sl1, likeT_ptr, likeS_int, likeS_bool, likeS_str, likeS_lst, likeS_sl0, likeS_sl1, likeS_ptr, isPtr_ok, isSl_0, isSl_1, beq_self_b, Bool.and_self, Bool.and_true, Bool.true_and, Bool.and_false, Bool.false_and, cond_true, cond_false, Bool.not_true, Bool.not_false, fin, fin2, fin3, fin4]
  | true =>
    have hb0 : bts (hdr (ws.length / 8) true ++ body (ws.take 0)) = [[.v (.int .u8 77)], [.v (.int .u8 69)], [.v (.int .u8 77)], [.v (.int .u8 49)], [.v (.int .u8 ((ws.length / 8 % 256 : Nat) : Int))], [.v (.int .u8 ((ws.length / 8 / 256 % 256 : Nat) : Int))], [.v (.int .u8 1)]] := rfl
    have lp0 := l_RImage b true ws (hdr (ws.length / 8) true) h hl (show 7 ≤ 100 by decide) ws.length 0 (by omega)
    rw [hb0] at lp0
    refine bnd (a := ⟨some 0, ⟨[(4, (.sl false 0 0 none))], [⟨1, 5, 1, false, bts (pre ws true)⟩]⟩, []⟩) lp0 ?_
    simp -implicitDefEqProofs only [some_bind', obCells_agg, obCells_ob, isOb_ok, isL_ok, isOw_ok, avXs_lst, avXs_ow, avNil_lst, avNil_ow, avNil_sl, avOff_sl, avCut_sl, isAgg_agg, nat_beq_self, List.length_cons, List.length_nil, Nat.reduceAdd, Nat.zero_add, isI_v, isB_v, isS_v, avInt_v, avBool_v, avStr_v, cellAt_zero, cellAt_succ, lget_zero, lget_succ, frAt_zero, frAt_succ, blAt_zero, blAt_succ, isEx_ok, isEx_ne, isEx_none, isRt_some, isRt_none, like_st, likeFG_nil, likeFG_cons, likeBG_nil, likeBG_obj, likeBG_row, likeSG_nil, likeSG_cons, likeT_nil, likeS_nil, isNP_nil, isNP_ob, likeT_ep, isEp_ep, epCells_ep, likeT_agg, likeT_int, likeT_bool, likeT_str, likeT_lst, likeT_sl0, likeT_sl1, likeT_ptr, likeS_int, likeS_bool, likeS_str, likeS_lst, likeS_sl0, likeS_sl1, likeS_ptr, isPtr_ok, isSl_0, isSl_1, beq_self_b, Bool.and_self, Bool.and_true, Bool.true_and, Bool.and_false, Bool.false_and, cond_true, cond_false, Bool.not_true, Bool.not_false, fin, fin2, fin3, fin4]
theorem s_SameImage (b c : Bool) (l : List Nat) (ws : List Int) (up : Bool) (h : Wok ws) (hl : ws.length ≤ 100000) : ev 38 [.lst c 1 (bts l), .ep [.lst b 1 (ws.map wr), .v (.bool up)] 0] =
    some [.v (.bool (ByteArray.toList ⟨(List.map Ev.byteOf (bts l)).toArray⟩ == ByteArray.toList ⟨(List.map Ev.byteOf (bts (img ws up))).toArray⟩))] := by
  rw [ev38, all_bts]
  refine bnd (s_RImage b ws up h hl) ?_
  simp -implicitDefEqProofs only [some_bind', obCells_agg, obCells_ob, isOb_ok, isL_ok, isOw_ok, avXs_lst, avXs_ow, avNil_lst, avNil_ow, avNil_sl, avOff_sl, avCut_sl, isAgg_agg, nat_beq_self, List.length_cons, List.length_nil, Nat.reduceAdd, Nat.zero_add, isI_v, isB_v, isS_v, avInt_v, avBool_v, avStr_v, cellAt_zero, cellAt_succ, lget_zero, lget_succ, frAt_zero, frAt_succ, blAt_zero, blAt_succ, isEx_ok, isEx_ne, isEx_none, isRt_some, isRt_none, like_st, likeFG_nil, likeFG_cons, likeBG_nil, likeBG_obj, likeBG_row, likeSG_nil, likeSG_cons, likeT_nil, likeS_nil, isNP_nil, isNP_ob, likeT_ep, isEp_ep, epCells_ep, likeT_agg, likeT_int, likeT_bool, likeT_str, likeT_lst, likeT_sl0, likeT_sl1, likeT_ptr, likeS_int, likeS_bool, likeS_str, likeS_lst, likeS_sl0, likeS_sl1, likeS_ptr, isPtr_ok, isSl_0, isSl_1, beq_self_b, Bool.and_self, Bool.and_true, Bool.true_and, Bool.and_false, Bool.false_and, cond_true, cond_false, Bool.not_true, Bool.not_false, all_bts]
theorem s_SameImg (b c : Bool) (ws : List Int) (up : Bool) (h : Wok ws) (hl : ws.length ≤ 100000) : ev 38 [.lst c 1 (bts (img ws up)), .ep [.lst b 1 (ws.map wr), .v (.bool up)] 0] = some [.v (.bool true)] := by
  rw [s_SameImage b c _ ws up h hl, beq_self_eq_true]
end Go.Proofs.Ytniocbmadbaojaa
