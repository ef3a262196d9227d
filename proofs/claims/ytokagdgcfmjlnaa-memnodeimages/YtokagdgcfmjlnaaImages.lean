/- MemnodeImages holds for every input. No conditions. -/
import Derived.Test.YtokagdgcfmjlnaaLoad
import Derived.Test.YtokagdgcfmjlnaaEq7
set_option linter.all false
namespace Go.Proofs.Ytokagdgcfmjlnaa
open Go.Ev
attribute [local congr] bind_first cond_first
theorem img_get (ws : List Int) (up : Bool) (i : Nat) (h : i < 7) : (img ws up).getD i 0 = (hdr (ws.length / 8) up).getD i 0 := by
  unfold img pre
  have h1 : (hdr (ws.length / 8) up).length = 7 := rfl
  rw [List.append_assoc]
  simp only [List.getD_eq_getElem?_getD]
  rw [List.getElem?_append_left (by omega)]
theorem loadP_img (ws : List Int) (up : Bool) (n : Nat) (hn : 1 ≤ n ∧ n ≤ 256) (hl : ws.length = 8 * n) (hw : Wok ws) : loadP (img ws up) = some (ws, up) := by
  have g4 : (img ws up).getD 4 0 = n % 256 := by rw [img_get ws up 4 (by omega)]; show ws.length / 8 % 256 = _; rw [hl]; omega
  have g5 : (img ws up).getD 5 0 = n / 256 % 256 := by rw [img_get ws up 5 (by omega)]; show ws.length / 8 / 256 % 256 = _; rw [hl]; omega
  have g6 : (img ws up).getD 6 0 = bif up then 1 else 0 := img_get ws up 6 (by omega)
  have hx : n % 256 + 256 * (n / 256 % 256) = n := by omega
  have hb : (!(Nat.beq (bif up then 1 else 0) 0)) = up := by cases up <;> rfl
  have hwd := wordsOf_img ws up hw
  rw [hl] at hwd
  unfold loadP
  rw [img_len, g4, g5, g6, hx, hb, hl, hwd, if_neg (by omega), if_neg (by omega), if_neg (by omega), if_pos rfl]
theorem loadR_img (ws : List Int) (up : Bool) (n : Nat) (hn : 1 ≤ n ∧ n ≤ 256) (hl : ws.length = 8 * n) (hw : Wok ws) : loadR (img ws up) = some (ws, up) := by
  have g6 : (img ws up).getD 6 0 = bif up then 1 else 0 := img_get ws up 6 (by omega)
  have hb : (Nat.beq (bif up then 1 else 0) 1) = up := by cases up <;> rfl
  have hwd := wordsOf_img ws up hw
  rw [hl] at hwd
  unfold loadR
  rw [img_len, g6, hb, hl, show (15 + 8 * (8 * n) - 15) / 64 = n by omega, hwd, if_neg (by omega), if_pos rfl]
theorem loadP_sound {l : List Nat} (hb : ∀ x ∈ l, x < 256) {ws : List Int} {up : Bool} (h : loadP l = some (ws, up)) : ∃ n, (1 ≤ n ∧ n ≤ 256) ∧ ws.length = 8 * n ∧ Wok ws ∧ img ws up = l := by
  unfold loadP at h
  split at h
  · cases h
  split at h
  · cases h
  rename_i h2
  split at h
  · cases h
  split at h
  · rename_i h4
    simp only [Option.some.injEq, Prod.mk.injEq] at h
    obtain ⟨rfl, rfl⟩ := h
    exact ⟨_, by omega, wordsOf_len _ _, wok_wordsOf hb _, h4⟩
  · cases h
theorem loadR_sound {l : List Nat} (hb : ∀ x ∈ l, x < 256) {ws : List Int} {up : Bool} (h : loadR l = some (ws, up)) : ∃ n, (1 ≤ n ∧ n ≤ 256) ∧ ws.length = 8 * n ∧ Wok ws ∧ img ws up = l := by
  unfold loadR at h
  split at h
  · cases h
  rename_i h2
  split at h
  · rename_i h4
    simp only [Option.some.injEq, Prod.mk.injEq] at h
    obtain ⟨rfl, rfl⟩ := h
    exact ⟨_, by omega, wordsOf_len _ _, wok_wordsOf hb _, h4⟩
  · cases h
theorem load_eq {l : List Nat} (hb : ∀ x ∈ l, x < 256) : loadR l = loadP l := by
  cases h : loadP l with
  | some p =>
    obtain ⟨ws, up⟩ := p
    obtain ⟨n, h1, h2, h3, rfl⟩ := loadP_sound hb h
    exact loadR_img ws up n h1 h2 h3
  | none =>
    cases h' : loadR l with
    | none => rfl
    | some p =>
      obtain ⟨ws, up⟩ := p
      obtain ⟨n, h1, h2, h3, rfl⟩ := loadR_sound hb h'
      rw [loadP_img ws up n h1 h2 h3] at h; cases h
theorem little_inj {a b : Nat} (ha : a < 18446744073709551616) (hb : b < 18446744073709551616) (h : little a = little b) : a = b := by
  rw [← dec_little a ha, ← dec_little b hb, h]
theorem xor_ne {x y : Nat} (hy : y ≠ 0) : x ^^^ y ≠ x := fun h => hy (by
  have := congrArg (x ^^^ ·) h
  simp only [xor_cancel, Nat.xor_self] at this
  exact this)
/-- One byte changed: no image. -/
theorem load_bad (ws : List Int) (up : Bool) (hw : Wok ws) (p y : Nat) (hp : p < (img ws up).length) (hy : y < 256) (hy0 : y ≠ 0) : loadP ((img ws up).set p ((img ws up).getD p 0 ^^^ y)) = none := by
  have hx256 : (img ws up).getD p 0 < 256 := img_lt ws up _ (mem_getD _ 0 p hp)
  have hb : ∀ x ∈ (img ws up).set p ((img ws up).getD p 0 ^^^ y), x < 256 := fun x hx => by
    rcases List.mem_or_eq_of_mem_set hx with hx | rfl
    · exact img_lt ws up x hx
    · exact Nat.xor_lt_two_pow (n := 8) hx256 hy
  cases h : loadP ((img ws up).set p ((img ws up).getD p 0 ^^^ y)) with
  | none => rfl
  | some q =>
    exfalso
    obtain ⟨vs, uq⟩ := q
    obtain ⟨n, h1, h2, h3, h4⟩ := loadP_sound hb h
    have hlen := congrArg List.length h4
    rw [img_len, List.length_set, img_len] at hlen
    have c64 : ∀ ws up, crcX 0 (pre ws up) < 18446744073709551616 := fun ws up => crcX_lt (by decide) (pre_lt ws up)
    generalize hX : (img ws up).getD p 0 = X at *
    by_cases hq : p < (pre ws up).length
    · -- the changed byte lies ahead of the checksum
      have e1 : (img ws up).set p (X ^^^ y) = (pre ws up).set p (X ^^^ y) ++ little (crcX 0 (pre ws up)) := by
        unfold img; rw [List.set_append_left _ _ hq]
      rw [e1] at h4
      unfold img at h4
      obtain ⟨e2, e3⟩ := List.append_inj h4 (by rw [List.length_set, pre_len, pre_len]; omega)
      have e4 := little_inj (c64 _ _) (c64 _ _) e3
      rw [e2] at e4
      have hXp : X = (pre ws up)[p] := by
        rw [← hX]; unfold img
        simp only [List.getD_eq_getElem?_getD]
        rw [List.getElem?_append_left hq]; simp [hq]
      have s1 : pre ws up = (pre ws up).take p ++ X :: (pre ws up).drop (p + 1) := by
        rw [hXp]; simp
      have s2 : (pre ws up).set p (X ^^^ y) = (pre ws up).take p ++ (X ^^^ y) :: (pre ws up).drop (p + 1) := by
        rw [List.set_eq_take_append_cons_drop, if_pos hq]
      rw [s2] at e4
      have e5 : crcX 0 ((pre ws up).take p ++ (X ^^^ y) :: (pre ws up).drop (p + 1)) = crcX 0 ((pre ws up).take p ++ X :: (pre ws up).drop (p + 1)) := by rw [← s1]; exact e4
      exact xor_ne hy0 (crcX_one (fun z hz => pre_lt ws up z (List.mem_of_mem_take hz)) (fun z hz => pre_lt ws up z (List.mem_of_mem_drop hz)) (Nat.xor_lt_two_pow (n := 8) hx256 hy) hx256 e5)
    · -- it lies in the checksum
      have e1 : (img ws up).set p (X ^^^ y) = pre ws up ++ (little (crcX 0 (pre ws up))).set (p - (pre ws up).length) (X ^^^ y) := by
        unfold img; rw [List.set_append_right _ _ (by omega)]
      rw [e1] at h4
      unfold img at h4
      obtain ⟨e2, e3⟩ := List.append_inj h4 (by rw [pre_len, pre_len]; omega)
      rw [e2] at e3
      have hp2 : p - (pre ws up).length < (little (crcX 0 (pre ws up))).length := by
        unfold img at hp; rw [List.length_append] at hp; omega
      have e4 := congrArg (fun l => l.getD (p - (pre ws up).length) 0) e3
      simp only [List.getD_eq_getElem?_getD] at e4
      rw [List.getElem?_set_self hp2] at e4
      have hXp : (little (crcX 0 (pre ws up)))[p - (pre ws up).length]?.getD 0 = X := by
        rw [← hX]; unfold img
        simp only [List.getD_eq_getElem?_getD]
        rw [List.getElem?_append_right (by omega)]
      rw [hXp] at e4
      exact xor_ne hy0 (by simpa using e4.symm)
theorem wrap_len (n : Nat) (h : n ≤ 256) : IntKind.i64.wrap (15 + IntKind.i64.wrap (64 * (n : Int))) = ((15 + 64 * n : Nat) : Int) := by
  have h1 : IntKind.i64.wrap (64 * (n : Int)) = 64 * (n : Int) := by rw [w_i64]; omega
  rw [h1, w_i64]; omega
theorem l_imgs (b c : Bool) (os : List Opr) (raw : List (List AV)) (n a y : Int) (ho : ∀ o ∈ os, o.ok) (hn : os.length ≤ 30) : ∀ (k i : Nat) (ws : List Int) (dn : Bool), i + k = os.length → (1 < ws.length ∧ ws.length ≤ 100) → Wok ws →
    ∃ ws' dn', Wok ws' ∧ ws'.length = ws.length ∧ lp 7 0 0 ⟨[(0, (.v (.int .i64 n))), (1, (.lst b 5 (os.map Opr.row))), (2, (.v (.int .i64 a))), (3, (.v (.int .u8 y))), (4, (.lst c 1 raw)), (11, (.ptr 0 0 0)), (13, (.ptr 2 0 0)), (14, (.v (.int .i64 (i : Int))))], [⟨1, 60, 2, true, [[(.sl false 1 0 none), (.v (.bool dn))]]⟩, ⟨1, 31, 1, false, ws.map wr⟩, ⟨1, 36, 2, true, [[(.sl false 3 0 none), (.v (.bool (!dn)))]]⟩, ⟨1, 31, 1, false, ws.map wr⟩]⟩ =
      some ⟨some 0, ⟨[(0, (.v (.int .i64 n))), (2, (.v (.int .i64 a))), (3, (.v (.int .u8 y))), (4, (.lst c 1 raw)), (11, (.ptr 0 0 0)), (13, (.ptr 2 0 0))], [⟨1, 60, 2, true, [[(.sl false 1 0 none), (.v (.bool dn'))]]⟩, ⟨1, 31, 1, false, ws'.map wr⟩, ⟨1, 36, 2, true, [[(.sl false 3 0 none), (.v (.bool (!dn')))]]⟩, ⟨1, 31, 1, false, ws'.map wr⟩]⟩, []⟩
  | 0, i, ws, dn, hi, hw, hok => by
    refine ⟨ws, dn, hok, rfl, ?_⟩
    rw [lp7_0, List.length_map, ltI_f (by omega)]; rfl
  | k + 1, i, ws, dn, hi, hw, hok => by
    have hlt : i < os.length := by omega
    have hoo := ho _ (mem_getD os o0 i hlt)
    have hg : lget (os.map Opr.row) i = Opr.row (os.getD i o0) := lget_mapD Opr.row os o0 i hlt
    have e1 : IntKind.i64.wrap ((i : Int) + 1) = ((i + 1 : Nat) : Int) := by rw [w_i64]; omega
    generalize os.getD i o0 = o at *
    have hlen := opW_len ws dn o
    obtain ⟨ws', dn', w0, w1, w2⟩ := l_imgs b c os raw n a y ho hn k (i + 1) (opW ws dn o) (opD ws dn o) (by omega) (by rw [hlen]; exact hw) (wok_op hok dn o hoo)
    refine ⟨ws', dn', w0, w1.trans hlen, ?_⟩
    have hd := s_op ws dn o ⟨hw.1, by omega⟩ hoo
    rw [lp7_0, List.length_map, ltI_t (by omega), leI_t (by omega), Int.toNat_natCast, hg, Opr.row_eq, e1]
    simp -implicitDefEqProofs only [some_bind', obCells_agg, obCells_ob, isOb_ok, isL_ok, isOw_ok, avXs_lst, avXs_ow, avNil_lst, avNil_ow, avNil_sl, avOff_sl, avCut_sl, isAgg_agg, nat_beq_self, List.length_cons, List.length_nil, Nat.reduceAdd, Nat.zero_add, isI_v, isB_v, isS_v, avInt_v, avBool_v, avStr_v, cellAt_zero, cellAt_succ, lget_zero, lget_succ, frAt_zero, frAt_succ, blAt_zero, blAt_succ, isEx_ok, isEx_ne, isEx_none, isRt_some, isRt_none, like_st, likeFG_nil, likeFG_cons, likeBG_nil, likeBG_obj, likeBG_row, likeSG_nil, likeSG_cons, likeT_nil, likeS_nil, isNP_nil, isNP_ob, likeT_ep, isEp_ep, epCells_ep, likeT_agg, likeT_int, likeT_bool, likeT_str, likeT_lst, likeT_sl0, likeT_sl1, likeT_ptr, likeS_int, likeS_bool, likeS_str, likeS_lst, likeS_sl0, likeS_sl1, likeS_ptr, isPtr_ok, isSl_0, isSl_1, beq_self_b, Bool.and_self, Bool.and_true, Bool.true_and, Bool.and_false, Bool.false_and, cond_true, cond_false, Bool.not_true, Bool.not_false]
    refine bnd hd ?_
    simp -implicitDefEqProofs only [some_bind', obCells_agg, obCells_ob, isOb_ok, isL_ok, isOw_ok, avXs_lst, avXs_ow, avNil_lst, avNil_ow, avNil_sl, avOff_sl, avCut_sl, isAgg_agg, nat_beq_self, List.length_cons, List.length_nil, Nat.reduceAdd, Nat.zero_add, isI_v, isB_v, isS_v, avInt_v, avBool_v, avStr_v, cellAt_zero, cellAt_succ, lget_zero, lget_succ, frAt_zero, frAt_succ, blAt_zero, blAt_succ, isEx_ok, isEx_ne, isEx_none, isRt_some, isRt_none, like_st, likeFG_nil, likeFG_cons, likeBG_nil, likeBG_obj, likeBG_row, likeSG_nil, likeSG_cons, likeT_nil, likeS_nil, isNP_nil, isNP_ob, likeT_ep, isEp_ep, epCells_ep, likeT_agg, likeT_int, likeT_bool, likeT_str, likeT_lst, likeT_sl0, likeT_sl1, likeT_ptr, likeS_int, likeS_bool, likeS_str, likeS_lst, likeS_sl0, likeS_sl1, likeS_ptr, isPtr_ok, isSl_0, isSl_1, beq_self_b, Bool.and_self, Bool.and_true, Bool.true_and, Bool.and_false, Bool.false_and, cond_true, cond_false, Bool.not_true, Bool.not_false, likeG_nil, likeG_cons, likeB_ow, likeB_bool]
    exact w2
def byteR (b : Nat) : List AV := bt b
theorem images_all {N : Nat} (l : List AV) (h : TypA Try.prog N Try.f7.params.toList l) : ∃ n, evF Try.prog cfg n 7 l = some [.v (.bool true)] := by
  rw [show Try.f7.params.toList = [3, 34, 3, 5, 50] by kernel_rfl] at h
  obtain ⟨a0, r, rfl, h0, h⟩ := h
  obtain ⟨a1, r, rfl, h1, h⟩ := h
  obtain ⟨a2, r, rfl, h2, h⟩ := h
  obtain ⟨a3, r, rfl, h3, h⟩ := h
  obtain ⟨a4, r, rfl, h4, h⟩ := h
  obtain rfl : r = [] := h
  obtain ⟨t, rfl, ht⟩ := openV3 h0
  obtain ⟨b, xs, rfl, _, _, f0⟩ := openV34 h1
  obtain ⟨a, rfl, ha⟩ := openV3 h2
  obtain ⟨yi, rfl, hyi⟩ := openV5 h3
  obtain ⟨c, rs, rfl, _, _, f4⟩ := openV50 h4
  obtain ⟨os, rfl, ho⟩ := rows_of Opr.row Opr.ok xs fun y hy => by
    obtain ⟨a0, a1, a2, a3, a4, e, r0, r1, r2, r3, r4⟩ := openC39 (f0 y hy)
    exact ⟨⟨a0, a1, a2, a3, a4⟩, e, r0, r1, r2, ⟨r3.1, by show a3 < _; omega⟩, ⟨r4.1, by show a4 < _; omega⟩⟩
  obtain ⟨raw, hraw, hrb⟩ := rows_of bt (fun b => b < 256) rs fun y hy => by
    obtain ⟨x, e, r0⟩ := openC5 (f4 y hy)
    refine ⟨x.toNat, ?_, by show x.toNat < 256; omega⟩
    rw [e, bt, show ((x.toNat : Nat) : Int) = x by omega]
  obtain rfl : rs = bts raw := hraw
  clear f4 h4
  obtain ⟨y, rfl⟩ : ∃ y : Nat, yi = (y : Int) := ⟨yi.toNat, by omega⟩
  refine evF_of_evL ?_
  refine (ev7 _ _ _ _ _ _ _).trans ?_
  have hp := s_Pick t 3 (by decide) (by decide)
  have hr := pick_range (n := t) (m := 3) (by decide)
  obtain ⟨n, hn⟩ : ∃ n : Nat, pick t 3 + 1 = (n : Int) := ⟨(pick t 3 + 1).toNat, by omega⟩
  have e1 : IntKind.i64.wrap (pick t 3 + 1) = (n : Int) := by rw [w_i64]; omega
  have e2 : IntKind.i64.wrap ((n : Int) * 8) = ((8 * n : Nat) : Int) := by rw [w_i64]; omega
  have hN := s_New (n : Int) ⟨by omega, by omega⟩
  rw [Int.toNat_natCast] at hN
  refine bnd hp ?_
  simp -implicitDefEqProofs only [some_bind', obCells_agg, obCells_ob, isOb_ok, isL_ok, isOw_ok, avXs_lst, avXs_ow, avNil_lst, avNil_ow, avNil_sl, avOff_sl, avCut_sl, isAgg_agg, nat_beq_self, List.length_cons, List.length_nil, Nat.reduceAdd, Nat.zero_add, isI_v, isB_v, isS_v, avInt_v, avBool_v, avStr_v, cellAt_zero, cellAt_succ, lget_zero, lget_succ, frAt_zero, frAt_succ, blAt_zero, blAt_succ, isEx_ok, isEx_ne, isEx_none, isRt_some, isRt_none, like_st, likeFG_nil, likeFG_cons, likeBG_nil, likeBG_obj, likeBG_row, likeSG_nil, likeSG_cons, likeT_nil, likeS_nil, isNP_nil, isNP_ob, likeT_ep, isEp_ep, epCells_ep, likeT_agg, likeT_int, likeT_bool, likeT_str, likeT_lst, likeT_sl0, likeT_sl1, likeT_ptr, likeS_int, likeS_bool, likeS_str, likeS_lst, likeS_sl0, likeS_sl1, likeS_ptr, isPtr_ok, isSl_0, isSl_1, beq_self_b, Bool.and_self, Bool.and_true, Bool.true_and, Bool.and_false, Bool.false_and, cond_true, cond_false, Bool.not_true, Bool.not_false, e1, List.length_map, bts_len]
  by_cases n1 : os.length ≤ 30
  case neg => rw [ltI_t (by omega)]; rfl
  rw [ltI_f (by omega)]
  by_cases n2 : raw.length ≤ 400
  case neg => rw [ltI_t (by omega)]; rfl
  rw [ltI_f (by omega)]
  have q1 : leI 0 ((8 * n : Nat) : Int) = true := leI_t (by omega)
  have q2 : leI ((8 * n : Nat) : Int) ((8 * n : Nat) : Int) = true := leI_t (by omega)
  have q3 : leI (((8 * n : Nat) : Int) * 8) 281474976710656 = true := leI_t (by omega)
  have q4 : leI ((8 * n : Nat) : Int) 281474976710656 = true := leI_t (by omega)
  have q5 : List.replicate (8 * n) [AV.v (.int .u64 0)] = (List.replicate (8 * n) (0 : Int)).map wr := by rw [List.map_replicate]; rfl
  obtain ⟨ws, dn, w1, w2, w3⟩ := l_imgs b c os (bts raw) (n : Int) a (y : Int) ho n1 os.length 0 (List.replicate (8 * n) 0) false (by omega) (by simp; omega) (fun w hw => by obtain ⟨_, rfl⟩ := List.mem_replicate.1 hw; exact ⟨by decide, by decide⟩)
  rw [List.length_replicate] at w2
  have z0 : ((0 : Nat) : Int) = 0 := rfl
  rw [z0, Bool.not_false] at w3
  simp -implicitDefEqProofs only [some_bind', obCells_agg, obCells_ob, isOb_ok, isL_ok, isOw_ok, avXs_lst, avXs_ow, avNil_lst, avNil_ow, avNil_sl, avOff_sl, avCut_sl, isAgg_agg, nat_beq_self, List.length_cons, List.length_nil, Nat.reduceAdd, Nat.zero_add, isI_v, isB_v, isS_v, avInt_v, avBool_v, avStr_v, cellAt_zero, cellAt_succ, lget_zero, lget_succ, frAt_zero, frAt_succ, blAt_zero, blAt_succ, isEx_ok, isEx_ne, isEx_none, isRt_some, isRt_none, like_st, likeFG_nil, likeFG_cons, likeBG_nil, likeBG_obj, likeBG_row, likeSG_nil, likeSG_cons, likeT_nil, likeS_nil, isNP_nil, isNP_ob, likeT_ep, isEp_ep, epCells_ep, likeT_agg, likeT_int, likeT_bool, likeT_str, likeT_lst, likeT_sl0, likeT_sl1, likeT_ptr, likeS_int, likeS_bool, likeS_str, likeS_lst, likeS_sl0, likeS_sl1, likeS_ptr, isPtr_ok, isSl_0, isSl_1, beq_self_b, Bool.and_self, Bool.and_true, Bool.true_and, Bool.and_false, Bool.false_and, cond_true, cond_false, Bool.not_true, Bool.not_false, hN, isNP_ob, s_awake, Int.reduceBEq, e2, q1, q2, q3, q4, Int.toNat_natCast, q5]
  refine bnd w3 ?_
  have i1 := s_Image ws dn w1 (by omega)
  have i2 := s_SameImg false false ws (!dn) w1 (by omega)
  have ld := s_Load false (img ws (!dn)) (by rw [img_len]; omega) (img_lt _ _)
  rw [loadP_img ws (!dn) n (by omega) w2 w1] at ld
  simp only [Bool.not_not] at ld
  have hil : (img ws (!dn)).length = 15 + 64 * n := by rw [img_len, w2]; omega
  have e3 := wrap_len n (by omega)
  simp -implicitDefEqProofs only [some_bind', obCells_agg, obCells_ob, isOb_ok, isL_ok, isOw_ok, avXs_lst, avXs_ow, avNil_lst, avNil_ow, avNil_sl, avOff_sl, avCut_sl, isAgg_agg, nat_beq_self, List.length_cons, List.length_nil, Nat.reduceAdd, Nat.zero_add, isI_v, isB_v, isS_v, avInt_v, avBool_v, avStr_v, cellAt_zero, cellAt_succ, lget_zero, lget_succ, frAt_zero, frAt_succ, blAt_zero, blAt_succ, isEx_ok, isEx_ne, isEx_none, isRt_some, isRt_none, like_st, likeFG_nil, likeFG_cons, likeBG_nil, likeBG_obj, likeBG_row, likeSG_nil, likeSG_cons, likeT_nil, likeS_nil, isNP_nil, isNP_ob, likeT_ep, isEp_ep, epCells_ep, likeT_agg, likeT_int, likeT_bool, likeT_str, likeT_lst, likeT_sl0, likeT_sl1, likeT_ptr, likeS_int, likeS_bool, likeS_str, likeS_lst, likeS_sl0, likeS_sl1, likeS_ptr, isPtr_ok, isSl_0, isSl_1, beq_self_b, Bool.and_self, Bool.and_true, Bool.true_and, Bool.and_false, Bool.false_and, cond_true, cond_false, Bool.not_true, Bool.not_false, i1, all_btsV, all_wr, Bool.false_or]
  refine bnd ld ?_
  have hp2 := s_Pick a ((15 + 64 * n : Nat) : Int) (by omega) (by omega)
  have hr2 := pick_range (n := a) (m := ((15 + 64 * n : Nat) : Int)) (by omega)
  obtain ⟨p, hpp⟩ : ∃ p : Nat, pick a ((15 + 64 * n : Nat) : Int) = (p : Int) := ⟨(pick a ((15 + 64 * n : Nat) : Int)).toNat, by omega⟩
  have hp3 : p < 15 + 64 * n := by omega
  rw [hpp] at hp2
  have gx := get_bts (img ws (!dn)) p (by omega)
  have hx := img_lt ws (!dn) _ (mem_getD (img ws (!dn)) 0 p (by omega))
  have hxor := xor_u8 ((img ws (!dn)).getD p 0) y hx (by omega)
  have hset : (bts (img ws (!dn))).set p [.v (.int .u8 (((img ws (!dn)).getD p 0 ^^^ y : Nat) : Int))] = bts ((img ws (!dn)).set p ((img ws (!dn)).getD p 0 ^^^ y)) := by
    unfold bts; rw [List.map_set]; rfl
  have hyb : ∀ x ∈ (img ws (!dn)).set p ((img ws (!dn)).getD p 0 ^^^ y), x < 256 := fun x hx' => by
    rcases List.mem_or_eq_of_mem_set hx' with h | rfl
    · exact img_lt _ _ x h
    · exact Nat.xor_lt_two_pow (n := 8) hx (by omega)
  have lx := s_Load false ((img ws (!dn)).set p ((img ws (!dn)).getD p 0 ^^^ y)) (by rw [List.length_set, img_len]; omega) hyb
  have ly := s_Load c raw (by omega) hrb
  obtain ⟨z, lz, ⟨zc, zw, zu, hz⟩, hz2⟩ := s_RLoad c raw (by omega) hrb
  rw [load_eq hrb] at lz hz2
  have bl : ∀ k : Nat, ltI (k : Int) ((15 + 64 * n : Nat) : Int) = decide (k < 15 + 64 * n) := fun k => by
    unfold ltI; congr 1; rw [eq_iff_iff]; omega
  have v1 : leI 0 (p : Int) = true := leI_t (by omega)
  have v2 : ltI (p : Int) ((15 + 64 * n : Nat) : Int) = true := ltI_t (by omega)
  have v3 : ltN p (15 + 64 * n) = true := ltN_t hp3
  simp -implicitDefEqProofs only [some_bind', obCells_agg, obCells_ob, isOb_ok, isL_ok, isOw_ok, avXs_lst, avXs_ow, avNil_lst, avNil_ow, avNil_sl, avOff_sl, avCut_sl, isAgg_agg, nat_beq_self, List.length_cons, List.length_nil, Nat.reduceAdd, Nat.zero_add, isI_v, isB_v, isS_v, avInt_v, avBool_v, avStr_v, cellAt_zero, cellAt_succ, lget_zero, lget_succ, frAt_zero, frAt_succ, blAt_zero, blAt_succ, isEx_ok, isEx_ne, isEx_none, isRt_some, isRt_none, like_st, likeFG_nil, likeFG_cons, likeBG_nil, likeBG_obj, likeBG_row, likeSG_nil, likeSG_cons, likeT_nil, likeS_nil, isNP_nil, isNP_ob, likeT_ep, isEp_ep, epCells_ep, likeT_agg, likeT_int, likeT_bool, likeT_str, likeT_lst, likeT_sl0, likeT_sl1, likeT_ptr, likeS_int, likeS_bool, likeS_str, likeS_lst, likeS_sl0, likeS_sl1, likeS_ptr, isPtr_ok, isSl_0, isSl_1, beq_self_b, Bool.and_self, Bool.and_true, Bool.true_and, Bool.and_false, Bool.false_and, cond_true, cond_false, Bool.not_true, Bool.not_false, isNP_ob, all_wr, all_btsV, Bool.false_or, Int.reduceBEq, i1, i2, bts_len, hil, Nat.sub_zero, e3, beq_self_i, hp2, v1, v2, v3, Int.toNat_natCast, gx, bt, hxor, hset]
  -- what the raw bytes are
  have fin : (∃ vs uq, loadP raw = some (vs, uq) ∧ Wok vs ∧ vs.length ≤ 100000) ∨ loadP raw = none := by
    cases hl : loadP raw with
    | none => exact .inr rfl
    | some q =>
      obtain ⟨vs, uq⟩ := q
      obtain ⟨m, m1, m2, m3, _⟩ := loadP_sound hrb hl
      exact .inl ⟨vs, uq, rfl, m3, by omega⟩
  by_cases hy0 : y = 0
  · subst hy0
    have hsame : (img ws (!dn)).set p ((img ws (!dn)).getD p 0 ^^^ 0) = img ws (!dn) := by
      rw [Nat.xor_zero]
      have hlt : p < (img ws (!dn)).length := by omega
      have : (img ws (!dn)).getD p 0 = (img ws (!dn))[p] := by simp [hlt]
      rw [this, List.set_getElem_self]
    rw [hsame, loadP_img ws (!dn) n (by omega) w2 w1] at lx
    simp only [Bool.not_not] at lx
    have hb0 : (((0 : Nat) : Int) == 0) = true := rfl
    rw [hsame]
    refine bnd lx ?_
    rcases fin with ⟨vs, uq, hv, hv1, hv2⟩ | hv
    · rw [hv] at ly lz hz2
      obtain rfl := hz2 vs uq rfl
      have k1 := s_Image vs (!uq) hv1 hv2
      have k2 := s_SameImg false false vs uq hv1 hv2
      rw [not_not'] at k1
      simp -implicitDefEqProofs only [some_bind', obCells_agg, obCells_ob, isOb_ok, isL_ok, isOw_ok, avXs_lst, avXs_ow, avNil_lst, avNil_ow, avNil_sl, avOff_sl, avCut_sl, isAgg_agg, nat_beq_self, List.length_cons, List.length_nil, Nat.reduceAdd, Nat.zero_add, isI_v, isB_v, isS_v, avInt_v, avBool_v, avStr_v, cellAt_zero, cellAt_succ, lget_zero, lget_succ, frAt_zero, frAt_succ, blAt_zero, blAt_succ, isEx_ok, isEx_ne, isEx_none, isRt_some, isRt_none, like_st, likeFG_nil, likeFG_cons, likeBG_nil, likeBG_obj, likeBG_row, likeSG_nil, likeSG_cons, likeT_nil, likeS_nil, isNP_nil, isNP_ob, likeT_ep, isEp_ep, epCells_ep, likeT_agg, likeT_int, likeT_bool, likeT_str, likeT_lst, likeT_sl0, likeT_sl1, likeT_ptr, likeS_int, likeS_bool, likeS_str, likeS_lst, likeS_sl0, likeS_sl1, likeS_ptr, isPtr_ok, isSl_0, isSl_1, beq_self_b, Bool.and_self, Bool.and_true, Bool.true_and, Bool.and_false, Bool.false_and, cond_true, cond_false, Bool.not_true, Bool.not_false, isNP_ob, all_wr, all_btsV, Bool.false_or, hb0, beq_self_b, Int.reduceBEq]
      refine bnd ly ?_
      simp -implicitDefEqProofs only [some_bind', obCells_agg, obCells_ob, isOb_ok, isL_ok, isOw_ok, avXs_lst, avXs_ow, avNil_lst, avNil_ow, avNil_sl, avOff_sl, avCut_sl, isAgg_agg, nat_beq_self, List.length_cons, List.length_nil, Nat.reduceAdd, Nat.zero_add, isI_v, isB_v, isS_v, avInt_v, avBool_v, avStr_v, cellAt_zero, cellAt_succ, lget_zero, lget_succ, frAt_zero, frAt_succ, blAt_zero, blAt_succ, isEx_ok, isEx_ne, isEx_none, isRt_some, isRt_none, like_st, likeFG_nil, likeFG_cons, likeBG_nil, likeBG_obj, likeBG_row, likeSG_nil, likeSG_cons, likeT_nil, likeS_nil, isNP_nil, isNP_ob, likeT_ep, isEp_ep, epCells_ep, likeT_agg, likeT_int, likeT_bool, likeT_str, likeT_lst, likeT_sl0, likeT_sl1, likeT_ptr, likeS_int, likeS_bool, likeS_str, likeS_lst, likeS_sl0, likeS_sl1, likeS_ptr, isPtr_ok, isSl_0, isSl_1, beq_self_b, Bool.and_self, Bool.and_true, Bool.true_and, Bool.and_false, Bool.false_and, cond_true, cond_false, Bool.not_true, Bool.not_false, isNP_ob, all_wr, all_btsV, Bool.false_or, hb0, beq_self_b, Int.reduceBEq]
      refine bnd lz ?_
      simp -implicitDefEqProofs only [some_bind', obCells_agg, obCells_ob, isOb_ok, isL_ok, isOw_ok, avXs_lst, avXs_ow, avNil_lst, avNil_ow, avNil_sl, avOff_sl, avCut_sl, isAgg_agg, nat_beq_self, List.length_cons, List.length_nil, Nat.reduceAdd, Nat.zero_add, isI_v, isB_v, isS_v, avInt_v, avBool_v, avStr_v, cellAt_zero, cellAt_succ, lget_zero, lget_succ, frAt_zero, frAt_succ, blAt_zero, blAt_succ, isEx_ok, isEx_ne, isEx_none, isRt_some, isRt_none, like_st, likeFG_nil, likeFG_cons, likeBG_nil, likeBG_obj, likeBG_row, likeSG_nil, likeSG_cons, likeT_nil, likeS_nil, isNP_nil, isNP_ob, likeT_ep, isEp_ep, epCells_ep, likeT_agg, likeT_int, likeT_bool, likeT_str, likeT_lst, likeT_sl0, likeT_sl1, likeT_ptr, likeS_int, likeS_bool, likeS_str, likeS_lst, likeS_sl0, likeS_sl1, likeS_ptr, isPtr_ok, isSl_0, isSl_1, beq_self_b, Bool.and_self, Bool.and_true, Bool.true_and, Bool.and_false, Bool.false_and, cond_true, cond_false, Bool.not_true, Bool.not_false, isNP_ob, all_wr, all_btsV, Bool.false_or, hb0, beq_self_b, Int.reduceBEq, Option.isSome_some, k1, k2]
    · rw [hv] at ly lz
      subst hz
      simp -implicitDefEqProofs only [some_bind', obCells_agg, obCells_ob, isOb_ok, isL_ok, isOw_ok, avXs_lst, avXs_ow, avNil_lst, avNil_ow, avNil_sl, avOff_sl, avCut_sl, isAgg_agg, nat_beq_self, List.length_cons, List.length_nil, Nat.reduceAdd, Nat.zero_add, isI_v, isB_v, isS_v, avInt_v, avBool_v, avStr_v, cellAt_zero, cellAt_succ, lget_zero, lget_succ, frAt_zero, frAt_succ, blAt_zero, blAt_succ, isEx_ok, isEx_ne, isEx_none, isRt_some, isRt_none, like_st, likeFG_nil, likeFG_cons, likeBG_nil, likeBG_obj, likeBG_row, likeSG_nil, likeSG_cons, likeT_nil, likeS_nil, isNP_nil, isNP_ob, likeT_ep, isEp_ep, epCells_ep, likeT_agg, likeT_int, likeT_bool, likeT_str, likeT_lst, likeT_sl0, likeT_sl1, likeT_ptr, likeS_int, likeS_bool, likeS_str, likeS_lst, likeS_sl0, likeS_sl1, likeS_ptr, isPtr_ok, isSl_0, isSl_1, beq_self_b, Bool.and_self, Bool.and_true, Bool.true_and, Bool.and_false, Bool.false_and, cond_true, cond_false, Bool.not_true, Bool.not_false, isNP_ob, all_wr, all_btsV, Bool.false_or, hb0, beq_self_b, Int.reduceBEq]
      refine bnd ly ?_
      simp -implicitDefEqProofs only [some_bind', obCells_agg, obCells_ob, isOb_ok, isL_ok, isOw_ok, avXs_lst, avXs_ow, avNil_lst, avNil_ow, avNil_sl, avOff_sl, avCut_sl, isAgg_agg, nat_beq_self, List.length_cons, List.length_nil, Nat.reduceAdd, Nat.zero_add, isI_v, isB_v, isS_v, avInt_v, avBool_v, avStr_v, cellAt_zero, cellAt_succ, lget_zero, lget_succ, frAt_zero, frAt_succ, blAt_zero, blAt_succ, isEx_ok, isEx_ne, isEx_none, isRt_some, isRt_none, like_st, likeFG_nil, likeFG_cons, likeBG_nil, likeBG_obj, likeBG_row, likeSG_nil, likeSG_cons, likeT_nil, likeS_nil, isNP_nil, isNP_ob, likeT_ep, isEp_ep, epCells_ep, likeT_agg, likeT_int, likeT_bool, likeT_str, likeT_lst, likeT_sl0, likeT_sl1, likeT_ptr, likeS_int, likeS_bool, likeS_str, likeS_lst, likeS_sl0, likeS_sl1, likeS_ptr, isPtr_ok, isSl_0, isSl_1, beq_self_b, Bool.and_self, Bool.and_true, Bool.true_and, Bool.and_false, Bool.false_and, cond_true, cond_false, Bool.not_true, Bool.not_false, isNP_ob, isNP_nil, all_wr, all_btsV, Bool.false_or, hb0, beq_self_b, Int.reduceBEq]
      refine bnd lz ?_
      simp -implicitDefEqProofs only [some_bind', obCells_agg, obCells_ob, isOb_ok, isL_ok, isOw_ok, avXs_lst, avXs_ow, avNil_lst, avNil_ow, avNil_sl, avOff_sl, avCut_sl, isAgg_agg, nat_beq_self, List.length_cons, List.length_nil, Nat.reduceAdd, Nat.zero_add, isI_v, isB_v, isS_v, avInt_v, avBool_v, avStr_v, cellAt_zero, cellAt_succ, lget_zero, lget_succ, frAt_zero, frAt_succ, blAt_zero, blAt_succ, isEx_ok, isEx_ne, isEx_none, isRt_some, isRt_none, like_st, likeFG_nil, likeFG_cons, likeBG_nil, likeBG_obj, likeBG_row, likeSG_nil, likeSG_cons, likeT_nil, likeS_nil, isNP_nil, isNP_ob, likeT_ep, isEp_ep, epCells_ep, likeT_agg, likeT_int, likeT_bool, likeT_str, likeT_lst, likeT_sl0, likeT_sl1, likeT_ptr, likeS_int, likeS_bool, likeS_str, likeS_lst, likeS_sl0, likeS_sl1, likeS_ptr, isPtr_ok, isSl_0, isSl_1, beq_self_b, Bool.and_self, Bool.and_true, Bool.true_and, Bool.and_false, Bool.false_and, cond_true, cond_false, Bool.not_true, Bool.not_false, isNP_ob, all_wr, all_btsV, Bool.false_or, hb0, beq_self_b, Int.reduceBEq, Option.isSome_none]
  · have hbad := load_bad ws (!dn) w1 p y (by omega) (by omega) hy0
    rw [hbad] at lx
    have hb0 : (((y : Nat) : Int) == 0) = false := beq_eq_false_iff_ne.2 (by omega)
    refine bnd lx ?_
    rcases fin with ⟨vs, uq, hv, hv1, hv2⟩ | hv
    · rw [hv] at ly lz hz2
      obtain rfl := hz2 vs uq rfl
      have k1 := s_Image vs (!uq) hv1 hv2
      have k2 := s_SameImg false false vs uq hv1 hv2
      rw [not_not'] at k1
      simp -implicitDefEqProofs only [some_bind', obCells_agg, obCells_ob, isOb_ok, isL_ok, isOw_ok, avXs_lst, avXs_ow, avNil_lst, avNil_ow, avNil_sl, avOff_sl, avCut_sl, isAgg_agg, nat_beq_self, List.length_cons, List.length_nil, Nat.reduceAdd, Nat.zero_add, isI_v, isB_v, isS_v, avInt_v, avBool_v, avStr_v, cellAt_zero, cellAt_succ, lget_zero, lget_succ, frAt_zero, frAt_succ, blAt_zero, blAt_succ, isEx_ok, isEx_ne, isEx_none, isRt_some, isRt_none, like_st, likeFG_nil, likeFG_cons, likeBG_nil, likeBG_obj, likeBG_row, likeSG_nil, likeSG_cons, likeT_nil, likeS_nil, isNP_nil, isNP_ob, likeT_ep, isEp_ep, epCells_ep, likeT_agg, likeT_int, likeT_bool, likeT_str, likeT_lst, likeT_sl0, likeT_sl1, likeT_ptr, likeS_int, likeS_bool, likeS_str, likeS_lst, likeS_sl0, likeS_sl1, likeS_ptr, isPtr_ok, isSl_0, isSl_1, beq_self_b, Bool.and_self, Bool.and_true, Bool.true_and, Bool.and_false, Bool.false_and, cond_true, cond_false, Bool.not_true, Bool.not_false, isNP_nil, all_wr, all_btsV, Bool.false_or, hb0, beq_self_b, Int.reduceBEq]
      refine bnd ly ?_
      simp -implicitDefEqProofs only [some_bind', obCells_agg, obCells_ob, isOb_ok, isL_ok, isOw_ok, avXs_lst, avXs_ow, avNil_lst, avNil_ow, avNil_sl, avOff_sl, avCut_sl, isAgg_agg, nat_beq_self, List.length_cons, List.length_nil, Nat.reduceAdd, Nat.zero_add, isI_v, isB_v, isS_v, avInt_v, avBool_v, avStr_v, cellAt_zero, cellAt_succ, lget_zero, lget_succ, frAt_zero, frAt_succ, blAt_zero, blAt_succ, isEx_ok, isEx_ne, isEx_none, isRt_some, isRt_none, like_st, likeFG_nil, likeFG_cons, likeBG_nil, likeBG_obj, likeBG_row, likeSG_nil, likeSG_cons, likeT_nil, likeS_nil, isNP_nil, isNP_ob, likeT_ep, isEp_ep, epCells_ep, likeT_agg, likeT_int, likeT_bool, likeT_str, likeT_lst, likeT_sl0, likeT_sl1, likeT_ptr, likeS_int, likeS_bool, likeS_str, likeS_lst, likeS_sl0, likeS_sl1, likeS_ptr, isPtr_ok, isSl_0, isSl_1, beq_self_b, Bool.and_self, Bool.and_true, Bool.true_and, Bool.and_false, Bool.false_and, cond_true, cond_false, Bool.not_true, Bool.not_false, isNP_ob, all_wr, all_btsV, Bool.false_or, hb0, beq_self_b, Int.reduceBEq]
      refine bnd lz ?_
      simp -implicitDefEqProofs only [some_bind', obCells_agg, obCells_ob, isOb_ok, isL_ok, isOw_ok, avXs_lst, avXs_ow, avNil_lst, avNil_ow, avNil_sl, avOff_sl, avCut_sl, isAgg_agg, nat_beq_self, List.length_cons, List.length_nil, Nat.reduceAdd, Nat.zero_add, isI_v, isB_v, isS_v, avInt_v, avBool_v, avStr_v, cellAt_zero, cellAt_succ, lget_zero, lget_succ, frAt_zero, frAt_succ, blAt_zero, blAt_succ, isEx_ok, isEx_ne, isEx_none, isRt_some, isRt_none, like_st, likeFG_nil, likeFG_cons, likeBG_nil, likeBG_obj, likeBG_row, likeSG_nil, likeSG_cons, likeT_nil, likeS_nil, isNP_nil, isNP_ob, likeT_ep, isEp_ep, epCells_ep, likeT_agg, likeT_int, likeT_bool, likeT_str, likeT_lst, likeT_sl0, likeT_sl1, likeT_ptr, likeS_int, likeS_bool, likeS_str, likeS_lst, likeS_sl0, likeS_sl1, likeS_ptr, isPtr_ok, isSl_0, isSl_1, beq_self_b, Bool.and_self, Bool.and_true, Bool.true_and, Bool.and_false, Bool.false_and, cond_true, cond_false, Bool.not_true, Bool.not_false, isNP_ob, all_wr, all_btsV, Bool.false_or, hb0, beq_self_b, Int.reduceBEq, Option.isSome_some, k1, k2]
    · rw [hv] at ly lz
      subst hz
      simp -implicitDefEqProofs only [some_bind', obCells_agg, obCells_ob, isOb_ok, isL_ok, isOw_ok, avXs_lst, avXs_ow, avNil_lst, avNil_ow, avNil_sl, avOff_sl, avCut_sl, isAgg_agg, nat_beq_self, List.length_cons, List.length_nil, Nat.reduceAdd, Nat.zero_add, isI_v, isB_v, isS_v, avInt_v, avBool_v, avStr_v, cellAt_zero, cellAt_succ, lget_zero, lget_succ, frAt_zero, frAt_succ, blAt_zero, blAt_succ, isEx_ok, isEx_ne, isEx_none, isRt_some, isRt_none, like_st, likeFG_nil, likeFG_cons, likeBG_nil, likeBG_obj, likeBG_row, likeSG_nil, likeSG_cons, likeT_nil, likeS_nil, isNP_nil, isNP_ob, likeT_ep, isEp_ep, epCells_ep, likeT_agg, likeT_int, likeT_bool, likeT_str, likeT_lst, likeT_sl0, likeT_sl1, likeT_ptr, likeS_int, likeS_bool, likeS_str, likeS_lst, likeS_sl0, likeS_sl1, likeS_ptr, isPtr_ok, isSl_0, isSl_1, beq_self_b, Bool.and_self, Bool.and_true, Bool.true_and, Bool.and_false, Bool.false_and, cond_true, cond_false, Bool.not_true, Bool.not_false, isNP_nil, all_wr, all_btsV, Bool.false_or, hb0, beq_self_b, Int.reduceBEq]
      refine bnd ly ?_
      simp -implicitDefEqProofs only [some_bind', obCells_agg, obCells_ob, isOb_ok, isL_ok, isOw_ok, avXs_lst, avXs_ow, avNil_lst, avNil_ow, avNil_sl, avOff_sl, avCut_sl, isAgg_agg, nat_beq_self, List.length_cons, List.length_nil, Nat.reduceAdd, Nat.zero_add, isI_v, isB_v, isS_v, avInt_v, avBool_v, avStr_v, cellAt_zero, cellAt_succ, lget_zero, lget_succ, frAt_zero, frAt_succ, blAt_zero, blAt_succ, isEx_ok, isEx_ne, isEx_none, isRt_some, isRt_none, like_st, likeFG_nil, likeFG_cons, likeBG_nil, likeBG_obj, likeBG_row, likeSG_nil, likeSG_cons, likeT_nil, likeS_nil, isNP_nil, isNP_ob, likeT_ep, isEp_ep, epCells_ep, likeT_agg, likeT_int, likeT_bool, likeT_str, likeT_lst, likeT_sl0, likeT_sl1, likeT_ptr, likeS_int, likeS_bool, likeS_str, likeS_lst, likeS_sl0, likeS_sl1, likeS_ptr, isPtr_ok, isSl_0, isSl_1, beq_self_b, Bool.and_self, Bool.and_true, Bool.true_and, Bool.and_false, Bool.false_and, cond_true, cond_false, Bool.not_true, Bool.not_false, isNP_nil, all_wr, all_btsV, Bool.false_or, hb0, beq_self_b, Int.reduceBEq]
      refine bnd lz ?_
      simp -implicitDefEqProofs only [some_bind', obCells_agg, obCells_ob, isOb_ok, isL_ok, isOw_ok, avXs_lst, avXs_ow, avNil_lst, avNil_ow, avNil_sl, avOff_sl, avCut_sl, isAgg_agg, nat_beq_self, List.length_cons, List.length_nil, Nat.reduceAdd, Nat.zero_add, isI_v, isB_v, isS_v, avInt_v, avBool_v, avStr_v, cellAt_zero, cellAt_succ, lget_zero, lget_succ, frAt_zero, frAt_succ, blAt_zero, blAt_succ, isEx_ok, isEx_ne, isEx_none, isRt_some, isRt_none, like_st, likeFG_nil, likeFG_cons, likeBG_nil, likeBG_obj, likeBG_row, likeSG_nil, likeSG_cons, likeT_nil, likeS_nil, isNP_nil, isNP_ob, likeT_ep, isEp_ep, epCells_ep, likeT_agg, likeT_int, likeT_bool, likeT_str, likeT_lst, likeT_sl0, likeT_sl1, likeT_ptr, likeS_int, likeS_bool, likeS_str, likeS_lst, likeS_sl0, likeS_sl1, likeS_ptr, isPtr_ok, isSl_0, isSl_1, beq_self_b, Bool.and_self, Bool.and_true, Bool.true_and, Bool.and_false, Bool.false_and, cond_true, cond_false, Bool.not_true, Bool.not_false, isNP_ob, all_wr, all_btsV, Bool.false_or, hb0, beq_self_b, Int.reduceBEq, Option.isSome_none]
end Go.Proofs.Ytokagdgcfmjlnaa
