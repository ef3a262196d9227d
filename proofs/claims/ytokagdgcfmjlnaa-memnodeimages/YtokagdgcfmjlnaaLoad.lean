/- Loading images. -/
import Derived.Test.YtokagdgcfmjlnaaOpr
set_option linter.all false
namespace Go.Proofs.Ytokagdgcfmjlnaa
open Go.Ev
attribute [local congr] bind_first cond_first
def dec : List Nat → Nat
  | [] => 0
  | b :: r => dec r * 256 + b
theorem dec_lt : ∀ (l : List Nat), (∀ x ∈ l, x < 256) → dec l < 256 ^ l.length
  | [], _ => by decide
  | b :: r, h => by
    have h1 := dec_lt r fun x hx => h x (by simp [hx])
    have h2 := h b (by simp)
    rw [dec, List.length_cons, Nat.pow_succ]
    omega
theorem dec_snoc : ∀ (l : List Nat) (b : Nat), dec (l ++ [b]) = dec l + b * 256 ^ l.length
  | [], b => by simp [dec]
  | a :: l, b => by
    rw [List.cons_append, dec, dec_snoc l b, dec, List.length_cons, Nat.pow_succ, Nat.add_mul, Nat.mul_assoc]; omega
theorem dec_little (w : Nat) (h : w < 18446744073709551616) : dec (little w) = w := by
  unfold little
  simp only [dec]
  omega
theorem body_drop : ∀ (ws : List Int) (i : Nat), (body ws).drop (8 * i) = body (ws.drop i)
  | ws, 0 => rfl
  | [], i + 1 => by simp [body]
  | w :: ws, i + 1 => by
    have h := body_drop ws i
    have e : body (w :: ws) = little w.toNat ++ body ws := by unfold body; rw [List.flatMap_cons]
    rw [e, List.drop_succ_cons, ← h, show 8 * (i + 1) = (little w.toNat).length + 8 * i by rw [little_len]; omega, List.drop_append, List.drop_of_length_le (Nat.le_add_right _ _), List.nil_append, Nat.add_sub_cancel_left]
theorem img_word (ws : List Int) (up : Bool) (hw : Wok ws) (i : Nat) (h : i < ws.length) : (dec (((img ws up).drop (7 + 8 * i)).take 8) : Int) = ws.getD i 0 := by
  have e1 : (img ws up).drop (7 + 8 * i) = body (ws.drop i) ++ little (crcX 0 (pre ws up)) := by
    unfold img
    have h7 : (pre ws up).drop (7 + 8 * i) = body (ws.drop i) := by
      unfold pre
      rw [show 7 + 8 * i = (hdr (ws.length / 8) up).length + 8 * i from rfl, List.drop_append, List.drop_of_length_le (Nat.le_add_right _ _), List.nil_append, Nat.add_sub_cancel_left, body_drop]
    rw [List.drop_append_of_le_length (by rw [pre_len]; omega), h7]
  have hx := hw _ (mem_getD ws 0 i h)
  have e2 : ws.drop i = ws.getD i 0 :: ws.drop (i + 1) := by rw [List.drop_eq_getElem_cons h]; simp [h]
  have e3 : body (ws.getD i 0 :: ws.drop (i + 1)) = little (ws.getD i 0).toNat ++ body (ws.drop (i + 1)) := by unfold body; rw [List.flatMap_cons]
  rw [e1, e2, e3, List.append_assoc, show 8 = (little (ws.getD i 0).toNat).length from rfl, List.take_left, dec_little _ (by omega)]
  omega
def wordsOf (l : List Nat) (m : Nat) : List Int := (List.range m).map fun i => ((dec ((l.drop (7 + 8 * i)).take 8) : Nat) : Int)
theorem wordsOf_len (l : List Nat) (m : Nat) : (wordsOf l m).length = m := by unfold wordsOf; simp
theorem wordsOf_succ (l : List Nat) (m : Nat) : wordsOf l (m + 1) = wordsOf l m ++ [((dec ((l.drop (7 + 8 * m)).take 8) : Nat) : Int)] := by
  unfold wordsOf; rw [List.range_succ, List.map_append]; rfl
theorem byte8 {l : List Nat} (h : ∀ x ∈ l, x < 256) (p n : Nat) : ∀ x ∈ (l.drop p).take n, x < 256 := fun x hx => h x (List.mem_of_mem_drop (List.mem_of_mem_take hx))
theorem wok_wordsOf {l : List Nat} (h : ∀ x ∈ l, x < 256) (m : Nat) : Wok (wordsOf l m) := fun x hx => by
  unfold wordsOf at hx
  obtain ⟨i, _, rfl⟩ := List.mem_map.1 hx
  have h1 := dec_lt _ (byte8 h (7 + 8 * i) 8)
  have h2 : ((l.drop (7 + 8 * i)).take 8).length ≤ 8 := by simp; omega
  have h3 : 256 ^ ((l.drop (7 + 8 * i)).take 8).length ≤ 256 ^ 8 := Nat.pow_le_pow_right (by decide) h2
  have h4 : (256 : Nat) ^ 8 = 18446744073709551616 := by decide
  omega
theorem wordsOf_img (ws : List Int) (up : Bool) (hw : Wok ws) : wordsOf (img ws up) ws.length = ws := by
  unfold wordsOf
  apply List.ext_getElem
  · simp
  · intro i h1 h2
    rw [List.getElem_map, List.getElem_range, img_word ws up hw i h2]
    simp [h2]
theorem drop_take_cons (l : List Nat) (p j : Nat) (h : p + 8 ≤ l.length) (hj : j < 8) : (l.drop (p + j)).take (8 - j) = l.getD (p + j) 0 :: (l.drop (p + (j + 1))).take (8 - (j + 1)) := by
  rw [drop_cons l (p + j) (by omega), show 8 - j = (8 - (j + 1)) + 1 by omega, List.take_succ_cons]
  rfl
theorem l_wordAt (b : Bool) (l : List Nat) (p : Nat) (hl : l.length ≤ 100000) (hp : p + 8 ≤ l.length) (hb : ∀ x ∈ l, x < 256) : ∀ (j : Nat), j ≤ 8 →
    lp 36 0 0 ⟨[(0, (.lst b 1 (bts l))), (1, (.v (.int .i64 (p : Int)))), (5, (.v (.int .u64 ((dec ((l.drop (p + j)).take (8 - j)) : Nat) : Int)))), (6, (.v (.int .i64 ((j : Int) - 1))))], []⟩ =
      some ⟨some 0, ⟨[(5, (.v (.int .u64 ((dec ((l.drop p).take 8) : Nat) : Int))))], []⟩, []⟩
  | 0, _ => by rw [lp36_0, leI_f (by omega)]; rfl
  | j + 1, hj => by
    have ih := l_wordAt b l p hl hp hb j (by omega)
    have h1 := drop_take_cons l p j hp (by omega)
    rw [h1] at ih
    have hbt := hb _ (mem_getD l 0 (p + j) (by omega))
    have hd := dec_lt _ (byte8 hb (p + (j + 1)) (8 - (j + 1)))
    have h2 : ((l.drop (p + (j + 1))).take (8 - (j + 1))).length ≤ 7 := by simp; omega
    have h3 : 256 ^ ((l.drop (p + (j + 1))).take (8 - (j + 1))).length ≤ 256 ^ 7 := Nat.pow_le_pow_right (by decide) h2
    have h4 : (256 : Nat) ^ 7 = 72057594037927936 := by decide
    have e1 : (((j + 1 : Nat) : Int) - 1) = (j : Int) := by omega
    have e2 : IntKind.i64.wrap ((p : Int) + (j : Int)) = ((p + j : Nat) : Int) := by rw [w_i64]; omega
    have e3 : IntKind.i64.wrap ((j : Int) - 1) = (j : Int) - 1 := by rw [w_i64]; omega
    rw [lp36_0, e1, leI_t (show (0 : Int) ≤ (j : Int) by omega), e2, leI_t (show (0 : Int) ≤ ((p + j : Nat) : Int) by omega), bts_len, ltI_t (by omega), Int.toNat_natCast, get_bts l (p + j) (by omega), e3]
    simp only [dec] at ih
    generalize dec ((l.drop (p + (j + 1))).take (8 - (j + 1))) = v at *
    generalize l.getD (p + j) 0 = x at *
    have e4 : bits .or .u64 (IntKind.u64.wrap ((v : Int) * 256)) (IntKind.u64.wrap (x : Int)) = ((v * 256 + x : Nat) : Int) := by
      rw [w_u64, w_u64, or_u64 8 _ _ (by omega) (by omega) (by omega) (by omega) (by omega) (by omega)]; omega
    simp only [bt, cellAt_zero, isI_v, avInt_v, cond_true, Bool.and_self, e4]
    exact ih
theorem s_wordAt (b : Bool) (l : List Nat) (p : Nat) (hl : l.length ≤ 100000) (hp : p + 8 ≤ l.length) (hb : ∀ x ∈ l, x < 256) : ev 36 [.lst b 1 (bts l), .v (.int .i64 (p : Int))] = some [.v (.int .u64 ((dec ((l.drop p).take 8) : Nat) : Int))] := by
  have h := l_wordAt b l p hl hp hb 8 (Nat.le_refl _)
  have z : (dec ((l.drop (p + 8)).take (8 - 8)) : Int) = 0 := rfl
  rw [z, show (((8 : Nat) : Int) - 1) = 7 from rfl] at h
  rw [ev36]
  exact bnd h rfl
theorem l_word (b : Bool) (l : List Nat) (hp : 8 ≤ l.length) (hl : l.length ≤ 100000) (hb : ∀ x ∈ l, x < 256) : ∀ (k i : Nat), i + k = 8 →
    lp 38 0 0 ⟨[(0, (.lst b 1 (bts l))), (3, (.v (.int .u64 ((dec (l.take i) : Nat) : Int)))), (4, (.v (.int .i64 (i : Int))))], []⟩ =
      some ⟨some 0, ⟨[(3, (.v (.int .u64 ((dec (l.take 8) : Nat) : Int))))], []⟩, []⟩
  | 0, i, hi => by
    obtain rfl : i = 8 := by omega
    rw [lp38_0, ltI_f (by omega)]; rfl
  | k + 1, i, hi => by
    have ih := l_word b l hp hl hb k (i + 1) (by omega)
    have hlt : i < l.length := by omega
    have h1 : l.take (i + 1) = l.take i ++ [l.getD i 0] := by rw [List.take_succ_eq_append_getElem hlt]; simp [hlt]
    have hbt := hb _ (mem_getD l 0 i hlt)
    have hd := dec_lt (l.take i) fun x hx => hb x (List.mem_of_mem_take hx)
    have hln : (l.take i).length = i := by simp; omega
    rw [h1, dec_snoc, hln] at ih
    rw [hln] at hd
    have e1 : IntKind.i64.wrap ((i : Int) + 1) = ((i + 1 : Nat) : Int) := by rw [w_i64]; omega
    have e2 : IntKind.u64.wrap (IntKind.i64.wrap (8 * (i : Int))) = ((8 * i : Nat) : Int) := by rw [w_u64, w_i64]; omega
    rw [lp38_0, ltI_t (by omega), leI_t (show (0 : Int) ≤ (i : Int) by omega), bts_len, ltI_t (by omega), e2, ltI_f (show (0 : Int) ≤ ((8 * i : Nat) : Int) by omega), Int.toNat_natCast, Int.toNat_natCast, get_bts l i hlt, e1, show min (8 * i) 64 = 8 * i by omega]
    generalize dec (l.take i) = v at *
    generalize l.getD i 0 = x at *
    have h8 : i = 0 ∨ i = 1 ∨ i = 2 ∨ i = 3 ∨ i = 4 ∨ i = 5 ∨ i = 6 ∨ i = 7 := by omega
    have e4 : bits .or .u64 (v : Int) (IntKind.u64.wrap (IntKind.u64.wrap (x : Int) * 2 ^ (8 * i))) = ((v + x * 256 ^ i : Nat) : Int) := by
      rw [Go.Ev.bits_or_comm]
      rcases h8 with rfl | rfl | rfl | rfl | rfl | rfl | rfl | rfl <;> simp only [Nat.reduceMul, Nat.reducePow, Int.reducePow] at hd ⊢
      · rw [w_u64, w_u64, or_u64 0 _ _ (by omega) (by omega) (by omega) (by omega) (by omega) (by omega)]; omega
      · rw [w_u64, w_u64, or_u64 8 _ _ (by omega) (by omega) (by omega) (by omega) (by omega) (by omega)]; omega
      · rw [w_u64, w_u64, or_u64 16 _ _ (by omega) (by omega) (by omega) (by omega) (by omega) (by omega)]; omega
      · rw [w_u64, w_u64, or_u64 24 _ _ (by omega) (by omega) (by omega) (by omega) (by omega) (by omega)]; omega
      · rw [w_u64, w_u64, or_u64 32 _ _ (by omega) (by omega) (by omega) (by omega) (by omega) (by omega)]; omega
      · rw [w_u64, w_u64, or_u64 40 _ _ (by omega) (by omega) (by omega) (by omega) (by omega) (by omega)]; omega
      · rw [w_u64, w_u64, or_u64 48 _ _ (by omega) (by omega) (by omega) (by omega) (by omega) (by omega)]; omega
      · rw [w_u64, w_u64, or_u64 56 _ _ (by omega) (by omega) (by omega) (by omega) (by omega) (by omega)]; omega
    simp only [bt, cellAt_zero, isI_v, avInt_v, cond_true, cond_false, Bool.and_self, e4]
    exact ih
theorem s_word (b : Bool) (l : List Nat) (hp : 8 ≤ l.length) (hl : l.length ≤ 100000) (hb : ∀ x ∈ l, x < 256) : ev 38 [.lst b 1 (bts l)] = some [.v (.int .u64 ((dec (l.take 8) : Nat) : Int))] := by
  have h := l_word b l hp hl hb 8 0 rfl
  rw [ev38]
  exact bnd h rfl
theorem l_EqB (b c : Bool) (xs ys : List Nat) (h : xs.length = ys.length) (hl : xs.length ≤ 100000) : ∀ (k i : Nat), i + k = xs.length →
    lp 37 0 0 ⟨[(0, (.lst b 1 (bts xs))), (1, (.lst c 1 (bts ys))), (12, (.v (.int .i64 (xs.length : Int)))), (13, (.v (.int .i64 (i : Int))))], []⟩ =
      some (if xs.drop i = ys.drop i then ⟨some 0, ⟨[], []⟩, []⟩ else ⟨none, ⟨[], []⟩, [.v (.bool false)]⟩)
  | 0, i, hi => by
    rw [lp37_0, ltI_f (by omega), List.drop_of_length_le (by omega), List.drop_of_length_le (by omega), if_pos rfl]; rfl
  | k + 1, i, hi => by
    have ih := l_EqB b c xs ys h hl k (i + 1) (by omega)
    have e1 : IntKind.i64.wrap ((i : Int) + 1) = ((i + 1 : Nat) : Int) := by rw [w_i64]; omega
    have h1 : i < xs.length := by omega
    have h2 : i < ys.length := by omega
    rw [lp37_0, ltI_t (by omega), leI_t (by omega), bts_len, bts_len, ltI_t (by omega), ltI_t (by omega), Int.toNat_natCast, get_bts xs i h1, get_bts ys i h2, e1, ih, drop_cons xs i h1, drop_cons ys i h2]
    simp only [bt, cellAt_zero, isI_v, avInt_v, cond_true, Bool.and_self]
    by_cases hx : xs.getD i 0 = ys.getD i 0
    · rw [hx, beq_self_i]
      simp only [List.cons.injEq, true_and]
      rfl
    · rw [beq_eq_false_iff_ne.2 (show ((xs.getD i 0 : Nat) : Int) ≠ ((ys.getD i 0 : Nat) : Int) by omega), if_neg (fun e => hx (List.cons.inj e).1)]; rfl
theorem s_EqB (b c : Bool) (xs ys : List Nat) (hl : xs.length ≤ 100000) (hk : ys.length ≤ 100000) : ev 37 [.lst b 1 (bts xs), .lst c 1 (bts ys)] = some [.v (.bool (decide (xs = ys)))] := by
  rw [ev37, bts_len, bts_len]
  by_cases h : xs.length = ys.length
  · rw [← h, beq_self_i]
    have := l_EqB b c xs ys h hl xs.length 0 (by omega)
    rw [List.drop_zero, List.drop_zero] at this
    rw [show (0 : Int) = ((0 : Nat) : Int) from rfl, this]
    by_cases hx : xs = ys
    · rw [if_pos hx, decide_eq_true hx]; rfl
    · rw [if_neg hx, decide_eq_false hx]; rfl
  · rw [beq_eq_false_iff_ne.2 (show (xs.length : Int) ≠ ys.length by omega), decide_eq_false (fun e => h (by rw [e]))]; rfl
/-- What an image is loaded as. -/
def loadP (l : List Nat) : Option (List Int × Bool) :=
  if l.length < 7 then none else
  if l.getD 4 0 + 256 * l.getD 5 0 < 1 ∨ 256 < l.getD 4 0 + 256 * l.getD 5 0 then none else
  if l.length ≠ 15 + 64 * (l.getD 4 0 + 256 * l.getD 5 0) then none else
  if img (wordsOf l (8 * (l.getD 4 0 + 256 * l.getD 5 0))) (!(Nat.beq (l.getD 6 0) 0)) = l then some (wordsOf l (8 * (l.getD 4 0 + 256 * l.getD 5 0)), !(Nat.beq (l.getD 6 0) 0)) else none
theorem l_Load (b : Bool) (l : List Nat) (n : Nat) (hl : l.length ≤ 100000) (hn : n ≤ 10000) (hp : 7 + 8 * n ≤ l.length) (hb : ∀ x ∈ l, x < 256) : ∀ (k i : Nat), i + k = n →
    lp 26 0 0 ⟨[(0, (.lst b 1 (bts l))), (4, (.ptr 0 0 0)), (43, (.v (.int .i64 (n : Int)))), (44, (.v (.int .i64 (i : Int))))], [⟨1, 60, 2, true, [[(.sl false 1 0 none), (.v (.bool false))]]⟩, ⟨1, 31, 1, false, (wordsOf l i ++ List.replicate k 0).map wr⟩]⟩ =
      some ⟨some 0, ⟨[(0, (.lst b 1 (bts l))), (4, (.ptr 0 0 0))], [⟨1, 60, 2, true, [[(.sl false 1 0 none), (.v (.bool false))]]⟩, ⟨1, 31, 1, false, (wordsOf l n).map wr⟩]⟩, []⟩
  | 0, i, hi => by
    obtain rfl : i = n := by omega
    rw [lp26_0, ltI_f (by omega), List.replicate_zero, List.append_nil]; rfl
  | k + 1, i, hi => by
    have ih := l_Load b l n hl hn hp hb k (i + 1) (by omega)
    have e1 : IntKind.i64.wrap ((i : Int) + 1) = ((i + 1 : Nat) : Int) := by rw [w_i64]; omega
    have e2 : IntKind.i64.wrap (7 + IntKind.i64.wrap (8 * (i : Int))) = ((7 + 8 * i : Nat) : Int) := by rw [w_i64, w_i64]; omega
    have a := s_wordAt b l (7 + 8 * i) hl (by omega) hb
    have hlen : ((wordsOf l i ++ List.replicate (k + 1) 0).map wr).length = n := by
      rw [List.length_map, List.length_append, wordsOf_len, List.length_replicate]; omega
    have hs := set_fill (wordsOf l i) i k ((dec ((l.drop (7 + 8 * i)).take 8) : Nat) : Int) (wordsOf_len l i)
    rw [← wordsOf_succ] at hs
    rw [lp26_0, ltI_t (by omega), e2]
    refine bnd a ?_
    simp -implicitDefEqProofs only [some_bind', obCells_agg, obCells_ob, isOb_ok, isL_ok, isOw_ok, avXs_lst, avXs_ow, avNil_lst, avNil_ow, avNil_sl, avOff_sl, avCut_sl, isAgg_agg, nat_beq_self, List.length_cons, List.length_nil, Nat.reduceAdd, Nat.zero_add, isI_v, isB_v, isS_v, avInt_v, avBool_v, avStr_v, cellAt_zero, cellAt_succ, lget_zero, lget_succ, frAt_zero, frAt_succ, blAt_zero, blAt_succ, isEx_ok, isEx_ne, isEx_none, isRt_some, isRt_none, like_st, likeFG_nil, likeFG_cons, likeBG_nil, likeBG_obj, likeBG_row, likeSG_nil, likeSG_cons, likeT_nil, likeS_nil, isNP_nil, isNP_ob, likeT_ep, isEp_ep, epCells_ep, likeT_agg, likeT_int, likeT_bool, likeT_str, likeT_lst, likeT_sl0, likeT_sl1, likeT_ptr, likeS_int, likeS_bool, likeS_str, likeS_lst, likeS_sl0, likeS_sl1, likeS_ptr, isPtr_ok, isSl_0, isSl_1, beq_self_b, Bool.and_self, Bool.and_true, Bool.true_and, Bool.and_false, Bool.false_and, cond_true, cond_false, Bool.not_true, Bool.not_false, hlen, leI_t (show (0 : Int) ≤ (i : Int) by omega), ltI_t (show (i : Int) < ((n - 0 : Nat) : Int) by omega), Int.toNat_natCast, ltN_t (show i < n by omega), e1, set_wr, hs]
    exact ih
theorem or_i64 (x y : Nat) (hx : x < 256) (hy : y < 256) : bits .or .i64 (x : Int) ((y * 256 : Nat) : Int) = ((x + 256 * y : Nat) : Int) := by
  have h1 : (BitVec.ofInt 64 (x : Int)).toNat = x := by simp; omega
  have h2 : (BitVec.ofInt 64 ((y * 256 : Nat) : Int)).toNat = y * 256 := by simp; omega
  show IntKind.i64.wrap (((BitVec.ofInt 64 (x : Int) ||| BitVec.ofInt 64 ((y * 256 : Nat) : Int)).toNat : Nat) : Int) = _
  have h3 := Nat.two_pow_add_eq_or_of_lt (i := 8) (b := x) (by omega) y
  have h4 : x ||| y * 256 = x + 256 * y := by
    rw [Nat.or_comm, Nat.mul_comm y 256]
    have h5 : (2 : Nat) ^ 8 = 256 := by decide
    rw [h5] at h3
    rw [← h3]; omega
  rw [BitVec.toNat_or, h1, h2, h4, w_i64]
  omega
theorem s_Load (b : Bool) (l : List Nat) (hl : l.length ≤ 50000) (hb : ∀ x ∈ l, x < 256) : ev 26 [.lst b 1 (bts l)] =
    some (match loadP l with | some (ws, up) => [ndO ws (!up), .v (.int .i64 0)] | none => [.v (.pointer none), .v (.int .i64 14)]) := by
  rw [ev26, bts_len]
  unfold loadP
  by_cases h7 : l.length < 7
  · rw [if_pos h7, ltI_t (by omega)]; rfl
  have b4 := hb _ (mem_getD l 0 4 (by omega))
  have b5 := hb _ (mem_getD l 0 5 (by omega))
  have g4 := get_bts l 4 (by omega)
  have g5 := get_bts l 5 (by omega)
  have g6 := get_bts l 6 (by omega)
  rw [if_neg h7, ltI_f (by omega), ltI_t (show (4 : Int) < (l.length : Int) by omega), ltI_t (show (5 : Int) < (l.length : Int) by omega), g4, g5]
  generalize l.getD 4 0 = x at *
  generalize l.getD 5 0 = y at *
  have e1 : IntKind.i64.wrap (x : Int) = (x : Int) := by rw [w_i64]; omega
  have e2 : IntKind.i64.wrap (IntKind.i64.wrap (y : Int) * 256) = ((y * 256 : Nat) : Int) := by rw [w_i64, w_i64]; omega
  simp only [bt, cellAt_zero, isI_v, avInt_v, cond_true, Bool.and_self, e1, e2, or_i64 x y b4 b5]
  generalize hn : x + 256 * y = n
  by_cases hr : n < 1 ∨ 256 < n
  · have hN : ev 9 [.v (.int .i64 (n : Int))] = some [.v (.pointer none), .v (.int .i64 2)] := by
      rw [ev9]
      by_cases h1 : n < 1
      · rw [ltI_t (by omega)]; rfl
      · rw [ltI_f (by omega), ltI_t (by omega)]; rfl
    rw [if_pos hr]
    refine bnd hN ?_
    rfl
  rw [if_neg hr]
  have hN := s_New (n : Int) ⟨by omega, by omega⟩
  rw [Int.toNat_natCast] at hN
  refine bnd hN ?_
  have e3 : IntKind.i64.wrap (7 + IntKind.i64.wrap (8 * IntKind.i64.wrap ((((8 * n : Nat)) : Int) + 1))) = ((15 + 64 * n : Nat) : Int) := by rw [w_i64, w_i64, w_i64]; omega
  by_cases hlen : l.length = 15 + 64 * n
  · rw [if_neg (fun h => h hlen)]
    have lp0 := l_Load b l (8 * n) (by omega) (by omega) (by omega) hb (8 * n) 0 (by omega)
    have z : (wordsOf l 0 ++ List.replicate (8 * n) 0) = List.replicate (8 * n) 0 := rfl
    have z0 : ((0 : Nat) : Int) = 0 := rfl
    rw [z, z0] at lp0
    have hi := fun d => s_Image (wordsOf l (8 * n)) d (wok_wordsOf hb _) (by rw [wordsOf_len]; omega)
    have he := fun up => s_EqB false b (img (wordsOf l (8 * n)) up) l (by rw [img_len, wordsOf_len]; omega) (by omega)
    have e6 : (((l.getD 6 0 : Nat) : Int) == 0) = Nat.beq (l.getD 6 0) 0 := by
      cases hx : Nat.beq (l.getD 6 0) 0 with
      | true => rw [Nat.eq_of_beq_eq_true hx]; rfl
      | false => exact beq_eq_false_iff_ne.2 (fun h => by rw [show l.getD 6 0 = 0 by omega] at hx; cases hx)
    simp -implicitDefEqProofs only [some_bind', obCells_agg, obCells_ob, isOb_ok, isL_ok, isOw_ok, avXs_lst, avXs_ow, avNil_lst, avNil_ow, avNil_sl, avOff_sl, avCut_sl, isAgg_agg, nat_beq_self, List.length_cons, List.length_nil, Nat.reduceAdd, Nat.zero_add, isI_v, isB_v, isS_v, avInt_v, avBool_v, avStr_v, cellAt_zero, cellAt_succ, lget_zero, lget_succ, frAt_zero, frAt_succ, blAt_zero, blAt_succ, isEx_ok, isEx_ne, isEx_none, isRt_some, isRt_none, like_st, likeFG_nil, likeFG_cons, likeBG_nil, likeBG_obj, likeBG_row, likeSG_nil, likeSG_cons, likeT_nil, likeS_nil, isNP_nil, isNP_ob, likeT_ep, isEp_ep, epCells_ep, likeT_agg, likeT_int, likeT_bool, likeT_str, likeT_lst, likeT_sl0, likeT_sl1, likeT_ptr, likeS_int, likeS_bool, likeS_str, likeS_lst, likeS_sl0, likeS_sl1, likeS_ptr, isPtr_ok, isSl_0, isSl_1, beq_self_b, Bool.and_self, Bool.and_true, Bool.true_and, Bool.and_false, Bool.false_and, cond_true, cond_false, Bool.not_true, Bool.not_false, isNP_ob, Int.reduceBEq, List.length_map, List.length_replicate, Nat.sub_zero, e3, hlen, beq_self_i]
    refine bnd lp0 ?_
    have u6 : ltI 6 ((15 + 64 * n : Nat) : Int) = true := ltI_t (by omega)
    simp -implicitDefEqProofs only [some_bind', obCells_agg, obCells_ob, isOb_ok, isL_ok, isOw_ok, avXs_lst, avXs_ow, avNil_lst, avNil_ow, avNil_sl, avOff_sl, avCut_sl, isAgg_agg, nat_beq_self, List.length_cons, List.length_nil, Nat.reduceAdd, Nat.zero_add, isI_v, isB_v, isS_v, avInt_v, avBool_v, avStr_v, cellAt_zero, cellAt_succ, lget_zero, lget_succ, frAt_zero, frAt_succ, blAt_zero, blAt_succ, isEx_ok, isEx_ne, isEx_none, isRt_some, isRt_none, like_st, likeFG_nil, likeFG_cons, likeBG_nil, likeBG_obj, likeBG_row, likeSG_nil, likeSG_cons, likeT_nil, likeS_nil, isNP_nil, isNP_ob, likeT_ep, isEp_ep, epCells_ep, likeT_agg, likeT_int, likeT_bool, likeT_str, likeT_lst, likeT_sl0, likeT_sl1, likeT_ptr, likeS_int, likeS_bool, likeS_str, likeS_lst, likeS_sl0, likeS_sl1, likeS_ptr, isPtr_ok, isSl_0, isSl_1, beq_self_b, Bool.and_self, Bool.and_true, Bool.true_and, Bool.and_false, Bool.false_and, cond_true, cond_false, Bool.not_true, Bool.not_false, bts_len, hlen, u6, g6, bt, e6, hi, all_btsV, Bool.false_or, he]
    by_cases hf : img (wordsOf l (8 * n)) (!(Nat.beq (l.getD 6 0) 0)) = l
    · rw [decide_eq_true hf, if_pos hf]
      simp only [Bool.not_not]
      rfl
    · rw [decide_eq_false hf, if_neg hf]; rfl
  · rw [if_pos hlen]
    have e7 : (((l.length : Nat) : Int) == ((15 + 64 * n : Nat) : Int)) = false := beq_eq_false_iff_ne.2 (by omega)
    simp -implicitDefEqProofs only [some_bind', obCells_agg, obCells_ob, isOb_ok, isL_ok, isOw_ok, avXs_lst, avXs_ow, avNil_lst, avNil_ow, avNil_sl, avOff_sl, avCut_sl, isAgg_agg, nat_beq_self, List.length_cons, List.length_nil, Nat.reduceAdd, Nat.zero_add, isI_v, isB_v, isS_v, avInt_v, avBool_v, avStr_v, cellAt_zero, cellAt_succ, lget_zero, lget_succ, frAt_zero, frAt_succ, blAt_zero, blAt_succ, isEx_ok, isEx_ne, isEx_none, isRt_some, isRt_none, like_st, likeFG_nil, likeFG_cons, likeBG_nil, likeBG_obj, likeBG_row, likeSG_nil, likeSG_cons, likeT_nil, likeS_nil, isNP_nil, isNP_ob, likeT_ep, isEp_ep, epCells_ep, likeT_agg, likeT_int, likeT_bool, likeT_str, likeT_lst, likeT_sl0, likeT_sl1, likeT_ptr, likeS_int, likeS_bool, likeS_str, likeS_lst, likeS_sl0, likeS_sl1, likeS_ptr, isPtr_ok, isSl_0, isSl_1, beq_self_b, Bool.and_self, Bool.and_true, Bool.true_and, Bool.and_false, Bool.false_and, cond_true, cond_false, Bool.not_true, Bool.not_false, isNP_ob, Int.reduceBEq, List.length_map, List.length_replicate, Nat.sub_zero, e3, e7]
def loadR (l : List Nat) : Option (List Int × Bool) :=
  if l.length < 79 ∨ 16399 < l.length ∨ (l.length - 15) % 64 ≠ 0 then none else
  if img (wordsOf l (8 * ((l.length - 15) / 64))) (Nat.beq (l.getD 6 0) 1) = l then some (wordsOf l (8 * ((l.length - 15) / 64)), Nat.beq (l.getD 6 0) 1) else none
theorem l_RLoad (b u : Bool) (l : List Nat) (n : Nat) (hl : l.length ≤ 100000) (hn : n ≤ 10000) (hp : 15 + 8 * n ≤ l.length) (hb : ∀ x ∈ l, x < 256) : ∀ (k i : Nat), i + k = n →
    lp 27 0 0 ⟨[(0, (.lst b 1 (bts l))), (2, (.ptr 0 0 0)), (4, (.ptr 2 0 0)), (5, (.v (.int .i64 (i : Int))))], [⟨1, 36, 2, true, [[(.sl true 1 0 none), (.v (.bool false))]]⟩, ⟨1, 31, 1, false, []⟩, ⟨1, 36, 2, true, [[(.sl false 3 0 none), (.v (.bool u))]]⟩, ⟨1, 31, 1, false, (wordsOf l i ++ List.replicate k 0).map wr⟩]⟩ =
      some ⟨some 0, ⟨[(0, (.lst b 1 (bts l))), (2, (.ptr 0 0 0)), (4, (.ptr 2 0 0))], [⟨1, 36, 2, true, [[(.sl true 1 0 none), (.v (.bool false))]]⟩, ⟨1, 31, 1, false, []⟩, ⟨1, 36, 2, true, [[(.sl false 3 0 none), (.v (.bool u))]]⟩, ⟨1, 31, 1, false, (wordsOf l n).map wr⟩]⟩, []⟩
  | 0, i, hi => by
    obtain rfl : i = n := by omega
    rw [lp27_0, List.replicate_zero, List.append_nil, List.length_map, wordsOf_len, ltI_f (by omega)]; rfl
  | k + 1, i, hi => by
    have ih := l_RLoad b u l n hl hn hp hb k (i + 1) (by omega)
    have e1 : IntKind.i64.wrap ((i : Int) + 1) = ((i + 1 : Nat) : Int) := by rw [w_i64]; omega
    have e2 : IntKind.i64.wrap (7 + IntKind.i64.wrap (8 * (i : Int))) = ((7 + 8 * i : Nat) : Int) := by rw [w_i64, w_i64]; omega
    have a := s_word b (l.drop (7 + 8 * i)) (by rw [List.length_drop]; omega) (by rw [List.length_drop]; omega) (fun x hx => hb x (List.mem_of_mem_drop hx))
    have hd : List.drop (7 + 8 * i) (bts l) = bts (l.drop (7 + 8 * i)) := by unfold bts; rw [List.map_drop]
    have hlen : ((wordsOf l i ++ List.replicate (k + 1) 0).map wr).length = n := by
      rw [List.length_map, List.length_append, wordsOf_len, List.length_replicate]; omega
    have hs := set_fill (wordsOf l i) i k ((dec ((l.drop (7 + 8 * i)).take 8) : Nat) : Int) (wordsOf_len l i)
    rw [← wordsOf_succ] at hs
    rw [lp27_0, hlen, ltI_t (show (i : Int) < ((n - 0 : Nat) : Int) by omega), e2, leI_t (show (0 : Int) ≤ ((7 + 8 * i : Nat) : Int) by omega), bts_len, leI_t (show ((7 + 8 * i : Nat) : Int) ≤ (l.length : Int) by omega), Int.toNat_natCast, hd]
    simp only [Bool.and_self, cond_true]
    refine bnd a ?_
    simp -implicitDefEqProofs only [some_bind', obCells_agg, obCells_ob, isOb_ok, isL_ok, isOw_ok, avXs_lst, avXs_ow, avNil_lst, avNil_ow, avNil_sl, avOff_sl, avCut_sl, isAgg_agg, nat_beq_self, List.length_cons, List.length_nil, Nat.reduceAdd, Nat.zero_add, isI_v, isB_v, isS_v, avInt_v, avBool_v, avStr_v, cellAt_zero, cellAt_succ, lget_zero, lget_succ, frAt_zero, frAt_succ, blAt_zero, blAt_succ, isEx_ok, isEx_ne, isEx_none, isRt_some, isRt_none, like_st, likeFG_nil, likeFG_cons, likeBG_nil, likeBG_obj, likeBG_row, likeSG_nil, likeSG_cons, likeT_nil, likeS_nil, isNP_nil, isNP_ob, likeT_ep, isEp_ep, epCells_ep, likeT_agg, likeT_int, likeT_bool, likeT_str, likeT_lst, likeT_sl0, likeT_sl1, likeT_ptr, likeS_int, likeS_bool, likeS_str, likeS_lst, likeS_sl0, likeS_sl1, likeS_ptr, isPtr_ok, isSl_0, isSl_1, beq_self_b, Bool.and_self, Bool.and_true, Bool.true_and, Bool.and_false, Bool.false_and, cond_true, cond_false, Bool.not_true, Bool.not_false, leI_t (show (0 : Int) ≤ (i : Int) by omega), Int.toNat_natCast, ltN_t (show i < n by omega), e1, set_wr, hs]
    exact ih
theorem byteOf_bt (x : Nat) (h : x < 256) : (Ev.byteOf (bt x)).toNat = x := by
  show (UInt8.ofNat ((x : Int)).toNat).toNat = x
  rw [Int.toNat_natCast]
  simp [UInt8.toNat_ofNat']
  omega
theorem bytes_inj : ∀ {xs ys : List Nat}, (∀ x ∈ xs, x < 256) → (∀ x ∈ ys, x < 256) → List.map Ev.byteOf (bts xs) = List.map Ev.byteOf (bts ys) → xs = ys
  | [], [], _, _, _ => rfl
  | [], _ :: _, _, _, h => by simp [bts] at h
  | _ :: _, [], _, _, h => by simp [bts] at h
  | x :: xs, y :: ys, hx, hy, h => by
    simp only [bts, List.map_cons, List.cons.injEq] at h
    have h1 := congrArg UInt8.toNat h.1
    rw [byteOf_bt x (hx x (by simp)), byteOf_bt y (hy y (by simp))] at h1
    rw [h1, bytes_inj (fun z hz => hx z (by simp [hz])) (fun z hz => hy z (by simp [hz])) h.2]
theorem str_eq {xs ys : List Nat} (hx : ∀ x ∈ xs, x < 256) (hy : ∀ x ∈ ys, x < 256) : (ByteArray.toList ⟨(List.map Ev.byteOf (bts xs)).toArray⟩ == ByteArray.toList ⟨(List.map Ev.byteOf (bts ys)).toArray⟩) = decide (xs = ys) := by
  rw [ByteArray.toList_eq, ByteArray.toList_eq]
  by_cases h : xs = ys
  · rw [h, decide_eq_true rfl, beq_self_eq_true]
  · rw [decide_eq_false h]
    exact beq_eq_false_iff_ne.2 fun e => h (bytes_inj hx hy (by simpa using e))
/-- The reference's answer: fine or not; what it read, if fine. -/
theorem s_RLoad (b : Bool) (l : List Nat) (hl : l.length ≤ 50000) (hb : ∀ x ∈ l, x < 256) :
    ∃ z, ev 27 [.lst b 1 (bts l)] = some [z, .v (.bool (loadR l).isSome)] ∧ (∃ (c : Bool) (ws : List Int) (up : Bool), z = .agg [.lst c 1 (ws.map wr), .v (.bool up)]) ∧ ∀ (ws : List Int) (up : Bool), loadR l = some (ws, up) → z = .agg [.lst false 1 (ws.map wr), .v (.bool up)] := by
  rw [ev27, bts_len]
  unfold loadR
  have none_case : ∃ z, (some [AV.agg [.lst true 1 [], .v (.bool false)], .v (.bool false)] : Option (List AV)) = some [z, .v (.bool (none : Option (List Int × Bool)).isSome)] ∧ (∃ (c : Bool) (ws : List Int) (up : Bool), z = .agg [.lst c 1 (ws.map wr), .v (.bool up)]) ∧ ∀ (ws : List Int) (up : Bool), (none : Option (List Int × Bool)) = some (ws, up) → z = .agg [.lst false 1 (ws.map wr), .v (.bool up)] :=
    ⟨_, rfl, ⟨true, [], false, rfl⟩, fun _ _ h => by cases h⟩
  by_cases h : l.length < 79 ∨ 16399 < l.length ∨ (l.length - 15) % 64 ≠ 0
  · rw [if_pos h]
    by_cases h1 : l.length < 15
    · rw [ltI_t (by omega)]; exact none_case
    rw [ltI_f (by omega)]
    have e1 : IntKind.i64.wrap ((l.length : Int) - 15) = ((l.length - 15 : Nat) : Int) := by rw [w_i64]; omega
    rw [e1, tmod_pos _ _ (by omega)]
    by_cases h2 : (l.length - 15) % 64 = 0
    · have e2 : (((l.length - 15 : Nat) : Int) % 64 == 0) = true := by rw [show ((l.length - 15 : Nat) : Int) % 64 = 0 by omega]; rfl
      rw [e2]
      by_cases h3 : 16399 < l.length
      · rw [ltI_t (by omega)]; exact none_case
      · rw [ltI_f (by omega), ltI_t (by omega)]; exact none_case
    · rw [beq_eq_false_iff_ne.2 (show ((l.length - 15 : Nat) : Int) % 64 ≠ 0 by omega)]; exact none_case
  · rw [if_neg h]
    obtain ⟨m, hm⟩ : ∃ m, l.length = 15 + 64 * m := ⟨(l.length - 15) / 64, by omega⟩
    rw [show (l.length - 15) / 64 = m by omega]
    have e1 : IntKind.i64.wrap ((l.length : Int) - 15) = ((64 * m : Nat) : Int) := by rw [w_i64]; omega
    have e2 : Int.tmod ((64 * m : Nat) : Int) 64 = 0 := by rw [tmod_pos _ _ (by omega)]; omega
    have e3 : IntKind.i64.wrap (IntKind.i64.wrap (Int.tdiv ((64 * m : Nat) : Int) 64) * 8) = ((8 * m : Nat) : Int) := by rw [tdiv_pos _ _ (by omega), w_i64, w_i64]; omega
    have g6 := get_bts l 6 (by omega)
    have r0 := l_RLoad b (Nat.beq (l.getD 6 0) 1) l (8 * m) (by omega) (by omega) (by omega) hb (8 * m) 0 (by omega)
    have z : (wordsOf l 0 ++ List.replicate (8 * m) 0) = List.replicate (8 * m) 0 := rfl
    have z0 : ((0 : Nat) : Int) = 0 := rfl
    rw [z, z0] at r0
    have e6 : (((l.getD 6 0 : Nat) : Int) == 1) = Nat.beq (l.getD 6 0) 1 := by
      cases hx : Nat.beq (l.getD 6 0) 1 with
      | true => rw [Nat.eq_of_beq_eq_true hx]; rfl
      | false => exact beq_eq_false_iff_ne.2 (fun h => by rw [show l.getD 6 0 = 1 by omega] at hx; cases hx)
    have hi := s_RImage false (wordsOf l (8 * m)) (Nat.beq (l.getD 6 0) 1) (wok_wordsOf hb _) (by rw [wordsOf_len]; omega)
    have hrep : List.replicate (8 * m) [AV.v (.int .u64 0)] = (List.replicate (8 * m) (0 : Int)).map wr := by rw [List.map_replicate]; rfl
    have hse := str_eq (img_lt (wordsOf l (8 * m)) (Nat.beq (l.getD 6 0) 1)) hb
    rw [ltI_f (by omega), e1, e2, ltI_f (show (l.length : Int) ≤ 16399 by omega), ltI_f (show (79 : Int) ≤ (l.length : Int) by omega), e3, leI_t (show (0 : Int) ≤ ((8 * m : Nat) : Int) by omega), leI_t (Int.le_refl _), leI_t (show ((8 * m : Nat) : Int) * 8 ≤ 281474976710656 by omega), leI_t (show ((8 * m : Nat) : Int) ≤ 281474976710656 by omega), ltI_t (show (6 : Int) < (l.length : Int) by omega), g6, Int.toNat_natCast, hrep]
    simp only [bt, cellAt_zero, isI_v, avInt_v, cond_true, Bool.and_self, e6, beq_self_i, Bool.not_true, cond_false]
    by_cases hf : img (wordsOf l (8 * m)) (Nat.beq (l.getD 6 0) 1) = l
    · rw [if_pos hf]
      refine ⟨.agg [.lst false 1 ((wordsOf l (8 * m)).map wr), .v (.bool (Nat.beq (l.getD 6 0) 1))], ?_, ⟨_, _, _, rfl⟩, fun ws up h => by cases h; rfl⟩
      refine bnd r0 ?_
      rw [decide_eq_true hf] at hse
      simp -implicitDefEqProofs only [some_bind', obCells_agg, obCells_ob, isOb_ok, isL_ok, isOw_ok, avXs_lst, avXs_ow, avNil_lst, avNil_ow, avNil_sl, avOff_sl, avCut_sl, isAgg_agg, nat_beq_self, List.length_cons, List.length_nil, Nat.reduceAdd, Nat.zero_add, isI_v, isB_v, isS_v, avInt_v, avBool_v, avStr_v, cellAt_zero, cellAt_succ, lget_zero, lget_succ, frAt_zero, frAt_succ, blAt_zero, blAt_succ, isEx_ok, isEx_ne, isEx_none, isRt_some, isRt_none, like_st, likeFG_nil, likeFG_cons, likeBG_nil, likeBG_obj, likeBG_row, likeSG_nil, likeSG_cons, likeT_nil, likeS_nil, isNP_nil, isNP_ob, likeT_ep, isEp_ep, epCells_ep, likeT_agg, likeT_int, likeT_bool, likeT_str, likeT_lst, likeT_sl0, likeT_sl1, likeT_ptr, likeS_int, likeS_bool, likeS_str, likeS_lst, likeS_sl0, likeS_sl1, likeS_ptr, isPtr_ok, isSl_0, isSl_1, beq_self_b, Bool.and_self, Bool.and_true, Bool.true_and, Bool.and_false, Bool.false_and, cond_true, cond_false, Bool.not_true, Bool.not_false, hi, all_btsV, all_bts, Bool.false_or, hse]
      rfl
    · rw [if_neg hf]
      refine ⟨.agg [.lst false 1 ((wordsOf l (8 * m)).map wr), .v (.bool (Nat.beq (l.getD 6 0) 1))], ?_, ⟨_, _, _, rfl⟩, fun ws up h => by cases h⟩
      refine bnd r0 ?_
      rw [decide_eq_false hf] at hse
      simp -implicitDefEqProofs only [some_bind', obCells_agg, obCells_ob, isOb_ok, isL_ok, isOw_ok, avXs_lst, avXs_ow, avNil_lst, avNil_ow, avNil_sl, avOff_sl, avCut_sl, isAgg_agg, nat_beq_self, List.length_cons, List.length_nil, Nat.reduceAdd, Nat.zero_add, isI_v, isB_v, isS_v, avInt_v, avBool_v, avStr_v, cellAt_zero, cellAt_succ, lget_zero, lget_succ, frAt_zero, frAt_succ, blAt_zero, blAt_succ, isEx_ok, isEx_ne, isEx_none, isRt_some, isRt_none, like_st, likeFG_nil, likeFG_cons, likeBG_nil, likeBG_obj, likeBG_row, likeSG_nil, likeSG_cons, likeT_nil, likeS_nil, isNP_nil, isNP_ob, likeT_ep, isEp_ep, epCells_ep, likeT_agg, likeT_int, likeT_bool, likeT_str, likeT_lst, likeT_sl0, likeT_sl1, likeT_ptr, likeS_int, likeS_bool, likeS_str, likeS_lst, likeS_sl0, likeS_sl1, likeS_ptr, isPtr_ok, isSl_0, isSl_1, beq_self_b, Bool.and_self, Bool.and_true, Bool.true_and, Bool.and_false, Bool.false_and, cond_true, cond_false, Bool.not_true, Bool.not_false, hi, all_btsV, all_bts, Bool.false_or, hse]
      rfl
end Go.Proofs.Ytokagdgcfmjlnaa
