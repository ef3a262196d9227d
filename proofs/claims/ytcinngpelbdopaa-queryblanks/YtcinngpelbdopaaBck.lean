/- A program's text is read as the program. -/
import Derived.Test.YtcinngpelbdopaaTok
set_option linter.all false
namespace Go.Proofs.Ytcinngpelbdopaa
open Go.Ev
def wok (w : B) : Prop := w ≠ [] ∧ ∀ b ∈ w, nsep b = true
theorem tw_all {p : UInt8 → Bool} : ∀ (w x : B), (∀ b ∈ w, p b = true) → (x = [] ∨ p (x.headD 0) = false) → (w ++ x).takeWhile p = w ∧ (w ++ x).dropWhile p = x
  | [], x, _, hx => by
    rcases hx with rfl | hx
    · simp
    · cases x with
      | nil => simp
      | cons a x => simp only [List.headD_cons] at hx; simp [hx]
  | b :: w, x, hw, hx => by
    have ih := tw_all w x (fun c hc => hw c (List.mem_cons_of_mem _ hc)) hx
    have hb := hw b (List.mem_cons_self ..)
    rw [List.cons_append, List.takeWhile_cons, List.dropWhile_cons, if_pos hb, if_pos hb, ih.1, ih.2]
    exact ⟨rfl, rfl⟩
theorem lex_word {w x : B} (hw : wok w) (hx : x = [] ∨ nsep (x.headD 0) = false) : lex (w ++ x) = w :: lex x := by
  have h := tw_all w x hw.2 hx
  unfold lex
  rw [lexA_eq, h.1, h.2, List.nil_append, fl_ne hw.1]; rfl
theorem tail_head (sep : B) (b : UInt8) (sep' : B) (hs : sep = b :: sep') (hb : nsep b = false) (ws : List B) (x : B) (hx : x = [] ∨ nsep (x.headD 0) = false) : Go.Lib.joinTail sep ws ++ x = [] ∨ nsep ((Go.Lib.joinTail sep ws ++ x).headD 0) = false := by
  cases ws with
  | nil => exact hx
  | cons w ws => subst hs; exact .inr hb
theorem lex_tail : ∀ (ws : List B) (x : B), (∀ w ∈ ws, wok w) → (x = [] ∨ nsep (x.headD 0) = false) → lex (Go.Lib.joinTail [32] ws ++ x) = ws ++ lex x
  | [], x, _, _ => rfl
  | w :: ws, x, hw, hx => by
    have e : Go.Lib.joinTail [32] (w :: ws) ++ x = 32 :: (w ++ (Go.Lib.joinTail [32] ws ++ x)) := by unfold Go.Lib.joinTail; simp
    rw [e, lex_sp, lex_word (hw w (List.mem_cons_self ..)) (tail_head [32] 32 [] rfl rfl ws x hx), lex_tail ws x (fun v hv => hw v (List.mem_cons_of_mem _ hv)) hx]; rfl
theorem lex_join (w : B) (ws : List B) (x : B) (hw : ∀ v ∈ w :: ws, wok v) (hx : x = [] ∨ nsep (x.headD 0) = false) : lex (Go.Lib.join (w :: ws) [32] ++ x) = (w :: ws) ++ lex x := by
  rw [Go.Lib.join_cons, List.append_assoc, lex_word (hw w (List.mem_cons_self ..)) (tail_head [32] 32 [] rfl rfl ws x hx), lex_tail ws x (fun v hv => hw v (List.mem_cons_of_mem _ hv)) hx]; rfl

/-! ## Numbers -/
theorem dig_nat {d : Nat} (h : d < 10) : (dig d).toNat = 48 + d := by
  unfold dig; rw [UInt8.toNat_ofNat']; omega
theorem dig_dg {d : Nat} (h : d < 10) : dgB (dig d) = true := by
  unfold dgB; rw [dig_nat h]; exact decide_eq_true (by omega)
theorem natD_all (n : Nat) : ∀ b ∈ natD n, dgB b = true := by
  induction n using Nat.strongRecOn with
  | ind n ih =>
    by_cases h : n < 10
    · rw [natD_lt h]
      intro b hb
      rw [List.mem_singleton.1 hb]; exact dig_dg h
    · rw [natD_ge (by omega)]
      intro b hb
      rcases List.mem_append.1 hb with hb | hb
      · exact ih (n / 10) (by omega) b hb
      · rw [List.mem_singleton.1 hb]; exact dig_dg (by omega)
theorem natD_val (n : Nat) : natV (natD n) = n := by
  induction n using Nat.strongRecOn with
  | ind n ih =>
    by_cases h : n < 10
    · rw [natD_lt h]
      unfold natV
      simp only [List.foldl_cons, List.foldl_nil]
      rw [dig_nat h]; omega
    · rw [natD_ge (by omega), natV_snoc, ih (n / 10) (by omega), dig_nat (by omega)]; omega
theorem headD_app {l x : B} (h : l ≠ []) : (l ++ x).headD 0 = l.headD 0 := by
  cases l with
  | nil => exact absurd rfl h
  | cons a l => rfl
theorem natD_ne (n : Nat) : natD n ≠ [] := by
  by_cases h : n < 10
  · rw [natD_lt h]; simp
  · rw [natD_ge (by omega)]; simp
theorem natD_head (n : Nat) (h0 : 0 < n) : (natD n).headD 0 ≠ 48 := by
  induction n using Nat.strongRecOn with
  | ind n ih =>
    by_cases h : n < 10
    · rw [natD_lt h]
      intro hb
      have : (dig n).toNat = 48 := by
        simp only [List.headD_cons] at hb; rw [hb]; rfl
      rw [dig_nat h] at this; omega
    · rw [natD_ge (by omega), headD_app (natD_ne _)]
      exact ih (n / 10) (by omega) (by omega)
theorem dg_nsep {b : UInt8} (h : dgB b = true) : nsep b = true := by
  unfold dgB at h
  have h := of_decide_eq_true h
  rw [nsep_iff]
  exact ⟨fun e => by subst e; exact absurd h (by decide), fun e => by subst e; exact absurd h (by decide)⟩
theorem natD_isDg (n : Nat) : isDg (natD n) = true := by
  unfold isDg
  rw [show (natD n).all dgB = true from List.all_eq_true.2 (natD_all n), Bool.true_and]
  by_cases h0 : n = 0
  · subst h0; rw [natD_lt (by decide)]; rfl
  · have h1 := natD_head n (by omega)
    have h2 := natD_ne n
    rw [Bool.or_eq_true, Bool.and_eq_true]
    right
    cases hd : natD n with
    | nil => exact absurd hd h2
    | cons a d =>
      rw [hd] at h1
      simp only [List.headD_cons] at h1
      exact ⟨decide_eq_true (by simp), by simp [h1]⟩
theorem natD_ne48 {n : Nat} (h : 0 < n) : natD n ≠ [48] := fun e => by
  have := natD_val n
  rw [e] at this
  have h2 : natV [48] = 0 := rfl
  omega
theorem num_intD {v : Int} (h : i64ok v) : num (intD v) = some v := by
  unfold i64ok at h
  unfold intD num
  by_cases hv : v < 0
  · rw [if_pos hv]
    simp only [List.headD_cons, List.tail_cons, if_true, natD_isDg, natD_val]
    have h1 : natD v.natAbs ≠ [48] := natD_ne48 (by omega)
    have h2 := (natD_len 18 v.natAbs (by omega)).1
    rw [if_pos ⟨trivial, h1, by omega, by omega⟩]
    congr 1; omega
  · rw [if_neg hv]
    have h0 : ¬ (natD v.toNat).headD 0 = 45 := fun e => by
      have h2 := natD_ne v.toNat
      cases hd : natD v.toNat with
      | nil => exact h2 hd
      | cons a d =>
        have := natD_all v.toNat a (by rw [hd]; exact List.mem_cons_self ..)
        rw [hd] at e
        simp only [List.headD_cons] at e
        subst e; exact absurd this (by decide)
    have h2 := (natD_len 18 v.toNat (by omega)).1
    rw [if_neg h0, natD_val, if_pos ⟨natD_isDg _, by omega, by omega⟩]
    congr 1; omega
theorem wok_int (v : Int) : wok (intD v) := by
  unfold intD
  split
  · refine ⟨by simp, fun b hb => ?_⟩
    rcases List.mem_cons.1 hb with h | h
    · subst h; rfl
    · exact dg_nsep (natD_all _ b h)
  · exact ⟨natD_ne _, fun b hb => dg_nsep (natD_all _ b hb)⟩
theorem wok_lit {w : B} (h : (decide (w ≠ []) && w.all nsep) = true) : wok w := by
  rw [Bool.and_eq_true, decide_eq_true_iff, List.all_eq_true] at h
  exact h
theorem wok_col {c : Int} (h : 0 ≤ c ∧ c < 3) : wok (colB c) := by rcases col3 h with rfl | rfl | rfl <;> exact wok_lit rfl
theorem wok_op {o : Int} (h : 1 ≤ o ∧ o ≤ 6) : wok (opB o) := by rcases (by omega : o = 1 ∨ o = 2 ∨ o = 3 ∨ o = 4 ∨ o = 5 ∨ o = 6) with rfl | rfl | rfl | rfl | rfl | rfl <;> exact wok_lit rfl
theorem wok_kwd {k : Int} (h : 1 ≤ k ∧ k ≤ 9) : wok (kwd k) := by rcases kinds h with rfl | rfl | rfl | rfl | rfl | rfl | rfl | rfl | rfl <;> exact wok_lit rfl
theorem hw_word {w : B} (h : wok w) (r : List B) : hw (w :: r) = w := by
  unfold hw
  refine if_neg fun e => ?_
  have := h.2 59 (by rw [e]; simp)
  exact absurd this (by decide)

/-! ## The parts -/
theorem bT {α β : Type} {f : Tk α} {g : α → Tk β} {t : List B} {a : α} {u : List B} {r : Option (β × List B)} (h : f t = some (a, u)) (h2 : g a u = r) : bindT f g t = r := by unfold bindT; rw [h]; exact h2
theorem tI_int {lo hi v : Int} (r : List B) (h : i64ok v) (h1 : lo ≤ v ∧ v ≤ hi) : tI lo hi (intD v :: r) = some (v, r) := by
  unfold tI
  rw [hw_word (wok_int v), num_intD h]
  simp only
  rw [if_pos h1]; rfl
theorem tV_int {v : Int} (r : List B) (h : i64ok v) : tV (intD v :: r) = some (v, r) := tI_int r h h
theorem tW_col {c : Int} (r : List B) (h : 0 ≤ c ∧ c < 3) : tW colW (colB c :: r) = some (c, r) := by rcases col3 h with rfl | rfl | rfl <;> rfl
theorem tW_op {o : Int} (r : List B) (h : 1 ≤ o ∧ o ≤ 6) : tW opW (opB o :: r) = some (o, r) := by rcases (by omega : o = 1 ∨ o = 2 ∨ o = 3 ∨ o = 4 ∨ o = 5 ∨ o = 6) with rfl | rfl | rfl | rfl | rfl | rfl <;> rfl
theorem tW_kwd {k : Int} (r : List B) (h : 1 ≤ k ∧ k ≤ 9) : tW nameW (kwd k :: r) = some (k, r) := by rcases kinds h with rfl | rfl | rfl | rfl | rfl | rfl | rfl | rfl | rfl <;> rfl
theorem tT_test {s : Stm} (r : List B) (h : testB s.wc s.wo = true) (hv : i64ok s.wv) : tT (testW s ++ r) = some ((s.wc, s.wo, s.wv), r) := by
  have h := of_decide_eq_true h
  exact bT (tW_col _ (by omega)) (bT (tW_op _ (by omega)) (bT (tV_int r hv) rfl))
def endT (u : List B) : Prop := hw u = []
theorem tp0 {s t : Stm} (r : List B) (h : okp 0 s = true) (hk : i64ok s.key) : tPart 0 t (wds s 0 ++ r) = some ({ t with key := s.key }, r) := by
  have h := of_decide_eq_true h
  exact bT (tI_int r hk h) rfl
theorem tp1 {s t : Stm} (r : List B) (h : okp 1 s = true) (hk : i64ok s.last) (he : t.key = s.key) : tPart 1 t (wds s 1 ++ r) = some ({ t with last := s.last }, r) := by
  have h := of_decide_eq_true h
  exact bT (tI_int r hk (by rw [he]; exact h)) rfl
theorem tp2 {s t : Stm} (r : List B) (h0 : i64ok s.c0) (h1 : i64ok s.c1) (h2 : i64ok s.c2) : tPart 2 t (wds s 2 ++ r) = some ({ t with c0 := s.c0, c1 := s.c1, c2 := s.c2 }, r) :=
  bT (tV_int _ h0) (bT (tV_int _ h1) (bT (tV_int _ h2) rfl))
theorem tp3 {s t : Stm} (r : List B) (h : okp 3 s = true) : tPart 3 t (wds s 3 ++ r) = some ({ t with col := s.col }, r) := by
  have h := of_decide_eq_true h
  exact bT (tW_col r h) rfl
theorem tp4 {s t : Stm} (r : List B) (h : i64ok s.v) : tPart 4 t (wds s 4 ++ r) = some ({ t with v := s.v }, r) := bT (tV_int r h) rfl
theorem tp5 {s t : Stm} (r : List B) (h : okp 5 s = true) (hv : i64ok s.wv) : tPart 5 t (wds s 5 ++ r) = some ({ t with wc := s.wc, wo := s.wo, wv := s.wv }, r) := bT (tT_test r h hv) rfl
theorem tPart6 (s : Stm) : tPart 6 s = bindT (tO whereW) fun b => if b then bindT tT fun t => pureT { s with wc := t.1, wo := t.2.1, wv := t.2.2 } else pureT s := rfl
theorem tPart7 (s : Stm) : tPart 7 s = bindT (tO limitW) fun b => if b then bindT (tI 1 64) fun v => pureT { s with lim := v } else pureT s := rfl
theorem tp6 {s t : Stm} (r : List B) (h : okp 6 s = true) (hv : i64ok s.wv) (hz : t.wc = 0 ∧ t.wo = 0 ∧ t.wv = 0) (hr : hw r ≠ whereW) : tPart 6 t (wds s 6 ++ r) = some ({ t with wc := s.wc, wo := s.wo, wv := s.wv }, r) := by
  have h : (zer s || testB s.wc s.wo) = true := h
  by_cases h0 : s.wo = 0
  · have e : wds s 6 = [] := if_pos h0
    rw [e]
    have ht : testB s.wc s.wo = false := decide_eq_false (by omega)
    rw [ht, Bool.or_false] at h
    unfold zer at h
    simp only [Bool.and_eq_true, beq_iff_eq] at h
    have ho : tO whereW r = some (false, r) := by unfold tO; rw [if_neg hr]
    refine bT (a := false) (u := r) ho ?_
    obtain ⟨k, key, last, c0, c1, c2, col, v, wc, wo, wv, lim⟩ := t
    obtain ⟨rfl, rfl, rfl⟩ := hz
    rw [h.1, h.2.1, h.2.2]; rfl
  · have e : wds s 6 = whereW :: testW s := if_neg h0
    rw [e]
    have hz0 : zer s = false := by
      unfold zer
      rw [beq_eq_false_iff_ne.2 h0]; simp
    rw [hz0, Bool.false_or] at h
    have ho : tO whereW (whereW :: testW s ++ r) = some (true, testW s ++ r) := rfl
    rw [tPart6]
    refine bT ho ?_
    rw [if_pos rfl]
    exact bT (tT_test r h hv) rfl
theorem tp7 {s t : Stm} (r : List B) (h : okp 7 s = true) (hz : t.lim = 0) (hr : hw r ≠ limitW) : tPart 7 t (wds s 7 ++ r) = some ({ t with lim := s.lim }, r) := by
  have h := of_decide_eq_true h
  by_cases h0 : s.lim = 0
  · have e : wds s 7 = [] := if_pos h0
    rw [e]
    have ho : tO limitW r = some (false, r) := by unfold tO; rw [if_neg hr]
    refine bT (a := false) (u := r) ho ?_
    obtain ⟨k, key, last, c0, c1, c2, col, v, wc, wo, wv, lim⟩ := t
    obtain rfl := hz
    rw [h0]; rfl
  · have e : wds s 7 = [limitW, intD s.lim] := if_neg h0
    rw [e]
    have ho : tO limitW ([limitW, intD s.lim] ++ r) = some (true, intD s.lim :: r) := rfl
    rw [tPart7]
    refine bT ho ?_
    rw [if_pos rfl]
    have h6 : 1 ≤ s.lim ∧ s.lim ≤ 64 := by omega
    exact bT (tI_int (v := s.lim) r (by unfold i64ok; omega) h6) rfl
theorem hw_7 (s : Stm) (u : List B) (hu : endT u) : hw (wds s 7 ++ u) ≠ whereW := by
  by_cases h0 : s.lim = 0
  · rw [show wds s 7 = [] from if_pos h0, List.nil_append, hu]; decide
  · rw [show wds s 7 = [limitW, intD s.lim] from if_neg h0]
    rw [show [limitW, intD s.lim] ++ u = limitW :: ([intD s.lim] ++ u) from rfl, hw_word (wok_lit rfl)]; decide
theorem tStm_text {s : Stm} (hV : s.V) (hok : s.ok) (u : List B) (hu : endT u) : tStm (stmW s ++ u) = some (s, u) := by
  have hk := hV.1
  have hv := valid_parts s hk
  rw [show s.valid = true from decide_eq_true hV, Bool.and_eq_true, seq_iff] at hv
  obtain ⟨ha, he⟩ := hv
  have e : stmW s ++ u = kwd s.k :: ((parts s.k).flatMap (wds s) ++ u) := rfl
  rw [e]
  refine bT (tW_kwd _ hk) ?_
  have hkey : i64ok s.key := by have := hok.2.1; unfold i64ok; omega
  have hlast : i64ok s.last := by have := hok.2.2.1; unfold i64ok; omega
  obtain ⟨_, _, _, g0, g1, g2, _, gv, _, _, gwv, _⟩ := hok
  have hw0 : hw u ≠ whereW := by rw [hu]; decide
  have hl0 : hw u ≠ limitW := by rw [hu]; decide
  suffices h : tParts (parts s.k) (stm0 s.k) ((parts s.k).flatMap (wds s) ++ u) = some (keepAll s (parts s.k) (stm0 s.k), u) by rw [h, he]
  clear he hV e
  obtain ⟨k, hks⟩ : ∃ k, k = s.k := ⟨_, rfl⟩
  rw [← hks] at ha hk ⊢
  rcases kinds hk with rfl | rfl | rfl | rfl | rfl | rfl | rfl | rfl | rfl
  · have ha : (okp 0 s && (okp 2 s && true)) = true := ha
    simp only [Bool.and_eq_true] at ha
    show tParts [0, 2] _ ([0, 2].flatMap (wds s) ++ u) = _
    simp only [List.flatMap_cons, List.flatMap_nil, List.append_nil, List.append_assoc, List.nil_append]
    exact bT (tp0 _ ha.1 hkey) (bT (tp2 _ g0 g1 g2) rfl)
  · have ha : (okp 0 s && (okp 3 s && (okp 4 s && true))) = true := ha
    simp only [Bool.and_eq_true] at ha
    show tParts [0, 3, 4] _ ([0, 3, 4].flatMap (wds s) ++ u) = _
    simp only [List.flatMap_cons, List.flatMap_nil, List.append_nil, List.append_assoc, List.nil_append]
    exact bT (tp0 _ ha.1 hkey) (bT (tp3 _ ha.2.1) (bT (tp4 _ gv) rfl))
  · have ha : (okp 0 s && (okp 3 s && (okp 4 s && true))) = true := ha
    simp only [Bool.and_eq_true] at ha
    show tParts [0, 3, 4] _ ([0, 3, 4].flatMap (wds s) ++ u) = _
    simp only [List.flatMap_cons, List.flatMap_nil, List.append_nil, List.append_assoc, List.nil_append]
    exact bT (tp0 _ ha.1 hkey) (bT (tp3 _ ha.2.1) (bT (tp4 _ gv) rfl))
  · have ha : (okp 0 s && true) = true := ha
    simp only [Bool.and_eq_true] at ha
    show tParts [0] _ ([0].flatMap (wds s) ++ u) = _
    simp only [List.flatMap_cons, List.flatMap_nil, List.append_nil, List.append_assoc, List.nil_append]
    exact bT (tp0 _ ha.1 hkey) rfl
  · have ha : (okp 0 s && true) = true := ha
    simp only [Bool.and_eq_true] at ha
    show tParts [0] _ ([0].flatMap (wds s) ++ u) = _
    simp only [List.flatMap_cons, List.flatMap_nil, List.append_nil, List.append_assoc, List.nil_append]
    exact bT (tp0 _ ha.1 hkey) rfl
  · have ha : (okp 0 s && (okp 1 s && (okp 6 s && (okp 7 s && true)))) = true := ha
    simp only [Bool.and_eq_true] at ha
    show tParts [0, 1, 6, 7] _ ([0, 1, 6, 7].flatMap (wds s) ++ u) = _
    simp only [List.flatMap_cons, List.flatMap_nil, List.append_nil, List.append_assoc, List.nil_append]
    exact bT (tp0 _ ha.1 hkey) (bT (tp1 _ ha.2.1 hlast rfl) (bT (tp6 _ ha.2.2.1 gwv ⟨rfl, rfl, rfl⟩ (hw_7 s u hu)) (bT (tp7 _ ha.2.2.2.1 rfl hl0) rfl)))
  · have ha : (okp 0 s && (okp 1 s && (okp 6 s && true))) = true := ha
    simp only [Bool.and_eq_true] at ha
    show tParts [0, 1, 6] _ ([0, 1, 6].flatMap (wds s) ++ u) = _
    simp only [List.flatMap_cons, List.flatMap_nil, List.append_nil, List.append_assoc, List.nil_append]
    exact bT (tp0 _ ha.1 hkey) (bT (tp1 _ ha.2.1 hlast rfl) (bT (tp6 _ ha.2.2.1 gwv ⟨rfl, rfl, rfl⟩ hw0) rfl))
  · have ha : (okp 3 s && (okp 0 s && (okp 1 s && (okp 6 s && true)))) = true := ha
    simp only [Bool.and_eq_true] at ha
    show tParts [3, 0, 1, 6] _ ([3, 0, 1, 6].flatMap (wds s) ++ u) = _
    simp only [List.flatMap_cons, List.flatMap_nil, List.append_nil, List.append_assoc, List.nil_append]
    exact bT (tp3 _ ha.1) (bT (tp0 _ ha.2.1 hkey) (bT (tp1 _ ha.2.2.1 hlast rfl) (bT (tp6 _ ha.2.2.2.1 gwv ⟨rfl, rfl, rfl⟩ hw0) rfl)))
  · have ha : (okp 0 s && (okp 5 s && true)) = true := ha
    simp only [Bool.and_eq_true] at ha
    show tParts [0, 5] _ ([0, 5].flatMap (wds s) ++ u) = _
    simp only [List.flatMap_cons, List.flatMap_nil, List.append_nil, List.append_assoc, List.nil_append]
    exact bT (tp0 _ ha.1 hkey) (bT (tp5 _ ha.2.1 gwv) rfl)

/-! ## The whole text -/
theorem wds_ok {s : Stm} (hat : s.at) (p : Int) (h : okp p s = true) : ∀ w ∈ wds s p, wok w := by
  obtain ⟨h1, h3, h4⟩ := hat
  have h2 : s.wo ≠ 0 → ∀ w ∈ testW s, wok w := fun h0 w hw => by
    simp only [testW, List.mem_cons, List.not_mem_nil, or_false] at hw
    rcases hw with rfl | rfl | rfl
    · exact wok_col h1
    · exact wok_op (by omega)
    · exact wok_int _
  intro w hw
  unfold wds at hw
  by_cases h0 : p = 0
  · rw [if_pos h0] at hw; rw [List.mem_singleton.1 hw]; exact wok_int _
  rw [if_neg h0] at hw
  by_cases h0 : p = 1
  · rw [if_pos h0] at hw; rw [List.mem_singleton.1 hw]; exact wok_int _
  rw [if_neg h0] at hw
  by_cases h0 : p = 2
  · rw [if_pos h0] at hw
    simp only [List.mem_cons, List.not_mem_nil, or_false] at hw
    rcases hw with rfl | rfl | rfl <;> exact wok_int _
  rw [if_neg h0] at hw
  by_cases h0 : p = 3
  · rw [if_pos h0] at hw; rw [List.mem_singleton.1 hw]; exact wok_col h4
  rw [if_neg h0] at hw
  by_cases h0 : p = 4
  · rw [if_pos h0] at hw; rw [List.mem_singleton.1 hw]; exact wok_int _
  rw [if_neg h0] at hw
  by_cases h0 : p = 5
  · rw [if_pos h0] at hw
    subst h0
    have h := of_decide_eq_true (show testB s.wc s.wo = true from h)
    exact h2 (by omega) w hw
  rw [if_neg h0] at hw
  by_cases h0 : p = 6
  · rw [if_pos h0] at hw
    by_cases hwo : s.wo = 0
    · rw [if_pos hwo] at hw; cases hw
    · rw [if_neg hwo] at hw
      rcases List.mem_cons.1 hw with rfl | hw
      · exact wok_lit rfl
      · exact h2 hwo w hw
  rw [if_neg h0] at hw
  by_cases h0 : p = 7
  · rw [if_pos h0] at hw
    by_cases hl : s.lim = 0
    · rw [if_pos hl] at hw; cases hw
    · rw [if_neg hl] at hw
      simp only [List.mem_cons, List.not_mem_nil, or_false] at hw
      rcases hw with rfl | rfl
      · exact wok_lit rfl
      · exact wok_int _
  rw [if_neg h0] at hw
  cases hw
theorem okAll_mem {s : Stm} : ∀ {ps : List Int} {p : Int}, okAll s ps = true → p ∈ ps → okp p s = true
  | q :: ps, p, h, hp => by
    have h : (okp q s && okAll s ps) = true := h
    rw [Bool.and_eq_true] at h
    rcases List.mem_cons.1 hp with rfl | hp
    · exact h.1
    · exact okAll_mem h.2 hp
theorem stmW_ok {s : Stm} (hV : s.V) : ∀ w ∈ stmW s, wok w := by
  have hv := valid_parts s hV.1
  rw [show s.valid = true from decide_eq_true hV, Bool.and_eq_true] at hv
  intro w hw
  rcases List.mem_cons.1 hw with rfl | hw
  · exact wok_kwd hV.1
  · obtain ⟨p, hp, hw⟩ := List.mem_flatMap.1 hw
    exact wds_ok (V_at hV) p (okAll_mem hv.1 hp) w hw
def toks : List Stm → List B
  | [] => []
  | s :: r => [59] :: (stmW s ++ toks r)
theorem lex_stm {s : Stm} (hV : s.V) (x : B) (hx : x = [] ∨ nsep (x.headD 0) = false) : lex (stmT s ++ x) = stmW s ++ lex x := lex_join _ _ x (stmW_ok hV) hx
theorem lex_rest : ∀ (r : List Stm), (∀ s ∈ r, s.V) → lex (Go.Lib.joinTail [59, 32] (r.map stmT)) = toks r
  | [], _ => rfl
  | s :: r, h => by
    have e : Go.Lib.joinTail [59, 32] ((s :: r).map stmT) = 59 :: 32 :: (stmT s ++ Go.Lib.joinTail [59, 32] (r.map stmT)) := by
      rw [List.map_cons]; unfold Go.Lib.joinTail; simp
    have ht := tail_head [59, 32] 59 [32] rfl rfl (r.map stmT) [] (.inl rfl)
    rw [List.append_nil] at ht
    rw [e, lex_semi, lex_sp, lex_stm (h s (List.mem_cons_self ..)) _ ht, lex_rest r fun t ht => h t (List.mem_cons_of_mem _ ht)]; rfl
theorem lex_fmt (s : Stm) (r : List Stm) (h : ∀ t ∈ s :: r, t.V) : lex (fmtL (s :: r)) = stmW s ++ toks r := by
  have ht := tail_head [59, 32] 59 [32] rfl rfl (r.map stmT) [] (.inl rfl)
  rw [List.append_nil] at ht
  unfold fmtL
  rw [List.map_cons, Go.Lib.join_cons, lex_stm (h s (List.mem_cons_self ..)) _ ht, lex_rest r fun t ht => h t (List.mem_cons_of_mem _ ht)]
theorem end_toks (r : List Stm) : endT (toks r) := by cases r <;> rfl
theorem prsT_toks : ∀ (r : List Stm) (s : Stm) (acc : List Stm) (f : Nat), (∀ t ∈ s :: r, t.V) → (∀ t ∈ s :: r, t.ok) → acc.length + (s :: r).length ≤ 8 → r.length < f → prsT f acc (stmW s ++ toks r) = .ok (acc ++ s :: r)
  | r, s, acc, f + 1, hV, hok, h8, hf => by
    have hlen : (s :: r).length = r.length + 1 := rfl
    unfold prsT
    rw [if_neg (fun h => by omega), tStm_text (hV s (List.mem_cons_self ..)) (hok s (List.mem_cons_self ..)) _ (end_toks r)]
    simp only
    rw [if_neg (fun h => h (end_toks r))]
    cases r with
    | nil => exact if_pos rfl
    | cons t r =>
      have hl2 : (t :: r).length = r.length + 1 := rfl
      rw [if_neg (by unfold toks; simp)]
      show prsT f (acc ++ [s]) (stmW t ++ toks r) = _
      rw [prsT_toks r t (acc ++ [s]) f (fun x hx => hV x (List.mem_cons_of_mem _ hx)) (fun x hx => hok x (List.mem_cons_of_mem _ hx)) (by rw [List.length_append]; show acc.length + 1 + _ ≤ 8; omega) (by omega), List.append_assoc]; rfl
/-- The text of a program is read as the program. -/
theorem prs_fmt (p : List Stm) (hV : ∀ t ∈ p, t.V) (hok : ∀ t ∈ p, t.ok) (h8 : 1 ≤ p.length ∧ p.length ≤ 8) : prsT 9 [] (lex (fmtL p)) = .ok p := by
  cases p with
  | nil => exact absurd h8.1 (by decide)
  | cons s r =>
    have hl2 : (s :: r).length = r.length + 1 := rfl
    rw [lex_fmt s r hV, prsT_toks r s [] 9 hV hok (by simpa using h8.2) (by omega)]; rfl
theorem prs_of {l : B} {r : List Stm} (h : prsT 9 [] (lex l) = .ok r) : prs l 9 [] 0 = (r, 0, 0) := by
  have := prs_T l 9 [] 0 (Nat.zero_le _)
  rw [List.drop_zero, h] at this
  exact this
theorem prs_err {l : B} {c : Int} (h : prsT 9 [] (lex l) = .error c) : ∃ k, prs l 9 [] 0 = ([], k, c) := by
  have := prs_T l 9 [] 0 (Nat.zero_le _)
  rw [List.drop_zero, h] at this
  exact this
end Go.Proofs.Ytcinngpelbdopaa
