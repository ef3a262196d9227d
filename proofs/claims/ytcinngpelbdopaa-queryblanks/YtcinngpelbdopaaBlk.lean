/- QueryBlanks. -/
import Derived.Test.YtcinngpelbdopaaBack
set_option linter.all false
namespace Go.Proofs.Ytcinngpelbdopaa
open Go.Ev
attribute [local congr] bind_first cond_first
/-! ## A blank put in -/
def ins (x : B) (v : Nat) (c : UInt8) : B := x.take v ++ c :: x.drop v
theorem ins_len (x : B) (v : Nat) (c : UInt8) : (ins x v c).length = x.length + 1 := by
  unfold ins
  rw [List.length_append, List.length_cons, List.length_take, List.length_drop]; omega
theorem asc_ins {x : B} (h : okTxt x) (v : Nat) {c : UInt8} (hc : c.toNat < 128) : okTxt (ins x v c) := fun b hb => by
  rcases List.mem_append.1 hb with hb | hb
  · exact h b (List.mem_of_mem_take hb)
  rcases List.mem_cons.1 hb with rfl | hb
  · exact hc
  · exact h b (List.mem_of_mem_drop hb)
theorem lexA_ins : ∀ (x w : B) (v : Nat), v ≤ x.length → ((v = 0 ∧ w = []) ∨ v = x.length ∨ nsep (x.getD v 0) = false ∨ (0 < v ∧ nsep (x.getD (v - 1) 0) = false)) → lexA w (ins x v 32) = lexA w x
  | [], w, v, hv, h => by
    obtain rfl : v = 0 := by simpa using hv
    show lexA w [32] = _
    simp [lexA, fl_nil]
  | b :: x, w, 0, hv, h => by
    show lexA w (32 :: b :: x) = _
    rw [lexA, if_pos rfl]
    rcases h with ⟨_, rfl⟩ | h | h | h
    · rfl
    · simp at h
    · simp only [List.getD_cons_zero] at h
      by_cases h1 : b = 32
      · subst h1
        rw [lexA, lexA, if_pos rfl, if_pos rfl, fl_nil]; rfl
      · by_cases h2 : b = 59
        · subst h2
          rw [lexA, lexA, if_neg h1, if_pos rfl, if_neg h1, if_pos rfl, fl_nil]; rfl
        · rw [(nsep_iff b).2 ⟨h1, h2⟩] at h; cases h
    · omega
  | b :: x, w, v + 1, hv, h => by
    show lexA w (b :: ins x v 32) = lexA w (b :: x)
    have hv' : v ≤ x.length := by simpa using hv
    have next : ∀ w' : B, (w' = [] ∨ nsep b = true) → ((v = 0 ∧ w' = []) ∨ v = x.length ∨ nsep (x.getD v 0) = false ∨ (0 < v ∧ nsep (x.getD (v - 1) 0) = false)) := fun w' hw => by
      rcases h with ⟨h, _⟩ | h | h | ⟨_, h⟩
      · omega
      · right; left; simpa using h
      · right; right; left; simpa using h
      · by_cases hv0 : v = 0
        · subst hv0
          rw [show (b :: x).getD (0 + 1 - 1) 0 = b from rfl] at h
          rcases hw with hw | hw
          · exact .inl ⟨rfl, hw⟩
          · rw [h] at hw; cases hw
        · right; right; right
          refine ⟨by omega, ?_⟩
          rw [show v + 1 - 1 = (v - 1) + 1 by omega, List.getD_cons_succ] at h
          exact h
    rw [lexA, lexA]
    by_cases h1 : b = 32
    · rw [if_pos h1, if_pos h1, lexA_ins x [] v hv' (next [] (.inl rfl))]
    rw [if_neg h1, if_neg h1]
    by_cases h2 : b = 59
    · rw [if_pos h2, if_pos h2, lexA_ins x [] v hv' (next [] (.inl rfl))]
    rw [if_neg h2, if_neg h2, lexA_ins x (w ++ [b]) v hv' (next _ (.inr ((nsep_iff b).2 ⟨h1, h2⟩)))]

/-! ## A byte put in that is of no word -/
theorem lexA_mem {c : UInt8} (hc : nsep c = true) : ∀ (x w : B), (c ∈ w ∨ c ∈ x) → ∃ t ∈ lexA w x, c ∈ t
  | [], w, h => by
    rcases h with h | h
    · refine ⟨w, ?_, h⟩
      show w ∈ fl w
      rw [fl_ne (List.ne_nil_of_mem h)]; exact List.mem_singleton.2 rfl
    · cases h
  | b :: x, w, h => by
    have hne := (nsep_iff c).1 hc
    have inw : c ∈ w → ∃ t ∈ fl w, c ∈ t := fun h => ⟨w, by rw [fl_ne (List.ne_nil_of_mem h)]; exact List.mem_singleton.2 rfl, h⟩
    rw [lexA]
    by_cases h1 : b = 32
    · rw [if_pos h1]
      rcases h with h | h
      · obtain ⟨t, ht, hct⟩ := inw h
        exact ⟨t, List.mem_append.2 (.inl ht), hct⟩
      · rcases List.mem_cons.1 h with h | h
        · exact absurd (h.trans h1) hne.1
        · obtain ⟨t, ht, hct⟩ := lexA_mem hc x [] (.inr h)
          exact ⟨t, List.mem_append.2 (.inr ht), hct⟩
    rw [if_neg h1]
    by_cases h2 : b = 59
    · rw [if_pos h2]
      rcases h with h | h
      · obtain ⟨t, ht, hct⟩ := inw h
        exact ⟨t, List.mem_append.2 (.inl ht), hct⟩
      · rcases List.mem_cons.1 h with h | h
        · exact absurd (h.trans h2) hne.2
        · obtain ⟨t, ht, hct⟩ := lexA_mem hc x [] (.inr h)
          exact ⟨t, List.mem_append.2 (.inr (List.mem_cons_of_mem _ ht)), hct⟩
    rw [if_neg h2]
    refine lexA_mem hc x (w ++ [b]) ?_
    rcases h with h | h
    · exact .inl (List.mem_append.2 (.inl h))
    · rcases List.mem_cons.1 h with rfl | h
      · exact .inl (by simp)
      · exact .inr h
/-- How many semicolons there are. -/
def semi (w : B) : Bool := decide (w = [] ∨ w = [59])
def sc (t : List B) : Nat := t.countP semi
theorem sc_app (a b : List B) : sc (a ++ b) = sc a + sc b := List.countP_append
theorem sc_fl {w : B} (h : (59 : UInt8) ∉ w) : sc (fl w) = 0 := by
  unfold fl
  by_cases h0 : w = []
  · rw [if_pos h0]; rfl
  · rw [if_neg h0]
    have : semi w = false := decide_eq_false (fun h' => by
      rcases h' with h' | h'
      · exact h0 h'
      · rw [h'] at h; simp at h)
    unfold sc
    simp [this]
theorem sc_lexA : ∀ (x w : B), (59 : UInt8) ∉ w → sc (lexA w x) = x.count 59
  | [], w, h => sc_fl h
  | b :: x, w, h => by
    have hn : (59 : UInt8) ∉ ([] : B) := List.not_mem_nil
    rw [lexA]
    by_cases h1 : b = 32
    · rw [if_pos h1, sc_app, sc_fl h, sc_lexA x [] hn, h1, List.count_cons_of_ne (by decide)]; omega
    rw [if_neg h1]
    by_cases h2 : b = 59
    · rw [if_pos h2, sc_app, sc_fl h, h2, List.count_cons_self]
      show 0 + sc ([59] :: lexA [] x) = _
      have : sc ([59] :: lexA [] x) = sc (lexA [] x) + 1 := by
        unfold sc; rw [List.countP_cons]; rfl
      rw [this, sc_lexA x [] hn]; omega
    rw [if_neg h2, sc_lexA x (w ++ [b]) (by
      intro hm
      rcases List.mem_append.1 hm with hm | hm
      · exact h hm
      · exact h2 (List.mem_singleton.1 hm).symm), List.count_cons_of_ne h2]
/-- What a reader takes has none of a byte. -/
def eats {α : Type} (c : UInt8) (f : Tk α) : Prop := ∀ t a u, f t = some (a, u) → ∃ pre, t = pre ++ u ∧ ∀ w ∈ pre, c ∉ w
theorem eats_bind {α β : Type} {c : UInt8} {f : Tk α} {g : α → Tk β} (h : eats c f) (h2 : ∀ a, eats c (g a)) : eats c (bindT f g) := fun t b u hb => by
  unfold bindT at hb
  cases hf : f t with
  | none => rw [hf] at hb; cases hb
  | some am =>
    rw [hf] at hb
    obtain ⟨p1, e1, n1⟩ := h t am.1 am.2 hf
    obtain ⟨p2, e2, n2⟩ := h2 am.1 am.2 b u hb
    refine ⟨p1 ++ p2, by rw [e1, e2, List.append_assoc], fun w hw => ?_⟩
    rcases List.mem_append.1 hw with hw | hw
    · exact n1 w hw
    · exact n2 w hw
theorem eats_pure {α : Type} {c : UInt8} (a : α) : eats c (pureT a) := fun t b u h => by
  injection h with h
  injection h with _ h
  exact ⟨[], h, fun w hw => by cases hw⟩
theorem hw_cons {t : List B} (h : hw t ≠ []) : t = hw t :: t.tail := by
  cases t with
  | nil => exact absurd rfl h
  | cons w r =>
    unfold hw at h ⊢
    simp only at h ⊢
    by_cases e : w = [59]
    · rw [if_pos e] at h; exact absurd rfl h
    · rw [if_neg e]; rfl
theorem eats_hw {α : Type} {c : UInt8} {t : List B} {a a' : α} {u : List B} (h0 : hw t ≠ []) (h1 : c ∉ hw t) (h : some (a, t.tail) = some (a', u)) : ∃ pre, t = pre ++ u ∧ ∀ w ∈ pre, c ∉ w := by
  injection h with h
  injection h with _ h
  refine ⟨[hw t], ?_, fun w hw' => by rw [List.mem_singleton.1 hw']; exact h1⟩
  rw [← h]; exact hw_cons h0
theorem idxW_mem (w : B) : ∀ (ws : List B) (i j : Nat), idxW w ws i = some j → w ∈ ws
  | [], _, _, h => by cases h
  | x :: xs, i, j, h => by
    rw [idxW_cons] at h
    split at h
    · rename_i e; rw [e]; exact List.mem_cons_self ..
    · exact List.mem_cons_of_mem _ (idxW_mem w xs (i + 1) j h)
theorem eats_W {c : UInt8} {ws : List B} (hc : ∀ w ∈ ws, c ∉ w) : eats c (tW ws) := fun t a u h => by
  unfold tW at h
  split at h
  · cases h
  · rename_i h0
    split at h
    · rename_i i hi
      exact eats_hw h0 (hc _ (idxW_mem _ _ _ _ hi)) h
    · cases h
theorem num_bytes {w : B} {v : Int} (h : num w = some v) : ∀ b ∈ w, b = 45 ∨ dgB b = true := by
  unfold num at h
  split at h
  · rename_i h1
    split at h
    · rename_i h2
      have hd := h2.1
      unfold isDg at hd
      rw [Bool.and_eq_true, List.all_eq_true] at hd
      intro b hb
      cases w with
      | nil => cases hb
      | cons a w =>
        rcases List.mem_cons.1 hb with rfl | hb
        · exact .inl h1
        · exact .inr (hd.1 b hb)
    · cases h
  · split at h
    · rename_i h2
      have hd := h2.1
      unfold isDg at hd
      rw [Bool.and_eq_true, List.all_eq_true] at hd
      exact fun b hb => .inr (hd.1 b hb)
    · cases h
theorem eats_I {c : UInt8} (hc : c ≠ 45 ∧ dgB c = false) (lo hi : Int) : eats c (tI lo hi) := fun t a u h => by
  unfold tI at h
  cases hx : num (hw t) with
  | none => rw [hx] at h; cases h
  | some v =>
    rw [hx] at h
    simp only at h
    split at h
    · refine eats_hw (fun e => by rw [e, num_nil] at hx; cases hx) (fun hm => ?_) h
      rcases num_bytes hx c hm with e | e
      · exact hc.1 e
      · rw [hc.2] at e; cases e
    · cases h
theorem eats_O {c : UInt8} {w : B} (h0 : w ≠ []) (hc : c ∉ w) : eats c (tO w) := fun t a u h => by
  unfold tO at h
  split at h
  · rename_i e
    exact eats_hw (by rw [e]; exact h0) (by rw [e]; exact hc) h
  · injection h with h
    injection h with _ h
    exact ⟨[], h, fun w hw => by cases hw⟩
/-- A byte that is in no word of a statement. -/
def odd (c : UInt8) : Prop := c = 9 ∨ c = 10 ∨ c = 11 ∨ c = 13
theorem odd_no {c : UInt8} (h : odd c) : (c ≠ 45 ∧ dgB c = false) ∧ nsep c = true ∧ c.toNat < 128 ∧ c ≠ 59 := by rcases h with rfl | rfl | rfl | rfl <;> exact ⟨⟨by decide, rfl⟩, rfl, by decide, by decide⟩
theorem odd_col {c : UInt8} (h : odd c) : ∀ w ∈ colW, c ∉ w := by rcases h with rfl | rfl | rfl | rfl <;> decide
theorem odd_op {c : UInt8} (h : odd c) : ∀ w ∈ opW, c ∉ w := by rcases h with rfl | rfl | rfl | rfl <;> decide
theorem odd_name {c : UInt8} (h : odd c) : ∀ w ∈ nameW, c ∉ w := by rcases h with rfl | rfl | rfl | rfl <;> decide
theorem odd_where {c : UInt8} (h : odd c) : c ∉ whereW := by rcases h with rfl | rfl | rfl | rfl <;> decide
theorem odd_limit {c : UInt8} (h : odd c) : c ∉ limitW := by rcases h with rfl | rfl | rfl | rfl <;> decide
theorem eats_T {c : UInt8} (h : odd c) : eats c tT := eats_bind (eats_W (odd_col h)) fun _ => eats_bind (eats_W (odd_op h)) fun _ => eats_bind (eats_I (odd_no h).1 _ _) fun _ => eats_pure _
theorem eats_Part {c : UInt8} (h : odd c) (p : Int) (s : Stm) : eats c (tPart p s) := by
  have hI := fun lo hi => eats_I (odd_no h).1 lo hi
  unfold tPart
  repeat' split
  · exact eats_bind (hI _ _) fun _ => eats_pure _
  · exact eats_bind (hI _ _) fun _ => eats_pure _
  · exact eats_bind (hI _ _) fun _ => eats_bind (hI _ _) fun _ => eats_bind (hI _ _) fun _ => eats_pure _
  · exact eats_bind (eats_W (odd_col h)) fun _ => eats_pure _
  · exact eats_bind (hI _ _) fun _ => eats_pure _
  · exact eats_bind (eats_T h) fun _ => eats_pure _
  · exact eats_bind (eats_O (by decide) (odd_where h)) fun b => by cases b; exact eats_pure _; exact eats_bind (eats_T h) fun _ => eats_pure _
  · exact eats_bind (eats_O (by decide) (odd_limit h)) fun b => by cases b; exact eats_pure _; exact eats_bind (hI _ _) fun _ => eats_pure _
  · exact eats_pure _
theorem eats_Parts {c : UInt8} (h : odd c) : ∀ (ps : List Int) (s : Stm), eats c (tParts ps s)
  | [], s => eats_pure _
  | p :: ps, s => eats_bind (eats_Part h p s) fun t => eats_Parts h ps t
theorem eats_Stm {c : UInt8} (h : odd c) : eats c tStm := eats_bind (eats_W (odd_name h)) fun _ => eats_Parts h _ _
theorem hw_none {u : List B} (h : hw u = []) (h0 : u ≠ []) : ∃ w, u = w :: u.tail ∧ (w = [] ∨ w = [59]) := by
  cases u with
  | nil => exact absurd rfl h0
  | cons w r =>
    refine ⟨w, rfl, ?_⟩
    unfold hw at h
    simp only at h
    by_cases e : w = [59]
    · exact .inr e
    · rw [if_neg e] at h; exact .inl h
theorem prsT_clean {c : UInt8} (h : odd c) : ∀ (f : Nat) (acc : List Stm) (t : List B) (r : List Stm), prsT f acc t = .ok r → ∀ w ∈ t, c ∉ w
  | 0, acc, t, r, hr => by cases hr
  | f + 1, acc, t, r, hr => by
    unfold prsT at hr
    split at hr
    · cases hr
    cases hs : tStm t with
    | none => rw [hs] at hr; cases hr
    | some su =>
      obtain ⟨s, u⟩ := su
      rw [hs] at hr
      simp only at hr
      obtain ⟨pre, e, hp⟩ := eats_Stm h t s u hs
      split at hr
      · cases hr
      rename_i hwu
      have hwu : hw u = [] := Classical.byContradiction hwu
      have hu : ∀ w ∈ u, c ∉ w := by
        by_cases h0 : u = []
        · subst h0; exact fun w hw => by cases hw
        · rw [if_neg h0] at hr
          obtain ⟨w0, eu, hw0⟩ := hw_none hwu h0
          have ih := prsT_clean h f _ _ _ hr
          intro w hw
          rw [eu] at hw
          rcases List.mem_cons.1 hw with rfl | hw
          · rcases hw0 with rfl | rfl
            · exact List.not_mem_nil
            · intro hm; exact (odd_no h).2.2.2 (List.mem_singleton.1 hm)
          · exact ih w hw
      intro w hw
      rw [e] at hw
      rcases List.mem_append.1 hw with hw | hw
      · exact hp w hw
      · exact hu w hw
theorem prsT_code : ∀ (f : Nat) (acc : List Stm) (t : List B) (k : Int), acc.length + f = 9 → 1 ≤ f → prsT f acc t = .error k → k = 15 ∨ (k = 18 ∧ 8 ≤ acc.length + sc t)
  | 0, acc, t, k, _, h, _ => absurd h (by decide)
  | f + 1, acc, t, k, hf, _, hr => by
    unfold prsT at hr
    split at hr
    · rename_i h8
      injection hr with hr
      exact .inr ⟨hr.symm, by omega⟩
    rename_i h8
    cases hs : tStm t with
    | none => rw [hs] at hr; injection hr with hr; exact .inl hr.symm
    | some su =>
      obtain ⟨s, u⟩ := su
      rw [hs] at hr
      simp only at hr
      obtain ⟨pre, e, _⟩ := eats_Stm (.inl rfl) t s u hs
      split at hr
      · injection hr with hr; exact .inl hr.symm
      rename_i hwu
      have hwu : hw u = [] := Classical.byContradiction hwu
      by_cases h0 : u = []
      · rw [if_pos h0] at hr; cases hr
      · rw [if_neg h0] at hr
        obtain ⟨w0, eu, hw0⟩ := hw_none hwu h0
        have hf1 : 1 ≤ f := by
          refine Nat.pos_of_ne_zero fun hf0 => ?_
          -- a ninth statement begins with no word
          have ht : hw t ≠ [] := fun e0 => by
            unfold tStm bindT tW at hs
            rw [if_pos e0] at hs
            cases hs
          exact h8 ⟨by omega, ht⟩
        rcases prsT_code f (acc ++ [s]) u.tail k (by rw [List.length_append]; show acc.length + 1 + f = 9; omega) hf1 hr with h | ⟨h, h2⟩
        · exact .inl h
        · refine .inr ⟨h, ?_⟩
          rw [List.length_append] at h2
          have e3 : sc t = sc pre + sc u := by rw [e, sc_app]
          have e4 : sc u = sc u.tail + 1 := by
            conv => lhs; rw [eu]
            unfold sc
            rw [List.countP_cons, show semi w0 = true from decide_eq_true hw0]; rfl
          have : [s].length = 1 := rfl
          omega
theorem sc_words {t : List B} (h : ∀ w ∈ t, wok w) : sc t = 0 := by
  unfold sc
  rw [List.countP_eq_zero]
  intro w hw
  have := h w hw
  unfold semi
  simp only [decide_eq_true_eq]
  rintro (e | e)
  · exact this.1 e
  · have h2 := this.2 59 (by rw [e]; simp)
    exact absurd h2 (by decide)
theorem sc_toks : ∀ (r : List Stm), (∀ s ∈ r, s.V) → sc (toks r) = r.length
  | [], _ => rfl
  | s :: r, h => by
    have e : sc (toks (s :: r)) = sc (stmW s ++ toks r) + 1 := by
      show sc ([59] :: (stmW s ++ toks r)) = _
      unfold sc; rw [List.countP_cons]; rfl
    rw [e, sc_app, sc_words (stmW_ok (h s (List.mem_cons_self ..))), sc_toks r fun t ht => h t (List.mem_cons_of_mem _ ht), List.length_cons]; omega
/-- A byte of no word, put in anywhere: the text is none of a program. -/
theorem odd_15 {p : List Stm} (hV : ∀ t ∈ p, t.V) (h8 : 1 ≤ p.length ∧ p.length ≤ 8) {c : UInt8} (hc : odd c) (v : Nat) : prsT 9 [] (lex (ins (fmtL p) v c)) = .error 15 := by
  have hno := odd_no hc
  have hm : ∃ t ∈ lex (ins (fmtL p) v c), c ∈ t := lexA_mem hno.2.1 _ [] (.inr (by unfold ins; simp))
  have hs : sc (lex (ins (fmtL p) v c)) + 1 = p.length := by
    have e1 : sc (lex (ins (fmtL p) v c)) = (ins (fmtL p) v c).count 59 := sc_lexA _ [] List.not_mem_nil
    have e2 : sc (lex (fmtL p)) = (fmtL p).count 59 := sc_lexA _ [] List.not_mem_nil
    have e3 : (ins (fmtL p) v c).count 59 = (fmtL p).count 59 := by
      unfold ins
      rw [List.count_append, List.count_cons_of_ne hno.2.2.2, ← List.count_append, List.take_append_drop]
    cases p with
    | nil => exact absurd h8.1 (by decide)
    | cons s r =>
      rw [lex_fmt s r hV, sc_app, sc_words (stmW_ok (hV s (List.mem_cons_self ..))), sc_toks r fun t ht => hV t (List.mem_cons_of_mem _ ht)] at e2
      rw [List.length_cons]; omega
  cases hr : prsT 9 [] (lex (ins (fmtL p) v c)) with
  | ok r =>
    obtain ⟨t, ht, hct⟩ := hm
    exact absurd hct (prsT_clean hc 9 [] _ r hr t ht)
  | error k =>
    rcases prsT_code 9 [] _ k rfl (by decide) hr with h | ⟨_, h⟩
    · rw [h]
    · have : ([] : List Stm).length = 0 := rfl
      omega
end Go.Proofs.Ytcinngpelbdopaa
