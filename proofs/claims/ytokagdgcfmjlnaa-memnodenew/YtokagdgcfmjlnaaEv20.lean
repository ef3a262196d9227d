/- Regions, in any order. -/
import Derived.Test.YtokagdgcfmjlnaaEv19
set_option linter.all false
namespace Go.Ev

def lis (L : Array Bool) (i : Nat) : Bool := L.getD i false
def dstAt (ops : Array Oper) (k : Nat) : Option Nat := (ops[k]?).bind (·.dst)

theorem lis_set {L : Array Bool} {i j : Nat} (hi : i < L.size) : lis (L.setIfInBounds i true) j = (decide (i = j) || lis L j) := by
  unfold lis
  by_cases e : i = j
  · subst e; simp [hi]
  · simp [Array.getElem?_setIfInBounds_ne e, e]

/-- The slots when the listed operations have been carried out. -/
def slotW (ops : Array Oper) (S : Nat → FM × Store) (L : Array Bool) : Nat → FM
  | 0 => (S 0).1
  | k + 1 => fun t => if lis L k = true ∧ dstAt ops k = some t then (S (k + 1)).1 t else slotW ops S L k t

section
variable {P : Program} {C : Cfg} {ops : Array Oper} {cl : Nat → Nat → Prop} {S : Nat → FM × Store}

theorem step_keep (hS : ∀ (i : Nat) (o : Oper), ops[i]? = some o → StepF P C ops o (S i) (S (i + 1))) {k t : Nat} (hk : k < ops.size) (h : dstAt ops k ≠ some t) : (S (k + 1)).1 t = (S k).1 t := by
  have hok : ops[k]? = some ops[k] := Array.getElem?_eq_getElem hk
  have hd : ops[k].dst ≠ some t := by simpa [dstAt, hok] using h
  rcases hS k _ hok with ⟨_, fr, av, σ', _, h1, _⟩ | ⟨_, h1⟩
  · rw [h1]; simp [updF, hd]
  · rw [h1]; simp [updF, hd]

theorem slotW_none {L : Array Bool} (h : ∀ i, lis L i = false) : ∀ k, slotW ops S L k = (S 0).1
  | 0 => rfl
  | k + 1 => by
    funext t
    simp only [slotW, h k, Bool.false_eq_true, false_and, if_false, slotW_none h k]
theorem slotW_all (hS : ∀ (i : Nat) (o : Oper), ops[i]? = some o → StepF P C ops o (S i) (S (i + 1))) {L : Array Bool} (h : ∀ i, i < ops.size → lis L i = true) : ∀ k, k ≤ ops.size → slotW ops S L k = (S k).1
  | 0, _ => rfl
  | k + 1, hk => by
    funext t
    simp only [slotW, h k (by omega), true_and, slotW_all hS h k (by omega)]
    split
    · rfl
    · rename_i hd
      exact (step_keep hS (by omega) hd).symm

theorem looks_apart (DF : DrawFacts P C ops cl) {i j : Nat} {a b : Oper} (hij : i < j) (ha : ops[i]? = some a) (hb : ops[j]? = some b) (h : ¬ cl j i) :
    (∀ d, dstAt ops i = some d → d ∉ looksL ops b) ∧ (∀ d, dstAt ops i = some d → dstAt ops j ≠ some d) ∧ (∀ d, dstAt ops j = some d → d ∉ looksL ops a) ∧ ¬ (opClass P C a = 2 ∧ 0 < opClass P C b) ∧ ¬ (0 < opClass P C a ∧ opClass P C b = 2) := by
  have := apartB_spec ((DF.apart i j a b hij ha hb).resolve_left h)
  simpa [dstAt, ha, hb] using this

/-- What an operation that may come up next looks at is what it would look at in the text's order. -/
theorem slotW_look (DF : DrawFacts P C ops cl) (hS : ∀ (i : Nat) (o : Oper), ops[i]? = some o → StepF P C ops o (S i) (S (i + 1))) {L : Array Bool} (hcl : ∀ i j, lis L i = true → cl i j → lis L j = true) {i : Nat} {o : Oper} (ho : ops[i]? = some o)
    (hi : lis L i = false) (hr : ∀ j, cl i j → lis L j = true) {t : Nat} (ht : t ∈ looksL ops o) : ∀ k, k ≤ ops.size → slotW ops S L k t = (S (min k i)).1 t
  | 0, _ => by simp [slotW]
  | k + 1, hk => by
    have ih := slotW_look DF hS hcl ho hi hr ht k (by omega)
    have hok : ops[k]? = some ops[k] := Array.getElem?_eq_getElem (by omega)
    simp only [slotW]
    rcases Nat.lt_or_ge k i with hki | hki
    · rw [Nat.min_eq_left (show k + 1 ≤ i by omega)]
      rw [Nat.min_eq_left (by omega)] at ih
      split
      · rfl
      · rename_i hn
        rw [ih]
        refine (step_keep hS (by omega) fun hd => ?_).symm
        have hl : lis L k = false := by
          cases e : lis L k with
          | false => rfl
          | true => exact absurd ⟨e, hd⟩ hn
        have := looks_apart DF hki hok ho (fun e => by rw [hr k e] at hl; cases hl)
        exact this.1 t hd ht
    · rw [Nat.min_eq_right (show i ≤ k + 1 by omega)]
      rw [Nat.min_eq_right hki] at ih
      split
      · rename_i hn
        obtain ⟨hl, hd⟩ := hn
        have hne : i ≠ k := fun e => by rw [← e, hi] at hl; cases hl
        have := looks_apart DF (show i < k by omega) ho hok (fun e => by rw [hcl k i hl e] at hi; cases hi)
        exact absurd ht (this.2.2.1 t hd)
      · exact ih

theorem slotW_put (DF : DrawFacts P C ops cl) {L : Array Bool} (hcl : ∀ i j, lis L i = true → cl i j → lis L j = true) {i : Nat} {o : Oper} (ho : ops[i]? = some o) (hi : lis L i = false) (hsz : L.size = ops.size) :
    ∀ k, k ≤ ops.size → slotW ops S (L.setIfInBounds i true) k = fun t => if i < k ∧ o.dst = some t then (S (i + 1)).1 t else slotW ops S L k t
  | 0, _ => by funext t; simp [slotW]
  | k + 1, hk => by
    have ih := slotW_put DF hcl ho hi hsz k (by omega)
    have hil : i < ops.size := (Array.getElem?_eq_some_iff.1 ho).1
    have hok : ops[k]? = some ops[k] := Array.getElem?_eq_getElem (by omega)
    have hdi : dstAt ops i = o.dst := by simp [dstAt, ho]
    funext t
    simp only [slotW, ih, lis_set (show i < L.size by omega)]
    by_cases e : i = k
    · subst e
      simp only [decide_true, Bool.true_or, true_and, hi, Bool.false_eq_true, false_and, if_false, hdi, Nat.lt_irrefl, Nat.lt_succ_self]
    · simp only [e, decide_false, Bool.false_or]
      by_cases hl : lis L k = true ∧ dstAt ops k = some t
      · rw [if_pos hl, if_pos hl]
        split
        · rename_i hn
          have := looks_apart DF (show i < k by omega) ho hok (fun e => by rw [hcl k i hl.1 e] at hi; cases hi)
          exact absurd hl.2 (this.2.1 t (hdi ▸ hn.2))
        · rfl
      · rw [if_neg hl, if_neg hl]
        have : (i < k ∧ o.dst = some t) ↔ (i < k + 1 ∧ o.dst = some t) := by
          constructor
          · rintro ⟨h1, h2⟩; exact ⟨by omega, h2⟩
          · rintro ⟨h1, h2⟩; exact ⟨by omega, h2⟩
        simp only [this]

theorem seg_len (hS : ∀ (i : Nat) (o : Oper), ops[i]? = some o → StepF P C ops o (S i) (S (i + 1))) : ∀ (d p : Nat), p + d ≤ ops.size → (S p).2.length ≤ (S (p + d)).2.length
  | 0, p, _ => Nat.le_refl _
  | d + 1, p, h => by
    have hok : ops[p + d]? = some ops[p + d] := Array.getElem?_eq_getElem (by omega)
    refine Nat.le_trans (seg_len hS d p (by omega)) ?_
    rw [← Nat.add_assoc]
    rcases hS _ _ hok with ⟨_, fr, av, σ', _, h1, h2, _⟩ | ⟨_, h1⟩
    · rw [h1]; exact h2
    · rw [h1]; exact Nat.le_refl _
theorem seg_app (hS : ∀ (i : Nat) (o : Oper), ops[i]? = some o → StepF P C ops o (S i) (S (i + 1))) : ∀ (d p : Nat), p + d ≤ ops.size → (∀ (j : Nat) (o : Oper), p ≤ j → j < p + d → ops[j]? = some o → opClass P C o ≠ 2) → ∃ τ, (S (p + d)).2 = (S p).2 ++ τ
  | 0, p, _, _ => ⟨[], by simp⟩
  | d + 1, p, h, hc => by
    have hok : ops[p + d]? = some ops[p + d] := Array.getElem?_eq_getElem (by omega)
    obtain ⟨τ, ht⟩ := seg_app hS d p (by omega) (fun j o h1 h2 h3 => hc j o h1 (by omega) h3)
    have hne := hc (p + d) _ (by omega) (by omega) hok
    rw [← Nat.add_assoc]
    rcases hS _ _ hok with ⟨_, fr, av, σ', _, h1, _, h2, _⟩ | ⟨_, h1⟩
    · obtain ⟨τ', ht'⟩ := h2 (by rw [quietB, nbeq_false hne]; rfl)
      rw [h1, ht', ht]
      exact ⟨τ ++ τ', by simp⟩
    · rw [h1, ht]; exact ⟨τ, rfl⟩
end
end Go.Ev
