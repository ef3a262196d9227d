/- Regions in any order: where a run stands, its slots and its store. -/
import Derived.Test.YtokagdgcfmjlnaaEv21
set_option linter.all false
namespace Go.Ev

theorem blt_f {a b : Nat} (h : b ≤ a) : Nat.blt a b = false := by
  cases h' : Nat.blt a b with
  | false => rfl
  | true => simp only [Nat.blt_eq] at h'; omega
theorem blt_t {a b : Nat} (h : a < b) : Nat.blt a b = true := by simpa only [Nat.blt_eq] using h
def lis (L : Array Bool) (i : Nat) : Bool := L.getD i false
def dstAt (ops : Array Oper) (k : Nat) : Option Nat := (ops[k]?).bind (·.dst)

theorem lis_set {L : Array Bool} {i j : Nat} (hi : i < L.size) : lis (L.setIfInBounds i true) j = (decide (i = j) || lis L j) := by
  unfold lis
  by_cases e : i = j
  · subst e; simp [hi]
  · simp [Array.getElem?_setIfInBounds_ne e, e]

/-- The slots when the listed operations have been carried out. -/
def slotW (ops : Array Oper) (S : Nat → FM × Store) (L : Array Bool) : Nat → FM
  | 0 => (S 0).1
  | k + 1 => fun t => if lis L k = true ∧ dstAt ops k = some t then (S (k + 1)).1 t else slotW ops S L k t

section
variable {P : Program} {C : Cfg} {ops : Array Oper} {cl : Nat → Nat → Prop} {S : Nat → FM × Store} {T : Nat → Trace}

theorem step_keep (hS : ∀ (i : Nat) (o : Oper), ops[i]? = some o → StepD P C ops o (T i) (S i) (S (i + 1))) {k t : Nat} (hk : k < ops.size) (h : dstAt ops k ≠ some t) : (S (k + 1)).1 t = (S k).1 t := by
  have hok : ops[k]? = some ops[k] := Array.getElem?_eq_getElem hk
  have hd : ops[k].dst ≠ some t := by simpa [dstAt, hok] using h
  rcases hS k _ hok with ⟨_, fr, av, σ', _, h1, _⟩ | ⟨_, h1, _⟩
  · rw [h1]; simp [updF, hd]
  · rw [h1]; simp [updF, hd]

theorem slotW_none {L : Array Bool} (h : ∀ i, lis L i = false) : ∀ k, slotW ops S L k = (S 0).1
  | 0 => rfl
  | k + 1 => by
    funext t
    simp only [slotW, h k, Bool.false_eq_true, false_and, if_false, slotW_none h k]
theorem slotW_all (hS : ∀ (i : Nat) (o : Oper), ops[i]? = some o → StepD P C ops o (T i) (S i) (S (i + 1))) {L : Array Bool} (h : ∀ i, i < ops.size → lis L i = true) : ∀ k, k ≤ ops.size → slotW ops S L k = (S k).1
  | 0, _ => rfl
  | k + 1, hk => by
    funext t
    simp only [slotW, h k (by omega), true_and, slotW_all hS h k (by omega)]
    split
    · rfl
    · rename_i hd
      exact (step_keep hS (by omega) hd).symm

theorem looks_apart (DF : DrawFacts ops cl) {i j : Nat} {a b : Oper} (hij : i < j) (ha : ops[i]? = some a) (hb : ops[j]? = some b) (h : ¬ cl j i) :
    (∀ d, dstAt ops i = some d → d ∉ looksL ops b) ∧ (∀ d, dstAt ops i = some d → dstAt ops j ≠ some d) ∧ (∀ d, dstAt ops j = some d → d ∉ looksL ops a) := by
  have := apartB_spec ((DF.apart i j a b hij ha hb).resolve_left h)
  simpa [dstAt, ha, hb] using this

/-- What an operation that may come up next looks at is what it would look at in the text's order. -/
theorem slotW_look (DF : DrawFacts ops cl) (hS : ∀ (i : Nat) (o : Oper), ops[i]? = some o → StepD P C ops o (T i) (S i) (S (i + 1))) {L : Array Bool} (hcl : ∀ i j, lis L i = true → cl i j → lis L j = true) {i : Nat} {o : Oper} (ho : ops[i]? = some o)
    (hi : lis L i = false) (hr : ∀ j, cl i j → lis L j = true) {t : Nat} (ht : t ∈ looksL ops o) : ∀ k, k ≤ ops.size → slotW ops S L k t = (S (min k i)).1 t
  | 0, _ => by simp [slotW]
  | k + 1, hk => by
    have ih := slotW_look DF hS hcl ho hi hr ht k (by omega)
    have hok : ops[k]? = some ops[k] := Array.getElem?_eq_getElem (by omega)
    simp only [slotW]
    rcases Nat.lt_or_ge k i with hki | hki
    · rw [Nat.min_eq_left (show k + 1 ≤ i by omega)]
      rw [Nat.min_eq_left (by omega)] at ih
      split
      · rfl
      · rename_i hn
        rw [ih]
        refine (step_keep hS (by omega) fun hd => ?_).symm
        have hl : lis L k = false := by
          cases e : lis L k with
          | false => rfl
          | true => exact absurd ⟨e, hd⟩ hn
        have := looks_apart DF hki hok ho (fun e => by rw [hr k e] at hl; cases hl)
        exact this.1 t hd ht
    · rw [Nat.min_eq_right (show i ≤ k + 1 by omega)]
      rw [Nat.min_eq_right hki] at ih
      split
      · rename_i hn
        obtain ⟨hl, hd⟩ := hn
        have hne : i ≠ k := fun e => by rw [← e, hi] at hl; cases hl
        have := looks_apart DF (show i < k by omega) ho hok (fun e => by rw [hcl k i hl e] at hi; cases hi)
        exact absurd ht (this.2.2 t hd)
      · exact ih

theorem slotW_put (DF : DrawFacts ops cl) {L : Array Bool} (hcl : ∀ i j, lis L i = true → cl i j → lis L j = true) {i : Nat} {o : Oper} (ho : ops[i]? = some o) (hi : lis L i = false) (hsz : L.size = ops.size) :
    ∀ k, k ≤ ops.size → slotW ops S (L.setIfInBounds i true) k = fun t => if i < k ∧ o.dst = some t then (S (i + 1)).1 t else slotW ops S L k t
  | 0, _ => by funext t; simp [slotW]
  | k + 1, hk => by
    have ih := slotW_put DF hcl ho hi hsz k (by omega)
    have hil : i < ops.size := (Array.getElem?_eq_some_iff.1 ho).1
    have hok : ops[k]? = some ops[k] := Array.getElem?_eq_getElem (by omega)
    have hdi : dstAt ops i = o.dst := by simp [dstAt, ho]
    funext t
    simp only [slotW, ih, lis_set (show i < L.size by omega)]
    by_cases e : i = k
    · subst e
      simp only [decide_true, Bool.true_or, true_and, hi, Bool.false_eq_true, false_and, if_false, hdi, Nat.lt_irrefl, Nat.lt_succ_self]
    · simp only [e, decide_false, Bool.false_or]
      by_cases hl : lis L k = true ∧ dstAt ops k = some t
      · rw [if_pos hl, if_pos hl]
        split
        · rename_i hn
          have := looks_apart DF (show i < k by omega) ho hok (fun e => by rw [hcl k i hl.1 e] at hi; cases hi)
          exact absurd hl.2 (this.2.1 t (hdi ▸ hn.2))
        · rfl
      · rw [if_neg hl, if_neg hl]
        have : (i < k ∧ o.dst = some t) ↔ (i < k + 1 ∧ o.dst = some t) := by
          constructor
          · rintro ⟨h1, h2⟩; exact ⟨by omega, h2⟩
          · rintro ⟨h1, h2⟩; exact ⟨by omega, h2⟩
        simp only [this]

theorem seg_len (hS : ∀ (i : Nat) (o : Oper), ops[i]? = some o → StepD P C ops o (T i) (S i) (S (i + 1))) : ∀ (d p : Nat), p + d ≤ ops.size → (S p).2.length ≤ (S (p + d)).2.length
  | 0, p, _ => Nat.le_refl _
  | d + 1, p, h => by
    have hok : ops[p + d]? = some ops[p + d] := Array.getElem?_eq_getElem (by omega)
    refine Nat.le_trans (seg_len hS d p (by omega)) ?_
    rw [← Nat.add_assoc]
    rcases hS _ _ hok with ⟨_, fr, av, σ', _, h1, _, _, h2⟩ | ⟨_, h1, _⟩
    · rw [h1]; exact h2.len
    · rw [h1]; exact Nat.le_refl _
theorem seg_le (hS : ∀ (i : Nat) (o : Oper), ops[i]? = some o → StepD P C ops o (T i) (S i) (S (i + 1))) {p q : Nat} (h1 : p ≤ q) (h2 : q ≤ ops.size) : (S p).2.length ≤ (S q).2.length := by
  have := seg_len hS (q - p) p (by omega)
  rwa [show p + (q - p) = q by omega] at this

/-! ## The store when the listed operations have been carried out -/
def dead : Blk := ⟨0, 0, 0, false, []⟩
/-- Operation k makes or changes block l. -/
def wrote (S : Nat → FM × Store) (T : Nat → Trace) (k l : Nat) : Bool := Nat.blt l (S (k + 1)).2.length && (Nat.ble (S k).2.length l || inP (T k).f.put l)
def blkW (S : Nat → FM × Store) (T : Nat → Trace) (L : Array Bool) : Nat → Nat → Blk
  | 0, l => bif Nat.blt l (S 0).2.length then (S 0).2.getD l dead else dead
  | k + 1, l => bif lis L k && wrote S T k l then (S (k + 1)).2.getD l dead else blkW S T L k l
def stW (S : Nat → FM × Store) (T : Nat → Trace) (L : Array Bool) (n : Nat) : Store := (List.range (S n).2.length).map fun l => blkW S T L n l
theorem stW_len {L : Array Bool} {n : Nat} : (stW S T L n).length = (S n).2.length := by simp [stW]
theorem stW_get {L : Array Bool} {n l : Nat} (h : l < (S n).2.length) : (stW S T L n)[l]? = some (blkW S T L n l) := by
  simp [stW, h]

/-- No two operations without an order meet. -/
def Apart (ops : Array Oper) (cl : Nat → Nat → Prop) (T : Nat → Trace) : Prop := ∀ i j, i < j → j < ops.size → cl j i ∨ NoClash (T i) (T j).f

theorem wrote_iff {k l : Nat} : wrote S T k l = true ↔ l < (S (k + 1)).2.length ∧ ((S k).2.length ≤ l ∨ inP (T k).f.put l = true) := by
  simp [wrote, Nat.blt_eq, Nat.ble_eq]
theorem step_lo (hS : ∀ (i : Nat) (o : Oper), ops[i]? = some o → StepD P C ops o (T i) (S i) (S (i + 1))) {k : Nat} (hk : k < ops.size) :
    ((T k).lo = (S k).2.length ∧ (T k).hi = (S (k + 1)).2.length ∨ (T k).f.nw = false ∧ (S (k + 1)).2.length = (S k).2.length) ∧ ((T k).f.nw = false → (S (k + 1)).2.length = (S k).2.length) := by
  rcases hS k _ (Array.getElem?_eq_getElem hk) with ⟨_, fr, av, σ', _, h1, h2, h3, h4⟩ | ⟨_, h1, h2⟩
  · rw [h1]; exact ⟨.inl ⟨h2, h3⟩, h4.nw⟩
  · rw [h1, h2]; exact ⟨.inr ⟨rfl, rfl⟩, fun _ => rfl⟩
theorem step_keep' (hS : ∀ (i : Nat) (o : Oper), ops[i]? = some o → StepD P C ops o (T i) (S i) (S (i + 1))) {k l : Nat} (hk : k < ops.size) (hl : l < (S k).2.length) (h : inP (T k).f.put l = false) : (S (k + 1)).2.getD l dead = (S k).2.getD l dead := by
  rcases hS k _ (Array.getElem?_eq_getElem hk) with ⟨_, fr, av, σ', _, h1, _, _, h4⟩ | ⟨_, h1, _⟩
  · rw [h1]
    simp only [List.getD_eq_getElem?_getD]
    rw [h4.keep l hl h]
  · rw [h1]

/-- What an operation that may come up next looks at in the store is what it would look at in the text's order. -/
theorem lis_lt {L : Array Bool} {j : Nat} (h : lis L j = true) : j < L.size := by
  unfold lis at h
  rcases Nat.lt_or_ge j L.size with h1 | h1
  · exact h1
  · simp [Array.getElem?_eq_none h1] at h
theorem blkW_look (AP : Apart ops cl T) (hS : ∀ (i : Nat) (o : Oper), ops[i]? = some o → StepD P C ops o (T i) (S i) (S (i + 1))) {L : Array Bool} (hcl : ∀ i j, lis L i = true → cl i j → lis L j = true) (hsz : L.size = ops.size) {i : Nat} (hin : i < ops.size)
    (hi : lis L i = false) (hr : ∀ j, cl i j → lis L j = true) {l : Nat} (hl : inP (T i).f.look l = true) (hmade : l < (S 0).2.length ∨ ∃ j, lis L j = true ∧ (S j).2.length ≤ l ∧ l < (S (j + 1)).2.length) :
    ∀ k, k ≤ ops.size → l < (S (min k i)).2.length → blkW S T L k l = (S (min k i)).2.getD l dead
  | 0, _, h => by
    have : Nat.blt l (S 0).2.length = true := by simpa [Nat.blt_eq] using h
    simp [blkW, this]
  | k + 1, hk, h => by
    simp only [blkW]
    rcases Nat.lt_or_ge k i with hki | hki
    · rw [Nat.min_eq_left (show k + 1 ≤ i by omega)] at h ⊢
      cases hw : (lis L k && wrote S T k l) with
      | true => rfl
      | false =>
        have hlk : l < (S k).2.length := by
          rcases Nat.lt_or_ge l (S k).2.length with h1 | h1
          · exact h1
          · exfalso
            have hwr : wrote S T k l = true := wrote_iff.2 ⟨h, .inl h1⟩
            rw [hwr, Bool.and_true] at hw
            rcases hmade with h2 | ⟨j, h2, h3, h4⟩
            · have := seg_le hS (Nat.zero_le k) (by omega); omega
            · rcases Nat.lt_trichotomy j k with h5 | h5 | h5
              · have := seg_le hS (show j + 1 ≤ k by omega) (by omega); omega
              · subst h5; rw [h2] at hw; cases hw
              · have hj := lis_lt h2
                have := seg_le hS (show k + 1 ≤ j by omega) (by omega)
                omega
        have ih := blkW_look AP hS hcl hsz hin hi hr hl hmade k (by omega) (by rw [Nat.min_eq_left (by omega)]; exact hlk)
        rw [Nat.min_eq_left (show k ≤ i by omega)] at ih
        rw [cond_false, ih]
        refine (step_keep' hS (by omega) hlk ?_).symm
        cases hp : inP (T k).f.put l with
        | false => rfl
        | true =>
          have hwr : wrote S T k l = true := wrote_iff.2 ⟨h, .inr hp⟩
          rw [hwr, Bool.and_true] at hw
          rcases AP k i hki hin with h1 | h1
          · rw [hr k h1] at hw; cases hw
          · exact (h1.pl l hp hl).elim
    · rw [Nat.min_eq_right (show i ≤ k + 1 by omega)] at h ⊢
      have ih := blkW_look AP hS hcl hsz hin hi hr hl hmade k (by omega) (by rw [Nat.min_eq_right hki]; exact h)
      rw [Nat.min_eq_right hki] at ih
      cases hw : (lis L k && wrote S T k l) with
      | false => rw [cond_false]; exact ih
      | true =>
        exfalso
        simp only [Bool.and_eq_true] at hw
        obtain ⟨h1, h2⟩ := hw
        have hne : i ≠ k := fun e => by rw [e, h1] at hi; cases hi
        have hik : i < k := by omega
        have hle := seg_le hS hki (by omega)
        rcases (wrote_iff.1 h2).2 with h3 | h3
        · omega
        · rcases AP i k hik (by omega) with h4 | h4
          · rw [hcl k i h1 h4] at hi; cases hi
          · exact h4.lp l hl h3

theorem blkW_put (AP : Apart ops cl T) (hS : ∀ (i : Nat) (o : Oper), ops[i]? = some o → StepD P C ops o (T i) (S i) (S (i + 1))) {L : Array Bool} (hcl : ∀ i j, lis L i = true → cl i j → lis L j = true) {i : Nat} (hin : i < ops.size) (hi : lis L i = false) (hsz : L.size = ops.size) (l : Nat) :
    ∀ k, k ≤ ops.size → blkW S T (L.setIfInBounds i true) k l = bif Nat.blt i k && wrote S T i l then (S (i + 1)).2.getD l dead else blkW S T L k l
  | 0, _ => by simp only [blkW, blt_f (Nat.zero_le i), Bool.false_and, cond_false]
  | k + 1, hk => by
    have ih := blkW_put AP hS hcl hin hi hsz l k (by omega)
    simp only [blkW, ih, lis_set (show i < L.size by omega)]
    by_cases e : i = k
    · subst e
      rw [blt_f (Nat.le_refl i), blt_t (Nat.lt_succ_self i), hi]
      simp
    · have h1 : Nat.blt i (k + 1) = Nat.blt i k := by
        rcases Nat.lt_or_ge i k with h | h
        · rw [blt_t h, blt_t (by omega)]
        · rw [blt_f h, blt_f (by omega)]
      rw [h1]
      simp only [e, decide_false, Bool.false_or]
      cases hw : (lis L k && wrote S T k l) with
      | false => rfl
      | true =>
        simp only [cond_true]
        cases hv : (Nat.blt i k && wrote S T i l) with
        | false => rfl
        | true =>
          exfalso
          simp only [Bool.and_eq_true, Nat.blt_eq] at hw hv
          obtain ⟨hk1, hk2⟩ := hw
          obtain ⟨hik, hv2⟩ := hv
          obtain ⟨a1, a2⟩ := wrote_iff.1 hk2
          obtain ⟨b1, b2⟩ := wrote_iff.1 hv2
          have hle := seg_le hS (show i + 1 ≤ k by omega) (by omega)
          have hp : inP (T k).f.put l = true := a2.resolve_left (by omega)
          rcases AP i k hik (by omega) with h4 | h4
          · rw [hcl k i hk1 h4] at hi; cases hi
          · rcases b2 with b2 | b2
            · rcases (step_lo hS hin).1 with ⟨c1, c2⟩ | ⟨c1, c2⟩
              · exact h4.mks l (by omega) (by omega) hp
              · omega
            · exact h4.pp l b2 hp
theorem blkW_none {L : Array Bool} (h : ∀ i, lis L i = false) (l : Nat) : ∀ k, blkW S T L k l = bif Nat.blt l (S 0).2.length then (S 0).2.getD l dead else dead
  | 0 => rfl
  | k + 1 => by simp only [blkW, h k, Bool.false_and, cond_false, blkW_none h l k]
theorem blkW_all (hS : ∀ (i : Nat) (o : Oper), ops[i]? = some o → StepD P C ops o (T i) (S i) (S (i + 1))) {L : Array Bool} (h : ∀ i, i < ops.size → lis L i = true) (l : Nat) : ∀ k, k ≤ ops.size → l < (S k).2.length → blkW S T L k l = (S k).2.getD l dead
  | 0, _, hl => by
    have : Nat.blt l (S 0).2.length = true := by simpa [Nat.blt_eq] using hl
    simp [blkW, this]
  | k + 1, hk, hl => by
    simp only [blkW, h k (by omega), Bool.true_and]
    cases hw : wrote S T k l with
    | true => rfl
    | false =>
      have hlk : l < (S k).2.length := by
        rcases Nat.lt_or_ge l (S k).2.length with h1 | h1
        · exact h1
        · rw [wrote_iff.2 ⟨hl, .inl h1⟩] at hw; cases hw
      rw [cond_false, blkW_all hS h l k (by omega) hlk]
      refine (step_keep' hS (by omega) hlk ?_).symm
      cases hp : inP (T k).f.put l with
      | false => rfl
      | true => rw [wrote_iff.2 ⟨hl, .inr hp⟩] at hw; cases hw
end

/-! ## An operation that works on a part of the store -/
section
variable {E : Env} {μ μ' : Mu} {ρ ρ' : Rho} {σ σ' V V' : Store} {w w' : World}

def envOf (μ : Mu) (ρ : Rho) (σ : Store) (w : World) : Env := ⟨w, fun b => ∃ l rb k, ρ l = some rb ∧ σ[l]? = some k ∧ k.mode = 1 ∧ rb.ph = false ∧ rb.b = b, μ⟩
theorem SR.cut (hs : SR E μ ρ V w) (h : ∀ l rb, l < σ.length → ρ l = some rb → σ[l]? = V[l]?) : SR (envOf μ ρ σ w) μ ρ σ w := by
  have hv : ∀ l rb k, ρ l = some rb → σ[l]? = some k → V[l]? = some k := fun l rb k hl hk => by
    rw [← h l rb (List.getElem?_eq_some_iff.1 hk).1 hl]; exact hk
  exact ⟨fun l rb k hl hk hm => hs.blk l rb k hl (hv l rb k hl hk) hm, fun l l' rb rb' k k' hl hl' hk hk' => hs.inj l l' rb rb' k k' hl hl' (hv _ _ _ hl hk) (hv _ _ _ hl' hk'),
    fun l rb k hl hk hm hp => .inl ⟨l, rb, k, hl, hk, hm, hp, rfl⟩, hs.imm, ⟨rfl, rfl, rfl, Nat.le_refl _, fun _ _ _ => rfl, MuLe.refl _, fun _ _ h => .inl h⟩⟩
theorem SR.lay (hs : SR E μ ρ V w) (h : ∀ l rb, l < σ.length → ρ l = some rb → σ[l]? = V[l]?) {q : Bool} (hs' : SR (envOf μ ρ σ w) μ' ρ' σ' w') (g : Grow q μ ρ σ.length w μ' ρ' σ'.length w')
    (h1 : ∀ l rb, l < σ'.length → ρ' l = some rb → V'[l]? = σ'[l]?) (h2 : ∀ l, σ'.length ≤ l → V'[l]? = V[l]?) : SR E μ' ρ' V' w' := by
  have hD : ∀ b, (envOf μ ρ σ w).D b → ∃ l rb k, l < σ.length ∧ ρ l = some rb ∧ V[l]? = some k ∧ k.mode = 1 ∧ rb.ph = false ∧ rb.b = b := fun b ⟨l, rb, k, e1, e2, e3, e4, e5⟩ => by
    have hl := (List.getElem?_eq_some_iff.1 e2).1
    exact ⟨l, rb, k, hl, e1, by rw [← h l rb hl e1]; exact e2, e3, e4, e5⟩
  have hDE : ∀ b, (envOf μ ρ σ w).D b → E.D b ∨ E.w0.heap.size ≤ b := fun b hb => by
    obtain ⟨l, rb, k, _, e1, e2, e3, e4, e5⟩ := hD b hb
    exact e5 ▸ hs.ownD l rb k e1 e2 e3 e4
  have old : ∀ l rb, σ'.length ≤ l → ρ' l = some rb → ρ l = some rb := fun l rb hl hr => by
    rcases g.dom l rb hr with h3 | ⟨_, h3, _⟩
    · exact h3
    · omega
  have split : ∀ l rb k, ρ' l = some rb → V'[l]? = some k → (l < σ'.length ∧ σ'[l]? = some k) ∨ (σ'.length ≤ l ∧ ρ l = some rb ∧ V[l]? = some k) := fun l rb k hr hk => by
    rcases Nat.lt_or_ge l σ'.length with h3 | h3
    · exact .inl ⟨h3, by rw [← h1 l rb h3 hr]; exact hk⟩
    · exact .inr ⟨h3, old l rb h3 hr, by rw [← h2 l h3]; exact hk⟩
  -- the memory of a block behind is not touched
  have notD : ∀ l rb k, σ'.length ≤ l → ρ l = some rb → V[l]? = some k → k.mode = 1 → rb.ph = false → ¬ (envOf μ ρ σ w).D rb.b := fun l rb k hl hr hk hm hp hd => by
    obtain ⟨l2, rb2, k2, e0, e1, e2, e3, e4, e5⟩ := hD _ hd
    have := hs.inj l2 l rb2 rb k2 k e1 hr e2 hk e3 hm e4 hp e5
    have := g.len
    omega
  have hcross : ∀ l rb k l' rb' k', l < σ'.length → ρ' l = some rb → σ'[l]? = some k → k.mode = 1 → rb.ph = false → σ'.length ≤ l' → ρ l' = some rb' → V[l']? = some k' → k'.mode = 1 → rb'.ph = false → rb.b ≠ rb'.b := fun l rb k l' rb' k' _ e1 e2 e3 e4 e5 e6 e7 e8 e9 he => by
    rcases hs'.ownD l rb k e1 e2 e3 e4 with h3 | h3
    · exact notD l' rb' k' e5 e6 e7 e8 e9 (he ▸ h3)
    · have := hs.own_lt e6 e7 e8 e9
      change w.heap.size ≤ rb.b at h3
      omega
  refine ⟨fun l rb k hl hk hm => ?_, fun l l' rb rb' k k' hl hl' hk hk' hm1 hm2 hp hp' he => ?_, fun l rb k hl hk hm hp => ?_, hs'.imm, ⟨hs'.base.os.trans hs.base.os, hs'.base.tape.trans hs.base.tape, hs'.base.output.trans hs.base.output, Nat.le_trans hs.base.size hs'.base.size, fun b hb hd => ?_, hs.base.mu.trans g.mu, fun b o hb => ?_⟩⟩
  · rcases split l rb k hl hk with ⟨_, h3⟩ | ⟨h3, h4, h5⟩
    · exact hs'.blk l rb k hl h3 hm
    · have hb := hs.blk l rb k h4 h5 hm
      refine ⟨hb.sz, hb.n, hb.fit, hb.ph, hb.one, fun hp => ?_⟩
      obtain ⟨cur, hc⟩ := hb.live hp
      refine ⟨cur, hc.size, fun e => (hc.rowD e).mono g.mu, fun e => (hc.rowO e).mono g.mu g.rho, ?_⟩
      rcases hc.at_ with ⟨a1, a2, a3⟩ | ⟨a1, ty, fz, a2⟩
      · have hlt := hs.own_lt h4 h5 a1 hp
        have hnd := notD l rb k h3 h4 h5 a1 hp
        refine .inl ⟨a1, a2.imp fun fz a2 => ⟨by rw [hs'.base.keep rb.b hlt hnd]; exact a2.1, a2.2⟩, ?_⟩
        cases e : μ' rb.b with
        | none => rfl
        | some o =>
          rcases hs'.base.muNew _ _ e with e1 | e1 | e1
          · change μ rb.b = some o at e1
            rw [a3] at e1; cases e1
          · exact absurd e1 hnd
          · change w.heap.size ≤ rb.b at e1
            omega
      · exact .inr ⟨a1, ty, fz, g.mu _ _ a2⟩
  · rcases split l rb k hl hk with ⟨h3, h4⟩ | ⟨h3, h4, h5⟩ <;> rcases split l' rb' k' hl' hk' with ⟨h3', h4'⟩ | ⟨h3', h4', h5'⟩
    · exact hs'.inj l l' rb rb' k k' hl hl' h4 h4' hm1 hm2 hp hp' he
    · exact absurd he (hcross l rb k l' rb' k' h3 hl h4 hm1 hp h3' h4' h5' hm2 hp')
    · exact absurd he.symm (hcross l' rb' k' l rb k h3' hl' h4' hm2 hp' h3 h4 h5 hm1 hp)
    · exact hs.inj l l' rb rb' k k' h4 h4' h5 h5' hm1 hm2 hp hp' he
  · rcases split l rb k hl hk with ⟨_, h3⟩ | ⟨_, h4, h5⟩
    · rcases hs'.ownD l rb k hl h3 hm hp with h6 | h6
      · exact hDE _ h6
      · exact .inr (Nat.le_trans hs.base.size h6)
    · exact hs.ownD l rb k h4 h5 hm hp
  · rw [hs'.base.keep b (Nat.lt_of_lt_of_le hb hs.base.size) fun h3 => by
      rcases hDE b h3 with h4 | h4
      · exact hd h4
      · omega]
    exact hs.base.keep b hb hd
  · rcases hs'.base.muNew b o hb with h3 | h3 | h3
    · exact hs.base.muNew b o h3
    · exact .inr (hDE b h3)
    · exact .inr (.inr (Nat.le_trans hs.base.size h3))
end
end Go.Ev
