/- Regions in any order: each step. -/
import Derived.Test.YtokagdgcfmjlnaaEv22
set_option linter.all false
namespace Go.Ev

section
variable {P : Program} {C : Cfg} {ops : Array Oper} {cl : Nat → Nat → Prop} {S : Nat → FM × Store} {T : Nat → Trace} {E : Env} {B : Base} {G : Nat → Value} {n : Nat} {Q : Exit → Act → World → Prop}

/-- Where a run in any order stands. -/
structure Inv (ops : Array Oper) (cl : Nat → Nat → Prop) (S : Nat → FM × Store) (T : Nat → Trace) (E : Env) (B : Base) (G : Nat → Value) (n : Nat) (L : Array Bool) (a : Act) (w : World) : Prop where
  lsize : L.size = ops.size
  closed : ∀ i j, lis L i = true → cl i j → lis L j = true
  st : ∃ μ ρ, FR μ ρ G (slotW ops S L ops.size) a ∧ SR E μ ρ (stW S T L ops.size) w ∧ (∀ l rb, ρ l = some rb → l < (S 0).2.length ∨ ∃ j, lis L j = true ∧ (S j).2.length ≤ l ∧ l < (S (j + 1)).2.length) ∧ Since B μ ρ w
  base : B.n ≤ (S 0).2.length
  size : a.tmps.size = n
  defers : a.defers = []

theorem lis_ready {L : Array Bool} {i : Nat} (hL : L.size = ops.size) (h : i ∈ Region.ready .any ops L) : ∃ o, ops[i]? = some o ∧ lis L i = false ∧ ∀ e ∈ o.after, Region.binds .any e = true → lis L e.on = true := by
  obtain ⟨h0, o, ho, hall⟩ := mem_ready.1 h
  refine ⟨o, ho, ?_, fun e he hb => hall e he hb⟩
  have hlt : i < L.size := by rw [hL]; exact (Array.getElem?_eq_some_iff.1 ho).1
  simpa [lis, hlt] using h0

theorem ready_none {L : Array Bool} (DF : DrawFacts ops cl) (hL : L.size = ops.size) (h : Region.ready .any ops L = []) : ∀ i, i < ops.size → lis L i = true := by
  intro i
  induction i using Nat.strongRecOn with
  | _ i ih =>
    intro hi
    cases e : lis L i with
    | true => rfl
    | false =>
      have hok : ops[i]? = some ops[i] := Array.getElem?_eq_getElem hi
      have : i ∈ Region.ready .any ops L := mem_ready.2 ⟨by simpa [lis, show i < L.size by omega] using e, _, hok, fun ed he hb => ih ed.on (DF.lt i _ hok ed he hb) (by have := DF.lt i _ hok ed he hb; omega)⟩
      rw [h] at this; cases this

theorem inv_step (DF : DrawFacts ops cl) (AP : Apart ops cl T) (hS : ∀ (i : Nat) (o : Oper), ops[i]? = some o → StepD P C ops o (T i) (S i) (S (i + 1))) (hd : DstOk ops n) {L : Array Bool} {a : Act} {w : World} (inv : Inv ops cl S T E B G n L a w) {i : Nat}
    (hi : i ∈ Region.ready .any ops L) {K : Act → World → Prop} (hK : ∀ a' w', Inv ops cl S T E B G n (L.setIfInBounds i true) a' w' → K a' w') : wpOp P ops Q i K a w := by
  obtain ⟨o, ho, hil, hedge⟩ := lis_ready inv.lsize hi
  have hin : i < ops.size := (Array.getElem?_eq_some_iff.1 ho).1
  have hiL : i < L.size := by rw [inv.lsize]; exact hin
  have hcl' : ∀ j, cl i j → lis L j = true := fun j hj => by
    obtain ⟨e, h1, h2, h3⟩ := DF.mem i o j ho hj
    rcases h3 with h3 | h3
    · rw [h3]; exact hedge e h1 h2
    · exact inv.closed _ _ (hedge e h1 h2) h3
  have hclosed : ∀ i' j, lis (L.setIfInBounds i true) i' = true → cl i' j → lis (L.setIfInBounds i true) j = true := fun i' j h1 h2 => by
    rw [lis_set hiL] at h1 ⊢
    simp only [Bool.or_eq_true, decide_eq_true_eq] at h1 ⊢
    rcases h1 with h1 | h1
    · subst h1; exact .inr (hcl' j h2)
    · exact .inr (inv.closed i' j h1 h2)
  obtain ⟨μ, ρ, hfr, hsr, hdom, hsin⟩ := inv.st
  have hlook : ∀ t, t ∈ looksL ops o → slotW ops S L ops.size t = (S i).1 t := fun t ht => by
    have := slotW_look DF hS inv.closed ho hil hcl' ht ops.size (Nat.le_refl _)
    rwa [Nat.min_eq_right (by omega)] at this
  have hdd : ∀ (j : Nat) (oj : Oper) (d : Nat), ops[j]? = some oj → oj.dst = some d → d < a.tmps.size ∧ d < 1000000 := fun j oj d h1 h2 => by rw [inv.size]; exact hd j oj d h1 h2
  have hdst : ∀ d, o.dst = some d → d < a.tmps.size ∧ d < 1000000 := fun d e => hdd i o d ho e
  have hguard : ∀ (j : Nat) (want : Bool) (oj : Oper) (d : Nat), o.guard = some (j, want) → ops[j]? = some oj → oj.dst = some d → VR μ ρ ((S i).1 d) (slotV G a d) := fun j want oj d h1 h2 h3 => by
    rw [← hlook d (by simp [looksL, h1, h2, h3])]
    exact hfr d
  have hops : ∀ fr, lookF fr = (S i).1 → OpsR μ ρ fr a o := fun fr hF x hx => getO_FR fun t ht => by
    rw [hF, ← hlook t (by
      simp only [looksL, List.mem_append, List.mem_filterMap]
      exact .inl ⟨x, Array.mem_toList_iff.2 hx, by rw [ht]⟩)]
    exact hfr t
  have hmono : ∀ p q, p ≤ q → q ≤ ops.size → (S p).2.length ≤ (S q).2.length := fun p q h1 h2 => seg_le hS h1 h2
  have hjn : ∀ j, lis L j = true → j < ops.size := fun j h => by have := lis_lt h; rw [inv.lsize] at this; exact this
  have hmono0 : (S 0).2.length ≤ (S i).2.length := hmono 0 i (Nat.zero_le _) (by omega)
  -- what is left to show behind the step
  have fin : ∀ (av : AV) (v : Value) (w' : World) (μ' : Mu) (ρ' : Rho), (∀ t, o.dst = some t → (S (i + 1)).1 t = av) → MuLe μ μ' → RhoLe ρ ρ' → VR μ' ρ' av v → SR E μ' ρ' (stW S T (L.setIfInBounds i true) ops.size) w' →
      (∀ l rb, ρ' l = some rb → ρ l = some rb ∨ ((S i).2.length ≤ l ∧ l < (S (i + 1)).2.length)) → w.heap.size ≤ w'.heap.size → K (a.put o.dst v) w' := fun av v w' μ' ρ' hav hm hr hv hs hdm hz => by
    refine hK _ _ ⟨by simp [inv.lsize], hclosed, ⟨μ', ρ', ?_, hs, fun l rb hl => ?_, hsin.on hm hr (Nat.le_trans inv.base hmono0) hdm hz⟩, inv.base, put_size.trans inv.size, put_defers.trans inv.defers⟩
    · have hW : slotW ops S (L.setIfInBounds i true) ops.size = updF (slotW ops S L ops.size) o.dst av := by
        rw [slotW_put DF inv.closed ho hil inv.lsize ops.size (Nat.le_refl _)]
        funext t
        simp only [hin, true_and, updF]
        split
        · rename_i e; exact hav t e
        · rfl
      rw [hW]
      exact (hfr.mono hm hr).put hdst hv
    · rcases hdm l rb hl with h | ⟨h3, h4⟩
      · rcases hdom l rb h with h | ⟨j, h3, h4, h5⟩
        · exact .inl h
        · exact .inr ⟨j, by rw [lis_set hiL, h3, Bool.or_true], h4, h5⟩
      · exact .inr ⟨i, by rw [lis_set hiL]; simp, h3, h4⟩
  have hput : ∀ l, blkW S T (L.setIfInBounds i true) ops.size l = bif wrote S T i l then (S (i + 1)).2.getD l dead else blkW S T L ops.size l := fun l => by
    rw [blkW_put AP hS inv.closed hin hil inv.lsize l ops.size (Nat.le_refl _), blt_t hin, Bool.true_and]
  unfold wpOp
  simp only [ho]
  rcases hS i o ho with ⟨hg, fr, av, σ', hF, hs1, hlo, hhi, hY⟩ | ⟨hg, hs1, hT⟩
  · rw [if_pos (wanted_yes hg hdd hguard)]
    left
    have hav : ∀ t, o.dst = some t → (S (i + 1)).1 t = av := fun t e => by rw [hs1]; simp [updF, e]
    have hσ : (S (i + 1)).2 = σ' := by rw [hs1]
    -- the part of the store that the operation sees
    let τ : Store := (List.range (S i).2.length).map fun l => match ρ l with | some _ => blkW S T L ops.size l | none => (S i).2.getD l dead
    have hτl : τ.length = (S i).2.length := by simp [τ]
    have hiN : (S i).2.length ≤ (S ops.size).2.length := hmono i ops.size (by omega) (Nat.le_refl _)
    have hi1N : (S (i + 1)).2.length ≤ (S ops.size).2.length := hmono (i + 1) ops.size (by omega) (Nat.le_refl _)
    have hτg : ∀ l, l < (S i).2.length → τ[l]? = some (match ρ l with | some _ => blkW S T L ops.size l | none => (S i).2.getD l dead) := fun l hl => by simp [τ, hl]
    have hmadeOf : ∀ l rb, ρ l = some rb → l < (S 0).2.length ∨ ∃ j, lis L j = true ∧ (S j).2.length ≤ l ∧ l < (S (j + 1)).2.length := hdom
    have hag : ∀ l, inP (T i).f.look l = true → τ[l]? = (S i).2[l]? := fun l hl => by
      rcases Nat.lt_or_ge l (S i).2.length with h1 | h1
      · have hgd : (S i).2[l]? = some ((S i).2.getD l dead) := by simp [h1]
        rw [hτg l h1, hgd]
        congr 1
        cases hr : ρ l with
        | none => rfl
        | some rb =>
          have := blkW_look AP hS inv.closed inv.lsize hin hil hcl' hl (hmadeOf l rb hr) ops.size (Nat.le_refl _) (by rw [Nat.min_eq_right (by omega)]; exact h1)
          rw [Nat.min_eq_right (by omega)] at this
          exact this
      · rw [List.getElem?_eq_none (by omega), List.getElem?_eq_none h1]
    obtain ⟨τ', hτ'l, hkeep, hnew, hsnd⟩ := hY.snd τ hτl hag
    have hcut : ∀ l rb, l < τ.length → ρ l = some rb → τ[l]? = (stW S T L ops.size)[l]? := fun l rb hl hr => by
      rw [hτl] at hl
      rw [hτg l hl, stW_get (by omega), hr]
    have hsrτ : SR (envOf μ ρ τ w) μ ρ τ w := hsr.cut hcut
    have hfresh : FreshTo ρ τ.length τ'.length := fun l h1 h2 => by
      rw [hτl] at h1
      rw [hτ'l, ← hσ] at h2
      cases e : ρ l with
      | none => rfl
      | some rb =>
        rcases hdom l rb e with h | ⟨j, h3, h4, h5⟩
        · omega
        · have hne : j ≠ i := fun e => by rw [e, hil] at h3; cases h3
          have := hjn j h3
          rcases Nat.lt_or_ge j i with h | h
          · have := hmono (j + 1) i (by omega) (by omega); omega
          · have := hmono (i + 1) j (by omega) (by omega); omega
    have hdm : quietB P C o = false → isFn o = true → DomR ρ τ.length := fun hq hfn l rb hl => by
      rw [hτl]
      have hpn := hY.loud hfn hq
      rcases hdom l rb hl with h | ⟨j, h3, h4, h5⟩
      · omega
      · have hj := hjn j h3
        have hne : j ≠ i := fun e => by rw [e, hil] at h3; cases h3
        rcases Nat.lt_or_ge j i with h | h
        · have := hmono (j + 1) i (by omega) (by omega); omega
        · rcases AP i j (by omega) hj with h6 | h6
          · rw [inv.closed j i h3 h6] at hil; cases hil
          · have := (step_lo hS hj).2 (h6.top hpn)
            omega
    refine hsnd (envOf μ ρ τ w) μ ρ a w K Q (hops fr hF) hsrτ hfresh hdm fun v w' μ' ρ' g hv hsr' => ?_
    refine fin av v w' μ' ρ' hav g.mu g.rho hv (hsr.lay hcut hsr' g (fun l rb hl hr => ?_) fun l hl => ?_) (fun l rb hl => (g.dom l rb hl).imp id fun ⟨x, y, _⟩ => ⟨by omega, by rw [hσ]; omega⟩) g.size
    · rw [hτ'l, ← hσ] at hl
      rw [stW_get (by omega), hput]
      cases hw : wrote S T i l with
      | true =>
        obtain ⟨h1, h2⟩ := wrote_iff.1 hw
        rw [hnew l h2, cond_true, ← hσ]
        simp [hl]
      | false =>
        have hli : l < (S i).2.length := by
          rcases Nat.lt_or_ge l (S i).2.length with h1 | h1
          · exact h1
          · rw [wrote_iff.2 ⟨hl, .inl h1⟩] at hw; cases hw
        have hp : inP (T i).f.put l = false := by
          cases hp : inP (T i).f.put l with
          | false => rfl
          | true => rw [wrote_iff.2 ⟨hl, .inr hp⟩] at hw; cases hw
        have hρ : ρ l = some rb := by
          rcases g.dom l rb hr with h1 | ⟨h1, _, _⟩
          · exact h1
          · omega
        rw [hkeep l hli hp, hτg l hli, hρ, cond_false]
    · rw [hτ'l, ← hσ] at hl
      rcases Nat.lt_or_ge l (S ops.size).2.length with h1 | h1
      · rw [stW_get h1, stW_get h1, hput]
        have : wrote S T i l = false := by
          cases hw : wrote S T i l with
          | false => rfl
          | true => have := (wrote_iff.1 hw).1; omega
        rw [this, cond_false]
      · rw [List.getElem?_eq_none (by rw [stW_len]; exact h1), List.getElem?_eq_none (by rw [stW_len]; exact h1)]
  · rw [if_neg (by rw [wanted_no hg hdd hguard]; decide)]
    have hav : ∀ t, o.dst = some t → (S (i + 1)).1 t = .v (.tuple #[]) := fun t e => by rw [hs1]; simp [updF, e]
    have hσ : (S (i + 1)).2 = (S i).2 := by rw [hs1]
    refine fin _ undef w μ ρ hav (MuLe.refl μ) (RhoLe.refl ρ) .sk ?_ (fun _ _ h => .inl h) (Nat.le_refl _)
    have : stW S T (L.setIfInBounds i true) ops.size = stW S T L ops.size := by
      unfold stW
      congr 1
      funext l
      rw [hput]
      have : wrote S T i l = false := by
        cases hw : wrote S T i l with
        | false => rfl
        | true =>
          obtain ⟨h1, h2⟩ := wrote_iff.1 hw
          rw [hσ] at h1
          rw [hT] at h2
          rcases h2 with h2 | h2
          · omega
          · cases h2
      rw [this, cond_false]
    rw [this]; exact hsr
end
end Go.Ev
