/- Regions in any order: each step, and the whole. -/
import Derived.Test.YtokagdgcfmjlnaaEv21
set_option linter.all false
namespace Go.Ev

section
variable {P : Program} {C : Cfg} {ops : Array Oper} {cl : Nat → Nat → Prop} {S : Nat → FM × Store} {E : Env} {B : Base} {G : Nat → Value} {n : Nat} {Q : Exit → Act → World → Prop}

theorem inv_step (DF : DrawFacts P C ops cl) (hS : ∀ (i : Nat) (o : Oper), ops[i]? = some o → StepF P C ops o (S i) (S (i + 1))) (hd : DstOk ops n) {L : Array Bool} {a : Act} {w : World} (inv : Inv P C ops cl S E B G n L a w) {i : Nat}
    (hi : i ∈ Region.ready .any ops L) {K : Act → World → Prop} (hK : ∀ a' w', Inv P C ops cl S E B G n (L.setIfInBounds i true) a' w' → K a' w') : wpOp P ops Q i K a w := by
  obtain ⟨o, ho, hil, hedge⟩ := lis_ready inv.lsize hi
  have hin : i < ops.size := (Array.getElem?_eq_some_iff.1 ho).1
  have hiL : i < L.size := by rw [inv.lsize]; exact hin
  have hcl' : ∀ j, cl i j → lis L j = true := fun j hj => by
    obtain ⟨e, h1, h2, h3⟩ := DF.mem i o j ho hj
    rcases h3 with h3 | h3
    · rw [h3]; exact hedge e h1 h2
    · exact inv.closed _ _ (hedge e h1 h2) h3
  have hclosed : ∀ i' j, lis (L.setIfInBounds i true) i' = true → cl i' j → lis (L.setIfInBounds i true) j = true := fun i' j h1 h2 => by
    rw [lis_set hiL] at h1 ⊢
    simp only [Bool.or_eq_true, decide_eq_true_eq] at h1 ⊢
    rcases h1 with h1 | h1
    · subst h1; exact .inr (hcl' j h2)
    · exact .inr (inv.closed i' j h1 h2)
  obtain ⟨k, hk, hk1, hk2, μ, ρ, hfr, hsr, hdom, hsin⟩ := inv.st
  have hlook : ∀ t, t ∈ looksL ops o → slotW ops S L ops.size t = (S i).1 t := fun t ht => by
    have := slotW_look DF hS inv.closed ho hil hcl' ht ops.size (Nat.le_refl _)
    rwa [Nat.min_eq_right (by omega)] at this
  have hdd : ∀ (j : Nat) (oj : Oper) (d : Nat), ops[j]? = some oj → oj.dst = some d → d < a.tmps.size ∧ d < 1000000 := fun j oj d h1 h2 => by rw [inv.size]; exact hd j oj d h1 h2
  have hdst : ∀ d, o.dst = some d → d < a.tmps.size ∧ d < 1000000 := fun d e => hdd i o d ho e
  have hguard : ∀ (j : Nat) (want : Bool) (oj : Oper) (d : Nat), o.guard = some (j, want) → ops[j]? = some oj → oj.dst = some d → VR μ ρ ((S i).1 d) (slotV G a d) := fun j want oj d h1 h2 h3 => by
    rw [← hlook d (by simp [looksL, h1, h2, h3])]
    exact hfr d
  have hops : ∀ fr, lookF fr = (S i).1 → OpsR μ ρ fr a o := fun fr hF x hx => getO_FR fun t ht => by
    rw [hF, ← hlook t (by
      simp only [looksL, List.mem_append, List.mem_filterMap]
      exact .inl ⟨x, Array.mem_toList_iff.2 hx, by rw [ht]⟩)]
    exact hfr t
  have hmono : ∀ p q, p ≤ q → q ≤ ops.size → (S p).2.length ≤ (S q).2.length := fun p q h1 h2 => by
    have := seg_len hS (q - p) p (by omega)
    rwa [show p + (q - p) = q by omega] at this
  have hmono0 : (S 0).2.length ≤ (S i).2.length := hmono 0 i (Nat.zero_le _) (by omega)
  -- what is left to show behind the step
  have fin : ∀ (av : AV) (v : Value) (w' : World) (μ' : Mu) (ρ' : Rho) (k' : Nat), (∀ t, o.dst = some t → (S (i + 1)).1 t = av) → MuLe μ μ' → RhoLe ρ ρ' → VR μ' ρ' av v → k' ≤ ops.size →
      (∀ (j : Nat) (o : Oper), j < k' → ops[j]? = some o → opClass P C o = 2 → lis L j = true ∨ j = i) → (∀ o, ops[k']? = some o → (lis L k' = false ∧ k' ≠ i) ∧ opClass P C o = 2) → SR E μ' ρ' (S k').2 w' →
      (∀ l rb, ρ' l = some rb → ρ l = some rb ∨ ((S i).2.length ≤ l ∧ l < (S (i + 1)).2.length)) → w.heap.size ≤ w'.heap.size → K (a.put o.dst v) w' := fun av v w' μ' ρ' k' hav hm hr hv hk' h1 h2 hs hdm hz => by
    refine hK _ _ ⟨by simp [inv.lsize], hclosed, ⟨k', hk', fun j oj hj hoj hc => ?_, fun oj hoj => ?_, μ', ρ', ?_, hs, fun l rb hl => ?_, hsin.on hm hr (Nat.le_trans inv.base hmono0) hdm hz⟩, inv.base, put_size.trans inv.size, put_defers.trans inv.defers⟩
    · rw [lis_set hiL]
      rcases h1 j oj hj hoj hc with h | h
      · rw [h, Bool.or_true]
      · simp [h]
    · obtain ⟨⟨h3, h4⟩, h5⟩ := h2 oj hoj
      rw [lis_set hiL, h3]
      exact ⟨by simp [Ne.symm h4], h5⟩
    · have hW : slotW ops S (L.setIfInBounds i true) ops.size = updF (slotW ops S L ops.size) o.dst av := by
        rw [slotW_put DF inv.closed ho hil inv.lsize ops.size (Nat.le_refl _)]
        funext t
        simp only [hin, true_and, updF]
        split
        · rename_i e; exact hav t e
        · rfl
      rw [hW]
      exact (hfr.mono hm hr).put hdst hv
    · rcases hdm l rb hl with h | ⟨h3, h4⟩
      · rcases hdom l rb h with h | ⟨j, h3, h4, h5⟩
        · exact .inl h
        · exact .inr ⟨j, by rw [lis_set hiL, h3, Bool.or_true], h4, h5⟩
      · exact .inr ⟨i, by rw [lis_set hiL]; simp, h3, h4⟩
  have hfresh : FreshTo ρ (S i).2.length (S (i + 1)).2.length := fun l h1 h2 => by
    cases e : ρ l with
    | none => rfl
    | some rb =>
      rcases hdom l rb e with h | ⟨j, h3, h4, h5⟩
      · have := hmono 0 i (Nat.zero_le _) (by omega); omega
      · have hne : j ≠ i := fun e => by rw [e, hil] at h3; cases h3
        have hjn : j < ops.size := by
          rw [← inv.lsize]
          unfold lis at h3
          rcases Nat.lt_or_ge j L.size with h | h
          · exact h
          · simp [Array.getElem?_eq_none h] at h3
        rcases Nat.lt_or_ge j i with h | h
        · have := hmono (j + 1) i (by omega) (by omega); omega
        · have := hmono (i + 1) j (by omega) (by omega); omega
  -- class 2: it is the next of its class
  have hk_eq : opClass P C o = 2 → k = i := fun hc => by
    rcases Nat.lt_or_ge i k with h | h
    · rw [hk1 i o h ho hc] at hil; cases hil
    · rcases Nat.lt_or_ge k i with h' | h'
      · have hkn : k < ops.size := by omega
        obtain ⟨h3, h4⟩ := hk2 _ (Array.getElem?_eq_getElem hkn)
        have := looks_apart DF h' (Array.getElem?_eq_getElem hkn) ho (fun e => by rw [hcl' k e] at h3; cases h3)
        exact absurd ⟨h4, by omega⟩ this.2.2.2.1
      · omega
  -- class 1: no class 2 between it and the next of class 2
  have hk_gt : opClass P C o ≠ 2 → 0 < opClass P C o → i < k ∧ ∀ (j : Nat) (oj : Oper), i ≤ j → j < k → ops[j]? = some oj → opClass P C oj ≠ 2 := fun hc hpos => by
    refine ⟨?_, fun j oj h1 h2 hoj hcj => ?_⟩
    · rcases Nat.lt_or_ge i k with h | h
      · exact h
      · have hkn : k < ops.size := by omega
        obtain ⟨h3, h4⟩ := hk2 _ (Array.getElem?_eq_getElem hkn)
        rcases Nat.lt_or_ge k i with h' | h'
        · have := looks_apart DF h' (Array.getElem?_eq_getElem hkn) ho (fun e => by rw [hcl' k e] at h3; cases h3)
          exact absurd ⟨h4, hpos⟩ this.2.2.2.1
        · have : k = i := by omega
          subst this
          rw [(Array.getElem?_eq_some_iff.1 ho).2] at h4
          exact absurd h4 hc
    · have hl := hk1 j oj h2 hoj hcj
      rcases Nat.lt_or_ge i j with h' | h'
      · have := looks_apart DF h' ho hoj (fun e => by rw [inv.closed j i hl e] at hil; cases hil)
        exact absurd ⟨hpos, hcj⟩ this.2.2.2.2
      · have : j = i := by omega
        subst this
        rw [hil] at hl; cases hl
  -- conditions on the place of the next of class 2, when it stays
  have hstay : opClass P C o ≠ 2 → (∀ (j : Nat) (o : Oper), j < k → ops[j]? = some o → opClass P C o = 2 → lis L j = true ∨ j = i) ∧ (∀ o, ops[k]? = some o → (lis L k = false ∧ k ≠ i) ∧ opClass P C o = 2) := fun hc =>
    ⟨fun j oj h1 h2 h3 => .inl (hk1 j oj h1 h2 h3), fun oj hoj => ⟨⟨(hk2 oj hoj).1, fun e => by
      subst e; rw [ho] at hoj; injection hoj with hoj; subst hoj; exact hc (hk2 o ho).2⟩, (hk2 oj hoj).2⟩⟩
  -- and when it moves on
  have hmove : opClass P C o = 2 → ∃ k', i < k' ∧ k' ≤ ops.size ∧ (∀ (j : Nat) (o : Oper), j < k' → ops[j]? = some o → opClass P C o = 2 → lis L j = true ∨ j = i) ∧ (∀ o, ops[k']? = some o → (lis L k' = false ∧ k' ≠ i) ∧ opClass P C o = 2) ∧
      (∃ τ, (S k').2 = (S (i + 1)).2 ++ τ) ∧ ∀ l rb, ρ l = some rb → l < (S (i + 1)).2.length := fun hc => by
    have hki := hk_eq hc
    subst hki
    obtain ⟨k', h1, h2, h3, h4⟩ := next2 (P := P) (C := C) (ops := ops) (k + 1) (by omega)
    have hnot : ∀ (j : Nat) (oj : Oper), k < j → ops[j]? = some oj → 0 < opClass P C oj → lis L j = false := fun j oj hkj hoj hpos => by
      cases e : lis L j with
      | false => rfl
      | true =>
        have := looks_apart DF hkj ho hoj (fun e' => by rw [inv.closed j k e e'] at hil; cases hil)
        exact absurd ⟨hc, hpos⟩ this.2.2.2.1
    refine ⟨k', by omega, h2, fun j oj hj hoj hcj => ?_, fun oj hoj => ⟨⟨hnot k' oj (by omega) hoj (by rw [h4 oj hoj]; decide), by omega⟩, h4 oj hoj⟩, ?_, fun l rb hl => ?_⟩
    · rcases Nat.lt_trichotomy j k with h | h | h
      · exact .inl (hk1 j oj h hoj hcj)
      · exact .inr h
      · exact absurd hcj (h3 j oj (by omega) hj hoj)
    · have := seg_app hS (k' - (k + 1)) (k + 1) (by omega) (fun j oj h5 h6 h7 => h3 j oj h5 (by omega) h7)
      rwa [show k + 1 + (k' - (k + 1)) = k' by omega] at this
    · rcases hdom l rb hl with h | ⟨j, h5, h6, h7⟩
      · have := hmono 0 (k + 1) (Nat.zero_le _) (by omega); omega
      · have hjn : j < ops.size := by
          rw [← inv.lsize]
          unfold lis at h5
          rcases Nat.lt_or_ge j L.size with h | h
          · exact h
          · simp [Array.getElem?_eq_none h] at h5
        rcases Nat.lt_or_ge k j with h | h
        · -- it made blocks, so it is not of class 0
          have hoj : ops[j]? = some ops[j] := Array.getElem?_eq_getElem hjn
          have hz : opClass P C ops[j] = 0 := by
            rcases Nat.eq_zero_or_pos (opClass P C ops[j]) with h8 | h8
            · exact h8
            · rw [hnot j _ h hoj h8] at h5; cases h5
          have : (S (j + 1)).2 = (S j).2 := by
            rcases hS j _ hoj with ⟨_, fr, av, σ', _, e1, _, _, e2, _⟩ | ⟨_, e1⟩
            · rw [e1]; exact (e2 hz).1
            · rw [e1]
          rw [this] at h7; omega
        · have := hmono (j + 1) (k + 1) (by omega) (by omega); omega
  unfold wpOp
  simp only [ho]
  rcases hS i o ho with ⟨hg, fr, av, σ', hF, hs1, hlen, hpre, hpure, hsnd⟩ | ⟨hg, hs1⟩
  · rw [if_pos (wanted_yes hg hdd hguard)]
    left
    have hav : ∀ t, o.dst = some t → (S (i + 1)).1 t = av := fun t e => by rw [hs1]; simp [updF, e]
    have hσ : (S (i + 1)).2 = σ' := by rw [hs1]
    by_cases h0 : opClass P C o = 0
    · obtain ⟨e1, hp⟩ := hpure h0
      obtain ⟨v, hrun, hv⟩ := hp μ ρ a w (hops fr hF)
      unfold Oper.wp
      rw [hrun]
      obtain ⟨c1, c2⟩ := hstay (by omega)
      exact fin av v w μ ρ k hav (MuLe.refl μ) (RhoLe.refl ρ) hv hk c1 c2 hsr (fun _ _ h => .inl h) (Nat.le_refl _)
    · by_cases h2 : opClass P C o = 2
      · have hki := hk_eq h2
        subst hki
        obtain ⟨k', hlt, hk', c1, c2, ⟨τ, hτ⟩, hd'⟩ := hmove h2
        have hdm : DomR ρ (S k).2.length := fun l rb hl => by
          rcases Nat.lt_or_ge l (S k).2.length with h3 | h3
          · exact h3
          · rw [hfresh l h3 (hd' l rb hl)] at hl; cases hl
        refine hsnd E μ ρ a w K Q (hops fr hF) hsr (by rw [← hσ]; exact hfresh) (fun _ => hdm) fun v w' μ' ρ' g hv hsr' => ?_
        rw [← hσ] at g hsr'
        refine fin av v w' μ' ρ' k' hav g.mu g.rho hv hk' c1 c2 ?_ (fun l rb hl => (g.dom l rb hl).imp id fun ⟨x, y, _⟩ => ⟨x, y⟩) g.size
        rw [hτ]
        refine hsr'.ext fun l rb hl => ?_
        rcases g.dom l rb hl with h | ⟨_, h, _⟩
        · exact hd' l rb h
        · exact h
      · obtain ⟨hik, hno⟩ := hk_gt h2 (by omega)
        have hq : quietB P C o = true := by rw [quietB, nbeq_false h2]; rfl
        obtain ⟨τ, hτ⟩ : ∃ τ, (S k).2 = (S (i + 1)).2 ++ τ := by
          have := seg_app hS (k - (i + 1)) (i + 1) (by omega) (fun j oj h5 h6 h7 => hno j oj (by omega) (by omega) h7)
          rwa [show i + 1 + (k - (i + 1)) = k by omega] at this
        obtain ⟨τ', hτ'⟩ := hpre hq
        have hpres : SR E μ ρ (S i).2 w := by
          rw [hτ, hσ, hτ', List.append_assoc] at hsr
          exact hsr.pre
        rw [hq] at hsnd
        refine hsnd E μ ρ a w K Q (hops fr hF) hpres (by rw [← hσ]; exact hfresh) (fun e => by cases e) fun v w' μ' ρ' g hv hsr' => ?_
        rw [← hσ] at g hsr'
        obtain ⟨c1, c2⟩ := hstay h2
        refine fin av v w' μ' ρ' k hav g.mu g.rho hv hk c1 c2 ?_ (fun l rb hl => (g.dom l rb hl).imp id fun ⟨x, y, _⟩ => ⟨x, y⟩) g.size
        rw [hτ] at hsr ⊢
        exact hsr.merge g hsr' (.inr trivial)
  · rw [if_neg (by rw [wanted_no hg hdd hguard]; decide)]
    have hav : ∀ t, o.dst = some t → (S (i + 1)).1 t = .v (.tuple #[]) := fun t e => by rw [hs1]; simp [updF, e]
    have hσ : (S (i + 1)).2 = (S i).2 := by rw [hs1]
    by_cases h2 : opClass P C o = 2
    · have hki := hk_eq h2
      subst hki
      obtain ⟨k', hlt, hk', c1, c2, ⟨τ, hτ⟩, hd'⟩ := hmove h2
      refine fin _ undef w μ ρ k' hav (MuLe.refl μ) (RhoLe.refl ρ) .sk hk' c1 c2 ?_ (fun _ _ h => .inl h) (Nat.le_refl _)
      rw [hτ, hσ]
      exact hsr.ext (by rw [← hσ]; exact hd')
    · obtain ⟨c1, c2⟩ := hstay h2
      exact fin _ undef w μ ρ k hav (MuLe.refl μ) (RhoLe.refl ρ) .sk hk c1 c2 hsr (fun _ _ h => .inl h) (Nat.le_refl _)
end
end Go.Ev
