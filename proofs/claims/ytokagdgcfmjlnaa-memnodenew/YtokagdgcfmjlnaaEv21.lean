/- Regions in any order: the run keeps to the text's. -/
import Derived.Test.YtokagdgcfmjlnaaEv20
set_option linter.all false
namespace Go.Ev

section
variable {E : Env} {μ μ' : Mu} {ρ ρ' : Rho} {σ τ : Store} {w w' : World}

theorem app_get {σ τ : Store} {l : Nat} {k : Blk} (h : σ[l]? = some k) : (σ ++ τ)[l]? = some k := by
  rw [List.getElem?_append_left (List.getElem?_eq_some_iff.1 h).1]; exact h
theorem SR.pre (h : SR E μ ρ (σ ++ τ) w) : SR E μ ρ σ w :=
  ⟨fun l rb k hl hk hm => h.blk l rb k hl (app_get hk) hm, fun l l' rb rb' k k' hl hl' hk hk' => h.inj l l' rb rb' k k' hl hl' (app_get hk) (app_get hk'), fun l rb k hl hk => h.ownD l rb k hl (app_get hk), h.imm, h.base⟩
theorem SR.ext (h : SR E μ ρ σ w) (hd : ∀ l rb, ρ l = some rb → l < σ.length) : SR E μ ρ (σ ++ τ) w := by
  have hg : ∀ l rb k, ρ l = some rb → (σ ++ τ)[l]? = some k → σ[l]? = some k := fun l rb k hl hk => by
    rwa [List.getElem?_append_left (hd l rb hl)] at hk
  exact ⟨fun l rb k hl hk hm => h.blk l rb k hl (hg l rb k hl hk) hm, fun l l' rb rb' k k' hl hl' hk hk' => h.inj l l' rb rb' k k' hl hl' (hg _ _ _ hl hk) (hg _ _ _ hl' hk'), fun l rb k hl hk => h.ownD l rb k hl (hg _ _ _ hl hk), h.imm, h.base⟩

/-- A quiet operation, among blocks that were made ahead of their turn. -/
theorem SR.merge {n : Nat} (h : SR E μ ρ (σ ++ τ) w) (g : Grow true μ ρ n w μ' ρ' σ.length w') (h' : SR E μ' ρ' σ w') (ho : w'.os = w.os ∨ True) : SR E μ' ρ' (σ ++ τ) w' := by
  have hold : ∀ l rb k, ρ' l = some rb → (σ ++ τ)[l]? = some k → (l < σ.length ∧ σ[l]? = some k) ∨ (σ.length ≤ l ∧ ρ l = some rb) := fun l rb k hl hk => by
    rcases Nat.lt_or_ge l σ.length with h1 | h1
    · exact .inl ⟨h1, by rwa [List.getElem?_append_left h1] at hk⟩
    · rcases g.dom l rb hl with h2 | ⟨_, h2, _⟩
      · exact .inr ⟨h1, h2⟩
      · omega
  have hdist : ∀ l rb k l' rb' k', σ[l]? = some k → ρ' l = some rb → k.mode = 1 → rb.ph = false → σ.length ≤ l' → ρ l' = some rb' → (σ ++ τ)[l']? = some k' → k'.mode = 1 → rb'.ph = false → rb.b ≠ rb'.b := fun l rb k l' rb' k' hk hl hm hp hle hl' hk' hm' hp' he => by
    rcases g.dom l rb hl with h1 | ⟨_, _, h1⟩
    · have := h.inj l l' rb rb' k k' h1 hl' (app_get hk) hk' hm hm' hp hp' he
      have := (List.getElem?_eq_some_iff.1 hk).1
      omega
    · rcases h1 rfl with h1 | h1
      · rw [hp] at h1; cases h1
      · have := h.own_lt hl' hk' hm' hp'
        omega
  refine ⟨fun l rb k hl hk hm => ?_, fun l l' rb rb' k k' hl hl' hk hk' hm1 hm2 hp hp' he => ?_, fun l rb k hl hk hm hp => ?_, h'.imm, h'.base⟩
  · rcases hold l rb k hl hk with ⟨_, h1⟩ | ⟨_, h1⟩
    · exact h'.blk l rb k hl h1 hm
    · have hb := h.blk l rb k h1 hk hm
      refine ⟨hb.sz, hb.n, hb.fit, hb.ph, hb.one, fun hp => ?_⟩
      obtain ⟨cur, hc⟩ := hb.live hp
      refine ⟨cur, hc.size, fun e => (hc.rowD e).mono g.mu, fun e => (hc.rowO e).mono g.mu g.rho, ?_⟩
      rcases hc.at_ with ⟨a1, a2, a3⟩ | ⟨a1, ty, fz, a2⟩
      · have hlt := h.own_lt h1 hk a1 hp
        refine .inl ⟨a1, by rw [g.keep rfl _ hlt]; exact a2, ?_⟩
        cases e : μ' rb.b with
        | none => rfl
        | some o =>
          rcases g.muq rfl _ _ e with e1 | e1
          · rw [a3] at e1; cases e1
          · omega
      · exact .inr ⟨a1, ty, fz, g.mu _ _ a2⟩
  · rcases hold l rb k hl hk with ⟨_, h1⟩ | ⟨h1l, h1⟩ <;> rcases hold l' rb' k' hl' hk' with ⟨_, h2⟩ | ⟨h2l, h2⟩
    · exact h'.inj l l' rb rb' k k' hl hl' h1 h2 hm1 hm2 hp hp' he
    · exact absurd he (hdist l rb k l' rb' k' h1 hl hm1 hp h2l h2 hk' hm2 hp')
    · exact absurd he.symm (hdist l' rb' k' l rb k h2 hl' hm2 hp' h1l h1 hk hm1 hp)
    · exact h.inj l l' rb rb' k k' h1 h2 hk hk' hm1 hm2 hp hp' he
  · rcases hold l rb k hl hk with ⟨_, h1⟩ | ⟨_, h1⟩
    · exact h'.ownD l rb k hl h1 hm hp
    · exact h.ownD l rb k h1 hk hm hp
end

section
variable {P : Program} {C : Cfg} {ops : Array Oper} {cl : Nat → Nat → Prop} {S : Nat → FM × Store} {E : Env} {B : Base} {G : Nat → Value} {n : Nat}

/-- Where a run in any order stands. -/
structure Inv (P : Program) (C : Cfg) (ops : Array Oper) (cl : Nat → Nat → Prop) (S : Nat → FM × Store) (E : Env) (B : Base) (G : Nat → Value) (n : Nat) (L : Array Bool) (a : Act) (w : World) : Prop where
  lsize : L.size = ops.size
  closed : ∀ i j, lis L i = true → cl i j → lis L j = true
  st : ∃ k, k ≤ ops.size ∧ (∀ (j : Nat) (o : Oper), j < k → ops[j]? = some o → opClass P C o = 2 → lis L j = true) ∧ (∀ o, ops[k]? = some o → lis L k = false ∧ opClass P C o = 2) ∧
    ∃ μ ρ, FR μ ρ G (slotW ops S L ops.size) a ∧ SR E μ ρ (S k).2 w ∧ (∀ l rb, ρ l = some rb → l < (S 0).2.length ∨ ∃ j, lis L j = true ∧ (S j).2.length ≤ l ∧ l < (S (j + 1)).2.length) ∧ Since B μ ρ w
  base : B.n ≤ (S 0).2.length
  size : a.tmps.size = n
  defers : a.defers = []

theorem next2 (p : Nat) (hp : p ≤ ops.size) : ∃ k, p ≤ k ∧ k ≤ ops.size ∧ (∀ (j : Nat) (o : Oper), p ≤ j → j < k → ops[j]? = some o → opClass P C o ≠ 2) ∧ (∀ o, ops[k]? = some o → opClass P C o = 2) := by
  obtain ⟨d, hd⟩ : ∃ d, p + d = ops.size := ⟨ops.size - p, by omega⟩
  induction d generalizing p with
  | zero => exact ⟨p, Nat.le_refl _, hp, fun j o h1 h2 => by omega, fun o ho => by have := (Array.getElem?_eq_some_iff.1 ho).1; omega⟩
  | succ d ih =>
    by_cases hc : opClass P C (ops[p]'(by omega)) = 2
    · exact ⟨p, Nat.le_refl _, hp, fun j o h1 h2 => by omega, fun o ho => by
        have := (Array.getElem?_eq_some_iff.1 ho).2; rw [← this]; exact hc⟩
    · obtain ⟨k, h1, h2, h3, h4⟩ := ih (p + 1) (by omega) (by omega)
      refine ⟨k, by omega, h2, fun j o hj1 hj2 ho => ?_, h4⟩
      by_cases e : j = p
      · subst e
        have := (Array.getElem?_eq_some_iff.1 ho).2
        rw [← this]; exact hc
      · exact h3 j o (by omega) hj2 ho

theorem lis_ready {L : Array Bool} {i : Nat} (hL : L.size = ops.size) (h : i ∈ Region.ready .any ops L) : ∃ o, ops[i]? = some o ∧ lis L i = false ∧ ∀ e ∈ o.after, Region.binds .any e = true → lis L e.on = true := by
  obtain ⟨h0, o, ho, hall⟩ := mem_ready.1 h
  refine ⟨o, ho, ?_, fun e he hb => hall e he hb⟩
  have hlt : i < L.size := by rw [hL]; exact (Array.getElem?_eq_some_iff.1 ho).1
  simpa [lis, hlt] using h0

theorem ready_none {L : Array Bool} (DF : DrawFacts P C ops cl) (hL : L.size = ops.size) (h : Region.ready .any ops L = []) : ∀ i, i < ops.size → lis L i = true := by
  intro i
  induction i using Nat.strongRecOn with
  | _ i ih =>
    intro hi
    cases e : lis L i with
    | true => rfl
    | false =>
      have hok : ops[i]? = some ops[i] := Array.getElem?_eq_getElem hi
      have : i ∈ Region.ready .any ops L := mem_ready.2 ⟨by simpa [lis, show i < L.size by omega] using e, _, hok, fun ed he hb => ih ed.on (DF.lt i _ hok ed he hb) (by have := DF.lt i _ hok ed he hb; omega)⟩
      rw [h] at this; cases this
end
end Go.Ev
