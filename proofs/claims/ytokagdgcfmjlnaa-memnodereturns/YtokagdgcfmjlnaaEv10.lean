/- Places of elements; conversions; new blocks. -/
import Derived.Test.YtokagdgcfmjlnaaEv09
import Derived.Laws.MakeOwn
set_option linter.all false
namespace Go.Ev

/-- What the ghosts and the world grow by; quiet: no block that there was has changed. -/
structure Grow (q : Bool) (μ : Mu) (ρ : Rho) (n : Nat) (w : World) (μ' : Mu) (ρ' : Rho) (n' : Nat) (w' : World) : Prop where
  mu : MuLe μ μ'
  rho : RhoLe ρ ρ'
  len : n ≤ n'
  dom : ∀ l rb, ρ' l = some rb → ρ l = some rb ∨ (n ≤ l ∧ l < n' ∧ (q = true → rb.ph = true ∨ w.heap.size ≤ rb.b))
  keep : q = true → ∀ b, b < w.heap.size → w'.heap[b]? = w.heap[b]?
  size : w.heap.size ≤ w'.heap.size
  muq : q = true → ∀ b o, μ' b = some o → μ b = some o ∨ w.heap.size ≤ b

def FreshTo (ρ : Rho) (n m : Nat) : Prop := ∀ l, n ≤ l → l < m → ρ l = none

theorem Grow.refl (q : Bool) (μ : Mu) (ρ : Rho) (n : Nat) (w : World) : Grow q μ ρ n w μ ρ n w :=
  ⟨MuLe.refl μ, RhoLe.refl ρ, Nat.le_refl n, fun _ _ h => .inl h, fun _ _ _ => rfl, Nat.le_refl _, fun _ _ _ h => .inl h⟩
theorem Grow.trans {q : Bool} {μ μ' μ'' : Mu} {ρ ρ' ρ'' : Rho} {n n' n'' : Nat} {w w' w'' : World} (h : Grow q μ ρ n w μ' ρ' n' w') (k : Grow q μ' ρ' n' w' μ'' ρ'' n'' w'') : Grow q μ ρ n w μ'' ρ'' n'' w'' := by
  refine ⟨h.mu.trans k.mu, h.rho.trans k.rho, Nat.le_trans h.len k.len, fun l rb hl => ?_, fun hq b hb => ?_, Nat.le_trans h.size k.size, fun hq b o hb => ?_⟩
  · rcases k.dom l rb hl with h1 | ⟨h1, h2, h3⟩
    · rcases h.dom l rb h1 with h4 | ⟨h4, h5, h6⟩
      · exact .inl h4
      · exact .inr ⟨h4, Nat.lt_of_lt_of_le h5 k.len, h6⟩
    · exact .inr ⟨Nat.le_trans h.len h1, h2, fun hq => (h3 hq).imp id (Nat.le_trans h.size)⟩
  · rw [k.keep hq b (Nat.lt_of_lt_of_le hb h.size), h.keep hq b hb]
  · rcases k.muq hq b o hb with h1 | h1
    · exact h.muq hq b o h1
    · exact .inr (Nat.le_trans h.size h1)
theorem Grow.loud {q : Bool} {μ μ' : Mu} {ρ ρ' : Rho} {n n' : Nat} {w w' : World} (h : Grow q μ ρ n w μ' ρ' n' w') : Grow false μ ρ n w μ' ρ' n' w' :=
  ⟨h.mu, h.rho, h.len, fun l rb hl => (h.dom l rb hl).imp id fun ⟨a, b, _⟩ => ⟨a, b, fun e => by cases e⟩, fun e => (by cases e), h.size, fun e => (by cases e)⟩
theorem FreshTo.grow {q : Bool} {μ μ' : Mu} {ρ ρ' : Rho} {n n' m : Nat} {w w' : World} (h : FreshTo ρ n m) (g : Grow q μ ρ n w μ' ρ' n' w') : FreshTo ρ' n' m := fun l h1 h2 => by
  cases e : ρ' l with
  | none => rfl
  | some rb =>
    rcases g.dom l rb e with h3 | ⟨_, h3, _⟩
    · rw [h l (Nat.le_trans g.len h1) h2] at h3; cases h3
    · omega
theorem FreshTo.fresh {ρ : Rho} {σ : Store} {m : Nat} (h : FreshTo ρ σ.length m) (hm : σ.length < m) : Fresh ρ σ := h _ (Nat.le_refl _) hm
theorem FreshTo.le {ρ : Rho} {n m m' : Nat} (h : FreshTo ρ n m) (hm : m' ≤ m) : FreshTo ρ n m' := fun l h1 h2 => h l h1 (Nat.lt_of_lt_of_le h2 hm)

section
variable {P : Program} {E : Env} {μ : Mu} {ρ : Rho} {σ : Store} {w : World}

theorem grow_add {q : Bool} (hf : Fresh ρ σ) (rb : RB) (k : Blk) (w' : World) (hq : q = true → rb.ph = true ∨ w.heap.size ≤ rb.b) (hk : q = true → ∀ b, b < w.heap.size → w'.heap[b]? = w.heap[b]?) (hz : w.heap.size ≤ w'.heap.size) :
    Grow q μ ρ σ.length w μ (rhoAdd ρ σ.length rb) (σ ++ [k]).length w' := by
  refine ⟨MuLe.refl μ, rhoAdd_le (fun r e => by rw [hf] at e; cases e), by simp, fun l r hl => ?_, hk, hz, fun _ _ _ h => .inl h⟩
  rcases rhoAdd_cases hl with ⟨h1, h2⟩ | ⟨_, h2⟩
  · subst h2; exact .inr ⟨by omega, by simp; omega, hq⟩
  · exact .inl h2

theorem evIndexAddr_sound {R : Type} {K : AV → Store → Option R} {r : R} {t : TypeId} {a i : AV} {ct : Bool} (h : evIndexAddr P σ K t a i ct = some r) :
    ∃ av, K av σ = some r ∧ ∀ (E : Env) (μ : Mu) (ρ : Rho) (va vi : Value) (w : World), VR μ ρ a va → VR μ ρ i vi → SR E μ ρ σ w → ∃ v, (Instr.indexAt t va vi).run P w = .ok v w ∧ VR μ ρ av v := by
  unfold evIndexAddr at h
  split at h
  · rename_i e k n hu
    replace h := cond_some' h
    obtain ⟨ht, h⟩ := h
    simp only [Bool.not_eq_false', Bool.and_eq_true] at ht
    have hI := (tyL_spec ht.1).2.2.2
    have hpos : 0 < P.cellsOf e := by simpa [Nat.blt_eq] using ht.2
    have hrun : ∀ (ad : Addr) (len c : Nat) (w : World), 0 ≤ n → n < (len : Int) → (Instr.indexAt t (.slice (some ad) len c) (.int k n)).run P w = .ok (.pointer (some (ad.add (n.toNat * P.cellsOf e)))) w := fun ad len c w h0 h1 => by
      simp only [Instr.indexAt, asIntOf, Sem.run_bind, Sem.run_pure, Result.andThen_ok, run_underlying hu, h0, h1, and_self, if_true, run_sizeOf' hI]
    split at h
    · rename_i nil sz xs
      replace h := cond_some h
      obtain ⟨hz, h⟩ := h
      have hsz := Nat.eq_of_beq_eq_true hz
      replace h := cond_some h
      obtain ⟨hr, h⟩ := h
      obtain ⟨h0, h1, h2⟩ := range_of hr
      refine ⟨_, h, fun E μ ρ va vi w ha hi hs => ?_⟩
      have := hi.v_eq; subst this
      cases ha with
      | c hx => cases hx with
        | d hd => cases hd with
          | @lst _ _ _ A c vals hnil hA hc hszs hcell hv =>
            cases A with
            | none => have := (hA rfl).1; subst this; simp at h2
            | some ad =>
              refine ⟨_, hrun ad _ _ w h0 h1, ?_⟩
              have hel : xs[n.toNat]? = some (lget xs n.toNat) := by simp [lget, List.getD_eq_getElem?_getD, List.getElem?_eq_getElem h2]
              have hlen : (lget xs n.toNat).length = sz := hszs _ (List.mem_of_getElem? hel)
              have hspot : ∃ b o, ad = ⟨b, o, none⟩ := by
                have := hcell ad rfl 0 0 (by omega) (by omega)
                rw [show (0 * sz + 0 : Nat) = 0 by omega] at this
                obtain ⟨b, o, s⟩ := ad
                cases s with
                | none => exact ⟨b, o, rfl⟩
                | some s =>
                  simp only [Addr.add, if_true, muCell] at this
                  split at this <;> simp at this
              obtain ⟨b, o, e⟩ := hspot
              subst e
              have hp := DR.ep (μ := μ) (cs := lget xs n.toNat) (off := 0) (b := b) (o := o + n.toNat * sz) (fun j => vals n.toNat j) (fun j hj => by
                have := hcell ⟨b, o, none⟩ rfl n.toNat j h2 (by omega)
                rw [addr_add] at this
                rw [← this]; congr 2; omega) (fun j u hu => hv _ _ _ _ hel hu)
              rw [addr_add, ← hsz]
              exact .c (.d hp)
    · rename_i nil l off cut
      split at h
      · rename_i len b hlen hb
        replace h := cond_some h
        obtain ⟨hz, h⟩ := h
        have hsz := Nat.eq_of_beq_eq_true hz
        replace h := cond_some h
        obtain ⟨hr, h⟩ := h
        obtain ⟨h0, h1, h2⟩ := range_of hr
        have hm : b.mode ≠ 0 := by
          simp only [slLen, hb] at hlen
          exact (blk_mode (cond_some' hlen).1).1
        refine ⟨_, h, fun E μ ρ va vi w ha hi hs => ?_⟩
        have := hi.v_eq; subst this
        obtain ⟨A, c, hva⟩ := slLen_view hlen ha hs
        subst hva
        cases ha with
        | c hx => cases hx with
          | d hd => cases hd
          | @sl _ _ _ rb a _ _ hl hp ha hlen' hoff hcap hcsz =>
            refine ⟨_, hrun a _ _ w h0 h1, ?_⟩
            have hbs := (hs.blk l rb b hl hb hm).sz
            rcases ha with ha | ⟨ha, _⟩
            · rw [ha, addr_add, ← hsz, ← hbs, ← Nat.add_mul]
              have := CR.ptr (μ := μ) (ρ := ρ) (l := l) (i := off + n.toNat) (j := 0) hl hp
              exact .c this
            · omega
          | sln => omega
      · cases h
    · cases h
  · rename_i len e k n hu
    replace h := cond_some' h
    obtain ⟨ht, h⟩ := h
    simp only [Bool.not_eq_false'] at ht
    have hI := (tyL_spec ht).2.2.2
    have hrun : ∀ (ad : Addr) (w : World), 0 ≤ n → n < (len : Int) → (Instr.indexAt t (.pointer (some ad)) (.int k n)).run P w = .ok (.pointer (some (ad.add (n.toNat * P.cellsOf e)))) w := fun ad w h0 h1 => by
      simp only [Instr.indexAt, asIntOf, Sem.run_bind, Sem.run_pure, Result.andThen_ok, run_underlying hu, Instr.sureAddr, h0, h1, and_self, if_true, run_sizeOf' hI]
    split at h
    · rename_i l i j
      split at h
      · cases h
      · rename_i b hb
        cases ho : b.obj with
        | true =>
          rw [ho] at h
          simp only [cond_true] at h
          cases ct with
          | true =>
            simp only [cond_true] at h
            replace h := cond_some h
            obtain ⟨hr, h⟩ := h
            obtain ⟨h0, h1, h2⟩ := range_of hr
            refine ⟨_, h, fun E μ ρ va vi w ha hi hs => ?_⟩
            have := hi.v_eq; subst this
            cases ha with
            | c hx => cases hx with
              | d hd => cases hd
              | @ptr _ _ _ rb hl hp =>
                refine ⟨_, hrun _ w h0 h1, ?_⟩
                rw [addr_add, Nat.add_assoc]
                exact .c (.ptr hl hp)
          | false =>
            simp only [cond_false] at h
            replace h := cond_some h
            obtain ⟨hc, h⟩ := h
            simp only [Bool.and_eq_true] at hc
            have hone := Nat.eq_of_beq_eq_true hc.1
            have hi0 := Nat.eq_of_beq_eq_true hc.2
            replace h := cond_some h
            obtain ⟨hr, h⟩ := h
            obtain ⟨h0, h1, h2⟩ := range_of hr
            refine ⟨_, h, fun E μ ρ va vi w ha hi hs => ?_⟩
            have := hi.v_eq; subst this
            cases ha with
            | c hx => cases hx with
              | d hd => cases hd
              | @ptr _ _ _ rb hl hp =>
                refine ⟨_, hrun _ w h0 h1, ?_⟩
                rw [addr_add, hone, Nat.mul_one, hi0, Nat.zero_mul, Nat.zero_add]
                exact .c (.px hl hp h2)
        | false =>
          rw [ho] at h
          simp only [cond_false] at h
          replace h := cond_some h
          obtain ⟨hc, h⟩ := h
          simp only [Bool.and_eq_true] at hc
          obtain ⟨⟨⟨⟨hm, hty⟩, hi0⟩, hj0⟩, hsz⟩ := hc
          have hm : b.mode ≠ 0 := fun e => by rw [e] at hm; cases hm
          have hi0 := Nat.eq_of_beq_eq_true hi0
          have hj0 := Nat.eq_of_beq_eq_true hj0
          have hsz := Nat.eq_of_beq_eq_true hsz
          replace h := cond_some h
          obtain ⟨hr, h⟩ := h
          obtain ⟨h0, h1, h2⟩ := range_of hr
          refine ⟨_, h, fun E μ ρ va vi w ha hi hs => ?_⟩
          have := hi.v_eq; subst this
          cases ha with
          | c hx => cases hx with
            | d hd => cases hd
            | @ptr _ _ _ rb hl hp =>
              refine ⟨_, hrun _ w h0 h1, ?_⟩
              have hbs := (hs.blk l rb b hl hb hm).sz
              rw [addr_add, hi0, hj0, Nat.zero_mul, Nat.zero_add, hsz, ← hbs]
              exact .c (.ptr (i := n.toNat) (j := 0) hl hp)
    · rename_i cs off
      replace h := cond_some h
      obtain ⟨hr, h⟩ := h
      obtain ⟨h0, h1, h2⟩ := range_of hr
      refine ⟨_, h, fun E μ ρ va vi w ha hi hs => ?_⟩
      have := hi.v_eq; subst this
      cases ha with
      | c hx => cases hx with
        | d hd => cases hd with
          | ep vals hcell hv =>
            refine ⟨_, hrun _ w h0 h1, ?_⟩
            rw [addr_add, Nat.add_assoc]
            exact .c (.d (.ep vals hcell hv))
    · cases h
  · cases h
end
end Go.Ev
