/- More operations that read the store: slices, lengths, places of elements, conversions. -/
import Derived.Test.YtokagdgcfmjlnaaEv08
set_option linter.all false
namespace Go.Ev

theorem Addr.add_add' (a : Addr) (m n : Nat) : (a.add m).add n = a.add (m + n) := by
  unfold Addr.add
  split
  · rename_i h; subst h; simp
  · split
    · rename_i h1 h2; subst h2; rw [if_neg (by omega)]; simp
    · rw [if_neg (by omega)]; simp [Nat.add_assoc]

section
variable {P : Program} {E : Env} {μ : Mu} {ρ : Rho} {σ : Store} {w : World}

/-- The elements of a slice, whether data or of the store. -/
theorem sl_view {a : AV} {xs : List (List AV)} {v : Value} (h : slXs σ a = some xs) (hv : VR μ ρ a v) (hs : SR E μ ρ σ w) :
    ∃ nil sz A c news, v = .slice A xs.length c ∧ SV μ w nil sz xs A c news := by
  unfold slXs at h
  split at h
  · injection h with h; subst h
    cases hv with
    | c hx => cases hx with
      | d hd =>
        obtain ⟨A, c, news, h1, h2⟩ := hd.view hs.imm
        exact ⟨_, _, A, c, news, h1, h2⟩
  · split at h
    · cases h
    · rename_i b hb
      replace h := cond_some' h
      obtain ⟨hm, h⟩ := h
      obtain ⟨hm, ho⟩ := blk_mode hm
      injection h with h; subst h
      cases hv with
      | c hx =>
        obtain ⟨A, c, news, h1, h2, _⟩ := hx.slView hs hb hm ho
        exact ⟨_, _, A, c, news, h1, h2⟩
  · cases h

theorem slLen_view {a : AV} {n : Nat} {v : Value} (h : slLen σ a = some n) (hv : VR μ ρ a v) (hs : SR E μ ρ σ w) : ∃ A c, v = .slice A n c := by
  unfold slLen at h
  split at h
  · injection h with h; subst h
    cases hv with
    | c hx => cases hx with
      | d hd => cases hd; exact ⟨_, _, rfl⟩
  · rename_i l off cut
    split at h
    · cases h
    · rename_i b hb
      replace h := cond_some' h
      obtain ⟨hm, h⟩ := h
      obtain ⟨hm, ho⟩ := blk_mode hm
      injection h with h
      cases hv with
      | c hx =>
        cases hx with
        | d hd => cases hd
        | @sl _ _ _ rb a len cap hl hp ha hlen hoff hcap hcsz =>
          refine ⟨some a, cap, ?_⟩
          rw [← h, hlen, (hs.blk l rb b hl hb hm).n]
          cases cut <;> rfl
        | @sln _ _ _ rb hl hn hoff hcut =>
          refine ⟨none, 0, ?_⟩
          have hx : b.xs.length = 0 := by rw [← (hs.blk l rb b hl hb hm).n]; exact hn
          cases cut with
          | none => simp only at h; rw [hx] at h; simp at h; rw [← h]
          | some m => simp only at h; rw [← h, hcut m rfl]
  · cases h

theorem evLen_sound {R : Type} {K : AV → Store → Option R} {r : R} {t : TypeId} {a : AV} (h : evLen P σ K t a = some r) :
    ∃ av, K av σ = some r ∧ ∀ (E : Env) (μ : Mu) (ρ : Rho) (va : Value) (ty : TypeId) (w : World), VR μ ρ a va → SR E μ ρ σ w → ∃ v, (Builtin.len_ #[t] ty #[va]).run P w = .ok v w ∧ VR μ ρ av v := by
  unfold evLen at h
  split at h
  · rename_i s hu
    refine ⟨_, h, fun E μ ρ va ty w ha hs => ?_⟩
    have := ha.v_eq; subst this
    exact ⟨_, by simp [Builtin.len_, run_underlying hu, goInt], .int _ _⟩
  · rename_i n e hu
    exact ⟨_, h, fun E μ ρ va ty w ha hs => ⟨_, by simp [Builtin.len_, run_underlying hu, goInt], .int _ _⟩⟩
  · rename_i e hu
    split at h
    · rename_i n e' hu'
      exact ⟨_, h, fun E μ ρ va ty w ha hs => ⟨_, by simp [Builtin.len_, run_underlying hu, run_underlying hu', goInt], .int _ _⟩⟩
    · cases h
  · rename_i e hu
    split at h
    · rename_i n hn
      refine ⟨_, h, fun E μ ρ va ty w ha hs => ?_⟩
      obtain ⟨A, c, hva⟩ := slLen_view hn ha hs
      subst hva
      exact ⟨_, by simp [Builtin.len_, run_underlying hu, goInt], .int _ _⟩
    · cases h
  · cases h

/-- The bounds of a slice, given as options. -/
theorem optI_spec {o : Option AV} {x : Option Int} (h : optI o = some x) {vo : Option Value} (hv : ∀ a, o = some a → ∃ v, vo = some v ∧ VR μ ρ a v) (hn : o = none → vo = none) :
    (x = none ∧ vo = none) ∨ ∃ k n, x = some n ∧ vo = some (.int k n) := by
  cases o with
  | none => simp [optI] at h; exact .inl ⟨h.symm, hn rfl⟩
  | some a =>
    obtain ⟨v, h1, h2⟩ := hv a rfl
    unfold optI at h
    split at h
    · rename_i e; cases e
    · rename_i k n e
      injection e with e; subst e
      injection h with h
      have := h2.v_eq; subst this
      exact .inr ⟨k, n, h.symm, h1⟩
    · cases h

theorem run_sliceBounds {len cap : Nat} {isS : Bool} {lo hi : Option Int} {vlo vhi : Option Value} (h1 : (lo = none ∧ vlo = none) ∨ ∃ k n, lo = some n ∧ vlo = some (.int k n))
    (h2 : (hi = none ∧ vhi = none) ∨ ∃ k n, hi = some n ∧ vhi = some (.int k n)) (hc : len ≤ cap) (l0 : 0 ≤ lo.getD 0) (lh : lo.getD 0 ≤ hi.getD (len : Int)) (hl : hi.getD (len : Int) ≤ (len : Int)) :
    (Instr.sliceBounds isS len cap vlo vhi none).run P w = .ok ((lo.getD 0).toNat, (hi.getD (len : Int)).toNat, cap) w := by
  rcases h1 with ⟨e, e'⟩ | ⟨k, n, e, e'⟩ <;> rcases h2 with ⟨f, f'⟩ | ⟨k', n', f, f'⟩ <;> subst e <;> subst e' <;> subst f <;> subst f' <;>
    simp only [Option.getD_some, Option.getD_none] at l0 lh hl ⊢
  · simp only [Instr.sliceBounds, Sem.run_bind, Sem.run_pure, Result.andThen_ok, Int.toNat_zero, Int.toNat_natCast]
  · have c1 : 0 ≤ n' ∧ n' ≤ (cap : Int) := ⟨by omega, by omega⟩
    simp only [Instr.sliceBounds, Instr.sliceBound, asIntOf, Sem.run_bind, Sem.run_pure, Result.andThen_ok, Int.toNat_zero, Sem.run_ite, if_pos c1]
  · have c1 : 0 ≤ n ∧ n ≤ (len : Int) := ⟨by omega, by omega⟩
    simp only [Instr.sliceBounds, Instr.sliceBound, asIntOf, Sem.run_bind, Sem.run_pure, Result.andThen_ok, Int.toNat_natCast, Sem.run_ite, if_pos c1]
  · have c1 : 0 ≤ n' ∧ n' ≤ (cap : Int) := ⟨by omega, by omega⟩
    have c2 : 0 ≤ n ∧ n ≤ (n'.toNat : Int) := ⟨by omega, by omega⟩
    simp only [Instr.sliceBounds, Instr.sliceBound, asIntOf, Sem.run_bind, Sem.run_pure, Result.andThen_ok, Sem.run_ite, if_pos c1, if_pos c2]

theorem DR.cut {nil : Bool} {sz : Nat} {xs : List (List AV)} {A : Option Addr} {n c l h : Nat} (hd : DR μ (.lst nil sz xs) (.slice A n c)) (hl : l ≤ h) (hh : h ≤ xs.length) :
    DR μ (.lst nil sz ((xs.drop l).take (h - l))) (.slice (if c = l then A else A.map (·.add (l * sz))) (h - l) (c - l)) := by
  cases hd with
  | lst vals hnil hA hc hsz hcell hv =>
    have hlen : ((xs.drop l).take (h - l)).length = h - l := by simp; omega
    have hmem : ∀ e ∈ (xs.drop l).take (h - l), e ∈ xs := fun e he => List.mem_of_mem_drop (List.mem_of_mem_take he)
    have hget : ∀ (k : Nat) e, ((xs.drop l).take (h - l))[k]? = some e → xs[l + k]? = some e := fun k e he => by
      rw [List.getElem?_take] at he
      split at he
      · simpa using he
      · cases he
    have : (Value.slice (if c = l then A else A.map (·.add (l * sz))) (h - l) (c - l)) = .slice (if c = l then A else A.map (·.add (l * sz))) ((xs.drop l).take (h - l)).length (c - l) := by rw [hlen]
    rw [this]
    by_cases hcl : c = l
    · have h0 : h - l = 0 := by omega
      have he : (xs.drop l).take (h - l) = [] := by rw [h0]; simp
      rw [he, if_pos hcl]
      exact .lst (xs := []) (fun _ _ => undef) hnil (fun e => ⟨rfl, by have := (hA e).2; omega⟩) (Nat.zero_le _) (fun e he => by cases he) (fun a ha k j hk => absurd hk (Nat.not_lt_zero _)) (fun k e j u he => by simp at he)
    · rw [if_neg hcl]
      refine .lst (fun k j => vals (l + k) j) ?_ (fun e => ?_) (by rw [hlen]; omega) (fun e he => hsz e (hmem e he)) (fun a ha k j hk hj => ?_) (fun k e j u he hu => hv (l + k) e j u (hget k e he) hu)
      · cases A <;> simpa using hnil
      · cases A with
        | none =>
          obtain ⟨h1, h2⟩ := hA rfl
          subst h1; subst h2
          simp at hh ⊢
        | some a => cases e
      · cases A with
        | none => cases ha
        | some a0 =>
          simp only [Option.map_some, Option.some.injEq] at ha
          subst ha
          rw [Addr.add_add', ← Nat.add_assoc, ← Nat.add_mul]
          exact hcell a0 rfl (l + k) j (by rw [hlen] at hk; omega) hj

theorem CR.cut {nil : Bool} {b off : Nat} {cut cut' : Option Nat} {A : Option Addr} {n c l h sz : Nat} {k : Blk} (hd : CR μ ρ (.sl nil b off cut) (.slice A n c)) (hs : SR E μ ρ σ w) (hk : σ[b]? = some k) (hm : k.mode ≠ 0) (hsz : k.sz = sz)
    (hl : l ≤ h) (hh : h ≤ n) (hcut : cut' = some (h - l) ∨ (h = n ∧ cut' = cutR (n - l) cut)) :
    CR μ ρ (.sl nil b (off + l) cut') (.slice (if c = l then A else A.map (·.add (l * sz))) (h - l) (c - l)) := by
  cases hd with
  | d hx => cases hx
  | @sl _ _ _ rb a _ _ hb hp ha hlen hoff hcap hcsz =>
    have hbs := (hs.blk b rb k hb hk hm).sz
    have hlen' : h - l = cutN rb.n (off + l) cut' := by
      rcases hcut with e | ⟨e1, e2⟩
      · subst e; rfl
      · subst e2
        cases cut with
        | none => simp only [cutN, cutR] at hlen ⊢; omega
        | some m => simp only [cutN, cutR]; omega
    by_cases hcl : c = l
    · rw [if_pos hcl]
      refine .sl hb hp ?_ hlen' (by omega) (by omega) (by rw [← hcsz]; congr 1; omega)
      by_cases e : off + l = 0
      · left
        rcases ha with ha | ⟨_, ha⟩
        · rw [ha]
          have h1 : off = 0 := by omega
          have h2 : l = 0 := by omega
          rw [h1, h2]
        · omega
      · exact .inr ⟨by omega, by omega⟩
    · rw [if_neg hcl]
      refine .sl hb hp ?_ hlen' (by omega) (by omega) (by rw [← hcsz]; congr 1; omega)
      left
      rcases ha with ha | ⟨ha, _⟩
      · simp only []
        rw [ha, addr_add, ← hsz, ← hbs, Nat.add_mul]
      · omega
  | @sln _ _ _ rb hb hn ho hcut0 =>
    have h1 : l = 0 := by omega
    have h2 : h = 0 := by omega
    subst h1; subst h2
    simp only [Nat.sub_self, if_true, Nat.add_zero]
    refine .sln hb hn ho fun m hm' => ?_
    rcases hcut with e | ⟨_, e⟩
    · rw [e] at hm'; injection hm' with hm'; exact hm'.symm
    · rw [e] at hm'
      cases cut with
      | none => cases hm'
      | some x => injection hm' with hm'; exact hm'.symm

theorem run_sliceAt_slice {t e : TypeId} (hu : P.underlying t = some (.slice e)) (hI : (P.info? e).isSome = true) {A : Option Addr} {n c : Nat} {lo hi : Option Int} {vlo vhi : Option Value}
    (h1 : (lo = none ∧ vlo = none) ∨ ∃ k n, lo = some n ∧ vlo = some (.int k n)) (h2 : (hi = none ∧ vhi = none) ∨ ∃ k n, hi = some n ∧ vhi = some (.int k n)) (hc : n ≤ c)
    (l0 : 0 ≤ lo.getD 0) (lh : lo.getD 0 ≤ hi.getD (n : Int)) (hl : hi.getD (n : Int) ≤ (n : Int)) :
    (Instr.sliceAt t (.slice A n c) vlo vhi none).run P w =
      .ok (.slice (if c = (lo.getD 0).toNat then A else A.map (·.add ((lo.getD 0).toNat * P.cellsOf e))) ((hi.getD (n : Int)).toNat - (lo.getD 0).toNat) (c - (lo.getD 0).toNat)) w := by
  simp only [Instr.sliceAt, Sem.run_bind, run_underlying hu, Result.andThen_ok, Instr.slice, run_sliceBounds h1 h2 hc l0 lh hl, run_sizeOf' hI, Sem.run_pure]

theorem evSlice_sound {R : Type} {K : AV → Store → Option R} {r : R} {t : TypeId} {a : AV} {lo hi : Option AV} (h : evSlice P σ K t a lo hi = some r) :
    ∃ av, K av σ = some r ∧ ∀ (E : Env) (μ : Mu) (ρ : Rho) (va : Value) (vlo vhi : Option Value) (w : World), VR μ ρ a va → (∀ a, lo = some a → ∃ v, vlo = some v ∧ VR μ ρ a v) → (lo = none → vlo = none) →
      (∀ a, hi = some a → ∃ v, vhi = some v ∧ VR μ ρ a v) → (hi = none → vhi = none) → SR E μ ρ σ w → ∃ v, (Instr.sliceAt t va vlo vhi none).run P w = .ok v w ∧ VR μ ρ av v := by
  unfold evSlice at h
  split at h
  · rename_i s l h' hu hlo hhi
    replace h := cond_some h
    obtain ⟨hb, h⟩ := h
    simp only [Bool.and_eq_true, decide_eq_true_eq] at hb
    refine ⟨_, h, fun E μ ρ va vlo vhi w ha h1 h2 h3 h4 hs => ?_⟩
    have := ha.v_eq; subst this
    refine ⟨_, ?_, .str _⟩
    simp only [Instr.sliceAt, Sem.run_bind, run_underlying hu, Result.andThen_ok, Instr.slice, Option.isSome_none, Bool.false_eq_true, if_false, Sem.run_pure,
      run_sliceBounds (optI_spec hlo h1 h2) (optI_spec hhi h3 h4) (Nat.le_refl s.size) hb.1.1 hb.1.2 hb.2]
  · rename_i e nil sz xs l h' hu hlo hhi
    replace h := cond_some' h
    obtain ⟨hz, h⟩ := h
    simp only [Bool.not_eq_false', Bool.and_eq_true] at hz
    have hsz := Nat.eq_of_beq_eq_true hz.1
    have key : ∀ (ys : List (List AV)), K (.lst nil sz ys) σ = some r → 0 ≤ l.getD 0 → l.getD 0 ≤ h'.getD (xs.length : Int) → h'.getD (xs.length : Int) ≤ (xs.length : Int) →
        ys = (xs.drop (l.getD 0).toNat).take ((h'.getD (xs.length : Int)).toNat - (l.getD 0).toNat) → ∃ av, K av σ = some r ∧ ∀ (E : Env) (μ : Mu) (ρ : Rho) (va : Value) (vlo vhi : Option Value) (w : World), VR μ ρ (.lst nil sz xs) va → (∀ a, lo = some a → ∃ v, vlo = some v ∧ VR μ ρ a v) → (lo = none → vlo = none) →
      (∀ a, hi = some a → ∃ v, vhi = some v ∧ VR μ ρ a v) → (hi = none → vhi = none) → SR E μ ρ σ w → ∃ v, (Instr.sliceAt t va vlo vhi none).run P w = .ok v w ∧ VR μ ρ av v := fun ys hk l0 lh hl hys => by
      refine ⟨_, hk, fun E μ ρ va vlo vhi w ha h1 h2 h3 h4 hs => ?_⟩
      cases ha with
      | c hx => cases hx with
        | d hd =>
          have hd0 := hd
          cases hd with
          | @lst _ _ _ A c vals hnil hA hc hsz' hcell hv =>
            refine ⟨_, run_sliceAt_slice hu hz.2 (optI_spec hlo h1 h2) (optI_spec hhi h3 h4) hc l0 lh hl, ?_⟩
            rw [hys, ← hsz]
            exact .c (.d (hd0.cut (by omega) (by omega)))
    split at h
    · exact key _ h (by simp) (by simp) (by simp) (by simp)
    · replace h := cond_some h
      obtain ⟨hb, h⟩ := h
      simp only [Bool.and_eq_true, decide_eq_true_eq] at hb
      exact key _ h hb.1 hb.2 (by simp) (by simp [List.take_of_length_le])
    · replace h := cond_some h
      obtain ⟨hb, h⟩ := h
      simp only [Bool.and_eq_true, decide_eq_true_eq] at hb
      exact key _ h (by simp) hb.1 hb.2 (by simp)
    · replace h := cond_some h
      obtain ⟨hb, h⟩ := h
      simp only [Bool.and_eq_true, decide_eq_true_eq] at hb
      exact key _ h hb.1.1 hb.1.2 hb.2 (by simp)
  · rename_i e nil i off cut l h' hu hlo hhi
    split at h
    · rename_i n b hn hb
      replace h := cond_some' h
      obtain ⟨hz, h⟩ := h
      simp only [Bool.not_eq_false', Bool.and_eq_true] at hz
      have hsz := Nat.eq_of_beq_eq_true hz.1
      have hm : b.mode ≠ 0 := by
        simp only [slLen, hb] at hn
        exact (blk_mode (cond_some' hn).1).1
      have key : ∀ (lo' : Nat) (cut' : Option Nat), K (.sl nil i lo' cut') σ = some r → 0 ≤ l.getD 0 → l.getD 0 ≤ h'.getD (n : Int) → h'.getD (n : Int) ≤ (n : Int) → lo' = off + (l.getD 0).toNat →
        (cut' = some ((h'.getD (n : Int)).toNat - (l.getD 0).toNat) ∨ ((h'.getD (n : Int)).toNat = n ∧ cut' = cutR (n - (l.getD 0).toNat) cut)) →
        ∃ av, K av σ = some r ∧ ∀ (E : Env) (μ : Mu) (ρ : Rho) (va : Value) (vlo vhi : Option Value) (w : World), VR μ ρ (.sl nil i off cut) va → (∀ a, lo = some a → ∃ v, vlo = some v ∧ VR μ ρ a v) → (lo = none → vlo = none) →
      (∀ a, hi = some a → ∃ v, vhi = some v ∧ VR μ ρ a v) → (hi = none → vhi = none) → SR E μ ρ σ w → ∃ v, (Instr.sliceAt t va vlo vhi none).run P w = .ok v w ∧ VR μ ρ av v := fun lo' cut' hk l0 lh hl hlo' hcut' => by
        refine ⟨_, hk, fun E μ ρ va vlo vhi w ha h1 h2 h3 h4 hs => ?_⟩
        obtain ⟨A, c, hva⟩ := slLen_view hn ha hs
        subst hva
        cases ha with
        | c hx =>
          have hc : n ≤ c := by
            cases hx with
            | d hd => cases hd
            | sl _ _ _ _ _ hcap => exact hcap
            | sln => exact Nat.le_refl _
          refine ⟨_, run_sliceAt_slice hu hz.2 (optI_spec hlo h1 h2) (optI_spec hhi h3 h4) hc l0 lh hl, ?_⟩
          rw [hlo']
          exact .c (hx.cut hs hb hm hsz (by omega) (by omega) hcut')
      split at h
      · refine key _ _ h (by simp) (by simp) (by simp) (by simp) (.inr ⟨by simp, ?_⟩)
        cases cut with
        | none => rfl
        | some m =>
          simp only [slLen, hb] at hn
          have := (cond_some' hn).2
          simp at this
          simp [this, cutR]
      · replace h := cond_some h
        obtain ⟨hb', h⟩ := h
        simp only [Bool.and_eq_true, decide_eq_true_eq] at hb'
        exact key _ _ h hb'.1 hb'.2 (by simp) (by simp) (.inr ⟨by simp, by cases cut <;> rfl⟩)
      · replace h := cond_some h
        obtain ⟨hb', h⟩ := h
        simp only [Bool.and_eq_true, decide_eq_true_eq] at hb'
        exact key _ _ h (by simp) hb'.1 hb'.2 (by simp) (.inl (by simp))
      · replace h := cond_some h
        obtain ⟨hb', h⟩ := h
        simp only [Bool.and_eq_true, decide_eq_true_eq] at hb'
        exact key _ _ h hb'.1.1 hb'.1.2 hb'.2 (by simp) (.inl (by simp))
    · cases h
  · cases h
end
end Go.Ev
