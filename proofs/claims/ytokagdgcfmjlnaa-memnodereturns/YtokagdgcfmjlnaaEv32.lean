/- Handing over arguments; forms of what comes back. -/
import Derived.Test.YtokagdgcfmjlnaaEv31
set_option linter.all false
namespace Go.Ev

section mono
variable {μ μ' : Mu} {hp : HF} {F : List Nat} {G : List Value}
theorem B0.mono {a : AV} {v : Value} (h : B0 μ hp F a v) (hm : MuLe μ μ') (hF : ∀ b ∈ F, μ' b = none) : B0 μ' hp F a v := by
  cases h with
  | d hd => exact .d (hd.mono hm)
  | ow h1 h2 h3 h4 h5 => exact .ow h1 (hF _ (by simp)) h3 h4 (h5.mono hm)
  | own => exact .own
theorem B0s.mono {as : List AV} {vs : List Value} (h : B0s μ hp F as vs) (hm : MuLe μ μ') (hF : ∀ b ∈ F, μ' b = none) : B0s μ' hp F as vs := by
  induction h with
  | nil => exact .nil
  | cons h _ ih => exact .cons (h.mono hm fun b hb => hF b (by simp [hb])) (ih fun b hb => hF b (by simp [hb]))
theorem B1.mono {a : AV} {v : Value} (h : B1 μ hp F G a v) (hm : MuLe μ μ') (hF : ∀ b ∈ F, μ' b = none) : B1 μ' hp F G a v := by
  cases h with
  | c h => exact .c (h.mono hm hF)
  | ob h1 h2 h3 => exact .ob h1 (hF _ (by simp)) (h3.mono hm fun b hb => hF b (by simp [hb]))
theorem B1s.mono {as : List AV} {vs : List Value} (h : B1s μ hp F G as vs) (hm : MuLe μ μ') (hF : ∀ b ∈ F, μ' b = none) : B1s μ' hp F G as vs := by
  induction h with
  | nil => exact .nil
  | cons h _ ih => exact .cons (h.mono hm fun b hb => hF b (by simp [hb])) (ih fun b hb => hF b (by simp [hb]))
theorem B2.mono {a : AV} {v : Value} (h : B2 μ hp F G a v) (hm : MuLe μ μ') (hF : ∀ b ∈ F, μ' b = none) : B2 μ' hp F G a v := by
  cases h with
  | o h => exact .o (h.mono hm hF)
  | agg h => exact .agg (h.mono hm hF)
  | clo h1 h => exact .clo (h1.mono hm) (h.mono hm hF)
theorem B2s.mono {as : List AV} {vs : List Value} (h : B2s μ hp F G as vs) (hm : MuLe μ μ') (hF : ∀ b ∈ F, μ' b = none) : B2s μ' hp F G as vs := by
  induction h with
  | nil => exact .nil
  | cons h _ ih => exact .cons (h.mono hm fun b hb => hF b (by simp [hb])) (ih fun b hb => hF b (by simp [hb]))
end mono

section
variable {E : Env} {μ : Mu} {ρ : Rho} {w : World}

theorem VRs.tail {a : AV} {v : Value} {as : List AV} {vs : List Value} (h : VRs μ ρ (a :: as) (v :: vs)) : VR μ ρ a v ∧ VRs μ ρ as vs :=
  ⟨h.2 0 a v rfl rfl, by simpa using h.1, fun k u x hu hx => h.2 (k + 1) u x (by simpa using hu) (by simpa using hx)⟩

theorem expArgs_sound : ∀ {args bs : List AV} {vals : List Value} {σ σ' : Store} {m : List Bool} {r : List Nat}, SR E μ ρ σ w → VRs μ ρ args vals → expArgs σ m args = some (bs, σ', r) →
    ∃ F G, Exp E μ ρ σ w F σ' ∧ Roots σ' ρ F r G (obsOf bs) ∧ (m.any id = false → σ' = σ ∧ F = [] ∧ r = [] ∧ obsOf bs = []) ∧ ∀ μ', MuLe μ μ' → (∀ b ∈ F, μ' b = none) →
      (∀ (k : Nat) (a b : AV) (v : Value), m.getD k false = false → args[k]? = some a → vals[k]? = some v → expD σ a = some b → B2 μ' (hf w) [] [] b v) → B2s μ' (hf w) F G bs vals
  | [], bs, vals, σ, σ', m, r, hs, hv, h => by
    cases m <;>
    · simp only [expArgs, Option.some.injEq, Prod.mk.injEq] at h
      obtain ⟨e1, e2, e3⟩ := h; subst e1; subst e2; subst e3
      have : vals = [] := List.eq_nil_of_length_eq_zero (by rw [hv.1]; rfl)
      subst this
      exact ⟨[], [], .refl hs, .nil, fun _ => ⟨rfl, rfl, rfl, rfl⟩, fun μ' _ _ _ => .nil⟩
  | a :: as, bs, [], σ, σ', m, r, hs, hv, h => by have := hv.1; simp at this
  | a :: as, bs, v :: vals, σ, σ', m, r, hs, hv, h => by
    rw [expArgs] at h
    split at h
    · cases h
    · rename_i b σ1 r1 h1
      split at h
      · cases h
      · rename_i bs1 σ2 r2 h2
        simp only [Option.some.injEq, Prod.mk.injEq] at h
        obtain ⟨e1, e2, e3⟩ := h; subst e1; subst e2; subst e3
        rw [obsOf_cons]
        have htail : ∀ k, m.tail.getD k false = m.getD (k + 1) false := fun k => by cases m <;> simp
        cases hm : m.headD false with
        | true =>
          rw [hm] at h1
          obtain ⟨F1, G1, b1, x1, o1⟩ := expO_sound hs hv.tail.1 h1
          obtain ⟨F2, G2, x2, o2, _, hc⟩ := expArgs_sound x1.sr hv.tail.2 h2
          refine ⟨F1 ++ F2, G1 ++ G2, x1.trans x2, (o1.mono x2 fun b hb => by simp [hb]).append (o2.wide fun b hb => by simp [hb]), fun e => ?_, fun μ' hle hF hl => ?_⟩
          · cases m with
            | nil => cases hm
            | cons x m => simp at hm; subst hm; simp at e
          · refine .cons (b1.mono hle fun b hb => hF b (by simp [hb])) (hc μ' hle (fun b hb => hF b (by simp [hb])) fun k a b v h3 h4 h5 h6 => ?_)
            exact hl (k + 1) a b v (by rw [← htail]; exact h3) h4 h5 (expN_up x1.blk 4 h6)
        | false =>
          rw [hm] at h1
          simp only at h1
          split at h1
          · cases h1
          · rename_i b' hb'
            simp only [Option.some.injEq, Prod.mk.injEq] at h1
            obtain ⟨e1, e2, e3⟩ := h1; subst e1; subst e2; subst e3
            obtain ⟨F2, G2, x2, o2, hq, hc⟩ := expArgs_sound hs hv.tail.2 h2
            have hm0 : m.getD 0 false = false := by cases m with
              | nil => rfl
              | cons x m => simpa using hm
            rw [expD_obs hb']
            refine ⟨F2, G2, x2, o2, fun e => ?_, fun μ' hle hF hl => ?_⟩
            · obtain ⟨q1, q2, q3, q4⟩ := hq (by cases m with
                | nil => rfl
                | cons x m => simp at e; simpa using e.2)
              exact ⟨q1, q2, by rw [q3]; rfl, by rw [q4]; rfl⟩
            · have := hl 0 a b' v hm0 rfl rfl hb'
              exact .cons (F := []) (G := []) this (hc μ' hle hF fun k a b v h3 h4 h5 h6 => hl (k + 1) a b v (by rw [← htail]; exact h3) h4 h5 h6)

theorem lentRefs_in {σ : Store} : ∀ {args : List AV} {m : List Bool} {k : Nat} {a : AV}, m.getD k false = false → args[k]? = some a → ∀ l ∈ refs σ a, l ∈ lentRefs σ m args
  | [], m, k, a, _, h, _, _ => by simp at h
  | x :: as, m, 0, a, h1, h2, l, hl => by
    simp at h2; subst h2
    have : m.headD false = false := by cases m with
      | nil => rfl
      | cons y m => simpa using h1
    simp only [lentRefs, this, cond_false, List.mem_append]
    exact .inl hl
  | x :: as, m, k + 1, a, h1, h2, l, hl => by
    simp only [lentRefs, List.mem_append]
    refine .inr (lentRefs_in (k := k) (a := a) ?_ (by simpa using h2) l hl)
    cases m with
    | nil => rfl
    | cons y m => simpa using h1
end

/-! ## The forms of what comes back -/
section sim
variable {μ : Mu} {hp : HF}

theorem shapeC_sim {k : CK} {c : AV} (h : (shapeC k c).1 = true) : Sim c (shapeC k c).2 := by
  unfold shapeC at h ⊢
  split at h
  · exact .inl (isI_eq h).symm
  · exact .inl (isB_eq h).symm
  · exact .inl (isS_eq h).symm
  · exact isL_sim h
  · cases h
theorem isOw_eq {e sz : Nat} {c : AV} (h : isOw e sz c = true) : AV.ow (avNil c) e sz (avXs c) = c := by
  cases c with
  | ow n t s xs =>
    simp only [isOw, Bool.and_eq_true] at h
    have e1 := Nat.eq_of_beq_eq_true h.1
    have e2 := Nat.eq_of_beq_eq_true h.2
    subst e1; subst e2; rfl
  | _ => cases h
theorem shapeO_sim {k : CK} {c : AV} (h : (shapeO k c).1 = true) : Sim c (shapeO k c).2 := by
  unfold shapeO at h ⊢
  split at h
  · exact .inl (isOw_eq h)
  · exact shapeC_sim h
theorem shapeO_un (k : CK) : (shapeO k .un).1 = false := by
  cases k <;> rfl
theorem likeB_sim {t c : AV} (h : (likeB t c).1 = true) : Sim c (likeB t c).2 := by
  unfold likeB at h ⊢
  split at h
  · exact .inl (isI_eq h).symm
  · exact .inl (isB_eq h).symm
  · exact .inl (isS_eq h).symm
  · exact .inl (isNP_eq h).symm
  · exact isL_sim h
  · exact .inl (isOw_eq h)
  · cases h
theorem likeB_un (t : AV) : (likeB t .un).1 = false := by
  unfold likeB
  split <;> rfl
theorem shapeG_gen : ∀ (ts : List CK) (j : Nat) (cs : List AV), shapeG ts j cs = genG shapeC ts j cs
  | [], _, _ => rfl
  | [_], _, _ => rfl
  | t :: t' :: ts, j, cs => by simp only [shapeG, genG, shapeG_gen (t' :: ts)]
theorem shapeV_gen : ∀ (ts : List CK) (j : Nat) (cs : List AV), shapeV ts j cs = genV shapeC ts j cs
  | [], _, _ => rfl
  | t :: ts, j, cs => by simp only [shapeV, genV, shapeV_gen ts]
theorem shapeOG_gen : ∀ (ts : List CK) (j : Nat) (cs : List AV), shapeOG ts j cs = genG shapeO ts j cs
  | [], _, _ => rfl
  | [_], _, _ => rfl
  | t :: t' :: ts, j, cs => by simp only [shapeOG, genG, shapeOG_gen (t' :: ts)]
theorem shapeOV_gen : ∀ (ts : List CK) (j : Nat) (cs : List AV), shapeOV ts j cs = genV shapeO ts j cs
  | [], _, _ => rfl
  | t :: ts, j, cs => by simp only [shapeOV, genV, shapeOV_gen ts]
theorem likeG_gen : ∀ (ts : List AV) (j : Nat) (cs : List AV), likeG ts j cs = genG likeB ts j cs
  | [], _, _ => rfl
  | [_], _, _ => rfl
  | t :: t' :: ts, j, cs => by simp only [likeG, genG, likeG_gen (t' :: ts)]
theorem likeV_gen : ∀ (ts : List AV) (j : Nat) (cs : List AV), likeV ts j cs = genV likeB ts j cs
  | [], _, _ => rfl
  | t :: ts, j, cs => by simp only [likeV, genV, likeV_gen ts]

/-- Cells of the same contents. -/
def Sims (cs cs' : List AV) : Prop := cs'.length = cs.length ∧ ∀ (k : Nat) (c c' : AV), cs[k]? = some c → cs'[k]? = some c' → Sim c c'
theorem Sims.tail {c c' : AV} {cs cs' : List AV} (h : Sims (c :: cs) (c' :: cs')) : Sim c c' ∧ Sims cs cs' :=
  ⟨h.2 0 c c' rfl rfl, by simpa using h.1, fun k x y hx hy => h.2 (k + 1) x y (by simpa using hx) (by simpa using hy)⟩
theorem gen_sims {T : Type} {f : T → AV → Bool × AV} (hun : ∀ t, (f t .un).1 = false) (hf : ∀ t c, (f t c).1 = true → Sim c (f t c).2) {ts : List T} {cs : List AV} (h : genG f ts 0 cs = true) (hl : cs.length = ts.length) : Sims cs (genV f ts 0 cs) := by
  refine ⟨by rw [(genV_spec ts 0 cs).1, hl], fun k c c' hc hc' => ?_⟩
  obtain ⟨t, c0, _, h1, h2, e⟩ := gen_cell hun h hc'
  rw [Nat.zero_add, hc] at h1
  injection h1 with h1; subst h1; subst e
  exact hf t c h2

theorem Sim.b0 {F : List Nat} {c c' : AV} {v : Value} (h : Sim c c') (hb : B0 μ hp F c v) : B0 μ hp F c' v := by
  rcases h with h | ⟨s, s', xs, h1, h2⟩
  · subst h; exact hb
  · subst h1
    cases hb with | d hd => exact .d (Sim.dr (.inr ⟨s, s', xs, rfl, h2⟩) hd)
theorem Sim.b1 {F : List Nat} {G : List Value} {c c' : AV} {v : Value} (h : Sim c c') (hb : B1 μ hp F G c v) : B1 μ hp F G c' v := by
  rcases h with h | ⟨s, s', xs, h1, h2⟩
  · subst h; exact hb
  · subst h1
    cases hb with | c hb => exact .c (Sim.b0 (.inr ⟨s, s', xs, rfl, h2⟩) hb)
theorem Sim.b2 {F : List Nat} {G : List Value} {c c' : AV} {v : Value} (h : Sim c c') (hb : B2 μ hp F G c v) : B2 μ hp F G c' v := by
  rcases h with h | ⟨s, s', xs, h1, h2⟩
  · subst h; exact hb
  · subst h1
    cases hb with | o hb => exact .o (Sim.b1 (.inr ⟨s, s', xs, rfl, h2⟩) hb)
theorem Sims.b0s {cs : List AV} {F : List Nat} {vs : List Value} (hb : B0s μ hp F cs vs) : ∀ {cs' : List AV}, Sims cs cs' → B0s μ hp F cs' vs := by
  induction hb with
  | nil =>
    intro cs' h
    have : cs' = [] := List.eq_nil_of_length_eq_zero h.1
    subst this; exact .nil
  | cons h1 _ ih =>
    intro cs' h
    cases cs' with
    | nil => have := h.1; simp at this
    | cons c' cs' => exact .cons (h.tail.1.b0 h1) (ih h.tail.2)
theorem Sims.b1s {cs : List AV} {F : List Nat} {G : List Value} {vs : List Value} (hb : B1s μ hp F G cs vs) : ∀ {cs' : List AV}, Sims cs cs' → B1s μ hp F G cs' vs := by
  induction hb with
  | nil =>
    intro cs' h
    have : cs' = [] := List.eq_nil_of_length_eq_zero h.1
    subst this; exact .nil
  | cons h1 _ ih =>
    intro cs' h
    cases cs' with
    | nil => have := h.1; simp at this
    | cons c' cs' => exact .cons (h.tail.1.b1 h1) (ih h.tail.2)

/-- A result and its form. -/
def SimA (r r' : AV) : Prop := ∀ (μ : Mu) (hp : HF) (F : List Nat) (G : List Value) (v : Value), B2 μ hp F G r v → B2 μ hp F G r' v
theorem shR_sound {R : Type} {P : Program} {dat : Bool} {t : TypeId} {r : AV} {K : AV → Option R} {x : R} (h : shR P dat t r K = some x) : ∃ r', K r' = some x ∧ SimA r r' := by
  unfold shR at h
  rcases cond_or h with ⟨_, h⟩ | ⟨_, h⟩
  · rcases cond_or h with ⟨_, h⟩ | ⟨_, h⟩
    · obtain ⟨h1, h2⟩ := cond_some h
      simp only [Bool.and_eq_true] at h1
      refine ⟨_, h2, fun μ hp F G v hb => ?_⟩
      cases r with
      | agg cs => exact hb
      | _ => cases h1.1
    obtain ⟨h1, h2⟩ := cond_some h
    simp only [Bool.and_eq_true] at h1
    refine ⟨_, h2, fun μ hp F G v hb => ?_⟩
    cases r with
    | agg cs =>
      have hl := Nat.eq_of_beq_eq_true h1.1
      have h3 := h1.2
      simp only [obCells] at h3 ⊢
      rw [shapeG_gen] at h3
      rw [shapeV_gen]
      have hsim := gen_sims (fun t => shapeC_un) (fun t c => shapeC_sim) h3 hl
      cases hb with
      | o hb => cases hb with | c hb => cases hb with | d hd => cases hd
      | agg hb => exact .agg (hsim.b1s hb)
    | _ => cases h1.1
  · split at h
    · rename_i e _
      rcases cond_or h with ⟨_, h⟩ | ⟨_, h⟩
      · obtain ⟨h1, h2⟩ := cond_some h
        exact ⟨_, h2, fun μ hp F G v hb => (isL_sim h1).b2 hb⟩
      · obtain ⟨h1, h2⟩ := cond_some h
        exact ⟨_, h2, fun μ hp F G v hb => by rw [isOw_eq h1]; exact hb⟩
    · rename_i e _
      rcases cond_or h with ⟨h1, h2⟩ | ⟨_, h⟩
      · exact ⟨_, h2, fun μ hp F G v hb => by rw [← isNP_eq h1]; exact hb⟩
      · obtain ⟨h1, h2⟩ := cond_some h
        simp only [Bool.and_eq_true] at h1
        refine ⟨_, h2, fun μ hp F G v hb => ?_⟩
        cases r with
        | ob ty cs =>
          have e1 := Nat.eq_of_beq_eq_true h1.1.1
          subst e1
          have hl := Nat.eq_of_beq_eq_true h1.1.2
          have h3 := h1.2
          simp only [obCells] at h3 hl ⊢
          rw [shapeOG_gen] at h3
          rw [shapeOV_gen]
          have hsim := gen_sims shapeO_un (fun t c => shapeO_sim) h3 hl
          cases hb with
          | o hb =>
            cases hb with
            | c hb => cases hb with | d hd => cases hd
            | ob a1 a2 a3 => exact .o (.ob a1 a2 (hsim.b0s a3))
        | _ => cases h1.1.1
    · obtain ⟨h1, h2⟩ := cond_some h
      exact ⟨_, h2, fun μ hp F G v hb => by rw [← isI_eq h1]; exact hb⟩
    · obtain ⟨h1, h2⟩ := cond_some h
      exact ⟨_, h2, fun μ hp F G v hb => by rw [← isB_eq h1]; exact hb⟩
    · obtain ⟨h1, h2⟩ := cond_some h
      exact ⟨_, h2, fun μ hp F G v hb => by rw [← isS_eq h1]; exact hb⟩
    · cases h
theorem shRs_sound {R : Type} {P : Program} {dat : Bool} {x : R} : ∀ {ts : List TypeId} {j : Nat} {rs : List AV} {K : List AV → Option R}, shRs P dat ts j rs K = some x →
    ∃ as, K as = some x ∧ as.length = ts.length ∧ ∀ (i : Nat) (a : AV), as[i]? = some a → SimA (cellAt rs (j + i)) a
  | [], j, rs, K, h => ⟨[], h, rfl, fun i a ha => by simp at ha⟩
  | t :: ts, j, rs, K, h => by
    rw [shRs] at h
    obtain ⟨r', h1, h2⟩ := shR_sound h
    obtain ⟨as, h3, h4, h5⟩ := shRs_sound h1
    refine ⟨r' :: as, h3, by simp [h4], fun i a ha => ?_⟩
    cases i with
    | zero => simp at ha; subst ha; exact h2
    | succ i =>
      have := h5 i a (by simpa using ha)
      rwa [show j + 1 + i = j + (i + 1) by omega] at this
theorem b2s_sim {F : List Nat} {G : List Value} {ra : List AV} {vs : List Value} (hb : B2s μ hp F G ra vs) : ∀ {as : List AV}, as.length = ra.length → (∀ (i : Nat) (r a : AV), ra[i]? = some r → as[i]? = some a → SimA r a) → B2s μ hp F G as vs := by
  induction hb with
  | nil =>
    intro as h _
    have : as = [] := List.eq_nil_of_length_eq_zero h
    subst this; exact .nil
  | cons h1 _ ih =>
    intro as h hi
    cases as with
    | nil => simp at h
    | cons a as => exact .cons (hi 0 _ a rfl rfl _ _ _ _ _ h1) (ih (by simpa using h) fun i r a hr ha => hi (i + 1) r a (by simpa using hr) (by simpa using ha))

theorem shOuts_sound {R : Type} {x : R} : ∀ {ts : List (Nat × List AV)} {j : Nat} {rs : List AV} {K : List (List AV) → Option R}, shOuts ts j rs K = some x →
    ∃ os, K os = some x ∧ os.length = ts.length ∧ ∀ (i : Nat) (o : Nat × List AV), ts[i]? = some o → ∃ cs cs', rs[j + i]? = some (.ob o.1 cs) ∧ os[i]? = some cs' ∧ cs.length = o.2.length ∧ Sims cs cs'
  | [], j, rs, K, h => ⟨[], h, rfl, fun i o ho => by simp at ho⟩
  | (ty, tcs) :: ts, j, rs, K, h => by
    rw [shOuts] at h
    obtain ⟨h1, h2⟩ := cond_some h
    simp only [Bool.and_eq_true] at h1
    obtain ⟨⟨h3, h4⟩, h5⟩ := h1
    obtain ⟨os, h6, h7, h8⟩ := shOuts_sound h2
    refine ⟨_ :: os, h6, by simp [h7], fun i o ho => ?_⟩
    cases i with
    | zero =>
      simp at ho; subst ho
      have hc : cellAt rs j ≠ .un := fun e => by rw [e] at h3; cases h3
      have hs := cellAt_some hc
      generalize hg : cellAt rs j = c at *
      cases c with
      | ob ty' cs =>
        have e1 := Nat.eq_of_beq_eq_true h3
        subst e1
        have hl := Nat.eq_of_beq_eq_true h4
        simp only [obCells] at h5 hl ⊢
        rw [likeG_gen] at h5
        exact ⟨cs, _, hs, rfl, hl, by rw [likeV_gen]; exact gen_sims likeB_un (fun t c => likeB_sim) h5 hl⟩
      | _ => cases h3
    | succ i =>
      obtain ⟨cs, cs', a1, a2, a3, a4⟩ := h8 i o (by simpa using ho)
      exact ⟨cs, cs', by rwa [show j + 1 + i = j + (i + 1) by omega] at a1, by simpa using a2, a3, a4⟩
end sim
end Go.Ev
