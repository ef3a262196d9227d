/- What a function hands back. -/
import Derived.Test.YtokagdgcfmjlnaaEv32
set_option linter.all false
namespace Go.Ev

def retV (vs : List Value) : Value := if vs.length = 1 then vs.headD undef else .tuple vs.toArray

structure Ret (E : Env) (μ : Mu) (ρ : Rho) (σ : Store) (w : World) (F : List Nat) (μ' : Mu) (σ' : Store) : Prop where
  mu : MuLe μ μ'
  sr : SR E μ' ρ σ' w
  nodup : F.Nodup
  own : ∀ b ∈ F, Own σ ρ b ∧ ¬ Own σ' ρ b
  sub : ∀ b, Own σ' ρ b → Own σ ρ b
  none : ∀ b ∈ F, μ' b = none
  info : ∀ b o, μ' b = some o → μ b = some o ∨ Own σ ρ b

section
variable {E : Env} {μ μ' μ'' : Mu} {ρ : Rho} {σ σ' σ'' : Store} {w : World} {F F' : List Nat}

theorem own_none (hs : SR E μ ρ σ w) {b : Nat} (h : Own σ ρ b) : μ b = none ∧ b < w.heap.size ∧ (E.D b ∨ E.w0.heap.size ≤ b) := by
  obtain ⟨l, rb, k, h1, h2, h3, h4, h5⟩ := h
  subst h5
  refine ⟨?_, hs.own_lt h1 h2 h3 h4, hs.ownD l rb k h1 h2 h3 h4⟩
  obtain ⟨cur, hc⟩ := (hs.blk l rb k h1 h2 (by omega)).live h4
  rcases hc.at_ with ⟨_, _, a⟩ | ⟨a, _⟩
  · exact a
  · omega
theorem Exp.ret (h : Exp E μ ρ σ w F σ') (hs : SR E μ ρ σ w) : Ret E μ ρ σ w F μ σ' :=
  ⟨MuLe.refl μ, h.sr, h.nodup, h.own, h.sub, fun b hb => (own_none hs (h.own b hb).1).1, fun _ _ h => .inl h⟩
theorem Ret.refl (h : SR E μ ρ σ w) : Ret E μ ρ σ w [] μ σ := (Exp.refl h).ret h
theorem Ret.trans (h : Ret E μ ρ σ w F μ' σ') (k : Ret E μ' ρ σ' w F' μ'' σ'') : Ret E μ ρ σ w (F ++ F') μ'' σ'' := by
  refine ⟨h.mu.trans k.mu, k.sr, List.nodup_append.2 ⟨h.nodup, k.nodup, fun a ha b hb e => ?_⟩, fun b hb => ?_, fun b hb => h.sub b (k.sub b hb), fun b hb => ?_, fun b o hb => ?_⟩
  · subst e; exact (h.own a ha).2 (k.own a hb).1
  · rcases List.mem_append.1 hb with hb | hb
    · exact ⟨(h.own b hb).1, fun ho => (h.own b hb).2 (k.sub b ho)⟩
    · exact ⟨h.sub b (k.own b hb).1, (k.own b hb).2⟩
  · rcases List.mem_append.1 hb with hb | hb
    · cases e : μ'' b with
      | none => rfl
      | some o =>
        rcases k.info b o e with h1 | h1
        · rw [h.none b hb] at h1; cases h1
        · exact absurd h1 (h.own b hb).2
    · exact k.none b hb
  · rcases k.info b o hb with h1 | h1
    · exact h.info b o h1
    · exact .inr (h.sub b h1)

theorem expR1_sound {dat : Bool} {a b : AV} {v : Value} (hs : SR E μ ρ σ w) (hv : VR μ ρ a v) (h : expR1 dat σ a = some (b, σ')) : ∃ F G μ', B2 μ' (hf w) F G b v ∧ Ret E μ ρ σ w F μ' σ' := by
  unfold expR1 at h
  split at h
  · rename_i x
    obtain ⟨h1, h2⟩ := cond_some h
    simp only [Option.some.injEq, Prod.mk.injEq] at h2
    obtain ⟨e1, e2⟩ := h2; subst e1; subst e2
    have := hv.cell h1
    cases this with | d hd => exact ⟨[], [], μ, .o (.c (.d hd)), .refl hs⟩
  · obtain ⟨_, h2⟩ := cond_some h
    simp only [Option.some.injEq, Prod.mk.injEq] at h2
    obtain ⟨e1, e2⟩ := h2; subst e1; subst e2
    have := hv.cell rfl
    cases this with | d hd => exact ⟨[], [], μ, .o (.c (.d hd)), .refl hs⟩
  · have hc := hv.cell rfl
    split at h
    · obtain ⟨μ', h1, h2, h3, h4, h5, h6⟩ := frz_soundX hs hc h
      exact ⟨[], [], μ', .o (.c (.d h3)), h1, h2, List.nodup_nil, fun b hb => (by cases hb), h6, fun b hb => (by cases hb), h5⟩
    · obtain ⟨F, h1, h2⟩ := expC_sound hs hc h
      exact ⟨F, [], μ, .o (.c h1), h2.ret hs⟩
  · split at h
    · cases h
    · rename_i cs _ cs' σ1 hx
      simp only [Option.some.injEq, Prod.mk.injEq] at h
      obtain ⟨e1, e2⟩ := h; subst e1; subst e2
      cases hv with
      | c hc => cases hc with | d hd => cases hd
      | agg hc =>
        obtain ⟨μ', h1, h2, h3, h4, h5, h6⟩ := frzL_soundX hs hc hx
        exact ⟨[], [], μ', .agg h3.b1s, h1, h2, List.nodup_nil, fun b hb => (by cases hb), h6, fun b hb => (by cases hb), h5⟩
  · rename_i l i j
    obtain ⟨h1, h2⟩ := cond_some h
    simp only [Bool.and_eq_true] at h1
    have e1 := Nat.eq_of_beq_eq_true h1.1
    have e2 := Nat.eq_of_beq_eq_true h1.2
    subst e1; subst e2
    obtain ⟨F, ty, cs, e, b1, x1, _⟩ := expOb_sound hs (hv.cell rfl) h2
    exact ⟨F, [v], μ, .o b1, x1.ret hs⟩
  · rename_i f first caps
    rcases cond_or h with ⟨_, h2⟩ | ⟨he, h2⟩
    · cases h2
    · split at h2
      · cases h2
      · rename_i bs σ1 r1 hx
        simp only [Option.some.injEq, Prod.mk.injEq] at h2
        obtain ⟨e1, e2⟩ := h2; subst e1; subst e2
        have hfe : first = [] := by simpa using he
        subst hfe
        have key : ∀ {fs cs : List Value}, fs.length = ([] : List AV).length → CRs μ ρ caps cs → ∃ F G μ', B2 μ' (hf w) F G (.clo f [] bs) (.func (.func f) fs.toArray cs.toArray) ∧ Ret E μ ρ σ w F μ' σ1 := fun {fs cs} hl hc => by
          obtain ⟨F, G, b1, x1, o1⟩ := expOs_sound hs hc hx
          exact ⟨F, G, μ, .clo ⟨hl, fun k u v hu => by simp at hu⟩ b1, x1.ret hs⟩
        cases hv with
        | c hc =>
          cases hc with
          | d hd => cases hd with | clo h1 h2 h3 h4 => exact key h1 ⟨h2, fun k u v hu hv => .d (h4 k u v hu hv)⟩
          | clo h1 h2 h3 h4 => exact key h1 ⟨h2, h4⟩
  · cases h

theorem expRs_sound {dat : Bool} : ∀ {as bs : List AV} {vs : List Value} {σ σ' : Store} {μ : Mu}, SR E μ ρ σ w → VRs μ ρ as vs → expRs dat σ as = some (bs, σ') → ∃ F G μ', B2s μ' (hf w) F G bs vs ∧ Ret E μ ρ σ w F μ' σ' ∧ bs.length = as.length
  | [], bs, vs, σ, σ', μ, hs, hv, h => by
    simp only [expRs, Option.some.injEq, Prod.mk.injEq] at h
    obtain ⟨e1, e2⟩ := h; subst e1; subst e2
    have : vs = [] := List.eq_nil_of_length_eq_zero (by rw [hv.1]; rfl)
    subst this
    exact ⟨[], [], μ, .nil, .refl hs, rfl⟩
  | a :: as, bs, [], σ, σ', μ, hs, hv, h => by have := hv.1; simp at this
  | a :: as, bs, v :: vs, σ, σ', μ, hs, hv, h => by
    rw [expRs] at h
    split at h
    · cases h
    · rename_i b1 σ1 h1
      split at h
      · cases h
      · rename_i bs1 σ2 h2
        simp only [Option.some.injEq, Prod.mk.injEq] at h
        obtain ⟨e1, e2⟩ := h; subst e1; subst e2
        obtain ⟨F1, G1, μ1, a1, r1⟩ := expR1_sound hs hv.tail.1 h1
        obtain ⟨F2, G2, μ2, a2, r2, hl⟩ := expRs_sound r1.sr (hv.tail.2.mono r1.mu (RhoLe.refl ρ)) h2
        have hr := r1.trans r2
        exact ⟨F1 ++ F2, G1 ++ G2, μ2, .cons (a1.mono r2.mu fun b hb => hr.none b (by simp [hb])) a2, hr, by simp [hl]⟩

theorem expBacks_sound : ∀ {ls : List Nat} {bs : List AV} {G : List Value} {σ σ' : Store}, SR E μ ρ σ w → CRs μ ρ (ls.map ptr0) G → expBacks σ ls = some (bs, σ') → ∃ F, B1s μ (hf w) F G bs G ∧ Exp E μ ρ σ w F σ'
  | [], bs, G, σ, σ', hs, hv, h => by
    simp only [expBacks, Option.some.injEq, Prod.mk.injEq] at h
    obtain ⟨e1, e2⟩ := h; subst e1; subst e2
    have : G = [] := List.eq_nil_of_length_eq_zero (by rw [hv.1]; rfl)
    subst this
    exact ⟨[], .nil, .refl hs⟩
  | l :: ls, bs, [], σ, σ', hs, hv, h => by have := hv.1; simp at this
  | l :: ls, bs, g :: G, σ, σ', hs, hv, h => by
    rw [expBacks] at h
    split at h
    · cases h
    · rename_i b1 σ1 h1
      split at h
      · cases h
      · rename_i bs1 σ2 h2
        simp only [Option.some.injEq, Prod.mk.injEq] at h
        obtain ⟨e1, e2⟩ := h; subst e1; subst e2
        obtain ⟨F1, ty, cs, e, a1, x1, _⟩ := expOb_sound hs hv.tail.1 h1
        obtain ⟨F2, a2, x2⟩ := expBacks_sound x1.sr hv.tail.2 h2
        exact ⟨F1 ++ F2, .cons (G := [g]) a1 a2, x1.trans x2⟩
end

theorem rootsOf_sound {fr : List (Nat × AV)} : ∀ {ts ls : List Nat}, rootsOf fr ts = some ls → ls.length = ts.length ∧ ∀ (i l t : Nat), ls[i]? = some l → ts[i]? = some t → lookF fr t = ptr0 l
  | [], ls, h => by
    simp only [rootsOf, Option.some.injEq] at h
    subst h
    exact ⟨rfl, fun i l t hl => by simp at hl⟩
  | t :: ts, ls, h => by
    rw [rootsOf] at h
    split at h
    · rename_i l i j r h1 h2
      obtain ⟨h3, h4⟩ := cond_some h
      simp only [Bool.and_eq_true] at h3
      have e1 := Nat.eq_of_beq_eq_true h3.1
      have e2 := Nat.eq_of_beq_eq_true h3.2
      subst e1; subst e2
      injection h4 with h4; subst h4
      obtain ⟨h5, h6⟩ := rootsOf_sound h2
      refine ⟨by simp [h5], fun i l' t' hl ht => ?_⟩
      cases i with
      | zero => simp at hl ht; subst hl; subst ht; exact h1
      | succ i => exact h6 i l' t' (by simpa using hl) (by simpa using ht)
    · cases h

section
variable {P : Program} {E : Env} {μ : Mu} {ρ : Rho} {w : World}

def resOf (tmps : Array Value) : ResultVar → Sem Value
  | .tmp t => pure (tmps.getD t undef)
  | .cell a t => do loadVar t (← asAddr (tmps.getD a undef))
theorem results_eq (fn : Func) (tmps : Array Value) : results fn tmps = (do let vs ← fn.results.mapM (resOf tmps); pure (if h : vs.size = 1 then vs[0] else .tuple vs)) := by
  have : (fun | .tmp t => pure (tmps.getD t undef) | .cell a t => do loadVar t (← asAddr (tmps.getD a undef)) : ResultVar → Sem Value) = resOf tmps := by
    funext x; cases x <;> rfl
  rw [← this]; rfl

/-- The results' variables. -/
theorem resVals_sound {G : Nat → Value} {s : St} {a : Act} (hfr : FR μ ρ G (lookF s.fr) a) (hs : SR E μ ρ s.bl w) : ∀ {l : List ResultVar} {vs : List AV}, resVals P s l = some vs →
    ∃ vals : List Value, (l.mapM (resOf a.tmps)).run P w = .ok vals w ∧ VRs μ ρ vs vals ∧ vs.length = l.length
  | [], vs, h => by
    simp only [resVals, Option.some.injEq] at h
    subst h
    exact ⟨[], by simp, VRs.nil _ _, rfl⟩
  | .tmp t :: l, vs, h => by
    rw [resVals] at h
    split at h
    · cases h
    · rename_i vs' h'
      injection h with h; subst h
      obtain ⟨vals, h1, h2, h3⟩ := resVals_sound hfr hs h'
      have hv : VR μ ρ (tmpF s.fr t) (a.tmps.getD t undef) := getO_FR (x := .tmp t) (fun t _ => hfr t)
      refine ⟨_ :: vals, ?_, VRs.cons hv h2, by simp [h3]⟩
      rw [List.mapM_cons]
      simp only [resOf, Sem.run_bind, Sem.run_pure, Result.andThen_ok, h1]
  | .cell x t :: l, vs, h => by
    rw [resVals] at h
    split at h
    · rename_i q i j hq
      split at h
      · cases h
      · rename_i av hev
        split at h
        · cases h
        · rename_i vs' h'
          injection h with h2; subst h2
          obtain ⟨vals, r1, r2, r3⟩ := resVals_sound hfr hs h'
          have hv : VR μ ρ (tmpF s.fr x) (a.tmps.getD x undef) := getO_FR (x := .tmp x) (fun t _ => hfr t)
          rw [hq] at hv
          obtain ⟨av', e1, e2⟩ := evLoad_sound hev
          injection e1 with e1; subst e1
          obtain ⟨v, e3, e4⟩ := e2 E μ ρ _ w hv hs
          refine ⟨v :: vals, ?_, VRs.cons e4 r2, by simp [r3]⟩
          rw [List.mapM_cons]
          have hp : ∃ ad, a.tmps.getD x undef = .pointer (some ad) := by
            generalize a.tmps.getD x undef = y at hv
            cases hv with
            | c hc => cases hc with
              | d hd => cases hd
              | ptr => exact ⟨_, rfl⟩
          obtain ⟨ad, had⟩ := hp
          rw [had] at e3
          simp only [Instr.loadAt, Instr.sureAddr, Sem.run_bind, Sem.run_pure, Result.andThen_ok] at e3
          simp only [resOf, had, asAddr, Sem.run_bind, Sem.run_pure, Result.andThen_ok, e3, r1]
    · cases h

theorem results_sound {G : Nat → Value} {s : St} {a : Act} {fn : Func} {vs : List AV} (hfr : FR μ ρ G (lookF s.fr) a) (hs : SR E μ ρ s.bl w) (h : resVals P s fn.results.toList = some vs) :
    ∃ vals : List Value, (results fn a.tmps).run P w = .ok (retV vals) w ∧ VRs μ ρ vs vals ∧ vs.length = fn.results.size := by
  obtain ⟨vals, h1, h2, h3⟩ := resVals_sound hfr hs h
  refine ⟨vals, ?_, h2, by simpa using h3⟩
  have key : ∀ (s : Sem (List Value)), s.run P w = .ok vals w → (do let vs ← List.toArray <$> s; pure (if h : vs.size = 1 then vs[0] else .tuple vs) : Sem Value).run P w = .ok (retV vals) w := fun s h => by
    simp only [map_eq_pure_bind, bind_assoc, pure_bind, Sem.run_bind, h, Result.andThen_ok, Sem.run_pure]
    congr 1
    unfold retV
    simp only [List.size_toArray]
    split
    · rename_i e
      obtain ⟨x, hx⟩ := List.length_eq_one_iff.1 e
      subst hx
      rfl
    · rfl
  rw [results_eq, Array.mapM_eq_mapM_toList]
  exact key _ h1
end
end Go.Ev
