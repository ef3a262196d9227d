/- What is handed over at a call, by value; taking it in. -/
import Derived.Test.YtokagdgcfmjlnaaEv27
set_option linter.all false
namespace Go.Ev

abbrev HF := Nat → Option Obj
def hf (w : World) : HF := fun b => w.heap[b]?

/-- A cell by value; the list: the blocks that it owns. -/
inductive B0 (μ : Mu) (hp : HF) : List Nat → AV → Value → Prop
  | d {a : AV} {v : Value} (h : DR μ a v) : B0 μ hp [] a v
  | ow {b cap ty sz : Nat} {xs : List (List AV)} {cur : Array Value} (h : ∃ fz, hp b = some (.cells cur ty fz) ∧ OkFz false cur.size fz) (hm : μ b = none) (hc : xs.length ≤ cap) (hs : cap * sz = cur.size) (hr : RowD μ sz xs cur) :
      B0 μ hp [b] (.ow false ty sz xs) (.slice (some ⟨b, 0, none⟩) xs.length cap)
  | own {ty sz : Nat} : B0 μ hp [] (.ow true ty sz []) (.slice none 0 0)
inductive B0s (μ : Mu) (hp : HF) : List Nat → List AV → List Value → Prop
  | nil : B0s μ hp [] [] []
  | cons {F F' : List Nat} {a : AV} {as : List AV} {v : Value} {vs : List Value} (h : B0 μ hp F a v) (k : B0s μ hp F' as vs) : B0s μ hp (F ++ F') (a :: as) (v :: vs)
/-- A value or an object by value; the second list: the pointers to the objects. -/
inductive B1 (μ : Mu) (hp : HF) : List Nat → List Value → AV → Value → Prop
  | c {F : List Nat} {a : AV} {v : Value} (h : B0 μ hp F a v) : B1 μ hp F [] a v
  | ob {b ty : Nat} {F : List Nat} {cs : List AV} {cur : Array Value} (h : hp b = some (.cells cur ty (0, 0))) (hm : μ b = none) (hc : B0s μ hp F cs cur.toList) :
      B1 μ hp (b :: F) [.pointer (some ⟨b, 0, none⟩)] (.ob ty cs) (.pointer (some ⟨b, 0, none⟩))
inductive B1s (μ : Mu) (hp : HF) : List Nat → List Value → List AV → List Value → Prop
  | nil : B1s μ hp [] [] [] []
  | cons {F F' : List Nat} {G G' : List Value} {a : AV} {as : List AV} {v : Value} {vs : List Value} (h : B1 μ hp F G a v) (k : B1s μ hp F' G' as vs) : B1s μ hp (F ++ F') (G ++ G') (a :: as) (v :: vs)
inductive B2 (μ : Mu) (hp : HF) : List Nat → List Value → AV → Value → Prop
  | o {F : List Nat} {G : List Value} {a : AV} {v : Value} (h : B1 μ hp F G a v) : B2 μ hp F G a v
  | agg {F : List Nat} {G : List Value} {cs : List AV} {vs : List Value} (h : B1s μ hp F G cs vs) : B2 μ hp F G (.agg cs) (.agg vs.toArray)
  | clo {F : List Nat} {G : List Value} {f : FuncId} {first caps : List AV} {fs cs : List Value} (h1 : DRs μ first fs) (h : B1s μ hp F G caps cs) : B2 μ hp F G (.clo f first caps) (.func (.func f) fs.toArray cs.toArray)
inductive B2s (μ : Mu) (hp : HF) : List Nat → List Value → List AV → List Value → Prop
  | nil : B2s μ hp [] [] [] []
  | cons {F F' : List Nat} {G G' : List Value} {a : AV} {as : List AV} {v : Value} {vs : List Value} (h : B2 μ hp F G a v) (k : B2s μ hp F' G' as vs) : B2s μ hp (F ++ F') (G ++ G') (a :: as) (v :: vs)

section len
variable {μ : Mu} {hp : HF} {F : List Nat} {G : List Value} {as : List AV} {vs : List Value}
theorem B0s.len (h : B0s μ hp F as vs) : vs.length = as.length := by
  induction h with
  | nil => rfl
  | cons _ _ ih => simp [ih]
theorem B1s.len (h : B1s μ hp F G as vs) : vs.length = as.length := by
  induction h with
  | nil => rfl
  | cons _ _ ih => simp [ih]
theorem B2s.len (h : B2s μ hp F G as vs) : vs.length = as.length := by
  induction h with
  | nil => rfl
  | cons _ _ ih => simp [ih]
end len

/-- The blocks that a store owns. -/
def Own (σ : Store) (ρ : Rho) (b : Nat) : Prop := ∃ l rb k, ρ l = some rb ∧ σ[l]? = some k ∧ k.mode = 1 ∧ rb.ph = false ∧ rb.b = b

structure Imp (E : Env) (μ : Mu) (ρ : Rho) (σ : Store) (w : World) (F : List Nat) (ρ' : Rho) (σ' : Store) : Prop where
  rho : RhoLe ρ ρ'
  app : ∃ τ, σ' = σ ++ τ
  dom : ∀ l rb, ρ' l = some rb → ρ l = some rb ∨ (σ.length ≤ l ∧ l < σ'.length ∧ (rb.ph = true ∨ rb.b ∈ F))
  sr : SR E μ ρ' σ' w
  own : ∀ b, Own σ' ρ' b → Own σ ρ b ∨ b ∈ F

/-- What is taken in: it may be changed, and nobody else owns it. -/
structure Free (E : Env) (ρ : Rho) (σ : Store) (F : List Nat) : Prop where
  nodup : F.Nodup
  not : ∀ b ∈ F, ¬ Own σ ρ b
  may : ∀ b ∈ F, E.D b ∨ E.w0.heap.size ≤ b

section
variable {E : Env} {μ : Mu} {ρ ρ' ρ'' : Rho} {σ σ' σ'' : Store} {w : World} {F F' : List Nat}

theorem Imp.refl (h : SR E μ ρ σ w) : Imp E μ ρ σ w [] ρ σ := ⟨RhoLe.refl ρ, ⟨[], by simp⟩, fun _ _ h => .inl h, h, fun _ h => .inl h⟩
theorem Imp.len (h : Imp E μ ρ σ w F ρ' σ') : σ.length ≤ σ'.length := by
  obtain ⟨τ, e⟩ := h.app
  rw [e]; simp
theorem Imp.trans (h : Imp E μ ρ σ w F ρ' σ') (k : Imp E μ ρ' σ' w F' ρ'' σ'') : Imp E μ ρ σ w (F ++ F') ρ'' σ'' := by
  have hl := h.len
  have hl' := k.len
  refine ⟨h.rho.trans k.rho, ?_, fun l rb hr => ?_, k.sr, fun b hb => ?_⟩
  · obtain ⟨τ, e⟩ := h.app
    obtain ⟨τ', e'⟩ := k.app
    exact ⟨τ ++ τ', by rw [e', e, List.append_assoc]⟩
  · rcases k.dom l rb hr with h1 | ⟨h1, h2, h3⟩
    · rcases h.dom l rb h1 with h4 | ⟨h4, h5, h6⟩
      · exact .inl h4
      · exact .inr ⟨h4, Nat.lt_of_lt_of_le h5 hl', h6.imp id fun h => by simp [h]⟩
    · exact .inr ⟨Nat.le_trans hl h1, h2, h3.imp id fun h => by simp [h]⟩
  · rcases k.own b hb with h1 | h1
    · rcases h.own b h1 with h2 | h2
      · exact .inl h2
      · exact .inr (by simp [h2])
    · exact .inr (by simp [h1])
theorem Imp.fresh (h : Imp E μ ρ σ w F ρ' σ') {m : Nat} (hf : FreshTo ρ σ.length m) : FreshTo ρ' σ'.length m := fun l h1 h2 => by
  cases e : ρ' l with
  | none => rfl
  | some rb =>
    rcases h.dom l rb e with h3 | ⟨_, h3, _⟩
    · rw [hf l (Nat.le_trans h.len h1) h2] at h3; cases h3
    · omega
theorem Free.left (h : Free E ρ σ (F ++ F')) : Free E ρ σ F :=
  ⟨(List.nodup_append.1 h.nodup).1, fun b hb => h.not b (by simp [hb]), fun b hb => h.may b (by simp [hb])⟩
theorem Free.right (h : Free E ρ σ (F ++ F')) (k : Imp E μ ρ σ w F ρ' σ') : Free E ρ' σ' F' := by
  obtain ⟨_, h2, h3⟩ := List.nodup_append.1 h.nodup
  refine ⟨h2, fun b hb ho => ?_, fun b hb => h.may b (by simp [hb])⟩
  rcases k.own b ho with h4 | h4
  · exact h.not b (by simp [hb]) h4
  · exact h3 b h4 b hb rfl

theorem Imp.add (hs : SR E μ ρ σ w) (hf : Fresh ρ σ) (k : Blk) (rb : RB) (hb : BlkR μ (rhoAdd ρ σ.length rb) w k rb) (hm : k.mode = 1) (hF : Free E ρ σ F) (hp : rb.ph = true ∨ rb.b ∈ F) : Imp E μ ρ σ w F (rhoAdd ρ σ.length rb) (σ ++ [k]) := by
  obtain ⟨h1, h2⟩ := hs.add hf k rb hb fun _ hph => ⟨hF.may _ (hp.resolve_left (by rw [hph]; decide)), fun l rb' k' hl hk hm1 hp1 he => hF.not _ (hp.resolve_left (by rw [hph]; decide)) ⟨l, rb', k', hl, hk, hm1, hp1, he⟩⟩
  refine ⟨h1, ⟨_, rfl⟩, fun l r hl => ?_, h2, fun b hb => ?_⟩
  · rcases rhoAdd_cases hl with ⟨h3, h4⟩ | ⟨_, h3⟩
    · subst h4; exact .inr ⟨by omega, by simp; omega, hp⟩
    · exact .inl h3
  · obtain ⟨l, r, kk, e1, e2, e3, e4, e5⟩ := hb
    rcases rhoAdd_cases e1 with ⟨h3, h4⟩ | ⟨h3, h4⟩
    · subst h4
      exact .inr (e5 ▸ hp.resolve_left (by rw [e4]; decide))
    · rcases get_app e2 with ⟨h5, h6⟩ | ⟨h5, _⟩
      · exact .inl ⟨l, r, kk, h4, h6, e3, e4, e5⟩
      · exact absurd h5 h3

theorem impC_app {c a : AV} (h : impC σ c = some (a, σ')) : ∃ τ, σ' = σ ++ τ := by
  unfold impC at h
  split at h
  all_goals first | (cases h; done) | (simp only [Option.some.injEq, Prod.mk.injEq] at h; first | exact ⟨[], by rw [List.append_nil, h.2]⟩ | exact ⟨_, h.2.symm⟩)
theorem impCs_app : ∀ {cs as : List AV} {σ σ' : Store}, impCs σ cs = some (as, σ') → ∃ τ, σ' = σ ++ τ
  | [], as, σ, σ', h => by
    simp only [impCs, Option.some.injEq, Prod.mk.injEq] at h
    exact ⟨[], by rw [List.append_nil, h.2]⟩
  | c :: cs, as, σ, σ', h => by
    rw [impCs] at h
    split at h
    · cases h
    · rename_i x y hx
      split at h
      · cases h
      · rename_i z t hz
        simp only [Option.some.injEq, Prod.mk.injEq] at h
        obtain ⟨τ1, e1⟩ := impC_app hx
        obtain ⟨τ2, e2⟩ := impCs_app hz
        exact ⟨τ1 ++ τ2, by rw [← h.2, e2, e1, List.append_assoc]⟩
theorem app_len {σ σ' : Store} (h : ∃ τ, σ' = σ ++ τ) : σ.length ≤ σ'.length := by
  obtain ⟨τ, e⟩ := h
  rw [e]; simp

/-- Taking in a cell. -/
theorem impC_sound {c a : AV} {v : Value} {m : Nat} (hs : SR E μ ρ σ w) (hb : B0 μ (hf w) F c v) (hF : Free E ρ σ F) (hfr : FreshTo ρ σ.length m) (h : impC σ c = some (a, σ')) (hm : σ'.length ≤ m) :
    ∃ ρ', Imp E μ ρ σ w F ρ' σ' ∧ CR μ ρ' a v := by
  cases hb with
  | d hd =>
    have : a = c ∧ σ' = σ := by
      cases hd with
      | v hx => simp only [impC, Option.some.injEq, Prod.mk.injEq] at h; exact ⟨h.1.symm, h.2.symm⟩
      | lst => simp only [impC, Option.some.injEq, Prod.mk.injEq] at h; exact ⟨h.1.symm, h.2.symm⟩
      | ep => simp only [impC, Option.some.injEq, Prod.mk.injEq] at h; exact ⟨h.1.symm, h.2.symm⟩
      | clo => cases h
    obtain ⟨e1, e2⟩ := this
    subst e1; subst e2
    exact ⟨ρ, .refl hs, .d hd⟩
  | @ow b cap ty sz xs cur h1 h2 h3 h4 h5 =>
    simp only [impC, Option.some.injEq, Prod.mk.injEq] at h
    obtain ⟨e1, e2⟩ := h
    subst e1; subst e2
    refine ⟨rhoAdd ρ σ.length ⟨b, cur.size, sz, xs.length, false⟩, Imp.add hs (hfr _ (Nat.le_refl _) (by simp at hm; omega)) _ _ ⟨rfl, rfl, ?_, fun e => (by cases e), fun e => (by cases e), fun _ => ⟨cur, rfl, fun _ => h5, fun e => (by cases e), .inl ⟨rfl, h1, h2⟩⟩⟩ rfl hF (.inr (by simp)), ?_⟩
    · show xs.length * sz ≤ cur.size
      rw [← h4]; exact Nat.mul_le_mul_right _ h3
    · exact .sl (rhoAdd_same _ _ _) rfl (.inl (by simp)) rfl (by simp) h3 (by simpa using h4)
  | @own ty sz =>
    simp only [impC, Option.some.injEq, Prod.mk.injEq] at h
    obtain ⟨e1, e2⟩ := h
    subst e1; subst e2
    exact ⟨rhoAdd ρ σ.length ⟨0, 0, sz, 0, true⟩, Imp.add hs (hfr _ (Nat.le_refl _) (by simp at hm; omega)) _ _ ⟨rfl, rfl, by simp, fun _ => ⟨rfl, rfl⟩, fun e => (by cases e), fun e => (by cases e)⟩ rfl hF (.inl rfl),
      .sln (rhoAdd_same _ _ _) rfl rfl (fun n e => by cases e)⟩

theorem CRs.app {as as' : List AV} {vs vs' : List Value} (h : CRs μ ρ as vs) (k : CRs μ ρ as' vs') : CRs μ ρ (as ++ as') (vs ++ vs') := by
  refine ⟨by simp [h.1, k.1], fun i u x hu hx => ?_⟩
  rcases Nat.lt_or_ge i as.length with h1 | h1
  · rw [List.getElem?_append_left h1] at hu
    rw [List.getElem?_append_left (by rw [h.1]; exact h1)] at hx
    exact h.2 i u x hu hx
  · rw [List.getElem?_append_right h1] at hu
    rw [List.getElem?_append_right (by rw [h.1]; exact h1), h.1] at hx
    exact k.2 _ u x hu hx

theorem impCs_sound : ∀ {cs as : List AV} {vs : List Value} {F : List Nat} {ρ : Rho} {σ σ' : Store} {m : Nat}, SR E μ ρ σ w → B0s μ (hf w) F cs vs → Free E ρ σ F → FreshTo ρ σ.length m → impCs σ cs = some (as, σ') → σ'.length ≤ m →
    ∃ ρ', Imp E μ ρ σ w F ρ' σ' ∧ CRs μ ρ' as vs
  | [], as, vs, F, ρ, σ, σ', m, hs, hb, hF, hfr, h, hm => by
    cases hb
    simp only [impCs, Option.some.injEq, Prod.mk.injEq] at h
    obtain ⟨e1, e2⟩ := h
    subst e1; subst e2
    exact ⟨ρ, .refl hs, CRs.nil⟩
  | c :: cs, as, vs, F, ρ, σ, σ', m, hs, hb, hF, hfr, h, hm => by
    cases hb with
    | cons hb1 hb2 =>
      rw [impCs] at h
      split at h
      · cases h
      · rename_i c' σ1 h1
        split at h
        · cases h
        · rename_i cs' σ2 h2
          simp only [Option.some.injEq, Prod.mk.injEq] at h
          obtain ⟨e1, e2⟩ := h
          subst e1; subst e2
          have hle : σ1.length ≤ σ2.length := app_len (impCs_app h2)
          obtain ⟨ρ1, i1, r1⟩ := impC_sound hs hb1 hF.left hfr h1 (Nat.le_trans hle hm)
          obtain ⟨ρ2, i2, r2⟩ := impCs_sound i1.sr hb2 (hF.right i1) (i1.fresh hfr) h2 hm
          exact ⟨ρ2, i1.trans i2, CRs.cons (r1.mono (MuLe.refl μ) i2.rho) r2⟩
end
end Go.Ev
