/- Taking in objects, values, arguments. -/
import Derived.Test.YtokagdgcfmjlnaaEv28
set_option linter.all false
namespace Go.Ev

def ptr0 (l : Nat) : AV := .ptr l 0 0
/-- Slots beside one another. -/
def VRs (μ : Mu) (ρ : Rho) (as : List AV) (vs : List Value) : Prop := vs.length = as.length ∧ ∀ (k : Nat) (u : AV) (v : Value), as[k]? = some u → vs[k]? = some v → VR μ ρ u v
theorem VRs.nil (μ : Mu) (ρ : Rho) : VRs μ ρ [] [] := ⟨rfl, fun k u v hu => by simp at hu⟩
theorem VRs.cons {μ : Mu} {ρ : Rho} {a : AV} {v : Value} {as : List AV} {vs : List Value} (h : VR μ ρ a v) (k : VRs μ ρ as vs) : VRs μ ρ (a :: as) (v :: vs) := by
  refine ⟨by simp [k.1], fun i u x hu hx => ?_⟩
  cases i with
  | zero => simp at hu hx; subst hu; subst hx; exact h
  | succ i => exact k.2 i u x (by simpa using hu) (by simpa using hx)
theorem VRs.mono {μ μ' : Mu} {ρ ρ' : Rho} (h : MuLe μ μ') (hr : RhoLe ρ ρ') {as : List AV} {vs : List Value} (k : VRs μ ρ as vs) : VRs μ' ρ' as vs :=
  ⟨k.1, fun i u x hu hx => (k.2 i u x hu hx).mono h hr⟩

theorem DRs.tail {μ : Mu} {a : AV} {v : Value} {as : List AV} {vs : List Value} (h : DRs μ (a :: as) (v :: vs)) : DR μ a v ∧ DRs μ as vs :=
  ⟨h.2 0 a v rfl rfl, by simpa using h.1, fun k u x hu hx => h.2 (k + 1) u x (by simpa using hu) (by simpa using hx)⟩
theorem DRs.b0s {μ : Mu} {hp : HF} : ∀ {as : List AV} {vs : List Value}, DRs μ as vs → B0s μ hp [] as vs
  | [], vs, h => by
    have : vs = [] := List.eq_nil_of_length_eq_zero (by rw [h.1]; rfl)
    subst this; exact .nil
  | a :: as, [], h => by have := h.1; simp at this
  | a :: as, v :: vs, h => .cons (F := []) (.d h.tail.1) (DRs.b0s h.tail.2)
theorem DRs.b1s {μ : Mu} {hp : HF} : ∀ {as : List AV} {vs : List Value}, DRs μ as vs → B1s μ hp [] [] as vs
  | [], vs, h => by
    have : vs = [] := List.eq_nil_of_length_eq_zero (by rw [h.1]; rfl)
    subst this; exact .nil
  | a :: as, [], h => by have := h.1; simp at this
  | a :: as, v :: vs, h => .cons (F := []) (G := []) (.c (.d h.tail.1)) (DRs.b1s h.tail.2)

section
variable {E : Env} {μ : Mu} {ρ ρ' ρ'' : Rho} {σ σ' σ'' : Store} {w : World} {F F' : List Nat} {G G' : List Value}

theorem imp1_app {c a : AV} {r : List Nat} (h : imp1 σ c = some (a, σ', r)) : ∃ τ, σ' = σ ++ τ := by
  unfold imp1 at h
  split at h
  · split at h
    · cases h
    · rename_i x y hx
      simp only [Option.some.injEq, Prod.mk.injEq] at h
      obtain ⟨τ, e⟩ := impCs_app hx
      exact ⟨τ ++ _, by rw [← h.2.1, e, List.append_assoc]⟩
  · split at h
    · cases h
    · rename_i x y hx
      simp only [Option.some.injEq, Prod.mk.injEq] at h
      obtain ⟨τ, e⟩ := impC_app hx
      exact ⟨τ, by rw [← h.2.1, e]⟩
theorem imps_app : ∀ {cs as : List AV} {σ σ' : Store} {r : List Nat}, imps σ cs = some (as, σ', r) → ∃ τ, σ' = σ ++ τ
  | [], as, σ, σ', r, h => by
    simp only [imps, Option.some.injEq, Prod.mk.injEq] at h
    exact ⟨[], by rw [List.append_nil, h.2.1]⟩
  | c :: cs, as, σ, σ', r, h => by
    rw [imps] at h
    split at h
    · cases h
    · rename_i x y r1 hx
      split at h
      · cases h
      · rename_i z t r2 hz
        simp only [Option.some.injEq, Prod.mk.injEq] at h
        obtain ⟨τ1, e1⟩ := imp1_app hx
        obtain ⟨τ2, e2⟩ := imps_app hz
        exact ⟨τ1 ++ τ2, by rw [← h.2.1, e2, e1, List.append_assoc]⟩
theorem imp_app {c a : AV} {r : List Nat} (h : imp σ c = some (a, σ', r)) : ∃ τ, σ' = σ ++ τ := by
  unfold imp at h
  split at h
  · split at h
    · cases h
    · rename_i x y z hx
      simp only [Option.some.injEq, Prod.mk.injEq] at h
      rw [← h.2.1]; exact imps_app hx
  · split at h
    · cases h
    · rename_i x y z hx
      simp only [Option.some.injEq, Prod.mk.injEq] at h
      rw [← h.2.1]; exact imps_app hx
  · exact imp1_app h
theorem impArgs_app : ∀ {cs as : List AV} {σ σ' : Store} {r : List Nat}, impArgs σ cs = some (as, σ', r) → ∃ τ, σ' = σ ++ τ
  | [], as, σ, σ', r, h => by
    simp only [impArgs, Option.some.injEq, Prod.mk.injEq] at h
    exact ⟨[], by rw [List.append_nil, h.2.1]⟩
  | c :: cs, as, σ, σ', r, h => by
    rw [impArgs] at h
    split at h
    · cases h
    · rename_i x y r1 hx
      split at h
      · cases h
      · rename_i z t r2 hz
        simp only [Option.some.injEq, Prod.mk.injEq] at h
        obtain ⟨τ1, e1⟩ := imp_app hx
        obtain ⟨τ2, e2⟩ := impArgs_app hz
        exact ⟨τ1 ++ τ2, by rw [← h.2.1, e2, e1, List.append_assoc]⟩

theorem imp1_sound {c a : AV} {v : Value} {r : List Nat} {m : Nat} (hs : SR E μ ρ σ w) (hb : B1 μ (hf w) F G c v) (hF : Free E ρ σ F) (hfr : FreshTo ρ σ.length m) (h : imp1 σ c = some (a, σ', r)) (hm : σ'.length ≤ m) :
    ∃ ρ', Imp E μ ρ σ w F ρ' σ' ∧ CR μ ρ' a v ∧ CRs μ ρ' (r.map ptr0) G := by
  cases hb with
  | c h0 =>
    have : ∃ b, impC σ c = some (b, σ') ∧ a = b ∧ r = [] := by
      cases h0 with
      | d hd =>
        cases hd with
        | clo => cases h
        | _ => simp only [imp1, impC, Option.some.injEq, Prod.mk.injEq] at h ⊢; exact ⟨_, ⟨rfl, h.2.1⟩, h.1.symm, h.2.2.symm⟩
      | _ => simp only [imp1, impC, Option.some.injEq, Prod.mk.injEq] at h ⊢; exact ⟨_, ⟨rfl, h.2.1⟩, h.1.symm, h.2.2.symm⟩
    obtain ⟨b, h1, e1, e2⟩ := this
    subst e1; subst e2
    obtain ⟨ρ', i1, r1⟩ := impC_sound hs h0 hF hfr h1 hm
    exact ⟨ρ', i1, r1, CRs.nil⟩
  | @ob b ty F cs cur h1 h2 h3 =>
    simp only [imp1] at h
    split at h
    · cases h
    · rename_i cs' σ1 hx
      simp only [Option.some.injEq, Prod.mk.injEq] at h
      obtain ⟨e1, e2, e3⟩ := h
      subst e1; subst e2; subst e3
      have hF' : Free E ρ σ F := Free.right (F := [b]) (μ := μ) (w := w) (ρ := ρ) (σ := σ) hF ⟨RhoLe.refl ρ, ⟨[], by simp⟩, fun _ _ h => .inl h, hs, fun _ h => .inl h⟩
      have hl1 : σ1.length < m := by simp at hm; omega
      obtain ⟨ρ1, i1, r1⟩ := impCs_sound hs h3 hF' hfr hx (by omega)
      have hlen := h3.len
      have hFb : Free E ρ1 σ1 [b] := by
        refine ⟨by simp, fun x hx ho => ?_, fun x hx => ?_⟩
        · simp at hx; subst hx
          rcases i1.own x ho with h4 | h4
          · exact hF.not x (by simp) h4
          · exact (List.nodup_cons.1 hF.nodup).1 h4
        · simp at hx; subst hx
          exact hF.may x (by simp)
      have i2 := Imp.add (F := [b]) i1.sr (i1.fresh hfr σ1.length (Nat.le_refl _) hl1) ⟨1, ty, cs.length, true, [cs']⟩ ⟨b, cur.size, cs.length, 1, false⟩ ⟨rfl, rfl, ?_, fun e => (by cases e), fun _ => ⟨rfl, ?_⟩, fun _ => ⟨cur, rfl, fun e => (by cases e), fun _ => ?_, .inl ⟨rfl, ⟨_, h1, .inl rfl⟩, h2⟩⟩⟩ rfl hFb (.inr (by simp))
      · have hp : CR μ (rhoAdd ρ1 σ1.length ⟨b, cur.size, cs.length, 1, false⟩) (.ptr σ1.length 0 0) (.pointer (some ⟨b, 0, none⟩)) := by
          have : CR μ (rhoAdd ρ1 σ1.length ⟨b, cur.size, cs.length, 1, false⟩) (.ptr σ1.length 0 0) (.pointer (some ⟨b, 0 * cs.length + 0, none⟩)) := .ptr (rhoAdd_same _ _ _) rfl
          simpa using this
        refine ⟨_, ?_, hp, CRs.cons hp CRs.nil⟩
        have := i1.trans i2
        refine ⟨this.rho, this.app, fun l rb hl => (this.dom l rb hl).imp id fun ⟨x, y, z⟩ => ⟨x, y, z.imp id fun h => ?_⟩, this.sr, fun x hx => (this.own x hx).imp id fun h => ?_⟩
        · simp at h ⊢; exact h.symm
        · simp at h ⊢; exact h.symm
      · show 1 * cs.length ≤ cur.size
        simp at hlen; omega
      · simpa using hlen
      · have hcs' : cs'.length = cs.length := by rw [← r1.1, hlen]
        refine ⟨fun e he => by simp at he; subst he; exact hcs', fun i e j c he hc => ?_⟩
        cases i with
        | succ i => simp at he
        | zero =>
          simp at he; subst he
          have hj : j < cs'.length := (List.getElem?_eq_some_iff.1 hc).1
          have hj' : j < cur.size := by rw [hcs'] at hj; simp at hlen; omega
          refine ⟨cur[j], by simp [hj'], (r1.2 j c _ hc (by simp [hj'])).mono (MuLe.refl μ) ?_⟩
          exact rhoAdd_le (fun r e => by rw [i1.fresh hfr σ1.length (Nat.le_refl _) hl1] at e; cases e)

theorem imps_sound : ∀ {cs as : List AV} {vs : List Value} {r : List Nat} {F : List Nat} {G : List Value} {ρ : Rho} {σ σ' : Store} {m : Nat}, SR E μ ρ σ w → B1s μ (hf w) F G cs vs → Free E ρ σ F → FreshTo ρ σ.length m → imps σ cs = some (as, σ', r) → σ'.length ≤ m →
    ∃ ρ', Imp E μ ρ σ w F ρ' σ' ∧ CRs μ ρ' as vs ∧ CRs μ ρ' (r.map ptr0) G
  | [], as, vs, r, F, G, ρ, σ, σ', m, hs, hb, hF, hfr, h, hm => by
    cases hb
    simp only [imps, Option.some.injEq, Prod.mk.injEq] at h
    obtain ⟨e1, e2, e3⟩ := h
    subst e1; subst e2; subst e3
    exact ⟨ρ, .refl hs, CRs.nil, CRs.nil⟩
  | c :: cs, as, vs, r, F, G, ρ, σ, σ', m, hs, hb, hF, hfr, h, hm => by
    cases hb with
    | cons hb1 hb2 =>
      rw [imps] at h
      split at h
      · cases h
      · rename_i c' σ1 r1 h1
        split at h
        · cases h
        · rename_i cs' σ2 r2 h2
          simp only [Option.some.injEq, Prod.mk.injEq] at h
          obtain ⟨e1, e2, e3⟩ := h
          subst e1; subst e2; subst e3
          have hle : σ1.length ≤ σ2.length := app_len (imps_app h2)
          obtain ⟨ρ1, i1, a1, b1⟩ := imp1_sound hs hb1 hF.left hfr h1 (Nat.le_trans hle hm)
          obtain ⟨ρ2, i2, a2, b2⟩ := imps_sound i1.sr hb2 (hF.right i1) (i1.fresh hfr) h2 hm
          refine ⟨ρ2, i1.trans i2, CRs.cons (a1.mono (MuLe.refl μ) i2.rho) a2, ?_⟩
          rw [List.map_append]
          exact (b1.mono (MuLe.refl μ) i2.rho).append b2

theorem imp_sound {c a : AV} {v : Value} {r : List Nat} {m : Nat} (hs : SR E μ ρ σ w) (hb : B2 μ (hf w) F G c v) (hF : Free E ρ σ F) (hfr : FreshTo ρ σ.length m) (h : imp σ c = some (a, σ', r)) (hm : σ'.length ≤ m) :
    ∃ ρ', Imp E μ ρ σ w F ρ' σ' ∧ VR μ ρ' a v ∧ CRs μ ρ' (r.map ptr0) G := by
  cases hb with
  | o h1 =>
    have one : imp1 σ c = some (a, σ', r) → ∃ ρ', Imp E μ ρ σ w F ρ' σ' ∧ VR μ ρ' a v ∧ CRs μ ρ' (r.map ptr0) G := fun h => by
      obtain ⟨ρ', i, x, y⟩ := imp1_sound hs h1 hF hfr h hm
      exact ⟨ρ', i, .c x, y⟩
    cases h1 with
    | ob h2 h3 h4 => exact one h
    | c h2 =>
      cases h2 with
      | ow h3 h4 h5 h6 h7 => exact one h
      | own => exact one h
      | d hd =>
        cases hd with
        | clo e1 e2 e3 e4 =>
          simp only [imp] at h
          split at h
          · cases h
          · rename_i bs σ1 r1 hx
            simp only [Option.some.injEq, Prod.mk.injEq] at h
            obtain ⟨x1, x2, x3⟩ := h
            subst x1; subst x2; subst x3
            obtain ⟨ρ', i, x, y⟩ := imps_sound hs (DRs.b1s ⟨e2, e4⟩) hF hfr hx hm
            exact ⟨ρ', i, .c (.clo e1 x.1 (fun k u v hu hv => .d (e3 k u v hu hv)) x.2), y⟩
        | _ => exact one h
  | agg h1 =>
    simp only [imp] at h
    split at h
    · cases h
    · rename_i bs σ1 r1 hx
      simp only [Option.some.injEq, Prod.mk.injEq] at h
      obtain ⟨x1, x2, x3⟩ := h
      subst x1; subst x2; subst x3
      obtain ⟨ρ', i, x, y⟩ := imps_sound hs h1 hF hfr hx hm
      exact ⟨ρ', i, .agg x, y⟩
  | clo e1 h1 =>
    simp only [imp] at h
    split at h
    · cases h
    · rename_i bs σ1 r1 hx
      simp only [Option.some.injEq, Prod.mk.injEq] at h
      obtain ⟨x1, x2, x3⟩ := h
      subst x1; subst x2; subst x3
      obtain ⟨ρ', i, x, y⟩ := imps_sound hs h1 hF hfr hx hm
      exact ⟨ρ', i, .c (.clo e1.1 x.1 (fun k u v hu hv => .d (e1.2 k u v hu hv)) x.2), y⟩

theorem impArgs_sound : ∀ {cs as : List AV} {vs : List Value} {r : List Nat} {F : List Nat} {G : List Value} {ρ : Rho} {σ σ' : Store} {m : Nat}, SR E μ ρ σ w → B2s μ (hf w) F G cs vs → Free E ρ σ F → FreshTo ρ σ.length m → impArgs σ cs = some (as, σ', r) → σ'.length ≤ m →
    ∃ ρ', Imp E μ ρ σ w F ρ' σ' ∧ VRs μ ρ' as vs ∧ CRs μ ρ' (r.map ptr0) G
  | [], as, vs, r, F, G, ρ, σ, σ', m, hs, hb, hF, hfr, h, hm => by
    cases hb
    simp only [impArgs, Option.some.injEq, Prod.mk.injEq] at h
    obtain ⟨e1, e2, e3⟩ := h
    subst e1; subst e2; subst e3
    exact ⟨ρ, .refl hs, VRs.nil _ _, CRs.nil⟩
  | c :: cs, as, vs, r, F, G, ρ, σ, σ', m, hs, hb, hF, hfr, h, hm => by
    cases hb with
    | cons hb1 hb2 =>
      rw [impArgs] at h
      split at h
      · cases h
      · rename_i c' σ1 r1 h1
        split at h
        · cases h
        · rename_i cs' σ2 r2 h2
          simp only [Option.some.injEq, Prod.mk.injEq] at h
          obtain ⟨e1, e2, e3⟩ := h
          subst e1; subst e2; subst e3
          have hle : σ1.length ≤ σ2.length := app_len (impArgs_app h2)
          obtain ⟨ρ1, i1, a1, b1⟩ := imp_sound hs hb1 hF.left hfr h1 (Nat.le_trans hle hm)
          obtain ⟨ρ2, i2, a2, b2⟩ := impArgs_sound i1.sr hb2 (hF.right i1) (i1.fresh hfr) h2 hm
          refine ⟨ρ2, i1.trans i2, VRs.cons (a1.mono (MuLe.refl μ) i2.rho) a2, ?_⟩
          rw [List.map_append]
          exact (b1.mono (MuLe.refl μ) i2.rho).append b2
end
end Go.Ev
