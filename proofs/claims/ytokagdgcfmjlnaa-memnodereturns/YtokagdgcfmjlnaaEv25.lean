/- Renumbering a state's blocks and dropping slots. -/
import Derived.Test.YtokagdgcfmjlnaaEv24
set_option linter.all false
namespace Go.Ev

theorem memN_mem {l : Nat} : ∀ (vs : List Nat), memN l vs = true ↔ l ∈ vs
  | [] => by simp [memN]
  | m :: r => by
    rw [memN, Bool.or_eq_true, memN_mem r, List.mem_cons]
    constructor
    · rintro (h | h)
      · exact .inl (Nat.eq_of_beq_eq_true h)
      · exact .inr h
    · rintro (h | h)
      · exact .inl (by rw [h, Nat.beq_refl])
      · exact .inr h
theorem idxN_get {l : Nat} : ∀ (vs : List Nat), memN l vs = true → vs[idxN l vs]? = some l
  | [], h => by cases h
  | m :: r, h => by
    simp only [idxN]
    cases e : Nat.beq l m with
    | true => have := Nat.eq_of_beq_eq_true e; subst this; rfl
    | false =>
      simp only [cond_false, List.getElem?_cons_succ]
      refine idxN_get r ?_
      rw [memN, e] at h
      exact h

theorem nodup_snoc {l : Nat} {vs : List Nat} (h : vs.Nodup) (hl : memN l vs = false) : (vs ++ [l]).Nodup := by
  rw [List.nodup_append]
  refine ⟨h, by simp, fun a ha b hb e => ?_⟩
  simp at hb; subst hb; subst e
  rw [(memN_mem vs).2 ha] at hl; cases hl
theorem foldl_nodup {α : Type} {f : List Nat → α → List Nat} (hf : ∀ vs a, vs.Nodup → (f vs a).Nodup) : ∀ (l : List α) (vs : List Nat), vs.Nodup → (l.foldl f vs).Nodup
  | [], _, h => h
  | a :: l, vs, h => foldl_nodup hf l _ (hf vs a h)
theorem visitN_nodup (σ : Store) : ∀ (n : Nat) (vs : List Nat) (a : AV), vs.Nodup → (visitN σ n vs a).Nodup
  | 0, vs, a, h => h
  | n + 1, vs, a, h => by
    have ih := fun vs a h => visitN_nodup σ n vs a h
    have snoc : ∀ l, (bif memN l vs then vs else vs ++ [l]).Nodup := fun l => by
      cases e : memN l vs with
      | true => exact h
      | false => exact nodup_snoc h e
    have grow : ∀ l (x : List Nat), (memN l vs = false → x.Nodup) → (bif memN l vs then vs else x).Nodup := fun l x hx => by
      cases e : memN l vs with
      | true => exact h
      | false => exact hx e
    cases a with
    | sl b l off cut => exact snoc l
    | px l j m i =>
      refine grow l _ fun e => ?_
      split
      · exact foldl_nodup ih _ _ (nodup_snoc h e)
      · exact nodup_snoc h e
    | ptr l i j =>
      refine grow l _ fun e => ?_
      split
      · rename_i k _
        cases k.obj with
        | true => exact foldl_nodup ih _ _ (nodup_snoc h e)
        | false => exact nodup_snoc h e
      · exact nodup_snoc h e
    | clo f first caps => exact foldl_nodup ih _ _ (foldl_nodup ih _ _ h)
    | agg cs => exact foldl_nodup ih _ _ h
    | tup cs => exact foldl_nodup ih _ _ h
    | _ => exact h

def rhoN (vs : List Nat) (ρ : Rho) : Rho := fun i => (vs[i]?).bind ρ
theorem rhoN_some {vs : List Nat} {ρ : Rho} {i : Nat} {rb : RB} (h : rhoN vs ρ i = some rb) : ∃ l, vs[i]? = some l ∧ ρ l = some rb := by
  unfold rhoN at h
  cases e : vs[i]? with
  | none => rw [e] at h; cases h
  | some l => rw [e] at h; exact ⟨l, rfl, h⟩
theorem rhoN_idx {vs : List Nat} {ρ : Rho} {l : Nat} {rb : RB} (hm : memN l vs = true) (h : ρ l = some rb) : rhoN vs ρ (idxN l vs) = some rb := by
  unfold rhoN
  rw [idxN_get vs hm]
  exact h

section
variable {μ : Mu} {ρ : Rho} {vs : List Nat}

theorem ren_cr : ∀ (n : Nat) {a : AV} {v : Value}, CR μ ρ a v → CR μ (rhoN vs ρ) (renN vs n a) v
  | 0, a, v, h => .un h.one
  | n + 1, a, v, h => by
    have hlist : ∀ (l : List AV) (ws : List Value), ws.length = l.length → (∀ (k : Nat) (u : AV) (v : Value), l[k]? = some u → ws[k]? = some v → CR μ ρ u v) →
        ws.length = (l.map (renN vs n)).length ∧ ∀ (k : Nat) (u : AV) (v : Value), (l.map (renN vs n))[k]? = some u → ws[k]? = some v → CR μ (rhoN vs ρ) u v := fun l ws h1 h2 => by
      refine ⟨by simpa using h1, fun k u v hu hv => ?_⟩
      simp only [List.getElem?_map, Option.map_eq_some_iff] at hu
      obtain ⟨x, hx, e⟩ := hu
      subst e
      exact ren_cr n (h2 k x v hx hv)
    cases h with
    | d hd =>
      cases hd with
      | v hx => exact .d (.v hx)
      | lst vals h1 h2 h3 h4 h5 h6 => exact .d (.lst vals h1 h2 h3 h4 h5 h6)
      | ep vals h1 h2 => exact .d (.ep vals h1 h2)
      | clo h1 h2 h3 h4 =>
        obtain ⟨a1, a2⟩ := hlist _ _ h1 (fun k u v hu hv => .d (h3 k u v hu hv))
        obtain ⟨b1, b2⟩ := hlist _ _ h2 (fun k u v hu hv => .d (h4 k u v hu hv))
        exact .clo a1 b1 a2 b2
    | @ptr l i j rb h1 h2 =>
      simp only [renN]
      cases e : memN l vs with
      | false => exact .un rfl
      | true => exact .ptr (rhoN_idx e h1) h2
    | @px l j m i rb h1 h2 h3 =>
      simp only [renN]
      cases e : memN l vs with
      | false => exact .un rfl
      | true => exact .px (rhoN_idx e h1) h2 h3
    | @sl l off cut rb x len cap h1 h2 h3 h4 h5 h6 h7 =>
      simp only [renN]
      cases e : memN l vs with
      | false => exact .un rfl
      | true => exact .sl (rhoN_idx e h1) h2 h3 h4 h5 h6 h7
    | @sln l off cut rb h1 h2 h3 h4 =>
      simp only [renN]
      cases e : memN l vs with
      | false => exact .un rfl
      | true => exact .sln (rhoN_idx e h1) h2 h3 h4
    | clo h1 h2 h3 h4 =>
      obtain ⟨a1, a2⟩ := hlist _ _ h1 h3
      obtain ⟨b1, b2⟩ := hlist _ _ h2 h4
      exact .clo a1 b1 a2 b2
    | un h => exact .un h

theorem ren_vr : ∀ (n : Nat) {a : AV} {v : Value}, VR μ ρ a v → VR μ (rhoN vs ρ) (renN vs n a) v
  | 0, a, v, h => .un
  | n + 1, a, v, h => by
    cases h with
    | c hx => exact .c (ren_cr (n + 1) hx)
    | agg hx =>
      refine .agg ⟨by simpa using hx.1, fun k u v hu hv => ?_⟩
      simp only [List.getElem?_map, Option.map_eq_some_iff] at hu
      obtain ⟨x, h1, e⟩ := hu
      subst e
      exact ren_cr n (hx.2 k x v h1 hv)
    | tup hl hx =>
      refine .tup (by simpa using hl) fun k u v hu hv => ?_
      simp only [List.getElem?_map, Option.map_eq_some_iff] at hu
      obtain ⟨x, h1, e⟩ := hu
      subst e
      exact ren_vr n (hx k x v h1 hv)
    | un => exact .un
    | sk => exact .sk

theorem ren_blk {w : World} {k : Blk} {rb : RB} (h : BlkR μ ρ w k rb) : BlkR μ (rhoN vs ρ) w (renB vs k) rb := by
  unfold renB
  cases ho : k.obj with
  | false =>
    simp only [cond_false]
    exact ⟨h.sz, h.n, h.fit, h.ph, h.one, fun hp => let ⟨cur, hc⟩ := h.live hp; ⟨cur, hc.size, hc.rowD, fun e => (by rw [ho] at e; cases e), hc.at_⟩⟩
  | true =>
    simp only [cond_true]
    obtain ⟨h1, h2⟩ := h.one ho
    refine ⟨h.sz, by rw [h.n, h1]; rfl, h.fit, fun hp => (by have := (h.ph hp).2; rw [ho] at this; cases this), fun _ => ⟨rfl, h2⟩, fun hp => ?_⟩
    obtain ⟨cur, hc⟩ := h.live hp
    refine ⟨cur, hc.size, fun e => (by cases e), fun _ => ?_, ho ▸ hc.at_⟩
    obtain ⟨r1, r2⟩ := hc.rowO ho
    obtain ⟨x, hx⟩ : ∃ x, k.xs = [x] := List.length_eq_one_iff.1 h1
    have hl : lget k.xs 0 = x := by rw [hx]; rfl
    refine ⟨fun e he => ?_, fun i e j c he hc' => ?_⟩
    · simp only [List.mem_singleton] at he
      subst he
      rw [List.length_map, hl]
      exact r1 x (by rw [hx]; simp)
    · cases i with
      | succ i => simp at he
      | zero =>
        simp at he; subst he
        rw [hl, List.getElem?_map, Option.map_eq_some_iff] at hc'
        obtain ⟨y, hy, e⟩ := hc'
        subst e
        obtain ⟨u, hu1, hu2⟩ := r2 0 x j y (by rw [hx]; rfl) hy
        exact ⟨u, hu1, ren_cr 6 hu2⟩
end

theorem lookF_app (A B : List (Nat × AV)) (g : Nat → AV) (hA : ∀ p ∈ A, p.2 = g p.1) (t : Nat) : lookF (A ++ B) t = g t ∨ lookF (A ++ B) t = lookF B t := by
  induction A with
  | nil => exact .inr rfl
  | cons p A ih =>
    obtain ⟨i, a⟩ := p
    simp only [List.cons_append, lookF]
    cases e : Nat.beq i t with
    | true =>
      have := Nat.eq_of_beq_eq_true e
      subst this
      exact .inl (hA (i, a) (by simp))
    | false => exact ih fun p hp => hA p (by simp [hp])
theorem lookF_filter (p : Nat → Bool) (t : Nat) : ∀ (fr : List (Nat × AV)), lookF (fr.filter fun q => p q.1) t = if p t = true then lookF fr t else .un
  | [] => by simp [lookF]
  | (i, a) :: fr => by
    have ih := lookF_filter p t fr
    simp only [List.filter_cons, lookF]
    by_cases hi : p i = true
    · rw [if_pos hi]
      simp only [lookF]
      cases e : Nat.beq i t with
      | true => have := Nat.eq_of_beq_eq_true e; subst this; rw [if_pos hi]; rfl
      | false => exact ih
    · rw [if_neg hi, ih]
      cases e : Nat.beq i t with
      | true => have := Nat.eq_of_beq_eq_true e; subst this; rw [if_neg hi, if_neg hi]
      | false => rfl
theorem lookF_map (g : AV → AV) (hg : g .un = .un) (t : Nat) : ∀ (fr : List (Nat × AV)), lookF (fr.map fun p => (p.1, g p.2)) t = g (lookF fr t)
  | [] => hg.symm
  | (i, a) :: fr => by
    simp only [List.map_cons, lookF, lookF_map g hg t fr]
    cases Nat.beq i t <;> rfl

/-- The canonical form stands for the same. -/
theorem canon_sound {E : Env} {G : Nat → Value} {n : Nat} (keep : List Nat) {s : St} {a : Act} {w : World} (h : Rel E .zero G n (lookF s.fr) s.bl a w) : Rel E .zero G n (lookF (canon keep s).fr) (canon keep s).bl a w := by
  obtain ⟨⟨μ, ρ, hf, hs, hd, _⟩, _, hsz, hdf⟩ := h
  generalize hfr : (keep.filterMap fun t => match lookF s.fr t with | .un => none | a => some (t, a)) ++ (s.fr.filter fun p => Nat.ble 1000000 p.1) = fr
  generalize hvs : fr.foldl (fun vs p => visitN s.bl 6 vs p.2) [] = vs
  have hnd : vs.Nodup := by
    rw [← hvs]
    exact foldl_nodup (fun vs p h => visitN_nodup s.bl 6 vs p.2 h) fr [] List.nodup_nil
  have hcan : canon keep s = ⟨fr.map fun p => (p.1, renN vs 6 p.2), vs.map fun l => match s.bl[l]? with | some k => renB vs k | none => ⟨0, 0, 0, false, []⟩⟩ := by
    subst hvs; subst hfr; rfl
  rw [hcan]
  have hlook : ∀ t, lookF fr t = .un ∨ lookF fr t = lookF s.fr t := fun t => by
    rw [← hfr]
    have hA : ∀ p ∈ (keep.filterMap fun t => match lookF s.fr t with | .un => none | a => some (t, a)), p.2 = lookF s.fr p.1 := fun p hp => by
      obtain ⟨t', _, ht'⟩ := List.mem_filterMap.1 hp
      split at ht'
      · cases ht'
      · injection ht' with ht'
        subst ht'; rfl
    rcases lookF_app _ (s.fr.filter fun p => Nat.ble 1000000 p.1) (lookF s.fr) hA t with h | h
    · exact .inr h
    · rw [h, lookF_filter (fun i => Nat.ble 1000000 i)]
      split
      · exact .inr rfl
      · exact .inl rfl
  have hget : ∀ i k, (vs.map fun l => match s.bl[l]? with | some k => renB vs k | none => ⟨0, 0, 0, false, []⟩)[i]? = some k → k.mode ≠ 0 → ∃ l k0, vs[i]? = some l ∧ s.bl[l]? = some k0 ∧ k = renB vs k0 := fun i k hk hm => by
    rw [List.getElem?_map, Option.map_eq_some_iff] at hk
    obtain ⟨l, h1, h2⟩ := hk
    split at h2
    · rename_i k0 h3
      exact ⟨l, k0, h1, h3, h2.symm⟩
    · subst h2; exact absurd rfl hm
  have hmode : ∀ k, (renB vs k).mode = k.mode := fun k => by unfold renB; cases k.obj <;> rfl
  refine ⟨⟨μ, rhoN vs ρ, fun t => ?_, ⟨fun i rb k hi hk hm => ?_, fun i i' rb rb' k k' hi hi' hk hk' hm hm' hp hp' he => ?_, fun i rb k hi hk hm hp => ?_, hs.imm, hs.base⟩, fun i rb hi => ?_, .zero _ _ _⟩, Nat.zero_le _, hsz, hdf⟩
  · show VR μ (rhoN vs ρ) (lookF (fr.map fun p => (p.1, renN vs 6 p.2)) t) _
    rw [lookF_map (renN vs 6) rfl]
    rcases hlook t with h | h
    · rw [h]; exact .un
    · rw [h]; exact ren_vr 6 (hf t)
  · obtain ⟨l, k0, h1, h2, h3⟩ := hget i k hk hm
    obtain ⟨l', h4, h5⟩ := rhoN_some hi
    rw [h1] at h4; injection h4 with h4; subst h4
    subst h3
    rw [hmode] at hm
    exact ren_blk (hs.blk l rb k0 h5 h2 hm)
  · obtain ⟨l, k0, h1, h2, h3⟩ := hget i k hk (by omega)
    obtain ⟨l2, h4, h5⟩ := rhoN_some hi
    rw [h1] at h4; injection h4 with h4; subst h4
    obtain ⟨l', k0', h1', h2', h3'⟩ := hget i' k' hk' (by omega)
    obtain ⟨l2', h4', h5'⟩ := rhoN_some hi'
    rw [h1'] at h4'; injection h4' with h4'; subst h4'
    subst h3; subst h3'
    rw [hmode] at hm hm'
    have := hs.inj l l' rb rb' k0 k0' h5 h5' h2 h2' hm hm' hp hp' he
    subst this
    exact (List.getElem?_inj (List.getElem?_eq_some_iff.1 h1).1 hnd).1 (h1.trans h1'.symm)
  · obtain ⟨l, k0, h1, h2, h3⟩ := hget i k hk (by omega)
    obtain ⟨l2, h4, h5⟩ := rhoN_some hi
    rw [h1] at h4; injection h4 with h4; subst h4
    subst h3
    rw [hmode] at hm
    exact hs.ownD l rb k0 h5 h2 hm hp
  · obtain ⟨l, h1, _⟩ := rhoN_some hi
    simpa using (List.getElem?_eq_some_iff.1 h1).1
end Go.Ev
