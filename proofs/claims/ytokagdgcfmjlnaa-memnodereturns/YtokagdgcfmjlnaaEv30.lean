/- Freezing, with what is frozen; lending for reading. -/
import Derived.Test.YtokagdgcfmjlnaaEv29
set_option linter.all false
namespace Go.Ev

section
variable {E : Env} {μ : Mu} {ρ : Rho} {σ : Store} {w : World}

theorem own_set {l : Nat} {k k' : Blk} (hk : σ[l]? = some k) (h : k'.mode = 1 → k.mode = 1) {b : Nat} (ho : Own (σ.set l k') ρ b) : Own σ ρ b := by
  obtain ⟨m, rb, k1, h1, h2, h3, h4, h5⟩ := ho
  rcases get_set h2 with ⟨e1, e2⟩ | ⟨_, h2⟩
  · subst e1; subst e2
    exact ⟨m, rb, k, h1, hk, h h3, h4, h5⟩
  · exact ⟨m, rb, k1, h1, h2, h3, h4, h5⟩

/-- A cell becomes data; what is frozen by it. -/
theorem frz_soundX (hs : SR E μ ρ σ w) {c c' : AV} {σ' : Store} {v : Value} (hv : CR μ ρ c v) (h : frz σ c = some (c', σ')) :
    ∃ μ', MuLe μ μ' ∧ SR E μ' ρ σ' w ∧ DR μ' c' v ∧ σ'.length = σ.length ∧ (∀ b o, μ' b = some o → μ b = some o ∨ Own σ ρ b) ∧ ∀ b, Own σ' ρ b → Own σ ρ b := by
  have same : ∀ {x : AV}, CR μ ρ x v → (c', σ') = (x, σ) → DR μ x v → ∃ μ', MuLe μ μ' ∧ SR E μ' ρ σ' w ∧ DR μ' c' v ∧ σ'.length = σ.length ∧ (∀ b o, μ' b = some o → μ b = some o ∨ Own σ ρ b) ∧ ∀ b, Own σ' ρ b → Own σ ρ b := fun _ e hd => by
    simp only [Prod.mk.injEq] at e
    obtain ⟨h1, h2⟩ := e; subst h1; subst h2
    exact ⟨μ, MuLe.refl μ, hs, hd, rfl, fun _ _ h => .inl h, fun _ h => h⟩
  unfold frz at h
  split at h
  · injection h with h
    cases hv with
    | d hx => exact same (.d hx) h.symm hx
  · injection h with h
    cases hv with
    | d hx => exact same (.d hx) h.symm hx
  · rename_i n l off cut
    split at h
    · cases h
    · rename_i b hb
      cases hc : (Nat.beq b.mode 0 || b.obj) with
      | true => rw [hc] at h; cases h
      | false =>
        rw [hc] at h
        simp only [cond] at h
        injection h with h; injection h with h1 h2; subst h1; subst h2
        simp only [Bool.or_eq_false_iff] at hc
        have hm : b.mode ≠ 0 := fun e => by rw [e] at hc; exact absurd hc.1 (by decide)
        have hrb : ∃ rb, ρ l = some rb := by
          cases hv with
          | d hx => cases hx
          | sl hl => exact ⟨_, hl⟩
          | sln hl => exact ⟨_, hl⟩
        obtain ⟨rb, hl⟩ := hrb
        obtain ⟨μ', hle, hs', hinfo⟩ := hs.freezeX hl hb hm
        have hlt : l < σ.length := (List.getElem?_eq_some_iff.1 hb).1
        obtain ⟨_, _, _, _, _, hd⟩ := (hv.mono hle (RhoLe.refl ρ)).slView hs' (k := { b with mode := 2 }) (by rw [List.getElem?_set_self hlt]) (by simp) hc.2
        exact ⟨μ', hle, hs', hd rfl, by simp, fun x o hx => (hinfo x o hx).imp id fun ⟨e1, e2, e3⟩ => ⟨l, rb, b, hl, hb, e1, e2, e3.symm⟩, fun x hx => own_set hb (fun e => by cases e) hx⟩
  · cases h
theorem frzL_soundX : ∀ {cs : List AV} {vs : List Value} {cs' : List AV} {σ σ' : Store} {μ : Mu}, SR E μ ρ σ w → CRs μ ρ cs vs → frzL σ cs = some (cs', σ') →
    ∃ μ', MuLe μ μ' ∧ SR E μ' ρ σ' w ∧ DRs μ' cs' vs ∧ σ'.length = σ.length ∧ (∀ b o, μ' b = some o → μ b = some o ∨ Own σ ρ b) ∧ ∀ b, Own σ' ρ b → Own σ ρ b
  | [], vs, cs', σ, σ', μ, hs, hv, h => by
    simp only [frzL, Option.some.injEq, Prod.mk.injEq] at h
    obtain ⟨h1, h2⟩ := h; subst h1; subst h2
    exact ⟨μ, MuLe.refl μ, hs, ⟨hv.1, fun k u v hu => by simp at hu⟩, rfl, fun _ _ h => .inl h, fun _ h => h⟩
  | c :: cs, [], cs', σ, σ', μ, hs, hv, h => by have := hv.1; simp at this
  | c :: cs, v :: vs, cs', σ, σ', μ, hs, hv, h => by
    rw [frzL] at h
    split at h
    · cases h
    · rename_i c1 σ1 h1
      split at h
      · cases h
      · rename_i cs1 σ2 h2
        simp only [Option.some.injEq, Prod.mk.injEq] at h
        obtain ⟨e1, e2⟩ := h; subst e1; subst e2
        obtain ⟨μ1, a1, a2, a3, a4, a5, a6⟩ := frz_soundX hs (hv.2 0 c v rfl rfl) h1
        have hvt : CRs μ ρ cs vs := ⟨by simpa using hv.1, fun k u x hu hx => hv.2 (k + 1) u x (by simpa using hu) (by simpa using hx)⟩
        obtain ⟨μ2, b1, b2, b3, b4, b5, b6⟩ := frzL_soundX a2 (hvt.mono a1 (RhoLe.refl ρ)) h2
        refine ⟨μ2, a1.trans b1, b2, ⟨by simp [b3.1], fun k u x hu hx => ?_⟩, b4.trans a4, fun b o hb => ?_, fun b hb => a6 b (b6 b hb)⟩
        · cases k with
          | zero => simp at hu hx; subst hu; subst hx; exact a3.mono b1
          | succ k => exact b3.2 k u x (by simpa using hu) (by simpa using hx)
        · rcases b5 b o hb with h3 | h3
          · exact a5 b o h3
          · exact .inr (a6 b h3)

theorem SR.nowhere (h : SR E μ ρ σ w) {l : Nat} (k' : Blk) (hl : ρ l = none) : SR E μ ρ (σ.set l k') w := by
  have hg : ∀ m rb k, ρ m = some rb → (σ.set l k')[m]? = some k → σ[m]? = some k := fun m rb k hm hk => by
    rcases get_set hk with ⟨e, _⟩ | ⟨_, hk⟩
    · subst e; rw [hl] at hm; cases hm
    · exact hk
  exact ⟨fun m rb k hm hk => h.blk m rb k hm (hg m rb k hm hk), fun m m' rb rb' k k2 hm hm' hk hk' => h.inj m m' rb rb' k k2 hm hm' (hg _ _ _ hm hk) (hg _ _ _ hm' hk'), fun m rb k hm hk => h.ownD m rb k hm (hg _ _ _ hm hk), h.imm, h.base⟩

theorem freezeAll_get : ∀ (L : List Nat) (σ : Store) (l : Nat), (freezeAll σ L).length = σ.length ∧ ((freezeAll σ L)[l]? = σ[l]? ∨ ∃ k, σ[l]? = some k ∧ k.mode ≠ 0 ∧ (freezeAll σ L)[l]? = some { k with mode := 2 })
  | [], σ, l => ⟨rfl, .inl rfl⟩
  | m :: L, σ, l => by
    rw [freezeAll]
    cases hm : σ[m]? with
    | none => exact freezeAll_get L σ l
    | some k =>
      simp only
      cases h0 : Nat.beq k.mode 0 with
      | true => exact freezeAll_get L σ l
      | false =>
        simp only [cond_false]
        obtain ⟨h1, h2⟩ := freezeAll_get L (σ.set m { k with mode := 2 }) l
        refine ⟨by rw [h1]; simp, ?_⟩
        have hk0 : k.mode ≠ 0 := fun e => by rw [e] at h0; cases h0
        by_cases e : m = l
        · subst e
          have hlt := (List.getElem?_eq_some_iff.1 hm).1
          rw [List.getElem?_set_self hlt] at h2
          refine .inr ⟨k, hm, hk0, ?_⟩
          rcases h2 with h2 | ⟨k1, h2, _, h3⟩
          · exact h2
          · injection h2 with h2; subst h2; exact h3
        · rw [List.getElem?_set_ne e] at h2
          exact h2
/-- What is named is data then. -/
theorem freezeAll_in : ∀ (L : List Nat) (σ : Store) (l : Nat) (k : Blk), l ∈ L → σ[l]? = some k → k.mode ≠ 0 → (freezeAll σ L)[l]? = some { k with mode := 2 }
  | [], _, _, _, h, _, _ => by cases h
  | m :: L, σ, l, k, h, hk, hm => by
    rw [freezeAll]
    by_cases e : m = l
    · subst e
      simp only [hk, nbeq_false hm, cond_false]
      have hlt := (List.getElem?_eq_some_iff.1 hk).1
      obtain ⟨_, h2⟩ := freezeAll_get L (σ.set m { k with mode := 2 }) m
      rw [List.getElem?_set_self hlt] at h2
      rcases h2 with h2 | ⟨k1, h2, _, h3⟩
      · exact h2
      · injection h2 with h2; subst h2; exact h3
    · have hl : l ∈ L := by
        rcases List.mem_cons.1 h with h | h
        · exact absurd h.symm e
        · exact h
      cases hm' : σ[m]? with
      | none => exact freezeAll_in L σ l k hl hk hm
      | some k1 =>
        simp only
        cases h0 : Nat.beq k1.mode 0 with
        | true => exact freezeAll_in L σ l k hl hk hm
        | false => exact freezeAll_in L _ l k hl (by rw [cond_false, List.getElem?_set_ne e]; exact hk) hm

theorem freezeAll_sound : ∀ (L : List Nat) {σ : Store} {μ : Mu}, SR E μ ρ σ w → ∃ μ', MuLe μ μ' ∧ SR E μ' ρ (freezeAll σ L) w ∧ (∀ b o, μ' b = some o → μ b = some o ∨ ∃ l ∈ L, ∃ rb k, ρ l = some rb ∧ σ[l]? = some k ∧ k.mode = 1 ∧ rb.ph = false ∧ rb.b = b) ∧ ∀ b, Own (freezeAll σ L) ρ b → Own σ ρ b
  | [], σ, μ, h => ⟨μ, MuLe.refl μ, h, fun _ _ h => .inl h, fun _ h => h⟩
  | m :: L, σ, μ, h => by
    rw [freezeAll]
    cases hm : σ[m]? with
    | none =>
      obtain ⟨μ', h1, h2, h3, h4⟩ := freezeAll_sound L h
      exact ⟨μ', h1, h2, fun b o hb => (h3 b o hb).imp id fun ⟨l, hl, r⟩ => ⟨l, by simp [hl], r⟩, h4⟩
    | some k =>
      simp only
      cases h0 : Nat.beq k.mode 0 with
      | true =>
        obtain ⟨μ', h1, h2, h3, h4⟩ := freezeAll_sound L h
        exact ⟨μ', h1, h2, fun b o hb => (h3 b o hb).imp id fun ⟨l, hl, r⟩ => ⟨l, by simp [hl], r⟩, h4⟩
      | false =>
        simp only [cond_false]
        have hk0 : k.mode ≠ 0 := fun e => by rw [e] at h0; cases h0
        have hstep : ∃ μ1, MuLe μ μ1 ∧ SR E μ1 ρ (σ.set m { k with mode := 2 }) w ∧ ∀ b o, μ1 b = some o → μ b = some o ∨ ∃ rb, ρ m = some rb ∧ k.mode = 1 ∧ rb.ph = false ∧ b = rb.b := by
          cases hr : ρ m with
          | none => exact ⟨μ, MuLe.refl μ, h.nowhere _ hr, fun _ _ h => .inl h⟩
          | some rb =>
            obtain ⟨μ1, a1, a2, a3⟩ := h.freezeX hr hm hk0
            exact ⟨μ1, a1, a2, fun b o hb => (a3 b o hb).imp id fun h => ⟨rb, rfl, h⟩⟩
        obtain ⟨μ1, a1, a2, a3⟩ := hstep
        obtain ⟨μ', h1, h2, h3, h4⟩ := freezeAll_sound L a2
        refine ⟨μ', a1.trans h1, h2, fun b o hb => ?_, fun b hb => own_set hm (fun e => by cases e) (h4 b hb)⟩
        rcases h3 b o hb with h5 | ⟨l, hl, rb, k1, e1, e2, e3, e4, e5⟩
        · rcases a3 b o h5 with h6 | ⟨rb, e1, e2, e3, e4⟩
          · exact .inl h6
          · exact .inr ⟨m, by simp, rb, k, e1, hm, e2, e3, e4.symm⟩
        · rcases get_set e2 with ⟨_, e⟩ | ⟨_, e⟩
          · subst e; cases e3
          · exact .inr ⟨l, by simp [hl], rb, k1, e1, e, e3, e4, e5⟩
end

theorem mapM_some {α β : Type} {f : α → Option β} : ∀ {l : List α} {r : List β}, l.mapM f = some r → r.length = l.length ∧ ∀ (k : Nat) (y : β), r[k]? = some y → ∃ x, l[k]? = some x ∧ f x = some y
  | [], r, h => by
    simp at h; subst h
    exact ⟨rfl, fun k y hy => by simp at hy⟩
  | x :: l, r, h => by
    rw [List.mapM_cons] at h
    simp only [Option.bind_eq_bind, Option.bind_eq_some_iff, Option.pure_def, Option.some.injEq] at h
    obtain ⟨y, h1, ys, h2, h3⟩ := h
    subst h3
    obtain ⟨h4, h5⟩ := mapM_some h2
    refine ⟨by simp [h4], fun k z hz => ?_⟩
    cases k with
    | zero => simp at hz; subst hz; exact ⟨x, rfl, h1⟩
    | succ k => simpa using h5 k z (by simpa using hz)

theorem flat_sub {L : List Nat} {f : AV → List Nat} {cs : List AV} (h : ∀ l ∈ cs.flatMap f, l ∈ L) {k : Nat} {c : AV} (hc : cs[k]? = some c) : ∀ l ∈ f c, l ∈ L := fun l hl => h l (List.mem_flatMap.2 ⟨c, List.mem_of_getElem? hc, hl⟩)

section
variable {E : Env} {μ : Mu} {ρ : Rho} {σ σf : Store} {w : World} {L : List Nat}

/-- What is lent for reading, all of it frozen. -/
theorem expN_dr (hs : SR E μ ρ σf w) (hL : ∀ l ∈ L, ∀ k, σ[l]? = some k → k.mode ≠ 0 → σf[l]? = some { k with mode := 2 }) : ∀ (n m : Nat) {a b : AV} {v : Value}, n ≤ m → CR μ ρ a v → expN σ n a = some b → (∀ l ∈ refsN σ m a, l ∈ L) → DR μ b v
  | 0, _, _, _, _, _, _, h, _ => by cases h
  | n + 1, 0, _, _, _, hnm, _, _, _ => by omega
  | n + 1, m + 1, a, b, v, hnm, hv, h, hr => by
    have hlist : ∀ (l r : List AV) (ws : List Value), l.mapM (expN σ n) = some r → ws.length = l.length → (∀ (k : Nat) (u : AV) (v : Value), l[k]? = some u → ws[k]? = some v → CR μ ρ u v) → (∀ x ∈ l.flatMap (refsN σ m), x ∈ L) →
        r.length = l.length ∧ ∀ (k : Nat) (u : AV) (v : Value), r[k]? = some u → ws[k]? = some v → DR μ u v := fun l r ws hm h1 h2 h3 => by
      obtain ⟨e1, e2⟩ := mapM_some hm
      refine ⟨e1, fun k u v hu hv => ?_⟩
      obtain ⟨x, hx, hf⟩ := e2 k u hu
      exact expN_dr hs hL n m (by omega) (h2 k x v hx hv) hf (flat_sub h3 hx)
    cases hv with
    | d hd =>
      cases hd with
      | v hx =>
        simp only [expN, hx, cond_true, Option.some.injEq] at h
        subst h; exact .v hx
      | lst vals h1 h2 h3 h4 h5 h6 =>
        simp only [expN, Option.some.injEq] at h
        subst h; exact .lst vals h1 h2 h3 h4 h5 h6
      | ep vals h1 h2 =>
        simp only [expN, Option.some.injEq] at h
        subst h; exact .ep vals h1 h2
      | clo h1 h2 h3 h4 =>
        simp only [expN] at h
        split at h
        · rename_i x y hx hy
          injection h with h; subst h
          simp only [refsN, List.mem_append] at hr
          obtain ⟨a1, a2⟩ := hlist _ _ _ hx h1 (fun k u v hu hv => .d (h3 k u v hu hv)) (fun l hl => hr l (.inl hl))
          obtain ⟨b1, b2⟩ := hlist _ _ _ hy h2 (fun k u v hu hv => .d (h4 k u v hu hv)) (fun l hl => hr l (.inr hl))
          exact .clo (h1.trans a1.symm) (h2.trans b1.symm) a2 b2
        · cases h
    | @ptr l i j rb h1 h2 =>
      simp only [expN] at h
      split at h
      · cases h
      · rename_i k hk
        cases h0 : Nat.beq k.mode 0 with
        | true => rw [h0] at h; cases h
        | false =>
          have hm0 : k.mode ≠ 0 := fun e => by rw [e] at h0; cases h0
          rw [h0] at h
          simp only [cond_false] at h
          have hlL : l ∈ L := hr l (by simp only [refsN, hk]; cases k.obj <;> simp)
          have hf := hL l hlL k hk hm0
          have hb := hs.blk l rb _ h1 hf (by simp)
          obtain ⟨cur, hc⟩ := hb.live h2
          obtain ⟨ty, fz, hmu⟩ : ∃ ty fz, μ rb.b = some (.cells cur ty fz) := by
            rcases hc.at_ with ⟨e, _⟩ | ⟨_, h⟩
            · simp at e
            · exact h
          cases ho : k.obj with
          | true =>
            rw [ho] at h
            simp only [cond_true] at h
            rcases cond_or h with ⟨hi, h⟩ | ⟨_, h⟩
            · have hi := Nat.eq_of_beq_eq_true hi
              subst hi
              split at h
              · cases h
              · rename_i cs hcs
                injection h with h; subst h
                obtain ⟨x, hx⟩ := List.length_eq_one_iff.1 (hb.one ho).1
                have hlx : lget k.xs 0 = x := by
                  have : k.xs = [x] := hx
                  rw [this]; rfl
                rw [hlx] at hcs
                have hrow := hc.rowO ho
                have hx' : k.xs = [x] := hx
                simp only [hx'] at hrow
                have hxl : x.length = cur.size := by rw [hrow.1 x (by simp), hc.size, (hb.one ho).2]
                obtain ⟨a1, a2⟩ := hlist x cs cur.toList hcs (by simp [hxl]) (fun j u v hu hv => by
                  obtain ⟨y, h3, h4⟩ := hrow.2 0 x j u rfl hu
                  rw [Nat.zero_mul, Nat.zero_add] at h3
                  rw [Array.getElem?_toList, h3] at hv
                  injection hv with hv; subst hv; exact h4) (fun y hy => hr y (by simp only [refsN, hk, ho, cond_true, hlx]; exact List.mem_cons_of_mem _ hy))
                have : DR μ (.ep cs j) (.pointer (some ⟨rb.b, 0 + j, none⟩)) := by
                  refine .ep (fun q => (cur[q]?).getD undef) (fun q hq => ?_) (fun q u hu => ?_)
                  · have hq' : q < cur.size := by rw [a1, hxl] at hq; exact hq
                    rw [muCell_at hmu, Nat.zero_add, Array.getElem?_eq_getElem hq']; rfl
                  · have hq : q < cs.length := (List.getElem?_eq_some_iff.1 hu).1
                    have hq' : q < cur.size := by rw [a1, hxl] at hq; exact hq
                    exact a2 q u _ hu (by rw [Array.getElem?_toList, Array.getElem?_eq_getElem hq']; rfl)
                simpa using this
            · cases h
          | false =>
            rw [ho] at h
            simp only [cond_false] at h
            rcases cond_or h with ⟨h1, h⟩ | ⟨_, h⟩
            · simp only [Option.some.injEq] at h
              subst h
              have hrow := hc.rowD ho
              have hsz : rb.sz = 1 := hb.sz.trans (Nat.eq_of_beq_eq_true h1)
              rw [hsz] at hrow
              have hfl : ∀ (xs : List (List AV)), (∀ e ∈ xs, e.length = 1) → ∀ (q : Nat) (u : AV), xs.flatten[q]? = some u → ∃ e : List AV, xs[q]? = some e ∧ e[0]? = some u := by
                intro xs
                induction xs with
                | nil => intro _ q u hu; simp at hu
                | cons e xs ih =>
                  intro he q u hu
                  rw [List.flatten_cons] at hu
                  have h1 := he e (by simp)
                  cases q with
                  | zero =>
                    rw [List.getElem?_append_left (by omega)] at hu
                    exact ⟨e, rfl, hu⟩
                  | succ q =>
                    rw [List.getElem?_append_right (by omega), h1] at hu
                    exact ih (fun e he' => he e (by simp [he'])) q u (by simpa using hu)
              have : DR μ (.ep k.xs.flatten (i + j)) (.pointer (some ⟨rb.b, 0 + (i + j), none⟩)) := by
                refine .ep (fun q => (cur[q]?).getD undef) (fun q hq => ?_) (fun q u hu => ?_)
                · obtain ⟨e, he, hu⟩ := hfl _ hrow.1 q _ (List.getElem?_eq_getElem hq)
                  obtain ⟨y, h3, h4⟩ := hrow.2 q e 0 _ he hu
                  rw [Nat.mul_one, Nat.add_zero] at h3
                  rw [muCell_at hmu, Nat.zero_add, h3]; rfl
                · obtain ⟨e, he, hu'⟩ := hfl _ hrow.1 q _ hu
                  obtain ⟨y, h3, h4⟩ := hrow.2 q e 0 _ he hu'
                  rw [Nat.mul_one, Nat.add_zero] at h3
                  rw [h3]; exact h4
              rw [hsz, Nat.mul_one]
              simpa using this
            simp only [Option.some.injEq] at h
            subst h
            have hrow := hc.rowD ho
            refine .ep (fun q => (cur[i * rb.sz + q]?).getD undef) (fun q hq => ?_) (fun q u hu => ?_)
            · have hi : k.xs[i]? = some (lget k.xs i) := by
                unfold lget at hq ⊢
                cases e : k.xs[i]? with
                | none => simp [List.getD_eq_getElem?_getD, e] at hq
                | some x => simp [List.getD_eq_getElem?_getD, e]
              obtain ⟨y, h3, h4⟩ := hrow.2 i _ q _ hi (List.getElem?_eq_getElem hq)
              rw [muCell_at hmu, h3]; rfl
            · have hq : q < (lget k.xs i).length := (List.getElem?_eq_some_iff.1 hu).1
              have hi : k.xs[i]? = some (lget k.xs i) := by
                unfold lget at hq ⊢
                cases e : k.xs[i]? with
                | none => simp [List.getD_eq_getElem?_getD, e] at hq
                | some x => simp [List.getD_eq_getElem?_getD, e]
              obtain ⟨y, h3, h4⟩ := hrow.2 i _ q _ hi hu
              rw [h3]; exact h4
    | px => simp only [expN] at h; cases h
    | un => simp only [expN] at h; cases h
    | clo h1 h2 h3 h4 =>
      simp only [expN] at h
      split at h
      · rename_i x y hx hy
        injection h with h; subst h
        simp only [refsN, List.mem_append] at hr
        obtain ⟨a1, a2⟩ := hlist _ _ _ hx h1 h3 (fun l hl => hr l (.inl hl))
        obtain ⟨b1, b2⟩ := hlist _ _ _ hy h2 h4 (fun l hl => hr l (.inr hl))
        exact .clo (h1.trans a1.symm) (h2.trans b1.symm) a2 b2
      · cases h
    | @sl l off cut rb x len cap e1 e2 e3 e4 e5 e6 e7 =>
      have hvv : CR μ ρ (.sl false l off cut) (.slice (some x) len cap) := .sl e1 e2 e3 e4 e5 e6 e7
      simp only [expN] at h
      split at h
      · cases h
      · rename_i k hk
        cases h0 : (Nat.beq k.mode 0 || k.obj) with
        | true => rw [h0] at h; cases h
        | false =>
          rw [h0] at h
          simp only [cond_false, Option.some.injEq] at h
          subst h
          obtain ⟨hm0, ho⟩ := blk_mode h0
          have hf := hL l (hr l (by simp [refsN])) k hk hm0
          obtain ⟨_, _, _, _, _, hd⟩ := hvv.slView hs hf (by simp) ho
          exact hd rfl
    | @sln l off cut rb e1 e2 e3 e4 =>
      have hvv : CR μ ρ (.sl true l off cut) (.slice none 0 0) := .sln e1 e2 e3 e4
      simp only [expN] at h
      split at h
      · cases h
      · rename_i k hk
        cases h0 : (Nat.beq k.mode 0 || k.obj) with
        | true => rw [h0] at h; cases h
        | false =>
          rw [h0] at h
          simp only [cond_false, Option.some.injEq] at h
          subst h
          obtain ⟨hm0, ho⟩ := blk_mode h0
          have hf := hL l (hr l (by simp [refsN])) k hk hm0
          obtain ⟨_, _, _, _, _, hd⟩ := hvv.slView hs hf (by simp) ho
          exact hd rfl

theorem expD_b2 (hs : SR E μ ρ σf w) (hL : ∀ l ∈ L, ∀ k, σ[l]? = some k → k.mode ≠ 0 → σf[l]? = some { k with mode := 2 }) {a b : AV} {v : Value} (hv : VR μ ρ a v) (h : expD σ a = some b) (hr : ∀ l ∈ refs σ a, l ∈ L) (hp : HF) : B2 μ hp [] [] b v := by
  unfold expD at h
  unfold refs at hr
  cases hv with
  | c hx => exact .o (.c (.d (expN_dr hs hL 4 5 (by omega) hx h hr)))
  | @agg cs vs hx =>
    simp only [expN] at h
    split at h
    · cases h
    · rename_i cs' hm
      injection h with h; subst h
      obtain ⟨e1, e2⟩ := mapM_some hm
      refine .agg (DRs.b1s ⟨by rw [hx.1, e1], fun k u v hu hv => ?_⟩)
      obtain ⟨x, hx1, hf⟩ := e2 k u hu
      exact expN_dr hs hL 3 4 (by omega) (hx.2 k x v hx1 hv) hf (flat_sub (by simpa only [refsN] using hr) hx1)
  | tup => simp only [expN] at h; cases h
  | un => simp only [expN] at h; cases h
  | sk => simp only [expN, okC, cond_false] at h; cases h
end
end Go.Ev
