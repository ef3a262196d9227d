/- Handing over. -/
import Derived.Test.YtokagdgcfmjlnaaEv30
set_option linter.all false
namespace Go.Ev

structure Exp (E : Env) (μ : Mu) (ρ : Rho) (σ : Store) (w : World) (F : List Nat) (σ' : Store) : Prop where
  sr : SR E μ ρ σ' w
  nodup : F.Nodup
  own : ∀ b ∈ F, Own σ ρ b ∧ ¬ Own σ' ρ b
  sub : ∀ b, Own σ' ρ b → Own σ ρ b
  len : σ'.length = σ.length
  blk : ∀ (l : Nat) (k' : Blk), σ'[l]? = some k' → ∃ k : Blk, σ[l]? = some k ∧ (k' = k ∨ k' = { k with mode := 0 })

/-- An object that was handed over: its block, its pointer, its contents. -/
def RootR (σ : Store) (ρ : Rho) (F : List Nat) (l : Nat) (g : Value) (o : Nat × List AV) : Prop :=
  ∃ rb k, ρ l = some rb ∧ rb.ph = false ∧ σ[l]? = some k ∧ k.mode = 0 ∧ k.obj = true ∧ rb.sz = k.sz ∧ rb.n = 1 ∧ rb.csz = rb.sz ∧ rb.b ∈ F ∧ g = .pointer (some ⟨rb.b, 0, none⟩) ∧ k.ty = o.1 ∧ o.2.length = rb.sz
inductive Roots (σ : Store) (ρ : Rho) (F : List Nat) : List Nat → List Value → List (Nat × List AV) → Prop
  | nil : Roots σ ρ F [] [] []
  | cons {l : Nat} {g : Value} {o : Nat × List AV} {ls : List Nat} {gs : List Value} {os : List (Nat × List AV)} (h : RootR σ ρ F l g o) (k : Roots σ ρ F ls gs os) : Roots σ ρ F (l :: ls) (g :: gs) (o :: os)

def obF : AV → Option (Nat × List AV)
  | .ob ty cs => some (ty, cs)
  | _ => none

section
variable {E : Env} {μ : Mu} {ρ : Rho} {σ σ' σ'' : Store} {w : World} {F F' : List Nat} {G : List Value}

theorem Exp.refl (h : SR E μ ρ σ w) : Exp E μ ρ σ w [] σ := ⟨h, List.nodup_nil, fun b hb => (by cases hb), fun _ h => h, rfl, fun l k' hk => ⟨k', hk, .inl rfl⟩⟩
theorem Exp.trans (h : Exp E μ ρ σ w F σ') (k : Exp E μ ρ σ' w F' σ'') : Exp E μ ρ σ w (F ++ F') σ'' := by
  refine ⟨k.sr, List.nodup_append.2 ⟨h.nodup, k.nodup, fun a ha b hb e => ?_⟩, fun b hb => ?_, fun b hb => h.sub b (k.sub b hb), k.len.trans h.len, fun l k' hk => ?_⟩
  · subst e
    exact (h.own a ha).2 (k.own a hb).1
  · rcases List.mem_append.1 hb with hb | hb
    · exact ⟨(h.own b hb).1, fun ho => (h.own b hb).2 (k.sub b ho)⟩
    · exact ⟨h.sub b (k.own b hb).1, (k.own b hb).2⟩
  · obtain ⟨k1, h1, h2⟩ := k.blk l k' hk
    obtain ⟨k0, h3, h4⟩ := h.blk l k1 h1
    refine ⟨k0, h3, ?_⟩
    rcases h2 with h2 | h2 <;> rcases h4 with h4 | h4
    · exact .inl (h2.trans h4)
    · exact .inr (h2.trans h4)
    · exact .inr (by rw [h2, h4])
    · exact .inr (by rw [h2, h4])
theorem RootR.mono {l : Nat} {g : Value} {o : Nat × List AV} (h : RootR σ ρ F l g o) (k : Exp E μ ρ σ w F' σ') {F'' : List Nat} (hF : ∀ b ∈ F, b ∈ F'') : RootR σ' ρ F'' l g o := by
  obtain ⟨rb, kk, h1, h2, h3, h4, h5, h6, h7, h8, h9, h10, h11, h12⟩ := h
  have hlt : l < σ'.length := by rw [k.len]; exact (List.getElem?_eq_some_iff.1 h3).1
  obtain ⟨k0, e1, e2⟩ := k.blk l _ (List.getElem?_eq_getElem hlt)
  rw [h3] at e1; injection e1 with e1; subst e1
  have hk : σ'[l]? = some kk := by
    rw [List.getElem?_eq_getElem hlt]
    rcases e2 with e2 | e2
    · rw [e2]
    · rw [e2]; cases kk; simp at h4; subst h4; rfl
  exact ⟨rb, kk, h1, h2, hk, h4, h5, h6, h7, h8, hF _ h9, h10, h11, h12⟩
theorem Roots.mono {ls : List Nat} {gs : List Value} {os : List (Nat × List AV)} (h : Roots σ ρ F ls gs os) (k : Exp E μ ρ σ w F' σ') {F'' : List Nat} (hF : ∀ b ∈ F, b ∈ F'') : Roots σ' ρ F'' ls gs os := by
  induction h with
  | nil => exact .nil
  | cons h _ ih => exact .cons (h.mono k hF) ih
theorem Roots.wide {ls : List Nat} {gs : List Value} {os : List (Nat × List AV)} (h : Roots σ ρ F ls gs os) {F'' : List Nat} (hF : ∀ b ∈ F, b ∈ F'') : Roots σ ρ F'' ls gs os := by
  induction h with
  | nil => exact .nil
  | cons h _ ih =>
    obtain ⟨rb, kk, h1, h2, h3, h4, h5, h6, h7, h8, h9, h10⟩ := h
    exact .cons ⟨rb, kk, h1, h2, h3, h4, h5, h6, h7, h8, hF _ h9, h10⟩ ih
theorem Roots.append {ls ls' : List Nat} {gs gs' : List Value} {os os' : List (Nat × List AV)} (h : Roots σ ρ F ls gs os) (k : Roots σ ρ F ls' gs' os') : Roots σ ρ F (ls ++ ls') (gs ++ gs') (os ++ os') := by
  induction h with
  | nil => exact k
  | cons h _ ih => exact .cons h ih

theorem exp_kill (hs : SR E μ ρ σ w) {l : Nat} {rb : RB} {k : Blk} (hl : ρ l = some rb) (hk : σ[l]? = some k) (hm : k.mode = 1) (hp : rb.ph = false) : Exp E μ ρ σ w [rb.b] (σ.set l { k with mode := 0 }) := by
  refine ⟨hs.kill l _ rfl, by simp, fun b hb => ?_, fun b hb => own_set hk (fun e => by cases e) hb, by simp, fun m k' hm' => ?_⟩
  · simp at hb; subst hb
    refine ⟨⟨l, rb, k, hl, hk, hm, hp, rfl⟩, ?_⟩
    rintro ⟨l', rb', k', h1, h2, h3, h4, h5⟩
    rcases get_set h2 with ⟨e1, e2⟩ | ⟨e1, h2⟩
    · subst e2; cases h3
    · exact e1 (hs.inj l' l rb' rb k' k h1 hl h2 hk h3 hm h4 hp h5)
  · rcases get_set hm' with ⟨e1, e2⟩ | ⟨_, h2⟩
    · subst e1; subst e2; exact ⟨k, hk, .inr rfl⟩
    · exact ⟨k', h2, .inl rfl⟩
theorem exp_kill0 (hs : SR E μ ρ σ w) {l : Nat} {k : Blk} (hk : σ[l]? = some k) : Exp E μ ρ σ w [] (σ.set l { k with mode := 0 }) := by
  refine ⟨hs.kill l _ rfl, by simp, fun b hb => (by cases hb), fun b hb => own_set hk (fun e => by cases e) hb, by simp, fun m k' hm' => ?_⟩
  rcases get_set hm' with ⟨e1, e2⟩ | ⟨_, h2⟩
  · subst e1; subst e2; exact ⟨k, hk, .inr rfl⟩
  · exact ⟨k', h2, .inl rfl⟩

theorem expC_sound {c a : AV} {v : Value} (hs : SR E μ ρ σ w) (hv : CR μ ρ c v) (h : expC σ c = some (a, σ')) : ∃ F, B0 μ (hf w) F a v ∧ Exp E μ ρ σ w F σ' := by
  unfold expC at h
  split at h
  · rcases cond_or h with ⟨_, h⟩ | ⟨_, h⟩
    · simp only [Option.some.injEq, Prod.mk.injEq] at h
      obtain ⟨e1, e2⟩ := h; subst e1; subst e2
      cases hv with | d hd => exact ⟨[], .d hd, .refl hs⟩
    · cases h
  · simp only [Option.some.injEq, Prod.mk.injEq] at h
    obtain ⟨e1, e2⟩ := h; subst e1; subst e2
    cases hv with | d hd => exact ⟨[], .d hd, .refl hs⟩
  · rename_i b l off cut
    split at h
    · cases h
    · rename_i k hk
      rcases cond_or h with ⟨h0, h⟩ | ⟨_, h⟩
      · simp only [Option.some.injEq, Prod.mk.injEq] at h
        obtain ⟨e1, e2⟩ := h; subst e1; subst e2
        simp only [Bool.and_eq_true, Bool.not_eq_true'] at h0
        obtain ⟨⟨h1, h2⟩, h3⟩ := h0
        have hm := Nat.eq_of_beq_eq_true h1
        have ho := Nat.eq_of_beq_eq_true h3
        subst ho
        cases hv with
        | d hd => cases hd
        | @sl _ _ _ rb x len cap e1 e2 e3 e4 e5 e6 e7 =>
          have hb := hs.blk l rb k e1 hk (by omega)
          obtain ⟨cur, hc⟩ := hb.live e2
          have hat : Has w rb.b cur k.ty false ∧ μ rb.b = none := by
            rcases hc.at_ with ⟨_, a, b⟩ | ⟨a, _⟩
            · exact ⟨h2 ▸ a, b⟩
            · omega
          refine ⟨[rb.b], ?_, exp_kill hs e1 hk hm e2⟩
          have hx : x = ⟨rb.b, 0, none⟩ := by
            rcases e3 with e3 | ⟨_, e3⟩
            · rw [e3, Nat.zero_mul]
            · omega
          subst hx
          have hrow := hc.rowD h2
          rw [hb.sz] at hrow e7
          have hlen : (cutL k.xs 0 cut).length = len := cutL_len (by rw [e4, hb.n]) (by rw [← hb.n]; exact e5)
          rw [← hlen]
          refine .ow hat.1 hat.2 (by rw [hlen]; exact e6) (by rw [hc.size, ← e7, Nat.zero_add]) ⟨fun e he => hrow.1 e (cutL_mem he), fun i e j c he hc' => ?_⟩
          have := hrow.2 _ e j c (cutL_get he) hc'
          rwa [Nat.zero_add] at this
        | @sln _ _ _ rb e1 e2 e3 e4 =>
          have hb := hs.blk l rb k e1 hk (by omega)
          have hx : k.xs = [] := List.eq_nil_of_length_eq_zero (by rw [← hb.n]; exact e2)
          refine ⟨[], ?_, exp_kill0 hs hk⟩
          rw [hx, cutL_nil]
          exact .own
      · cases h
  · cases h

theorem CRs.tail {a : AV} {v : Value} {as : List AV} {vs : List Value} (h : CRs μ ρ (a :: as) (v :: vs)) : CR μ ρ a v ∧ CRs μ ρ as vs :=
  ⟨h.2 0 a v rfl rfl, by simpa using h.1, fun k u x hu hx => h.2 (k + 1) u x (by simpa using hu) (by simpa using hx)⟩
theorem expCs_sound : ∀ {cs as : List AV} {vs : List Value} {σ σ' : Store}, SR E μ ρ σ w → CRs μ ρ cs vs → expCs σ cs = some (as, σ') → ∃ F, B0s μ (hf w) F as vs ∧ Exp E μ ρ σ w F σ' ∧ as.length = cs.length
  | [], as, vs, σ, σ', hs, hv, h => by
    simp only [expCs, Option.some.injEq, Prod.mk.injEq] at h
    obtain ⟨e1, e2⟩ := h; subst e1; subst e2
    have : vs = [] := List.eq_nil_of_length_eq_zero (by rw [hv.1]; rfl)
    subst this
    exact ⟨[], .nil, .refl hs, rfl⟩
  | c :: cs, as, [], σ, σ', hs, hv, h => by have := hv.1; simp at this
  | c :: cs, as, v :: vs, σ, σ', hs, hv, h => by
    rw [expCs] at h
    split at h
    · cases h
    · rename_i c1 σ1 h1
      split at h
      · cases h
      · rename_i cs1 σ2 h2
        simp only [Option.some.injEq, Prod.mk.injEq] at h
        obtain ⟨e1, e2⟩ := h; subst e1; subst e2
        obtain ⟨F1, b1, x1⟩ := expC_sound hs hv.tail.1 h1
        obtain ⟨F2, b2, x2, hl⟩ := expCs_sound x1.sr hv.tail.2 h2
        exact ⟨F1 ++ F2, .cons b1 b2, x1.trans x2, by simp [hl]⟩

theorem expOb_sound {l : Nat} {b : AV} {v : Value} (hs : SR E μ ρ σ w) (hv : CR μ ρ (.ptr l 0 0) v) (h : expOb σ l = some (b, σ')) :
    ∃ F ty cs, b = .ob ty cs ∧ B1 μ (hf w) F [v] b v ∧ Exp E μ ρ σ w F σ' ∧ RootR σ' ρ F l v (ty, cs) := by
  unfold expOb at h
  split at h
  · cases h
  · rename_i k hk
    rcases cond_or h with ⟨h0, h⟩ | ⟨_, h⟩
    · simp only [Bool.and_eq_true] at h0
      obtain ⟨h1, ho⟩ := h0
      have hm := Nat.eq_of_beq_eq_true h1
      split at h
      · cases h
      · rename_i cs σ1 hx
        simp only [Option.some.injEq, Prod.mk.injEq] at h
        obtain ⟨e1, e2⟩ := h; subst e1; subst e2
        cases hv with
        | d hd => cases hd
        | @ptr _ _ _ rb e1 e2 =>
          have hb := hs.blk l rb k e1 hk (by omega)
          obtain ⟨cur, hc⟩ := hb.live e2
          have hat : w.heap[rb.b]? = some (.cells cur k.ty (0, 0)) ∧ μ rb.b = none := by
            rcases hc.at_ with ⟨_, ⟨fz, a, hz⟩, b⟩ | ⟨a, _⟩
            · obtain rfl : fz = (0, 0) := hz.elim id fun e => by rw [ho] at e; cases e.1
              exact ⟨a, b⟩
            · omega
          have hone := hb.one ho
          obtain ⟨x, hxx⟩ := List.length_eq_one_iff.1 hone.1
          have hlx : lget k.xs 0 = x := by rw [hxx]; rfl
          rw [hlx] at hx
          have hrow := hc.rowO ho
          rw [hxx] at hrow
          have hxl : x.length = cur.size := by rw [hrow.1 x (by simp), hc.size, hone.2]
          have x0 := exp_kill hs e1 hk hm e2
          have hcr : CRs μ ρ x cur.toList := by
            refine ⟨by simp [hxl], fun j u v hu hv => ?_⟩
            obtain ⟨y, h3, h4⟩ := hrow.2 0 x j u rfl hu
            rw [Nat.zero_mul, Nat.zero_add] at h3
            rw [Array.getElem?_toList, h3] at hv
            injection hv with hv; subst hv; exact h4
          obtain ⟨F, b1, x1, hl⟩ := expCs_sound x0.sr hcr hx
          have hlt := (List.getElem?_eq_some_iff.1 hk).1
          have hp : (Value.pointer (some ⟨rb.b, 0 * rb.sz + 0, none⟩)) = .pointer (some ⟨rb.b, 0, none⟩) := by simp
          rw [hp]
          refine ⟨rb.b :: F, k.ty, cs, rfl, .ob hat.1 hat.2 b1, x0.trans x1, ?_⟩
          have r0 : RootR (σ.set l { k with mode := 0 }) ρ [rb.b] l (.pointer (some ⟨rb.b, 0, none⟩)) (k.ty, cs) :=
            ⟨rb, _, e1, e2, List.getElem?_set_self hlt, rfl, ho, hb.sz, by rw [hb.n, hone.1], hone.2, by simp, rfl, rfl, by rw [hl, hxl, hc.size, hone.2]⟩
          exact r0.mono x1 fun b hb => by simp at hb; simp [hb]
    · cases h

theorem B0.obF {hp : HF} {a : AV} {v : Value} (h : B0 μ hp F a v) : obF a = none := by
  cases h with
  | d hd => cases hd <;> rfl
  | ow => rfl
  | own => rfl

theorem expO1_sound {a b : AV} {v : Value} {r : List Nat} (hs : SR E μ ρ σ w) (hv : CR μ ρ a v) (h : expO1 σ a = some (b, σ', r)) :
    ∃ F G, B1 μ (hf w) F G b v ∧ Exp E μ ρ σ w F σ' ∧ Roots σ' ρ F r G (obF b).toList := by
  have other : (match expC σ a with | none => none | some (b, σ') => some (b, σ', ([] : List Nat))) = some (b, σ', r) → ∃ F G, B1 μ (hf w) F G b v ∧ Exp E μ ρ σ w F σ' ∧ Roots σ' ρ F r G (obF b).toList := fun h => by
    split at h
    · cases h
    · rename_i b1 σ1 hx
      simp only [Option.some.injEq, Prod.mk.injEq] at h
      obtain ⟨e1, e2, e3⟩ := h; subst e1; subst e2; subst e3
      obtain ⟨F, b1, x1⟩ := expC_sound hs hv hx
      exact ⟨F, [], .c b1, x1, by rw [b1.obF]; exact .nil⟩
  unfold expO1 at h
  split at h
  · rename_i l i j
    obtain ⟨h0, h2⟩ | ⟨_, h2⟩ := cond_or h
    · simp only [Bool.and_eq_true] at h0
      have e1 := Nat.eq_of_beq_eq_true h0.1
      have e2 := Nat.eq_of_beq_eq_true h0.2
      clear h
      have h := h2
      clear h2
      subst e1; subst e2
      split at h
      · cases h
      · rename_i b1 σ1 hx
        simp only [Option.some.injEq, Prod.mk.injEq] at h
        obtain ⟨e1, e2, e3⟩ := h; subst e1; subst e2; subst e3
        obtain ⟨F, ty, cs, e, b1, x1, r1⟩ := expOb_sound hs hv hx
        subst e
        exact ⟨F, [v], b1, x1, .cons r1 .nil⟩
    · cases h2
  · exact other h

theorem expOs_sound : ∀ {cs as : List AV} {vs : List Value} {σ σ' : Store} {r : List Nat}, SR E μ ρ σ w → CRs μ ρ cs vs → expOs σ cs = some (as, σ', r) →
    ∃ F G, B1s μ (hf w) F G as vs ∧ Exp E μ ρ σ w F σ' ∧ Roots σ' ρ F r G (as.filterMap obF)
  | [], as, vs, σ, σ', r, hs, hv, h => by
    simp only [expOs, Option.some.injEq, Prod.mk.injEq] at h
    obtain ⟨e1, e2, e3⟩ := h; subst e1; subst e2; subst e3
    have : vs = [] := List.eq_nil_of_length_eq_zero (by rw [hv.1]; rfl)
    subst this
    exact ⟨[], [], .nil, .refl hs, .nil⟩
  | c :: cs, as, [], σ, σ', r, hs, hv, h => by have := hv.1; simp at this
  | c :: cs, as, v :: vs, σ, σ', r, hs, hv, h => by
    rw [expOs] at h
    split at h
    · cases h
    · rename_i c1 σ1 r1 h1
      split at h
      · cases h
      · rename_i cs1 σ2 r2 h2
        simp only [Option.some.injEq, Prod.mk.injEq] at h
        obtain ⟨e1, e2, e3⟩ := h; subst e1; subst e2; subst e3
        obtain ⟨F1, G1, b1, x1, o1⟩ := expO1_sound hs hv.tail.1 h1
        obtain ⟨F2, G2, b2, x2, o2⟩ := expOs_sound x1.sr hv.tail.2 h2
        refine ⟨F1 ++ F2, G1 ++ G2, .cons b1 b2, x1.trans x2, ?_⟩
        have := (o1.mono x2 (F'' := F1 ++ F2) fun b hb => by simp [hb]).append (o2.wide (F'' := F1 ++ F2) fun b hb => by simp [hb])
        rw [List.filterMap_cons]
        cases e : obF c1 with
        | none => rw [e] at this; exact this
        | some o => rw [e] at this; exact this

theorem obsOf_agg (cs : List AV) : obsOf [.agg cs] = cs.filterMap obF := by
  show cs.filterMap _ ++ [] = _
  rw [List.append_nil]; rfl
theorem obsOf_clo (f : FuncId) (x caps : List AV) : obsOf [.clo f x caps] = caps.filterMap obF := by
  show caps.filterMap _ ++ [] = _
  rw [List.append_nil]; rfl
theorem obsOf_else {b : AV} (h : ∀ cs, b ≠ .agg cs) (h' : ∀ f x y, b ≠ .clo f x y) : obsOf [b] = (obF b).toList := by
  cases b with
  | agg cs => exact absurd rfl (h cs)
  | clo f x y => exact absurd rfl (h' f x y)
  | _ => rfl
theorem obsOf_cons (b : AV) (bs : List AV) : obsOf (b :: bs) = obsOf [b] ++ obsOf bs := by
  cases b <;> simp [obsOf]

theorem expO_sound {a b : AV} {v : Value} {r : List Nat} (hs : SR E μ ρ σ w) (hv : VR μ ρ a v) (h : expO σ a = some (b, σ', r)) :
    ∃ F G, B2 μ (hf w) F G b v ∧ Exp E μ ρ σ w F σ' ∧ Roots σ' ρ F r G (obsOf [b]) := by
  have one : CR μ ρ a v → expO1 σ a = some (b, σ', r) → ∃ F G, B2 μ (hf w) F G b v ∧ Exp E μ ρ σ w F σ' ∧ Roots σ' ρ F r G (obsOf [b]) := fun hc h => by
    obtain ⟨F, G, b1, x1, o1⟩ := expO1_sound hs hc h
    refine ⟨F, G, .o b1, x1, ?_⟩
    rw [obsOf_else (fun cs e => ?_) (fun f x y e => ?_)]
    · exact o1
    · subst e; cases b1 with | c h2 => cases h2 with | d hd => cases hd
    · subst e
      unfold expO1 at h
      split at h
      · rcases cond_or h with ⟨_, h⟩ | ⟨_, h⟩
        · split at h
          · cases h
          · rename_i q _ hq
            unfold expOb at hq
            split at hq
            · cases hq
            · rcases cond_or hq with ⟨_, hq⟩ | ⟨_, hq⟩
              · split at hq
                · cases hq
                · simp only [Option.some.injEq, Prod.mk.injEq] at hq h
                  rw [← hq.1] at h; cases h.1
              · cases hq
        · cases h
      · split at h
        · cases h
        · rename_i q _ hq
          simp only [Option.some.injEq, Prod.mk.injEq] at h
          rw [h.1] at hq
          unfold expC at hq
          split at hq
          · rcases cond_or hq with ⟨_, hq⟩ | ⟨_, hq⟩
            · simp at hq
            · cases hq
          · simp at hq
          · split at hq
            · cases hq
            · rcases cond_or hq with ⟨_, hq⟩ | ⟨_, hq⟩
              · simp at hq
              · cases hq
          · cases hq
  unfold expO at h
  split at h
  · split at h
    · cases h
    · rename_i cs _ bs σ1 r1 hx
      simp only [Option.some.injEq, Prod.mk.injEq] at h
      obtain ⟨e1, e2, e3⟩ := h; subst e1; subst e2; subst e3
      cases hv with
      | c hc => cases hc with | d hd => cases hd
      | agg hc =>
        obtain ⟨F, G, b1, x1, o1⟩ := expOs_sound hs hc hx
        exact ⟨F, G, .agg b1, x1, by rw [obsOf_agg]; exact o1⟩
  · rename_i f first caps
    rcases cond_or h with ⟨_, h⟩ | ⟨he, h⟩
    · cases h
    · split at h
      · cases h
      · rename_i bs σ1 r1 hx
        simp only [Option.some.injEq, Prod.mk.injEq] at h
        obtain ⟨e1, e2, e3⟩ := h; subst e1; subst e2; subst e3
        have hfe : first = [] := by simpa using he
        subst hfe
        have key : ∀ {fs cs : List Value}, fs.length = ([] : List AV).length → CRs μ ρ caps cs → ∃ F G, B2 μ (hf w) F G (.clo f [] bs) (.func (.func f) fs.toArray cs.toArray) ∧ Exp E μ ρ σ w F σ1 ∧ Roots σ1 ρ F r1 G (obsOf [.clo f [] bs]) := fun {fs cs} hl hc => by
          obtain ⟨F, G, b1, x1, o1⟩ := expOs_sound hs hc hx
          rw [obsOf_clo]
          exact ⟨F, G, .clo ⟨hl, fun k u v hu => by simp at hu⟩ b1, x1, o1⟩
        cases hv with
        | c hc =>
          cases hc with
          | d hd => cases hd with | clo h1 h2 h3 h4 => exact key h1 ⟨h2, fun k u v hu hv => .d (h4 k u v hu hv)⟩
          | clo h1 h2 h3 h4 => exact key h1 ⟨h2, h4⟩
  · rename_i a' hna hnc
    cases hv with
    | c hc => exact one hc h
    | agg => exact absurd rfl (hna _)
    | tup => cases h
    | un => cases h
    | sk => simp [expO1, expC, okC] at h

theorem expN_up (hb : ∀ (l : Nat) (k' : Blk), σ'[l]? = some k' → ∃ k : Blk, σ[l]? = some k ∧ (k' = k ∨ k' = { k with mode := 0 })) : ∀ (n : Nat) {a b : AV}, expN σ' n a = some b → expN σ n a = some b
  | 0, _, _, h => by cases h
  | n + 1, a, b, h => by
    have hm : ∀ {l r : List AV}, l.mapM (expN σ' n) = some r → l.mapM (expN σ n) = some r := fun {l} => by
      induction l with
      | nil => intro r h; exact h
      | cons x l ih =>
        intro r h
        rw [List.mapM_cons] at h ⊢
        simp only [Option.bind_eq_bind, Option.bind_eq_some_iff, Option.pure_def, Option.some.injEq] at h ⊢
        obtain ⟨y, h1, ys, h2, h3⟩ := h
        exact ⟨y, expN_up hb n h1, ys, ih h2, h3⟩
    cases a with
    | sl c l off cut =>
      simp only [expN] at h ⊢
      split at h
      · cases h
      · rename_i k' hk'
        obtain ⟨k, h1, h2⟩ := hb l k' hk'
        rw [h1]
        rcases h2 with h2 | h2
        · subst h2; exact h
        · subst h2; simp at h
    | ptr l i j =>
      simp only [expN] at h ⊢
      split at h
      · cases h
      · rename_i k' hk'
        obtain ⟨k, h1, h2⟩ := hb l k' hk'
        rw [h1]
        rcases h2 with h2 | h2
        · subst h2
          simp only
          rcases cond_or h with ⟨e, h⟩ | ⟨e, h⟩
          · cases h
          · rw [e, cond_false]
            rcases cond_or h with ⟨e, h⟩ | ⟨e, h⟩
            · rw [e, cond_true]
              rcases cond_or h with ⟨e, h⟩ | ⟨e, h⟩
              · rw [e, cond_true]
                split at h
                · cases h
                · rename_i cs hcs
                  rw [hm hcs]; exact h
              · cases h
            · rw [e, cond_false]; exact h
        · subst h2; simp at h
    | clo f x y =>
      simp only [expN] at h ⊢
      split at h
      · rename_i p q hp hq
        rw [hm hp, hm hq]; exact h
      · cases h
    | agg cs =>
      simp only [expN] at h ⊢
      split at h
      · cases h
      · rename_i p hp
        rw [hm hp]; exact h
    | _ => exact h

theorem expN_obF : ∀ (n : Nat) {a b : AV}, expN σ n a = some b → obF b = none
  | 0, _, _, h => by cases h
  | n + 1, a, b, h => by
    cases a <;> simp only [expN] at h
    all_goals try (cases h; done)
    all_goals try (injection h with h; subst h; rfl)
    · rcases cond_or h with ⟨_, h⟩ | ⟨_, h⟩
      · injection h with h; subst h; rfl
      · cases h
    · split at h
      · cases h
      · injection h with h; subst h; rfl
    · split at h
      · cases h
      · rcases cond_or h with ⟨_, h⟩ | ⟨_, h⟩
        · cases h
        · rcases cond_or h with ⟨_, h⟩ | ⟨_, h⟩
          · rcases cond_or h with ⟨_, h⟩ | ⟨_, h⟩
            · split at h
              · cases h
              · injection h with h; subst h; rfl
            · cases h
          · rcases cond_or h with ⟨_, h⟩ | ⟨_, h⟩ <;> (injection h with h; subst h; rfl)
    · split at h
      · cases h
      · rcases cond_or h with ⟨_, h⟩ | ⟨_, h⟩
        · cases h
        · injection h with h; subst h; rfl
    · split at h
      · injection h with h; subst h; rfl
      · cases h
theorem filterMap_none {l : List AV} (h : ∀ (k : Nat) (u : AV), l[k]? = some u → obF u = none) : l.filterMap obF = [] := by
  rw [List.filterMap_eq_nil_iff]
  intro a ha
  obtain ⟨k, hk⟩ := List.getElem?_of_mem ha
  exact h k a hk
theorem expD_obs {a b : AV} (h : expD σ a = some b) : obsOf [b] = [] := by
  have hob := expN_obF 4 h
  unfold expD at h
  have hm : ∀ {l r : List AV}, l.mapM (expN σ 3) = some r → r.filterMap obF = [] := fun h => filterMap_none fun k u hu => by
    obtain ⟨x, _, hx⟩ := (mapM_some h).2 k u hu
    exact expN_obF 3 hx
  cases a <;> simp only [expN] at h
  all_goals try (cases h; done)
  all_goals try (injection h with h; subst h; exact (obsOf_else (fun _ e => by cases e) (fun _ _ _ e => by cases e)).trans (by rw [hob]; rfl))
  · rcases cond_or h with ⟨_, h⟩ | ⟨_, h⟩
    · injection h with h; subst h; exact (obsOf_else (fun _ e => by cases e) (fun _ _ _ e => by cases e)).trans (by rw [hob]; rfl)
    · cases h
  · split at h
    · cases h
    · rename_i x hx
      injection h with h; subst h
      rw [obsOf_agg]; exact hm hx
  · split at h
    · cases h
    · rcases cond_or h with ⟨_, h⟩ | ⟨_, h⟩
      · cases h
      · rcases cond_or h with ⟨_, h⟩ | ⟨_, h⟩
        · rcases cond_or h with ⟨_, h⟩ | ⟨_, h⟩
          · split at h
            · cases h
            · injection h with h; subst h; exact (obsOf_else (fun _ e => by cases e) (fun _ _ _ e => by cases e)).trans (by rw [hob]; rfl)
          · cases h
        · rcases cond_or h with ⟨_, h⟩ | ⟨_, h⟩ <;> (injection h with h; subst h; exact (obsOf_else (fun _ e => by cases e) (fun _ _ _ e => by cases e)).trans (by rw [hob]; rfl))
  · split at h
    · cases h
    · rcases cond_or h with ⟨_, h⟩ | ⟨_, h⟩
      · cases h
      · injection h with h; subst h; exact (obsOf_else (fun _ e => by cases e) (fun _ _ _ e => by cases e)).trans (by rw [hob]; rfl)
  · split at h
    · rename_i p q hp hq
      injection h with h; subst h
      rw [obsOf_clo]; exact hm hq
    · cases h
end
end Go.Ev
