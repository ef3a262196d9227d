/- What comes back is laid into its places. -/
import Derived.Test.YtokagdgcfmjlnaaEv34
set_option linter.all false
namespace Go.Ev

section
variable {E : Env} {μ : Mu} {ρ : Rho} {σ σ' : Store} {w : World}

theorem Roots.move {σ' : Store} {ρ' : Rho} {F : List Nat} {ls : List Nat} {gs : List Value} {os : List (Nat × List AV)} (h : Roots σ ρ F ls gs os) (hm : ∀ l g o, g ∈ gs → RootR σ ρ F l g o → RootR σ' ρ' F l g o) : Roots σ' ρ' F ls gs os := by
  induction h with
  | nil => exact .nil
  | cons h _ ih => exact .cons (hm _ _ _ (by simp) h) (ih fun l g o hg => hm l g o (by simp [hg]))
theorem Roots.len {F : List Nat} {ls : List Nat} {gs : List Value} {os : List (Nat × List AV)} (h : Roots σ ρ F ls gs os) : gs.length = ls.length ∧ os.length = ls.length := by
  induction h with
  | nil => exact ⟨rfl, rfl⟩
  | cons _ _ ih => simp [ih.1, ih.2]
theorem roots_ptr {hp : HF} {F : List Nat} {G : List Value} {ro : List AV} {gs : List Value} (h : B1s μ hp F G ro gs) (ho : ∀ r ∈ ro, ∃ ty cs, r = .ob ty cs) : ∀ g ∈ gs, ∃ b ∈ F, g = .pointer (some ⟨b, 0, none⟩) := by
  induction h with
  | nil => intro g hg; cases hg
  | cons h1 _ ih =>
    intro g hg
    rcases List.mem_cons.1 hg with hg | hg
    · subst hg
      obtain ⟨ty, cs, e⟩ := ho _ List.mem_cons_self
      subst e
      cases h1 with
      | c h2 => cases h2 with | d hd => cases hd
      | @ob b _ _ _ _ _ _ _ => exact ⟨b, by simp, rfl⟩
    · obtain ⟨b, hb, e⟩ := ih (fun r hr => ho r (by simp [hr])) g hg
      exact ⟨b, by simp [hb], e⟩

structure Back (E : Env) (μ : Mu) (ρ : Rho) (σ : Store) (w : World) (F : List Nat) (ρ' : Rho) (σ' : Store) : Prop where
  rho : RhoLe ρ ρ'
  len : σ.length ≤ σ'.length
  dom : ∀ l rb, ρ' l = some rb → ρ l = some rb ∨ (σ.length ≤ l ∧ l < σ'.length ∧ (rb.ph = true ∨ rb.b ∈ F))
  sr : SR E μ ρ' σ' w
  own : ∀ b, Own σ' ρ' b → Own σ ρ b ∨ b ∈ F

theorem back_len : ∀ {ls : List Nat} {os : List (List AV)} {σ σ' : Store}, backs σ ls os = some σ' → σ.length ≤ σ'.length
  | [], [], σ, σ', h => by
    simp only [backs, Option.some.injEq] at h
    subst h; exact Nat.le_refl _
  | [], _ :: _, σ, σ', h => by cases h
  | _ :: _, [], σ, σ', h => by cases h
  | l :: ls, cs :: os, σ, σ', h => by
    rw [backs] at h
    split at h
    · rename_i k cs' σ1 _ hx
      have := back_len h
      have := app_len (impCs_app hx)
      simp at *
      omega
    · cases h

theorem backs_sound {F0 : List Nat} : ∀ {ls : List Nat} {gs : List Value} {obs : List (Nat × List AV)} {ro : List AV} {os : List (List AV)} {F : List Nat} {G : List Value} {ρ : Rho} {σ σ' : Store} {m : Nat}, SR E μ ρ σ w → Roots σ ρ F0 ls gs obs → B1s μ (hf w) F G ro gs →
    (∀ (i : Nat) (o : Nat × List AV), obs[i]? = some o → ∃ cs, ro[i]? = some (.ob o.1 cs) ∧ os[i]? = some cs ∧ cs.length = o.2.length) → Free E ρ σ F → FreshTo ρ σ.length m → backs σ ls os = some σ' → σ'.length ≤ m → ∃ ρ', Back E μ ρ σ w F ρ' σ'
  | [], gs, obs, ro, [], F, G, ρ, σ, σ', m, hs, hr, hb, hi, hF, hfr, h, hm => by
    cases hr
    cases hb
    simp only [backs, Option.some.injEq] at h
    subst h
    exact ⟨ρ, RhoLe.refl ρ, Nat.le_refl _, fun _ _ h => .inl h, hs, fun _ h => .inl h⟩
  | [], gs, obs, ro, _ :: _, F, G, ρ, σ, σ', m, hs, hr, hb, hi, hF, hfr, h, hm => by cases h
  | _ :: _, gs, obs, ro, [], F, G, ρ, σ, σ', m, hs, hr, hb, hi, hF, hfr, h, hm => by cases h
  | l :: ls, gs, obs, ro, c :: os, F, G, ρ, σ, σ', m, hs, hr, hb, hi, hF, hfr, h, hm => by
    cases hr with
    | @cons _ g o _ gs obs hr1 hr2 =>
      cases hb with
      | @cons F1 F' G1 G' r ro _ _ hb1 hb2 =>
        obtain ⟨cs, e1, e2, hl⟩ := hi 0 o rfl
        simp only [List.getElem?_cons_zero, Option.some.injEq] at e1 e2
        subst e1; subst e2
        have hobs : ∀ r ∈ ro, ∃ ty cs, r = .ob ty cs := fun r hr => by
          obtain ⟨i, hi'⟩ := List.getElem?_of_mem hr
          have hlt : i < obs.length := by
            rw [hr2.len.2, ← hr2.len.1, hb2.len]
            exact (List.getElem?_eq_some_iff.1 hi').1
          obtain ⟨cs, e1, _⟩ := hi (i + 1) obs[i] (by rw [List.getElem?_cons_succ]; exact List.getElem?_eq_getElem hlt)
          simp only [List.getElem?_cons_succ] at e1
          rw [hi'] at e1; injection e1 with e1
          exact ⟨_, _, e1⟩
        have hptr := roots_ptr hb2 hobs
        obtain ⟨rb, k, c1, c2, c3, c4, c5, c6, c7, c8, c9, c10, c11, c12⟩ := hr1
        cases hb1 with
        | c h2 => cases h2 with | d hd => cases hd
        | @ob b ty F1 _ cur d1 d2 d3 =>
          simp only [Value.pointer.injEq, Option.some.injEq, Addr.mk.injEq, and_true] at c10
          subst c10
          rw [backs, c3] at h
          split at h
          · rename_i k' cs' σ1 ek hx
            injection ek with ek; subst ek
            have hlen1 := app_len (impCs_app hx)
            have hlen2 := back_len h
            rw [List.length_set] at hlen2
            have hF1 : Free E ρ σ F1 := ⟨(List.nodup_cons.1 (List.nodup_append.1 hF.nodup).1).2, fun x hx => hF.not x (by simp [hx]), fun x hx => hF.may x (by simp [hx])⟩
            obtain ⟨ρ1, i1, r1⟩ := impCs_sound hs d3 hF1 hfr hx (by omega)
            have hk1 : σ1[l]? = some k := by
              obtain ⟨τ, e⟩ := i1.app
              rw [e, List.getElem?_append_left (List.getElem?_eq_some_iff.1 c3).1]; exact c3
            have hnd := List.nodup_append.1 hF.nodup
            have hnb : rb.b ∉ F1 := (List.nodup_cons.1 hnd.1).1
            have hother : ∀ x, Own σ1 ρ1 x → x ≠ rb.b := fun x hx e => by
              subst e
              rcases i1.own _ hx with h1 | h1
              · exact hF.not _ (by simp) h1
              · exact hnb h1
            have hcsz : cur.size = rb.csz := by
              have := d3.len
              simp at this
              rw [this, hl, c12, c8]
            have hcs' : cs'.length = rb.sz := by
              rw [← c8, ← hcsz, ← r1.1]; simp
            have hb0 : BlkR μ ρ1 w { k with mode := 1, xs := [cs'] } rb := by
              refine ⟨c6, c7, by rw [c7, c8, Nat.one_mul]; exact Nat.le_refl _, fun e => (by rw [c2] at e; cases e), fun _ => ⟨rfl, c8⟩, fun _ => ⟨cur, hcsz, fun e => (by rw [c5] at e; cases e), fun _ => ⟨fun e he => by simp at he; subst he; exact hcs', fun i e j c he hc => ?_⟩, .inl ⟨rfl, ⟨_, by rw [c11]; exact d1, .inl rfl⟩, d2⟩⟩⟩
              cases i with
              | succ i => simp at he
              | zero =>
                simp at he; subst he
                have hj : j < cs'.length := (List.getElem?_eq_some_iff.1 hc).1
                have hj' : j < cur.size := by rw [hcsz, c8, ← hcs']; exact hj
                exact ⟨cur[j], by simp [hj'], r1.2 j c _ hc (by simp [hj'])⟩
            have hs2 := i1.sr.revive l { k with mode := 1, xs := [cs'] } rb (i1.rho _ _ c1) hb0 fun _ _ => ⟨hF.may _ (by simp), fun q rb' k' hne hq hk' hm' hp' => hother _ ⟨q, rb', k', hq, hk', hm', hp', rfl⟩⟩
            have hown2 : ∀ x, Own (σ1.set l { k with mode := 1, xs := [cs'] }) ρ1 x → Own σ1 ρ1 x ∨ x = rb.b := fun x ⟨q, rb', k', h1, h2, h3, h4, h5⟩ => by
              rcases get_set h2 with ⟨e1, e2⟩ | ⟨_, h2⟩
              · subst e1
                rw [i1.rho _ _ c1] at h1
                injection h1 with h1; subst h1
                exact .inr h5.symm
              · exact .inl ⟨q, rb', k', h1, h2, h3, h4, h5⟩
            have hF2 : Free E ρ1 (σ1.set l { k with mode := 1, xs := [cs'] }) F' := by
              refine ⟨hnd.2.1, fun x hx ho => ?_, fun x hx => hF.may x (by simp [hx])⟩
              rcases hown2 x ho with h1 | h1
              · rcases i1.own x h1 with h2 | h2
                · exact hF.not x (by simp [hx]) h2
                · exact hnd.2.2 x (by simp [h2]) x hx rfl
              · subst h1; exact hnd.2.2 rb.b (by simp) rb.b hx rfl
            have hr2' : Roots (σ1.set l { k with mode := 1, xs := [cs'] }) ρ1 F0 ls gs obs := hr2.move fun l' g' o' hg' hrr => by
              obtain ⟨rb', kk, f1, f2, f3, f4, f5, f6, f7, f8, f9, f10, f11, f12⟩ := hrr
              obtain ⟨b', hb', e⟩ := hptr g' hg'
              rw [f10] at e
              simp only [Value.pointer.injEq, Option.some.injEq, Addr.mk.injEq, and_true] at e
              have hne : l ≠ l' := fun e' => by
                subst e'
                rw [c1] at f1; injection f1 with f1; subst f1
                subst e
                exact hnd.2.2 rb.b (by simp) rb.b hb' rfl
              refine ⟨rb', kk, i1.rho _ _ f1, f2, ?_, f4, f5, f6, f7, f8, f9, f10, f11, f12⟩
              rw [List.getElem?_set_ne hne]
              obtain ⟨τ, e⟩ := i1.app
              rw [e, List.getElem?_append_left (List.getElem?_eq_some_iff.1 f3).1]; exact f3
            obtain ⟨ρ', bk⟩ := backs_sound hs2 hr2' hb2 (fun i o ho => by simpa using hi (i + 1) o (by simpa using ho)) hF2 (by rw [List.length_set]; exact i1.fresh hfr) h hm
            refine ⟨ρ', i1.rho.trans bk.rho, Nat.le_trans hlen1 hlen2, fun q rq hq => ?_, bk.sr, fun x hx => ?_⟩
            · rcases bk.dom q rq hq with h1 | ⟨h1, h2, h3⟩
              · rcases i1.dom q rq h1 with h4 | ⟨h4, h5, h6⟩
                · exact .inl h4
                · exact .inr ⟨h4, Nat.lt_of_lt_of_le h5 hlen2, h6.imp id fun h => by simp [h]⟩
              · rw [List.length_set] at h1
                exact .inr ⟨Nat.le_trans hlen1 h1, h2, h3.imp id fun h => by simp [h]⟩
            · rcases bk.own x hx with h1 | h1
              · rcases hown2 x h1 with h2 | h2
                · rcases i1.own x h2 with h3 | h3
                  · exact .inl h3
                  · exact .inr (by simp [h3])
                · exact .inr (by simp [h2])
              · exact .inr (by simp [h1])
          · cases h

/-- The world behind a call. -/
theorem sr_after {w' : World} {F : List Nat} {m0 m1 : Mu} (h : SR E μ ρ σ w) (hf : Frm ⟨w, (· ∈ F), m0⟩ m1 w') (hF : ∀ b ∈ F, ¬ Own σ ρ b ∧ (E.D b ∨ E.w0.heap.size ≤ b) ∧ μ b = none) : SR E μ ρ σ w' := by
  refine h.moved hf.os hf.tape hf.output hf.size fun b hb => ?_
  by_cases hbF : b ∈ F
  · exact .inr ⟨(hF b hbF).2.1, (hF b hbF).2.2, fun l rb k h1 h2 h3 h4 e => (hF b hbF).1 ⟨l, rb, k, h1, h2, h3, h4, e⟩⟩
  · exact .inl (hf.keep b hb hbF)
/-- More is known to be data. -/
theorem sr_mu {μ' : Mu} (h : SR E μ ρ σ w) (hle : MuLe μ μ') (himm : ∀ b o, μ' b = some o → w.heap[b]? = some o) (ho : ∀ b, Own σ ρ b → μ' b = none) (hn : ∀ b o, μ' b = some o → μ b = some o ∨ E.D b ∨ E.w0.heap.size ≤ b) : SR E μ' ρ σ w := by
  refine ⟨fun l rb k hl hk hm => ?_, h.inj, h.ownD, himm, ⟨h.base.os, h.base.tape, h.base.output, h.base.size, h.base.keep, h.base.mu.trans hle, fun b o hb => ?_⟩⟩
  · have hb := h.blk l rb k hl hk hm
    refine ⟨hb.sz, hb.n, hb.fit, hb.ph, hb.one, fun hp => ?_⟩
    obtain ⟨cur, hc⟩ := hb.live hp
    refine ⟨cur, hc.size, fun e => (hc.rowD e).mono hle, fun e => (hc.rowO e).mono hle (RhoLe.refl ρ), ?_⟩
    rcases hc.at_ with ⟨a1, a2, a3⟩ | ⟨a1, ty, fz, a2⟩
    · exact .inl ⟨a1, a2, ho _ ⟨l, rb, k, hl, hk, a1, hp, rfl⟩⟩
    · exact .inr ⟨a1, ty, fz, hle _ _ a2⟩
  · rcases hn b o hb with h1 | h1
    · exact h.base.muNew b o h1
    · exact .inr h1
end

/-! ## Contents that refer to nothing -/
section plain
variable {μ μ' : Mu} {hp : HF}
theorem allB_mem {α : Type} {p : α → Bool} : ∀ {l : List α}, allB p l = true → ∀ a ∈ l, p a = true
  | [], _, a, ha => by cases ha
  | [x], h, a, ha => by simp at ha; subst ha; exact h
  | x :: y :: l, h, a, ha => by
    simp only [allB, Bool.and_eq_true] at h
    rcases List.mem_cons.1 ha with ha | ha
    · subst ha; exact h.1
    · exact allB_mem h.2 a ha
theorem plain_b0 {F : List Nat} {a : AV} {v : Value} (hm : MuLe μ μ') (hp' : plainC a = true) (h : B0 μ' hp F a v) : B0 μ hp F a v := by
  cases h with
  | d hd =>
    cases hd with
    | v hx => exact .d (.v hx)
    | _ => cases hp'
  | @ow b cap ty sz xs cur h1 h2 h3 h4 h5 =>
    refine .ow h1 ?_ h3 h4 ⟨h5.1, fun i e j c he hc => ?_⟩
    · cases e : μ b with
      | none => rfl
      | some o => rw [hm b o e] at h2; cases h2
    · obtain ⟨u, hu1, hu2⟩ := h5.2 i e j c he hc
      refine ⟨u, hu1, ?_⟩
      simp only [plainC, List.all_eq_true] at hp'
      have h6 := hp' e (List.mem_of_getElem? he)
      simp only [rowV, List.all_eq_true] at h6
      have h7 := h6 c (List.mem_of_getElem? hc)
      cases hu2 with
      | v hx => exact .v hx
      | _ => cases h7
  | own => exact .own
theorem plain_b0s {F : List Nat} {as : List AV} {vs : List Value} (hm : MuLe μ μ') (h : B0s μ' hp F as vs) : (∀ a ∈ as, plainC a = true) → B0s μ hp F as vs := by
  induction h with
  | nil => exact fun _ => .nil
  | cons h1 _ ih => exact fun hp => .cons (plain_b0 hm (hp _ (by simp)) h1) (ih fun a ha => hp a (by simp [ha]))
theorem plain_b1 {F : List Nat} {G : List Value} {a : AV} {v : Value} (hm : MuLe μ μ') (hp' : plain1 a = true) (h : B1 μ' hp F G a v) : B1 μ hp F G a v := by
  cases h with
  | c h0 =>
    refine .c (plain_b0 hm ?_ h0)
    cases h0 with
    | d hd => cases hd <;> exact hp'
    | ow => exact hp'
    | own => exact hp'
  | @ob b _ _ _ _ h1 h2 h3 =>
    refine .ob h1 ?_ (plain_b0s hm h3 (allB_mem hp'))
    cases e : μ b with
    | none => rfl
    | some o => rw [hm b o e] at h2; cases h2
theorem plain_b1s {F : List Nat} {G : List Value} {as : List AV} {vs : List Value} (hm : MuLe μ μ') (h : B1s μ' hp F G as vs) : (∀ a ∈ as, plain1 a = true) → B1s μ hp F G as vs := by
  induction h with
  | nil => exact fun _ => .nil
  | cons h1 _ ih => exact fun hp => .cons (plain_b1 hm (hp _ (by simp)) h1) (ih fun a ha => hp a (by simp [ha]))
theorem plain_b2 {F : List Nat} {G : List Value} {a : AV} {v : Value} (hm : MuLe μ μ') (hp' : plainA a = true) (h : B2 μ' hp F G a v) : B2 μ hp F G a v := by
  cases h with
  | o h1 =>
    refine .o (plain_b1 hm ?_ h1)
    cases h1 with
    | c h0 => cases h0 with
      | d hd => cases hd <;> exact hp'
      | ow => exact hp'
      | own => exact hp'
    | ob => exact hp'
  | agg h1 => exact .agg (plain_b1s hm h1 (allB_mem hp'))
  | clo => cases hp'
theorem plain_b2s {F : List Nat} {G : List Value} {as : List AV} {vs : List Value} (hm : MuLe μ μ') (h : B2s μ' hp F G as vs) : (∀ a ∈ as, plainA a = true) → B2s μ hp F G as vs := by
  induction h with
  | nil => exact fun _ => .nil
  | cons h1 _ ih => exact fun hp => .cons (plain_b2 hm (hp _ (by simp)) h1) (ih fun a ha => hp a (by simp [ha]))

theorem roots_sim {F : List Nat} {G : List Value} {ro : List AV} {gs : List Value} (h : B1s μ hp F G ro gs) : ∀ {ro' : List AV}, ro'.length = ro.length →
    (∀ (i : Nat) (r r' : AV), ro[i]? = some r → ro'[i]? = some r' → ∃ ty cs cs', r = .ob ty cs ∧ r' = .ob ty cs' ∧ Sims cs cs') → B1s μ hp F G ro' gs := by
  induction h with
  | nil =>
    intro ro' hl _
    have : ro' = [] := List.eq_nil_of_length_eq_zero hl
    subst this; exact .nil
  | cons h1 _ ih =>
    intro ro' hl hi
    cases ro' with
    | nil => simp at hl
    | cons r' ro' =>
      refine .cons ?_ (ih (by simpa using hl) fun i r r' hr hr' => hi (i + 1) r r' (by simpa using hr) (by simpa using hr'))
      obtain ⟨ty, cs, cs', e1, e2, hs⟩ := hi 0 _ r' rfl rfl
      subst e1; subst e2
      cases h1 with
      | c h0 => cases h0 with | d hd => cases hd
      | ob a1 a2 a3 => exact .ob a1 a2 (hs.b0s a3)
end plain

/-! ## Lengths -/
section len
variable {σ σ' : Store}
theorem expC_len {c a : AV} (h : expC σ c = some (a, σ')) : σ'.length = σ.length := by
  unfold expC at h
  split at h
  · obtain ⟨_, h⟩ := cond_some h
    simp only [Option.some.injEq, Prod.mk.injEq] at h; rw [h.2]
  · simp only [Option.some.injEq, Prod.mk.injEq] at h; rw [h.2]
  · split at h
    · cases h
    · obtain ⟨_, h⟩ := cond_some h
      simp only [Option.some.injEq, Prod.mk.injEq] at h; rw [← h.2]; simp
  · cases h
theorem expCs_len : ∀ {cs as : List AV} {σ σ' : Store}, expCs σ cs = some (as, σ') → σ'.length = σ.length
  | [], as, σ, σ', h => by simp only [expCs, Option.some.injEq, Prod.mk.injEq] at h; rw [h.2]
  | c :: cs, as, σ, σ', h => by
    rw [expCs] at h
    split at h
    · cases h
    · rename_i hx
      split at h
      · cases h
      · rename_i hy
        simp only [Option.some.injEq, Prod.mk.injEq] at h
        rw [← h.2, expCs_len hy, expC_len hx]
theorem expO1_len {c a : AV} {r : List Nat} (h : expO1 σ c = some (a, σ', r)) : σ'.length = σ.length := by
  unfold expO1 at h
  split at h
  · obtain ⟨_, h⟩ := cond_some h
    split at h
    · cases h
    · rename_i hx
      simp only [Option.some.injEq, Prod.mk.injEq] at h
      rw [← h.2.1]
      unfold expOb at hx
      split at hx
      · cases hx
      · obtain ⟨_, hx⟩ := cond_some hx
        split at hx
        · cases hx
        · rename_i hy
          simp only [Option.some.injEq, Prod.mk.injEq] at hx
          rw [← hx.2, expCs_len hy]; simp
  · split at h
    · cases h
    · rename_i hx
      simp only [Option.some.injEq, Prod.mk.injEq] at h
      rw [← h.2.1, expC_len hx]
theorem expOs_len : ∀ {cs as : List AV} {σ σ' : Store} {r : List Nat}, expOs σ cs = some (as, σ', r) → σ'.length = σ.length
  | [], as, σ, σ', r, h => by simp only [expOs, Option.some.injEq, Prod.mk.injEq] at h; rw [h.2.1]
  | c :: cs, as, σ, σ', r, h => by
    rw [expOs] at h
    split at h
    · cases h
    · rename_i hx
      split at h
      · cases h
      · rename_i hy
        simp only [Option.some.injEq, Prod.mk.injEq] at h
        rw [← h.2.1, expOs_len hy, expO1_len hx]
theorem expO_len {c a : AV} {r : List Nat} (h : expO σ c = some (a, σ', r)) : σ'.length = σ.length := by
  unfold expO at h
  split at h
  · split at h
    · cases h
    · rename_i hx
      simp only [Option.some.injEq, Prod.mk.injEq] at h
      rw [← h.2.1, expOs_len hx]
  · obtain ⟨_, h⟩ := cond_some' h
    split at h
    · cases h
    · rename_i hx
      simp only [Option.some.injEq, Prod.mk.injEq] at h
      rw [← h.2.1, expOs_len hx]
  · exact expO1_len h
theorem expArgs_len : ∀ {args bs : List AV} {σ σ' : Store} {m : List Bool} {r : List Nat}, expArgs σ m args = some (bs, σ', r) → σ'.length = σ.length ∧ (m.any id = false → σ' = σ ∧ r = [] ∧ obsOf bs = [])
  | [], bs, σ, σ', m, r, h => by
    cases m <;>
    · simp only [expArgs, Option.some.injEq, Prod.mk.injEq] at h
      obtain ⟨e1, e2, e3⟩ := h; subst e1; subst e2; subst e3
      exact ⟨rfl, fun _ => ⟨rfl, rfl, rfl⟩⟩
  | a :: as, bs, σ, σ', m, r, h => by
    rw [expArgs] at h
    split at h
    · cases h
    · rename_i b σ1 r1 h1
      split at h
      · cases h
      · rename_i bs1 σ2 r2 h2
        simp only [Option.some.injEq, Prod.mk.injEq] at h
        obtain ⟨e1, e2, e3⟩ := h; subst e1; subst e2; subst e3
        obtain ⟨l1, l2⟩ := expArgs_len h2
        rw [obsOf_cons]
        cases hm : m.headD false with
        | true =>
          rw [hm] at h1
          refine ⟨l1.trans (expO_len h1), fun e => ?_⟩
          cases m with
          | nil => cases hm
          | cons x m => simp at hm; subst hm; simp at e
        | false =>
          rw [hm] at h1
          simp only at h1
          split at h1
          · cases h1
          · rename_i b' hb'
            simp only [Option.some.injEq, Prod.mk.injEq] at h1
            obtain ⟨e1, e2, e3⟩ := h1; subst e1; subst e2; subst e3
            refine ⟨l1, fun e => ?_⟩
            obtain ⟨q1, q2, q3⟩ := l2 (by cases m with
              | nil => rfl
              | cons x m => simp at e; simpa using e.2)
            exact ⟨q1, by rw [q2]; rfl, by rw [q3, expD_obs hb']; rfl⟩
end len
end Go.Ev
