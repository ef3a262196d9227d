/- Calls; the evaluator as a whole. -/
import Derived.Test.YtokagdgcfmjlnaaEv35
set_option linter.all false
namespace Go.Ev

section
variable {P : Program} {C : Cfg} {call : CallT} {inl : InlT}

theorem ret_vr {μ : Mu} {ρ : Rho} {vs : List AV} {ws : List Value} (h : VRs μ ρ vs ws) {n : Nat} (hn : vs.length = n) : VR μ ρ (retAV n vs) (retV ws) := by
  unfold retAV retV
  by_cases e : n = 1
  · subst e
    rw [if_pos (h.1.trans hn)]
    obtain ⟨x, hx⟩ := List.length_eq_one_iff.1 hn
    obtain ⟨y, hy⟩ := List.length_eq_one_iff.1 (h.1.trans hn)
    subst hx; subst hy
    exact h.2 0 x y rfl rfl
  · have : Nat.beq n 1 = false := nbeq_false e
    rw [this, if_neg (by rw [h.1, hn]; exact e)]
    exact .tup h.1 h.2

theorem ownsAny_in {σ : Store} : ∀ {L : List Nat} {l : Nat} {k : Blk}, l ∈ L → σ[l]? = some k → k.mode = 1 → ownsAny σ L = true
  | [], l, k, h, _, _ => by cases h
  | m :: L, l, k, h, hk, hm => by
    simp only [ownsAny]
    rcases List.mem_cons.1 h with h | h
    · subst h; rw [hk]; simp [hm]
    · rw [ownsAny_in h hk hm, Bool.or_true]

/-- A call that is not entered in place. -/
theorem evCall_far (HS : CallS P call) {R : Type} {σ : Store} {K : AV → Store → Option R} {r : R} {f : FuncId} {args : List AV} {fn : Func} (hfn : P.funcs[f]? = some fn) (hinl : C.inl f = false) {bs : List AV} {σ1 : Store} {roots : List Nat}
    (hexp : expArgs σ (C.rw f) args = some (bs, σ1, roots)) (hlive : (lentRefs σ (C.rw f) args).all (fun l => match σ1[l]? with | some k => !(Nat.beq k.mode 0) | none => false) = true)
    (h : ((call f bs).bind fun rs =>
        shRs P (C.dat f) fn.resultTypes.toList 0 rs fun as =>
          shOuts (obsOf bs) fn.resultTypes.size rs fun os =>
            cond (!(ownsAny σ (lentRefs σ (C.rw f) args)) || (fn.resultTypes.any (leakT P (C.dat f)) || leakB (obsOf bs)) || (allB plainA as && allB (allB plainC) os))
              (match backs (bif ownsAny σ (lentRefs σ (C.rw f) args) && (fn.resultTypes.any (leakT P (C.dat f)) || leakB (obsOf bs)) then freezeAll σ1 (lentRefs σ (C.rw f) args) else σ1) roots os with
              | none => none
              | some σ2 =>
                match impArgs σ2 as with
                | none => none
                | some (vs, σ3, _) => K (retAV fn.resultTypes.size vs) σ3) none) = some r) :
    ∃ av σ', K av σ' = some r ∧ σ.length ≤ σ'.length ∧ (callQ P C f = true → ∃ τ, σ' = σ ++ τ) ∧
      ∀ (E : Env) (μ : Mu) (ρ : Rho) (vals : List Value) (w : World), vals.length = args.length → (∀ (k : Nat) (a : AV) (v : Value), args[k]? = some a → vals[k]? = some v → VR μ ρ a v) → SR E μ ρ σ w → FreshTo ρ σ.length σ'.length →
        Calls P f vals.toArray w fun e w' => ∃ v μ' ρ', e = .returned v ∧ Grow (callQ P C f) μ ρ σ.length w μ' ρ' σ'.length w' ∧ VR μ' ρ' av v ∧ SR E μ' ρ' σ' w' := by
  generalize hL : lentRefs σ (C.rw f) args = L at *
  generalize hlk : (fn.resultTypes.any (leakT P (C.dat f)) || leakB (obsOf bs)) = leak at *
  obtain ⟨rs, hcall, hA⟩ := Option.bind_eq_some_iff.1 h
  clear h
  obtain ⟨as, hB, hasl, hass⟩ := shRs_sound hA
  clear hA
  obtain ⟨os, hC, hosl, hoss⟩ := shOuts_sound hB
  clear hB
  obtain ⟨hchk, hK⟩ := cond_some hC
  clear hC
  split at hK
  · cases hK
  rename_i σ2 hbk
  split at hK
  · cases hK
  rename_i vs σ3 rr himp
  have hq : callQ P C f = true → (C.rw f).any id = false ∧ fn.resultTypes.any (leakT P (C.dat f)) = false := fun e => by
    simp only [callQ, hfn, hinl, Bool.false_or, Bool.not_eq_true', Bool.or_eq_false_iff] at e
    exact e
  obtain ⟨hlen1, hquiet⟩ := expArgs_len hexp
  have hqs : callQ P C f = true → σ1 = σ ∧ roots = [] ∧ obsOf bs = [] ∧ leak = false := fun e => by
    obtain ⟨q1, q2⟩ := hq e
    obtain ⟨q3, q4, q5⟩ := hquiet q1
    refine ⟨q3, q4, q5, ?_⟩
    rw [← hlk, q2, q5]; rfl
  generalize hσx : (bif ownsAny σ L && leak then freezeAll σ1 L else σ1) = σx at *
  have hlenx : σx.length = σ.length := by
    rw [← hσx]
    cases (ownsAny σ L && leak) with
    | true => rw [cond_true, (freezeAll_get L σ1 0).1, hlen1]
    | false => rw [cond_false, hlen1]
  have hlen2 := back_len hbk
  have hlen3 := app_len (impArgs_app himp)
  refine ⟨_, σ3, hK, by omega, fun e => ?_, fun E μ ρ vals w hvl hvv hs hfr => ?_⟩
  · obtain ⟨q1, q2, q3, q4⟩ := hqs e
    have hx : σx = σ := by rw [← hσx, q4, Bool.and_false, cond_false, q1]
    have hos : os = [] := List.eq_nil_of_length_eq_zero (by rw [hosl, q3]; rfl)
    rw [hx, q2, hos] at hbk
    simp only [backs, Option.some.injEq] at hbk
    subst hbk
    exact impArgs_app himp
  -- what is handed over and what is lent
  have hv : VRs μ ρ args vals := ⟨hvl, hvv⟩
  obtain ⟨F, G, x1, o1, hq0, hc⟩ := expArgs_sound hs hv hexp
  obtain ⟨μ', hle, hsf, hinfo, hownf⟩ := freezeAll_sound L x1.sr
  have hFo : ∀ b ∈ F, μ b = none ∧ b < w.heap.size ∧ (E.D b ∨ E.w0.heap.size ≤ b) := fun b hb => own_none hs (x1.own b hb).1
  have hFnone : ∀ b ∈ F, μ' b = none := fun b hb => by
    cases e : μ' b with
    | none => rfl
    | some o =>
      rcases hinfo b o e with h1 | ⟨l, _, rb, k, h1, h2, h3, h4, h5⟩
      · rw [(hFo b hb).1] at h1; cases h1
      · exact absurd ⟨l, rb, k, h1, h2, h3, h4, h5⟩ (x1.own b hb).2
  have hLalive : ∀ l ∈ L, ∀ k, σ[l]? = some k → k.mode ≠ 0 → σ1[l]? = some k := fun l hl k hk hm => by
    have := List.all_eq_true.1 hlive l hl
    split at this
    · rename_i k1 hk1
      obtain ⟨k0, e1, e2⟩ := x1.blk l k1 hk1
      rw [hk] at e1; injection e1 with e1; subst e1
      rcases e2 with e2 | e2
      · rw [hk1, e2]
      · rw [e2] at this; simp at this
    · cases this
  have hLf : ∀ l ∈ L, ∀ k, σ[l]? = some k → k.mode ≠ 0 → (freezeAll σ1 L)[l]? = some { k with mode := 2 } := fun l hl k hk hm => freezeAll_in L σ1 l k hl (hLalive l hl k hk hm) hm
  have hb2 : B2s μ' (hf w) F G bs vals := hc μ' hle hFnone fun k a b v h3 h4 h5 h6 => expD_b2 hsf hLf ((hv.2 k a v h4 h5).mono hle (RhoLe.refl ρ)) h6 (fun l hl => by rw [← hL]; exact lentRefs_in h3 h4 l hl) _
  obtain ⟨fn', hfn', hspec⟩ := HS f bs rs hcall
  rw [hfn] at hfn'; injection hfn' with hfn'; subst hfn'
  refine (hspec w μ' F G vals hsf.imm hb2 x1.nodup).mono fun e w' he => ?_
  obtain ⟨ra, ro, ws, μ'', F1, F2, G1, hrs, hral, hee, hfrm, himm, hres, houts, hnd, hmay⟩ := he
  have hmy : ∀ b ∈ F1 ++ F2, E.D b ∨ E.w0.heap.size ≤ b := fun b hb => by
    rcases hmay b hb with h1 | h1
    · exact (hFo b h1).2.2
    · exact .inr (Nat.le_trans hs.base.size h1)
  -- the results in their forms
  have hres' : B2s μ'' (hf w') F1 G1 as ws := b2s_sim hres (by rw [hasl, hral]; simp) fun i r a hr ha => by
    have := hass i a ha
    have hlt : i < ra.length := (List.getElem?_eq_some_iff.1 hr).1
    have hce : cellAt rs (0 + i) = r := by
      rw [Nat.zero_add, hrs, cellAt, List.getD_eq_getElem?_getD, List.getElem?_append_left hlt, hr]; rfl
    rwa [hce] at this
  let ro' : List AV := List.zipWith (fun (o : Nat × List AV) cs => AV.ob o.1 cs) (obsOf bs) os
  have hrl := o1.len
  have hrol : ro.length = (obsOf bs).length := by rw [← houts.len, hrl.1, hrl.2]
  have hro'l : ro'.length = ro.length := by
    simp only [ro', List.length_zipWith, hosl, Nat.min_self, hrol]
  have hro' : ∀ (i : Nat) (o : Nat × List AV), (obsOf bs)[i]? = some o → ∃ cs cs', ro[i]? = some (.ob o.1 cs) ∧ ro'[i]? = some (.ob o.1 cs') ∧ os[i]? = some cs' ∧ cs'.length = o.2.length ∧ Sims cs cs' := fun i o ho => by
    obtain ⟨cs, cs', a1, a2, a3, a4⟩ := hoss i o ho
    refine ⟨cs, cs', ?_, ?_, a2, by rw [a4.1, a3], a4⟩
    · rw [hrs, ← hral, List.getElem?_append_right (by omega), Nat.add_sub_cancel_left] at a1
      exact a1
    · simp only [ro', List.getElem?_zipWith, ho, a2]
  have houts' : B1s μ'' (hf w') F2 G ro' G := roots_sim houts hro'l fun i r r' hr hr' => by
    have hlt : i < (obsOf bs).length := by rw [← hrol]; exact (List.getElem?_eq_some_iff.1 hr).1
    obtain ⟨cs, cs', a1, a2, _, _, a5⟩ := hro' i _ (List.getElem?_eq_getElem hlt)
    rw [hr] at a1; injection a1 with a1
    rw [hr'] at a2; injection a2 with a2
    exact ⟨_, cs, cs', a1, a2, a5⟩
  -- the caller's state behind the call
  have hinfo2 : ∀ b o, μ'' b = some o → μ' b = some o ∨ b ∈ F ∨ w.heap.size ≤ b := hfrm.muNew
  have st : ∃ μ3, MuLe μ μ3 ∧ SR E μ3 ρ σx w' ∧ B2s μ3 (hf w') F1 G1 as ws ∧ B1s μ3 (hf w') F2 G ro' G ∧ (∀ b, Own σx ρ b → Own σ1 ρ b) ∧ (callQ P C f = true → ∀ b o, μ3 b = some o → μ b = some o ∨ w.heap.size ≤ b) := by
    have general : ∀ (σy : Store), SR E μ' ρ σy w → (∀ b, Own σy ρ b → Own σ1 ρ b) → SR E μ'' ρ σy w' := fun σy hsy ho => by
      have h1 := sr_after hsy hfrm fun b hb => ⟨fun hob => (x1.own b hb).2 (ho b hob), (hFo b hb).2.2, hFnone b hb⟩
      refine sr_mu h1 hfrm.mu himm (fun b hob => ?_) fun b o hb => ?_
      · obtain ⟨n1, n2, _⟩ := own_none hsy hob
        cases e : μ'' b with
        | none => rfl
        | some o =>
          rcases hinfo2 b o e with h2 | h2 | h2
          · rw [n1] at h2; cases h2
          · exact absurd (ho b hob) (x1.own b h2).2
          · omega
      · rcases hinfo2 b o hb with h2 | h2 | h2
        · exact .inl h2
        · exact .inr (hFo b h2).2.2
        · exact .inr (.inr (Nat.le_trans hs.base.size h2))
    cases how : ownsAny σ L with
    | false =>
      have hμ : ∀ b o, μ' b = some o → μ b = some o := fun b o hb => by
        rcases hinfo b o hb with h1 | ⟨l, hl, rb, k, h1, h2, h3, h4, h5⟩
        · exact h1
        · obtain ⟨k0, e1, e2⟩ := x1.blk l k h2
          have : k0.mode = 1 := by
            rcases e2 with e2 | e2
            · rw [← e2]; exact h3
            · rw [e2] at h3; cases h3
          rw [ownsAny_in hl e1 this] at how; cases how
      have hμe : μ' = μ := by
        funext b
        cases e : μ' b with
        | none =>
          cases e2 : μ b with
          | none => rfl
          | some o => rw [hle b o e2] at e; cases e
        | some o => exact (hμ b o e).symm
      have hx : σx = σ1 := by rw [← hσx, how]; rfl
      rw [hx]
      refine ⟨μ'', hle.trans hfrm.mu, general σ1 (hμe ▸ x1.sr) (fun _ h => h), hres', houts', fun _ h => h, fun e b o hb => ?_⟩
      obtain ⟨_, q2, _⟩ := hq0 (hq e).1
      rcases hinfo2 b o hb with h2 | h2 | h2
      · exact .inl (hμ b o h2)
      · rw [q2] at h2; cases h2
      · exact .inr h2
    | true =>
      cases hlk' : leak with
      | true =>
        have hx : σx = freezeAll σ1 L := by rw [← hσx, how, hlk']; rfl
        rw [hx]
        refine ⟨μ'', hle.trans hfrm.mu, general _ hsf hownf, hres', houts', hownf, fun e => ?_⟩
        have := (hqs e).2.2.2
        rw [hlk'] at this; cases this
      | false =>
        have hx : σx = σ1 := by rw [← hσx, hlk', Bool.and_false]; rfl
        rw [hx]
        rw [how, hlk'] at hchk
        simp only [Bool.not_true, Bool.false_or, Bool.and_eq_true] at hchk
        obtain ⟨p1, p2⟩ := hchk
        have hmle : MuLe μ μ'' := hle.trans hfrm.mu
        refine ⟨μ, MuLe.refl μ, sr_after x1.sr hfrm fun b hb => ⟨(x1.own b hb).2, (hFo b hb).2.2, (hFo b hb).1⟩, plain_b2s hmle hres' (allB_mem p1), plain_b1s hmle houts' fun a ha => ?_, fun _ h => h, fun _ b o hb => .inl hb⟩
        obtain ⟨i, hi⟩ := List.getElem?_of_mem ha
        have hlt : i < (obsOf bs).length := by rw [← hrol, ← hro'l]; exact (List.getElem?_eq_some_iff.1 hi).1
        obtain ⟨cs, cs', _, a2, a3, _⟩ := hro' i _ (List.getElem?_eq_getElem hlt)
        rw [hi] at a2; injection a2 with a2; subst a2
        exact allB_mem p2 _ (List.mem_of_getElem? a3)
  obtain ⟨μ3, m1, m2, m3, m4, m5, m6⟩ := st
  have hrx : Roots σx ρ F roots G (obsOf bs) := o1.move fun l g o _ hr => by
    obtain ⟨rb, k, f1, f2, f3, f4, f5⟩ := hr
    refine ⟨rb, k, f1, f2, ?_, f4, f5⟩
    rw [← hσx]
    cases (ownsAny σ L && leak) with
    | false => exact f3
    | true =>
      rw [cond_true]
      rcases (freezeAll_get L σ1 l).2 with e | ⟨k0, e1, e2, _⟩
      · rw [e]; exact f3
      · rw [f3] at e1; injection e1 with e1; subst e1; exact absurd f4 e2
  have hFree : Free E ρ σx (F2 ++ F1) := by
    obtain ⟨n1, n2, n3⟩ := List.nodup_append.1 hnd
    refine ⟨List.nodup_append.2 ⟨n2, n1, fun a ha b hb e => n3 b hb a ha e.symm⟩, fun b hb ho => ?_, fun b hb => hmy b (by simp at hb ⊢; exact hb.symm)⟩
    rcases hmay b (by simp at hb ⊢; exact hb.symm) with h1 | h1
    · exact (x1.own b h1).2 (m5 b ho)
    · have := (own_none x1.sr (m5 b ho)).2.1
      omega
  obtain ⟨ρ2, bk⟩ := backs_sound m2 hrx m4 (fun i o ho => by
    obtain ⟨cs, cs', _, a2, a3, a4, _⟩ := hro' i o ho
    exact ⟨cs', a2, a3, a4⟩) hFree.left (m := σ3.length) (by rw [hlenx]; exact hfr) hbk hlen3
  have hFree2 : Free E ρ2 σ2 F1 := by
    obtain ⟨_, n2, n3⟩ := List.nodup_append.1 hFree.nodup
    refine ⟨n2, fun b hb ho => ?_, fun b hb => hFree.may b (by simp [hb])⟩
    rcases bk.own b ho with h1 | h1
    · exact hFree.not b (by simp [hb]) h1
    · exact n3 b h1 b hb rfl
  have hfr2 : FreshTo ρ2 σ2.length σ3.length := fun l h1 h2 => by
    cases e : ρ2 l with
    | none => rfl
    | some rb =>
      rcases bk.dom l rb e with h3 | ⟨_, h3, _⟩
      · rw [hfr l (by omega) h2] at h3; cases h3
      · omega
  obtain ⟨ρ3, i3, v3, _⟩ := impArgs_sound bk.sr m3 hFree2 hfr2 himp (Nat.le_refl _)
  have hvsl : vs.length = fn.resultTypes.size := by
    rw [← v3.1, m3.len, hasl]; simp
  refine ⟨_, μ3, ρ3, hee, ⟨m1, bk.rho.trans i3.rho, by omega, fun l rb hl => ?_, fun e b hb => ?_, hfrm.size, m6⟩, ret_vr v3 hvsl, i3.sr⟩
  · have hnew : rb.ph = true ∨ rb.b ∈ F1 ++ F2 → callQ P C f = true → rb.ph = true ∨ w.heap.size ≤ rb.b := fun h1 e => by
      obtain ⟨_, q2, _⟩ := hq0 (hq e).1
      rcases h1 with h1 | h1
      · exact .inl h1
      · rcases hmay _ h1 with h2 | h2
        · rw [q2] at h2; cases h2
        · exact .inr h2
    rcases i3.dom l rb hl with h1 | ⟨h1, h2, h3⟩
    · rcases bk.dom l rb h1 with h4 | ⟨h4, h5, h6⟩
      · exact .inl h4
      · exact .inr ⟨by omega, by omega, hnew (h6.imp id fun h => by simp [h])⟩
    · exact .inr ⟨by omega, h2, hnew (h3.imp id fun h => by simp [h])⟩
  · obtain ⟨_, q2, _⟩ := hq0 (hq e).1
    exact hfrm.keep b hb (by rw [q2]; simp)

theorem evCall_sound (HS : CallS P call) (HI : InlS P inl) : CallHyp P C call inl := by
  intro R σ K r f args h
  unfold evCall at h
  split at h
  · cases h
  · rename_i fn hfn
    obtain ⟨hb, h⟩ := cond_some' h
    simp only [Bool.or_eq_false_iff] at hb
    rcases cond_or h with ⟨hinl, h⟩ | ⟨hinl, h⟩
    · obtain ⟨fn', vs, σ', e1, e2, e3, e4, e5⟩ := HI R f args σ _ r h
      rw [hfn] at e1; injection e1 with e1; subst e1
      have hq : callQ P C f = false := by simp only [callQ, hfn, hinl, Bool.true_or, Bool.not_true]
      refine ⟨_, σ', e2, e3, fun e => (by rw [hq] at e; cases e), ⟨fn, hfn, hb⟩, fun E μ ρ vals w hvl hv hs _ hd => ?_⟩
      refine (e5 E μ ρ vals w ⟨hvl, hv⟩ hs (hd hq)).mono fun e w' he => ?_
      obtain ⟨ws, μ', ρ', a1, a2, a3, a4⟩ := he
      exact ⟨_, μ', ρ', a1, by rw [hq]; exact a2, ret_vr a3 e4, a4⟩
    · split at h
      · cases h
      · rename_i bs σ1 roots hexp
        obtain ⟨hlive, h⟩ := cond_some' h
        obtain ⟨av, σ', k1, k2, k3, k4⟩ := evCall_far HS hfn hinl hexp (by simp only [Bool.not_eq_false'] at hlive; exact hlive) h
        exact ⟨av, σ', k1, k2, k3, ⟨fn, hfn, hb⟩, fun E μ ρ vals w hvl hv hs hf _ => k4 E μ ρ vals w hvl hv hs hf⟩

theorem inlD_sound (hmix : P.follows .mixedOrders = true) (HS : CallS P call) : ∀ k, InlS P (inlD P C call k)
  | 0 => fun R f args σ K r h => by cases h
  | k + 1 => inlBody_sound hmix (evCall_sound HS (inlD_sound hmix HS k))

/-- What is told of functions is so. -/
def ExtS (P : Program) (C : Cfg) : Prop := CallS P fun f as => evTop C f as none
theorem extS_none (h : ∀ f, C.ext f = none) : ExtS P C := fun f bs rs e => by
  simp only [evTop, h] at e; cases e
theorem top_sound (hx : ExtS P C) (HS : CallS P call) : CallS P fun f as => evTop C f as (call f as) := fun f bs rs e => by
  cases h : C.ext f with
  | none => simp only [evTop, h] at e; exact HS f bs rs e
  | some g => exact hx f bs rs (by simp only [evTop, h] at e ⊢; exact e)
/-- Every call that the evaluator answers is answered so by the code. -/
theorem evF_sound (hmix : P.follows .mixedOrders = true) (hx : ExtS P C) : ∀ n, CallS P (evF P C n)
  | 0 => fun f bs rs h => by cases h
  | n + 1 => top_sound hx (evBody_sound hmix (evCall_sound (evF_sound hmix hx n) (inlD_sound hmix (evF_sound hmix hx n) 5)) n)
/-- What the evaluator itself answers may be told. -/
theorem extS_ev {C' : Cfg} (hmix : P.follows .mixedOrders = true) (hx : ExtS P C') (h : ∀ f g as rs, C.ext f = some g → g as = some rs → ∃ n, evF P C' n f as = some rs) : ExtS P C := fun f bs rs e => by
  cases hg : C.ext f with
  | none => simp only [evTop, hg] at e; cases e
  | some g =>
    simp only [evTop, hg] at e
    obtain ⟨n, hn⟩ := h f g bs rs hg e
    exact evF_sound hmix hx n f bs rs hn
end
end Go.Ev
