/- Regions in any order: what each operation needs of the store. -/
import Derived.Test.YtokagdgcfmjlnaaEv20
set_option linter.all false
namespace Go.Ev

/-! ## Laying over -/
theorem fold_len (s : Store) : ∀ (W : List Nat) (τ : Store), (W.foldl (layL s) τ).length = τ.length
  | [], _ => rfl
  | x :: W, τ => by
    simp only [List.foldl_cons]
    rw [fold_len s W]
    unfold layL
    split <;> simp
theorem fold_get (s : Store) : ∀ (W : List Nat) (τ : Store) (l : Nat), l < τ.length → l < s.length → (W.foldl (layL s) τ)[l]? = if inL l W = true then s[l]? else τ[l]?
  | [], _, _, _, _ => rfl
  | x :: W, τ, l, h, hs => by
    simp only [List.foldl_cons]
    rw [fold_get s W _ l (by unfold layL; split <;> simpa using h) hs]
    unfold layL
    by_cases e : inL l W = true
    · rw [if_pos e, if_pos (by rw [inL, e, Bool.or_true])]
    · rw [if_neg e]
      by_cases e2 : x = l
      · subst e2
        rw [if_pos (by rw [inL, Nat.beq_refl]; rfl), List.getElem?_eq_getElem hs]
        simp [h]
      · have : inL l (x :: W) ≠ true := by
          show ¬ ((Nat.beq l x || inL l W) = true)
          rw [Bool.or_eq_true]
          rintro (h1 | h1)
          · exact e2 (Nat.eq_of_beq_eq_true h1).symm
          · exact e h1
        rw [if_neg this]
        split
        · rw [List.getElem?_set_ne e2]
        · rfl
theorem mix_len {τ s : Store} {W : List Nat} (h : τ.length ≤ s.length) : (mixL τ s W).length = s.length := by
  simp only [mixL, List.length_append, fold_len, List.length_drop]; omega
theorem mix_get {τ s : Store} {W : List Nat} {l : Nat} (hl : l < τ.length) (h : τ.length ≤ s.length) : (mixL τ s W)[l]? = if inL l W = true then s[l]? else τ[l]? := by
  unfold mixL
  rw [List.getElem?_append_left (by rw [fold_len]; exact hl)]
  exact fold_get s W τ l hl (by omega)
theorem mix_hi {τ s : Store} {W : List Nat} {l : Nat} (hl : τ.length ≤ l) : (mixL τ s W)[l]? = s[l]? := by
  unfold mixL
  rw [List.getElem?_append_right (by rw [fold_len]; exact hl), fold_len, List.getElem?_drop]
  congr 1; omega

section
variable {P : Program} {C : Cfg} {call : CallT} {inl : InlT}

/-- What an operation that is carried out does to the store, whatever else lies in it. -/
structure StepY (P : Program) (C : Cfg) (o : Oper) (f : Foot) (fr : List (Nat × AV)) (σ : Store) (av : AV) (σ' : Store) : Prop where
  len : σ.length ≤ σ'.length
  keep : ∀ l, l < σ.length → inP f.put l = false → σ'[l]? = σ[l]?
  nw : f.nw = false → σ'.length = σ.length
  loud : isFn o = true → quietB P C o = false → f.put = none
  snd : ∀ τ : Store, τ.length = σ.length → (∀ l, inP f.look l = true → τ[l]? = σ[l]?) → ∃ τ' : Store, τ'.length = σ'.length ∧ (∀ l, l < σ.length → inP f.put l = false → τ'[l]? = τ[l]?) ∧
    (∀ l, (σ.length ≤ l ∨ inP f.put l = true) → τ'[l]? = σ'[l]?) ∧ OpSnd P (quietB P C o) o fr τ av τ'

theorem foot_cases {o : Oper} {fr : List (Nat × AV)} {σ : Store} : footOf P C o fr σ = .top ∨ (∃ L W m, footOf P C o fr σ = ⟨some L, some W, m⟩ ∧ isFn o = false) ∨ (footOf P C o fr σ = ⟨none, some [], true⟩ ∧ isFn o = true ∧ quietB P C o = true) := by
  cases ho : o.op with
  | call c =>
    simp only [footOf, isFn, ho]
    split
    · rename_i hc
      split
      · exact .inr (.inl ⟨_, _, _, rfl, by simp only [hc]⟩)
      · exact .inl rfl
    · rename_i hc
      split
      · exact .inr (.inl ⟨_, _, _, rfl, by simp only [hc]⟩)
      · exact .inl rfl
    · rename_i hc
      split
      · exact .inr (.inl ⟨_, _, _, rfl, by simp only [hc]⟩)
      · exact .inl rfl
    · rename_i hc; exact .inr (.inl ⟨_, _, _, rfl, by simp only [hc]⟩)
    · rename_i hc; exact .inr (.inl ⟨_, _, _, rfl, by simp only [hc]⟩)
    · rename_i f hc
      split
      · rename_i fn hfn
        cases hb : (C.inl f || (C.rw f).any id || fn.resultTypes.any (leakT P (C.dat f))) with
        | true => exact .inl rfl
        | false => exact .inr (.inr ⟨rfl, by simp only [hc], by simp only [quietB, opClass, ho, hc, hfn, hb]; rfl⟩)
      · exact .inl rfl
    · exact .inl rfl
  | buildSlice t n ps =>
    simp only [footOf, isFn, ho]
    cases ps.toList.all (fun p => noSl (getO fr p.2)) with
    | true => exact .inr (.inl ⟨_, _, _, rfl, trivial⟩)
    | false => exact .inl rfl
  | store t x y =>
    simp only [footOf, isFn, ho]
    cases noSl (getO fr y) with
    | true => exact .inr (.inl ⟨_, _, _, rfl, trivial⟩)
    | false =>
      simp only [cond_false]
      split
      · split
        · rename_i b _
          cases b.obj with
          | true => exact .inr (.inl ⟨_, _, _, rfl, trivial⟩)
          | false => exact .inl rfl
        · exact .inl rfl
      · exact .inl rfl
  | move x =>
    refine .inr (.inl ?_)
    simp only [footOf, isFn, ho]
    split
    · exact ⟨_, _, _, rfl, trivial⟩
    · simp_all
    · exact ⟨_, _, _, rfl, trivial⟩
    all_goals simp_all
  | assign x =>
    refine .inr (.inl ?_)
    simp only [footOf, isFn, ho]
    split
    all_goals first | exact ⟨_, _, _, rfl, trivial⟩ | simp_all
  | _ => first | (refine .inr (.inl ?_); simp only [footOf, isFn, ho]; exact ⟨_, _, _, rfl, trivial⟩) | (left; simp only [footOf, ho]; done)

theorem nw_cond (c : Bool) {f g : Foot} (hf : f.nw = true) (hg : g.nw = true) : (cond c f g).nw = true := by cases c <;> assumption
/-- What only looks makes no blocks. -/
theorem evOp_same {o : Oper} {fr : List (Nat × AV)} {σ σ' : Store} {av : AV} (hn : (footOf P C o fr σ).nw = false) (h : evOp P C call inl o fr σ pr = some (av, σ')) : σ' = σ := by
  by_cases hc : opClass P C o = 0
  · obtain ⟨av', hk, _⟩ := evOp_pure h hc
    simp only [pr, Option.some.injEq, Prod.mk.injEq] at hk
    exact hk.2.symm
  have fin : ∀ {av' : AV}, pr av' σ = some (av, σ') → σ' = σ := fun hk => by
    simp only [pr, Option.some.injEq, Prod.mk.injEq] at hk
    exact hk.2.symm
  cases ho : o.op with
  | load t x =>
    simp only [evOp, ho] at h
    obtain ⟨_, hk, _⟩ := evLoad_sound h
    exact fin hk
  | indexAddr t x i =>
    simp only [evOp, ho] at h
    obtain ⟨_, hk, _⟩ := evIndexAddr_sound h
    exact fin hk
  | slice t x lo hi mx =>
    cases mx with
    | some m => simp only [evOp, ho] at h; cases h
    | none =>
      simp only [evOp, ho] at h
      obtain ⟨_, hk, _⟩ := evSlice_sound h
      exact fin hk
  | call c =>
    simp only [footOf, ho] at hn
    simp only [evOp, ho] at h
    split at hn
    · rename_i hcal
      simp only [hcal] at h
      split at h
      · obtain ⟨_, hk, _⟩ := evLen_sound h
        exact fin hk
      · cases h
    · split at hn <;> cases hn
    · split at hn <;> cases hn
    · rename_i hcal; exact absurd (by simp only [opClass, ho, hcal]) hc
    · rename_i hcal; exact absurd (by simp only [opClass, ho, hcal]) hc
    · split at hn
      · rw [nw_cond _ rfl rfl] at hn; cases hn
      · cases hn
    · cases hn
  | store t x y =>
    simp only [footOf, ho] at hn
    cases hy : noSl (getO fr y) with
    | true => rw [hy] at hn; cases hn
    | false =>
      rw [hy] at hn
      simp only [cond_false] at hn
      split at hn
      · split at hn
        · rename_i b _
          cases hb : b.obj <;> rw [hb] at hn <;> cases hn
        · cases hn
      · cases hn
  | buildSlice t n ps =>
    simp only [footOf, ho] at hn
    rw [nw_cond _ rfl rfl] at hn; cases hn
  | move x =>
    cases x with
    | const v =>
      cases v with
      | slice a l c => simp only [footOf, ho] at hn; cases hn
      | _ => exact absurd (by simp only [opClass, ho]) hc
    | _ => exact absurd (by simp only [opClass, ho]) hc
  | assign x =>
    cases x with
    | const v =>
      cases v with
      | slice a l c => simp only [footOf, ho] at hn; cases hn
      | _ => exact absurd (by simp only [opClass, ho]) hc
    | _ => exact absurd (by simp only [opClass, ho]) hc
  | _ => first | (simp only [footOf, ho] at hn; cases hn; done) | (exact absurd (by simp only [opClass, ho]) hc)

theorem list_agree {τ σ : Store} (h : ∀ l : Nat, τ[l]? = σ[l]?) : τ = σ := List.ext_getElem? h

theorem evOp_stepY (HC : CallHyp P C call inl) {R : Type} {o : Oper} {fr : List (Nat × AV)} {σ : Store} {K : AV → Store → Option R} {r : R} (h : evOp P C call inl o fr σ K = some r) :
    ∃ av σ', K av σ' = some r ∧ StepY P C o (footOf P C o fr σ) fr σ av σ' := by
  have strict : footOf P C o fr σ = .top ∨ footOf P C o fr σ = ⟨none, some [], true⟩ ∧ quietB P C o = true → ∃ av σ', K av σ' = some r ∧ StepY P C o (footOf P C o fr σ) fr σ av σ' := fun hf => by
    obtain ⟨av, σ', hk, hln, hpre, hs⟩ := evOp_sound HC h
    have hput : ∀ l, inP (footOf P C o fr σ).put l = false → quietB P C o = true := fun l hl => by
      rcases hf with hf | ⟨_, hq⟩
      · rw [hf] at hl; cases hl
      · exact hq
    have hnw : (footOf P C o fr σ).nw = true := by rcases hf with hf | ⟨hf, _⟩ <;> rw [hf] <;> rfl
    have hlook : (footOf P C o fr σ).look = none := by rcases hf with hf | ⟨hf, _⟩ <;> rw [hf] <;> rfl
    have hkeep : ∀ l, l < σ.length → inP (footOf P C o fr σ).put l = false → σ'[l]? = σ[l]? := fun l hl hp => by
      obtain ⟨ν, rfl⟩ := hpre (hput l hp)
      exact List.getElem?_append_left hl
    refine ⟨av, σ', hk, hln, hkeep, fun e => (by rw [hnw] at e; cases e), fun _ hq => ?_, fun τ hτ hag => ?_⟩
    · rcases hf with hf | ⟨_, hq'⟩
      · rw [hf]; rfl
      · rw [hq] at hq'; cases hq'
    · have : τ = σ := list_agree fun l => hag l (by rw [hlook]; rfl)
      subst this
      exact ⟨σ', rfl, hkeep, fun _ _ => rfl, hs⟩
  rcases foot_cases (P := P) (C := C) (o := o) (fr := fr) (σ := σ) with hf | ⟨L, W, m, hf, hfn⟩ | ⟨hf, _, hq⟩
  · exact strict (.inl hf)
  · rw [evOp_nat hfn] at h
    obtain ⟨⟨av, σ'⟩, h1, hk⟩ := Option.bind_eq_some_iff.1 h
    have hfr : ∀ τ : Store, τ.length = σ.length → (∀ l, inL l L = true → τ[l]? = σ[l]?) → evOp P C call inl o fr τ pr = some (av, mixL τ σ' W) := fun τ hτ hag => by
      have := evOp_frame (K := pr) hτ (call := call) (inl := inl) hf (fun l hl => hag l ((inL_mem _).2 hl))
      rw [this, evOp_nat hfn, h1]
      rfl
    have hself := hfr σ rfl fun _ _ => rfl
    rw [h1] at hself
    simp only [Option.some.injEq, Prod.mk.injEq, true_and] at hself
    obtain ⟨av0, σ0, hk0, hln0, _⟩ := evOp_sound HC h1
    simp only [pr, Option.some.injEq, Prod.mk.injEq] at hk0
    obtain ⟨rfl, rfl⟩ := hk0
    rw [hf]
    refine ⟨_, _, hk, hln0, fun l hl hp => ?_, fun e => ?_, fun e => (by rw [hfn] at e; cases e), fun τ hτ hag => ?_⟩
    · rw [hself, mix_get hl hln0]
      have : inL l W = false := hp
      rw [this]; rfl
    · have := evOp_same (P := P) (C := C) (by rw [hf]; exact e) h1
      rw [this]
    · have h2 := hfr τ hτ hag
      have hle : τ.length ≤ σ0.length := by omega
      refine ⟨mixL τ σ0 W, mix_len hle, fun l hl hp => ?_, fun l hl => ?_, ?_⟩
      · rw [mix_get (by omega) hle]
        have : inL l W = false := hp
        rw [this]; rfl
      · rcases Nat.lt_or_ge l τ.length with h3 | h3
        · rcases hl with hl | hl
          · omega
          · rw [mix_get h3 hle]
            have : inL l W = true := hl
            rw [this]; rfl
        · exact mix_hi h3
      · obtain ⟨av1, σ1, hk1, _, _, hs1⟩ := evOp_sound HC h2
        simp only [pr, Option.some.injEq, Prod.mk.injEq] at hk1
        obtain ⟨rfl, rfl⟩ := hk1
        exact hs1
  · exact strict (.inr ⟨hf, hq⟩)

/-- One operation of a region whose order is drawn. -/
def StepD (P : Program) (C : Cfg) (ops : Array Oper) (o : Oper) (t : Trace) (s s' : FM × Store) : Prop :=
  (GuardYes ops o s.1 ∧ ∃ fr av σ', lookF fr = s.1 ∧ s' = (updF s.1 o.dst av, σ') ∧ t.lo = s.2.length ∧ t.hi = σ'.length ∧ StepY P C o t.f fr s.2 av σ') ∨
  (GuardNo ops o s.1 ∧ s' = (updF s.1 o.dst (.v (.tuple #[])), s.2) ∧ t = .no)

theorem evOpsD_chain (HC : CallHyp P C call inl) {R : Type} {ops : Array Oper} {K : St → Option R} {r : R} : ∀ (l : List Oper) (cls : List (List Nat)) (acc : List Trace) (s : St), evOpsD P C call inl ops l cls acc s K = some r →
    ∃ (s' : St) (ts : List Trace) (S : Nat → FM × Store), K s' = some r ∧ ts.length = l.length ∧ S 0 = (lookF s.fr, s.bl) ∧ S l.length = (lookF s'.fr, s'.bl) ∧
      ∀ (i : Nat) (o : Oper) (t : Trace), l[i]? = some o → ts[i]? = some t → StepD P C ops o t (S i) (S (i + 1)) ∧ ∀ (q : Nat) (g : Trace), q < acc.length + i → (acc ++ ts)[q]? = some g → inL q (cls.getD i []) = true ∨ NoClash g t.f
  | [], cls, acc, s, h => ⟨s, [], fun _ => (lookF s.fr, s.bl), h, rfl, rfl, rfl, fun i o t hi => by simp at hi⟩
  | o :: rest, cls, acc, s, h => by
    have next : ∀ (t : Trace) (s1 : St), evOpsD P C call inl ops rest cls.tail (acc ++ [t]) s1 K = some r → StepD P C ops o t (lookF s.fr, s.bl) (lookF s1.fr, s1.bl) →
        (∀ (q : Nat) (g : Trace), acc[q]? = some g → inL q (cls.headD []) = true ∨ NoClash g t.f) →
        ∃ (s' : St) (ts : List Trace) (S : Nat → FM × Store), K s' = some r ∧ ts.length = (o :: rest).length ∧ S 0 = (lookF s.fr, s.bl) ∧ S (o :: rest).length = (lookF s'.fr, s'.bl) ∧
          ∀ (i : Nat) (o' : Oper) (t : Trace), (o :: rest)[i]? = some o' → ts[i]? = some t → StepD P C ops o' t (S i) (S (i + 1)) ∧ ∀ (q : Nat) (g : Trace), q < acc.length + i → (acc ++ ts)[q]? = some g → inL q (cls.getD i []) = true ∨ NoClash g t.f := fun t s1 h1 hst hnc => by
      obtain ⟨s', ts, S, e1, e2, e3, e4, e5⟩ := evOpsD_chain HC rest _ _ s1 h1
      refine ⟨s', t :: ts, fun i => match i with | 0 => (lookF s.fr, s.bl) | i + 1 => S i, e1, by simp [e2], rfl, e4, fun i o' t' hi ht => ?_⟩
      cases i with
      | zero =>
        simp only [List.getElem?_cons_zero, Option.some.injEq] at hi ht
        subst hi; subst ht
        refine ⟨?_, fun q g hq hg => ?_⟩
        · show StepD P C ops o t (lookF s.fr, s.bl) (S 0)
          rw [e3]; exact hst
        · rw [List.getElem?_append_left (by omega)] at hg
          have := hnc q g hg
          cases cls <;> exact this
      | succ i =>
        simp only [List.getElem?_cons_succ] at hi ht
        obtain ⟨h2, h3⟩ := e5 i o' t' hi ht
        refine ⟨h2, fun q g hq hg => ?_⟩
        have := h3 q g (by simp only [List.length_append, List.length_singleton]; omega) (by rw [List.append_assoc]; exact hg)
        cases cls with
        | nil => simpa using this
        | cons c cls => simpa using this
    simp only [evOpsD] at h
    have yes : ∀ (fr : List (Nat × AV)), lookF fr = lookF s.fr → GuardYes ops o (lookF s.fr) → cond (footOk (cls.headD []) (footOf P C o fr s.bl) 0 acc) (evOp P C call inl o fr s.bl fun a σ => evOpsD P C call inl ops rest cls.tail (acc ++ [⟨footOf P C o fr s.bl, s.bl.length, σ.length⟩]) ⟨putF fr o.dst a, σ⟩ K) none = some r →
        ∃ (s' : St) (ts : List Trace) (S : Nat → FM × Store), K s' = some r ∧ ts.length = (o :: rest).length ∧ S 0 = (lookF s.fr, s.bl) ∧ S (o :: rest).length = (lookF s'.fr, s'.bl) ∧
          ∀ (i : Nat) (o' : Oper) (t : Trace), (o :: rest)[i]? = some o' → ts[i]? = some t → StepD P C ops o' t (S i) (S (i + 1)) ∧ ∀ (q : Nat) (g : Trace), q < acc.length + i → (acc ++ ts)[q]? = some g → inL q (cls.getD i []) = true ∨ NoClash g t.f := fun fr hF hg h => by
      obtain ⟨hok, h⟩ := cond_some h
      obtain ⟨av, σ', hk, hs⟩ := evOp_stepY HC h
      refine next _ _ hk (.inl ⟨hg, fr, av, σ', hF, ?_, rfl, rfl, hs⟩) fun q g hq => ?_
      · show (lookF (putF fr o.dst av), σ') = _
        rw [lookF_put, hF]
      · have := footOk_spec acc 0 hok q g hq
        rwa [Nat.zero_add] at this
    have no : ∀ (fr : List (Nat × AV)), lookF fr = lookF s.fr → GuardNo ops o (lookF s.fr) → evOpsD P C call inl ops rest cls.tail (acc ++ [.no]) ⟨putF fr o.dst (.v (.tuple #[])), s.bl⟩ K = some r →
        ∃ (s' : St) (ts : List Trace) (S : Nat → FM × Store), K s' = some r ∧ ts.length = (o :: rest).length ∧ S 0 = (lookF s.fr, s.bl) ∧ S (o :: rest).length = (lookF s'.fr, s'.bl) ∧
          ∀ (i : Nat) (o' : Oper) (t : Trace), (o :: rest)[i]? = some o' → ts[i]? = some t → StepD P C ops o' t (S i) (S (i + 1)) ∧ ∀ (q : Nat) (g : Trace), q < acc.length + i → (acc ++ ts)[q]? = some g → inL q (cls.getD i []) = true ∨ NoClash g t.f := fun fr hF hg h => by
      refine next _ _ h (.inr ⟨hg, ?_, rfl⟩) fun q g _ => .inr (noClash_no g)
      show (lookF (putF fr o.dst _), s.bl) = _
      rw [lookF_put, hF]
    split at h
    · rename_i hg
      exact yes s.fr rfl (.inl hg) h
    · rename_i j want hg
      split at h
      · cases h
      · rename_i oj hoj
        split at h
        · cases h
        · rename_i d hd
          split at h
          · rename_i b hb
            have hput : ∀ c : Bool, b = c → lookF (putF s.fr (some d) (.v (.bool c))) = lookF s.fr := fun c e => by
              rw [lookF_put]; exact updF_self (by rw [hb, e])
            cases want with
            | true =>
              rcases cond_or h with ⟨e, h⟩ | ⟨e, h⟩
              · exact yes _ (hput _ e) (.inr ⟨j, true, oj, d, hg, hoj, hd, by rw [hb, e]⟩) h
              · exact no _ (hput _ e) ⟨j, true, oj, d, hg, hoj, hd, .inl (by rw [hb, e]; rfl)⟩ h
            | false =>
              rcases cond_or h with ⟨e, h⟩ | ⟨e, h⟩
              · exact no _ (hput _ e) ⟨j, false, oj, d, hg, hoj, hd, .inl (by rw [hb, e]; rfl)⟩ h
              · exact yes _ (hput _ e) (.inr ⟨j, false, oj, d, hg, hoj, hd, by rw [hb, e]⟩) h
          · rename_i u hu
            exact no s.fr rfl ⟨j, want, oj, d, hg, hoj, hd, .inr ⟨u, hu⟩⟩ h
          · cases h
end
end Go.Ev
