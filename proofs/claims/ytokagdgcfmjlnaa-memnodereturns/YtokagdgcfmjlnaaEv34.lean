/- Functions. -/
import Derived.Test.YtokagdgcfmjlnaaEv33
set_option linter.all false
namespace Go.Ev

/-- What is known of calls by value. -/
def CallS (P : Program) (call : CallT) : Prop :=
  ∀ (f : FuncId) (bs rs : List AV), call f bs = some rs → ∃ fn, P.funcs[f]? = some fn ∧
    ∀ (w : World) (μ : Mu) (F : List Nat) (G vals : List Value), (∀ b o, μ b = some o → w.heap[b]? = some o) → B2s μ (hf w) F G bs vals → F.Nodup →
      Calls P f vals.toArray w fun e w' => ∃ (ra ro : List AV) (vs : List Value) (μ' : Mu) (F1 F2 : List Nat) (G1 : List Value), rs = ra ++ ro ∧ ra.length = fn.resultTypes.size ∧ e = .returned (retV vs) ∧ Frm ⟨w, (· ∈ F), μ⟩ μ' w' ∧
        (∀ b o, μ' b = some o → w'.heap[b]? = some o) ∧ B2s μ' (hf w') F1 G1 ra vs ∧ B1s μ' (hf w') F2 G ro G ∧ (F1 ++ F2).Nodup ∧ ∀ b ∈ F1 ++ F2, b ∈ F ∨ w.heap.size ≤ b

theorem startFr_look : ∀ (n : Nat) (as : List AV) (t : Nat), lookF (startFr n as) t = if n ≤ t then (as[t - n]?).getD .un else .un
  | n, [], t => by simp [startFr, lookF]
  | n, a :: as, t => by
    simp only [startFr, lookF, startFr_look (n + 1) as t]
    by_cases e : n = t
    · subst e; simp
    · rw [nbeq_false e]
      simp only [cond_false]
      by_cases h : n ≤ t
      · rw [if_pos h, if_pos (by omega)]
        have : t - n = t - (n + 1) + 1 := by omega
        rw [this, List.getElem?_cons_succ]
      · rw [if_neg h, if_neg (by omega)]
theorem lookF_in {A B : List (Nat × AV)} {t : Nat} (h : ∃ a, (t, a) ∈ A) : lookF (A ++ B) t = lookF A t := by
  induction A with
  | nil => obtain ⟨a, h⟩ := h; cases h
  | cons p A ih =>
    obtain ⟨i, x⟩ := p
    simp only [List.cons_append, lookF]
    by_cases e : i = t
    · subst e
      rw [Nat.beq_refl]; rfl
    · rw [nbeq_false e]
      obtain ⟨a, h⟩ := h
      refine ih ⟨a, ?_⟩
      rcases List.mem_cons.1 h with h | h
      · injection h with h1 h2; exact absurd h1.symm e
      · exact h
theorem lookF_out {A B : List (Nat × AV)} {t : Nat} (h : ¬ ∃ a, (t, a) ∈ A) : lookF (A ++ B) t = lookF B t := by
  induction A with
  | nil => rfl
  | cons p A ih =>
    obtain ⟨i, x⟩ := p
    simp only [List.cons_append, lookF]
    have e : i ≠ t := fun e => h ⟨x, by simp [e]⟩
    rw [nbeq_false e]
    exact ih fun ⟨a, ha⟩ => h ⟨a, by simp [ha]⟩
theorem startFr_mem : ∀ (n : Nat) (as : List AV) (t : Nat) (a : AV), (t, a) ∈ startFr n as → n ≤ t ∧ t < n + as.length
  | n, [], t, a, h => by simp [startFr] at h
  | n, x :: as, t, a, h => by
    simp only [startFr, List.mem_cons, Prod.mk.injEq] at h
    rcases h with ⟨h, _⟩ | h
    · subst h; simp
    · have := startFr_mem (n + 1) as t a h
      simp; omega
theorem startFr_has : ∀ (n : Nat) (as : List AV) (t : Nat), n ≤ t → t < n + as.length → ∃ a, (t, a) ∈ startFr n as
  | n, [], t, h1, h2 => by simp at h2; omega
  | n, x :: as, t, h1, h2 => by
    by_cases e : t = n
    · subst e; exact ⟨x, by simp [startFr]⟩
    · obtain ⟨a, ha⟩ := startFr_has (n + 1) as t (by omega) (by simp at h2; omega)
      exact ⟨a, by simp [startFr, ha]⟩

section
variable {P : Program} {C : Cfg} {call : CallT} {inl : InlT} {E : Env} {μ : Mu} {ρ : Rho} {w : World}

/-- The slots when a function is entered. -/
theorem start_FR {G : Nat → Value} {vs rs : List AV} {vals gs : List Value} {n : Nat} (h : VRs μ ρ vs vals) (hr : CRs μ ρ rs gs) (hn : vs.length ≤ n) (hn' : n ≤ 1000000) (hG : ∀ i v, gs[i]? = some v → G (1000000 + i) = v) :
    FR μ ρ G (lookF (startFr 0 vs ++ startFr 1000000 rs)) { tmps := vals.toArray ++ Array.replicate (n - vals.toArray.size) undef, defers := [] } := by
  intro t
  by_cases h1 : t < vs.length
  · rw [lookF_in (startFr_has 0 vs t (Nat.zero_le _) (by omega)), startFr_look, if_pos (Nat.zero_le _), Nat.sub_zero, List.getElem?_eq_getElem h1]
    have hv : t < vals.length := by rw [h.1]; exact h1
    have : slotV G { tmps := vals.toArray ++ Array.replicate (n - vals.toArray.size) undef, defers := [] } t = vals[t] := by
      unfold slotV
      rw [if_pos (by omega)]
      simp only [Array.getD_eq_getD_getElem?]
      rw [Array.getElem?_append_left (by simpa using hv)]
      simp [hv]
    rw [this]
    exact h.2 t _ _ (List.getElem?_eq_getElem h1) (List.getElem?_eq_getElem hv)
  · have : ¬ ∃ a, (t, a) ∈ startFr 0 vs := fun ⟨a, ha⟩ => by have := startFr_mem 0 vs t a ha; omega
    rw [lookF_out this, startFr_look]
    by_cases h2 : 1000000 ≤ t
    · rw [if_pos h2]
      cases e : rs[t - 1000000]? with
      | none => exact .un
      | some r =>
        have hlt : t - 1000000 < gs.length := by rw [hr.1]; exact (List.getElem?_eq_some_iff.1 e).1
        have hg := List.getElem?_eq_getElem hlt
        have := hG _ _ hg
        rw [show 1000000 + (t - 1000000) = t by omega] at this
        unfold slotV
        rw [if_neg (by omega), this]
        exact .c (hr.2 _ _ _ e hg)
    · rw [if_neg h2]; exact .un

theorem frzL_isV (σ : Store) : ∀ {cs : List AV}, cs.all isV = true → frzL σ cs = some (cs, σ)
  | [], _ => rfl
  | c :: cs, h => by
    simp only [List.all_cons, Bool.and_eq_true] at h
    cases c with
    | v x => simp only [frzL, frz, frzL_isV σ h.2]
    | _ => cases h.1
theorem retOuts_gen {f : FuncId} {fn : Func} {nr : Nat} {s : St} {rs : List AV} (h : retOuts P C f fn nr s = some rs) : retGen P C f fn nr s = some rs := by
  unfold retOuts at h
  rcases cond_or h with ⟨hb, h1⟩ | ⟨_, h1⟩
  · clear h
    simp only [Bool.and_eq_true] at hb
    have hn := Nat.eq_of_beq_eq_true hb.2
    clear hb
    subst hn
    have hr : rootsOf s.fr ((List.range 0).map (· + 1000000)) = some [] := rfl
    have key : ∀ v : AV, bigK v = some rs → resVals P s fn.results.toList = some [v] → retGen P C f fn 0 s = some rs := fun v hv hx => by
      unfold bigK at hv
      split at hv
      · rename_i cs
        obtain ⟨h3, h4⟩ := cond_some hv
        obtain rfl := Option.some.inj h4
        unfold retGen
        simp only [hx, hr, expRs, expR1, frzL_isV s.bl h3, expBacks, List.append_nil]
      · cases hv
    split at h1
    · rename_i t hl
      exact key _ h1 (by rw [hl]; rfl)
    · rename_i a t hl
      split at h1
      · rename_i l i j hp
        rw [evLoad_nat] at h1
        obtain ⟨p, hp1, hp2⟩ := Option.bind_eq_some_iff.1 h1
        refine key p.1 hp2 ?_
        have h5 : evLoad P s.bl (fun a _ => some a) t (.ptr l i j) = some p.1 := by rw [evLoad_nat, hp1]; rfl
        rw [hl]
        simp only [resVals, hp, h5]
      · cases h1
    · cases h1
  · exact h1
theorem retOuts_sound {G : Nat → Value} {gs : List Value} {f : FuncId} {fn : Func} {s : St} {a : Act} {n nr : Nat} {rs : List AV} (hr : Rel E .zero G n (lookF s.fr) s.bl a w) (hnr : nr = gs.length) (hG : ∀ i v, gs[i]? = some v → G (1000000 + i) = v) (h : retOuts P C f fn nr s = some rs) :
    a.defers = [] ∧ ∃ (vals : List Value) (ra ro : List AV) (μ' : Mu) (F1 F2 : List Nat) (G1 : List Value), (results fn a.tmps).run P w = .ok (retV vals) w ∧ rs = ra ++ ro ∧ ra.length = fn.results.size ∧ Frm E μ' w ∧ (∀ b o, μ' b = some o → w.heap[b]? = some o) ∧
      B2s μ' (hf w) F1 G1 ra vals ∧ B1s μ' (hf w) F2 gs ro gs ∧ (F1 ++ F2).Nodup ∧ ∀ b ∈ F1 ++ F2, E.D b ∨ E.w0.heap.size ≤ b := by
  obtain ⟨⟨μ, ρ, hf, hs, hd, _⟩, _, hsz, hdf⟩ := hr
  refine ⟨hdf, ?_⟩
  replace h := retOuts_gen h
  unfold retGen at h
  split at h
  · rename_i vs ls h1 h2
    split at h
    · cases h
    · rename_i ra σ1 h3
      split at h
      · cases h
      · rename_i ro σ2 h4
        injection h with h; subst h
        obtain ⟨vals, r1, r2, r3⟩ := results_sound (P := P) (fn := fn) hf hs h1
        obtain ⟨F1, G1, μ1, b1, x1, hl⟩ := expRs_sound hs r2 h3
        obtain ⟨hll, hlk⟩ := rootsOf_sound h2
        have hroots : CRs μ1 ρ (ls.map ptr0) gs := by
          refine ⟨by simp [hll, hnr], fun i u v hu hv => ?_⟩
          rw [List.getElem?_map, Option.map_eq_some_iff] at hu
          obtain ⟨l, hli, e⟩ := hu
          subst e
          have hi : i < nr := by rw [hnr]; exact (List.getElem?_eq_some_iff.1 hv).1
          have hlook := hlk i l (1000000 + i) hli (by simp [hi, Nat.add_comm])
          have := hf (1000000 + i)
          rw [hlook] at this
          unfold slotV at this
          rw [if_neg (by omega), hG i v hv] at this
          exact ((this.mono x1.mu (RhoLe.refl ρ)).cell rfl)
        obtain ⟨F2, b2, x2⟩ := expBacks_sound x1.sr hroots h4
        have hr := x1.trans (x2.ret x1.sr)
        exact ⟨vals, ra, ro, μ1, F1, F2, G1, r1, rfl, hl.trans r3, x2.sr.base, x2.sr.imm, b1, b2, hr.nodup, fun b hb => (own_none hs (hr.own b hb).1).2.2⟩
  · cases h

theorem SR.start (himm : ∀ b o, μ b = some o → w.heap[b]? = some o) (D : Nat → Prop) : SR ⟨w, D, μ⟩ μ (fun _ => none) [] w :=
  ⟨fun l rb k h => (by cases h), fun l l' rb rb' k k' h => (by cases h), fun l rb k h => (by cases h), himm, rfl, rfl, rfl, Nat.le_refl _, fun _ _ _ => rfl, MuLe.refl μ, fun b o h => .inl h⟩

theorem evBody_sound (hmix : P.follows .mixedOrders = true) (HC : CallHyp P C call inl) (n : Nat) : CallS P (evBody P C call inl n) := by
  intro f bs rs h
  unfold evBody at h
  split at h
  · cases h
  · rename_i fn hfn
    split at h
    · rename_i c vs σ roots hb hi
      rcases cond_or h with ⟨_, h⟩ | ⟨hok, h⟩
      · cases h
      refine ⟨fn, hfn, fun w μ F G vals himm hbv hnd => ?_⟩
      simp only [Bool.not_eq_false', Bool.and_eq_true] at hok
      obtain ⟨⟨⟨hd1, hd2⟩, hd3⟩, hd4⟩ := hok
      have hd2 := Nat.le_of_ble_eq_true hd2
      have hd3 := Nat.le_of_ble_eq_true hd3
      have hd4 := Nat.eq_of_beq_eq_true hd4
      have hfree : Free ⟨w, (· ∈ F), μ⟩ (fun _ => none) [] F := ⟨hnd, fun b _ ho => (by obtain ⟨l, rb, k, h, _⟩ := ho; cases h), fun b hb => .inl hb⟩
      obtain ⟨ρ, i1, v1, g1⟩ := impArgs_sound (m := σ.length) (SR.start himm _) hbv hfree (fun _ _ _ => rfl) hi (Nat.le_refl _)
      have hvl : vs.length = bs.length := by rw [← v1.1, hbv.len]
      have hroots : roots.length = G.length := by rw [g1.1]; simp
      have hG : ∀ (i : Nat) (v : Value), G[i]? = some v → (fun t => (G[t - 1000000]?).getD undef) (1000000 + i) = v := fun i v hv => by
        simp only [Nat.add_sub_cancel_left, hv]; rfl
      refine calls_of_wp hfn hb ?_
      have hrel : Rel ⟨w, (· ∈ F), μ⟩ .zero (fun t => (G[t - 1000000]?).getD undef) fn.ntmps (lookF (startFr 0 vs ++ startFr 1000000 (roots.map ptr0))) σ { tmps := vals.toArray ++ Array.replicate (fn.ntmps - vals.toArray.size) undef, defers := [] } w := by
        refine ⟨⟨μ, ρ, start_FR v1 g1 (by omega) hd3 hG, i1.sr, fun l rb hl => ?_, .zero _ _ _⟩, Nat.zero_le _, ?_, rfl⟩
        · rcases i1.dom l rb hl with h | ⟨_, h, _⟩
          · cases h
          · exact h
        · have := v1.1
          simp
          omega
      have fin : ∀ (s : St) (a : Act) (w' : World) (x : Exit), retOuts P C f fn roots.length s = some rs → Rel ⟨w, (· ∈ F), μ⟩ .zero (fun t => (G[t - 1000000]?).getD undef) fn.ntmps (lookF s.fr) s.bl a w' → x = .normal ∨ x = .ret →
          bodyPost P fn (fun e w' => ∃ (ra ro : List AV) (vs : List Value) (μ' : Mu) (F1 F2 : List Nat) (G1 : List Value), rs = ra ++ ro ∧ ra.length = fn.resultTypes.size ∧ e = .returned (retV vs) ∧ Frm ⟨w, (· ∈ F), μ⟩ μ' w' ∧
        (∀ b o, μ' b = some o → w'.heap[b]? = some o) ∧ B2s μ' (hf w') F1 G1 ra vs ∧ B1s μ' (hf w') F2 G ro G ∧ (F1 ++ F2).Nodup ∧ ∀ b ∈ F1 ++ F2, b ∈ F ∨ w.heap.size ≤ b) x a w' := fun s a w' x hret hr hx => by
        obtain ⟨hdf, vals', ra, ro, μ', F1, F2, G1, a1, a2, a3, a4, a5, a6, a7, a8, a9⟩ := retOuts_sound hr hroots hG hret
        rcases hx with hx | hx <;> subst hx <;> exact ⟨hdf, _, a1, ra, ro, vals', μ', F1, F2, G1, a2, a3.trans hd4, rfl, a4, a5, a6, a7, a8, a9⟩
      have HL : LoopHyp P false (evLoop P C call inl (C.roll f) (C.join f) n) := fun c LE retK s r h => ⟨rfl, n, evLoop_sound hmix HC n c LE retK s r h⟩
      rcases evCode_sound hmix HC HL (fun e => by cases e) c _ _ _ _ _ h with ⟨e, s', hk, _, hw⟩ | ⟨_, outs, hk, hw⟩
      · refine wp_mono (hw _ _ _ fn.ntmps _ _ (.inr rfl) hd1 hd3 hrel) fun x a w' hq => ?_
        obtain ⟨hx, hr⟩ := hq
        cases e with
        | normal => exact fin s' a w' x hk hr (.inl hx)
        | exit id => cases hk
        | ret => exact fin s' a w' x hk hr (.inr hx)
      · refine wp_mono (hw _ _ fn.ntmps _ _ hd1 hd3 hrel) fun x a w' hq => ?_
        obtain ⟨hx, s', hret, hr⟩ := hq
        injection hk with hk; subst hk
        exact fin s' a w' x hret hr (.inr hx)
    · cases h

/-- What is known of bodies entered in place. -/
def InlS (P : Program) (inl : InlT) : Prop :=
  ∀ (R : Type) (f : FuncId) (args : List AV) (σ : Store) (K : List AV → Store → Option R) (r : R), inl R f args σ K = some r →
    ∃ fn vs σ', P.funcs[f]? = some fn ∧ K vs σ' = some r ∧ σ.length ≤ σ'.length ∧ vs.length = fn.resultTypes.size ∧
      ∀ (E : Env) (μ : Mu) (ρ : Rho) (vals : List Value) (w : World), VRs μ ρ args vals → SR E μ ρ σ w → DomR ρ σ.length →
        Calls P f vals.toArray w fun e w' => ∃ ws μ' ρ', e = .returned (retV ws) ∧ Grow false μ ρ σ.length w μ' ρ' σ'.length w' ∧ VRs μ' ρ' vs ws ∧ SR E μ' ρ' σ' w'

theorem inlBody_sound (hmix : P.follows .mixedOrders = true) (HC : CallHyp P C call inl) : InlS P (fun R f args σ K => inlBody P C call inl R f args σ K) := by
  intro R f args σ K r h
  simp only at h
  unfold inlBody at h
  split at h
  · cases h
  · rename_i fn hfn
    split at h
    · rename_i c hb
      rcases cond_or h with ⟨_, h⟩ | ⟨hok, h⟩
      · cases h
      simp only [Bool.not_eq_false', Bool.and_eq_true] at hok
      obtain ⟨⟨⟨hd1, hd2⟩, hd3⟩, hd4⟩ := hok
      have hd2 := Nat.le_of_ble_eq_true hd2
      have hd3 := Nat.le_of_ble_eq_true hd3
      have hd4 := Nat.eq_of_beq_eq_true hd4
      have HL : LoopHyp P true (fun _ _ _ _ => none) := fun c LE retK s r h => by cases h
      rcases evCode_sound hmix HC HL (fun _ => rfl) c _ _ _ _ _ h with ⟨e, s', hk, hlen, hw⟩ | ⟨hlf, _⟩
      · have hk' : ∃ vs, resVals P s' fn.results.toList = some vs ∧ K vs s'.bl = some r ∧ e ≠ .exit 0 ∧ (toExit e = .normal ∨ toExit e = .ret) := by
          cases e with
          | exit id => cases hk
          | normal =>
            simp only at hk
            split at hk
            · cases hk
            · rename_i vs hvs; exact ⟨vs, hvs, hk, (fun e => by cases e), .inl rfl⟩
          | ret =>
            simp only at hk
            split at hk
            · cases hk
            · rename_i vs hvs; exact ⟨vs, hvs, hk, (fun e => by cases e), .inr rfl⟩
        obtain ⟨vs, hvs, hk, _, hex⟩ := hk'
        have hvl : ∀ {l : List ResultVar} {vs : List AV}, resVals P s' l = some vs → vs.length = l.length := fun {l} => by
          induction l with
          | nil => intro vs h; simp only [resVals, Option.some.injEq] at h; subst h; rfl
          | cons x l ih =>
            intro vs h
            cases x with
            | tmp t =>
              rw [resVals] at h
              split at h
              · cases h
              · rename_i vs' h'; injection h with h; subst h; simp [ih h']
            | cell a t =>
              rw [resVals] at h
              split at h
              · split at h
                · cases h
                · split at h
                  · cases h
                  · rename_i vs' h'; injection h with h; subst h; simp [ih h']
              · cases h
        refine ⟨fn, vs, s'.bl, hfn, hk, hlen rfl, by rw [hvl hvs, ← hd4]; simp, fun E μ ρ vals w hv hs hd => calls_of_wp hfn hb ?_⟩
        have hrel : Rel E ⟨μ, ρ, σ.length, w.heap.size⟩ (fun _ => undef) fn.ntmps (lookF (startFr 0 args)) σ { tmps := vals.toArray ++ Array.replicate (fn.ntmps - vals.toArray.size) undef, defers := [] } w := by
          refine ⟨⟨μ, ρ, ?_, hs, hd, MuLe.refl μ, RhoLe.refl ρ, fun _ _ _ h => h, Nat.le_refl _⟩, Nat.le_refl _, ?_, rfl⟩
          · have := start_FR (G := fun _ => undef) (rs := []) (gs := []) hv CRs.nil hd2 hd3 (fun i v h => by simp at h)
            simpa [startFr] using this
          · have := hv.1
            simp
            omega
        refine wp_mono (hw E _ _ fn.ntmps _ _ (.inl rfl) hd1 hd3 hrel) fun x a w' hq => ?_
        obtain ⟨hx, ⟨μ', ρ', hf, hs', hdm, hsin⟩, hbase, hsz, hdf⟩ := hq
        obtain ⟨ws, r1, r2, _⟩ := results_sound (P := P) (fn := fn) hf hs' hvs
        have hpost : a.defers = [] ∧ ∃ v, (results fn a.tmps).run P w' = .ok v w' ∧ ∃ ws μ' ρ', Ending.returned v = .returned (retV ws) ∧ Grow false μ ρ σ.length w μ' ρ' s'.bl.length w' ∧ VRs μ' ρ' vs ws ∧ SR E μ' ρ' s'.bl w' := by
          refine ⟨hdf, _, r1, ws, μ', ρ', rfl, ⟨hsin.mu, hsin.rho, hlen rfl, fun l rb hl => ?_, fun e => (by cases e), hsin.size, fun e => (by cases e)⟩, r2, hs'⟩
          rcases Nat.lt_or_ge l σ.length with h1 | h1
          · exact .inl (hsin.dom l rb h1 hl)
          · exact .inr ⟨h1, hdm l rb hl, fun e => by cases e⟩
        rw [hx]
        rcases hex with hex | hex <;> rw [hex] <;> exact hpost
      · cases hlf
    · cases h
end
end Go.Ev
