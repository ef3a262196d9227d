/- One operation, whatever it is; calls by what is known of them. -/
import Derived.Test.YtokagdgcfmjlnaaEv16
set_option linter.all false
namespace Go.Ev

def DomR (ρ : Rho) (n : Nat) : Prop := ∀ l rb, ρ l = some rb → l < n
def OpsR (μ : Mu) (ρ : Rho) (fr : List (Nat × AV)) (a : Act) (o : Oper) : Prop := ∀ x ∈ o.op.operands, VR μ ρ (getO fr x) (a.eval x)

/-- A call of a function. -/
def isFn (o : Oper) : Bool :=
  match o.op with
  | .call c => match c.callee with | .value _ => true | _ => false
  | _ => false
/-- An operation that yields av and leaves the store σ' is carried out as that. -/
def OpSnd (P : Program) (q : Bool) (o : Oper) (fr : List (Nat × AV)) (σ : Store) (av : AV) (σ' : Store) : Prop :=
  ∀ (E : Env) (μ : Mu) (ρ : Rho) (a : Act) (w : World) (next : Act → World → Prop) (Q : Exit → Act → World → Prop), OpsR μ ρ fr a o → SR E μ ρ σ w → FreshTo ρ σ.length σ'.length → (q = false → isFn o = true → DomR ρ σ.length) →
    (∀ (v : Value) (w' : World) (μ' : Mu) (ρ' : Rho), Grow q μ ρ σ.length w μ' ρ' σ'.length w' → VR μ' ρ' av v → SR E μ' ρ' σ' w' → next (a.put o.dst v) w') → o.wp P a w next Q

def callQ (P : Program) (C : Cfg) (f : FuncId) : Bool :=
  match P.funcs[f]? with
  | some fn => !(C.inl f || (C.rw f).any id || fn.resultTypes.any (leakT P (C.dat f)))
  | none => false

/-- What is known of calls. -/
def CallHyp (P : Program) (C : Cfg) (call : CallT) (inl : InlT) : Prop :=
  ∀ (R : Type) (σ : Store) (K : AV → Store → Option R) (r : R) (f : FuncId) (args : List AV), evCall P C call inl σ K f args = some r →
    ∃ av σ', K av σ' = some r ∧ σ.length ≤ σ'.length ∧ (callQ P C f = true → ∃ τ, σ' = σ ++ τ) ∧ (∃ fn, P.funcs[f]? = some fn ∧ fn.body.isNone = false ∧ (fn.name == "runtime.NumGoroutine") = false) ∧
      ∀ (E : Env) (μ : Mu) (ρ : Rho) (vals : List Value) (w : World), vals.length = args.length → (∀ (k : Nat) (a : AV) (v : Value), args[k]? = some a → vals[k]? = some v → VR μ ρ a v) → SR E μ ρ σ w → FreshTo ρ σ.length σ'.length → (callQ P C f = false → DomR ρ σ.length) →
        Calls P f vals.toArray w fun e w' => ∃ v μ' ρ', e = .returned v ∧ Grow (callQ P C f) μ ρ σ.length w μ' ρ' σ'.length w' ∧ VR μ' ρ' av v ∧ SR E μ' ρ' σ' w'

section
variable {P : Program} {C : Cfg} {call : CallT} {inl : InlT} {o : Oper} {fr : List (Nat × AV)} {σ : Store} {R : Type} {K : AV → Store → Option R} {r : R}

def quietB (P : Program) (C : Cfg) (o : Oper) : Bool := !(Nat.beq (opClass P C o) 2)

theorem snd_value {q : Bool} {av : AV} {σ' : Store} (h : ∀ (E : Env) (μ : Mu) (ρ : Rho) (a : Act) (w : World), OpsR μ ρ fr a o → SR E μ ρ σ w → FreshTo ρ σ.length σ'.length →
    ∃ v w' μ' ρ', (execOp a.eval o).run P w = .ok (.value v) w' ∧ Grow q μ ρ σ.length w μ' ρ' σ'.length w' ∧ VR μ' ρ' av v ∧ SR E μ' ρ' σ' w') : OpSnd P q o fr σ av σ' := by
  intro E μ ρ a w next Q hx hs hf _ hn
  obtain ⟨v, w', μ', ρ', h1, h2, h3, h4⟩ := h E μ ρ a w hx hs hf
  unfold Oper.wp
  rw [h1]
  exact hn v w' μ' ρ' h2 h3 h4
theorem snd_skip {q : Bool} {av : AV} {σ' : Store} (h : ∀ (E : Env) (μ : Mu) (ρ : Rho) (a : Act) (w : World), OpsR μ ρ fr a o → SR E μ ρ σ w → FreshTo ρ σ.length σ'.length →
    ∃ w' μ' ρ', (execOp a.eval o).run P w = .ok .skip w' ∧ Grow q μ ρ σ.length w μ' ρ' σ'.length w' ∧ VR μ' ρ' av undef ∧ SR E μ' ρ' σ' w') : OpSnd P q o fr σ av σ' := by
  intro E μ ρ a w next Q hx hs hf _ hn
  obtain ⟨w', μ', ρ', h1, h2, h3, h4⟩ := h E μ ρ a w hx hs hf
  unfold Oper.wp
  rw [h1]
  exact hn undef w' μ' ρ' h2 h3 h4
theorem snd_read {q : Bool} {av : AV} (h : ∀ (E : Env) (μ : Mu) (ρ : Rho) (a : Act) (w : World), OpsR μ ρ fr a o → SR E μ ρ σ w → ∃ v, (execOp a.eval o).run P w = .ok (.value v) w ∧ VR μ ρ av v) : OpSnd P q o fr σ av σ :=
  snd_value fun E μ ρ a w hx hs _ => let ⟨v, h1, h2⟩ := h E μ ρ a w hx hs; ⟨v, w, μ, ρ, h1, .refl _ _ _ _ _, h2, hs⟩

/-- What an operation comes to. -/
def OpOut (P : Program) (C : Cfg) (o : Oper) (fr : List (Nat × AV)) (σ : Store) (K : AV → Store → Option R) (r : R) : Prop :=
  ∃ av σ', K av σ' = some r ∧ σ.length ≤ σ'.length ∧ (quietB P C o = true → ∃ τ, σ' = σ ++ τ) ∧ OpSnd P (quietB P C o) o fr σ av σ'

theorem out_read {av : AV} (hk : K av σ = some r) (h : ∀ (E : Env) (μ : Mu) (ρ : Rho) (a : Act) (w : World), OpsR μ ρ fr a o → SR E μ ρ σ w → ∃ v, (execOp a.eval o).run P w = .ok (.value v) w ∧ VR μ ρ av v) : OpOut P C o fr σ K r :=
  ⟨av, σ, hk, Nat.le_refl _, fun _ => ⟨[], by simp⟩, snd_read h⟩

theorem phantom_out {e : TypeId} {x : Operand} (ho : o.op = .move x ∨ o.op = .assign x) (hn : x = .const (.slice none 0 0)) (hk : K (phantom P σ e).1 (phantom P σ e).2 = some r) : OpOut P C o fr σ K r := by
  refine ⟨_, _, hk, by simp [phantom], fun _ => ⟨_, rfl⟩, snd_value fun E μ ρ a w hxx hs hf => ?_⟩
  have hfr : Fresh ρ σ := hf.fresh (by simp [phantom])
  obtain ⟨_, hs'⟩ := hs.phantom hfr e (P.cellsOf e)
  refine ⟨.slice none 0 0, w, μ, _, ?_, grow_add hfr _ _ w (fun _ => .inl rfl) (fun _ _ _ => rfl) (Nat.le_refl _), .c (.sln (rhoAdd_same ρ σ.length ⟨0, 0, P.cellsOf e, 0, true⟩) rfl rfl (fun n hn => by cases hn)), hs'⟩
  subst hn
  rcases ho with ho | ho <;> simp [execOp, ho, Act.eval]

theorem run_skip {P : Program} {s : Sem Unit} {w w' : World} (h : s.run P w = .ok () w') : (do s; pure .skip : Sem Next).run P w = .ok .skip w' := by
  simp only [Sem.run_bind, h, Result.andThen_ok, Sem.run_pure]

theorem opsr_getElem {parts : Array (Nat × Operand)} {μ : Mu} {ρ : Rho} {a : Act} (h : ∀ x ∈ (parts.toList.map (·.2)).toArray, VR μ ρ (getO fr x) (a.eval x)) :
    (parts.toList.map fun (i, x) => (i, getO fr x)).length = (parts.map fun (i, x) => (i, a.eval x)).size ∧
      ∀ (q i : Nat) (av : AV), (parts.toList.map fun (i, x) => (i, getO fr x))[q]? = some (i, av) → ∃ v : Value, (parts.map fun (i, x) => (i, a.eval x)).toList[q]? = some (i, v) ∧ VR μ ρ av v := by
  refine ⟨by simp, fun q i av hq => ?_⟩
  simp only [List.getElem?_map, Option.map_eq_some_iff] at hq
  obtain ⟨⟨i', x⟩, h1, h2⟩ := hq
  simp only [Prod.mk.injEq] at h2
  obtain ⟨e1, e2⟩ := h2; subst e1; subst e2
  refine ⟨a.eval x, ?_, h x ?_⟩
  · simp only [Array.toList_map, List.getElem?_map, h1, Option.map_some]
  · simp only [List.mem_toArray, List.mem_map]
    exact ⟨(i', x), List.mem_of_getElem? h1, rfl⟩

theorem mem2 {x y z : Operand} (h : z = x ∨ z = y) : z ∈ (#[x, y] : Array Operand) := by
  rcases h with h | h <;> simp [h]
theorem mem1 {x : Operand} : x ∈ (#[x] : Array Operand) := by simp

theorem quiet_slice {t : TypeId} (ho : (∃ n ps, o.op = .buildSlice t n ps) ∨ (∃ x y, o.op = .makeSlice t x y)) (hq : quietB P C o = true) : rowQ P t = true := by
  rcases ho with ⟨n, ps, ho⟩ | ⟨x, y, ho⟩ <;>
  · simp only [quietB, opClass, ho] at hq
    split at hq
    · rename_i e hu
      rw [rowQ, hu]
      cases hp : plainT P e with
      | true => exact hp
      | false => rw [hp] at hq; cases hq
    · cases hq

theorem grow_q {q q' : Bool} {μ μ' : Mu} {ρ ρ' : Rho} {n n' : Nat} {w w' : World} (hq : q = true → q' = true) (h : Grow q' μ ρ n w μ' ρ' n' w') : Grow q μ ρ n w μ' ρ' n' w' := by
  cases q with
  | true => rw [hq rfl] at h; exact h
  | false =>
    cases q' with
    | true => exact h.loud
    | false => exact h

theorem evOp_sound (HC : CallHyp P C call inl) (h : evOp P C call inl o fr σ K = some r) : OpOut P C o fr σ K r := by
  by_cases hc : opClass P C o = 0
  · obtain ⟨av, hk, hp⟩ := evOp_pure h hc
    exact out_read hk fun E μ ρ a w hx _ => hp μ ρ a w hx
  cases ho : o.op with
  | move x =>
    simp only [evOp, ho] at h
    split at h
    · split at h
      · exact phantom_out (.inl ho) rfl h
      · cases h
    · exact out_read h fun E μ ρ a w hx _ => move_pure (.inl ho) μ ρ a w hx
  | assign x =>
    simp only [evOp, ho] at h
    split at h
    · split at h
      · exact phantom_out (.inr ho) rfl h
      · cases h
    · exact out_read h fun E μ ρ a w hx _ => move_pure (.inr ho) μ ρ a w hx
  | alloc t =>
    simp only [evOp, ho] at h
    obtain ⟨av, τ, hk, hs⟩ := evAlloc_sound h
    have hq : quietB P C o = true := by simp only [quietB, opClass, ho]; rfl
    refine ⟨av, _, hk, by simp, fun _ => ⟨τ, rfl⟩, snd_value fun E μ ρ a w _ hsr hf => ?_⟩
    obtain ⟨v, w', ρ', h1, h2, h3, h4⟩ := hs E μ ρ w hsr hf
    exact ⟨v, w', μ, ρ', by simp only [execOp, ho]; exact run_value h1, by rw [hq]; exact h2, h3, h4⟩
  | box t x =>
    simp only [evOp, ho] at h
    obtain ⟨av, τ, hk, hs⟩ := evBox_sound h
    have hq : quietB P C o = true := by simp only [quietB, opClass, ho]; rfl
    refine ⟨av, _, hk, by simp, fun _ => ⟨τ, rfl⟩, snd_value fun E μ ρ a w hx hsr hf => ?_⟩
    obtain ⟨v, w', ρ', h1, h2, h3, h4⟩ := hs E μ ρ _ w (hx x (by rw [ho]; exact mem1)) hsr hf
    exact ⟨v, w', μ, ρ', by simp only [execOp, ho]; exact run_value h1, by rw [hq]; exact h2, h3, h4⟩
  | build t parts =>
    simp only [evOp, ho] at h
    obtain ⟨av, τ, hk, hs⟩ := evBuild_sound h
    have hq : quietB P C o = true := by simp only [quietB, opClass, ho]; rfl
    refine ⟨av, _, hk, by simp, fun _ => ⟨τ, rfl⟩, snd_value fun E μ ρ a w hx hsr hf => ?_⟩
    have hx' : ∀ x ∈ (parts.toList.map (·.2)).toArray, VR μ ρ (getO fr x) (a.eval x) := fun x hm => hx x (by rw [ho]; exact hm)
    obtain ⟨v, ρ', h1, h2, h3, h4⟩ := hs E μ ρ _ w (opsr_getElem hx').1 (opsr_getElem hx').2 hsr hf
    exact ⟨v, w, μ, ρ', by simp only [execOp, ho]; exact run_value h1, by rw [hq]; exact h2, h3, h4⟩
  | buildSlice t n parts =>
    simp only [evOp, ho] at h
    obtain ⟨av, σ', hk, hln, hpre, hs⟩ := evBuildSlice_sound h
    refine ⟨av, σ', hk, hln, fun hq => hpre (quiet_slice (.inl ⟨_, _, ho⟩) hq), snd_value fun E μ ρ a w hx hsr hf => ?_⟩
    have hx' : ∀ x ∈ (parts.toList.map (·.2)).toArray, VR μ ρ (getO fr x) (a.eval x) := fun x hm => hx x (by rw [ho]; exact hm)
    obtain ⟨v, w', μ', ρ', h1, h2, h3, h4⟩ := hs E μ ρ _ w (opsr_getElem hx').1 (opsr_getElem hx').2 hsr hf
    exact ⟨v, w', μ', ρ', by simp only [execOp, ho]; exact run_value h1, grow_q (fun hq => quiet_slice (.inl ⟨_, _, ho⟩) hq) h2, h3, h4⟩
  | load t x =>
    simp only [evOp, ho] at h
    obtain ⟨av, hk, hs⟩ := evLoad_sound h
    refine out_read hk fun E μ ρ a w hx hsr => ?_
    obtain ⟨v, h1, h2⟩ := hs E μ ρ _ w (hx x (by rw [ho]; exact mem1)) hsr
    exact ⟨v, by simp only [execOp, ho]; exact run_value h1, h2⟩
  | store t x y =>
    simp only [evOp, ho] at h
    obtain ⟨σ', hk, hln, hs⟩ := evStore_sound h
    have hq : quietB P C o = false := by simp only [quietB, opClass, ho]; rfl
    refine ⟨.un, σ', hk, hln, fun e => (by rw [hq] at e; cases e), snd_skip fun E μ ρ a w hx hsr _ => ?_⟩
    obtain ⟨w', μ', h1, h2, h3⟩ := hs E μ ρ _ _ w (hx x (by rw [ho]; exact mem2 (.inl rfl))) (hx y (by rw [ho]; exact mem2 (.inr rfl))) hsr
    exact ⟨w', μ', ρ, by simp only [execOp, ho]; exact run_skip h1, by rw [hq]; exact h2, .un, h3⟩
  | convert src dst x =>
    simp only [evOp, ho] at h
    rcases cond_or h with ⟨hsl, h⟩ | ⟨hsl, h⟩
    · obtain ⟨av, hk, hs⟩ := evMark_sound h hsl
      have hq : quietB P C o = false := by simp only [quietB, opClass, ho, hsl]; rfl
      refine ⟨av, σ, hk, Nat.le_refl _, fun e => (by rw [hq] at e; cases e), snd_value fun E μ ρ a w hx hsr hf => ?_⟩
      obtain ⟨v, w', h1, h2, h3, h4⟩ := hs E μ ρ _ w (hx x (by rw [ho]; exact mem1)) hsr
      refine ⟨v, w', μ, ρ, by simp only [execOp, ho]; exact run_value h1, ?_, h2, h3⟩
      rw [hq]
      exact ⟨MuLe.refl μ, RhoLe.refl ρ, Nat.le_refl _, fun _ _ h => .inl h, fun e => (by cases e), h4, fun e => (by cases e)⟩
    obtain ⟨av, σ', hk, hln, hpre, hs⟩ := evConv_sound h
    have hq : quietB P C o = true := by simp only [quietB, opClass, ho, hsl]; rfl
    refine ⟨av, σ', hk, hln, fun _ => hpre, snd_value fun E μ ρ a w hx hsr hf => ?_⟩
    obtain ⟨v, w', ρ', h1, h2, h3, h4⟩ := hs E μ ρ _ w (hx x (by rw [ho]; exact mem1)) hsr hf
    exact ⟨v, w', μ, ρ', by simp only [execOp, ho]; exact run_value h1, by rw [hq]; exact h2, h3, h4⟩
  | indexAddr t x i =>
    simp only [evOp, ho] at h
    obtain ⟨av, hk, hs⟩ := evIndexAddr_sound h
    refine out_read hk fun E μ ρ a w hx hsr => ?_
    obtain ⟨v, h1, h2⟩ := hs E μ ρ _ _ w (hx x (by rw [ho]; exact mem2 (.inl rfl))) (hx i (by rw [ho]; exact mem2 (.inr rfl))) hsr
    exact ⟨v, by simp only [execOp, ho]; exact run_value h1, h2⟩
  | slice t x lo hi mx =>
    cases mx with
    | some m => simp only [evOp, ho] at h; cases h
    | none =>
      simp only [evOp, ho] at h
      obtain ⟨av, hk, hs⟩ := evSlice_sound h
      refine out_read hk fun E μ ρ a w hx hsr => ?_
      rw [OpsR, ho] at hx
      have hx0 := hx x (by simp [Op.operands])
      have hlo : ∀ y, lo = some y → VR μ ρ (getO fr y) (a.eval y) := fun y e => hx y (by simp [Op.operands, e])
      have hhi : ∀ y, hi = some y → VR μ ρ (getO fr y) (a.eval y) := fun y e => hx y (by simp [Op.operands, e])
      obtain ⟨v, h1, h2⟩ := hs E μ ρ (a.eval x) (lo.map a.eval) (hi.map a.eval) w hx0 (fun b hb => by
        cases lo with
        | none => cases hb
        | some y => injection hb with hb; subst hb; exact ⟨_, rfl, hlo y rfl⟩) (fun e => by cases lo <;> first | rfl | cases e) (fun b hb => by
        cases hi with
        | none => cases hb
        | some y => injection hb with hb; subst hb; exact ⟨_, rfl, hhi y rfl⟩) (fun e => by cases hi <;> first | rfl | cases e) hsr
      exact ⟨v, by simp only [execOp, ho, Option.map_none]; exact run_value h1, h2⟩
  | makeSlice t x y =>
    simp only [evOp, ho] at h
    obtain ⟨av, σ', hk, hln, hpre, hs⟩ := evMakeSlice_sound h
    refine ⟨av, σ', hk, hln, fun hq => hpre (quiet_slice (.inr ⟨_, _, ho⟩) hq), snd_value fun E μ ρ a w hx hsr hf => ?_⟩
    obtain ⟨v, w', μ', ρ', h1, h2, h3, h4⟩ := hs E μ ρ _ _ w (hx x (by rw [ho]; exact mem2 (.inl rfl))) (hx y (by rw [ho]; exact mem2 (.inr rfl))) hsr hf
    exact ⟨v, w', μ', ρ', by simp only [execOp, ho]; exact run_value h1, grow_q (fun hq => quiet_slice (.inr ⟨_, _, ho⟩) hq) h2, h3, h4⟩
  | call c =>
    simp only [evOp, ho] at h
    have hxa : ∀ (E : Prop) {x : Operand}, x ∈ c.operands → x ∈ o.op.operands := fun _ x hm => by rw [ho]; exact hm
    split at h
    · rename_i hcal
      split at h
      · rename_i x t hargs hty
        obtain ⟨av, hk, hs⟩ := evLen_sound h
        refine out_read hk fun E μ ρ a w hx hsr => ?_
        obtain ⟨cs, hb⟩ := run_builtin (P := P) ho hcal a
        have hargs' := args_list hargs
        have hty' := args_list hty
        obtain ⟨v, h1, h2⟩ := hs E μ ρ _ o.type w (hx x (hxa True (by simp [Call.operands, hcal, hargs']))) hsr
        refine ⟨v, ?_, h2⟩
        rw [hb, hargs', hty']
        exact run_value (by simpa using h1)
      · cases h
    · rename_i hcal
      split at h
      · rename_i x y t u hargs hty
        obtain ⟨av, σ', hk, hln, hs⟩ := evAppend_sound h
        have hq : quietB P C o = false := by simp only [quietB, opClass, ho, hcal]; rfl
        refine ⟨av, σ', hk, hln, fun e => (by rw [hq] at e; cases e), snd_value fun E μ ρ a w hx hsr hf => ?_⟩
        obtain ⟨cs, hb⟩ := run_builtin (P := P) ho hcal a
        have hargs' := args_list hargs
        have hty' := args_list hty
        obtain ⟨v, w', ρ', h1, h2, h3, h4⟩ := hs E μ ρ _ _ o.type w (hx x (hxa True (by simp [Call.operands, hcal, hargs']))) (hx y (hxa True (by simp [Call.operands, hcal, hargs']))) hsr hf
        refine ⟨v, w', μ, ρ', ?_, by rw [hq]; exact h2, h3, h4⟩
        rw [hb, hargs', hty']
        exact run_value (by simpa using h1)
      · cases h
    · rename_i hcal
      split at h
      · rename_i x y t u hargs hty
        obtain ⟨av, σ', hk, hln, hs⟩ := evCopy_sound (t2 := u) h
        have hq : quietB P C o = false := by simp only [quietB, opClass, ho, hcal]; rfl
        refine ⟨av, σ', hk, hln, fun e => (by rw [hq] at e; cases e), snd_value fun E μ ρ a w hx hsr hf => ?_⟩
        obtain ⟨cs, hb⟩ := run_builtin (P := P) ho hcal a
        have hargs' := args_list hargs
        have hty' := args_list hty
        obtain ⟨v, w', h1, h2, h3, h4⟩ := hs E μ ρ _ _ o.type w (hx x (hxa True (by simp [Call.operands, hcal, hargs']))) (hx y (hxa True (by simp [Call.operands, hcal, hargs']))) hsr
        refine ⟨v, w', μ, ρ, ?_, by rw [hq]; exact h2, h3, h4⟩
        rw [hb, hargs', hty']
        exact run_value (by simpa using h1)
      · cases h
    · rename_i hcal; exact absurd (by simp only [opClass, ho, hcal]) hc
    · rename_i hcal; exact absurd (by simp only [opClass, ho, hcal]) hc
    · rename_i f hcal
      split at h
      · rename_i fn first caps hg
        obtain ⟨av, σ', hk, hln, hpre, ⟨fd, hfd, hbody, hname⟩, hs⟩ := HC _ _ _ _ _ _ h
        have hqq : quietB P C o = true → callQ P C fn = true := fun hq => by
          cases f with
          | func f' =>
            simp only [getO, AV.clo.injEq] at hg
            obtain ⟨e, _, _⟩ := hg
            subst e
            simp only [quietB, opClass, ho, hcal, hfd] at hq
            simp only [callQ, hfd]
            cases hb : (C.inl f' || (C.rw f').any id || fd.resultTypes.any (leakT P (C.dat f'))) with
            | true => rw [hb] at hq; cases hq
            | false => rfl
          | _ => simp only [quietB, opClass, ho, hcal] at hq; cases hq
        refine ⟨av, σ', hk, hln, fun hq => hpre (hqq hq), ?_⟩
        intro E μ ρ a w next Q hx hsr hf hdm hn
        have hfv := hx f (hxa True (by simp [Call.operands, hcal]))
        rw [hg] at hfv
        generalize hv : a.eval f = v at hfv
        have hclo : ∃ fs cs : List Value, v = .func (.func fn) fs.toArray cs.toArray ∧ CRs μ ρ first fs ∧ CRs μ ρ caps cs := by
          cases hfv with
          | c hx => cases hx with
            | d hd => cases hd with
              | clo h1 h2 h3 h4 => exact ⟨_, _, rfl, ⟨h1, fun k u v hu hv => .d (h3 k u v hu hv)⟩, ⟨h2, fun k u v hu hv => .d (h4 k u v hu hv)⟩⟩
            | clo h1 h2 h3 h4 => exact ⟨_, _, rfl, ⟨h1, h3⟩, ⟨h2, h4⟩⟩
        obtain ⟨fs, cs, hve, hfs, hcs⟩ := hclo
        subst hve
        have hex : (execOp a.eval o).run P w = .ok (.enter fn (fs ++ c.args.toList.map a.eval ++ cs).toArray) w := by
          have hb' : fd.body.isNone = false := hbody
          simp only [execOp, ho, resolve, hcal, hv, Deferred.ofValue, Sem.run_bind, Sem.run_pure, Result.andThen_ok, invoke, callFunc, run_program, hfd, hname, hb', Bool.false_eq_true, if_false]
          congr 2
          apply Array.ext'
          simp
        unfold Oper.wp
        rw [hex, Oper.upon_enter]
        refine Calls.mono (hs E μ ρ _ w ?_ ?_ hsr hf fun e => hdm (by
          cases hq : quietB P C o with
          | true => rw [hqq hq] at e; cases e
          | false => rfl) (by simp only [isFn, ho, hcal])) fun e w' he => ?_
        · simp [hfs.1, hcs.1]
        · intro k u v hu hv'
          rcases Nat.lt_or_ge k first.length with h1 | h1
          · rw [List.append_assoc, List.getElem?_append_left h1] at hu
            rw [List.append_assoc, List.getElem?_append_left (by rw [hfs.1]; exact h1)] at hv'
            exact .c (hfs.2 k u v hu hv')
          · rw [List.append_assoc, List.getElem?_append_right h1] at hu
            rw [List.append_assoc, List.getElem?_append_right (by rw [hfs.1]; exact h1), hfs.1] at hv'
            rcases Nat.lt_or_ge (k - first.length) c.args.toList.length with h2 | h2
            · rw [List.getElem?_append_left (by simpa using h2)] at hu hv'
              simp only [List.getElem?_map, Option.map_eq_some_iff] at hu hv'
              obtain ⟨x, hx1, hx2⟩ := hu
              obtain ⟨y, hy1, hy2⟩ := hv'
              rw [hx1] at hy1; injection hy1 with hy1; subst hy1; subst hx2; subst hy2
              refine hx x (hxa True ?_)
              simp only [Call.operands, hcal, Array.mem_append]
              exact .inr (Array.mem_toList_iff.1 (List.mem_of_getElem? hx1))
            · rw [List.getElem?_append_right (by simpa using h2)] at hu hv'
              simp only [List.length_map] at hu hv'
              exact .c (hcs.2 _ u v hu hv')
        · obtain ⟨v, μ', ρ', e1, e2, e3, e4⟩ := he
          subst e1
          refine hn v w' μ' ρ' ?_ e3 e4
          cases hq : quietB P C o with
          | true => rw [hqq hq] at e2; exact e2
          | false =>
            cases hcq : callQ P C fn with
            | true => rw [hcq] at e2; exact e2.loud
            | false => rw [hcq] at e2; exact e2
      · cases h
    · cases h
  | _ => first | (simp only [evOp, ho] at h; cases h; done) | (exact absurd (by simp only [opClass, ho]) hc)
end
end Go.Ev
