/- Regions, in the order of the text. -/
import Derived.Test.YtokagdgcfmjlnaaEv18
import Derived.Orders
set_option linter.all false
namespace Go.Ev

abbrev FM := Nat → AV
def updF (F : FM) (dst : Option Nat) (a : AV) : FM := fun t => if dst = some t then a else F t

theorem lookF_drop (fr : List (Nat × AV)) (d t : Nat) (h : t ≠ d) : lookF (dropF fr d) t = lookF fr t := by
  induction fr with
  | nil => rfl
  | cons p fr ih =>
    obtain ⟨i, a⟩ := p
    simp only [dropF, lookF]
    by_cases e : i = d
    · subst e
      rw [Nat.beq_refl, nbeq_false (fun e => h e.symm)]
      exact ih
    · rw [nbeq_false e]
      simp only [cond_false, lookF]
      cases Nat.beq i t <;> simp [ih]
theorem lookF_put (fr : List (Nat × AV)) (dst : Option Nat) (a : AV) : lookF (putF fr dst a) = updF (lookF fr) dst a := by
  funext t
  cases dst with
  | none => simp [putF, updF]
  | some d =>
    simp only [putF, updF, lookF]
    by_cases e : d = t
    · subst e; rw [Nat.beq_refl, if_pos rfl]; rfl
    · rw [nbeq_false e, if_neg (fun h => e (by injection h))]
      exact lookF_drop fr d t (fun h => e h.symm)
theorem updF_self {F : FM} {d : Nat} {a : AV} (h : F d = a) : updF F (some d) a = F := by
  funext t
  unfold updF
  split
  · rename_i e; injection e with e; subst e; exact h.symm
  · rfl

/-- What stands in a slot; from 1000000 on: the pointers that were handed in. -/
def slotV (G : Nat → Value) (a : Act) (t : Nat) : Value := if t < 1000000 then a.tmps.getD t undef else G t
def FR (μ : Mu) (ρ : Rho) (G : Nat → Value) (F : FM) (a : Act) : Prop := ∀ t, VR μ ρ (F t) (slotV G a t)

theorem getO_FR {μ : Mu} {ρ : Rho} {G : Nat → Value} {fr : List (Nat × AV)} {a : Act} {x : Operand} (h : ∀ t, x = .tmp t → VR μ ρ (lookF fr t) (slotV G a t)) : VR μ ρ (getO fr x) (a.eval x) := by
  cases x with
  | tmp t =>
    simp only [getO, tmpF, Act.eval]
    cases hb : Nat.blt t 1000000 with
    | false => exact .un
    | true =>
      have hlt : t < 1000000 := by simpa [Nat.blt_eq] using hb
      have := h t rfl
      unfold slotV at this
      rw [if_pos hlt] at this
      exact this
  | const v => exact ofV_sound v
  | func f => exact .c (.d (.clo (fs := []) (cs := []) rfl rfl (fun k u v hu => by simp at hu) (fun k u v hu => by simp at hu)))
  | global g => exact .un

theorem FR.ops {μ : Mu} {ρ : Rho} {G : Nat → Value} {fr : List (Nat × AV)} {a : Act} (h : FR μ ρ G (lookF fr) a) (o : Oper) : OpsR μ ρ fr a o := fun _ _ => getO_FR fun t _ => h t
theorem FR.mono {μ μ' : Mu} {ρ ρ' : Rho} {G : Nat → Value} {F : FM} {a : Act} (h : FR μ ρ G F a) (h1 : MuLe μ μ') (h2 : RhoLe ρ ρ') : FR μ' ρ' G F a := fun t => (h t).mono h1 h2

theorem slotV_put {G : Nat → Value} {a : Act} {dst : Option Nat} {v : Value} (hd : ∀ d, dst = some d → d < a.tmps.size ∧ d < 1000000) (t : Nat) : slotV G (a.put dst v) t = if dst = some t then v else slotV G a t := by
  cases dst with
  | none => rfl
  | some d =>
    obtain ⟨h1, h2⟩ := hd d rfl
    by_cases e : d = t
    · subst e
      rw [if_pos rfl]
      simp [slotV, h2, Act.put, h1]
    · rw [if_neg (fun h => e (by injection h))]
      simp [slotV, Act.put, e]
theorem FR.put {μ : Mu} {ρ : Rho} {G : Nat → Value} {F : FM} {a : Act} (h : FR μ ρ G F a) {dst : Option Nat} {av : AV} {v : Value} (hd : ∀ d, dst = some d → d < a.tmps.size ∧ d < 1000000) (hv : VR μ ρ av v) : FR μ ρ G (updF F dst av) (a.put dst v) := fun t => by
  rw [slotV_put hd]
  unfold updF
  split
  · exact hv
  · exact h t

/-- What the ghosts have grown from. -/
structure Base where
  m : Mu
  r : Rho
  n : Nat
  z : Nat
def Base.zero : Base := ⟨fun _ => none, fun _ => none, 0, 0⟩
structure Since (B : Base) (μ : Mu) (ρ : Rho) (w : World) : Prop where
  mu : MuLe B.m μ
  rho : RhoLe B.r ρ
  dom : ∀ l rb, l < B.n → ρ l = some rb → B.r l = some rb
  size : B.z ≤ w.heap.size
theorem Since.zero (μ : Mu) (ρ : Rho) (w : World) : Since .zero μ ρ w := ⟨fun _ _ h => (by cases h), fun _ _ h => (by cases h), fun l _ h => absurd h (Nat.not_lt_zero l), Nat.zero_le _⟩
theorem Since.on {B : Base} {μ μ' : Mu} {ρ ρ' : Rho} {w w' : World} {p q : Nat} (h : Since B μ ρ w) (h1 : MuLe μ μ') (h2 : RhoLe ρ ρ') (hp : B.n ≤ p) (hd : ∀ l rb, ρ' l = some rb → ρ l = some rb ∨ (p ≤ l ∧ l < q)) (hz : w.heap.size ≤ w'.heap.size) : Since B μ' ρ' w' :=
  ⟨h.mu.trans h1, h.rho.trans h2, fun l rb hl hr => (hd l rb hr).elim (h.dom l rb hl) (fun h3 => absurd (Nat.le_trans hp h3.1) (Nat.not_le_of_lt hl)), Nat.le_trans h.size hz⟩
theorem Since.grow {B : Base} {q : Bool} {μ μ' : Mu} {ρ ρ' : Rho} {n n' : Nat} {w w' : World} (h : Since B μ ρ w) (g : Grow q μ ρ n w μ' ρ' n' w') (hn : B.n ≤ n) : Since B μ' ρ' w' :=
  h.on g.mu g.rho hn (fun l rb hl => (g.dom l rb hl).imp id fun ⟨a, b, _⟩ => ⟨a, b⟩) g.size

/-- The state of the code's run against an abstract state. -/
structure Rel (E : Env) (B : Base) (G : Nat → Value) (n : Nat) (F : FM) (σ : Store) (a : Act) (w : World) : Prop where
  ex : ∃ μ ρ, FR μ ρ G F a ∧ SR E μ ρ σ w ∧ DomR ρ σ.length ∧ Since B μ ρ w
  base : B.n ≤ σ.length
  size : a.tmps.size = n
  defers : a.defers = []

theorem DomR.fresh {ρ : Rho} {n m : Nat} (h : DomR ρ n) : FreshTo ρ n m := fun l h1 _ => by
  cases e : ρ l with
  | none => rfl
  | some rb => have := h l rb e; omega
theorem DomR.grow {q : Bool} {μ μ' : Mu} {ρ ρ' : Rho} {n n' : Nat} {w w' : World} (h : DomR ρ n) (g : Grow q μ ρ n w μ' ρ' n' w') : DomR ρ' n' := fun l rb hl => by
  rcases g.dom l rb hl with h1 | ⟨_, h1, _⟩
  · exact Nat.lt_of_lt_of_le (h l rb h1) g.len
  · exact h1
theorem put_size {a : Act} {dst : Option Nat} {v : Value} : (a.put dst v).tmps.size = a.tmps.size := by cases dst <;> simp [Act.put]
theorem put_defers {a : Act} {dst : Option Nat} {v : Value} : (a.put dst v).defers = a.defers := by cases dst <;> rfl

def GuardYes (ops : Array Oper) (o : Oper) (F : FM) : Prop :=
  o.guard = none ∨ ∃ j want oj d, o.guard = some (j, want) ∧ ops[j]? = some oj ∧ oj.dst = some d ∧ F d = .v (.bool want)
def GuardNo (ops : Array Oper) (o : Oper) (F : FM) : Prop :=
  ∃ j want oj d, o.guard = some (j, want) ∧ ops[j]? = some oj ∧ oj.dst = some d ∧ (F d = .v (.bool (!want)) ∨ ∃ u, F d = .v (.tuple u))

/-- One operation of a region, in the order of the text. -/
def StepF (P : Program) (C : Cfg) (ops : Array Oper) (o : Oper) (s s' : FM × Store) : Prop :=
  (GuardYes ops o s.1 ∧ ∃ fr av σ', lookF fr = s.1 ∧ s' = (updF s.1 o.dst av, σ') ∧ s.2.length ≤ σ'.length ∧ (quietB P C o = true → ∃ τ, σ' = s.2 ++ τ) ∧ (opClass P C o = 0 → σ' = s.2 ∧ PureR P o fr av) ∧ OpSnd P (quietB P C o) o fr s.2 av σ') ∨
  (GuardNo ops o s.1 ∧ s' = (updF s.1 o.dst (.v (.tuple #[])), s.2))

inductive Chain (P : Program) (C : Cfg) (ops : Array Oper) : List Oper → FM × Store → FM × Store → Prop
  | nil (s : FM × Store) : Chain P C ops [] s s
  | cons {o : Oper} {l : List Oper} {s s1 s2 : FM × Store} (h : StepF P C ops o s s1) (k : Chain P C ops l s1 s2) : Chain P C ops (o :: l) s s2

section
variable {P : Program} {C : Cfg} {call : CallT} {inl : InlT}

theorem evOp_step (HC : CallHyp P C call inl) {R : Type} {ops : Array Oper} {o : Oper} {fr : List (Nat × AV)} {σ : Store} {K : AV → Store → Option R} {r : R} (h : evOp P C call inl o fr σ K = some r) (F : FM) (hF : lookF fr = F) (hg : GuardYes ops o F) :
    ∃ av σ', K av σ' = some r ∧ StepF P C ops o (F, σ) (updF F o.dst av, σ') := by
  by_cases hc : opClass P C o = 0
  · obtain ⟨av, hk, hp⟩ := evOp_pure h hc
    exact ⟨av, σ, hk, .inl ⟨hg, fr, av, σ, hF, rfl, Nat.le_refl _, fun _ => ⟨[], by simp⟩, fun _ => ⟨rfl, hp⟩, snd_read fun E μ ρ a w hx _ => hp μ ρ a w hx⟩⟩
  · obtain ⟨av, σ', hk, hln, hpre, hs⟩ := evOp_sound HC h
    exact ⟨av, σ', hk, .inl ⟨hg, fr, av, σ', hF, rfl, hln, hpre, fun e => absurd e hc, hs⟩⟩

theorem evOps_chain (HC : CallHyp P C call inl) {R : Type} {ops : Array Oper} {K : St → Option R} {r : R} : ∀ (l : List Oper) (s : St), evOps P C call inl ops l s K = some r →
    ∃ s' : St, K s' = some r ∧ Chain P C ops l (lookF s.fr, s.bl) (lookF s'.fr, s'.bl)
  | [], s, h => ⟨s, h, .nil _⟩
  | o :: rest, s, h => by
    simp only [evOps] at h
    have yes : ∀ (fr : List (Nat × AV)), lookF fr = lookF s.fr → GuardYes ops o (lookF s.fr) → evOp P C call inl o fr s.bl (fun a σ => evOps P C call inl ops rest ⟨putF fr o.dst a, σ⟩ K) = some r →
        ∃ s' : St, K s' = some r ∧ Chain P C ops (o :: rest) (lookF s.fr, s.bl) (lookF s'.fr, s'.bl) := fun fr hF hg h => by
      obtain ⟨av, σ', hk, hs⟩ := evOp_step HC h _ hF hg
      obtain ⟨s', h1, h2⟩ := evOps_chain HC rest _ hk
      refine ⟨s', h1, .cons hs ?_⟩
      simp only [lookF_put, hF] at h2
      exact h2
    have no : ∀ (fr : List (Nat × AV)), lookF fr = lookF s.fr → GuardNo ops o (lookF s.fr) → evOps P C call inl ops rest ⟨putF fr o.dst (.v (.tuple #[])), s.bl⟩ K = some r →
        ∃ s' : St, K s' = some r ∧ Chain P C ops (o :: rest) (lookF s.fr, s.bl) (lookF s'.fr, s'.bl) := fun fr hF hg h => by
      obtain ⟨s', h1, h2⟩ := evOps_chain HC rest _ h
      refine ⟨s', h1, .cons (.inr ⟨hg, rfl⟩) ?_⟩
      simp only [lookF_put, hF] at h2
      exact h2
    split at h
    · rename_i hg
      exact yes s.fr rfl (.inl hg) h
    · rename_i j want hg
      split at h
      · cases h
      · rename_i oj hoj
        split at h
        · cases h
        · rename_i d hd
          split at h
          · rename_i b hb
            have hput : ∀ c : Bool, b = c → lookF (putF s.fr (some d) (.v (.bool c))) = lookF s.fr := fun c e => by
              rw [lookF_put]; exact updF_self (by rw [hb, e])
            cases want with
            | true =>
              rcases cond_or h with ⟨e, h⟩ | ⟨e, h⟩
              · exact yes _ (hput _ e) (.inr ⟨j, true, oj, d, hg, hoj, hd, by rw [hb, e]⟩) h
              · exact no _ (hput _ e) ⟨j, true, oj, d, hg, hoj, hd, .inl (by rw [hb, e]; rfl)⟩ h
            | false =>
              rcases cond_or h with ⟨e, h⟩ | ⟨e, h⟩
              · exact no _ (hput _ e) ⟨j, false, oj, d, hg, hoj, hd, .inl (by rw [hb, e]; rfl)⟩ h
              · exact yes _ (hput _ e) (.inr ⟨j, false, oj, d, hg, hoj, hd, by rw [hb, e]⟩) h
          · rename_i u hu
            exact no s.fr rfl ⟨j, want, oj, d, hg, hoj, hd, .inr ⟨u, hu⟩⟩ h
          · cases h

/-- The guard, as the model sees it. -/
theorem wanted_yes {μ : Mu} {ρ : Rho} {G : Nat → Value} {F : FM} {a : Act} {ops : Array Oper} {o : Oper} (hg : GuardYes ops o F) (hd : ∀ (j : Nat) (oj : Oper) (d : Nat), ops[j]? = some oj → oj.dst = some d → d < a.tmps.size ∧ d < 1000000)
    (h : ∀ (j : Nat) (want : Bool) (oj : Oper) (d : Nat), o.guard = some (j, want) → ops[j]? = some oj → oj.dst = some d → VR μ ρ (F d) (slotV G a d)) : Region.wanted o (yielded ops a.tmps) = true := by
  rcases hg with hg | ⟨j, want, oj, d, hg, hoj, hdd, hF⟩
  · simp [Region.wanted, hg]
  · obtain ⟨h1, h2⟩ := hd j oj d hoj hdd
    have := h j want oj d hg hoj hdd
    rw [hF] at this
    have hv := this.v_eq
    simp only [slotV, if_pos h2] at hv
    have hg' : a.tmps[d]? = some (.bool want) := by
      rw [Array.getElem?_eq_getElem h1, ← hv]; simp [h1]
    simp [Region.wanted, hg, yielded, hoj, hdd, hg']
theorem wanted_no {μ : Mu} {ρ : Rho} {G : Nat → Value} {F : FM} {a : Act} {ops : Array Oper} {o : Oper} (hg : GuardNo ops o F) (hd : ∀ (j : Nat) (oj : Oper) (d : Nat), ops[j]? = some oj → oj.dst = some d → d < a.tmps.size ∧ d < 1000000)
    (h : ∀ (j : Nat) (want : Bool) (oj : Oper) (d : Nat), o.guard = some (j, want) → ops[j]? = some oj → oj.dst = some d → VR μ ρ (F d) (slotV G a d)) : Region.wanted o (yielded ops a.tmps) = false := by
  obtain ⟨j, want, oj, d, hg, hoj, hdd, hF⟩ := hg
  obtain ⟨h1, h2⟩ := hd j oj d hoj hdd
  have := h j want oj d hg hoj hdd
  rcases hF with hF | ⟨u, hF⟩
  · rw [hF] at this
    have hv := this.v_eq
    simp only [slotV, if_pos h2] at hv
    have hg' : a.tmps[d]? = some (.bool (!want)) := by
      rw [Array.getElem?_eq_getElem h1, ← hv]; simp [h1]
    cases want <;> simp [Region.wanted, hg, yielded, hoj, hdd, hg']
  · rw [hF] at this
    have hv := this.v_eq
    simp only [slotV, if_pos h2] at hv
    have hg' : a.tmps[d]? = some (.tuple u) := by
      rw [Array.getElem?_eq_getElem h1, ← hv]; simp [h1]
    simp [Region.wanted, hg, yielded, hoj, hdd, hg']

def DstOk (ops : Array Oper) (n : Nat) : Prop := ∀ (j : Nat) (oj : Oper) (d : Nat), ops[j]? = some oj → oj.dst = some d → d < n ∧ d < 1000000

theorem chain_text {E : Env} {B : Base} {G : Nat → Value} {n : Nat} {ops : Array Oper} {Q : Exit → Act → World → Prop} (hd : DstOk ops n) : ∀ (l : List Oper) (k : Nat) (s s' : FM × Store), ops.toList.drop k = l → Chain P C ops l s s' → ∀ (a : Act) (w : World), Rel E B G n s.1 s.2 a w →
    (∀ a w, Rel E B G n s'.1 s'.2 a w → Q .normal a w) → wpOps P ops Q (List.range' k l.length) a w
  | [], k, s, s', _, hc, a, w, hr, hQ => by
    cases hc
    exact hQ a w hr
  | o :: l, k, s, s', hl, hc, a, w, hr, hQ => by
    cases hc with
    | cons hstep hrest =>
      have hok : ops[k]? = some o := by
        rw [← Array.getElem?_toList]
        have : (ops.toList.drop k)[0]? = some o := by rw [hl]; rfl
        simpa using this
      have hl' : ops.toList.drop (k + 1) = l := by rw [← List.drop_drop, hl]; rfl
      obtain ⟨⟨μ, ρ, hfr, hsr, hdom, hsin⟩, hbase, hsz, hdf⟩ := hr
      have hd' : ∀ (j : Nat) (oj : Oper) (d : Nat), ops[j]? = some oj → oj.dst = some d → d < a.tmps.size ∧ d < 1000000 := fun j oj d h1 h2 => by rw [hsz]; exact hd j oj d h1 h2
      have hdst : ∀ d, o.dst = some d → d < a.tmps.size ∧ d < 1000000 := fun d e => hd' k o d hok e
      simp only [List.length_cons, List.range'_succ, wpOps, hok]
      rcases hstep with ⟨hg, fr, av, σ', hF, hs1, hlen, _, _, hs⟩ | ⟨hg, hs1⟩
      · rw [wanted_yes hg hd' (fun j want oj d _ _ _ => hfr d)]
        simp only [if_true]
        left
        refine hs E μ ρ a w _ Q (FR.ops (by rw [hF]; exact hfr) o) hsr hdom.fresh (fun _ _ => hdom) fun v w' μ' ρ' hgr hv hsr' => ?_
        refine chain_text hd l (k + 1) _ s' hl' hrest _ w' ?_ hQ
        rw [hs1]
        exact ⟨⟨μ', ρ', (hfr.mono hgr.mu hgr.rho).put hdst hv, hsr', hdom.grow hgr, hsin.grow hgr hbase⟩, Nat.le_trans hbase hlen, put_size.trans hsz, put_defers.trans hdf⟩
      · rw [wanted_no hg hd' (fun j want oj d _ _ _ => hfr d)]
        simp only [Bool.false_eq_true, if_false]
        refine chain_text hd l (k + 1) _ s' hl' hrest _ w ?_ hQ
        rw [hs1]
        exact ⟨⟨μ, ρ, hfr.put hdst .sk, hsr, hdom, hsin⟩, hbase, put_size.trans hsz, put_defers.trans hdf⟩
end
end Go.Ev
