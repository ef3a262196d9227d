/- Regions, in the order of the text. -/
import Derived.Orders
import Derived.Test.YtjbpbidlcegopaaDoorEv05
set_option linter.all false
namespace Go.Ev
variable [Gl]
abbrev FM := Nat → AV
def updF (F : FM) (dst : Option Nat) (a : AV) : FM := fun t => if dst = some t then a else F t
theorem lookF_drop (fr : List (Nat × AV)) (d t : Nat) (h : t ≠ d) : lookF (dropF fr d) t = lookF fr t := by
  induction fr with
  | nil => rfl
  | cons p fr ih =>
    obtain ⟨i, a⟩ := p
    simp only [dropF, lookF]
    by_cases e : i = d
    · subst e
      rw [Nat.beq_refl, nbeq_false (fun e => h e.symm)]
      exact ih
    · rw [nbeq_false e]
      simp only [cond_false, lookF]
      cases Nat.beq i t <;> simp [ih]
theorem lookF_put (fr : List (Nat × AV)) (dst : Option Nat) (a : AV) : lookF (putF fr dst a) = updF (lookF fr) dst a := by
  funext t
  cases dst with
  | none => simp [putF, updF]
  | some d =>
    simp only [putF, updF, lookF]
    by_cases e : d = t
    · subst e; rw [Nat.beq_refl, if_pos rfl]; rfl
    · rw [nbeq_false e, if_neg (fun h => e (by injection h))]
      exact lookF_drop fr d t (fun h => e h.symm)
theorem updF_self {F : FM} {d : Nat} {a : AV} (h : F d = a) : updF F (some d) a = F := by
  funext t
  unfold updF
  split
  · rename_i e; injection e with e; subst e; exact h.symm
  · rfl
def slotV (G : Nat → Value) (a : Act) (t : Nat) : Value := if t < 1000000 then a.tmps.getD t undef else G t
def FR (μ : Mu) (ρ : Rho) (G : Nat → Value) (F : FM) (a : Act) : Prop := ∀ t, VR μ ρ (F t) (slotV G a t)
theorem getO_FR {μ : Mu} {ρ : Rho} {G : Nat → Value} {fr : List (Nat × AV)} {a : Act} {x : Operand} (h : ∀ t, x = .tmp t → VR μ ρ (lookF fr t) (slotV G a t)) : VR μ ρ (getO fr x) (a.eval x) := by
  cases x with
  | tmp t =>
    simp only [getO, tmpF, Act.eval]
    cases hb : Nat.blt t 1000000 with
    | false => exact .un
    | true =>
      have hlt : t < 1000000 := by simpa [Nat.blt_eq] using hb
      have := h t rfl
      unfold slotV at this
      rw [if_pos hlt] at this
      exact this
  | const v => exact ofV_sound v
  | func f => exact .c (.d (.clo (fs := []) (cs := []) rfl rfl (fun k u v hu => by simp at hu) (fun k u v hu => by simp at hu)))
  | global g => exact .un
theorem FR.ops {μ : Mu} {ρ : Rho} {G : Nat → Value} {fr : List (Nat × AV)} {a : Act} (h : FR μ ρ G (lookF fr) a) (o : Oper) : OpsR μ ρ fr a o := fun _ _ => getO_FR fun t _ => h t
theorem FR.mono {μ μ' : Mu} {ρ ρ' : Rho} {G : Nat → Value} {F : FM} {a : Act} (h : FR μ ρ G F a) (h1 : MuLe μ μ') (h2 : RhoLe ρ ρ') : FR μ' ρ' G F a := fun t => (h t).mono h1 h2
theorem slotV_put {G : Nat → Value} {a : Act} {dst : Option Nat} {v : Value} (hd : ∀ d, dst = some d → d < a.tmps.size ∧ d < 1000000) (t : Nat) : slotV G (a.put dst v) t = if dst = some t then v else slotV G a t := by
  cases dst with
  | none => rfl
  | some d =>
    obtain ⟨h1, h2⟩ := hd d rfl
    by_cases e : d = t
    · subst e
      rw [if_pos rfl]
      simp [slotV, h2, Act.put, h1]
    · rw [if_neg (fun h => e (by injection h))]
      simp [slotV, Act.put, e]
theorem FR.put {μ : Mu} {ρ : Rho} {G : Nat → Value} {F : FM} {a : Act} (h : FR μ ρ G F a) {dst : Option Nat} {av : AV} {v : Value} (hd : ∀ d, dst = some d → d < a.tmps.size ∧ d < 1000000) (hv : VR μ ρ av v) : FR μ ρ G (updF F dst av) (a.put dst v) := fun t => by
  rw [slotV_put hd]
  unfold updF
  split
  · exact hv
  · exact h t
structure Base where
  m : Mu
  r : Rho
  n : Nat
  z : Nat
def Base.zero : Base := ⟨fun _ => none, fun _ => none, 0, 0⟩
structure Since (B : Base) (μ : Mu) (ρ : Rho) (w : World) : Prop where
  mu : MuLe B.m μ
  rho : RhoLe B.r ρ
  dom : ∀ l rb, l < B.n → ρ l = some rb → B.r l = some rb
  size : B.z ≤ w.heap.size
theorem Since.zero (μ : Mu) (ρ : Rho) (w : World) : Since .zero μ ρ w := ⟨fun _ _ h => (by cases h), fun _ _ h => (by cases h), fun l _ h => absurd h (Nat.not_lt_zero l), Nat.zero_le _⟩
theorem Since.on {B : Base} {μ μ' : Mu} {ρ ρ' : Rho} {w w' : World} {p q : Nat} (h : Since B μ ρ w) (h1 : MuLe μ μ') (h2 : RhoLe ρ ρ') (hp : B.n ≤ p) (hd : ∀ l rb, ρ' l = some rb → ρ l = some rb ∨ (p ≤ l ∧ l < q)) (hz : w.heap.size ≤ w'.heap.size) : Since B μ' ρ' w' :=
  ⟨h.mu.trans h1, h.rho.trans h2, fun l rb hl hr => (hd l rb hr).elim (h.dom l rb hl) (fun h3 => absurd (Nat.le_trans hp h3.1) (Nat.not_le_of_lt hl)), Nat.le_trans h.size hz⟩
theorem Since.grow {B : Base} {q : Bool} {μ μ' : Mu} {ρ ρ' : Rho} {n n' : Nat} {w w' : World} (h : Since B μ ρ w) (g : Grow q μ ρ n w μ' ρ' n' w') (hn : B.n ≤ n) : Since B μ' ρ' w' :=
  h.on g.mu g.rho hn (fun l rb hl => (g.dom l rb hl).imp id fun ⟨a, b, _⟩ => ⟨a, b⟩) g.size
structure Rel (E : Env) (B : Base) (G : Nat → Value) (n : Nat) (F : FM) (σ : Store) (a : Act) (w : World) : Prop where
  ex : ∃ μ ρ, FR μ ρ G F a ∧ SR E μ ρ σ w ∧ DomR ρ σ.length ∧ Since B μ ρ w
  base : B.n ≤ σ.length
  size : a.tmps.size = n
  defers : a.defers = []
theorem DomR.fresh {ρ : Rho} {n m : Nat} (h : DomR ρ n) : FreshTo ρ n m := fun l h1 _ => by
  cases e : ρ l with
  | none => rfl
  | some rb => have := h l rb e; omega
theorem DomR.grow {q : Bool} {μ μ' : Mu} {ρ ρ' : Rho} {n n' : Nat} {w w' : World} (h : DomR ρ n) (g : Grow q μ ρ n w μ' ρ' n' w') : DomR ρ' n' := fun l rb hl => by
  rcases g.dom l rb hl with h1 | ⟨_, h1, _⟩
  · exact Nat.lt_of_lt_of_le (h l rb h1) g.len
  · exact h1
theorem put_size {a : Act} {dst : Option Nat} {v : Value} : (a.put dst v).tmps.size = a.tmps.size := by cases dst <;> simp [Act.put]
theorem put_defers {a : Act} {dst : Option Nat} {v : Value} : (a.put dst v).defers = a.defers := by cases dst <;> rfl
def GuardYes (ops : Array Oper) (o : Oper) (F : FM) : Prop :=
  o.guard = none ∨ ∃ j want oj d, o.guard = some (j, want) ∧ ops[j]? = some oj ∧ oj.dst = some d ∧ F d = .v (.bool want)
def GuardNo (ops : Array Oper) (o : Oper) (F : FM) : Prop :=
  ∃ j want oj d, o.guard = some (j, want) ∧ ops[j]? = some oj ∧ oj.dst = some d ∧ (F d = .v (.bool (!want)) ∨ ∃ u, F d = .v (.tuple u))
def StepF (P : Program) (C : Cfg) (ops : Array Oper) (o : Oper) (s s' : FM × Store) : Prop :=
  (GuardYes ops o s.1 ∧ ∃ fr av σ', lookF fr = s.1 ∧ s' = (updF s.1 o.dst av, σ') ∧ s.2.length ≤ σ'.length ∧ (quietB P C o = true → ∃ τ, σ' = s.2 ++ τ) ∧ (opClass P C o = 0 → σ' = s.2 ∧ PureR P o fr av) ∧ OpSnd P C (quietB P C o) o fr s.2 av σ') ∨
  (GuardNo ops o s.1 ∧ s' = (updF s.1 o.dst (.v (.tuple #[])), s.2))
inductive Chain (P : Program) (C : Cfg) (ops : Array Oper) : List Oper → FM × Store → FM × Store → Prop
  | nil (s : FM × Store) : Chain P C ops [] s s
  | cons {o : Oper} {l : List Oper} {s s1 s2 : FM × Store} (h : StepF P C ops o s s1) (k : Chain P C ops l s1 s2) : Chain P C ops (o :: l) s s2
section
variable {P : Program} {C : Cfg} {call : CallT} {inl : InlT}
theorem evOp_step (HC : CallHyp P C call inl) {R : Type} {ops : Array Oper} {o : Oper} {fr : List (Nat × AV)} {σ : Store} {K : AV → Store → Option R} {r : R} (h : evOp P C call inl o fr σ K = some r) (F : FM) (hF : lookF fr = F) (hg : GuardYes ops o F) :
    ∃ av σ', K av σ' = some r ∧ StepF P C ops o (F, σ) (updF F o.dst av, σ') := by
  by_cases hc : opClass P C o = 0
  · obtain ⟨av, hk, hp⟩ := evOp_pure h hc
    exact ⟨av, σ, hk, .inl ⟨hg, fr, av, σ, hF, rfl, Nat.le_refl _, fun _ => ⟨[], by simp⟩, fun _ => ⟨rfl, hp⟩, snd_read fun E μ ρ a w hx _ => hp μ ρ a w hx⟩⟩
  · obtain ⟨av, σ', hk, hln, hpre, hs⟩ := evOp_sound HC h
    exact ⟨av, σ', hk, .inl ⟨hg, fr, av, σ', hF, rfl, hln, hpre, fun e => absurd e hc, hs⟩⟩
theorem evOps_chain (HC : CallHyp P C call inl) {R : Type} {ops : Array Oper} {K : St → Option R} {r : R} : ∀ (l : List Oper) (s : St), evOps P C call inl ops l s K = some r →
    ∃ s' : St, K s' = some r ∧ Chain P C ops l (lookF s.fr, s.bl) (lookF s'.fr, s'.bl)
  | [], s, h => ⟨s, h, .nil _⟩
  | o :: rest, s, h => by
    simp only [evOps] at h
    have yes : ∀ (fr : List (Nat × AV)), lookF fr = lookF s.fr → GuardYes ops o (lookF s.fr) → evOp P C call inl o fr s.bl (fun a σ => evOps P C call inl ops rest ⟨putF fr o.dst a, σ⟩ K) = some r →
        ∃ s' : St, K s' = some r ∧ Chain P C ops (o :: rest) (lookF s.fr, s.bl) (lookF s'.fr, s'.bl) := fun fr hF hg h => by
      obtain ⟨av, σ', hk, hs⟩ := evOp_step HC h _ hF hg
      obtain ⟨s', h1, h2⟩ := evOps_chain HC rest _ hk
      refine ⟨s', h1, .cons hs ?_⟩
      simp only [lookF_put, hF] at h2
      exact h2
    have no : ∀ (fr : List (Nat × AV)), lookF fr = lookF s.fr → GuardNo ops o (lookF s.fr) → evOps P C call inl ops rest ⟨putF fr o.dst (.v (.tuple #[])), s.bl⟩ K = some r →
        ∃ s' : St, K s' = some r ∧ Chain P C ops (o :: rest) (lookF s.fr, s.bl) (lookF s'.fr, s'.bl) := fun fr hF hg h => by
      obtain ⟨s', h1, h2⟩ := evOps_chain HC rest _ h
      refine ⟨s', h1, .cons (.inr ⟨hg, rfl⟩) ?_⟩
      simp only [lookF_put, hF] at h2
      exact h2
    split at h
    · rename_i hg
      exact yes s.fr rfl (.inl hg) h
    · rename_i j want hg
      split at h
      · cases h
      · rename_i oj hoj
        split at h
        · cases h
        · rename_i d hd
          split at h
          · rename_i b hb
            have hput : ∀ c : Bool, b = c → lookF (putF s.fr (some d) (.v (.bool c))) = lookF s.fr := fun c e => by
              rw [lookF_put]; exact updF_self (by rw [hb, e])
            cases want with
            | true =>
              rcases cond_or h with ⟨e, h⟩ | ⟨e, h⟩
              · exact yes _ (hput _ e) (.inr ⟨j, true, oj, d, hg, hoj, hd, by rw [hb, e]⟩) h
              · exact no _ (hput _ e) ⟨j, true, oj, d, hg, hoj, hd, .inl (by rw [hb, e]; rfl)⟩ h
            | false =>
              rcases cond_or h with ⟨e, h⟩ | ⟨e, h⟩
              · exact no _ (hput _ e) ⟨j, false, oj, d, hg, hoj, hd, .inl (by rw [hb, e]; rfl)⟩ h
              · exact yes _ (hput _ e) (.inr ⟨j, false, oj, d, hg, hoj, hd, by rw [hb, e]⟩) h
          · rename_i u hu
            exact no s.fr rfl ⟨j, want, oj, d, hg, hoj, hd, .inr ⟨u, hu⟩⟩ h
          · cases h
theorem wanted_yes {μ : Mu} {ρ : Rho} {G : Nat → Value} {F : FM} {a : Act} {ops : Array Oper} {o : Oper} (hg : GuardYes ops o F) (hd : ∀ (j : Nat) (oj : Oper) (d : Nat), ops[j]? = some oj → oj.dst = some d → d < a.tmps.size ∧ d < 1000000)
    (h : ∀ (j : Nat) (want : Bool) (oj : Oper) (d : Nat), o.guard = some (j, want) → ops[j]? = some oj → oj.dst = some d → VR μ ρ (F d) (slotV G a d)) : Region.wanted o (yielded ops a.tmps) = true := by
  rcases hg with hg | ⟨j, want, oj, d, hg, hoj, hdd, hF⟩
  · simp [Region.wanted, hg]
  · obtain ⟨h1, h2⟩ := hd j oj d hoj hdd
    have := h j want oj d hg hoj hdd
    rw [hF] at this
    have hv := this.v_eq
    simp only [slotV, if_pos h2] at hv
    have hg' : a.tmps[d]? = some (.bool want) := by
      rw [Array.getElem?_eq_getElem h1, ← hv]; simp [h1]
    simp [Region.wanted, hg, yielded, hoj, hdd, hg']
theorem wanted_no {μ : Mu} {ρ : Rho} {G : Nat → Value} {F : FM} {a : Act} {ops : Array Oper} {o : Oper} (hg : GuardNo ops o F) (hd : ∀ (j : Nat) (oj : Oper) (d : Nat), ops[j]? = some oj → oj.dst = some d → d < a.tmps.size ∧ d < 1000000)
    (h : ∀ (j : Nat) (want : Bool) (oj : Oper) (d : Nat), o.guard = some (j, want) → ops[j]? = some oj → oj.dst = some d → VR μ ρ (F d) (slotV G a d)) : Region.wanted o (yielded ops a.tmps) = false := by
  obtain ⟨j, want, oj, d, hg, hoj, hdd, hF⟩ := hg
  obtain ⟨h1, h2⟩ := hd j oj d hoj hdd
  have := h j want oj d hg hoj hdd
  rcases hF with hF | ⟨u, hF⟩
  · rw [hF] at this
    have hv := this.v_eq
    simp only [slotV, if_pos h2] at hv
    have hg' : a.tmps[d]? = some (.bool (!want)) := by
      rw [Array.getElem?_eq_getElem h1, ← hv]; simp [h1]
    cases want <;> simp [Region.wanted, hg, yielded, hoj, hdd, hg']
  · rw [hF] at this
    have hv := this.v_eq
    simp only [slotV, if_pos h2] at hv
    have hg' : a.tmps[d]? = some (.tuple u) := by
      rw [Array.getElem?_eq_getElem h1, ← hv]; simp [h1]
    simp [Region.wanted, hg, yielded, hoj, hdd, hg']
def DstOk (ops : Array Oper) (n : Nat) : Prop := ∀ (j : Nat) (oj : Oper) (d : Nat), ops[j]? = some oj → oj.dst = some d → d < n ∧ d < 1000000
theorem chain_text {E : Env} {B : Base} {G : Nat → Value} {n : Nat} {ops : Array Oper} {Q : Exit → Act → World → Prop} (hd : DstOk ops n) : ∀ (l : List Oper) (k : Nat) (s s' : FM × Store), ops.toList.drop k = l → Chain P C ops l s s' → ∀ (a : Act) (w : World), Rel E B G n s.1 s.2 a w →
    (∀ a w, Rel E B G n s'.1 s'.2 a w → Q .normal a w) → wpOps P ops Q (List.range' k l.length) a w
  | [], k, s, s', _, hc, a, w, hr, hQ => by
    cases hc
    exact hQ a w hr
  | o :: l, k, s, s', hl, hc, a, w, hr, hQ => by
    cases hc with
    | cons hstep hrest =>
      have hok : ops[k]? = some o := by
        rw [← Array.getElem?_toList]
        have : (ops.toList.drop k)[0]? = some o := by rw [hl]; rfl
        simpa using this
      have hl' : ops.toList.drop (k + 1) = l := by rw [← List.drop_drop, hl]; rfl
      obtain ⟨⟨μ, ρ, hfr, hsr, hdom, hsin⟩, hbase, hsz, hdf⟩ := hr
      have hd' : ∀ (j : Nat) (oj : Oper) (d : Nat), ops[j]? = some oj → oj.dst = some d → d < a.tmps.size ∧ d < 1000000 := fun j oj d h1 h2 => by rw [hsz]; exact hd j oj d h1 h2
      have hdst : ∀ d, o.dst = some d → d < a.tmps.size ∧ d < 1000000 := fun d e => hd' k o d hok e
      simp only [List.length_cons, List.range'_succ, wpOps, hok]
      rcases hstep with ⟨hg, fr, av, σ', hF, hs1, hlen, _, _, hs⟩ | ⟨hg, hs1⟩
      · rw [wanted_yes hg hd' (fun j want oj d _ _ _ => hfr d)]
        simp only [if_true]
        left
        refine hs E μ ρ a w _ Q (FR.ops (by rw [hF]; exact hfr) o) hsr hdom.fresh (fun _ _ => hdom) fun v w' μ' ρ' hgr hv hsr' => ?_
        refine chain_text hd l (k + 1) _ s' hl' hrest _ w' ?_ hQ
        rw [hs1]
        exact ⟨⟨μ', ρ', (hfr.mono hgr.mu hgr.rho).put hdst hv, hsr', hdom.grow hgr, hsin.grow hgr hbase⟩, Nat.le_trans hbase hlen, put_size.trans hsz, put_defers.trans hdf⟩
      · rw [wanted_no hg hd' (fun j want oj d _ _ _ => hfr d)]
        simp only [Bool.false_eq_true, if_false]
        refine chain_text hd l (k + 1) _ s' hl' hrest _ w ?_ hQ
        rw [hs1]
        exact ⟨⟨μ, ρ, hfr.put hdst .sk, hsr, hdom, hsin⟩, hbase, put_size.trans hsz, put_defers.trans hdf⟩
end
end Go.Ev
namespace Go.Ev
variable [Gl]
theorem inL_insL {n j : Nat} : ∀ (l : List Nat), inL j (insL n l) = true → j = n ∨ inL j l = true
  | [], h => by
    simp only [insL, inL, Bool.or_false] at h
    exact .inl (Nat.eq_of_beq_eq_true h)
  | m :: r, h => by
    simp only [insL] at h
    cases h1 : Nat.beq n m with
    | true => rw [h1] at h; exact .inr h
    | false =>
      rw [h1] at h
      simp only [cond_false] at h
      cases h2 : Nat.blt n m with
      | true =>
        rw [h2] at h
        simp only [cond_true] at h
        rw [inL, Bool.or_eq_true] at h
        rcases h with h | h
        · exact .inl (Nat.eq_of_beq_eq_true h)
        · exact .inr h
      | false =>
        rw [h2] at h
        simp only [cond_false] at h
        rw [inL, Bool.or_eq_true] at h
        rcases h with h | h
        · exact .inr (by rw [inL, h]; rfl)
        · rcases inL_insL r h with h | h
          · exact .inl h
          · exact .inr (by rw [inL, h, Bool.or_true])
theorem inL_uniL {j : Nat} : ∀ (a b : List Nat), inL j (uniL a b) = true → inL j a = true ∨ inL j b = true
  | [], b, h => .inr h
  | x :: a, b, h => by
    simp only [uniL] at h
    rcases inL_uniL a _ h with h | h
    · exact .inl (by rw [inL, h, Bool.or_true])
    · rcases inL_insL b h with h | h
      · exact .inl (by rw [inL, h, Nat.beq_refl]; rfl)
      · exact .inr h
theorem inL_mem {j : Nat} : ∀ (l : List Nat), inL j l = true ↔ j ∈ l
  | [] => by simp [inL]
  | m :: r => by
    rw [inL, Bool.or_eq_true, inL_mem r, List.mem_cons]
    constructor
    · rintro (h | h)
      · exact .inl (Nat.eq_of_beq_eq_true h)
      · exact .inr h
    · rintro (h | h)
      · exact .inl (by rw [h, Nat.beq_refl])
      · exact .inr h
theorem closL_eq (ops : List Oper) : closL ops = ops.foldl (fun acc o => acc ++ [clOf acc o]) [] := rfl
theorem clOf_mem {acc : List (List Nat)} {o : Oper} {j : Nat} (h : inL j (clOf acc o) = true) : ∃ e ∈ o.after, Region.binds .any e = true ∧ (j = e.on ∨ inL j (acc.getD e.on []) = true) := by
  have key : ∀ (l : List Edge) (s : List Nat), inL j (l.foldl (fun s e => bif Region.binds .any e then uniL (insL e.on (acc.getD e.on [])) s else s) s) = true →
      inL j s = true ∨ ∃ e ∈ l, Region.binds .any e = true ∧ (j = e.on ∨ inL j (acc.getD e.on []) = true) := by
    intro l
    induction l with
    | nil => intro s h; exact .inl h
    | cons e l ih =>
      intro s h
      simp only [List.foldl_cons] at h
      rcases ih _ h with h | ⟨e', h1, h2⟩
      · cases hb : Region.binds .any e with
        | true =>
          rw [hb] at h
          rcases inL_uniL _ _ h with h | h
          · exact .inr ⟨e, by simp, hb, inL_insL _ h⟩
          · exact .inl h
        | false => rw [hb] at h; exact .inl h
      · exact .inr ⟨e', by simp [h1], h2⟩
  rcases key _ _ h with h | ⟨e, h1, h2⟩
  · cases h
  · exact ⟨e, Array.mem_toList_iff.1 h1, h2⟩
theorem closL_spec : ∀ (l : List Oper) (acc : List (List Nat)), let res := l.foldl (fun acc o => acc ++ [clOf acc o]) acc
    res.length = acc.length + l.length ∧ (∀ i, i < acc.length → res.getD i [] = acc.getD i []) ∧
      ∀ k o, l[k]? = some o → ∃ acc' : List (List Nat), acc'.length = acc.length + k ∧ (∀ i, i < acc.length + k → acc'.getD i [] = res.getD i []) ∧ res.getD (acc.length + k) [] = clOf acc' o
  | [], acc => ⟨rfl, fun _ _ => rfl, fun k o h => by simp at h⟩
  | o :: l, acc => by
    obtain ⟨h1, h2, h3⟩ := closL_spec l (acc ++ [clOf acc o])
    simp only [List.foldl_cons]
    simp only [List.length_append, List.length_singleton] at h1 h2 h3
    refine ⟨by rw [h1]; simp; omega, fun i hi => ?_, fun k o' hk => ?_⟩
    · rw [h2 i (by omega)]
      simp [List.getD_eq_getElem?_getD, List.getElem?_append_left hi]
    · cases k with
      | zero =>
        simp at hk; subst hk
        refine ⟨acc, rfl, fun i hi => ?_, ?_⟩
        · rw [h2 i (by omega)]
          simp [List.getD_eq_getElem?_getD, List.getElem?_append_left (show i < acc.length by omega)]
        · rw [Nat.add_zero, h2 _ (by omega)]
          simp [List.getD_eq_getElem?_getD]
      | succ k =>
        obtain ⟨acc', e1, e2, e3⟩ := h3 k o' (by simpa using hk)
        refine ⟨acc', by rw [e1]; omega, fun i hi => e2 i (by omega), ?_⟩
        rw [← e3]; congr 1; omega
theorem closL_mem {ops : List Oper} {i j : Nat} {o : Oper} (ho : ops[i]? = some o) (hlt : ∀ e ∈ o.after, Region.binds .any e = true → e.on < i) (h : inL j ((closL ops).getD i []) = true) :
    ∃ e ∈ o.after, Region.binds .any e = true ∧ (j = e.on ∨ inL j ((closL ops).getD e.on []) = true) := by
  obtain ⟨_, _, h3⟩ := closL_spec ops []
  obtain ⟨acc', e1, e2, e3⟩ := h3 i o ho
  simp only [List.length_nil, Nat.zero_add] at e1 e2 e3
  rw [closL_eq, e3] at h
  obtain ⟨e, h1, h2, h4⟩ := clOf_mem h
  refine ⟨e, h1, h2, h4.imp id fun h5 => ?_⟩
  rw [e2 _ (hlt e h1 h2)] at h5
  exact h5
section
structure DrawFacts (ops : Array Oper) (cl : Nat → Nat → Prop) : Prop where
  lt : ∀ (i : Nat) (o : Oper), ops[i]? = some o → ∀ e ∈ o.after, Region.binds .any e = true → e.on < i
  mem : ∀ (i : Nat) (o : Oper) (j : Nat), ops[i]? = some o → cl i j → ∃ e ∈ o.after, Region.binds .any e = true ∧ (j = e.on ∨ cl e.on j)
  apart : ∀ (i j : Nat) (a b : Oper), i < j → ops[i]? = some a → ops[j]? = some b → cl j i ∨ apartB ops a b = true
theorem drawRow_spec {ops : Array Oper} {b : Oper} {cl : List Nat} : ∀ (l : List Oper) (i : Nat), drawRow ops b cl i l = true → ∀ q a, l[q]? = some a → inL (i + q) cl = true ∨ apartB ops a b = true
  | [], _, _, q, a, hq => by simp at hq
  | x :: l, i, h, q, a, hq => by
    simp only [drawRow, Bool.and_eq_true, Bool.or_eq_true] at h
    cases q with
    | zero => simp at hq; subst hq; exact h.1
    | succ q =>
      have := drawRow_spec l (i + 1) h.2 q a (by simpa using hq)
      rwa [show i + 1 + q = i + (q + 1) by omega] at this
theorem drawAll_spec {ops : Array Oper} {all : List Oper} : ∀ (bs : List Oper) (j : Nat) (cls : List (List Nat)), drawAll ops all j bs cls = true → ∀ k b, bs[k]? = some b →
    (∀ e ∈ b.after, Region.binds .any e = true → e.on < j + k) ∧ drawRow ops b (cls.getD k []) 0 (all.take (j + k)) = true
  | [], _, _, _, k, b, hk => by simp at hk
  | x :: bs, j, cls, h, k, b, hk => by
    simp only [drawAll, Bool.and_eq_true] at h
    obtain ⟨⟨h1, h2⟩, h3⟩ := h
    cases k with
    | zero =>
      simp at hk; subst hk
      refine ⟨fun e he hb => ?_, ?_⟩
      · have := Array.all_eq_true_iff_forall_mem.1 h1 e he
        rw [hb] at this
        simpa [Nat.blt_eq] using this
      · rw [Nat.add_zero]
        cases cls with
        | nil => exact h2
        | cons c cls => exact h2
    | succ k =>
      obtain ⟨h4, h5⟩ := drawAll_spec bs (j + 1) cls.tail h3 k b (by simpa using hk)
      refine ⟨fun e he hb => ?_, ?_⟩
      · have := h4 e he hb; omega
      · rw [show j + (k + 1) = j + 1 + k by omega]
        cases cls with
        | nil => simpa using h5
        | cons c cls => simpa using h5
theorem drawFacts {ops : Array Oper} (h : drawOk ops = true) : DrawFacts ops fun i j => inL j ((closL ops.toList).getD i []) = true := by
  simp only [drawOk, Bool.and_eq_true] at h
  have hs := drawAll_spec _ _ _ h.2
  have hlt : ∀ (i : Nat) (o : Oper), ops[i]? = some o → ∀ e ∈ o.after, Region.binds .any e = true → e.on < i := fun i o ho e he hb => by
    have := (hs i o (by rw [Array.getElem?_toList]; exact ho)).1 e he hb
    omega
  refine ⟨hlt, fun i o j ho hc => closL_mem (by rw [Array.getElem?_toList]; exact ho) (hlt i o ho) hc, fun i j a b hij ha hb => ?_⟩
  have := (hs j b (by rw [Array.getElem?_toList]; exact hb)).2
  have := drawRow_spec _ _ this i a (by rw [List.getElem?_take, if_pos (by omega), Array.getElem?_toList]; exact ha)
  simpa using this
theorem apartB_spec {ops : Array Oper} {a b : Oper} (h : apartB ops a b = true) :
    (∀ d, a.dst = some d → d ∉ looksL ops b) ∧ (∀ d, a.dst = some d → b.dst ≠ some d) ∧ (∀ d, b.dst = some d → d ∉ looksL ops a) := by
  simp only [apartB, Bool.and_eq_true] at h
  obtain ⟨h1, h2⟩ := h
  refine ⟨fun d hd => ?_, fun d hd e => ?_, fun d hd => ?_⟩
  · rw [hd] at h1
    simp only [Bool.and_eq_true, Bool.not_eq_true'] at h1
    intro hm
    rw [(inL_mem _).2 hm] at h1
    cases h1.1
  · rw [hd, e] at h1
    simp only [Bool.and_eq_true, Bool.not_eq_true', Nat.beq_refl] at h1
    cases h1.2
  · rw [hd] at h2
    simp only [Bool.not_eq_true'] at h2
    intro hm
    rw [(inL_mem _).2 hm] at h2
    cases h2
/-! ## Traces -/
def inP (p : Option (List Nat)) (l : Nat) : Bool := match p with | none => true | some L => inL l L
theorem meetL_spec {a b : List Nat} (h : meetL a b = false) (l : Nat) (h1 : inL l a = true) (h2 : inL l b = true) : False := by
  induction a with
  | nil => cases h1
  | cons x a ih =>
    simp only [meetL, Bool.or_eq_false_iff] at h
    rw [inL, Bool.or_eq_true] at h1
    rcases h1 with h1 | h1
    · rw [← Nat.eq_of_beq_eq_true h1, h2] at h; cases h.1
    · exact ih h.2 h1
theorem meet_spec {p q : Option (List Nat)} (h : meet p q = false) (l : Nat) (h1 : inP p l = true) (h2 : inP q l = true) : False := by
  cases p with
  | none =>
    cases q with
    | none => cases h
    | some b =>
      cases b with
      | nil => cases h2
      | cons x b => cases h
  | some a =>
    cases q with
    | none =>
      cases a with
      | nil => cases h1
      | cons x a => cases h
    | some b => exact meetL_spec h l h1 h2
theorem meetR_spec {lo hi : Nat} {L : List Nat} (h : meetR lo hi L = false) (l : Nat) (hl : inL l L = true) (h1 : lo ≤ l) (h2 : l < hi) : False := by
  induction L with
  | nil => cases hl
  | cons x L ih =>
    simp only [meetR, Bool.or_eq_false_iff] at h
    rw [inL, Bool.or_eq_true] at hl
    rcases hl with hl | hl
    · have := Nat.eq_of_beq_eq_true hl
      subst this
      have h3 := h.1
      rw [Nat.ble_eq_true_of_le h1] at h3
      have : Nat.blt l hi = true := by simpa [Nat.blt_eq] using h2
      rw [this] at h3; cases h3
    · exact ih h.2 hl
structure NoClash (a : Trace) (g : Foot) : Prop where
  pl : ∀ l, inP a.f.put l = true → inP g.look l = true → False
  lp : ∀ l, inP a.f.look l = true → inP g.put l = true → False
  pp : ∀ l, inP a.f.put l = true → inP g.put l = true → False
  mks : ∀ l, a.lo ≤ l → l < a.hi → inP g.put l = true → False
  top : a.f.put = none → g.nw = false
  top' : g.put = none → a.f.nw = false
  ld : a.ld = true → g.nw = false
theorem clash_spec {a : Trace} {g : Foot} (h : clash a g = false) : NoClash a g := by
  simp only [clash, Bool.or_eq_false_iff] at h
  obtain ⟨⟨⟨⟨⟨⟨h0, h1⟩, h2⟩, h3⟩, h4⟩, h5⟩, h6⟩ := h
  refine ⟨fun l => meet_spec h3 l, fun l => meet_spec h4 l, fun l => meet_spec h5 l, fun l e1 e2 e3 => ?_, fun e => ?_, fun e => ?_, fun e => by rw [e] at h0; exact h0⟩
  · cases hp : g.put with
    | none =>
      rw [hp] at h2
      simp only [Option.isNone_none, Bool.true_and, Bool.or_eq_false_iff] at h2
      have : Nat.blt a.lo a.hi = true := by simp [Nat.blt_eq]; omega
      rw [this] at h2; cases h2.2
    | some L =>
      rw [hp] at h6 e3
      exact meetR_spec h6 l e3 e1 e2
  · rw [e] at h1
    simp only [Option.isNone_none, Bool.true_and, Foot.touch, Bool.or_eq_false_iff] at h1
    exact h1.1.1
  · rw [e] at h2
    simp only [Option.isNone_none, Bool.true_and, Foot.touch, Bool.or_eq_false_iff] at h2
    exact h2.1.1.1
theorem noClash_no (a : Trace) : NoClash a .no :=
  ⟨fun _ _ h => (by cases h), fun _ _ h => (by cases h), fun _ _ h => (by cases h), fun _ _ _ h => (by cases h), fun _ => rfl, fun h => (by cases h), fun _ => rfl⟩
theorem footOk_spec {cl : List Nat} {f : Foot} : ∀ (l : List Trace) (i : Nat), footOk cl f i l = true → ∀ q a, l[q]? = some a → inL (i + q) cl = true ∨ NoClash a f
  | [], _, _, q, a, hq => by simp at hq
  | x :: l, i, h, q, a, hq => by
    simp only [footOk, Bool.and_eq_true, Bool.or_eq_true, Bool.not_eq_true'] at h
    cases q with
    | zero => simp at hq; subst hq; exact h.1.imp id clash_spec
    | succ q =>
      have := footOk_spec l (i + 1) h.2 q a (by simpa using hq)
      rwa [show i + 1 + q = i + (q + 1) by omega] at this
end
end Go.Ev
namespace Go.Ev
variable [Gl]
/-! ## Laying over -/
section
variable {P : Program} {C : Cfg} {call : CallT} {inl : InlT}
structure StepY (P : Program) (C : Cfg) (o : Oper) (f : Foot) (fr : List (Nat × AV)) (σ : Store) (av : AV) (σ' : Store) : Prop where
  len : σ.length ≤ σ'.length
  keep : ∀ l, l < σ.length → inP f.put l = false → σ'[l]? = σ[l]?
  nw : f.nw = false → σ'.length = σ.length
  snd : ∀ τ : Store, τ.length = σ.length → (∀ l, inP f.look l = true → τ[l]? = σ[l]?) → ∃ τ' : Store, τ'.length = σ'.length ∧ (∀ l, l < σ.length → inP f.put l = false → τ'[l]? = τ[l]?) ∧
    (∀ l, (σ.length ≤ l ∨ inP f.put l = true) → τ'[l]? = σ'[l]?) ∧ OpSnd P C (quietB P C o) o fr τ av τ'
theorem foot_cases {o : Oper} {fr : List (Nat × AV)} {σ : Store} : footOf P C o fr σ = .top ∨ (∃ L W m, footOf P C o fr σ = ⟨some L, some W, m⟩ ∧ isFn C o = false) ∨ (footOf P C o fr σ = ⟨none, some [], true⟩ ∧ isFn C o = true ∧ quietB P C o = true) ∨
    (∃ f c, o.op = .call c ∧ c.callee = .value (.func f) ∧ C.inl f = false ∧ C.upd f = none ∧ C.pr f = none ∧ footOf P C o fr σ = ⟨none, some (c.args.toList.flatMap fun x => refs σ (getO fr x)), true⟩) := by
  cases ho : o.op with
  | call c =>
    simp only [footOf, isFn, ho]
    split
    · rename_i hc
      split
      · exact .inr (.inl ⟨_, _, _, rfl, by simp only [hc]⟩)
      · exact .inl rfl
    · rename_i hc
      split
      · exact .inr (.inl ⟨_, _, _, rfl, by simp only [hc]⟩)
      · exact .inl rfl
    · rename_i hc
      split
      · exact .inr (.inl ⟨_, _, _, rfl, by simp only [hc]⟩)
      · exact .inl rfl
    · rename_i hc; exact .inr (.inl ⟨_, _, _, rfl, by simp only [hc]⟩)
    · rename_i hc; exact .inr (.inl ⟨_, _, _, rfl, by simp only [hc]⟩)
    · rename_i f hc
      split
      · rename_i fn hfn
        cases hmv : isMv C f with
        | true => exact .inr (.inl ⟨_, _, _, rfl, by simp only [hc, hmv]; rfl⟩)
        | false =>
        simp only [cond_false]
        cases hiu : (C.inl f || (C.upd f).isSome || (C.pr f).isSome) with
        | true => exact .inl rfl
        | false =>
          rw [Bool.or_eq_false_iff, Bool.or_eq_false_iff] at hiu
          obtain ⟨hiu, hpr⟩ := hiu
          have hpr : C.pr f = none := by cases hp : C.pr f with | none => rfl | some g => (rw [hp] at hpr; cases hpr)
          cases hb : ((C.rw f).any id || leaky P C f fn) with
          | true => exact .inr (.inr (.inr ⟨f, c, rfl, hc, hiu.1, by cases hu : C.upd f with | none => rfl | some g => (rw [hu] at hiu; exact absurd hiu.2 (by simp)), hpr, rfl⟩))
          | false => exact .inr (.inr (.inl ⟨rfl, by simp only [hc, hmv]; rfl, by simp only [quietB, opClass, ho, hc, hfn, hiu.1, Bool.false_or, hb]; rfl⟩))
      · exact .inl rfl
    · exact .inl rfl
  | slice t x lo hi mx =>
    simp only [footOf, isFn, ho]
    cases eatB C o with
    | true => exact .inr (.inl ⟨_, _, _, rfl, trivial⟩)
    | false => exact .inr (.inl ⟨_, _, _, rfl, trivial⟩)
  | buildSlice t n ps =>
    simp only [footOf, isFn, ho]
    exact .inr (.inl ⟨_, _, _, rfl, trivial⟩)
  | store t x y =>
    simp only [footOf, isFn, ho]
    cases noSl (getO fr y) with
    | true => exact .inr (.inl ⟨_, _, _, rfl, trivial⟩)
    | false =>
      simp only [cond_false]
      split
      · split
        · rename_i b _
          cases b.obj with
          | true => exact .inr (.inl ⟨_, _, _, rfl, trivial⟩)
          | false => exact .inl rfl
        · exact .inl rfl
      · exact .inl rfl
  | move x =>
    refine .inr (.inl ?_)
    simp only [footOf, isFn, ho]
    split
    · exact ⟨_, _, _, rfl, trivial⟩
    · simp_all
    · exact ⟨_, _, _, rfl, trivial⟩
    all_goals simp_all
  | assign x =>
    refine .inr (.inl ?_)
    simp only [footOf, isFn, ho]
    split
    all_goals first | exact ⟨_, _, _, rfl, trivial⟩ | simp_all
  | _ => first | (refine .inr (.inl ?_); simp only [footOf, isFn, ho]; exact ⟨_, _, _, rfl, trivial⟩) | (left; simp only [footOf, ho]; done)
theorem nw_cond (c : Bool) {f g : Foot} (hf : f.nw = true) (hg : g.nw = true) : (cond c f g).nw = true := by cases c <;> assumption
theorem evOp_same {o : Oper} {fr : List (Nat × AV)} {σ σ' : Store} {av : AV} (hn : (footOf P C o fr σ).nw = false) (h : evOp P C call inl o fr σ pr = some (av, σ')) : σ' = σ := by
  by_cases hc : opClass P C o = 0
  · obtain ⟨av', hk, _⟩ := evOp_pure h hc
    simp only [pr, Option.some.injEq, Prod.mk.injEq] at hk
    exact hk.2.symm
  have fin : ∀ {av' : AV}, pr av' σ = some (av, σ') → σ' = σ := fun hk => by
    simp only [pr, Option.some.injEq, Prod.mk.injEq] at hk
    exact hk.2.symm
  cases ho : o.op with
  | load t x =>
    simp only [evOp, ho] at h
    obtain ⟨_, hk, _⟩ := evLoad_sound h
    exact fin hk
  | indexAddr t x i =>
    simp only [evOp, ho] at h
    obtain ⟨_, hk, _⟩ := evIndexAddr_sound h
    exact fin hk
  | slice t x lo hi mx =>
    cases mx with
    | some m => simp only [evOp, ho] at h; cases h
    | none =>
      simp only [evOp, ho] at h
      simp only [footOf, ho] at hn
      cases e : eatB C o with
      | true => rw [e] at hn; cases hn
      | false =>
      rw [e] at h
      obtain ⟨_, hk, _⟩ := evSlice_sound h
      exact fin hk
  | call c =>
    simp only [footOf, ho] at hn
    simp only [evOp, ho] at h
    split at hn
    · rename_i hcal
      simp only [hcal] at h
      split at h
      · obtain ⟨_, hk, _⟩ := evLen_sound h
        exact fin hk
      · cases h
    · split at hn <;> cases hn
    · split at hn <;> cases hn
    · rename_i hcal; exact absurd (by simp only [opClass, ho, hcal]) hc
    · rename_i hcal; exact absurd (by simp only [opClass, ho, hcal]) hc
    · split at hn
      · rw [nw_cond _ rfl (nw_cond _ rfl (nw_cond _ rfl rfl))] at hn; cases hn
      · cases hn
    · cases hn
  | store t x y =>
    simp only [footOf, ho] at hn
    cases hy : noSl (getO fr y) with
    | true => rw [hy] at hn; cases hn
    | false =>
      rw [hy] at hn
      simp only [cond_false] at hn
      split at hn
      · split at hn
        · rename_i b _
          cases hb : b.obj <;> rw [hb] at hn <;> cases hn
        · cases hn
      · cases hn
  | buildSlice t n ps =>
    simp only [footOf, ho] at hn
    cases hn
  | move x =>
    cases x with
    | const v =>
      cases v with
      | slice a l c => simp only [footOf, ho] at hn; cases hn
      | _ => exact absurd (by simp only [opClass, ho]) hc
    | _ => exact absurd (by simp only [opClass, ho]) hc
  | assign x =>
    cases x with
    | const v =>
      cases v with
      | slice a l c => simp only [footOf, ho] at hn; cases hn
      | _ => exact absurd (by simp only [opClass, ho]) hc
    | _ => exact absurd (by simp only [opClass, ho]) hc
  | _ => first | (simp only [footOf, ho] at hn; cases hn; done) | (exact absurd (by simp only [opClass, ho]) hc)
theorem list_agree {τ σ : Store} (h : ∀ l : Nat, τ[l]? = σ[l]?) : τ = σ := List.ext_getElem? h
theorem evOp_stepY (HC : CallHyp P C call inl) {R : Type} {o : Oper} {fr : List (Nat × AV)} {σ : Store} {K : AV → Store → Option R} {r : R} (h : evOp P C call inl o fr σ K = some r) :
    ∃ av σ', K av σ' = some r ∧ StepY P C o (footOf P C o fr σ) fr σ av σ' := by
  have strict : footOf P C o fr σ = .top ∨ footOf P C o fr σ = ⟨none, some [], true⟩ ∧ quietB P C o = true → ∃ av σ', K av σ' = some r ∧ StepY P C o (footOf P C o fr σ) fr σ av σ' := fun hf => by
    obtain ⟨av, σ', hk, hln, hpre, hs⟩ := evOp_sound HC h
    have hput : ∀ l, inP (footOf P C o fr σ).put l = false → quietB P C o = true := fun l hl => by
      rcases hf with hf | ⟨_, hq⟩
      · rw [hf] at hl; cases hl
      · exact hq
    have hnw : (footOf P C o fr σ).nw = true := by rcases hf with hf | ⟨hf, _⟩ <;> rw [hf] <;> rfl
    have hlook : (footOf P C o fr σ).look = none := by rcases hf with hf | ⟨hf, _⟩ <;> rw [hf] <;> rfl
    have hkeep : ∀ l, l < σ.length → inP (footOf P C o fr σ).put l = false → σ'[l]? = σ[l]? := fun l hl hp => by
      obtain ⟨ν, rfl⟩ := hpre (hput l hp)
      exact List.getElem?_append_left hl
    refine ⟨av, σ', hk, hln, hkeep, fun e => (by rw [hnw] at e; cases e), fun τ hτ hag => ?_⟩
    · have : τ = σ := list_agree fun l => hag l (by rw [hlook]; rfl)
      subst this
      exact ⟨σ', rfl, hkeep, fun _ _ => rfl, hs⟩
  rcases foot_cases (P := P) (C := C) (o := o) (fr := fr) (σ := σ) with hf | ⟨L, W, m, hf, hfn⟩ | ⟨hf, _, hq⟩ | ⟨f, c, ho, hc, hi, hu, hpr, hf⟩
  · exact strict (.inl hf)
  · rw [evOp_nat hfn] at h
    obtain ⟨⟨av, σ'⟩, h1, hk⟩ := Option.bind_eq_some_iff.1 h
    have hfr : ∀ τ : Store, τ.length = σ.length → (∀ l, inL l L = true → τ[l]? = σ[l]?) → evOp P C call inl o fr τ pr = some (av, mixL τ σ' W) := fun τ hτ hag => by
      have := evOp_frame (K := pr) hτ (call := call) (inl := inl) hf (fun l hl => hag l ((inL_mem _).2 hl))
      rw [this, evOp_nat hfn, h1]
      rfl
    have hself := hfr σ rfl fun _ _ => rfl
    rw [h1] at hself
    simp only [Option.some.injEq, Prod.mk.injEq, true_and] at hself
    obtain ⟨av0, σ0, hk0, hln0, _⟩ := evOp_sound HC h1
    simp only [pr, Option.some.injEq, Prod.mk.injEq] at hk0
    obtain ⟨rfl, rfl⟩ := hk0
    rw [hf]
    refine ⟨_, _, hk, hln0, fun l hl hp => ?_, fun e => ?_, fun τ hτ hag => ?_⟩
    · rw [hself, mix_get hl hln0]
      have : inL l W = false := hp
      rw [this]; rfl
    · have := evOp_same (P := P) (C := C) (by rw [hf]; exact e) h1
      rw [this]
    · have h2 := hfr τ hτ hag
      have hle : τ.length ≤ σ0.length := by omega
      refine ⟨mixL τ σ0 W, mix_len hle, fun l hl hp => ?_, fun l hl => ?_, ?_⟩
      · rw [mix_get (by omega) hle]
        have : inL l W = false := hp
        rw [this]; rfl
      · rcases Nat.lt_or_ge l τ.length with h3 | h3
        · rcases hl with hl | hl
          · omega
          · rw [mix_get h3 hle]
            have : inL l W = true := hl
            rw [this]; rfl
        · exact mix_hi h3
      · obtain ⟨av1, σ1, hk1, _, _, hs1⟩ := evOp_sound HC h2
        simp only [pr, Option.some.injEq, Prod.mk.injEq] at hk1
        obtain ⟨rfl, rfl⟩ := hk1
        exact hs1
  · exact strict (.inr ⟨hf, hq⟩)
  · have e0 : ∀ {R : Type} (K : AV → Store → Option R), evOp P C call inl o fr σ K = evCall P C call inl σ K f (c.args.toList.map (getO fr)) := fun K => by
      simp only [evOp, ho, hc, getO, hpr, List.nil_append, List.append_nil]
    rw [e0] at h
    obtain ⟨av, σ', h1, hk, hkp⟩ := evCall_kept hu hi h
    obtain ⟨av0, σ0, hk0, hln0, _, hs⟩ := evOp_sound HC ((e0 pr).trans h1)
    simp only [pr, Option.some.injEq, Prod.mk.injEq] at hk0
    obtain ⟨rfl, rfl⟩ := hk0
    have hkeep : ∀ l, l < σ.length → inP (footOf P C o fr σ).put l = false → σ0[l]? = σ[l]? := fun l hl hp => by
      rw [hf] at hp
      refine hkp.2 l hl fun hm => ?_
      have : inL l (c.args.toList.flatMap fun x => refs σ (getO fr x)) = true := (inL_mem _).2 (by
        rw [List.mem_flatMap] at hm ⊢
        obtain ⟨a, ha, hm⟩ := hm
        obtain ⟨x, hx, rfl⟩ := List.mem_map.1 ha
        exact ⟨x, hx, hm⟩)
      exact absurd (show inL l (c.args.toList.flatMap fun x => refs σ (getO fr x)) = false from hp) (by rw [this]; decide)
    refine ⟨av0, σ0, hk, hln0, hkeep, fun e => (by rw [hf] at e; cases e), fun τ hτ hag => ?_⟩
    have : τ = σ := list_agree fun l => hag l (by rw [hf]; rfl)
    subst this
    exact ⟨σ0, rfl, hkeep, fun _ _ => rfl, hs⟩
def StepD (P : Program) (C : Cfg) (ops : Array Oper) (o : Oper) (t : Trace) (s s' : FM × Store) : Prop :=
  ((GuardYes ops o s.1 ∧ t.ld = ldB P C o) ∧ ∃ fr av σ', lookF fr = s.1 ∧ s' = (updF s.1 o.dst av, σ') ∧ t.lo = s.2.length ∧ t.hi = σ'.length ∧ StepY P C o t.f fr s.2 av σ') ∨
  (GuardNo ops o s.1 ∧ s' = (updF s.1 o.dst (.v (.tuple #[])), s.2) ∧ t = .no)
theorem evOpsD_chain (HC : CallHyp P C call inl) {R : Type} {ops : Array Oper} {K : St → Option R} {r : R} : ∀ (l : List Oper) (cls : List (List Nat)) (acc : List Trace) (s : St), evOpsD P C call inl ops l cls acc s K = some r →
    ∃ (s' : St) (ts : List Trace) (S : Nat → FM × Store), K s' = some r ∧ ts.length = l.length ∧ S 0 = (lookF s.fr, s.bl) ∧ S l.length = (lookF s'.fr, s'.bl) ∧
      ∀ (i : Nat) (o : Oper) (t : Trace), l[i]? = some o → ts[i]? = some t → StepD P C ops o t (S i) (S (i + 1)) ∧ ∀ (q : Nat) (g : Trace), q < acc.length + i → (acc ++ ts)[q]? = some g → inL q (cls.getD i []) = true ∨ NoClash g t.f
  | [], cls, acc, s, h => ⟨s, [], fun _ => (lookF s.fr, s.bl), h, rfl, rfl, rfl, fun i o t hi => by simp at hi⟩
  | o :: rest, cls, acc, s, h => by
    have next : ∀ (t : Trace) (s1 : St), evOpsD P C call inl ops rest cls.tail (acc ++ [t]) s1 K = some r → StepD P C ops o t (lookF s.fr, s.bl) (lookF s1.fr, s1.bl) →
        (∀ (q : Nat) (g : Trace), acc[q]? = some g → inL q (cls.headD []) = true ∨ NoClash g t.f) →
        ∃ (s' : St) (ts : List Trace) (S : Nat → FM × Store), K s' = some r ∧ ts.length = (o :: rest).length ∧ S 0 = (lookF s.fr, s.bl) ∧ S (o :: rest).length = (lookF s'.fr, s'.bl) ∧
          ∀ (i : Nat) (o' : Oper) (t : Trace), (o :: rest)[i]? = some o' → ts[i]? = some t → StepD P C ops o' t (S i) (S (i + 1)) ∧ ∀ (q : Nat) (g : Trace), q < acc.length + i → (acc ++ ts)[q]? = some g → inL q (cls.getD i []) = true ∨ NoClash g t.f := fun t s1 h1 hst hnc => by
      obtain ⟨s', ts, S, e1, e2, e3, e4, e5⟩ := evOpsD_chain HC rest _ _ s1 h1
      refine ⟨s', t :: ts, fun i => match i with | 0 => (lookF s.fr, s.bl) | i + 1 => S i, e1, by simp [e2], rfl, e4, fun i o' t' hi ht => ?_⟩
      cases i with
      | zero =>
        simp only [List.getElem?_cons_zero, Option.some.injEq] at hi ht
        subst hi; subst ht
        refine ⟨?_, fun q g hq hg => ?_⟩
        · show StepD P C ops o t (lookF s.fr, s.bl) (S 0)
          rw [e3]; exact hst
        · rw [List.getElem?_append_left (by omega)] at hg
          have := hnc q g hg
          cases cls <;> exact this
      | succ i =>
        simp only [List.getElem?_cons_succ] at hi ht
        obtain ⟨h2, h3⟩ := e5 i o' t' hi ht
        refine ⟨h2, fun q g hq hg => ?_⟩
        have := h3 q g (by simp only [List.length_append, List.length_singleton]; omega) (by rw [List.append_assoc]; exact hg)
        cases cls with
        | nil => simpa using this
        | cons c cls => simpa using this
    simp only [evOpsD] at h
    have yes : ∀ (fr : List (Nat × AV)), lookF fr = lookF s.fr → GuardYes ops o (lookF s.fr) → cond (footOk (cls.headD []) (footOf P C o fr s.bl) 0 acc) (evOp P C call inl o fr s.bl fun a σ => evOpsD P C call inl ops rest cls.tail (acc ++ [⟨footOf P C o fr s.bl, s.bl.length, σ.length, ldB P C o⟩]) ⟨putF fr o.dst a, σ⟩ K) none = some r →
        ∃ (s' : St) (ts : List Trace) (S : Nat → FM × Store), K s' = some r ∧ ts.length = (o :: rest).length ∧ S 0 = (lookF s.fr, s.bl) ∧ S (o :: rest).length = (lookF s'.fr, s'.bl) ∧
          ∀ (i : Nat) (o' : Oper) (t : Trace), (o :: rest)[i]? = some o' → ts[i]? = some t → StepD P C ops o' t (S i) (S (i + 1)) ∧ ∀ (q : Nat) (g : Trace), q < acc.length + i → (acc ++ ts)[q]? = some g → inL q (cls.getD i []) = true ∨ NoClash g t.f := fun fr hF hg h => by
      obtain ⟨hok, h⟩ := cond_some h
      obtain ⟨av, σ', hk, hs⟩ := evOp_stepY HC h
      refine next _ _ hk (.inl ⟨⟨hg, rfl⟩, fr, av, σ', hF, ?_, rfl, rfl, hs⟩) fun q g hq => ?_
      · show (lookF (putF fr o.dst av), σ') = _
        rw [lookF_put, hF]
      · have := footOk_spec acc 0 hok q g hq
        rwa [Nat.zero_add] at this
    have no : ∀ (fr : List (Nat × AV)), lookF fr = lookF s.fr → GuardNo ops o (lookF s.fr) → evOpsD P C call inl ops rest cls.tail (acc ++ [.no]) ⟨putF fr o.dst (.v (.tuple #[])), s.bl⟩ K = some r →
        ∃ (s' : St) (ts : List Trace) (S : Nat → FM × Store), K s' = some r ∧ ts.length = (o :: rest).length ∧ S 0 = (lookF s.fr, s.bl) ∧ S (o :: rest).length = (lookF s'.fr, s'.bl) ∧
          ∀ (i : Nat) (o' : Oper) (t : Trace), (o :: rest)[i]? = some o' → ts[i]? = some t → StepD P C ops o' t (S i) (S (i + 1)) ∧ ∀ (q : Nat) (g : Trace), q < acc.length + i → (acc ++ ts)[q]? = some g → inL q (cls.getD i []) = true ∨ NoClash g t.f := fun fr hF hg h => by
      refine next _ _ h (.inr ⟨hg, ?_, rfl⟩) fun q g _ => .inr (noClash_no g)
      show (lookF (putF fr o.dst _), s.bl) = _
      rw [lookF_put, hF]
    split at h
    · rename_i hg
      exact yes s.fr rfl (.inl hg) h
    · rename_i j want hg
      split at h
      · cases h
      · rename_i oj hoj
        split at h
        · cases h
        · rename_i d hd
          split at h
          · rename_i b hb
            have hput : ∀ c : Bool, b = c → lookF (putF s.fr (some d) (.v (.bool c))) = lookF s.fr := fun c e => by
              rw [lookF_put]; exact updF_self (by rw [hb, e])
            cases want with
            | true =>
              rcases cond_or h with ⟨e, h⟩ | ⟨e, h⟩
              · exact yes _ (hput _ e) (.inr ⟨j, true, oj, d, hg, hoj, hd, by rw [hb, e]⟩) h
              · exact no _ (hput _ e) ⟨j, true, oj, d, hg, hoj, hd, .inl (by rw [hb, e]; rfl)⟩ h
            | false =>
              rcases cond_or h with ⟨e, h⟩ | ⟨e, h⟩
              · exact no _ (hput _ e) ⟨j, false, oj, d, hg, hoj, hd, .inl (by rw [hb, e]; rfl)⟩ h
              · exact yes _ (hput _ e) (.inr ⟨j, false, oj, d, hg, hoj, hd, by rw [hb, e]⟩) h
          · rename_i u hu
            exact no s.fr rfl ⟨j, want, oj, d, hg, hoj, hd, .inr ⟨u, hu⟩⟩ h
          · cases h
end
end Go.Ev
namespace Go.Ev
variable [Gl]
theorem blt_f {a b : Nat} (h : b ≤ a) : Nat.blt a b = false := by
  cases h' : Nat.blt a b with
  | false => rfl
  | true => simp only [Nat.blt_eq] at h'; omega
theorem blt_t {a b : Nat} (h : a < b) : Nat.blt a b = true := by simpa only [Nat.blt_eq] using h
def lis (L : Array Bool) (i : Nat) : Bool := L.getD i false
def dstAt (ops : Array Oper) (k : Nat) : Option Nat := (ops[k]?).bind (·.dst)
theorem lis_set {L : Array Bool} {i j : Nat} (hi : i < L.size) : lis (L.setIfInBounds i true) j = (decide (i = j) || lis L j) := by
  unfold lis
  by_cases e : i = j
  · subst e; simp [hi]
  · simp [Array.getElem?_setIfInBounds_ne e, e]
def slotW (ops : Array Oper) (S : Nat → FM × Store) (L : Array Bool) : Nat → FM
  | 0 => (S 0).1
  | k + 1 => fun t => if lis L k = true ∧ dstAt ops k = some t then (S (k + 1)).1 t else slotW ops S L k t
section
variable {P : Program} {C : Cfg} {ops : Array Oper} {cl : Nat → Nat → Prop} {S : Nat → FM × Store} {T : Nat → Trace}
theorem step_keep (hS : ∀ (i : Nat) (o : Oper), ops[i]? = some o → StepD P C ops o (T i) (S i) (S (i + 1))) {k t : Nat} (hk : k < ops.size) (h : dstAt ops k ≠ some t) : (S (k + 1)).1 t = (S k).1 t := by
  have hok : ops[k]? = some ops[k] := Array.getElem?_eq_getElem hk
  have hd : ops[k].dst ≠ some t := by simpa [dstAt, hok] using h
  rcases hS k _ hok with ⟨_, fr, av, σ', _, h1, _⟩ | ⟨_, h1, _⟩
  · rw [h1]; simp [updF, hd]
  · rw [h1]; simp [updF, hd]
theorem slotW_none {L : Array Bool} (h : ∀ i, lis L i = false) : ∀ k, slotW ops S L k = (S 0).1
  | 0 => rfl
  | k + 1 => by
    funext t
    simp only [slotW, h k, Bool.false_eq_true, false_and, if_false, slotW_none h k]
theorem slotW_all (hS : ∀ (i : Nat) (o : Oper), ops[i]? = some o → StepD P C ops o (T i) (S i) (S (i + 1))) {L : Array Bool} (h : ∀ i, i < ops.size → lis L i = true) : ∀ k, k ≤ ops.size → slotW ops S L k = (S k).1
  | 0, _ => rfl
  | k + 1, hk => by
    funext t
    simp only [slotW, h k (by omega), true_and, slotW_all hS h k (by omega)]
    split
    · rfl
    · rename_i hd
      exact (step_keep hS (by omega) hd).symm
theorem looks_apart (DF : DrawFacts ops cl) {i j : Nat} {a b : Oper} (hij : i < j) (ha : ops[i]? = some a) (hb : ops[j]? = some b) (h : ¬ cl j i) :
    (∀ d, dstAt ops i = some d → d ∉ looksL ops b) ∧ (∀ d, dstAt ops i = some d → dstAt ops j ≠ some d) ∧ (∀ d, dstAt ops j = some d → d ∉ looksL ops a) := by
  have := apartB_spec ((DF.apart i j a b hij ha hb).resolve_left h)
  simpa [dstAt, ha, hb] using this
theorem slotW_look (DF : DrawFacts ops cl) (hS : ∀ (i : Nat) (o : Oper), ops[i]? = some o → StepD P C ops o (T i) (S i) (S (i + 1))) {L : Array Bool} (hcl : ∀ i j, lis L i = true → cl i j → lis L j = true) {i : Nat} {o : Oper} (ho : ops[i]? = some o)
    (hi : lis L i = false) (hr : ∀ j, cl i j → lis L j = true) {t : Nat} (ht : t ∈ looksL ops o) : ∀ k, k ≤ ops.size → slotW ops S L k t = (S (min k i)).1 t
  | 0, _ => by simp [slotW]
  | k + 1, hk => by
    have ih := slotW_look DF hS hcl ho hi hr ht k (by omega)
    have hok : ops[k]? = some ops[k] := Array.getElem?_eq_getElem (by omega)
    simp only [slotW]
    rcases Nat.lt_or_ge k i with hki | hki
    · rw [Nat.min_eq_left (show k + 1 ≤ i by omega)]
      rw [Nat.min_eq_left (by omega)] at ih
      split
      · rfl
      · rename_i hn
        rw [ih]
        refine (step_keep hS (by omega) fun hd => ?_).symm
        have hl : lis L k = false := by
          cases e : lis L k with
          | false => rfl
          | true => exact absurd ⟨e, hd⟩ hn
        have := looks_apart DF hki hok ho (fun e => by rw [hr k e] at hl; cases hl)
        exact this.1 t hd ht
    · rw [Nat.min_eq_right (show i ≤ k + 1 by omega)]
      rw [Nat.min_eq_right hki] at ih
      split
      · rename_i hn
        obtain ⟨hl, hd⟩ := hn
        have hne : i ≠ k := fun e => by rw [← e, hi] at hl; cases hl
        have := looks_apart DF (show i < k by omega) ho hok (fun e => by rw [hcl k i hl e] at hi; cases hi)
        exact absurd ht (this.2.2 t hd)
      · exact ih
theorem slotW_put (DF : DrawFacts ops cl) {L : Array Bool} (hcl : ∀ i j, lis L i = true → cl i j → lis L j = true) {i : Nat} {o : Oper} (ho : ops[i]? = some o) (hi : lis L i = false) (hsz : L.size = ops.size) :
    ∀ k, k ≤ ops.size → slotW ops S (L.setIfInBounds i true) k = fun t => if i < k ∧ o.dst = some t then (S (i + 1)).1 t else slotW ops S L k t
  | 0, _ => by funext t; simp [slotW]
  | k + 1, hk => by
    have ih := slotW_put DF hcl ho hi hsz k (by omega)
    have hil : i < ops.size := (Array.getElem?_eq_some_iff.1 ho).1
    have hok : ops[k]? = some ops[k] := Array.getElem?_eq_getElem (by omega)
    have hdi : dstAt ops i = o.dst := by simp [dstAt, ho]
    funext t
    simp only [slotW, ih, lis_set (show i < L.size by omega)]
    by_cases e : i = k
    · subst e
      simp only [decide_true, Bool.true_or, true_and, hi, Bool.false_eq_true, false_and, if_false, hdi, Nat.lt_irrefl, Nat.lt_succ_self]
    · simp only [e, decide_false, Bool.false_or]
      by_cases hl : lis L k = true ∧ dstAt ops k = some t
      · rw [if_pos hl, if_pos hl]
        split
        · rename_i hn
          have := looks_apart DF (show i < k by omega) ho hok (fun e => by rw [hcl k i hl.1 e] at hi; cases hi)
          exact absurd hl.2 (this.2.1 t (hdi ▸ hn.2))
        · rfl
      · rw [if_neg hl, if_neg hl]
        have : (i < k ∧ o.dst = some t) ↔ (i < k + 1 ∧ o.dst = some t) := by
          constructor
          · rintro ⟨h1, h2⟩; exact ⟨by omega, h2⟩
          · rintro ⟨h1, h2⟩; exact ⟨by omega, h2⟩
        simp only [this]
theorem seg_len (hS : ∀ (i : Nat) (o : Oper), ops[i]? = some o → StepD P C ops o (T i) (S i) (S (i + 1))) : ∀ (d p : Nat), p + d ≤ ops.size → (S p).2.length ≤ (S (p + d)).2.length
  | 0, p, _ => Nat.le_refl _
  | d + 1, p, h => by
    have hok : ops[p + d]? = some ops[p + d] := Array.getElem?_eq_getElem (by omega)
    refine Nat.le_trans (seg_len hS d p (by omega)) ?_
    rw [← Nat.add_assoc]
    rcases hS _ _ hok with ⟨_, fr, av, σ', _, h1, _, _, h2⟩ | ⟨_, h1, _⟩
    · rw [h1]; exact h2.len
    · rw [h1]; exact Nat.le_refl _
theorem seg_le (hS : ∀ (i : Nat) (o : Oper), ops[i]? = some o → StepD P C ops o (T i) (S i) (S (i + 1))) {p q : Nat} (h1 : p ≤ q) (h2 : q ≤ ops.size) : (S p).2.length ≤ (S q).2.length := by
  have := seg_len hS (q - p) p (by omega)
  rwa [show p + (q - p) = q by omega] at this
/-! ## The store when the listed operations have been carried out -/
def dead : Blk := ⟨0, 0, 0, false, []⟩
def wrote (S : Nat → FM × Store) (T : Nat → Trace) (k l : Nat) : Bool := Nat.blt l (S (k + 1)).2.length && (Nat.ble (S k).2.length l || inP (T k).f.put l)
def blkW (S : Nat → FM × Store) (T : Nat → Trace) (L : Array Bool) : Nat → Nat → Blk
  | 0, l => bif Nat.blt l (S 0).2.length then (S 0).2.getD l dead else dead
  | k + 1, l => bif lis L k && wrote S T k l then (S (k + 1)).2.getD l dead else blkW S T L k l
def stW (S : Nat → FM × Store) (T : Nat → Trace) (L : Array Bool) (n : Nat) : Store := (List.range (S n).2.length).map fun l => blkW S T L n l
theorem stW_len {L : Array Bool} {n : Nat} : (stW S T L n).length = (S n).2.length := by simp [stW]
theorem stW_get {L : Array Bool} {n l : Nat} (h : l < (S n).2.length) : (stW S T L n)[l]? = some (blkW S T L n l) := by
  simp [stW, h]
def Apart (ops : Array Oper) (cl : Nat → Nat → Prop) (T : Nat → Trace) : Prop := ∀ i j, i < j → j < ops.size → cl j i ∨ NoClash (T i) (T j).f
theorem wrote_iff {k l : Nat} : wrote S T k l = true ↔ l < (S (k + 1)).2.length ∧ ((S k).2.length ≤ l ∨ inP (T k).f.put l = true) := by
  simp [wrote, Nat.blt_eq, Nat.ble_eq]
theorem step_lo (hS : ∀ (i : Nat) (o : Oper), ops[i]? = some o → StepD P C ops o (T i) (S i) (S (i + 1))) {k : Nat} (hk : k < ops.size) :
    ((T k).lo = (S k).2.length ∧ (T k).hi = (S (k + 1)).2.length ∨ (T k).f.nw = false ∧ (S (k + 1)).2.length = (S k).2.length) ∧ ((T k).f.nw = false → (S (k + 1)).2.length = (S k).2.length) := by
  rcases hS k _ (Array.getElem?_eq_getElem hk) with ⟨_, fr, av, σ', _, h1, h2, h3, h4⟩ | ⟨_, h1, h2⟩
  · rw [h1]; exact ⟨.inl ⟨h2, h3⟩, h4.nw⟩
  · rw [h1, h2]; exact ⟨.inr ⟨rfl, rfl⟩, fun _ => rfl⟩
theorem step_keep' (hS : ∀ (i : Nat) (o : Oper), ops[i]? = some o → StepD P C ops o (T i) (S i) (S (i + 1))) {k l : Nat} (hk : k < ops.size) (hl : l < (S k).2.length) (h : inP (T k).f.put l = false) : (S (k + 1)).2.getD l dead = (S k).2.getD l dead := by
  rcases hS k _ (Array.getElem?_eq_getElem hk) with ⟨_, fr, av, σ', _, h1, _, _, h4⟩ | ⟨_, h1, _⟩
  · rw [h1]
    simp only [List.getD_eq_getElem?_getD]
    rw [h4.keep l hl h]
  · rw [h1]
theorem lis_lt {L : Array Bool} {j : Nat} (h : lis L j = true) : j < L.size := by
  unfold lis at h
  rcases Nat.lt_or_ge j L.size with h1 | h1
  · exact h1
  · simp [Array.getElem?_eq_none h1] at h
theorem blkW_look (AP : Apart ops cl T) (hS : ∀ (i : Nat) (o : Oper), ops[i]? = some o → StepD P C ops o (T i) (S i) (S (i + 1))) {L : Array Bool} (hcl : ∀ i j, lis L i = true → cl i j → lis L j = true) (hsz : L.size = ops.size) {i : Nat} (hin : i < ops.size)
    (hi : lis L i = false) (hr : ∀ j, cl i j → lis L j = true) {l : Nat} (hl : inP (T i).f.look l = true) (hmade : l < (S 0).2.length ∨ ∃ j, lis L j = true ∧ (S j).2.length ≤ l ∧ l < (S (j + 1)).2.length) :
    ∀ k, k ≤ ops.size → l < (S (min k i)).2.length → blkW S T L k l = (S (min k i)).2.getD l dead
  | 0, _, h => by
    have : Nat.blt l (S 0).2.length = true := by simpa [Nat.blt_eq] using h
    simp [blkW, this]
  | k + 1, hk, h => by
    simp only [blkW]
    rcases Nat.lt_or_ge k i with hki | hki
    · rw [Nat.min_eq_left (show k + 1 ≤ i by omega)] at h ⊢
      cases hw : (lis L k && wrote S T k l) with
      | true => rfl
      | false =>
        have hlk : l < (S k).2.length := by
          rcases Nat.lt_or_ge l (S k).2.length with h1 | h1
          · exact h1
          · exfalso
            have hwr : wrote S T k l = true := wrote_iff.2 ⟨h, .inl h1⟩
            rw [hwr, Bool.and_true] at hw
            rcases hmade with h2 | ⟨j, h2, h3, h4⟩
            · have := seg_le hS (Nat.zero_le k) (by omega); omega
            · rcases Nat.lt_trichotomy j k with h5 | h5 | h5
              · have := seg_le hS (show j + 1 ≤ k by omega) (by omega); omega
              · subst h5; rw [h2] at hw; cases hw
              · have hj := lis_lt h2
                have := seg_le hS (show k + 1 ≤ j by omega) (by omega)
                omega
        have ih := blkW_look AP hS hcl hsz hin hi hr hl hmade k (by omega) (by rw [Nat.min_eq_left (by omega)]; exact hlk)
        rw [Nat.min_eq_left (show k ≤ i by omega)] at ih
        rw [cond_false, ih]
        refine (step_keep' hS (by omega) hlk ?_).symm
        cases hp : inP (T k).f.put l with
        | false => rfl
        | true =>
          have hwr : wrote S T k l = true := wrote_iff.2 ⟨h, .inr hp⟩
          rw [hwr, Bool.and_true] at hw
          rcases AP k i hki hin with h1 | h1
          · rw [hr k h1] at hw; cases hw
          · exact (h1.pl l hp hl).elim
    · rw [Nat.min_eq_right (show i ≤ k + 1 by omega)] at h ⊢
      have ih := blkW_look AP hS hcl hsz hin hi hr hl hmade k (by omega) (by rw [Nat.min_eq_right hki]; exact h)
      rw [Nat.min_eq_right hki] at ih
      cases hw : (lis L k && wrote S T k l) with
      | false => rw [cond_false]; exact ih
      | true =>
        exfalso
        simp only [Bool.and_eq_true] at hw
        obtain ⟨h1, h2⟩ := hw
        have hne : i ≠ k := fun e => by rw [e, h1] at hi; cases hi
        have hik : i < k := by omega
        have hle := seg_le hS hki (by omega)
        rcases (wrote_iff.1 h2).2 with h3 | h3
        · omega
        · rcases AP i k hik (by omega) with h4 | h4
          · rw [hcl k i h1 h4] at hi; cases hi
          · exact h4.lp l hl h3
theorem blkW_put (AP : Apart ops cl T) (hS : ∀ (i : Nat) (o : Oper), ops[i]? = some o → StepD P C ops o (T i) (S i) (S (i + 1))) {L : Array Bool} (hcl : ∀ i j, lis L i = true → cl i j → lis L j = true) {i : Nat} (hin : i < ops.size) (hi : lis L i = false) (hsz : L.size = ops.size) (l : Nat) :
    ∀ k, k ≤ ops.size → blkW S T (L.setIfInBounds i true) k l = bif Nat.blt i k && wrote S T i l then (S (i + 1)).2.getD l dead else blkW S T L k l
  | 0, _ => by simp only [blkW, blt_f (Nat.zero_le i), Bool.false_and, cond_false]
  | k + 1, hk => by
    have ih := blkW_put AP hS hcl hin hi hsz l k (by omega)
    simp only [blkW, ih, lis_set (show i < L.size by omega)]
    by_cases e : i = k
    · subst e
      rw [blt_f (Nat.le_refl i), blt_t (Nat.lt_succ_self i), hi]
      simp
    · have h1 : Nat.blt i (k + 1) = Nat.blt i k := by
        rcases Nat.lt_or_ge i k with h | h
        · rw [blt_t h, blt_t (by omega)]
        · rw [blt_f h, blt_f (by omega)]
      rw [h1]
      simp only [e, decide_false, Bool.false_or]
      cases hw : (lis L k && wrote S T k l) with
      | false => rfl
      | true =>
        simp only [cond_true]
        cases hv : (Nat.blt i k && wrote S T i l) with
        | false => rfl
        | true =>
          exfalso
          simp only [Bool.and_eq_true, Nat.blt_eq] at hw hv
          obtain ⟨hk1, hk2⟩ := hw
          obtain ⟨hik, hv2⟩ := hv
          obtain ⟨a1, a2⟩ := wrote_iff.1 hk2
          obtain ⟨b1, b2⟩ := wrote_iff.1 hv2
          have hle := seg_le hS (show i + 1 ≤ k by omega) (by omega)
          have hp : inP (T k).f.put l = true := a2.resolve_left (by omega)
          rcases AP i k hik (by omega) with h4 | h4
          · rw [hcl k i hk1 h4] at hi; cases hi
          · rcases b2 with b2 | b2
            · rcases (step_lo hS hin).1 with ⟨c1, c2⟩ | ⟨c1, c2⟩
              · exact h4.mks l (by omega) (by omega) hp
              · omega
            · exact h4.pp l b2 hp
theorem blkW_none {L : Array Bool} (h : ∀ i, lis L i = false) (l : Nat) : ∀ k, blkW S T L k l = bif Nat.blt l (S 0).2.length then (S 0).2.getD l dead else dead
  | 0 => rfl
  | k + 1 => by simp only [blkW, h k, Bool.false_and, cond_false, blkW_none h l k]
theorem blkW_all (hS : ∀ (i : Nat) (o : Oper), ops[i]? = some o → StepD P C ops o (T i) (S i) (S (i + 1))) {L : Array Bool} (h : ∀ i, i < ops.size → lis L i = true) (l : Nat) : ∀ k, k ≤ ops.size → l < (S k).2.length → blkW S T L k l = (S k).2.getD l dead
  | 0, _, hl => by
    have : Nat.blt l (S 0).2.length = true := by simpa [Nat.blt_eq] using hl
    simp [blkW, this]
  | k + 1, hk, hl => by
    simp only [blkW, h k (by omega), Bool.true_and]
    cases hw : wrote S T k l with
    | true => rfl
    | false =>
      have hlk : l < (S k).2.length := by
        rcases Nat.lt_or_ge l (S k).2.length with h1 | h1
        · exact h1
        · rw [wrote_iff.2 ⟨hl, .inl h1⟩] at hw; cases hw
      rw [cond_false, blkW_all hS h l k (by omega) hlk]
      refine (step_keep' hS (by omega) hlk ?_).symm
      cases hp : inP (T k).f.put l with
      | false => rfl
      | true => rw [wrote_iff.2 ⟨hl, .inr hp⟩] at hw; cases hw
end
/-! ## An operation that works on a part of the store -/
section
variable {E : Env} {μ μ' : Mu} {ρ ρ' : Rho} {σ σ' V V' : Store} {w w' : World}
def envOf (μ : Mu) (hg : Gl.ok μ) (ρ : Rho) (σ : Store) (w : World) : Env := ⟨w, fun b => ∃ l rb k, ρ l = some rb ∧ σ[l]? = some k ∧ k.mode = 1 ∧ rb.ph = false ∧ rb.b = b, μ, hg⟩
theorem SR.cut (hs : SR E μ ρ V w) (h : ∀ l rb, l < σ.length → ρ l = some rb → σ[l]? = V[l]?) : SR (envOf μ hs.gl ρ σ w) μ ρ σ w := by
  have hv : ∀ l rb k, ρ l = some rb → σ[l]? = some k → V[l]? = some k := fun l rb k hl hk => by
    rw [← h l rb (List.getElem?_eq_some_iff.1 hk).1 hl]; exact hk
  exact ⟨fun l rb k hl hk hm => hs.blk l rb k hl (hv l rb k hl hk) hm, fun l l' rb rb' k k' hl hl' hk hk' => hs.inj l l' rb rb' k k' hl hl' (hv _ _ _ hl hk) (hv _ _ _ hl' hk'),
    fun l rb k hl hk hm hp => .inl ⟨l, rb, k, hl, hk, hm, hp, rfl⟩, hs.imm, ⟨rfl, rfl, rfl, Nat.le_refl _, fun _ _ _ => rfl, MuLe.refl _, fun _ _ h => .inl h⟩⟩
theorem SR.lay (hs : SR E μ ρ V w) (h : ∀ l rb, l < σ.length → ρ l = some rb → σ[l]? = V[l]?) {q : Bool} (hs' : SR (envOf μ hs.gl ρ σ w) μ' ρ' σ' w') (g : Grow q μ ρ σ.length w μ' ρ' σ'.length w')
    (h1 : ∀ l rb, l < σ'.length → ρ' l = some rb → V'[l]? = σ'[l]?) (h2 : ∀ l, σ'.length ≤ l → V'[l]? = V[l]?) : SR E μ' ρ' V' w' := by
  have hD : ∀ b, (envOf μ hs.gl ρ σ w).D b → ∃ l rb k, l < σ.length ∧ ρ l = some rb ∧ V[l]? = some k ∧ k.mode = 1 ∧ rb.ph = false ∧ rb.b = b := fun b ⟨l, rb, k, e1, e2, e3, e4, e5⟩ => by
    have hl := (List.getElem?_eq_some_iff.1 e2).1
    exact ⟨l, rb, k, hl, e1, by rw [← h l rb hl e1]; exact e2, e3, e4, e5⟩
  have hDE : ∀ b, (envOf μ hs.gl ρ σ w).D b → E.D b ∨ E.w0.heap.size ≤ b := fun b hb => by
    obtain ⟨l, rb, k, _, e1, e2, e3, e4, e5⟩ := hD b hb
    exact e5 ▸ hs.ownD l rb k e1 e2 e3 e4
  have old : ∀ l rb, σ'.length ≤ l → ρ' l = some rb → ρ l = some rb := fun l rb hl hr => by
    rcases g.dom l rb hr with h3 | ⟨_, h3, _⟩
    · exact h3
    · omega
  have split : ∀ l rb k, ρ' l = some rb → V'[l]? = some k → (l < σ'.length ∧ σ'[l]? = some k) ∨ (σ'.length ≤ l ∧ ρ l = some rb ∧ V[l]? = some k) := fun l rb k hr hk => by
    rcases Nat.lt_or_ge l σ'.length with h3 | h3
    · exact .inl ⟨h3, by rw [← h1 l rb h3 hr]; exact hk⟩
    · exact .inr ⟨h3, old l rb h3 hr, by rw [← h2 l h3]; exact hk⟩
  have notD : ∀ l rb k, σ'.length ≤ l → ρ l = some rb → V[l]? = some k → k.mode = 1 → rb.ph = false → ¬ (envOf μ hs.gl ρ σ w).D rb.b := fun l rb k hl hr hk hm hp hd => by
    obtain ⟨l2, rb2, k2, e0, e1, e2, e3, e4, e5⟩ := hD _ hd
    have := hs.inj l2 l rb2 rb k2 k e1 hr e2 hk e3 hm e4 hp e5
    have := g.len
    omega
  have hcross : ∀ l rb k l' rb' k', l < σ'.length → ρ' l = some rb → σ'[l]? = some k → k.mode = 1 → rb.ph = false → σ'.length ≤ l' → ρ l' = some rb' → V[l']? = some k' → k'.mode = 1 → rb'.ph = false → rb.b ≠ rb'.b := fun l rb k l' rb' k' _ e1 e2 e3 e4 e5 e6 e7 e8 e9 he => by
    rcases hs'.ownD l rb k e1 e2 e3 e4 with h3 | h3
    · exact notD l' rb' k' e5 e6 e7 e8 e9 (he ▸ h3)
    · have := hs.own_lt e6 e7 e8 e9
      change w.heap.size ≤ rb.b at h3
      omega
  refine ⟨fun l rb k hl hk hm => ?_, fun l l' rb rb' k k' hl hl' hk hk' hm1 hm2 hp hp' he => ?_, fun l rb k hl hk hm hp => ?_, hs'.imm, ⟨hs'.base.os.trans hs.base.os, hs'.base.tape.trans hs.base.tape, hs'.base.output.trans hs.base.output, Nat.le_trans hs.base.size hs'.base.size, fun b hb hd => ?_, hs.base.mu.trans g.mu, fun b o hb => ?_⟩⟩
  · rcases split l rb k hl hk with ⟨_, h3⟩ | ⟨h3, h4, h5⟩
    · exact hs'.blk l rb k hl h3 hm
    · have hb := hs.blk l rb k h4 h5 hm
      refine ⟨hb.sz, hb.n, hb.fit, hb.ph, hb.one, fun hp => ?_⟩
      obtain ⟨cur, hc⟩ := hb.live hp
      refine ⟨cur, hc.size, fun e => (hc.rowD e).mono g.mu, fun e => (hc.rowO e).mono g.mu g.rho, ?_⟩
      rcases hc.at_ with ⟨a1, a2, a3⟩ | ⟨a1, ty, fz, a2⟩
      · have hlt := hs.own_lt h4 h5 a1 hp
        have hnd := notD l rb k h3 h4 h5 a1 hp
        refine .inl ⟨a1, a2.imp fun fz a2 => ⟨by rw [hs'.base.keep rb.b hlt hnd]; exact a2.1, a2.2⟩, ?_⟩
        cases e : μ' rb.b with
        | none => rfl
        | some o =>
          rcases hs'.base.muNew _ _ e with e1 | e1 | e1
          · change μ rb.b = some o at e1
            rw [a3] at e1; cases e1
          · exact absurd e1 hnd
          · change w.heap.size ≤ rb.b at e1
            omega
      · exact .inr ⟨a1, ty, fz, g.mu _ _ a2⟩
  · rcases split l rb k hl hk with ⟨h3, h4⟩ | ⟨h3, h4, h5⟩ <;> rcases split l' rb' k' hl' hk' with ⟨h3', h4'⟩ | ⟨h3', h4', h5'⟩
    · exact hs'.inj l l' rb rb' k k' hl hl' h4 h4' hm1 hm2 hp hp' he
    · exact absurd he (hcross l rb k l' rb' k' h3 hl h4 hm1 hp h3' h4' h5' hm2 hp')
    · exact absurd he.symm (hcross l' rb' k' l rb k h3' hl' h4' hm2 hp' h3 h4 h5 hm1 hp)
    · exact hs.inj l l' rb rb' k k' h4 h4' h5 h5' hm1 hm2 hp hp' he
  · rcases split l rb k hl hk with ⟨_, h3⟩ | ⟨_, h4, h5⟩
    · rcases hs'.ownD l rb k hl h3 hm hp with h6 | h6
      · exact hDE _ h6
      · exact .inr (Nat.le_trans hs.base.size h6)
    · exact hs.ownD l rb k h4 h5 hm hp
  · rw [hs'.base.keep b (Nat.lt_of_lt_of_le hb hs.base.size) fun h3 => by
      rcases hDE b h3 with h4 | h4
      · exact hd h4
      · omega]
    exact hs.base.keep b hb hd
  · rcases hs'.base.muNew b o hb with h3 | h3 | h3
    · exact hs.base.muNew b o h3
    · exact .inr (hDE b h3)
    · exact .inr (.inr (Nat.le_trans hs.base.size h3))
end
end Go.Ev
namespace Go.Ev
variable [Gl]
section
variable {P : Program} {C : Cfg} {ops : Array Oper} {cl : Nat → Nat → Prop} {S : Nat → FM × Store} {T : Nat → Trace} {E : Env} {B : Base} {G : Nat → Value} {n : Nat} {Q : Exit → Act → World → Prop}
structure Inv (ops : Array Oper) (cl : Nat → Nat → Prop) (S : Nat → FM × Store) (T : Nat → Trace) (E : Env) (B : Base) (G : Nat → Value) (n : Nat) (L : Array Bool) (a : Act) (w : World) : Prop where
  lsize : L.size = ops.size
  closed : ∀ i j, lis L i = true → cl i j → lis L j = true
  st : ∃ μ ρ, FR μ ρ G (slotW ops S L ops.size) a ∧ SR E μ ρ (stW S T L ops.size) w ∧ (∀ l rb, ρ l = some rb → l < (S 0).2.length ∨ ∃ j, lis L j = true ∧ (S j).2.length ≤ l ∧ l < (S (j + 1)).2.length) ∧ Since B μ ρ w
  base : B.n ≤ (S 0).2.length
  size : a.tmps.size = n
  defers : a.defers = []
theorem lis_ready {L : Array Bool} {i : Nat} (hL : L.size = ops.size) (h : i ∈ Region.ready .any ops L) : ∃ o, ops[i]? = some o ∧ lis L i = false ∧ ∀ e ∈ o.after, Region.binds .any e = true → lis L e.on = true := by
  obtain ⟨h0, o, ho, hall⟩ := mem_ready.1 h
  refine ⟨o, ho, ?_, fun e he hb => hall e he hb⟩
  have hlt : i < L.size := by rw [hL]; exact (Array.getElem?_eq_some_iff.1 ho).1
  simpa [lis, hlt] using h0
theorem ready_none {L : Array Bool} (DF : DrawFacts ops cl) (hL : L.size = ops.size) (h : Region.ready .any ops L = []) : ∀ i, i < ops.size → lis L i = true := by
  intro i
  induction i using Nat.strongRecOn with
  | _ i ih =>
    intro hi
    cases e : lis L i with
    | true => rfl
    | false =>
      have hok : ops[i]? = some ops[i] := Array.getElem?_eq_getElem hi
      have : i ∈ Region.ready .any ops L := mem_ready.2 ⟨by simpa [lis, show i < L.size by omega] using e, _, hok, fun ed he hb => ih ed.on (DF.lt i _ hok ed he hb) (by have := DF.lt i _ hok ed he hb; omega)⟩
      rw [h] at this; cases this
theorem inv_step (DF : DrawFacts ops cl) (AP : Apart ops cl T) (hS : ∀ (i : Nat) (o : Oper), ops[i]? = some o → StepD P C ops o (T i) (S i) (S (i + 1))) (hd : DstOk ops n) {L : Array Bool} {a : Act} {w : World} (inv : Inv ops cl S T E B G n L a w) {i : Nat}
    (hi : i ∈ Region.ready .any ops L) {K : Act → World → Prop} (hK : ∀ a' w', Inv ops cl S T E B G n (L.setIfInBounds i true) a' w' → K a' w') : wpOp P ops Q i K a w := by
  obtain ⟨o, ho, hil, hedge⟩ := lis_ready inv.lsize hi
  have hin : i < ops.size := (Array.getElem?_eq_some_iff.1 ho).1
  have hiL : i < L.size := by rw [inv.lsize]; exact hin
  have hcl' : ∀ j, cl i j → lis L j = true := fun j hj => by
    obtain ⟨e, h1, h2, h3⟩ := DF.mem i o j ho hj
    rcases h3 with h3 | h3
    · rw [h3]; exact hedge e h1 h2
    · exact inv.closed _ _ (hedge e h1 h2) h3
  have hclosed : ∀ i' j, lis (L.setIfInBounds i true) i' = true → cl i' j → lis (L.setIfInBounds i true) j = true := fun i' j h1 h2 => by
    rw [lis_set hiL] at h1 ⊢
    simp only [Bool.or_eq_true, decide_eq_true_eq] at h1 ⊢
    rcases h1 with h1 | h1
    · subst h1; exact .inr (hcl' j h2)
    · exact .inr (inv.closed i' j h1 h2)
  obtain ⟨μ, ρ, hfr, hsr, hdom, hsin⟩ := inv.st
  have hlook : ∀ t, t ∈ looksL ops o → slotW ops S L ops.size t = (S i).1 t := fun t ht => by
    have := slotW_look DF hS inv.closed ho hil hcl' ht ops.size (Nat.le_refl _)
    rwa [Nat.min_eq_right (by omega)] at this
  have hdd : ∀ (j : Nat) (oj : Oper) (d : Nat), ops[j]? = some oj → oj.dst = some d → d < a.tmps.size ∧ d < 1000000 := fun j oj d h1 h2 => by rw [inv.size]; exact hd j oj d h1 h2
  have hdst : ∀ d, o.dst = some d → d < a.tmps.size ∧ d < 1000000 := fun d e => hdd i o d ho e
  have hguard : ∀ (j : Nat) (want : Bool) (oj : Oper) (d : Nat), o.guard = some (j, want) → ops[j]? = some oj → oj.dst = some d → VR μ ρ ((S i).1 d) (slotV G a d) := fun j want oj d h1 h2 h3 => by
    rw [← hlook d (by simp [looksL, h1, h2, h3])]
    exact hfr d
  have hops : ∀ fr, lookF fr = (S i).1 → OpsR μ ρ fr a o := fun fr hF x hx => getO_FR fun t ht => by
    rw [hF, ← hlook t (by
      simp only [looksL, List.mem_append, List.mem_filterMap]
      exact .inl ⟨x, Array.mem_toList_iff.2 hx, by rw [ht]⟩)]
    exact hfr t
  have hmono : ∀ p q, p ≤ q → q ≤ ops.size → (S p).2.length ≤ (S q).2.length := fun p q h1 h2 => seg_le hS h1 h2
  have hjn : ∀ j, lis L j = true → j < ops.size := fun j h => by have := lis_lt h; rw [inv.lsize] at this; exact this
  have hmono0 : (S 0).2.length ≤ (S i).2.length := hmono 0 i (Nat.zero_le _) (by omega)
  have fin : ∀ (av : AV) (v : Value) (w' : World) (μ' : Mu) (ρ' : Rho), (∀ t, o.dst = some t → (S (i + 1)).1 t = av) → MuLe μ μ' → RhoLe ρ ρ' → VR μ' ρ' av v → SR E μ' ρ' (stW S T (L.setIfInBounds i true) ops.size) w' →
      (∀ l rb, ρ' l = some rb → ρ l = some rb ∨ ((S i).2.length ≤ l ∧ l < (S (i + 1)).2.length)) → w.heap.size ≤ w'.heap.size → K (a.put o.dst v) w' := fun av v w' μ' ρ' hav hm hr hv hs hdm hz => by
    refine hK _ _ ⟨by simp [inv.lsize], hclosed, ⟨μ', ρ', ?_, hs, fun l rb hl => ?_, hsin.on hm hr (Nat.le_trans inv.base hmono0) hdm hz⟩, inv.base, put_size.trans inv.size, put_defers.trans inv.defers⟩
    · have hW : slotW ops S (L.setIfInBounds i true) ops.size = updF (slotW ops S L ops.size) o.dst av := by
        rw [slotW_put DF inv.closed ho hil inv.lsize ops.size (Nat.le_refl _)]
        funext t
        simp only [hin, true_and, updF]
        split
        · rename_i e; exact hav t e
        · rfl
      rw [hW]
      exact (hfr.mono hm hr).put hdst hv
    · rcases hdm l rb hl with h | ⟨h3, h4⟩
      · rcases hdom l rb h with h | ⟨j, h3, h4, h5⟩
        · exact .inl h
        · exact .inr ⟨j, by rw [lis_set hiL, h3, Bool.or_true], h4, h5⟩
      · exact .inr ⟨i, by rw [lis_set hiL]; simp, h3, h4⟩
  have hput : ∀ l, blkW S T (L.setIfInBounds i true) ops.size l = bif wrote S T i l then (S (i + 1)).2.getD l dead else blkW S T L ops.size l := fun l => by
    rw [blkW_put AP hS inv.closed hin hil inv.lsize l ops.size (Nat.le_refl _), blt_t hin, Bool.true_and]
  unfold wpOp
  simp only [ho]
  rcases hS i o ho with ⟨⟨hg, hld⟩, fr, av, σ', hF, hs1, hlo, hhi, hY⟩ | ⟨hg, hs1, hT⟩
  · rw [if_pos (wanted_yes hg hdd hguard)]
    left
    have hav : ∀ t, o.dst = some t → (S (i + 1)).1 t = av := fun t e => by rw [hs1]; simp [updF, e]
    have hσ : (S (i + 1)).2 = σ' := by rw [hs1]
    let τ : Store := (List.range (S i).2.length).map fun l => match ρ l with | some _ => blkW S T L ops.size l | none => (S i).2.getD l dead
    have hτl : τ.length = (S i).2.length := by simp [τ]
    have hiN : (S i).2.length ≤ (S ops.size).2.length := hmono i ops.size (by omega) (Nat.le_refl _)
    have hi1N : (S (i + 1)).2.length ≤ (S ops.size).2.length := hmono (i + 1) ops.size (by omega) (Nat.le_refl _)
    have hτg : ∀ l, l < (S i).2.length → τ[l]? = some (match ρ l with | some _ => blkW S T L ops.size l | none => (S i).2.getD l dead) := fun l hl => by simp [τ, hl]
    have hmadeOf : ∀ l rb, ρ l = some rb → l < (S 0).2.length ∨ ∃ j, lis L j = true ∧ (S j).2.length ≤ l ∧ l < (S (j + 1)).2.length := hdom
    have hag : ∀ l, inP (T i).f.look l = true → τ[l]? = (S i).2[l]? := fun l hl => by
      rcases Nat.lt_or_ge l (S i).2.length with h1 | h1
      · have hgd : (S i).2[l]? = some ((S i).2.getD l dead) := by simp [h1]
        rw [hτg l h1, hgd]
        congr 1
        cases hr : ρ l with
        | none => rfl
        | some rb =>
          have := blkW_look AP hS inv.closed inv.lsize hin hil hcl' hl (hmadeOf l rb hr) ops.size (Nat.le_refl _) (by rw [Nat.min_eq_right (by omega)]; exact h1)
          rw [Nat.min_eq_right (by omega)] at this
          exact this
      · rw [List.getElem?_eq_none (by omega), List.getElem?_eq_none h1]
    obtain ⟨τ', hτ'l, hkeep, hnew, hsnd⟩ := hY.snd τ hτl hag
    have hcut : ∀ l rb, l < τ.length → ρ l = some rb → τ[l]? = (stW S T L ops.size)[l]? := fun l rb hl hr => by
      rw [hτl] at hl
      rw [hτg l hl, stW_get (by omega), hr]
    have hsrτ : SR (envOf μ hsr.gl ρ τ w) μ ρ τ w := hsr.cut hcut
    have hfresh : FreshTo ρ τ.length τ'.length := fun l h1 h2 => by
      rw [hτl] at h1
      rw [hτ'l, ← hσ] at h2
      cases e : ρ l with
      | none => rfl
      | some rb =>
        rcases hdom l rb e with h | ⟨j, h3, h4, h5⟩
        · omega
        · have hne : j ≠ i := fun e => by rw [e, hil] at h3; cases h3
          have := hjn j h3
          rcases Nat.lt_or_ge j i with h | h
          · have := hmono (j + 1) i (by omega) (by omega); omega
          · have := hmono (i + 1) j (by omega) (by omega); omega
    have hdm : quietB P C o = false → isFn C o = true → DomR ρ τ.length := fun hq hfn l rb hl => by
      rw [hτl]
      have hpn : (T i).ld = true := by
        rw [hld]
        have h1 : Nat.beq (opClass P C o) 2 = true := by
          cases hb : Nat.beq (opClass P C o) 2 with
          | true => rfl
          | false => simp only [quietB, hb] at hq; cases hq
        unfold ldB
        rw [h1, Bool.and_true]
        exact hfn
      rcases hdom l rb hl with h | ⟨j, h3, h4, h5⟩
      · omega
      · have hj := hjn j h3
        have hne : j ≠ i := fun e => by rw [e, hil] at h3; cases h3
        rcases Nat.lt_or_ge j i with h | h
        · have := hmono (j + 1) i (by omega) (by omega); omega
        · rcases AP i j (by omega) hj with h6 | h6
          · rw [inv.closed j i h3 h6] at hil; cases hil
          · have := (step_lo hS hj).2 (h6.ld hpn)
            omega
    refine hsnd (envOf μ hsr.gl ρ τ w) μ ρ a w K Q (hops fr hF) hsrτ hfresh hdm fun v w' μ' ρ' g hv hsr' => ?_
    refine fin av v w' μ' ρ' hav g.mu g.rho hv (hsr.lay hcut hsr' g (fun l rb hl hr => ?_) fun l hl => ?_) (fun l rb hl => (g.dom l rb hl).imp id fun ⟨x, y, _⟩ => ⟨by omega, by rw [hσ]; omega⟩) g.size
    · rw [hτ'l, ← hσ] at hl
      rw [stW_get (by omega), hput]
      cases hw : wrote S T i l with
      | true =>
        obtain ⟨h1, h2⟩ := wrote_iff.1 hw
        rw [hnew l h2, cond_true, ← hσ]
        simp [hl]
      | false =>
        have hli : l < (S i).2.length := by
          rcases Nat.lt_or_ge l (S i).2.length with h1 | h1
          · exact h1
          · rw [wrote_iff.2 ⟨hl, .inl h1⟩] at hw; cases hw
        have hp : inP (T i).f.put l = false := by
          cases hp : inP (T i).f.put l with
          | false => rfl
          | true => rw [wrote_iff.2 ⟨hl, .inr hp⟩] at hw; cases hw
        have hρ : ρ l = some rb := by
          rcases g.dom l rb hr with h1 | ⟨h1, _, _⟩
          · exact h1
          · omega
        rw [hkeep l hli hp, hτg l hli, hρ, cond_false]
    · rw [hτ'l, ← hσ] at hl
      rcases Nat.lt_or_ge l (S ops.size).2.length with h1 | h1
      · rw [stW_get h1, stW_get h1, hput]
        have : wrote S T i l = false := by
          cases hw : wrote S T i l with
          | false => rfl
          | true => have := (wrote_iff.1 hw).1; omega
        rw [this, cond_false]
      · rw [List.getElem?_eq_none (by rw [stW_len]; exact h1), List.getElem?_eq_none (by rw [stW_len]; exact h1)]
  · rw [if_neg (by rw [wanted_no hg hdd hguard]; decide)]
    have hav : ∀ t, o.dst = some t → (S (i + 1)).1 t = .v (.tuple #[]) := fun t e => by rw [hs1]; simp [updF, e]
    have hσ : (S (i + 1)).2 = (S i).2 := by rw [hs1]
    refine fin _ undef w μ ρ hav (MuLe.refl μ) (RhoLe.refl ρ) .sk ?_ (fun _ _ h => .inl h) (Nat.le_refl _)
    have : stW S T (L.setIfInBounds i true) ops.size = stW S T L ops.size := by
      unfold stW
      congr 1
      funext l
      rw [hput]
      have : wrote S T i l = false := by
        cases hw : wrote S T i l with
        | false => rfl
        | true =>
          obtain ⟨h1, h2⟩ := wrote_iff.1 hw
          rw [hσ] at h1
          rw [hT] at h2
          rcases h2 with h2 | h2
          · omega
          · cases h2
      rw [this, cond_false]
    rw [this]; exact hsr
end
end Go.Ev
namespace Go.Ev
variable [Gl]
def unl (L : Array Bool) : Nat → Nat
  | 0 => 0
  | k + 1 => unl L k + (if lis L k = true then 0 else 1)
theorem unl_set {L : Array Bool} {i : Nat} (hi : i < L.size) (hl : lis L i = false) : ∀ k, unl (L.setIfInBounds i true) k + (if i < k then 1 else 0) = unl L k
  | 0 => by simp [unl]
  | k + 1 => by
    have ih := unl_set hi hl k
    simp only [unl, lis_set hi]
    by_cases e : i = k
    · subst e
      simp only [decide_true, Bool.true_or, if_true, hl, Bool.false_eq_true, if_false, Nat.lt_irrefl, Nat.lt_succ_self] at ih ⊢
      omega
    · simp only [e, decide_false, Bool.false_or]
      by_cases h : i < k
      · have h' : i < k + 1 := by omega
        simp only [if_pos h] at ih
        simp only [if_pos h']
        omega
      · have h' : ¬ i < k + 1 := by omega
        simp only [if_neg h] at ih
        simp only [if_neg h']
        omega
theorem unl_zero {L : Array Bool} : ∀ k, unl L k = 0 → ∀ i, i < k → lis L i = true
  | 0, _, i, h => absurd h (Nat.not_lt_zero i)
  | k + 1, h, i, hi => by
    simp only [unl] at h
    by_cases e : i = k
    · subst e
      cases hl : lis L i with
      | true => rfl
      | false => rw [hl] at h; simp at h
    · exact unl_zero k (by omega) i (by omega)
theorem unl_le {L : Array Bool} : ∀ k, unl L k ≤ k
  | 0 => Nat.le_refl 0
  | k + 1 => by
    have := unl_le (L := L) k
    simp only [unl]
    split <;> omega
section
variable {P : Program} {C : Cfg} {ops : Array Oper} {cl : Nat → Nat → Prop} {S : Nat → FM × Store} {T : Nat → Trace} {E : Env} {B : Base} {G : Nat → Value} {n : Nat} {Q : Exit → Act → World → Prop}
theorem inv_done (hS : ∀ (i : Nat) (o : Oper), ops[i]? = some o → StepD P C ops o (T i) (S i) (S (i + 1))) {L : Array Bool} {a : Act} {w : World} (inv : Inv ops cl S T E B G n L a w) (hall : ∀ i, i < ops.size → lis L i = true) :
    Rel E B G n (S ops.size).1 (S ops.size).2 a w := by
  obtain ⟨μ, ρ, hfr, hsr, hdom, hsin⟩ := inv.st
  rw [slotW_all hS hall _ (Nat.le_refl _)] at hfr
  have hmono : ∀ p, p ≤ ops.size → (S p).2.length ≤ (S ops.size).2.length := fun p h1 => seg_le hS h1 (Nat.le_refl _)
  have hst : stW S T L ops.size = (S ops.size).2 := by
    apply List.ext_getElem?
    intro l
    rcases Nat.lt_or_ge l (S ops.size).2.length with h | h
    · rw [stW_get h, blkW_all hS hall l _ (Nat.le_refl _) h]; simp [h]
    · rw [List.getElem?_eq_none (by rw [stW_len]; exact h), List.getElem?_eq_none h]
  rw [hst] at hsr
  refine ⟨⟨μ, ρ, hfr, hsr, fun l rb hl => ?_, hsin⟩, Nat.le_trans inv.base (hmono 0 (Nat.zero_le _)), inv.size, inv.defers⟩
  rcases hdom l rb hl with h | ⟨j, h1, h2, h3⟩
  · exact Nat.lt_of_lt_of_le h (hmono 0 (Nat.zero_le _))
  · have hjn : j < ops.size := by have := lis_lt h1; rw [inv.lsize] at this; exact this
    exact Nat.lt_of_lt_of_le h3 (hmono (j + 1) (by omega))
theorem inv_any (DF : DrawFacts ops cl) (AP : Apart ops cl T) (hS : ∀ (i : Nat) (o : Oper), ops[i]? = some o → StepD P C ops o (T i) (S i) (S (i + 1))) (hd : DstOk ops n) (hQ : ∀ a w, Rel E B G n (S ops.size).1 (S ops.size).2 a w → Q .normal a w) :
    ∀ (fuel : Nat) (L : Array Bool) (a : Act) (w : World), unl L ops.size ≤ fuel → Inv ops cl S T E B G n L a w → wpAny P .any ops Q fuel L a w
  | 0, L, a, w, hu, inv => by
    have hall := unl_zero _ (Nat.le_zero.1 hu)
    refine ⟨?_, hQ a w (inv_done hS inv hall)⟩
    refine List.eq_nil_iff_forall_not_mem.2 fun i hi => ?_
    obtain ⟨o, ho, hl, _⟩ := lis_ready inv.lsize hi
    rw [hall i (Array.getElem?_eq_some_iff.1 ho).1] at hl; cases hl
  | fuel + 1, L, a, w, hu, inv => by
    refine ⟨fun h => hQ a w (inv_done hS inv (ready_none DF inv.lsize h)), fun i hi => inv_step DF AP hS hd inv hi fun a' w' inv' => inv_any DF AP hS hd hQ fuel _ a' w' ?_ inv'⟩
    obtain ⟨o, ho, hl, _⟩ := lis_ready inv.lsize hi
    have hin : i < ops.size := (Array.getElem?_eq_some_iff.1 ho).1
    have := unl_set (by rw [inv.lsize]; exact hin) hl ops.size
    rw [if_pos hin] at this
    omega
theorem chain_len : ∀ {l : List Oper} {s s' : FM × Store}, Chain P C ops l s s' → s.2.length ≤ s'.2.length
  | [], _, _, .nil s => Nat.le_refl _
  | o :: l, s, s', .cons h k => by
    refine Nat.le_trans ?_ (chain_len k)
    rcases h with ⟨_, fr, av, σ', _, h1, h2, _⟩ | ⟨_, h1⟩
    · rw [h1]; exact h2
    · rw [h1]; exact Nat.le_refl _
theorem Rel.drew {F : FM} {σ : Store} {a : Act} {w : World} (h : Rel E B G n F σ a w) : Rel E B G n F σ a { w with drawn := w.drawn + 1 } :=
  let ⟨⟨μ, ρ, h1, h2, h3, h6⟩, h7, h4, h5⟩ := h
  ⟨⟨μ, ρ, h1, h2.drew, h3, ⟨h6.mu, h6.rho, h6.dom, h6.size⟩⟩, h7, h4, h5⟩
theorem region_sound {call : CallT} {inl : InlT} (HC : CallHyp P C call inl) {id : Nat} {s : St} {R : Type} {K : St → Option R} {r : R}
    (h : evOps P C call inl ops ops.toList s K = some r) : ∃ s' : St, K s' = some r ∧ s.bl.length ≤ s'.bl.length ∧ ∀ (E : Env) (B : Base) (G : Nat → Value) (n : Nat) (Q : Exit → Act → World → Prop) (a : Act) (w : World), DstOk ops n → Rel E B G n (lookF s.fr) s.bl a w →
      (∀ (a : Act) (w : World), Rel E B G n (lookF s'.fr) s'.bl a w → Q .normal a w) → (Code.region id ops false).wp P Q a w := by
  obtain ⟨s', hk, hch⟩ := evOps_chain HC _ _ h
  refine ⟨s', hk, chain_len hch, fun E B G n Q a w hd hr hQ => ?_⟩
  refine wp_region ?_
  have := chain_text hd ops.toList 0 _ _ rfl hch a w hr (fun a w hr' => hQ a w hr')
  rwa [Array.length_toList, ← List.range_eq_range'] at this
theorem draw_sound (hmix : P.follows .mixedOrders = true) {call : CallT} {inl : InlT} (HC : CallHyp P C call inl) {id : Nat} {s : St} {R : Type} {K : St → Option R} {r : R} (hdr : drawOk ops = true)
    (h : evOpsD P C call inl ops ops.toList (closL ops.toList) [] s K = some r) : ∃ s' : St, K s' = some r ∧ s.bl.length ≤ s'.bl.length ∧ ∀ (E : Env) (B : Base) (G : Nat → Value) (n : Nat) (Q : Exit → Act → World → Prop) (a : Act) (w : World), DstOk ops n → Rel E B G n (lookF s.fr) s.bl a w →
      (∀ (a : Act) (w : World), Rel E B G n (lookF s'.fr) s'.bl a w → Q .normal a w) → (Code.region id ops true).wp P Q a w := by
  obtain ⟨s', ts, S, hk, htl, h1, h2, h3⟩ := evOpsD_chain HC _ _ _ _ h
  have htl : ts.length = ops.size := by rw [htl]; simp
  rw [Array.length_toList] at h2
  let T : Nat → Trace := fun i => ts.getD i .no
  have hT : ∀ i, i < ops.size → ts[i]? = some (T i) := fun i hi => by simp [T, htl, hi]
  have hS : ∀ (i : Nat) (o : Oper), ops[i]? = some o → StepD P C ops o (T i) (S i) (S (i + 1)) := fun i o ho =>
    (h3 i o (T i) (by rw [Array.getElem?_toList]; exact ho) (hT i (Array.getElem?_eq_some_iff.1 ho).1)).1
  have DF := drawFacts hdr
  have AP : Apart ops (fun i j => inL j ((closL ops.toList).getD i []) = true) T := fun i j hij hj =>
    (h3 j ops[j] (T j) (by rw [Array.getElem?_toList]; exact Array.getElem?_eq_getElem hj) (hT j hj)).2 i (T i) (by simpa using hij) (by simpa using hT i (by omega))
  refine ⟨s', hk, ?_, fun E B G n Q a w hd hr hQ => ?_⟩
  · have := seg_le hS (Nat.zero_le ops.size) (Nat.le_refl _)
    rwa [h1, h2] at this
  refine wp_region_any hmix ?_
  have hL0 : ∀ i, lis (Array.replicate ops.size false) i = false := fun i => by
    simp only [lis, Array.getD_eq_getD_getElem?, Array.getElem?_replicate]
    split <;> rfl
  refine inv_any DF AP hS hd (fun a w hr' => hQ a w (by rw [h2] at hr'; exact hr')) ops.size _ a _ (unl_le _) ?_
  obtain ⟨⟨μ, ρ, hf, hsr, hdom, hsin⟩, hbase, hsz, hdf⟩ := hr.drew
  have hle := seg_le hS (Nat.zero_le ops.size) (Nat.le_refl _)
  refine ⟨by simp, fun i j hi => (by rw [hL0] at hi; cases hi), ⟨μ, ρ, ?_, ?_, fun l rb hl => .inl ?_, hsin⟩, by rw [h1]; exact hbase, hsz, hdf⟩
  · rw [slotW_none hL0, h1]; exact hf
  · have hget : ∀ l rb, ρ l = some rb → (stW S T (Array.replicate ops.size false) ops.size)[l]? = s.bl[l]? := fun l rb hl => by
      have hlt := hdom l rb hl
      rw [stW_get (by rw [h1] at hle; exact Nat.lt_of_lt_of_le hlt hle), blkW_none hL0, h1]
      simp only [blt_t hlt, cond_true]
      simp [hlt]
    exact ⟨fun l rb k hl hk => hsr.blk l rb k hl (by rw [← hget l rb hl]; exact hk), fun l l' rb rb' k k' hl hl' hk hk' => hsr.inj l l' rb rb' k k' hl hl' (by rw [← hget l rb hl]; exact hk) (by rw [← hget l' rb' hl']; exact hk'),
      fun l rb k hl hk => hsr.ownD l rb k hl (by rw [← hget l rb hl]; exact hk), hsr.imm, hsr.base⟩
  · rw [h1]; exact hdom l rb hl
end
end Go.Ev
namespace Go.Ev
variable [Gl]
theorem memN_mem {l : Nat} : ∀ (vs : List Nat), memN l vs = true ↔ l ∈ vs
  | [] => by simp [memN]
  | m :: r => by
    rw [memN, Bool.or_eq_true, memN_mem r, List.mem_cons]
    constructor
    · rintro (h | h)
      · exact .inl (Nat.eq_of_beq_eq_true h)
      · exact .inr h
    · rintro (h | h)
      · exact .inl (by rw [h, Nat.beq_refl])
      · exact .inr h
theorem idxN_get {l : Nat} : ∀ (vs : List Nat), memN l vs = true → vs[idxN l vs]? = some l
  | [], h => by cases h
  | m :: r, h => by
    simp only [idxN]
    cases e : Nat.beq l m with
    | true => have := Nat.eq_of_beq_eq_true e; subst this; rfl
    | false =>
      simp only [cond_false, List.getElem?_cons_succ]
      refine idxN_get r ?_
      rw [memN, e] at h
      exact h
theorem nodup_snoc {l : Nat} {vs : List Nat} (h : vs.Nodup) (hl : memN l vs = false) : (vs ++ [l]).Nodup := by
  rw [List.nodup_append]
  refine ⟨h, by simp, fun a ha b hb e => ?_⟩
  simp at hb; subst hb; subst e
  rw [(memN_mem vs).2 ha] at hl; cases hl
theorem foldl_nodup {α : Type} {f : List Nat → α → List Nat} (hf : ∀ vs a, vs.Nodup → (f vs a).Nodup) : ∀ (l : List α) (vs : List Nat), vs.Nodup → (l.foldl f vs).Nodup
  | [], _, h => h
  | a :: l, vs, h => foldl_nodup hf l _ (hf vs a h)
theorem visitN_nodup (σ : Store) : ∀ (n : Nat) (vs : List Nat) (a : AV), vs.Nodup → (visitN σ n vs a).Nodup
  | 0, vs, a, h => h
  | n + 1, vs, a, h => by
    have ih := fun vs a h => visitN_nodup σ n vs a h
    have snoc : ∀ l, (bif memN l vs then vs else vs ++ [l]).Nodup := fun l => by
      cases e : memN l vs with
      | true => exact h
      | false => exact nodup_snoc h e
    have grow : ∀ l (x : List Nat), (memN l vs = false → x.Nodup) → (bif memN l vs then vs else x).Nodup := fun l x hx => by
      cases e : memN l vs with
      | true => exact h
      | false => exact hx e
    cases a with
    | sl b l off cut => exact snoc l
    | px l j m i =>
      refine grow l _ fun e => ?_
      split
      · exact foldl_nodup ih _ _ (nodup_snoc h e)
      · exact nodup_snoc h e
    | ptr l i j =>
      refine grow l _ fun e => ?_
      split
      · rename_i k _
        cases k.obj with
        | true => exact foldl_nodup ih _ _ (nodup_snoc h e)
        | false => exact nodup_snoc h e
      · exact nodup_snoc h e
    | clo f first caps => exact foldl_nodup ih _ _ (foldl_nodup ih _ _ h)
    | agg cs => exact foldl_nodup ih _ _ h
    | tup cs => exact foldl_nodup ih _ _ h
    | _ => exact h
def rhoN (vs : List Nat) (ρ : Rho) : Rho := fun i => (vs[i]?).bind ρ
theorem rhoN_some {vs : List Nat} {ρ : Rho} {i : Nat} {rb : RB} (h : rhoN vs ρ i = some rb) : ∃ l, vs[i]? = some l ∧ ρ l = some rb := by
  unfold rhoN at h
  cases e : vs[i]? with
  | none => rw [e] at h; cases h
  | some l => rw [e] at h; exact ⟨l, rfl, h⟩
theorem rhoN_idx {vs : List Nat} {ρ : Rho} {l : Nat} {rb : RB} (hm : memN l vs = true) (h : ρ l = some rb) : rhoN vs ρ (idxN l vs) = some rb := by
  unfold rhoN
  rw [idxN_get vs hm]
  exact h
section
variable {μ : Mu} {ρ : Rho} {vs : List Nat}
theorem ren_cr : ∀ (n : Nat) {a : AV} {v : Value}, CR μ ρ a v → CR μ (rhoN vs ρ) (renN vs n a) v
  | 0, a, v, h => .un h.one
  | n + 1, a, v, h => by
    have hlist : ∀ (l : List AV) (ws : List Value), ws.length = l.length → (∀ (k : Nat) (u : AV) (v : Value), l[k]? = some u → ws[k]? = some v → CR μ ρ u v) →
        ws.length = (l.map (renN vs n)).length ∧ ∀ (k : Nat) (u : AV) (v : Value), (l.map (renN vs n))[k]? = some u → ws[k]? = some v → CR μ (rhoN vs ρ) u v := fun l ws h1 h2 => by
      refine ⟨by simpa using h1, fun k u v hu hv => ?_⟩
      simp only [List.getElem?_map, Option.map_eq_some_iff] at hu
      obtain ⟨x, hx, e⟩ := hu
      subst e
      exact ren_cr n (h2 k x v hx hv)
    cases h with
    | d hd =>
      cases hd with
      | v hx => exact .d (.v hx)
      | lst vals h1 h2 h3 h4 h5 h6 => exact .d (.lst vals h1 h2 h3 h4 h5 h6)
      | ep vals h1 h2 => exact .d (.ep vals h1 h2)
      | clo h1 h2 h3 h4 =>
        obtain ⟨a1, a2⟩ := hlist _ _ h1 (fun k u v hu hv => .d (h3 k u v hu hv))
        obtain ⟨b1, b2⟩ := hlist _ _ h2 (fun k u v hu hv => .d (h4 k u v hu hv))
        exact .clo a1 b1 a2 b2
    | @ptr l i j rb h1 h2 =>
      simp only [renN]
      cases e : memN l vs with
      | false => exact .un rfl
      | true => exact .ptr (rhoN_idx e h1) h2
    | @px l j m i rb h1 h2 h3 =>
      simp only [renN]
      cases e : memN l vs with
      | false => exact .un rfl
      | true => exact .px (rhoN_idx e h1) h2 h3
    | @sl l off cut rb x len cap h1 h2 h3 h4 h5 h6 h7 =>
      simp only [renN]
      cases e : memN l vs with
      | false => exact .un rfl
      | true => exact .sl (rhoN_idx e h1) h2 h3 h4 h5 h6 h7
    | @sln l off cut rb h1 h2 h3 h4 =>
      simp only [renN]
      cases e : memN l vs with
      | false => exact .un rfl
      | true => exact .sln (rhoN_idx e h1) h2 h3 h4
    | clo h1 h2 h3 h4 =>
      obtain ⟨a1, a2⟩ := hlist _ _ h1 h3
      obtain ⟨b1, b2⟩ := hlist _ _ h2 h4
      exact .clo a1 b1 a2 b2
    | un h => exact .un h
theorem ren_vr : ∀ (n : Nat) {a : AV} {v : Value}, VR μ ρ a v → VR μ (rhoN vs ρ) (renN vs n a) v
  | 0, a, v, h => .un
  | n + 1, a, v, h => by
    cases h with
    | c hx => exact .c (ren_cr (n + 1) hx)
    | agg hx =>
      refine .agg ⟨by simpa using hx.1, fun k u v hu hv => ?_⟩
      simp only [List.getElem?_map, Option.map_eq_some_iff] at hu
      obtain ⟨x, h1, e⟩ := hu
      subst e
      exact ren_cr n (hx.2 k x v h1 hv)
    | tup hl hx =>
      refine .tup (by simpa using hl) fun k u v hu hv => ?_
      simp only [List.getElem?_map, Option.map_eq_some_iff] at hu
      obtain ⟨x, h1, e⟩ := hu
      subst e
      exact ren_vr n (hx k x v h1 hv)
    | un => exact .un
    | sk => exact .sk
theorem ren_blk {w : World} {k : Blk} {rb : RB} (h : BlkR μ ρ w k rb) : BlkR μ (rhoN vs ρ) w (renB vs k) rb := by
  unfold renB
  cases ho : k.obj with
  | false =>
    simp only [cond_false]
    exact ⟨h.sz, h.n, h.fit, h.ph, h.one, fun hp => let ⟨cur, hc⟩ := h.live hp; ⟨cur, hc.size, hc.rowD, fun e => (by rw [ho] at e; cases e), hc.at_⟩⟩
  | true =>
    simp only [cond_true]
    obtain ⟨h1, h2⟩ := h.one ho
    refine ⟨h.sz, by rw [h.n, h1]; rfl, h.fit, fun hp => (by have := (h.ph hp).2; rw [ho] at this; cases this), fun _ => ⟨rfl, h2⟩, fun hp => ?_⟩
    obtain ⟨cur, hc⟩ := h.live hp
    refine ⟨cur, hc.size, fun e => (by cases e), fun _ => ?_, ho ▸ hc.at_⟩
    obtain ⟨r1, r2⟩ := hc.rowO ho
    obtain ⟨x, hx⟩ : ∃ x, k.xs = [x] := List.length_eq_one_iff.1 h1
    have hl : lget k.xs 0 = x := by rw [hx]; rfl
    refine ⟨fun e he => ?_, fun i e j c he hc' => ?_⟩
    · simp only [List.mem_singleton] at he
      subst he
      rw [List.length_map, hl]
      exact r1 x (by rw [hx]; simp)
    · cases i with
      | succ i => simp at he
      | zero =>
        simp at he; subst he
        rw [hl, List.getElem?_map, Option.map_eq_some_iff] at hc'
        obtain ⟨y, hy, e⟩ := hc'
        subst e
        obtain ⟨u, hu1, hu2⟩ := r2 0 x j y (by rw [hx]; rfl) hy
        exact ⟨u, hu1, ren_cr 6 hu2⟩
end
theorem lookF_app (A B : List (Nat × AV)) (g : Nat → AV) (hA : ∀ p ∈ A, p.2 = g p.1) (t : Nat) : lookF (A ++ B) t = g t ∨ lookF (A ++ B) t = lookF B t := by
  induction A with
  | nil => exact .inr rfl
  | cons p A ih =>
    obtain ⟨i, a⟩ := p
    simp only [List.cons_append, lookF]
    cases e : Nat.beq i t with
    | true =>
      have := Nat.eq_of_beq_eq_true e
      subst this
      exact .inl (hA (i, a) (by simp))
    | false => exact ih fun p hp => hA p (by simp [hp])
theorem lookF_filter (p : Nat → Bool) (t : Nat) : ∀ (fr : List (Nat × AV)), lookF (fr.filter fun q => p q.1) t = if p t = true then lookF fr t else .un
  | [] => by simp [lookF]
  | (i, a) :: fr => by
    have ih := lookF_filter p t fr
    simp only [List.filter_cons, lookF]
    by_cases hi : p i = true
    · rw [if_pos hi]
      simp only [lookF]
      cases e : Nat.beq i t with
      | true => have := Nat.eq_of_beq_eq_true e; subst this; rw [if_pos hi]; rfl
      | false => exact ih
    · rw [if_neg hi, ih]
      cases e : Nat.beq i t with
      | true => have := Nat.eq_of_beq_eq_true e; subst this; rw [if_neg hi, if_neg hi]
      | false => rfl
theorem lookF_map (g : AV → AV) (hg : g .un = .un) (t : Nat) : ∀ (fr : List (Nat × AV)), lookF (fr.map fun p => (p.1, g p.2)) t = g (lookF fr t)
  | [] => hg.symm
  | (i, a) :: fr => by
    simp only [List.map_cons, lookF, lookF_map g hg t fr]
    cases Nat.beq i t <;> rfl
theorem canon0_sound {E : Env} {G : Nat → Value} {n : Nat} (keep : List Nat) {s : St} {a : Act} {w : World} (h : Rel E .zero G n (lookF s.fr) s.bl a w) : Rel E .zero G n (lookF (canon0 keep s).fr) (canon0 keep s).bl a w := by
  obtain ⟨⟨μ, ρ, hf, hs, hd, _⟩, _, hsz, hdf⟩ := h
  generalize hfr : (keep.filterMap fun t => match lookF s.fr t with | .un => none | a => some (t, a)) ++ (s.fr.filter fun p => Nat.ble 1000000 p.1) = fr
  generalize hvs : fr.foldl (fun vs p => visitN s.bl 6 vs p.2) [] = vs
  have hnd : vs.Nodup := by
    rw [← hvs]
    exact foldl_nodup (fun vs p h => visitN_nodup s.bl 6 vs p.2 h) fr [] List.nodup_nil
  have hcan : canon0 keep s = ⟨fr.map fun p => (p.1, renN vs 6 p.2), vs.map fun l => match s.bl[l]? with | some k => renB vs k | none => ⟨0, 0, 0, false, []⟩⟩ := by
    subst hvs; subst hfr; rfl
  rw [hcan]
  have hlook : ∀ t, lookF fr t = .un ∨ lookF fr t = lookF s.fr t := fun t => by
    rw [← hfr]
    have hA : ∀ p ∈ (keep.filterMap fun t => match lookF s.fr t with | .un => none | a => some (t, a)), p.2 = lookF s.fr p.1 := fun p hp => by
      obtain ⟨t', _, ht'⟩ := List.mem_filterMap.1 hp
      split at ht'
      · cases ht'
      · injection ht' with ht'
        subst ht'; rfl
    rcases lookF_app _ (s.fr.filter fun p => Nat.ble 1000000 p.1) (lookF s.fr) hA t with h | h
    · exact .inr h
    · rw [h, lookF_filter (fun i => Nat.ble 1000000 i)]
      split
      · exact .inr rfl
      · exact .inl rfl
  have hget : ∀ i k, (vs.map fun l => match s.bl[l]? with | some k => renB vs k | none => ⟨0, 0, 0, false, []⟩)[i]? = some k → k.mode ≠ 0 → ∃ l k0, vs[i]? = some l ∧ s.bl[l]? = some k0 ∧ k = renB vs k0 := fun i k hk hm => by
    rw [List.getElem?_map, Option.map_eq_some_iff] at hk
    obtain ⟨l, h1, h2⟩ := hk
    split at h2
    · rename_i k0 h3
      exact ⟨l, k0, h1, h3, h2.symm⟩
    · subst h2; exact absurd rfl hm
  have hmode : ∀ k, (renB vs k).mode = k.mode := fun k => by unfold renB; cases k.obj <;> rfl
  refine ⟨⟨μ, rhoN vs ρ, fun t => ?_, ⟨fun i rb k hi hk hm => ?_, fun i i' rb rb' k k' hi hi' hk hk' hm hm' hp hp' he => ?_, fun i rb k hi hk hm hp => ?_, hs.imm, hs.base⟩, fun i rb hi => ?_, .zero _ _ _⟩, Nat.zero_le _, hsz, hdf⟩
  · show VR μ (rhoN vs ρ) (lookF (fr.map fun p => (p.1, renN vs 6 p.2)) t) _
    rw [lookF_map (renN vs 6) rfl]
    rcases hlook t with h | h
    · rw [h]; exact .un
    · rw [h]; exact ren_vr 6 (hf t)
  · obtain ⟨l, k0, h1, h2, h3⟩ := hget i k hk hm
    obtain ⟨l', h4, h5⟩ := rhoN_some hi
    rw [h1] at h4; injection h4 with h4; subst h4
    subst h3
    rw [hmode] at hm
    exact ren_blk (hs.blk l rb k0 h5 h2 hm)
  · obtain ⟨l, k0, h1, h2, h3⟩ := hget i k hk (by omega)
    obtain ⟨l2, h4, h5⟩ := rhoN_some hi
    rw [h1] at h4; injection h4 with h4; subst h4
    obtain ⟨l', k0', h1', h2', h3'⟩ := hget i' k' hk' (by omega)
    obtain ⟨l2', h4', h5'⟩ := rhoN_some hi'
    rw [h1'] at h4'; injection h4' with h4'; subst h4'
    subst h3; subst h3'
    rw [hmode] at hm hm'
    have := hs.inj l l' rb rb' k0 k0' h5 h5' h2 h2' hm hm' hp hp' he
    subst this
    exact (List.getElem?_inj (List.getElem?_eq_some_iff.1 h1).1 hnd).1 (h1.trans h1'.symm)
  · obtain ⟨l, k0, h1, h2, h3⟩ := hget i k hk (by omega)
    obtain ⟨l2, h4, h5⟩ := rhoN_some hi
    rw [h1] at h4; injection h4 with h4; subst h4
    subst h3
    rw [hmode] at hm
    exact hs.ownD l rb k0 h5 h2 hm hp
  · obtain ⟨l, h1, _⟩ := rhoN_some hi
    simpa using (List.getElem?_eq_some_iff.1 h1).1
theorem thaw_dr {E : Env} {μ : Mu} {ρ : Rho} {σ : Store} {w : World} (hs : SR E μ ρ σ w) {b : Bool} {l : Nat} {k : Blk} (hk : σ[l]? = some k) (hm : k.mode = 2) (ho : k.obj = false) {v : Value} (h : CR μ ρ (.sl b l 0 none) v) : DR μ (.lst b k.sz k.xs) v := by
  cases h with
  | d hd => cases hd
  | @sl _ _ _ rb a len cap h1 h2 ha hlen hoff hcap hcsz =>
    have hb := hs.blk l rb k h1 hk (by omega)
    obtain ⟨cur, hc⟩ := hb.live h2
    obtain ⟨ty, fz, hmu⟩ : ∃ ty fz, μ rb.b = some (.cells cur ty fz) := by
      rcases hc.at_ with ⟨e, _⟩ | ⟨_, h⟩
      · omega
      · exact h
    have hrow := hc.rowD ho
    have ha : a = ⟨rb.b, 0, none⟩ := by
      rcases ha with ha | ⟨_, ha⟩
      · rw [ha, Nat.zero_mul]
      · omega
    have hl : len = k.xs.length := by rw [hlen, hb.n]; rfl
    have hsz := hb.sz
    subst ha
    rw [hl]
    refine .lst (fun i j => cur.getD (i * k.sz + j) undef) rfl (fun e => by cases e) (by omega) (fun e he => by rw [hrow.1 e he]; exact hsz) (fun a e i j hi hj => ?_) (fun i e j u h3 h4 => ?_)
    · injection e with e; subst e
      obtain ⟨e, he⟩ : ∃ e, k.xs[i]? = some e := ⟨_, List.getElem?_eq_getElem hi⟩
      have hel := hrow.1 e (List.mem_of_getElem? he)
      obtain ⟨c, hcj⟩ : ∃ c, e[j]? = some c := ⟨_, List.getElem?_eq_getElem (by omega)⟩
      obtain ⟨u, hu, _⟩ := hrow.2 i e j c he hcj
      rw [hsz] at hu
      rw [Addr.add_lit, Nat.zero_add, muCell_at hmu, hu, Array.getD_eq_getD_getElem?, hu]; rfl
    · obtain ⟨x, hx, hd⟩ := hrow.2 i e j u h3 h4
      rw [hsz] at hx
      rw [Array.getD_eq_getD_getElem?, hx]; exact hd
  | @sln _ _ _ rb h1 h2 h3 h4 =>
    have hb := hs.blk l rb k h1 hk (by omega)
    have hx : k.xs = [] := List.eq_nil_of_length_eq_zero (by rw [← hb.n]; exact h2)
    rw [hx]
    exact .lst (A := none) (c := 0) (xs := []) (fun _ _ => undef) rfl (fun _ => ⟨rfl, rfl⟩) (Nat.le_refl _) (fun e he => by cases he) (fun a e => by cases e) (fun i e j u h3 => by simp at h3)
theorem thaw_cr {E : Env} {μ : Mu} {ρ : Rho} {σ : Store} {w : World} (hs : SR E μ ρ σ w) {a : AV} {v : Value} (h : CR μ ρ a v) : CR μ ρ (thawC σ a) v := by
  unfold thawC
  split
  · rename_i b l
    split
    · rename_i k hk
      cases hm : (Nat.beq k.mode 2 && !k.obj) with
      | false => exact h
      | true =>
        simp only [Bool.and_eq_true, Bool.not_eq_true'] at hm
        exact .d (thaw_dr hs hk (Nat.eq_of_beq_eq_true hm.1) hm.2 h)
    · exact h
  · exact h
theorem thaw_blk {E : Env} {μ : Mu} {ρ : Rho} {σ : Store} {w : World} (hs : SR E μ ρ σ w) {k : Blk} {rb : RB} (h : BlkR μ ρ w k rb) : BlkR μ ρ w (thawB σ k) rb := by
  unfold thawB
  cases ho : k.obj with
  | false => exact h
  | true =>
    simp only [cond_true]
    obtain ⟨h1, h2⟩ := h.one ho
    refine ⟨h.sz, by rw [h.n, h1]; rfl, h.fit, fun hp => (by have := (h.ph hp).2; rw [ho] at this; cases this), fun _ => ⟨rfl, h2⟩, fun hp => ?_⟩
    obtain ⟨cur, hc⟩ := h.live hp
    refine ⟨cur, hc.size, fun e => (by cases e), fun _ => ?_, ho ▸ hc.at_⟩
    obtain ⟨r1, r2⟩ := hc.rowO ho
    obtain ⟨x, hx⟩ : ∃ x, k.xs = [x] := List.length_eq_one_iff.1 h1
    have hl : lget k.xs 0 = x := by rw [hx]; rfl
    refine ⟨fun e he => ?_, fun i e j c he hc' => ?_⟩
    · simp only [List.mem_singleton] at he
      subst he
      rw [List.length_map, hl]
      exact r1 x (by rw [hx]; simp)
    · cases i with
      | succ i => simp at he
      | zero =>
        simp at he; subst he
        rw [hl, List.getElem?_map, Option.map_eq_some_iff] at hc'
        obtain ⟨y, hy, e⟩ := hc'
        subst e
        obtain ⟨u, hu1, hu2⟩ := r2 0 x j y (by rw [hx]; rfl) hy
        exact ⟨u, hu1, thaw_cr hs hu2⟩
theorem thawB_mode (σ : Store) (k : Blk) : (thawB σ k).mode = k.mode := by unfold thawB; cases k.obj <;> rfl
theorem thaw_get {σ : Store} {l : Nat} {k : Blk} (h : (σ.map (thawB σ))[l]? = some k) : ∃ k0, σ[l]? = some k0 ∧ k = thawB σ k0 := by
  rw [List.getElem?_map, Option.map_eq_some_iff] at h
  obtain ⟨k0, h1, h2⟩ := h
  exact ⟨k0, h1, h2.symm⟩
theorem thaw_sr {E : Env} {μ : Mu} {ρ : Rho} {σ : Store} {w : World} (hs : SR E μ ρ σ w) : SR E μ ρ (σ.map (thawB σ)) w := by
  refine ⟨fun l rb k hl hk hm => ?_, fun l l' rb rb' k k' hl hl' hk hk' hm hm' hp hp' he => ?_, fun l rb k hl hk hm hp => ?_, hs.imm, hs.base⟩
  · obtain ⟨k0, h1, rfl⟩ := thaw_get hk
    rw [thawB_mode] at hm
    exact thaw_blk hs (hs.blk l rb k0 hl h1 hm)
  · obtain ⟨k0, h1, rfl⟩ := thaw_get hk
    obtain ⟨k1, h2, rfl⟩ := thaw_get hk'
    rw [thawB_mode] at hm hm'
    exact hs.inj l l' rb rb' k0 k1 hl hl' h1 h2 hm hm' hp hp' he
  · obtain ⟨k0, h1, rfl⟩ := thaw_get hk
    rw [thawB_mode] at hm
    exact hs.ownD l rb k0 hl h1 hm hp
theorem canon_sound {E : Env} {G : Nat → Value} {n : Nat} (keep : List Nat) {s : St} {a : Act} {w : World} (h : Rel E .zero G n (lookF s.fr) s.bl a w) : Rel E .zero G n (lookF (canon keep s).fr) (canon keep s).bl a w := by
  obtain ⟨⟨μ, ρ, hf, hs, hd, hz⟩, hb, hsz, hdf⟩ := h
  exact canon0_sound keep ⟨⟨μ, ρ, hf, thaw_sr hs, by rw [List.length_map]; exact hd, hz⟩, Nat.zero_le _, hsz, hdf⟩
end Go.Ev
namespace Go.Ev
variable [Gl]
section gen
variable {T : Type} (f : T → AV → Bool × AV)
def genG : List T → Nat → List AV → Bool
  | [], _, _ => true
  | [t], j, cs => (f t (cellAt cs j)).1
  | t :: ts, j, cs => (f t (cellAt cs j)).1 && genG ts (j + 1) cs
def genV : List T → Nat → List AV → List AV
  | [], _, _ => []
  | t :: ts, j, cs => (f t (cellAt cs j)).2 :: genV ts (j + 1) cs
variable {f}
theorem genG_spec : ∀ (ts : List T) (j : Nat) (cs : List AV), genG f ts j cs = true → ∀ q t, ts[q]? = some t → (f t (cellAt cs (j + q))).1 = true
  | [], _, _, _, q, k, hq => by simp at hq
  | [t0], j, cs, h, q, t, hq => by
    cases q with
    | zero => simp at hq; subst hq; exact h
    | succ q => simp at hq
  | t0 :: t1 :: ts, j, cs, h, q, t, hq => by
    simp only [genG, Bool.and_eq_true] at h
    cases q with
    | zero => simp at hq; subst hq; exact h.1
    | succ q =>
      have := genG_spec (t1 :: ts) (j + 1) cs h.2 q t (by simpa using hq)
      rwa [show j + 1 + q = j + (q + 1) by omega] at this
theorem genV_spec : ∀ (ts : List T) (j : Nat) (cs : List AV), (genV f ts j cs).length = ts.length ∧ ∀ q, (genV f ts j cs)[q]? = (ts[q]?).map fun t => (f t (cellAt cs (j + q))).2
  | [], _, _ => ⟨rfl, fun q => by simp [genV]⟩
  | t :: ts, j, cs => by
    have ih := genV_spec ts (j + 1) cs
    refine ⟨by simp [genV, ih.1], fun q => ?_⟩
    cases q with
    | zero => simp [genV]
    | succ q =>
      simp only [genV, List.getElem?_cons_succ, ih.2]
      rw [show j + 1 + q = j + (q + 1) by omega]
theorem gen_cell (hun : ∀ t, (f t .un).1 = false) {ts : List T} {j : Nat} {cs : List AV} (h : genG f ts j cs = true) {q : Nat} {u : AV} (hu : (genV f ts j cs)[q]? = some u) :
    ∃ t c, ts[q]? = some t ∧ cs[j + q]? = some c ∧ (f t c).1 = true ∧ u = (f t c).2 := by
  rw [(genV_spec ts j cs).2, Option.map_eq_some_iff] at hu
  obtain ⟨t, ht, e⟩ := hu
  have h1 := genG_spec ts j cs h q t ht
  refine ⟨t, cellAt cs (j + q), ht, cellAt_some fun e => ?_, h1, e.symm⟩
  rw [e, hun] at h1; cases h1
end gen
def Sim (c c' : AV) : Prop := c' = c ∨ ∃ s s' xs, c = .lst true s xs ∧ c' = .lst true s' xs
theorem Sim.dr {μ : Mu} {c c' : AV} {v : Value} (h : Sim c c') (hd : DR μ c v) : DR μ c' v := by
  rcases h with h | ⟨s, s', xs, h1, h2⟩
  · subst h; exact hd
  · subst h1; subst h2
    cases hd with
    | @lst _ _ _ A c vals hnil hA hc hsz hcell hv =>
      have hn : A = none := by cases A with | none => rfl | some a => cases hnil
      have hx := (hA hn).1
      subst hx
      exact .lst vals hnil hA hc (fun e he => by cases he) (fun a ha => by rw [hn] at ha; cases ha) (fun i e j u he => by simp at he)
theorem Sim.cr {μ : Mu} {ρ : Rho} {c c' : AV} {v : Value} (h : Sim c c') (hd : CR μ ρ c v) : CR μ ρ c' v := by
  rcases h with h | ⟨s, s', xs, h1, h2⟩
  · subst h; exact hd
  · subst h1
    cases hd with
    | d hx => exact .d (Sim.dr (.inr ⟨s, s', xs, rfl, h2⟩) hx)
theorem isI_eq {k : IntKind} {c : AV} (h : isI k c = true) : c = .v (.int k (avInt c)) := by
  cases c with
  | v x => cases x <;> simp_all [isI, avInt]
  | _ => simp [isI] at h
theorem isB_eq {c : AV} (h : isB c = true) : c = .v (.bool (avBool c)) := by
  cases c with
  | v x => cases x <;> simp_all [isB, avBool]
  | _ => simp [isB] at h
theorem isS_eq {c : AV} (h : isS c = true) : c = .v (.string (avStr c)) := by
  cases c with
  | v x => cases x <;> simp_all [isS, avStr]
  | _ => simp [isS] at h
theorem isL_sim {sz : Nat} {c : AV} (h : isL sz c = true) : Sim c (.lst (avNil c) sz (avXs c)) := by
  cases c with
  | lst n s xs =>
    simp only [isL, Bool.or_eq_true] at h
    simp only [avNil, avXs]
    rcases h with h | h
    · have := Nat.eq_of_beq_eq_true h
      subst this
      exact .inl rfl
    · subst h; exact .inr ⟨s, sz, xs, rfl, rfl⟩
  | _ => simp [isL] at h
theorem isNP_eq {c : AV} (h : isNP c = true) : c = .v (.pointer none) := by
  unfold isNP at h
  split at h
  · rfl
  · cases h
theorem likeS_sim {t c : AV} (h : (likeS t c).1 = true) : Sim c (likeS t c).2 := by
  unfold likeS at h ⊢
  split at h
  · exact .inl (isI_eq h).symm
  · exact .inl (isB_eq h).symm
  · exact .inl (isS_eq h).symm
  · exact .inl (isNP_eq h).symm
  · exact isL_sim h
  · simp only [Bool.and_eq_true] at h
    obtain ⟨h1, h2⟩ := h
    unfold isSl at h1
    split at h1
    · simp only [Bool.and_eq_true] at h1
      obtain ⟨h3, h4⟩ := h1
      have e1 := Nat.eq_of_beq_eq_true h3
      have e2 := Nat.eq_of_beq_eq_true h2
      split at h4
      · simp only [avOff] at e2
        subst e1; subst e2
        exact .inl rfl
      · cases h4
    · cases h1
  · simp only [Bool.and_eq_true] at h
    obtain ⟨h1, h2⟩ := h
    unfold isSl at h1
    split at h1
    · simp only [Bool.and_eq_true] at h1
      obtain ⟨h3, h4⟩ := h1
      have e1 := Nat.eq_of_beq_eq_true h3
      have e2 := Nat.eq_of_beq_eq_true h2
      split at h4
      · cases h4
      · simp only [avOff] at e2
        subst e1; subst e2
        exact .inl rfl
    · cases h1
  · unfold isPtr at h
    split at h
    · simp only [Bool.and_eq_true] at h
      obtain ⟨⟨h1, h2⟩, h3⟩ := h
      have e1 := Nat.eq_of_beq_eq_true h1
      have e2 := Nat.eq_of_beq_eq_true h2
      have e3 := Nat.eq_of_beq_eq_true h3
      subst e1; subst e2; subst e3
      exact .inl rfl
    · cases h
  · unfold isClo0 at h
    split at h
    · have e1 := Nat.eq_of_beq_eq_true h
      subst e1
      exact .inl rfl
    · cases h
  · cases h
theorem likeS_un (t : AV) : (likeS t .un).1 = false := by
  unfold likeS
  split <;> rfl
theorem likeSG_gen : ∀ (ts : List AV) (j : Nat) (cs : List AV), likeSG ts j cs = genG likeS ts j cs
  | [], _, _ => rfl
  | [_], _, _ => rfl
  | t :: t' :: ts, j, cs => by simp only [likeSG, genG, likeSG_gen (t' :: ts)]
theorem likeSV_gen : ∀ (ts : List AV) (j : Nat) (cs : List AV), likeSV ts j cs = genV likeS ts j cs
  | [], _, _ => rfl
  | t :: ts, j, cs => by simp only [likeSV, genV, likeSV_gen ts]
theorem likeT_vr {μ : Mu} {ρ : Rho} {t c : AV} {v : Value} (h : (likeT t c).1 = true) (hv : VR μ ρ c v) : VR μ ρ (likeT t c).2 v := by
  unfold likeT at h ⊢
  split at h
  · rename_i ts o
    simp only [Bool.and_eq_true] at h
    obtain ⟨h1, h2⟩ := h
    cases c with
    | ep cs o' =>
      simp only [isEp, Bool.and_eq_true] at h1
      have hlen := Nat.eq_of_beq_eq_true h1.1
      have ho := Nat.eq_of_beq_eq_true h1.2
      subst ho
      simp only [epCells] at h2 ⊢
      rw [likeSG_gen] at h2
      rw [likeSV_gen]
      cases hv with
      | c hx =>
        cases hx with
        | d hd =>
          cases hd with
          | ep vals hcell hvs =>
            refine .c (.d (.ep vals (fun j hj => hcell j (by rw [(genV_spec ts 0 cs).1] at hj; omega)) fun j u hu => ?_))
            obtain ⟨t, c, _, h3, h4, e⟩ := gen_cell likeS_un h2 hu
            subst e
            rw [Nat.zero_add] at h3
            exact (likeS_sim h4).dr (hvs j c h3)
    | _ => cases h1
  · rename_i ts
    simp only [Bool.and_eq_true] at h
    obtain ⟨h1, h2⟩ := h
    cases c with
    | agg cs =>
      have hlen := Nat.eq_of_beq_eq_true h1
      simp only [obCells] at h2 ⊢
      cases hv with
      | c hx => cases hx with | d hd => cases hd
      | agg hx =>
        rw [likeSG_gen] at h2
        rw [likeSV_gen]
        refine .agg ⟨by rw [(genV_spec ts 0 cs).1, hx.1, hlen], fun q u v hu hvq => ?_⟩
        obtain ⟨t, c, _, h3, h4, e⟩ := gen_cell likeS_un h2 hu
        subst e
        rw [Nat.zero_add] at h3
        exact (likeS_sim h4).cr (hx.2 q c v h3 hvq)
    | _ => cases h1
  · have hs := likeS_sim h
    rcases hs with e | ⟨s, s', xs, e1, e2⟩
    · rw [e]; exact hv
    · rw [e2]
      rw [e1] at hv
      cases hv with
      | c hx => exact .c (Sim.cr (.inr ⟨s, s', xs, rfl, rfl⟩) hx)
theorem lookF_cons_drop {fr : List (Nat × AV)} {j : Nat} (h : j < fr.length) (t : Nat) : lookF (fr.drop j) t = bif Nat.beq (frAt fr j).1 t then (frAt fr j).2 else lookF (fr.drop (j + 1)) t := by
  rw [List.drop_eq_getElem_cons h]
  have : frAt fr j = fr[j] := by simp [frAt, List.getD_eq_getElem?_getD, h]
  rw [this]
  rfl
theorem like_fr {μ : Mu} {ρ : Rho} {t : Nat} {v : Value} : ∀ (T : List (Nat × AV)) (j : Nat) (fr : List (Nat × AV)), likeFG T j fr = true → T.length + j = fr.length → VR μ ρ (lookF (fr.drop j) t) v → VR μ ρ (lookF (likeFV T j fr) t) v
  | [], _, _, _, _, _ => .un
  | (i, a) :: r, j, fr, h, hl, hv => by
    simp only [likeFG, Bool.and_eq_true] at h
    obtain ⟨⟨h1, h2⟩, h3⟩ := h
    have e := Nat.eq_of_beq_eq_true h1
    rw [lookF_cons_drop (by simp at hl; omega), ← e] at hv
    simp only [likeFV, lookF]
    cases hb : Nat.beq i t with
    | true =>
      rw [hb] at hv
      exact likeT_vr h2 hv
    | false =>
      rw [hb] at hv
      exact like_fr r (j + 1) fr h3 (by simp at hl; omega) hv
theorem like_bl : ∀ (T : Store) (j : Nat) (bl : Store), likeBG T j bl = true → ∀ i k', (likeBV T j bl)[i]? = some k' → ∃ k, T[i]? = some k ∧
    k.mode = (blAt bl (j + i)).mode ∧ k.ty = (blAt bl (j + i)).ty ∧ k.sz = (blAt bl (j + i)).sz ∧ k.obj = (blAt bl (j + i)).obj ∧
    k' = { k with xs := match k.obj with | true => [likeSV (lget k.xs 0) 0 (lget (blAt bl (j + i)).xs 0)] | false => (blAt bl (j + i)).xs } ∧
    (k.obj = true → (blAt bl (j + i)).xs.length = 1 ∧ (lget (blAt bl (j + i)).xs 0).length = (lget k.xs 0).length ∧ likeSG (lget k.xs 0) 0 (lget (blAt bl (j + i)).xs 0) = true)
  | [], _, _, _, i, k', hk => by simp [likeBV] at hk
  | k0 :: r, j, bl, h, i, k', hk => by
    simp only [likeBG, Bool.and_eq_true] at h
    obtain ⟨⟨⟨⟨⟨h1, h2⟩, h3⟩, h4⟩, h5⟩, h6⟩ := h
    cases i with
    | zero =>
      simp only [likeBV, List.getElem?_cons_zero, Option.some.injEq] at hk
      refine ⟨k0, rfl, Nat.eq_of_beq_eq_true h1, Nat.eq_of_beq_eq_true h2, Nat.eq_of_beq_eq_true h3, by simpa using h4, hk.symm, fun ho => ?_⟩
      rw [ho] at h5
      simp only [Bool.and_eq_true] at h5
      exact ⟨Nat.eq_of_beq_eq_true h5.1.1, Nat.eq_of_beq_eq_true h5.1.2, h5.2⟩
    | succ i =>
      simp only [likeBV, List.getElem?_cons_succ] at hk
      have := like_bl r (j + 1) bl h6 i k' hk
      rw [show j + 1 + i = j + (i + 1) by omega] at this
      obtain ⟨k, hk, rest⟩ := this
      exact ⟨k, by simpa using hk, rest⟩
theorem likeBV_len : ∀ (T : Store) (j : Nat) (bl : Store), (likeBV T j bl).length = T.length
  | [], _, _ => rfl
  | _ :: r, j, bl => by simp [likeBV, likeBV_len r]
theorem like_sound {E : Env} {B : Base} {G : Nat → Value} {n : Nat} {T s : St} {a : Act} {w : World} (hl : likeStG T s = true) (h : Rel E B G n (lookF s.fr) s.bl a w) : Rel E B G n (lookF (likeStV T s).fr) (likeStV T s).bl a w := by
  simp only [likeStG, Bool.and_eq_true] at hl
  obtain ⟨⟨h1, h2⟩, h3, h4⟩ := hl
  obtain ⟨⟨μ, ρ, hf, hs, hd, hsin⟩, hb, hsz, hdf⟩ := h
  have hlen : T.bl.length = s.bl.length := Nat.eq_of_beq_eq_true h3
  have hget : ∀ (i : Nat) (k' : Blk), (likeStV T s).bl[i]? = some k' → ∃ k0 : Blk, s.bl[i]? = some k0 ∧ k'.mode = k0.mode ∧ k'.ty = k0.ty ∧ k'.sz = k0.sz ∧ k'.obj = k0.obj ∧
      (k0.obj = false → k'.xs = k0.xs) ∧ (k0.obj = true → ∃ x x' : List AV, k0.xs = [x] ∧ k'.xs = [x'] ∧ x'.length = x.length ∧ ∀ (q : Nat) (u : AV), x'[q]? = some u → ∃ c, x[q]? = some c ∧ Sim c u) := fun i k' hk => by
    obtain ⟨k, e0, e1, e2, e3, e4, e5, e6⟩ := like_bl T.bl 0 s.bl h4 i k' hk
    rw [Nat.zero_add] at e1 e2 e3 e4 e5 e6
    have hi : i < s.bl.length := by rw [← hlen]; exact (List.getElem?_eq_some_iff.1 e0).1
    have hat : blAt s.bl i = s.bl[i] := by simp [blAt, List.getD_eq_getElem?_getD, hi]
    rw [hat] at e1 e2 e3 e4 e5 e6
    subst e5
    refine ⟨s.bl[i], List.getElem?_eq_getElem hi, e1, e2, e3, e4, fun ho => ?_, fun ho => ?_⟩
    · rw [← e4] at ho
      rw [ho]
    · rw [← e4] at ho
      obtain ⟨f1, f2, f3⟩ := e6 ho
      obtain ⟨x, hx⟩ := List.length_eq_one_iff.1 f1
      have hlx : lget s.bl[i].xs 0 = x := by rw [hx]; rfl
      rw [hlx] at f2 f3
      rw [likeSG_gen] at f3
      refine ⟨x, _, hx, by rw [ho], ?_, fun q u hu => ?_⟩
      · rw [hlx, likeSV_gen, (genV_spec _ _ _).1, f2]
      · rw [hlx, likeSV_gen] at hu
        obtain ⟨t, c, _, g2, g3, g4⟩ := gen_cell likeS_un f3 hu
        rw [Nat.zero_add] at g2
        exact ⟨c, g2, g4 ▸ likeS_sim g3⟩
  refine ⟨⟨μ, ρ, fun t => ?_, ⟨fun l rb k' hl hk hm => ?_, fun l l' rb rb' k k' hl hl' hk hk' hm hm' hp hp' he => ?_, fun l rb k hl hk hm hp => ?_, hs.imm, hs.base⟩, fun l rb hl => ?_, hsin⟩, ?_, hsz, hdf⟩
  · exact like_fr T.fr 0 s.fr h2 (Nat.eq_of_beq_eq_true h1) (hf t)
  · obtain ⟨k0, g0, g1, g2, g3, g4, g5, g6⟩ := hget l k' hk
    have hb0 := hs.blk l rb k0 hl g0 (by omega)
    have hxl : k'.xs.length = k0.xs.length := by
      cases ho : k0.obj with
      | false => rw [g5 ho]
      | true => obtain ⟨x, x', f1, f2, _⟩ := g6 ho; rw [f1, f2]; rfl
    refine ⟨hb0.sz.trans g3.symm, hb0.n.trans hxl.symm, hb0.fit, fun hp => ?_, fun ho => ?_, fun hp => ?_⟩
    · obtain ⟨f1, f2⟩ := hb0.ph hp
      exact ⟨by rw [g5 f2]; exact f1, by rw [g4]; exact f2⟩
    · rw [g4] at ho
      rw [hxl]; exact hb0.one ho
    · obtain ⟨cur, hc⟩ := hb0.live hp
      refine ⟨cur, hc.size, fun ho => ?_, fun ho => ?_, ?_⟩
      · rw [g4] at ho; rw [g5 ho]; exact hc.rowD ho
      · rw [g4] at ho
        obtain ⟨x, x', f1, f2, f3, f4⟩ := g6 ho
        have hr := hc.rowO ho
        rw [f1] at hr
        rw [f2]
        refine ⟨fun e he => ?_, fun i e j c he hc' => ?_⟩
        · simp only [List.mem_singleton] at he; subst he; rw [f3]; exact hr.1 x (by simp)
        · cases i with
          | succ i => simp at he
          | zero =>
            simp at he; subst he
            obtain ⟨c0, q1, q2⟩ := f4 j c hc'
            obtain ⟨u, q3, q4⟩ := hr.2 0 x j c0 rfl q1
            exact ⟨u, q3, q2.cr q4⟩
      · rw [g1, g2, g3, g4]; exact hc.at_
  · obtain ⟨k0, g0, g1, _⟩ := hget l k hk
    obtain ⟨k0', g0', g1', _⟩ := hget l' k' hk'
    exact hs.inj l l' rb rb' k0 k0' hl hl' g0 g0' (by omega) (by omega) hp hp' he
  · obtain ⟨k0, g0, g1, _⟩ := hget l k hk
    exact hs.ownD l rb k0 hl g0 (by omega) hp
  · show l < (likeBV T.bl 0 s.bl).length
    rw [likeBV_len, hlen]; exact hd l rb hl
  · show B.n ≤ (likeBV T.bl 0 s.bl).length
    rw [likeBV_len, hlen]; exact hb
end Go.Ev
