/- SerialFinds: what the statement's function answers. -/
import Derived.Test.YtnhahcomgeeobaaRight
set_option linter.all false
namespace Go.Proofs.Ytnhahcomgeeobaa
open Go.Ev
set_option maxRecDepth 100000
theorem ext_len (cs : List Cl) : ∀ (r : List Nat) (t : List Rw) (ps : List Bool), ps.length = cs.length → Ext cs t ps r → r.length ≤ unp ps
  | [], _, _, _, _ => Nat.zero_le _
  | i :: r, t, ps, hp, h => by
    obtain ⟨h1, h2, _, h4⟩ := h
    have := unp_set ps i (by omega) (may_unp h2)
    have ih := ext_len cs r _ _ (by rw [List.length_set]; exact hp) h4
    rw [List.length_cons]; omega
theorem wf_ok {c : Cl} (h : c.wf) : c.ok := ⟨h.pok, h.nil, h.rl, h.rb⟩
theorem step_facts {i : Nat} {now now' : List Rw} {c : Cl} (h : StepC i now c now') : c.ok ∧ vCall c = true ∧ (c.fate = 1 → 10 * (i : Int) + 1 ≤ c.ret) := by
  obtain ⟨h1, h2, h3, h4⟩ := h
  have hp : okP c.prog = true := by
    have := mt (applyM_arg now c.prog).2 h1
    cases hp : okP c.prog with
    | true => rfl
    | false => rw [hp] at this; exact absurd rfl this
  refine ⟨wf_ok h2, ?_, fun hf => ?_⟩
  · unfold vCall
    rw [hp, ltI_f h3.1]
    rcases h4 with ⟨e, _, _, _, hr, _⟩ | ⟨e, hr, _⟩ | ⟨e, hr, _⟩
    · rw [e, ltI_t (show c.inv < c.ret by omega)]; rfl
    · rw [e, hr]; rfl
    · rw [e, ltI_t (show c.inv < c.ret by omega)]; rfl
  · rcases h4 with ⟨e, _, _, _, hr, _⟩ | ⟨e, hr, _⟩ | ⟨e, hr, _⟩
    · exact hr.1
    · omega
    · omega
theorem hist_facts : ∀ (cs : List Cl) (i : Nat) (now : List Rw), HistOk i now cs → ∀ j, j < cs.length → (cs.getD j c0).ok ∧ vCall (cs.getD j c0) = true ∧ ((cs.getD j c0).fate = 1 → 10 * ((i + j : Nat) : Int) + 1 ≤ (cs.getD j c0).ret)
  | [], _, _, _, j, hj => by simp at hj
  | c :: cs, i, now, ⟨now', h1, h2⟩, 0, _ => by
    have := step_facts h1
    simpa using this
  | c :: cs, i, now, ⟨now', h1, h2⟩, j + 1, hj => by
    have := hist_facts cs (i + 1) now' h2 j (by simpa using hj)
    rw [show i + 1 + j = i + (j + 1) by omega] at this
    simpa using this
theorem lsEq_rs {xs ys : List Res} (h : xs = ys) : lsEq rsEq xs ys = true := (lsEq_iff rsEq_iff _ _).2 h
theorem ints_rowV (xs : List Int) : List.all (xs.map vRow) rowV = true := by
  induction xs with
  | nil => rfl
  | cons a xs ih => rw [List.map_cons, List.all_cons, ih]; rfl
theorem all_of {cs : List Cl} {p : Cl → Bool} (h : ∀ j, j < cs.length → p (cs.getD j c0) = true) : cs.all p = true := by
  rw [List.all_eq_true]
  intro c hc
  obtain ⟨j, hj, e⟩ := List.mem_iff_getElem.1 hc
  have := h j hj
  rw [show cs.getD j c0 = c by simp [hj, e]] at this
  exact this
theorem s_found (tn : Bool) (t : List Rw) (htn : tn = true → t = []) (ht : t.length ≤ 20) (hT : OkT t) (hv : tval 0 t = true) (cn : Bool) (cs : List Cl) (hok : ∀ c ∈ cs, c.ok) (hva : cs.all vCall = true) (hl : cs.length ≤ 6) (hex : ∃ r, Ext cs t (List.replicate cs.length false) r) :
    ∃ (on : Bool) (os : List Int), ev 15 [.lst tn 4 (t.map Rw.row), .lst cn 7 (cs.map Cl.row), .v (.int .i64 1000000)] = some [.ow on 3 1 (os.map vRow), .v (.bool true), .v (.int .i64 0)] ∧
      ev 21 [.lst tn 4 (t.map Rw.row), .lst cn 7 (cs.map Cl.row), .lst on 1 (os.map vRow)] = some [.v (.bool true)] := by
  have hH : okH t cs 1000000 = true := by
    unfold okH
    rw [hv, hva, decide_eq_true (by omega), decide_eq_true (by decide)]; rfl
  have hc := (s_Check tn t htn (by omega) hT cn cs hok (by omega) 1000000).2 hH
  have hs := srch_spec t cs hl
  have hg : GC cs := fun c hc => ⟨hok c hc, vCall_okP (List.all_eq_true.1 hva c hc)⟩
  cases ho : srch t cs 1000000 with
  | found os =>
    rw [ho] at hc hs
    obtain ⟨on, hc⟩ := hc
    obtain ⟨r, he, e⟩ := hs
    rw [List.nil_append] at e
    subst e
    have hrl := ext_len cs r _ _ (List.length_replicate ..) he
    rw [unp_repl] at hrl
    exact ⟨on, _, hc, s_right tn t ht hT cn cs hg hva (by omega) on r (by omega) he⟩
  | limit => rw [ho] at hs; exact hs.elim
  | none b' =>
    rw [ho] at hs
    obtain ⟨r, hr⟩ := hex
    exact absurd hr (hs.1 r)
end Go.Proofs.Ytnhahcomgeeobaa
