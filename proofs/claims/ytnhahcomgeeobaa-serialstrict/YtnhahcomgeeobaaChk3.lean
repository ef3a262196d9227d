/- Check, and what the search finds. -/
import Derived.Test.YtnhahcomgeeobaaChk2
set_option linter.all false
namespace Go.Proofs.Ytnhahcomgeeobaa
open Go.Ev
set_option maxRecDepth 100000
def okH (t : List Rw) (cs : List Cl) (b : Int) : Bool := tval 0 t && (decide (cs.length ≤ 16) && (decide (1 ≤ b ∧ b ≤ 1000000) && cs.all vCall))
def srch (t : List Rw) (cs : List Cl) (b : Int) : Out := runM cs (cs.length + 1) t (List.replicate cs.length false) [] b
def outC (o : Out) (e : Option (List AV)) : Prop := match o with
  | .found os => ∃ on : Bool, e = some [.ow on 3 1 (os.map vRow), .v (.bool true), .v (.int .i64 0)]
  | .limit => e = some [.ow true 3 1 [], .v (.bool false), .v (.int .i64 18)]
  | .none _ => e = some [.ow true 3 1 [], .v (.bool false), .v (.int .i64 0)]
theorem unp_repl (n : Nat) : unp (List.replicate n false) = n := by
  induction n with
  | zero => rfl
  | succ n ih =>
    rw [List.replicate_succ]
    show 1 + unp (List.replicate n false) = n + 1
    omega
theorem vCall_okP {c : Cl} (h : vCall c = true) : okP c.prog = true := by
  unfold vCall at h
  cases h1 : ltI c.fate 1 with
  | true => rw [h1] at h; cases h
  | false =>
    rw [h1] at h
    cases h2 : ltI 3 c.fate with
    | true => rw [h2] at h; cases h
    | false =>
      rw [h2] at h
      cases h3 : okP c.prog with
      | true => rfl
      | false => rw [h3] at h; cases h
theorem s_Check (tn : Bool) (t : List Rw) (htn : tn = true → t = []) (ht : t.length ≤ 300) (hT : OkT t) (cn : Bool) (cs : List Cl) (hok : ∀ c ∈ cs, c.ok) (hcl : cs.length ≤ 1000) (b : Int) :
    (okH t cs b = false → ev 15 [.lst tn 4 (t.map Rw.row), .lst cn 7 (cs.map Cl.row), .v (.int .i64 b)] = some [.ow true 3 1 [], .v (.bool false), .v (.int .i64 1)]) ∧
    (okH t cs b = true → outC (srch t cs b) (ev 15 [.lst tn 4 (t.map Rw.row), .lst cn 7 (cs.map Cl.row), .v (.int .i64 b)])) := by
  have hv := s_tval tn t (by omega)
  have hcf := s_contF cn cs hok (by omega)
  rw [ev15]
  unfold okH
  cases hvt : tval 0 t with
  | false =>
    rw [hvt] at hv
    exact ⟨fun _ => bnd hv (cT rfl (cT rfl rfl)), fun h => by cases h⟩
  | true =>
    rw [hvt] at hv
    by_cases h16 : cs.length ≤ 16
    · rw [decide_eq_true h16]
      have g16 : ltI 16 (((List.length (cs.map Cl.row)) : Nat) : Int) = false := ltI_f (by rw [List.length_map]; omega)
      by_cases hb : 1 ≤ b ∧ b ≤ 1000000
      · rw [decide_eq_true hb]
        have gb1 : ltI b 1 = false := ltI_f hb.1
        have gb2 : ltI 1000000 b = false := ltI_f hb.2
        cases hva : cs.all vCall with
        | false =>
          rw [hva] at hcf
          exact ⟨fun _ => bnd hv (cT rfl (cF rfl (cF g16 (cF gb1 (cF gb2 (bnd hcf (cT rfl (cT rfl rfl)))))))), fun h => by cases h⟩
        | true =>
          rw [hva] at hcf
          refine ⟨(fun h => by cases h), fun _ => ?_⟩
          rw [List.all_eq_true] at hva
          have hg : GC cs := fun c hc => ⟨hok c hc, vCall_okP (hva c hc)⟩
          obtain ⟨hr, _⟩ := s_run cn cs hg h16 (cs.length + 1) tn t false (List.replicate cs.length false) true [] b htn hT ⟨by omega, List.length_replicate .., by show 0 + (cs.length + 1) ≤ 100; omega, by rw [unp_repl]; omega⟩ (by omega)
          have harg : ev 37 [Ob cn cs false (List.replicate cs.length false) true [] b, .lst tn 4 (t.map Rw.row)] = ev 37 [.ob 97 [.lst cn 7 (cs.map Cl.row), .ow false 4 1 (List.replicate (Int.toNat (((List.length (cs.map Cl.row)) : Nat) : Int)) [.v (.bool false)]), .ow true 3 1 [], .v (.int .i64 b)], .lst tn 4 (t.map Rw.row)] := by
            unfold Ob
            rw [List.length_map, Int.toNat_natCast, repl_map]; rfl
          rw [harg] at hr
          have g : (((leI 0 (((List.length (cs.map Cl.row)) : Nat) : Int) && leI (((List.length (cs.map Cl.row)) : Nat) : Int) (((List.length (cs.map Cl.row)) : Nat) : Int)) && leI ((((List.length (cs.map Cl.row)) : Nat) : Int) * 1) 281474976710656) && leI (((List.length (cs.map Cl.row)) : Nat) : Int) 281474976710656) = true := by
            rw [List.length_map, leI_t (by omega), leI_t (by omega), leI_t (by omega), leI_t (by omega)]; rfl
          unfold srch
          cases ho : runM cs (cs.length + 1) t (List.replicate cs.length false) [] b with
          | found os =>
            rw [ho] at hr
            obtain ⟨pn, on, ps', b', hr⟩ := hr
            exact ⟨on, bnd hv (cT rfl (cF rfl (cF g16 (cF gb1 (cF gb2 (bnd hcf (cT rfl (cF rfl (cT g (bnd hr (cT rfl (cT rfl (cT rfl (cF rfl rfl))))))))))))))⟩
          | limit =>
            rw [ho] at hr
            obtain ⟨pn, on, ps', os', b', hr⟩ := hr
            exact bnd hv (cT rfl (cF rfl (cF g16 (cF gb1 (cF gb2 (bnd hcf (cT rfl (cF rfl (cT g (bnd hr (cT rfl (cT rfl (cT rfl (cT rfl rfl))))))))))))))
          | none b' =>
            rw [ho] at hr
            obtain ⟨pn, on, hr⟩ := hr
            exact bnd hv (cT rfl (cF rfl (cF g16 (cF gb1 (cF gb2 (bnd hcf (cT rfl (cF rfl (cT g (bnd hr (cT rfl (cT rfl (cT rfl (cT rfl rfl))))))))))))))
      · rw [decide_eq_false hb]
        refine ⟨fun _ => ?_, fun h => by cases h⟩
        by_cases hb1 : b < 1
        · exact bnd hv (cT rfl (cF rfl (cF g16 (cT (ltI_t hb1) rfl))))
        · exact bnd hv (cT rfl (cF rfl (cF g16 (cF (ltI_f (by omega)) (cT (ltI_t (by omega)) rfl)))))
    · rw [decide_eq_false h16]
      exact ⟨fun _ => bnd hv (cT rfl (cF rfl (cT (ltI_t (by rw [List.length_map]; omega)) rfl))), fun h => by cases h⟩
def Ext (cs : List Cl) : List Rw → List Bool → List Nat → Prop
  | _, ps, [] => complR cs ps = true
  | t, ps, i :: r => i < cs.length ∧ may cs ps i = true ∧ agr (cs.getD i c0) (applyM t (cs.getD i c0).prog) = true ∧ Ext cs (applyM t (cs.getD i c0).prog).1 (ps.set i true) r
def cost : Nat → Int
  | 0 => 0
  | d + 1 => ((d + 1 : Nat) : Int) * (1 + cost d)
theorem cost_nn : ∀ d, 0 ≤ cost d
  | 0 => by unfold cost; decide
  | d + 1 => by
    have := cost_nn d
    unfold cost
    exact Int.mul_nonneg (by omega) (by omega)
def RunS (cs : List Cl) (t : List Rw) (ps : List Bool) (os : List Int) (b c : Int) (o : Out) : Prop := match o with
  | .found os' => ∃ r : List Nat, Ext cs t ps r ∧ os' = os ++ r.map fun n : Nat => (n : Int)
  | .limit => False
  | .none b' => (∀ r, ¬ Ext cs t ps r) ∧ b - c ≤ b'
def LoopS (cs : List Cl) (t : List Rw) (ps : List Bool) (os : List Int) (i : Nat) (b c : Int) (o : Out) : Prop := match o with
  | .found os' => ∃ r : List Nat, Ext cs t ps r ∧ os' = os ++ r.map fun n : Nat => (n : Int)
  | .limit => False
  | .none b' => (∀ j, i ≤ j → j < cs.length → may cs ps j = true → agr (cs.getD j c0) (applyM t (cs.getD j c0).prog) = true → ∀ r, ¬ Ext cs (applyM t (cs.getD j c0).prog).1 (ps.set j true) r) ∧ b - c ≤ b'
theorem unp_drop : ∀ (ps : List Bool) (i : Nat), i < ps.length → unp (ps.drop i) = (bif ps.getD i false then 0 else 1) + unp (ps.drop (i + 1))
  | [], i, h => by simp at h
  | p :: ps, 0, _ => rfl
  | p :: ps, i + 1, h => by
    have := unp_drop ps i (by simpa using h)
    simpa using this
theorem may_unp {cs : List Cl} {ps : List Bool} {i : Nat} (h : may cs ps i = true) : ps.getD i false = false := by
  unfold may at h
  cases hx : ps.getD i false with
  | false => rfl
  | true => rw [hx] at h; cases h
theorem loop_spec (cs : List Cl) (f d : Nat) (t : List Rw) (ps : List Bool) (hp : ps.length = cs.length) (hd : unp ps = d + 1) (hf : d < f) (os : List Int)
    (IH : ∀ (t : List Rw) (ps : List Bool) (os : List Int) (b : Int), ps.length = cs.length → unp ps = d → cost d ≤ b → RunS cs t ps os b (cost d) (runM cs f t ps os b)) :
    ∀ (k i : Nat) (b : Int), i + k = cs.length → ((unp (ps.drop i) : Nat) : Int) * (1 + cost d) ≤ b → LoopS cs t ps os i b (((unp (ps.drop i) : Nat) : Int) * (1 + cost d)) (loopM (runM cs f) cs t ps os k i b)
  | 0, i, b, h, hb => by
    refine ⟨fun j h1 h2 => by omega, ?_⟩
    have := cost_nn d
    have h3 : 0 ≤ ((unp (ps.drop i) : Nat) : Int) * (1 + cost d) := Int.mul_nonneg (by omega) (by omega)
    omega
  | k + 1, i, b, h, hb => by
    have hi : i < cs.length := by omega
    have hcn := cost_nn d
    have hud := unp_drop ps i (by omega)
    have ih := loop_spec cs f d t ps hp hd hf os IH k (i + 1)
    unfold loopM
    cases hm : may cs ps i with
    | false =>
      simp only [cond_false]
      have hle : ((unp (ps.drop (i + 1)) : Nat) : Int) * (1 + cost d) ≤ ((unp (ps.drop i) : Nat) : Int) * (1 + cost d) := Int.mul_le_mul_of_nonneg_right (by rw [hud]; cases ps.getD i false <;> simp <;> omega) (by omega)
      have hh := ih b (by omega) (by omega)
      cases ho : loopM (runM cs f) cs t ps os k (i + 1) b with
      | found os' => rw [ho] at hh; exact hh
      | limit => rw [ho] at hh; exact hh
      | none b' =>
        rw [ho] at hh
        refine ⟨fun j h1 h2 h3 h4 => ?_, by have := hh.2; omega⟩
        by_cases e : j = i
        · subst e; rw [hm] at h3; cases h3
        · exact hh.1 j (by omega) h2 h3 h4
    | true =>
      have hpi := may_unp hm
      rw [hpi] at hud
      have hud' : unp (ps.drop i) = 1 + unp (ps.drop (i + 1)) := hud
      have hexp : ((unp (ps.drop i) : Nat) : Int) * (1 + cost d) = (1 + cost d) + ((unp (ps.drop (i + 1)) : Nat) : Int) * (1 + cost d) := by
        rw [hud']
        rw [show (((1 + unp (ps.drop (i + 1)) : Nat)) : Int) = 1 + ((unp (ps.drop (i + 1)) : Nat) : Int) by omega, Int.add_mul, Int.one_mul]
      have hnn : 0 ≤ ((unp (ps.drop (i + 1)) : Nat) : Int) * (1 + cost d) := Int.mul_nonneg (by omega) (by omega)
      have hb0 : (b == 0) = false := by rw [beq_eq_false_iff_ne]; omega
      rw [hb0]
      simp only [cond_true, cond_false]
      cases ha : agr (cs.getD i c0) (applyM t (cs.getD i c0).prog) with
      | false =>
        simp only [cond_false]
        have hh := ih (b - 1) (by omega) (by omega)
        cases ho : loopM (runM cs f) cs t ps os k (i + 1) (b - 1) with
        | found os' => rw [ho] at hh; exact hh
        | limit => rw [ho] at hh; exact hh
        | none b' =>
          rw [ho] at hh
          refine ⟨fun j h1 h2 h3 h4 => ?_, by have := hh.2; omega⟩
          by_cases e : j = i
          · subst e; rw [ha] at h4; cases h4
          · exact hh.1 j (by omega) h2 h3 h4
      | true =>
        simp only [cond_true]
        have hun := unp_set ps i (by omega) hpi
        have hr := IH (applyM t (cs.getD i c0).prog).1 (ps.set i true) (os ++ [(i : Int)]) (b - 1) (by rw [List.length_set]; exact hp) (by omega) (by omega)
        cases ho : runM cs f (applyM t (cs.getD i c0).prog).1 (ps.set i true) (os ++ [(i : Int)]) (b - 1) with
        | found os' =>
          rw [ho] at hr
          obtain ⟨r, h1, h2⟩ := hr
          exact ⟨i :: r, ⟨hi, hm, ha, h1⟩, by rw [h2]; simp⟩
        | limit => rw [ho] at hr; exact hr
        | none b' =>
          rw [ho] at hr
          have hb' := hr.2
          have hh := ih b' (by omega) (by omega)
          show LoopS cs t ps os i b (((unp (ps.drop i) : Nat) : Int) * (1 + cost d)) (loopM (runM cs f) cs t ps os k (i + 1) b')
          cases ho2 : loopM (runM cs f) cs t ps os k (i + 1) b' with
          | found os' => rw [ho2] at hh; exact hh
          | limit => rw [ho2] at hh; exact hh
          | none b'' =>
            rw [ho2] at hh
            refine ⟨fun j h1 h2 h3 h4 => ?_, by have := hh.2; omega⟩
            by_cases e : j = i
            · subst e; exact hr.1
            · exact hh.1 j (by omega) h2 h3 h4
theorem compl_unp0 : ∀ (cs : List Cl) (ps : List Bool), ps.length = cs.length → unp ps = 0 → complR cs ps = true
  | [], [], _, _ => rfl
  | [], p :: ps, h, _ => by simp at h
  | c :: cs, [], h, _ => by simp at h
  | c :: cs, p :: ps, h, h2 => by
    have hp : p = true := by
      cases p with
      | true => rfl
      | false => exfalso; have : 1 + unp ps = 0 := h2; omega
    subst hp
    have : unp ps = 0 := by have : 0 + unp ps = 0 := h2; omega
    show (bif (c.fate == 1) then (bif !true then false else complR cs ps) else complR cs ps) = true
    rw [compl_unp0 cs ps (by simpa using h) this]
    cases (c.fate == 1) <;> rfl
theorem run_spec (cs : List Cl) : ∀ (f d : Nat) (t : List Rw) (ps : List Bool) (os : List Int) (b : Int), d < f → ps.length = cs.length → unp ps = d → cost d ≤ b → RunS cs t ps os b (cost d) (runM cs f t ps os b)
  | 0, d, t, ps, os, b, h, _, _, _ => absurd h (by omega)
  | f + 1, d, t, ps, os, b, h, hp, hd, hb => by
    unfold runM
    cases hc : complR cs ps with
    | true => exact ⟨[], hc, by simp⟩
    | false =>
      simp only [cond_false]
      cases d with
      | zero => rw [compl_unp0 cs ps hp hd] at hc; cases hc
      | succ d =>
        have hl := loop_spec cs f d t ps hp hd (by omega) os (fun t ps os b h1 h2 h3 => run_spec cs f d t ps os b (by omega) h1 h2 h3) cs.length 0 b (by omega) (by rw [List.drop_zero, hd]; exact hb)
        rw [List.drop_zero, hd] at hl
        cases ho : loopM (runM cs f) cs t ps os cs.length 0 b with
        | found os' => rw [ho] at hl; exact hl
        | limit => rw [ho] at hl; exact hl
        | none b' =>
          rw [ho] at hl
          refine ⟨fun r hr => ?_, hl.2⟩
          cases r with
          | nil => have : complR cs ps = true := hr; rw [hc] at this; cases this
          | cons j r => exact hl.1 j (Nat.zero_le _) hr.1 hr.2.1 hr.2.2.1 r hr.2.2.2
theorem cost_mono : ∀ d e : Nat, d ≤ e → cost d ≤ cost e := by
  intro d e h
  induction h with
  | refl => exact Int.le_refl _
  | @step m _ ih =>
    refine Int.le_trans ih ?_
    show cost m ≤ ((m + 1 : Nat) : Int) * (1 + cost m)
    have h1 := cost_nn m
    have h2 : 1 * (1 + cost m) ≤ ((m + 1 : Nat) : Int) * (1 + cost m) := Int.mul_le_mul_of_nonneg_right (by omega) (by omega)
    omega
theorem srch_spec (t : List Rw) (cs : List Cl) (h : cs.length ≤ 6) : RunS cs t (List.replicate cs.length false) [] 1000000 (cost cs.length) (srch t cs 1000000) := by
  have h6 : cost cs.length ≤ cost 6 := cost_mono _ _ h
  have : cost 6 = 1956 := by decide
  exact run_spec cs (cs.length + 1) cs.length t _ [] 1000000 (by omega) (List.length_replicate ..) (unp_repl _) (by omega)
end Go.Proofs.Ytnhahcomgeeobaa
