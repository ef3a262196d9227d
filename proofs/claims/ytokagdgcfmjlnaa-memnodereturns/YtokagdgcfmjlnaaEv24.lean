/- Regions: what the evaluator says of them is what they do, in the text's order or in any. -/
import Derived.Test.YtokagdgcfmjlnaaEv23
set_option linter.all false
namespace Go.Ev

def unl (L : Array Bool) : Nat → Nat
  | 0 => 0
  | k + 1 => unl L k + (if lis L k = true then 0 else 1)
theorem unl_set {L : Array Bool} {i : Nat} (hi : i < L.size) (hl : lis L i = false) : ∀ k, unl (L.setIfInBounds i true) k + (if i < k then 1 else 0) = unl L k
  | 0 => by simp [unl]
  | k + 1 => by
    have ih := unl_set hi hl k
    simp only [unl, lis_set hi]
    by_cases e : i = k
    · subst e
      simp only [decide_true, Bool.true_or, if_true, hl, Bool.false_eq_true, if_false, Nat.lt_irrefl, Nat.lt_succ_self] at ih ⊢
      omega
    · simp only [e, decide_false, Bool.false_or]
      by_cases h : i < k
      · have h' : i < k + 1 := by omega
        simp only [if_pos h] at ih
        simp only [if_pos h']
        omega
      · have h' : ¬ i < k + 1 := by omega
        simp only [if_neg h] at ih
        simp only [if_neg h']
        omega
theorem unl_zero {L : Array Bool} : ∀ k, unl L k = 0 → ∀ i, i < k → lis L i = true
  | 0, _, i, h => absurd h (Nat.not_lt_zero i)
  | k + 1, h, i, hi => by
    simp only [unl] at h
    by_cases e : i = k
    · subst e
      cases hl : lis L i with
      | true => rfl
      | false => rw [hl] at h; simp at h
    · exact unl_zero k (by omega) i (by omega)
theorem unl_le {L : Array Bool} : ∀ k, unl L k ≤ k
  | 0 => Nat.le_refl 0
  | k + 1 => by
    have := unl_le (L := L) k
    simp only [unl]
    split <;> omega

section
variable {P : Program} {C : Cfg} {ops : Array Oper} {cl : Nat → Nat → Prop} {S : Nat → FM × Store} {T : Nat → Trace} {E : Env} {B : Base} {G : Nat → Value} {n : Nat} {Q : Exit → Act → World → Prop}

theorem inv_done (hS : ∀ (i : Nat) (o : Oper), ops[i]? = some o → StepD P C ops o (T i) (S i) (S (i + 1))) {L : Array Bool} {a : Act} {w : World} (inv : Inv ops cl S T E B G n L a w) (hall : ∀ i, i < ops.size → lis L i = true) :
    Rel E B G n (S ops.size).1 (S ops.size).2 a w := by
  obtain ⟨μ, ρ, hfr, hsr, hdom, hsin⟩ := inv.st
  rw [slotW_all hS hall _ (Nat.le_refl _)] at hfr
  have hmono : ∀ p, p ≤ ops.size → (S p).2.length ≤ (S ops.size).2.length := fun p h1 => seg_le hS h1 (Nat.le_refl _)
  have hst : stW S T L ops.size = (S ops.size).2 := by
    apply List.ext_getElem?
    intro l
    rcases Nat.lt_or_ge l (S ops.size).2.length with h | h
    · rw [stW_get h, blkW_all hS hall l _ (Nat.le_refl _) h]; simp [h]
    · rw [List.getElem?_eq_none (by rw [stW_len]; exact h), List.getElem?_eq_none h]
  rw [hst] at hsr
  refine ⟨⟨μ, ρ, hfr, hsr, fun l rb hl => ?_, hsin⟩, Nat.le_trans inv.base (hmono 0 (Nat.zero_le _)), inv.size, inv.defers⟩
  rcases hdom l rb hl with h | ⟨j, h1, h2, h3⟩
  · exact Nat.lt_of_lt_of_le h (hmono 0 (Nat.zero_le _))
  · have hjn : j < ops.size := by have := lis_lt h1; rw [inv.lsize] at this; exact this
    exact Nat.lt_of_lt_of_le h3 (hmono (j + 1) (by omega))

theorem inv_any (DF : DrawFacts ops cl) (AP : Apart ops cl T) (hS : ∀ (i : Nat) (o : Oper), ops[i]? = some o → StepD P C ops o (T i) (S i) (S (i + 1))) (hd : DstOk ops n) (hQ : ∀ a w, Rel E B G n (S ops.size).1 (S ops.size).2 a w → Q .normal a w) :
    ∀ (fuel : Nat) (L : Array Bool) (a : Act) (w : World), unl L ops.size ≤ fuel → Inv ops cl S T E B G n L a w → wpAny P .any ops Q fuel L a w
  | 0, L, a, w, hu, inv => by
    have hall := unl_zero _ (Nat.le_zero.1 hu)
    refine ⟨?_, hQ a w (inv_done hS inv hall)⟩
    refine List.eq_nil_iff_forall_not_mem.2 fun i hi => ?_
    obtain ⟨o, ho, hl, _⟩ := lis_ready inv.lsize hi
    rw [hall i (Array.getElem?_eq_some_iff.1 ho).1] at hl; cases hl
  | fuel + 1, L, a, w, hu, inv => by
    refine ⟨fun h => hQ a w (inv_done hS inv (ready_none DF inv.lsize h)), fun i hi => inv_step DF AP hS hd inv hi fun a' w' inv' => inv_any DF AP hS hd hQ fuel _ a' w' ?_ inv'⟩
    obtain ⟨o, ho, hl, _⟩ := lis_ready inv.lsize hi
    have hin : i < ops.size := (Array.getElem?_eq_some_iff.1 ho).1
    have := unl_set (by rw [inv.lsize]; exact hin) hl ops.size
    rw [if_pos hin] at this
    omega

theorem chain_len : ∀ {l : List Oper} {s s' : FM × Store}, Chain P C ops l s s' → s.2.length ≤ s'.2.length
  | [], _, _, .nil s => Nat.le_refl _
  | o :: l, s, s', .cons h k => by
    refine Nat.le_trans ?_ (chain_len k)
    rcases h with ⟨_, fr, av, σ', _, h1, h2, _⟩ | ⟨_, h1⟩
    · rw [h1]; exact h2
    · rw [h1]; exact Nat.le_refl _

theorem Rel.drew {F : FM} {σ : Store} {a : Act} {w : World} (h : Rel E B G n F σ a w) : Rel E B G n F σ a { w with drawn := w.drawn + 1 } :=
  let ⟨⟨μ, ρ, h1, h2, h3, h6⟩, h7, h4, h5⟩ := h
  ⟨⟨μ, ρ, h1, h2.drew, h3, ⟨h6.mu, h6.rho, h6.dom, h6.size⟩⟩, h7, h4, h5⟩

/-- A region in the order of the text. -/
theorem region_sound {call : CallT} {inl : InlT} (HC : CallHyp P C call inl) {id : Nat} {s : St} {R : Type} {K : St → Option R} {r : R}
    (h : evOps P C call inl ops ops.toList s K = some r) : ∃ s' : St, K s' = some r ∧ s.bl.length ≤ s'.bl.length ∧ ∀ (E : Env) (B : Base) (G : Nat → Value) (n : Nat) (Q : Exit → Act → World → Prop) (a : Act) (w : World), DstOk ops n → Rel E B G n (lookF s.fr) s.bl a w →
      (∀ (a : Act) (w : World), Rel E B G n (lookF s'.fr) s'.bl a w → Q .normal a w) → (Code.region id ops false).wp P Q a w := by
  obtain ⟨s', hk, hch⟩ := evOps_chain HC _ _ h
  refine ⟨s', hk, chain_len hch, fun E B G n Q a w hd hr hQ => ?_⟩
  refine wp_region ?_
  have := chain_text hd ops.toList 0 _ _ rfl hch a w hr (fun a w hr' => hQ a w hr')
  rwa [Array.length_toList, ← List.range_eq_range'] at this

/-- A region whose order is drawn. -/
theorem draw_sound (hmix : P.follows .mixedOrders = true) {call : CallT} {inl : InlT} (HC : CallHyp P C call inl) {id : Nat} {s : St} {R : Type} {K : St → Option R} {r : R} (hdr : drawOk ops = true)
    (h : evOpsD P C call inl ops ops.toList (closL ops.toList) [] s K = some r) : ∃ s' : St, K s' = some r ∧ s.bl.length ≤ s'.bl.length ∧ ∀ (E : Env) (B : Base) (G : Nat → Value) (n : Nat) (Q : Exit → Act → World → Prop) (a : Act) (w : World), DstOk ops n → Rel E B G n (lookF s.fr) s.bl a w →
      (∀ (a : Act) (w : World), Rel E B G n (lookF s'.fr) s'.bl a w → Q .normal a w) → (Code.region id ops true).wp P Q a w := by
  obtain ⟨s', ts, S, hk, htl, h1, h2, h3⟩ := evOpsD_chain HC _ _ _ _ h
  have htl : ts.length = ops.size := by rw [htl]; simp
  rw [Array.length_toList] at h2
  let T : Nat → Trace := fun i => ts.getD i .no
  have hT : ∀ i, i < ops.size → ts[i]? = some (T i) := fun i hi => by simp [T, htl, hi]
  have hS : ∀ (i : Nat) (o : Oper), ops[i]? = some o → StepD P C ops o (T i) (S i) (S (i + 1)) := fun i o ho =>
    (h3 i o (T i) (by rw [Array.getElem?_toList]; exact ho) (hT i (Array.getElem?_eq_some_iff.1 ho).1)).1
  have DF := drawFacts hdr
  have AP : Apart ops (fun i j => inL j ((closL ops.toList).getD i []) = true) T := fun i j hij hj =>
    (h3 j ops[j] (T j) (by rw [Array.getElem?_toList]; exact Array.getElem?_eq_getElem hj) (hT j hj)).2 i (T i) (by simpa using hij) (by simpa using hT i (by omega))
  refine ⟨s', hk, ?_, fun E B G n Q a w hd hr hQ => ?_⟩
  · have := seg_le hS (Nat.zero_le ops.size) (Nat.le_refl _)
    rwa [h1, h2] at this
  refine wp_region_any hmix ?_
  have hL0 : ∀ i, lis (Array.replicate ops.size false) i = false := fun i => by
    simp only [lis, Array.getD_eq_getD_getElem?, Array.getElem?_replicate]
    split <;> rfl
  refine inv_any DF AP hS hd (fun a w hr' => hQ a w (by rw [h2] at hr'; exact hr')) ops.size _ a _ (unl_le _) ?_
  obtain ⟨⟨μ, ρ, hf, hsr, hdom, hsin⟩, hbase, hsz, hdf⟩ := hr.drew
  have hle := seg_le hS (Nat.zero_le ops.size) (Nat.le_refl _)
  refine ⟨by simp, fun i j hi => (by rw [hL0] at hi; cases hi), ⟨μ, ρ, ?_, ?_, fun l rb hl => .inl ?_, hsin⟩, by rw [h1]; exact hbase, hsz, hdf⟩
  · rw [slotW_none hL0, h1]; exact hf
  · have hget : ∀ l rb, ρ l = some rb → (stW S T (Array.replicate ops.size false) ops.size)[l]? = s.bl[l]? := fun l rb hl => by
      have hlt := hdom l rb hl
      rw [stW_get (by rw [h1] at hle; exact Nat.lt_of_lt_of_le hlt hle), blkW_none hL0, h1]
      simp only [blt_t hlt, cond_true]
      simp [hlt]
    exact ⟨fun l rb k hl hk => hsr.blk l rb k hl (by rw [← hget l rb hl]; exact hk), fun l l' rb rb' k k' hl hl' hk hk' => hsr.inj l l' rb rb' k k' hl hl' (by rw [← hget l rb hl]; exact hk) (by rw [← hget l' rb' hl']; exact hk'),
      fun l rb k hl hk => hsr.ownD l rb k hl (by rw [← hget l rb hl]; exact hk), hsr.imm, hsr.base⟩
  · rw [h1]; exact hdom l rb hl
end
end Go.Ev
