/- What the check drawOk says of a region's operations. -/
import Derived.Test.YtokagdgcfmjlnaaEv19
set_option linter.all false
namespace Go.Ev

theorem inL_insL {n j : Nat} : ∀ (l : List Nat), inL j (insL n l) = true → j = n ∨ inL j l = true
  | [], h => by
    simp only [insL, inL, Bool.or_false] at h
    exact .inl (Nat.eq_of_beq_eq_true h)
  | m :: r, h => by
    simp only [insL] at h
    cases h1 : Nat.beq n m with
    | true => rw [h1] at h; exact .inr h
    | false =>
      rw [h1] at h
      simp only [cond_false] at h
      cases h2 : Nat.blt n m with
      | true =>
        rw [h2] at h
        simp only [cond_true] at h
        rw [inL, Bool.or_eq_true] at h
        rcases h with h | h
        · exact .inl (Nat.eq_of_beq_eq_true h)
        · exact .inr h
      | false =>
        rw [h2] at h
        simp only [cond_false] at h
        rw [inL, Bool.or_eq_true] at h
        rcases h with h | h
        · exact .inr (by rw [inL, h]; rfl)
        · rcases inL_insL r h with h | h
          · exact .inl h
          · exact .inr (by rw [inL, h, Bool.or_true])
theorem inL_uniL {j : Nat} : ∀ (a b : List Nat), inL j (uniL a b) = true → inL j a = true ∨ inL j b = true
  | [], b, h => .inr h
  | x :: a, b, h => by
    simp only [uniL] at h
    rcases inL_uniL a _ h with h | h
    · exact .inl (by rw [inL, h, Bool.or_true])
    · rcases inL_insL b h with h | h
      · exact .inl (by rw [inL, h, Nat.beq_refl]; rfl)
      · exact .inr h
theorem inL_mem {j : Nat} : ∀ (l : List Nat), inL j l = true ↔ j ∈ l
  | [] => by simp [inL]
  | m :: r => by
    rw [inL, Bool.or_eq_true, inL_mem r, List.mem_cons]
    constructor
    · rintro (h | h)
      · exact .inl (Nat.eq_of_beq_eq_true h)
      · exact .inr h
    · rintro (h | h)
      · exact .inl (by rw [h, Nat.beq_refl])
      · exact .inr h

theorem closL_eq (ops : List Oper) : closL ops = ops.foldl (fun acc o => acc ++ [clOf acc o]) [] := rfl

theorem clOf_mem {acc : List (List Nat)} {o : Oper} {j : Nat} (h : inL j (clOf acc o) = true) : ∃ e ∈ o.after, Region.binds .any e = true ∧ (j = e.on ∨ inL j (acc.getD e.on []) = true) := by
  have key : ∀ (l : List Edge) (s : List Nat), inL j (l.foldl (fun s e => bif Region.binds .any e then uniL (insL e.on (acc.getD e.on [])) s else s) s) = true →
      inL j s = true ∨ ∃ e ∈ l, Region.binds .any e = true ∧ (j = e.on ∨ inL j (acc.getD e.on []) = true) := by
    intro l
    induction l with
    | nil => intro s h; exact .inl h
    | cons e l ih =>
      intro s h
      simp only [List.foldl_cons] at h
      rcases ih _ h with h | ⟨e', h1, h2⟩
      · cases hb : Region.binds .any e with
        | true =>
          rw [hb] at h
          rcases inL_uniL _ _ h with h | h
          · exact .inr ⟨e, by simp, hb, inL_insL _ h⟩
          · exact .inl h
        | false => rw [hb] at h; exact .inl h
      · exact .inr ⟨e', by simp [h1], h2⟩
  rcases key _ _ h with h | ⟨e, h1, h2⟩
  · cases h
  · exact ⟨e, Array.mem_toList_iff.1 h1, h2⟩

theorem closL_spec : ∀ (l : List Oper) (acc : List (List Nat)), let res := l.foldl (fun acc o => acc ++ [clOf acc o]) acc
    res.length = acc.length + l.length ∧ (∀ i, i < acc.length → res.getD i [] = acc.getD i []) ∧
      ∀ k o, l[k]? = some o → ∃ acc' : List (List Nat), acc'.length = acc.length + k ∧ (∀ i, i < acc.length + k → acc'.getD i [] = res.getD i []) ∧ res.getD (acc.length + k) [] = clOf acc' o
  | [], acc => ⟨rfl, fun _ _ => rfl, fun k o h => by simp at h⟩
  | o :: l, acc => by
    obtain ⟨h1, h2, h3⟩ := closL_spec l (acc ++ [clOf acc o])
    simp only [List.foldl_cons]
    simp only [List.length_append, List.length_singleton] at h1 h2 h3
    refine ⟨by rw [h1]; simp; omega, fun i hi => ?_, fun k o' hk => ?_⟩
    · rw [h2 i (by omega)]
      simp [List.getD_eq_getElem?_getD, List.getElem?_append_left hi]
    · cases k with
      | zero =>
        simp at hk; subst hk
        refine ⟨acc, rfl, fun i hi => ?_, ?_⟩
        · rw [h2 i (by omega)]
          simp [List.getD_eq_getElem?_getD, List.getElem?_append_left (show i < acc.length by omega)]
        · rw [Nat.add_zero, h2 _ (by omega)]
          simp [List.getD_eq_getElem?_getD]
      | succ k =>
        obtain ⟨acc', e1, e2, e3⟩ := h3 k o' (by simpa using hk)
        refine ⟨acc', by rw [e1]; omega, fun i hi => e2 i (by omega), ?_⟩
        rw [← e3]; congr 1; omega

/-- What comes up before an operation in every order is what its bonds say. -/
theorem closL_mem {ops : List Oper} {i j : Nat} {o : Oper} (ho : ops[i]? = some o) (hlt : ∀ e ∈ o.after, Region.binds .any e = true → e.on < i) (h : inL j ((closL ops).getD i []) = true) :
    ∃ e ∈ o.after, Region.binds .any e = true ∧ (j = e.on ∨ inL j ((closL ops).getD e.on []) = true) := by
  obtain ⟨_, _, h3⟩ := closL_spec ops []
  obtain ⟨acc', e1, e2, e3⟩ := h3 i o ho
  simp only [List.length_nil, Nat.zero_add] at e1 e2 e3
  rw [closL_eq, e3] at h
  obtain ⟨e, h1, h2, h4⟩ := clOf_mem h
  refine ⟨e, h1, h2, h4.imp id fun h5 => ?_⟩
  rw [e2 _ (hlt e h1 h2)] at h5
  exact h5

section
structure DrawFacts (ops : Array Oper) (cl : Nat → Nat → Prop) : Prop where
  lt : ∀ (i : Nat) (o : Oper), ops[i]? = some o → ∀ e ∈ o.after, Region.binds .any e = true → e.on < i
  mem : ∀ (i : Nat) (o : Oper) (j : Nat), ops[i]? = some o → cl i j → ∃ e ∈ o.after, Region.binds .any e = true ∧ (j = e.on ∨ cl e.on j)
  apart : ∀ (i j : Nat) (a b : Oper), i < j → ops[i]? = some a → ops[j]? = some b → cl j i ∨ apartB ops a b = true

theorem drawRow_spec {ops : Array Oper} {b : Oper} {cl : List Nat} : ∀ (l : List Oper) (i : Nat), drawRow ops b cl i l = true → ∀ q a, l[q]? = some a → inL (i + q) cl = true ∨ apartB ops a b = true
  | [], _, _, q, a, hq => by simp at hq
  | x :: l, i, h, q, a, hq => by
    simp only [drawRow, Bool.and_eq_true, Bool.or_eq_true] at h
    cases q with
    | zero => simp at hq; subst hq; exact h.1
    | succ q =>
      have := drawRow_spec l (i + 1) h.2 q a (by simpa using hq)
      rwa [show i + 1 + q = i + (q + 1) by omega] at this
theorem drawAll_spec {ops : Array Oper} {all : List Oper} : ∀ (bs : List Oper) (j : Nat) (cls : List (List Nat)), drawAll ops all j bs cls = true → ∀ k b, bs[k]? = some b →
    (∀ e ∈ b.after, Region.binds .any e = true → e.on < j + k) ∧ drawRow ops b (cls.getD k []) 0 (all.take (j + k)) = true
  | [], _, _, _, k, b, hk => by simp at hk
  | x :: bs, j, cls, h, k, b, hk => by
    simp only [drawAll, Bool.and_eq_true] at h
    obtain ⟨⟨h1, h2⟩, h3⟩ := h
    cases k with
    | zero =>
      simp at hk; subst hk
      refine ⟨fun e he hb => ?_, ?_⟩
      · have := Array.all_eq_true_iff_forall_mem.1 h1 e he
        rw [hb] at this
        simpa [Nat.blt_eq] using this
      · rw [Nat.add_zero]
        cases cls with
        | nil => exact h2
        | cons c cls => exact h2
    | succ k =>
      obtain ⟨h4, h5⟩ := drawAll_spec bs (j + 1) cls.tail h3 k b (by simpa using hk)
      refine ⟨fun e he hb => ?_, ?_⟩
      · have := h4 e he hb; omega
      · rw [show j + (k + 1) = j + 1 + k by omega]
        cases cls with
        | nil => simpa using h5
        | cons c cls => simpa using h5

theorem drawFacts {ops : Array Oper} (h : drawOk ops = true) : DrawFacts ops fun i j => inL j ((closL ops.toList).getD i []) = true := by
  simp only [drawOk, Bool.and_eq_true] at h
  have hs := drawAll_spec _ _ _ h.2
  have hlt : ∀ (i : Nat) (o : Oper), ops[i]? = some o → ∀ e ∈ o.after, Region.binds .any e = true → e.on < i := fun i o ho e he hb => by
    have := (hs i o (by rw [Array.getElem?_toList]; exact ho)).1 e he hb
    omega
  refine ⟨hlt, fun i o j ho hc => closL_mem (by rw [Array.getElem?_toList]; exact ho) (hlt i o ho) hc, fun i j a b hij ha hb => ?_⟩
  have := (hs j b (by rw [Array.getElem?_toList]; exact hb)).2
  have := drawRow_spec _ _ this i a (by rw [List.getElem?_take, if_pos (by omega), Array.getElem?_toList]; exact ha)
  simpa using this

/-- Two operations that may come up in either order, as to their slots. -/
theorem apartB_spec {ops : Array Oper} {a b : Oper} (h : apartB ops a b = true) :
    (∀ d, a.dst = some d → d ∉ looksL ops b) ∧ (∀ d, a.dst = some d → b.dst ≠ some d) ∧ (∀ d, b.dst = some d → d ∉ looksL ops a) := by
  simp only [apartB, Bool.and_eq_true] at h
  obtain ⟨h1, h2⟩ := h
  refine ⟨fun d hd => ?_, fun d hd e => ?_, fun d hd => ?_⟩
  · rw [hd] at h1
    simp only [Bool.and_eq_true, Bool.not_eq_true'] at h1
    intro hm
    rw [(inL_mem _).2 hm] at h1
    cases h1.1
  · rw [hd, e] at h1
    simp only [Bool.and_eq_true, Bool.not_eq_true', Nat.beq_refl] at h1
    cases h1.2
  · rw [hd] at h2
    simp only [Bool.not_eq_true'] at h2
    intro hm
    rw [(inL_mem _).2 hm] at h2
    cases h2

/-! ## Traces -/
def inP (p : Option (List Nat)) (l : Nat) : Bool := match p with | none => true | some L => inL l L
theorem meetL_spec {a b : List Nat} (h : meetL a b = false) (l : Nat) (h1 : inL l a = true) (h2 : inL l b = true) : False := by
  induction a with
  | nil => cases h1
  | cons x a ih =>
    simp only [meetL, Bool.or_eq_false_iff] at h
    rw [inL, Bool.or_eq_true] at h1
    rcases h1 with h1 | h1
    · rw [← Nat.eq_of_beq_eq_true h1, h2] at h; cases h.1
    · exact ih h.2 h1
theorem meet_spec {p q : Option (List Nat)} (h : meet p q = false) (l : Nat) (h1 : inP p l = true) (h2 : inP q l = true) : False := by
  cases p with
  | none =>
    cases q with
    | none => cases h
    | some b =>
      cases b with
      | nil => cases h2
      | cons x b => cases h
  | some a =>
    cases q with
    | none =>
      cases a with
      | nil => cases h1
      | cons x a => cases h
    | some b => exact meetL_spec h l h1 h2
theorem meetR_spec {lo hi : Nat} {L : List Nat} (h : meetR lo hi L = false) (l : Nat) (hl : inL l L = true) (h1 : lo ≤ l) (h2 : l < hi) : False := by
  induction L with
  | nil => cases hl
  | cons x L ih =>
    simp only [meetR, Bool.or_eq_false_iff] at h
    rw [inL, Bool.or_eq_true] at hl
    rcases hl with hl | hl
    · have := Nat.eq_of_beq_eq_true hl
      subst this
      have h3 := h.1
      rw [Nat.ble_eq_true_of_le h1] at h3
      have : Nat.blt l hi = true := by simpa [Nat.blt_eq] using h2
      rw [this] at h3; cases h3
    · exact ih h.2 hl
structure NoClash (a : Trace) (g : Foot) : Prop where
  pl : ∀ l, inP a.f.put l = true → inP g.look l = true → False
  lp : ∀ l, inP a.f.look l = true → inP g.put l = true → False
  pp : ∀ l, inP a.f.put l = true → inP g.put l = true → False
  mks : ∀ l, a.lo ≤ l → l < a.hi → inP g.put l = true → False
  top : a.f.put = none → g.nw = false
  top' : g.put = none → a.f.nw = false
theorem clash_spec {a : Trace} {g : Foot} (h : clash a g = false) : NoClash a g := by
  simp only [clash, Bool.or_eq_false_iff] at h
  obtain ⟨⟨⟨⟨⟨h1, h2⟩, h3⟩, h4⟩, h5⟩, h6⟩ := h
  refine ⟨fun l => meet_spec h3 l, fun l => meet_spec h4 l, fun l => meet_spec h5 l, fun l e1 e2 e3 => ?_, fun e => ?_, fun e => ?_⟩
  · cases hp : g.put with
    | none =>
      rw [hp] at h2
      simp only [Option.isNone_none, Bool.true_and, Bool.or_eq_false_iff] at h2
      have : Nat.blt a.lo a.hi = true := by simp [Nat.blt_eq]; omega
      rw [this] at h2; cases h2.2
    | some L =>
      rw [hp] at h6 e3
      exact meetR_spec h6 l e3 e1 e2
  · rw [e] at h1
    simp only [Option.isNone_none, Bool.true_and, Foot.touch, Bool.or_eq_false_iff] at h1
    exact h1.1.1
  · rw [e] at h2
    simp only [Option.isNone_none, Bool.true_and, Foot.touch, Bool.or_eq_false_iff] at h2
    exact h2.1.1.1
theorem noClash_no (a : Trace) : NoClash a .no :=
  ⟨fun _ _ h => (by cases h), fun _ _ h => (by cases h), fun _ _ h => (by cases h), fun _ _ _ h => (by cases h), fun _ => rfl, fun h => (by cases h)⟩
theorem footOk_spec {cl : List Nat} {f : Foot} : ∀ (l : List Trace) (i : Nat), footOk cl f i l = true → ∀ q a, l[q]? = some a → inL (i + q) cl = true ∨ NoClash a f
  | [], _, _, q, a, hq => by simp at hq
  | x :: l, i, h, q, a, hq => by
    simp only [footOk, Bool.and_eq_true, Bool.or_eq_true, Bool.not_eq_true'] at h
    cases q with
    | zero => simp at hq; subst hq; exact h.1.imp id clash_spec
    | succ q =>
      have := footOk_spec l (i + 1) h.2 q a (by simpa using hq)
      rwa [show i + 1 + q = i + (q + 1) by omega] at this
end
end Go.Ev
