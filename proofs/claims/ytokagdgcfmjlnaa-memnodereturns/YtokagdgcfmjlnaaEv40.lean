/- Arguments by their types; the two forms of a law's statement. -/
import Derived.Test.YtokagdgcfmjlnaaEv39
import Derived.ProofKit
import Derived.JoinedCond
set_option linter.all false
namespace Go.Ev

section
variable {P : Program} {N : Nat}

theorem typC_int {n : Nat} {t : TypeId} {k : IntKind} {cs : List AV} (hu : P.underlying t = some (.int k)) (h : TypC P N (n + 1) t cs) : ∃ m, cs = [.v (.int k m)] ∧ k.min ≤ m ∧ m ≤ k.max := by
  rw [TypC, hu] at h; exact h
theorem typC_bool {n : Nat} {t : TypeId} {cs : List AV} (hu : P.underlying t = some .bool) (h : TypC P N (n + 1) t cs) : ∃ b, cs = [.v (.bool b)] := by
  rw [TypC, hu] at h; exact h
theorem typC_string {n : Nat} {t : TypeId} {cs : List AV} (hu : P.underlying t = some .string) (h : TypC P N (n + 1) t cs) : ∃ s : ByteArray, cs = [.v (.string s)] ∧ s.size ≤ N := by
  rw [TypC, hu] at h; exact h
theorem typC_slice {n : Nat} {t e : TypeId} {cs : List AV} (hu : P.underlying t = some (.slice e)) (h : TypC P N (n + 1) t cs) :
    ∃ nil xs, cs = [.lst nil (P.cellsOf e) xs] ∧ (nil = true → xs = []) ∧ xs.length ≤ N ∧ ∀ x ∈ xs, TypC P N n e x := by
  rw [TypC, hu] at h; exact h
/-- Parts beside one another. -/
def TypL (P : Program) (N n : Nat) : List TypeId → List AV → Prop
  | [], cs => cs = []
  | t :: ts, cs => ∃ p r, cs = p ++ r ∧ TypC P N n t p ∧ TypL P N n ts r
theorem typL_of {n : Nat} : ∀ (ts : List TypeId) (parts : List (List AV)), parts.length = ts.length → (∀ (i : Nat) (t : TypeId) (p : List AV), ts[i]? = some t → parts[i]? = some p → TypC P N n t p) → TypL P N n ts parts.flatten
  | [], parts, hl, _ => by
    have : parts = [] := List.eq_nil_of_length_eq_zero hl
    subst this; rfl
  | t :: ts, [], hl, _ => by simp at hl
  | t :: ts, p :: parts, hl, h => ⟨p, parts.flatten, rfl, h 0 t p rfl rfl, typL_of ts parts (by simpa using hl) fun i t' p' h1 h2 => h (i + 1) t' p' (by simpa using h1) (by simpa using h2)⟩
theorem typC_struct {n : Nat} {t : TypeId} {fs : Array Field} {cs : List AV} (hu : P.underlying t = some (.struct fs)) (h : TypC P N (n + 1) t cs) : TypL P N n (fs.toList.map (·.type)) cs := by
  rw [TypC, hu] at h
  obtain ⟨parts, rfl, hl, hp⟩ := h
  refine typL_of _ _ (by simpa using hl) fun i t' p h1 h2 => ?_
  rw [List.getElem?_map, Option.map_eq_some_iff] at h1
  obtain ⟨f, hf, e⟩ := h1
  subst e
  exact hp i f p (by rw [← Array.getElem?_toList]; exact hf) h2
theorem typC_array {n len : Nat} {t e : TypeId} {cs : List AV} (hu : P.underlying t = some (.array len e)) (h : TypC P N (n + 1) t cs) : TypL P N n (List.replicate len e) cs := by
  rw [TypC, hu] at h
  obtain ⟨parts, rfl, hl, hp⟩ := h
  refine typL_of _ _ (by simpa using hl) fun i t' p h1 h2 => ?_
  have : t' = e := by
    have := List.mem_of_getElem? h1
    exact (List.mem_replicate.1 this).2
  subst this
  exact hp p (List.mem_of_getElem? h2)
/-- An array of numbers. -/
theorem typC_ints {n len : Nat} {t e : TypeId} {k : IntKind} {cs : List AV} (hu : P.underlying t = some (.array len e)) (he : P.underlying e = some (.int k)) (h : TypC P N (n + 2) t cs) :
    ∃ ms : List Int, ms.length = len ∧ cs = ms.map (fun m => .v (.int k m)) ∧ ∀ m ∈ ms, k.min ≤ m ∧ m ≤ k.max := by
  replace h := typC_array hu h
  clear hu
  induction len generalizing cs with
  | zero => exact ⟨[], rfl, h, fun m hm => by cases hm⟩
  | succ len ih =>
    obtain ⟨p, r, rfl, h1, h2⟩ := h
    obtain ⟨m, rfl, hm⟩ := typC_int he h1
    obtain ⟨ms, e1, e2, e3⟩ := ih h2
    subst e2
    refine ⟨m :: ms, by simp [e1], rfl, fun x hx => ?_⟩
    rcases List.mem_cons.1 hx with hx | hx
    · subst hx; exact hm
    · exact e3 x hx

theorem typV_int {t : TypeId} {k : IntKind} {a : AV} (hu : P.underlying t = some (.int k)) (h : TypV P N t a) : ∃ m, a = .v (.int k m) ∧ k.min ≤ m ∧ m ≤ k.max := by
  obtain ⟨cs, h1, rfl⟩ := h
  obtain ⟨m, rfl, hm⟩ := typC_int hu h1
  exact ⟨m, by rw [show aggT P t = false by unfold aggT; rw [hu]]; rfl, hm⟩
theorem typV_bool {t : TypeId} {a : AV} (hu : P.underlying t = some .bool) (h : TypV P N t a) : ∃ b, a = .v (.bool b) := by
  obtain ⟨cs, h1, rfl⟩ := h
  obtain ⟨b, rfl⟩ := typC_bool hu h1
  exact ⟨b, by rw [show aggT P t = false by unfold aggT; rw [hu]]; rfl⟩
theorem typV_string {t : TypeId} {a : AV} (hu : P.underlying t = some .string) (h : TypV P N t a) : ∃ s : ByteArray, a = .v (.string s) ∧ s.size ≤ N := by
  obtain ⟨cs, h1, rfl⟩ := h
  obtain ⟨s, rfl, hs⟩ := typC_string hu h1
  exact ⟨s, by rw [show aggT P t = false by unfold aggT; rw [hu]]; rfl, hs⟩
theorem typV_slice {t e : TypeId} {a : AV} (hu : P.underlying t = some (.slice e)) (h : TypV P N t a) :
    ∃ nil xs, a = .lst nil (P.cellsOf e) xs ∧ (nil = true → xs = []) ∧ xs.length ≤ N ∧ ∀ x ∈ xs, TypC P N 11 e x := by
  obtain ⟨cs, h1, rfl⟩ := h
  obtain ⟨nil, xs, rfl, hx⟩ := typC_slice hu h1
  exact ⟨nil, xs, by rw [show aggT P t = false by unfold aggT; rw [hu]]; rfl, hx⟩
theorem typV_struct {t : TypeId} {fs : Array Field} {a : AV} (hu : P.underlying t = some (.struct fs)) (h : TypV P N t a) : ∃ cs, a = .agg cs ∧ TypL P N 11 (fs.toList.map (·.type)) cs := by
  obtain ⟨cs, h1, rfl⟩ := h
  exact ⟨cs, by rw [show aggT P t = true by unfold aggT; rw [hu]]; rfl, typC_struct hu h1⟩
theorem typV_array {t e : TypeId} {len : Nat} {a : AV} (hu : P.underlying t = some (.array len e)) (h : TypV P N t a) : ∃ cs, a = .agg cs ∧ TypC P N 12 t cs := by
  obtain ⟨cs, h1, rfl⟩ := h
  exact ⟨cs, by rw [show aggT P t = true by unfold aggT; rw [hu]]; rfl, h1⟩
end

section
open Go.ChangeShapes
variable {H : Type} {enc : TypeId × Value → H} {N : Nat} {bulk : DataW H → Nat}

/-- What a law's row asks of the types of its parameters. -/
def parOk (P : Program) (ts : List TypeId) : Bool := ts.all fun t => rdOk P 12 t && P.readableRec t && Nat.blt t P.types.size

theorem law_step' {P : Program} {W : World} (hB : BulkOf bulk) (hmix : P.follows .mixedOrders = true) (C : Cfg) (hx : ExtS P C) {f : FuncId} {fn : Func} (hfn : P.funcs[f]? = some fn) {tb : TypeId} (hres : fn.resultTypes = #[tb]) (htb : P.underlying tb = some .bool) {s : ChangeSpec} (hvars : s.vars = [])
    {ts : List TypeId} (hts : fn.params.toList = ts) (hs : ∀ ds : List (DataW H), ds.length = ts.length → s.fn H (ds ++ []) = { results := [.lit (.bool true)], args := ds }) (hl : laidOutB P = true) (hrd : parOk P ts = true)
    (hev : ∀ as, TypA P N ts as → ∃ n, evF P C n f as = some [.v (.bool true)]) (base : Nat) (args : Array Value) (ds gs : List (DataW H)) (before : List MemPlace)
    (hval : ∀ (j : Nat) t v, fn.params[j]? = some t → args[j]? = some v → Value.okWide P W .any base t v) (hW : DataW.Whole enc P fn.params.toList s.vars false W args.toList ds gs before) (hb : N = maxLen ∨ ∀ d ∈ ds, bulk d ≤ N) :
    Calls P f args W fun e W' => ∃ v, e = .returned v ∧ s.post enc P fn false true false false W args v W' := by
  refine law_step hB hmix C hx hfn hres htb hvars (by rw [hts]; exact hs) hl (fun t ht => ?_) (by rw [hts]; exact hev) base args ds gs before hval hW hb
  rw [hts] at ht
  have := List.all_eq_true.1 hrd t ht
  simp only [Bool.and_eq_true] at this
  exact ⟨this.1.1, this.1.2, by simpa [Nat.blt_eq] using this.2⟩

end
end Go.Ev
