/- What the arguments of a law are, read out of memory. -/
import Derived.OpenShut
import Derived.ChangeReads
import Derived.Carry
import Derived.Test.YtjbpbidlcegopaaDoorEv07
set_option linter.all false
namespace Go.Ev
variable [Gl]
structure BulkOf {H : Type} (f : DataW H → Nat) : Prop where
  str : ∀ b : List UInt8, b.length ≤ f (.lit (.string b))
  len : ∀ e s : List (DataW H), e.length ≤ f (.slice e s)
  elem : ∀ (e s : List (DataW H)) (d : DataW H), d ∈ e → f d ≤ f (.slice e s)
  part : ∀ (ps : List (DataW H)) (d : DataW H), d ∈ ps → f d ≤ f (.agg ps)
def TypC (P : Program) (N : Nat) : Nat → TypeId → List AV → Prop
  | 0, _, _ => False
  | n + 1, t, cs =>
    match P.underlying t with
    | some .bool => ∃ b, cs = [.v (.bool b)]
    | some (.int k) => ∃ m, cs = [.v (.int k m)] ∧ k.min ≤ m ∧ m ≤ k.max
    | some .string => ∃ s : ByteArray, cs = [.v (.string s)] ∧ s.size ≤ N
    | some (.slice e) => ∃ nil xs, cs = [.lst nil (P.cellsOf e) xs] ∧ (nil = true → xs = []) ∧ xs.length ≤ N ∧ ∀ x ∈ xs, TypC P N n e x
    | some (.struct fs) => ∃ parts : List (List AV), cs = parts.flatten ∧ parts.length = fs.size ∧ ∀ (i : Nat) (f : Field) (p : List AV), fs[i]? = some f → parts[i]? = some p → TypC P N n f.type p
    | some (.array len e) => ∃ parts : List (List AV), cs = parts.flatten ∧ parts.length = len ∧ ∀ p ∈ parts, TypC P N n e p
    | _ => False
def rdOk (P : Program) : Nat → TypeId → Bool
  | 0, _ => false
  | n + 1, t =>
    match P.underlying t with
    | some .bool => true
    | some (.int _) => true
    | some .string => true
    | some (.slice e) => rdOk P n e
    | some (.struct fs) => offsB P (P.cellsOf t) 0 fs.toList && fs.toList.all fun f => rdOk P n f.type
    | some (.array len e) => Nat.beq (len * P.cellsOf e) (P.cellsOf t) && rdOk P n e
    | _ => false
theorem DRs.app {μ : Mu} {as as' : List AV} {vs vs' : List Value} (h : DRs μ as vs) (k : DRs μ as' vs') : DRs μ (as ++ as') (vs ++ vs') := by
  refine ⟨by simp [h.1, k.1], fun i u x hu hx => ?_⟩
  rcases Nat.lt_or_ge i as.length with h1 | h1
  · rw [List.getElem?_append_left h1] at hu
    rw [List.getElem?_append_left (by rw [h.1]; exact h1)] at hx
    exact h.2 i u x hu hx
  · rw [List.getElem?_append_right h1] at hu
    rw [List.getElem?_append_right (by rw [h.1]; exact h1), h.1] at hx
    exact k.2 _ u x hu hx
theorem DRs.nil' {μ : Mu} : DRs μ [] [] := ⟨rfl, fun k u v hu => by simp at hu⟩
theorem DRs.one {μ : Mu} {a : AV} {v : Value} (h : DR μ a v) : DRs μ [a] [v] := ⟨rfl, fun k u x hu hx => by
  cases k with
  | zero => simp at hu hx; subst hu; subst hx; exact h
  | succ k => simp at hu⟩
section
variable {H : Type} {enc : TypeId × Value → H} {P : Program} {w : World} {base : Nat} {spare : Nat → Bool} {held : Bool} {N : Nat} {bulk : DataW H → Nat}
theorem muCell_world (a : Addr) : muCell (hf w) a = w.cell? a := rfl
theorem list_of {α : Type} {Q : Nat → α → Prop} : ∀ (n : Nat), (∀ i, i < n → ∃ a, Q i a) → ∃ xs : List α, xs.length = n ∧ ∀ (i : Nat) (a : α), xs[i]? = some a → Q i a
  | 0, _ => ⟨[], rfl, fun i a h => by simp at h⟩
  | n + 1, h => by
    obtain ⟨xs, h1, h2⟩ := list_of n fun i hi => h i (by omega)
    obtain ⟨a, ha⟩ := h n (by omega)
    refine ⟨xs ++ [a], by simp [h1], fun i b hi => ?_⟩
    rcases Nat.lt_or_ge i xs.length with hlt | hge
    · rw [List.getElem?_append_left hlt] at hi
      exact h2 i b hi
    · rw [List.getElem?_append_right hge] at hi
      cases hz : i - xs.length with
      | zero =>
        rw [hz] at hi
        simp at hi; subst hi
        have : i = n := by omega
        subst this
        exact ha
      | succ q => rw [hz] at hi; simp at hi
theorem read_parts {n : Nat} {g : TypeId → List Value → Option (DataW H × List MemPlace)} (hg : ∀ t cs x, g t cs = some x → rdOk P n t = true → (N = maxLen ∨ bulk x.1 ≤ N) → ∃ as, TypC P N n t as ∧ DRs (hf w) as cs) {cs : List Value} :
    ∀ (l : List (TypeId × Nat)) (ys : List (DataW H × List MemPlace)) (o : Nat), ys.length = l.length → (∀ (i : Nat) (q : TypeId × Nat), l[i]? = some q → g q.1 ((cs.drop q.2).take (P.cellsOf q.1)) = ys[i]?) → (∀ q ∈ l, rdOk P n q.1 = true) → (∀ y ∈ ys, N = maxLen ∨ bulk y.1 ≤ N) →
      (∀ (i : Nat) (q : TypeId × Nat), l[i]? = some q → q.2 = o + ((l.take i).map fun q => P.cellsOf q.1).sum) → o + (l.map fun q => P.cellsOf q.1).sum = cs.length →
      ∃ parts : List (List AV), parts.length = l.length ∧ (∀ (i : Nat) (q : TypeId × Nat) (p : List AV), l[i]? = some q → parts[i]? = some p → TypC P N n q.1 p) ∧ DRs (hf w) parts.flatten (cs.drop o)
  | [], ys, o, _, _, _, _, _, htot => ⟨[], rfl, fun i q p h => by simp at h, by
      simp at htot
      rw [List.drop_eq_nil_of_le (by omega)]
      exact DRs.nil'⟩
  | q :: l, [], o, hl, _, _, _, _, _ => by simp at hl
  | q :: l, y :: ys, o, hl, hgi, hrd, hb, ho, htot => by
    have h0 := hgi 0 q rfl
    have ho0 := ho 0 q rfl
    simp at ho0
    obtain ⟨as, h1, h2⟩ := hg _ _ y h0 (hrd q (by simp)) (hb y (by simp))
    obtain ⟨parts, e1, e2, e3⟩ := read_parts hg l ys (o + P.cellsOf q.1) (by simpa using hl) (fun i q' hi => by simpa using hgi (i + 1) q' (by simpa using hi)) (fun q' hq => hrd q' (by simp [hq])) (fun y' hy => hb y' (by simp [hy]))
      (fun i q' hi => by have := ho (i + 1) q' (by simpa using hi); simp only [List.take_succ_cons, List.map_cons, List.sum_cons] at this; omega) (by simp only [List.map_cons, List.sum_cons] at htot; omega)
    refine ⟨as :: parts, by simp [e1], fun i q' p hi hp => ?_, ?_⟩
    · cases i with
      | zero => simp at hi hp; subst hi; subst hp; exact h1
      | succ i => exact e2 i q' p (by simpa using hi) (by simpa using hp)
    · rw [List.flatten_cons]
      have : cs.drop o = (cs.drop q.2).take (P.cellsOf q.1) ++ cs.drop (o + P.cellsOf q.1) := by
        rw [ho0, ← List.drop_drop, List.take_append_drop]
      rw [this]
      exact DRs.app h2 e3
theorem offsB_spec {tot : Nat} : ∀ {l : List Field} {o : Nat}, offsB P tot o l = true → (∀ (i : Nat) (f : Field), l[i]? = some f → f.offset = o + ((l.take i).map fun f => P.cellsOf f.type).sum) ∧ o + (l.map fun f => P.cellsOf f.type).sum = tot
  | [], o, h => ⟨fun i f hi => by simp at hi, by simpa using Nat.eq_of_beq_eq_true h⟩
  | f :: l, o, h => by
    simp only [offsB, Bool.and_eq_true] at h
    obtain ⟨h1, h2⟩ := offsB_spec h.2
    refine ⟨fun i g hi => ?_, by simp only [List.map_cons, List.sum_cons]; omega⟩
    cases i with
    | zero => simp at hi; subst hi; simpa using Nat.eq_of_beq_eq_true h.1
    | succ i => have := h1 i g (by simpa using hi); simp only [List.take_succ_cons, List.map_cons, List.sum_cons]; omega
theorem read_typ (hB : BulkOf bulk) : ∀ (n fuel : Nat) (t : TypeId) (cs : List Value) (x : DataW H × List MemPlace), DataW.trod enc P w base spare held fuel t cs = some x → rdOk P n t = true → (N = maxLen ∨ bulk x.1 ≤ N) → ∃ as, TypC P N n t as ∧ DRs (hf w) as cs
  | 0, _, _, _, _, _, h, _ => by cases h
  | n + 1, fuel, t, cs, x, h, hr, hb => by
    rw [rdOk] at hr
    cases hu : P.underlying t with
    | none => rw [hu] at hr; cases hr
    | some d =>
      rw [hu] at hr
      cases d with
      | bool =>
        obtain ⟨b, rfl, rfl⟩ := DataW.trod_bool hu h
        exact ⟨[.v (.bool b)], by rw [TypC, hu]; exact ⟨b, rfl⟩, DRs.one (.v rfl)⟩
      | int k =>
        obtain ⟨m, rfl, rfl, hw⟩ := DataW.trod_int hu h
        simp only [Lit.wf, Bool.and_eq_true, decide_eq_true_eq] at hw
        exact ⟨[.v (.int k m)], by rw [TypC, hu]; exact ⟨m, rfl, hw⟩, DRs.one (.v rfl)⟩
      | string =>
        obtain ⟨s, rfl, rfl, hs⟩ := DataW.trod_string hu h
        refine ⟨[.v (.string s)], by
          rw [TypC, hu]
          refine ⟨s, rfl, ?_⟩
          rcases hb with hb | hb
          · rw [hb]; exact hs
          · have := Nat.le_trans (hB.str s.data.toList) hb
            have e : s.data.toList.length = s.size := by rw [Array.length_toList]; rfl
            omega, DRs.one (.v rfl)⟩
      | slice e =>
        simp only at hr
        rcases DataW.trod_slice hu h with ⟨rfl, rfl⟩ | ⟨a, len, cap, elems, rest, m, _, rfl, rfl, hba, hlc, hcm, hle, hel, _, _⟩
        · refine ⟨[.lst true (P.cellsOf e) []], by rw [TypC, hu]; exact ⟨true, [], rfl, fun _ => rfl, Nat.zero_le _, fun x hx => by cases hx⟩, DRs.one ?_⟩
          exact .lst (fun _ _ => undef) rfl (fun _ => ⟨rfl, rfl⟩) (Nat.le_refl _) (fun x hx => by cases hx) (fun a ha => by cases ha) (fun k e j u hk => by simp at hk)
        · have hlen : len ≤ N := by
            rcases hb with hb | hb
            · rw [hb]; omega
            · have := Nat.le_trans (hB.len (elems.map (·.1)) (rest.map (·.1))) hb
              simp at this
              omega
          have hget : ∀ i, i < len → ∃ cs' as, w.cells? base (a.add (i * P.cellsOf e)) (P.cellsOf e) = some cs' ∧ TypC P N n e as ∧ DRs (hf w) as cs' := fun i hi => by
            have hk := hel i hi
            rw [List.getElem?_eq_getElem (by omega)] at hk
            obtain ⟨cs', h1, h2⟩ := Option.bind_eq_some_iff.1 hk
            obtain ⟨as, h3, h4⟩ := read_typ hB n m e cs' _ h2 hr (hb.imp id fun hb => Nat.le_trans (hB.elem _ _ _ (by simp; exact ⟨_, List.getElem_mem _⟩)) hb)
            exact ⟨cs', as, h1, h3, h4⟩
          obtain ⟨xs, hxl, hxs⟩ := list_of (Q := fun i as => ∃ cs', w.cells? base (a.add (i * P.cellsOf e)) (P.cellsOf e) = some cs' ∧ TypC P N n e as ∧ DRs (hf w) as cs') len fun i hi => by
            obtain ⟨cs', as, h1, h2, h3⟩ := hget i hi
            exact ⟨as, cs', h1, h2, h3⟩
          have hmem : ∀ x ∈ xs, TypC P N n e x ∧ x.length = P.cellsOf e := fun x hx => by
            obtain ⟨i, hi⟩ := List.getElem?_of_mem hx
            obtain ⟨cs', h1, h2, h3⟩ := hxs i x hi
            exact ⟨h2, by rw [← h3.1]; exact (World.cells?_some h1).2.1⟩
          refine ⟨[.lst false (P.cellsOf e) xs], by rw [TypC, hu]; exact ⟨false, xs, rfl, fun e => (by cases e), by omega, fun x hx => (hmem x hx).1⟩, DRs.one ?_⟩
          rw [← hxl]
          refine .lst (fun k j => (w.cell? (a.add (k * P.cellsOf e + j))).getD undef) rfl (fun e => by cases e) (by omega) (fun x hx => (hmem x hx).2) (fun a' ha k j hk hj => ?_) (fun k x j u hk hj => ?_)
          · injection ha with ha; subst ha
            obtain ⟨cs', h1, h2, h3⟩ := hxs k xs[k] (List.getElem?_eq_getElem hk)
            obtain ⟨_, h4, h5⟩ := World.cells?_some h1
            have h6 := h5 j hj
            rw [Addr.add_add'] at h6
            rw [muCell_world, h6, List.getElem?_eq_getElem (by omega)]
            rfl
          · obtain ⟨cs', h1, h2, h3⟩ := hxs k x hk
            obtain ⟨_, h4, h5⟩ := World.cells?_some h1
            have hj' : j < x.length := (List.getElem?_eq_some_iff.1 hj).1
            have hjn : j < P.cellsOf e := by rw [← h4, h3.1]; exact hj'
            have h6 := h5 j hjn
            rw [Addr.add_add'] at h6
            rw [h6, List.getElem?_eq_getElem (show j < cs'.length by omega)]
            exact h3.2 j u _ hj (List.getElem?_eq_getElem (by omega))
      | struct fs =>
        simp only [Bool.and_eq_true, List.all_eq_true] at hr
        obtain ⟨xs, m, _, rfl, hl, hxl, hf⟩ := DataW.trod_struct hu h
        obtain ⟨o1, o2⟩ := offsB_spec hr.1
        obtain ⟨parts, e1, e2, e3⟩ := read_parts (fun t cs x h1 h2 h3 => read_typ hB n m t cs x h1 h2 h3) (cs := cs) (fs.toList.map fun f => (f.type, f.offset)) xs 0 (by simp [hxl]) (fun i q hi => by
            rw [List.getElem?_map, Option.map_eq_some_iff] at hi
            obtain ⟨f, hf1, hf2⟩ := hi
            subst hf2
            exact hf i f (by rw [← Array.getElem?_toList]; exact hf1)) (fun q hq => by
            obtain ⟨f, hf1, hf2⟩ := List.mem_map.1 hq
            subst hf2; exact hr.2 f hf1) (fun y hy => hb.imp id fun hb => Nat.le_trans (hB.part _ _ (by simp; exact ⟨_, hy⟩)) hb)
          (fun i q hi => by
            rw [List.getElem?_map, Option.map_eq_some_iff] at hi
            obtain ⟨f, hf1, hf2⟩ := hi
            subst hf2
            rw [← List.map_take, List.map_map]
            exact o1 i f hf1) (by rw [List.map_map, hl]; exact o2)
        refine ⟨parts.flatten, by
          rw [TypC, hu]
          refine ⟨parts, rfl, by simpa using e1, fun i f p hi hp => e2 i (f.type, f.offset) p ?_ hp⟩
          rw [List.getElem?_map, Array.getElem?_toList, hi]; rfl, ?_⟩
        simpa using e3
      | array len e =>
        simp only [Bool.and_eq_true] at hr
        obtain ⟨xs, m, _, rfl, hl, hxl, hf⟩ := DataW.trod_array hu h
        have hsz := Nat.eq_of_beq_eq_true hr.1
        have hsum : ∀ k, k ≤ len → ((((List.range len).map fun i => (e, i * P.cellsOf e)).take k).map fun q => P.cellsOf q.1).sum = k * P.cellsOf e := fun k hk => by
          rw [← List.map_take, List.map_map, List.take_range, Nat.min_eq_left hk]
          induction k with
          | zero => simp
          | succ k ih =>
            rw [List.range_succ, List.map_append, List.sum_append, ih (by omega)]
            simp [Nat.succ_mul]
        obtain ⟨parts, e1, e2, e3⟩ := read_parts (fun t cs x h1 h2 h3 => read_typ hB n m t cs x h1 h2 h3) (cs := cs) ((List.range len).map fun i => (e, i * P.cellsOf e)) xs 0 (by simp [hxl]) (fun i q hi => by
            rw [List.getElem?_map, Option.map_eq_some_iff] at hi
            obtain ⟨j, hj1, hj2⟩ := hi
            subst hj2
            have hj := List.getElem?_eq_some_iff.1 hj1
            obtain ⟨hj, hj'⟩ := hj
            simp at hj hj'
            subst hj'
            exact hf i hj) (fun q hq => by
            obtain ⟨f, hf1, hf2⟩ := List.mem_map.1 hq
            subst hf2; exact hr.2) (fun y hy => hb.imp id fun hb => Nat.le_trans (hB.part _ _ (by simp; exact ⟨_, hy⟩)) hb)
          (fun i q hi => by
            have hi' := List.getElem?_eq_some_iff.1 hi
            obtain ⟨hlt, _⟩ := hi'
            simp at hlt
            rw [hsum i (by omega)]
            rw [List.getElem?_map, Option.map_eq_some_iff] at hi
            obtain ⟨j, hj1, hj2⟩ := hi
            subst hj2
            have hj := List.getElem?_eq_some_iff.1 hj1
            obtain ⟨hj, hj'⟩ := hj
            simp at hj'
            subst hj'
            simp) (by
            have := hsum len (Nat.le_refl _)
            rw [List.take_of_length_le (by simp)] at this
            rw [this, hl, hsz]; simp)
        refine ⟨parts.flatten, by
          rw [TypC, hu]
          refine ⟨parts, rfl, by simpa using e1, fun p hp => ?_⟩
          obtain ⟨i, hi⟩ := List.getElem?_of_mem hp
          have hlt : i < len := by
            have := (List.getElem?_eq_some_iff.1 hi).1
            rw [e1] at this; simpa using this
          exact e2 i (e, i * P.cellsOf e) p (by simp [hlt]) hi, ?_⟩
        simpa using e3
      | _ => cases hr
end
end Go.Ev
namespace Go.Ev
variable [Gl]
open Go.ChangeShapes Go.RowKit
def TypV (P : Program) (N : Nat) (t : TypeId) (a : AV) : Prop := ∃ cs, TypC P N 12 t cs ∧ a = mkV (aggT P t) cs
def TypA (P : Program) (N : Nat) : List TypeId → List AV → Prop
  | [], as => as = []
  | t :: ts, as => ∃ a r, as = a :: r ∧ TypV P N t a ∧ TypA P N ts r
theorem trod_agg {P : Program} {w : World} {r : Reach} {b : Nat} {t : TypeId} {v : Value} (ha : aggT P t = true) (h : Value.okWide P w r b t v) : ∃ cs, v = .agg cs := by
  unfold aggT at ha
  unfold Value.okWide at h
  cases hu : P.underlying t with
  | none => rw [hu] at ha; cases ha
  | some d =>
    rw [hu] at ha h
    cases d with
    | struct fs => obtain ⟨cs, e, _⟩ := h; exact ⟨cs, e⟩
    | array n e => obtain ⟨cs, e, _⟩ := h; exact ⟨cs, e⟩
    | _ => cases ha
theorem trod_one {P : Program} {w : World} {r : Reach} {b : Nat} {t : TypeId} {v : Value} (ha : aggT P t = false) (h : Value.okWide P w r b t v) : ∀ cs, v ≠ .agg cs := by
  intro cs e
  subst e
  unfold aggT at ha
  unfold Value.okWide at h
  cases hu : P.underlying t with
  | none => rw [hu] at h; simp [Cell.okWide, hu, Cell.ok] at h
  | some d =>
    rw [hu] at ha h
    cases d with
    | struct fs => cases ha
    | array n e => cases ha
    | _ => simp [Cell.okWide, hu, Cell.ok] at h
theorem cells_one {v : Value} (h : ∀ cs, v ≠ .agg cs) : v.cells = #[v] := by
  cases v with
  | agg cs => exact absurd rfl (h cs)
  | _ => rfl
section
variable {H : Type} {enc : TypeId × Value → H} {P : Program} {W : World} {N : Nat} {bulk : DataW H → Nat}
theorem read_arg (hB : BulkOf bulk) {t : TypeId} {v : Value} {d : DataW H} {ps : List MemPlace} {base : Nat} {sp : Nat → Bool} {hd : Bool} (hr : rdOk P 12 t = true) (hval : Value.okWide P W .any base t v) (h : DataW.Trod enc P W 0 sp hd t v d ps) (hb : N = maxLen ∨ bulk d ≤ N) :
    ∃ a, TypV P N t a ∧ B2 (hf W) (hf W) [] [] a v := by
  obtain ⟨fuel, hf'⟩ := h
  obtain ⟨as, h1, h2⟩ := read_typ hB 12 fuel t _ _ hf' hr hb
  refine ⟨_, ⟨as, h1, rfl⟩, ?_⟩
  cases ha : aggT P t with
  | true =>
    obtain ⟨cs, e⟩ := trod_agg ha hval
    subst e
    have : (Value.agg cs) = .agg cs.toList.toArray := by simp
    rw [this]
    exact .agg (DRs.b1s h2)
  | false =>
    have e := cells_one (trod_one ha hval)
    rw [e] at h2
    have hl : as.length = 1 := by rw [← h2.1]; rfl
    obtain ⟨a, ha'⟩ := List.length_eq_one_iff.1 hl
    subst ha'
    exact .o (.c (.d (h2.2 0 a v rfl rfl)))
theorem read_args (hB : BulkOf bulk) : ∀ {ts : List TypeId} {vs : List Value} {ds : List (DataW H)} {ps : List MemPlace} {base : Nat} {sp : Nat → Bool} {hd : Bool}, (∀ t ∈ ts, rdOk P 12 t = true) → (∀ (j : Nat) t v, ts[j]? = some t → vs[j]? = some v → Value.okWide P W .any base t v) →
    DataW.TrodAll enc P W 0 sp hd ts vs ds ps → (N = maxLen ∨ ∀ d ∈ ds, bulk d ≤ N) → ∃ as, TypA P N ts as ∧ B2s (hf W) (hf W) [] [] as vs ∧ vs.length = ts.length ∧ ds.length = ts.length
  | [], vs, ds, ps, base, sp, hd, hr, hval, h, hb => by
    obtain ⟨rfl, rfl, rfl⟩ := trodAll_nil h
    exact ⟨[], rfl, .nil, rfl, rfl⟩
  | t :: ts, vs, ds, ps, base, sp, hd, hr, hval, h, hb => by
    obtain ⟨v, vs1, d, ds1, p, q, rfl, rfl, rfl, h1, h2⟩ := trodAll_cons h
    obtain ⟨a, t1, b1⟩ := read_arg hB (hr t (by simp)) (hval 0 t v rfl rfl) h1 (hb.imp id fun hb => hb d (by simp))
    obtain ⟨as, t2, b2, l1, l2⟩ := read_args hB (fun t ht => hr t (by simp [ht])) (fun j t' v' h3 h4 => hval (j + 1) t' v' (by simpa using h3) (by simpa using h4)) h2 (hb.imp id fun hb d' hd' => hb d' (by simp [hd']))
    exact ⟨a :: as, ⟨a, as, rfl, t1, t2⟩, .cons (F := []) (G := []) b1 b2, by simp [l1], by simp [l2]⟩
theorem stay_args {W' : World} (hl : laidOutB P = true) (hk : ∀ b, b < W.heap.size → W'.heap[b]? = W.heap[b]?) {sp' : Nat → Bool} (hsp : ∀ b, b < W.heap.size → sp' b = true) : ∀ {ts : List TypeId} {vs : List Value} {ds : List (DataW H)} {ps : List MemPlace}, (∀ t ∈ ts, P.readableRec t = true ∧ t < P.types.size) →
    DataW.TrodAll enc P W 0 (fun _ => true) true ts vs ds ps → DataW.TrodAll enc P W' 0 sp' true ts vs ds ps
  | [], vs, ds, ps, hr, h => by
    obtain ⟨rfl, rfl, rfl⟩ := trodAll_nil h
    exact trodAll_mk0
  | t :: ts, vs, ds, ps, hr, h => by
    have hlt := h.lt
    obtain ⟨v, vs1, d, ds1, p, q, rfl, rfl, rfl, h1, h2⟩ := trodAll_cons h
    refine trodAll_cons_mk (WideElems.Trod_stays hl (hr t (by simp)).1 (hr t (by simp)).2 h1 (fun x hx => ?_) (fun x hx => hsp _ (hlt x (by simp [hx])))) (stay_args hl hk hsp (fun t ht => hr t (by simp [ht])) h2)
    have hx' := hk x.block (hlt x (by simp [hx]))
    cases x with
    | cell b off => simp only [World.sameAt, World.cell?]; rw [show W'.heap[b]? = W.heap[b]? from hx']
    | map b => exact hx'
theorem kept_all {W' : World} {may : MemPlace → Prop} (h1 : W'.os = W.os) (h2 : W'.output = W.output) (hk : ∀ b, b < W.heap.size → W'.heap[b]? = W.heap[b]?) : W.keptBut W' may := by
  refine ⟨h1, h2, fun i hi => ?_⟩
  rw [hk i hi]
  cases W.heap[i]? with
  | none => exact rfl
  | some o =>
    cases o with
    | cells c t fr => exact ⟨rfl, rfl, rfl, fun _ _ => rfl⟩
    | map es clock => exact .inr ⟨rfl, rfl⟩
    | _ => exact rfl
theorem law_step (hB : BulkOf bulk) (hmix : P.follows .mixedOrders = true) (C : Cfg) (hx : ExtS P C) {f : FuncId} {fn : Func} (hfn : P.funcs[f]? = some fn) {tb : TypeId} (hres : fn.resultTypes = #[tb]) (htb : P.underlying tb = some .bool) {s : ChangeSpec} (hvars : s.vars = [])
    (hs : ∀ ds : List (DataW H), ds.length = fn.params.toList.length → s.fn H (ds ++ []) = { results := [.lit (.bool true)], args := ds }) (hl : laidOutB P = true) (hrd : ∀ t ∈ fn.params.toList, rdOk P 12 t = true ∧ P.readableRec t = true ∧ t < P.types.size)
    (hev : ∀ as, TypA P N fn.params.toList as → ∃ n, evF P C n f as = some [.v (.bool true)]) (base : Nat) (args : Array Value) (ds gs : List (DataW H)) (before : List MemPlace)
    (hval : ∀ (j : Nat) t v, fn.params[j]? = some t → args[j]? = some v → Value.okWide P W .any base t v) (hW : DataW.Whole enc P fn.params.toList s.vars false W args.toList ds gs before) (hb : N = maxLen ∨ ∀ d ∈ ds, bulk d ≤ N) (hg : Gl.ok (hf W)) :
    Calls P f args W fun e W' => ∃ v, e = .returned v ∧ s.post enc P fn false true false false W args v W' := by
  have hW' := hW
  obtain ⟨p, q, hA, hV, hpq, hfz, hnd⟩ := hW
  rw [hvars] at hV
  obtain ⟨rfl, rfl⟩ := trodVars_none hV
  obtain ⟨as, t1, b1, l1, l2⟩ := read_args hB (fun t ht => (hrd t ht).1) (fun j t v h1 h2 => hval j t v (by rw [← Array.getElem?_toList]; exact h1) (by rw [← Array.getElem?_toList]; exact h2)) hA hb
  obtain ⟨n, hn⟩ := hev as t1
  obtain ⟨fn', hfn', hspec⟩ := evF_sound hmix hx n f as _ hn
  rw [hfn] at hfn'; injection hfn' with hfn'; subst hfn'
  have hc := hspec W (hf W) [] [] args.toList (fun b o h => h) b1 List.nodup_nil hg
  rw [Array.toArray_toList] at hc
  refine hc.mono fun e W' he => ?_
  obtain ⟨ra, ro, vs, μ', F1, F2, G1, h1, h2, h3, h4, h5, h6, _⟩ := he
  rw [hres] at h2
  have hra : ra = [.v (.bool true)] := by
    obtain ⟨x, hx⟩ := List.length_eq_one_iff.1 h2
    subst hx
    simp at h1
    rw [h1.1]
  subst hra
  have hvs : vs = [.bool true] := by
    cases h6 with
    | cons a b =>
      cases b
      cases a with
      | o a => cases a with
        | c a => cases a with
          | d a => cases a with
            | v => rfl
  subst hvs
  have hk : ∀ b, b < W.heap.size → W'.heap[b]? = W.heap[b]? := fun b hb => h4.keep b hb (by simp)
  refine ⟨.bool true, h3, ?_⟩
  have hsp := hs ds (by rw [l2])
  refine ⟨ds, [], before, [], before, [], hW', ?_, ?_, ?_, ?_, fun e => by cases e⟩
  · rw [hsp, hres]
    exact trodAll_cons_mk (shut_bool htb true) trodAll_mk0
  · rw [hsp, hpq, List.append_nil]
    exact stay_args hl hk (fun b hb => by simpa using hb) (fun t ht => (hrd t ht).2) hA
  · rw [hsp, hvars]
    exact rfl
  · exact kept_all h4.os h4.output hk
end
end Go.Ev
