/- A law that the evaluator answers with true, for every argument. -/
import Derived.Test.YtokagdgcfmjlnaaEv37
set_option linter.all false
namespace Go.Ev
open Go.ChangeShapes Go.RowKit

/-- A slot of a type. -/
def TypV (P : Program) (N : Nat) (t : TypeId) (a : AV) : Prop := ∃ cs, TypC P N 12 t cs ∧ a = mkV (aggT P t) cs
def TypA (P : Program) (N : Nat) : List TypeId → List AV → Prop
  | [], as => as = []
  | t :: ts, as => ∃ a r, as = a :: r ∧ TypV P N t a ∧ TypA P N ts r

theorem trod_agg {P : Program} {w : World} {r : Reach} {b : Nat} {t : TypeId} {v : Value} (ha : aggT P t = true) (h : Value.okWide P w r b t v) : ∃ cs, v = .agg cs := by
  unfold aggT at ha
  unfold Value.okWide at h
  cases hu : P.underlying t with
  | none => rw [hu] at ha; cases ha
  | some d =>
    rw [hu] at ha h
    cases d with
    | struct fs => obtain ⟨cs, e, _⟩ := h; exact ⟨cs, e⟩
    | array n e => obtain ⟨cs, e, _⟩ := h; exact ⟨cs, e⟩
    | _ => cases ha
theorem trod_one {P : Program} {w : World} {r : Reach} {b : Nat} {t : TypeId} {v : Value} (ha : aggT P t = false) (h : Value.okWide P w r b t v) : ∀ cs, v ≠ .agg cs := by
  intro cs e
  subst e
  unfold aggT at ha
  unfold Value.okWide at h
  cases hu : P.underlying t with
  | none => rw [hu] at h; simp [Cell.okWide, hu, Cell.ok] at h
  | some d =>
    rw [hu] at ha h
    cases d with
    | struct fs => cases ha
    | array n e => cases ha
    | _ => simp [Cell.okWide, hu, Cell.ok] at h
theorem cells_one {v : Value} (h : ∀ cs, v ≠ .agg cs) : v.cells = #[v] := by
  cases v with
  | agg cs => exact absurd rfl (h cs)
  | _ => rfl

section
variable {H : Type} {enc : TypeId × Value → H} {P : Program} {W : World} {N : Nat} {bulk : DataW H → Nat}

theorem read_arg (hB : BulkOf bulk) {t : TypeId} {v : Value} {d : DataW H} {ps : List MemPlace} {base : Nat} {sp : Nat → Bool} {hd : Bool} (hr : rdOk P 12 t = true) (hval : Value.okWide P W .any base t v) (h : DataW.Trod enc P W 0 sp hd t v d ps) (hb : N = maxLen ∨ bulk d ≤ N) :
    ∃ a, TypV P N t a ∧ B2 (hf W) (hf W) [] [] a v := by
  obtain ⟨fuel, hf'⟩ := h
  obtain ⟨as, h1, h2⟩ := read_typ hB 12 fuel t _ _ hf' hr hb
  refine ⟨_, ⟨as, h1, rfl⟩, ?_⟩
  cases ha : aggT P t with
  | true =>
    obtain ⟨cs, e⟩ := trod_agg ha hval
    subst e
    have : (Value.agg cs) = .agg cs.toList.toArray := by simp
    rw [this]
    exact .agg (DRs.b1s h2)
  | false =>
    have e := cells_one (trod_one ha hval)
    rw [e] at h2
    have hl : as.length = 1 := by rw [← h2.1]; rfl
    obtain ⟨a, ha'⟩ := List.length_eq_one_iff.1 hl
    subst ha'
    exact .o (.c (.d (h2.2 0 a v rfl rfl)))

theorem read_args (hB : BulkOf bulk) : ∀ {ts : List TypeId} {vs : List Value} {ds : List (DataW H)} {ps : List MemPlace} {base : Nat} {sp : Nat → Bool} {hd : Bool}, (∀ t ∈ ts, rdOk P 12 t = true) → (∀ (j : Nat) t v, ts[j]? = some t → vs[j]? = some v → Value.okWide P W .any base t v) →
    DataW.TrodAll enc P W 0 sp hd ts vs ds ps → (N = maxLen ∨ ∀ d ∈ ds, bulk d ≤ N) → ∃ as, TypA P N ts as ∧ B2s (hf W) (hf W) [] [] as vs ∧ vs.length = ts.length ∧ ds.length = ts.length
  | [], vs, ds, ps, base, sp, hd, hr, hval, h, hb => by
    obtain ⟨rfl, rfl, rfl⟩ := trodAll_nil h
    exact ⟨[], rfl, .nil, rfl, rfl⟩
  | t :: ts, vs, ds, ps, base, sp, hd, hr, hval, h, hb => by
    obtain ⟨v, vs1, d, ds1, p, q, rfl, rfl, rfl, h1, h2⟩ := trodAll_cons h
    obtain ⟨a, t1, b1⟩ := read_arg hB (hr t (by simp)) (hval 0 t v rfl rfl) h1 (hb.imp id fun hb => hb d (by simp))
    obtain ⟨as, t2, b2, l1, l2⟩ := read_args hB (fun t ht => hr t (by simp [ht])) (fun j t' v' h3 h4 => hval (j + 1) t' v' (by simpa using h3) (by simpa using h4)) h2 (hb.imp id fun hb d' hd' => hb d' (by simp [hd']))
    exact ⟨a :: as, ⟨a, as, rfl, t1, t2⟩, .cons (F := []) (G := []) b1 b2, by simp [l1], by simp [l2]⟩

theorem stay_args {W' : World} (hl : laidOutB P = true) (hk : ∀ b, b < W.heap.size → W'.heap[b]? = W.heap[b]?) {sp' : Nat → Bool} (hsp : ∀ b, b < W.heap.size → sp' b = true) : ∀ {ts : List TypeId} {vs : List Value} {ds : List (DataW H)} {ps : List MemPlace}, (∀ t ∈ ts, P.readableRec t = true ∧ t < P.types.size) →
    DataW.TrodAll enc P W 0 (fun _ => true) true ts vs ds ps → DataW.TrodAll enc P W' 0 sp' true ts vs ds ps
  | [], vs, ds, ps, hr, h => by
    obtain ⟨rfl, rfl, rfl⟩ := trodAll_nil h
    exact trodAll_mk0
  | t :: ts, vs, ds, ps, hr, h => by
    have hlt := h.lt
    obtain ⟨v, vs1, d, ds1, p, q, rfl, rfl, rfl, h1, h2⟩ := trodAll_cons h
    refine trodAll_cons_mk (WideElems.Trod_stays hl (hr t (by simp)).1 (hr t (by simp)).2 h1 (fun x hx => ?_) (fun x hx => hsp _ (hlt x (by simp [hx])))) (stay_args hl hk hsp (fun t ht => hr t (by simp [ht])) h2)
    have hx' := hk x.block (hlt x (by simp [hx]))
    cases x with
    | cell b off => simp only [World.sameAt, World.cell?]; rw [show W'.heap[b]? = W.heap[b]? from hx']
    | map b => exact hx'

theorem kept_all {W' : World} {may : MemPlace → Prop} (h1 : W'.os = W.os) (h2 : W'.output = W.output) (hk : ∀ b, b < W.heap.size → W'.heap[b]? = W.heap[b]?) : W.keptBut W' may := by
  refine ⟨h1, h2, fun i hi => ?_⟩
  rw [hk i hi]
  cases W.heap[i]? with
  | none => exact rfl
  | some o =>
    cases o with
    | cells c t fr => exact ⟨rfl, rfl, rfl, fun _ _ => rfl⟩
    | map es clock => exact .inr ⟨rfl, rfl⟩
    | _ => exact rfl

/-- The law's step. -/
theorem law_step (hB : BulkOf bulk) (hmix : P.follows .mixedOrders = true) (C : Cfg) (hx : ExtS P C) {f : FuncId} {fn : Func} (hfn : P.funcs[f]? = some fn) {tb : TypeId} (hres : fn.resultTypes = #[tb]) (htb : P.underlying tb = some .bool) {s : ChangeSpec} (hvars : s.vars = [])
    (hs : ∀ ds : List (DataW H), ds.length = fn.params.toList.length → s.fn H (ds ++ []) = { results := [.lit (.bool true)], args := ds }) (hl : laidOutB P = true) (hrd : ∀ t ∈ fn.params.toList, rdOk P 12 t = true ∧ P.readableRec t = true ∧ t < P.types.size)
    (hev : ∀ as, TypA P N fn.params.toList as → ∃ n, evF P C n f as = some [.v (.bool true)]) (base : Nat) (args : Array Value) (ds gs : List (DataW H)) (before : List MemPlace)
    (hval : ∀ (j : Nat) t v, fn.params[j]? = some t → args[j]? = some v → Value.okWide P W .any base t v) (hW : DataW.Whole enc P fn.params.toList s.vars false W args.toList ds gs before) (hb : N = maxLen ∨ ∀ d ∈ ds, bulk d ≤ N) :
    Calls P f args W fun e W' => ∃ v, e = .returned v ∧ s.post enc P fn false true false false W args v W' := by
  have hW' := hW
  obtain ⟨p, q, hA, hV, hpq, hfz, hnd⟩ := hW
  rw [hvars] at hV
  obtain ⟨rfl, rfl⟩ := trodVars_none hV
  obtain ⟨as, t1, b1, l1, l2⟩ := read_args hB (fun t ht => (hrd t ht).1) (fun j t v h1 h2 => hval j t v (by rw [← Array.getElem?_toList]; exact h1) (by rw [← Array.getElem?_toList]; exact h2)) hA hb
  obtain ⟨n, hn⟩ := hev as t1
  obtain ⟨fn', hfn', hspec⟩ := evF_sound hmix hx n f as _ hn
  rw [hfn] at hfn'; injection hfn' with hfn'; subst hfn'
  have hc := hspec W (hf W) [] [] args.toList (fun b o h => h) b1 List.nodup_nil
  rw [Array.toArray_toList] at hc
  refine hc.mono fun e W' he => ?_
  obtain ⟨ra, ro, vs, μ', F1, F2, G1, h1, h2, h3, h4, h5, h6, _⟩ := he
  rw [hres] at h2
  have hra : ra = [.v (.bool true)] := by
    obtain ⟨x, hx⟩ := List.length_eq_one_iff.1 h2
    subst hx
    simp at h1
    rw [h1.1]
  subst hra
  have hvs : vs = [.bool true] := by
    cases h6 with
    | cons a b =>
      cases b
      cases a with
      | o a => cases a with
        | c a => cases a with
          | d a => cases a with
            | v => rfl
  subst hvs
  have hk : ∀ b, b < W.heap.size → W'.heap[b]? = W.heap[b]? := fun b hb => h4.keep b hb (by simp)
  refine ⟨.bool true, h3, ?_⟩
  have hsp := hs ds (by rw [l2])
  refine ⟨ds, [], before, [], before, [], hW', ?_, ?_, ?_, ?_, fun e => by cases e⟩
  · rw [hsp, hres]
    exact trodAll_cons_mk (shut_bool htb true) trodAll_mk0
  · rw [hsp, hpq, List.append_nil]
    exact stay_args hl hk (fun b hb => by simpa using hb) (fun t ht => (hrd t ht).2) hA
  · rw [hsp, hvars]
    exact rfl
  · exact kept_all h4.os h4.output hk
end
end Go.Ev
