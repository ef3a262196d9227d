/- CachePlays: the row's statement and the card, from what the evaluator answers. -/
import Derived.Test.YtjbpbidlcegopaaDoorCards
import Derived.Test.YtjbpbidlcegopaaDoorTie
import Derived.Test.YtjbpbidlcegopaaDoorFin
import Derived.ProofKit
import Derived.OpenShut
import Derived.Deep.DeepHandedRow
import Derived.Lib.LaidTab
set_option linter.all false
namespace Go.Proofs.YtjbpbidlcegopaaDoor.cachePlaysP
open Go.Ev Go.ChangeShapes Go.WideShapes Go.ChangeAt Go.RowKit
theorem own : ownKnob Tryd.prog.godebug = none := by kernel_rfl
theorem mix : Tryd.prog.follows .mixedOrders = true := by kernel_rfl
theorem laid : laidOutB Tryd.prog = true := by kernel_rfl
theorem und : Tryd.prog.underlying 4 = some .bool := by kernel_rfl
theorem res : Tryd.f3.resultTypes = #[4] := by kernel_rfl
theorem pars : parOk Tryd.prog Tryd.f3.params.toList = true := by kernel_rfl
theorem gNone : Tryd.prog.globalNamed "bodega/btree.none" = some 0 := by kernel_rfl
theorem gType : (Tryd.prog.globals[0]?).map (·.type) = some 82 := by kernel_rfl
theorem cells3 : Tryd.prog.cellsOf 3 = 1 := by kernel_rfl
theorem cells82 : Tryd.prog.cellsOf 82 = 2 := by kernel_rfl
theorem mem_all {H : Type} {d : DataW H} {l : List (DataW H)} (h : d ∈ l) : Rows.uptoBulk d ≤ Rows.uptoBulkAll l := by
  induction l with
  | nil => cases h
  | cons x r ih =>
    simp only [Rows.uptoBulkAll]
    rcases List.mem_cons.1 h with h | h
    · subst h; omega
    · have := ih h; omega
theorem pos {H : Type} (d : DataW H) : 1 ≤ Rows.uptoBulk d := by
  cases d with
  | lit l => cases l <;> simp [Rows.uptoBulk]
  | _ => simp [Rows.uptoBulk]
theorem len_all {H : Type} (l : List (DataW H)) : l.length ≤ Rows.uptoBulkAll l := by
  induction l with
  | nil => simp [Rows.uptoBulkAll]
  | cons x r ih => have := pos x; simp only [Rows.uptoBulkAll, List.length_cons]; omega
theorem bulk_ok {H : Type} : BulkOf (Rows.uptoBulk (H := H)) where
  str b := by simp [Rows.uptoBulk]
  len e s := by have := len_all e; simp only [Rows.uptoBulk]; omega
  elem e s d h := by have := mem_all h; simp only [Rows.uptoBulk]; omega
  part ps d h := by have := mem_all h; simp only [Rows.uptoBulk]; omega
theorem spec {H : Type} (ds : List (DataW H)) (h : ds.length = Tryd.f3.params.toList.length) : Rows.cachePlaysSpec.fn H (ds ++ []) = { results := [.lit (.bool true)], args := ds } := by
  have h : ds.length = 4 := h.trans (by kernel_rfl)
  match ds, h with
  | [_, _, _, _], _ => rfl
theorem none_at {W : World} (h : laidMetH Tryd.prog Rows.cachePlaysRow.laid W) : NoneAt (hf W) := by
  obtain ⟨ps, ⟨g', t', cs, fuel, p, q, hg', ht', hvar, hd, _, _⟩, _⟩ := (show laidMet Tryd.prog [("bodega/btree.none", Rows.laid_bodega_btree_none)] W from h)
  obtain rfl := Option.some.inj (gNone.symm.trans hg')
  obtain rfl := Option.some.inj (gType.symm.trans ht')
  obtain ⟨y0, y1, n, hx, hl, h0, h1⟩ := trod_struct2 Tryd.underlying82 hd
  rw [cells82] at hl
  rw [cells3] at h0 h1
  obtain ⟨a, e0, rfl, _⟩ := DataW.trod_int Tryd.underlying3 h0
  obtain ⟨b, e1, rfl, _⟩ := DataW.trod_int Tryd.underlying3 h1
  have hx := congrArg Prod.fst hx
  simp only [Rows.laid_bodega_btree_none, DataW.agg.injEq, List.cons.injEq, DataW.lit.injEq, Lit.int.injEq, true_and, and_true] at hx
  obtain ⟨rfl, rfl⟩ := hx
  have c0 : cs[0]? = some (.int .i64 0) := by
    have := congrArg (·[0]?) e0
    simpa [List.getElem?_take, List.getElem?_drop] using this
  have c1 : cs[1]? = some (.int .i64 0) := by
    have := congrArg (·[0]?) e1
    simpa [List.getElem?_take, List.getElem?_drop] using this
  simp only [World.var?, gNone, Option.bind_some] at hvar
  split at hvar
  · rename_i cur T fz e
    cases hvar
    exact ⟨cs, T, fz, e, c0, c1⟩
  · cases hvar
set_option maxRecDepth 100000 in
theorem contract (H : Type) (enc : TypeId × Value → H) (W : World) (base : Nat) (args : Array Value) (ds gs : List (DataW H)) (before : List MemPlace)
    (hval : ∀ (j : Nat) t v, Tryd.f3.params[j]? = some t → args[j]? = some v → Value.okWide Tryd.prog W .any base t v)
    (hW : DataW.Whole enc Tryd.prog Tryd.f3.params.toList Rows.cachePlaysSpec.vars false W args.toList ds gs before) (hL : laidMetH Tryd.prog Rows.cachePlaysRow.laid W) :
    Calls Tryd.prog 3 args W fun e W' => ∃ v, e = .returned v ∧ Rows.cachePlaysSpec.post enc Tryd.prog Tryd.f3 false true false false W args v W' := by
  obtain ⟨rfl, _⟩ : gs = [] ∧ True := by
    obtain ⟨_, _, _, hV, _⟩ := hW
    exact ⟨(trodVars_none hV).1, trivial⟩
  exact law_step' (N := maxLen) bulk_ok mix cfg extOk Tryd.func3 res und rfl rfl spec laid pars (fun l h => plays_all _ l h) base args ds [] before hval hW (.inl rfl) (none_at hL)
noncomputable def laidWorld (os : Os) : World :=
  { World.holding Tryd.prog os ⟨#[], #[], []⟩ with heap := (World.holding Tryd.prog os ⟨#[], #[], []⟩).heap.modify 0 fun
      | .cells _ t frozen => .cells #[.int .i64 0, .int .i64 0] t frozen
      | o => o }
def wArgs : Array Value := #[.agg #[.int .i64 0, .slice none 0 0], .slice none 0 0, .int .i64 0, .bool false]
theorem laid_met (os : Os) : laidMet Tryd.prog Rows.cachePlaysRow.laid ((laidWorld os).forCall (fun _ _ => 0) ⟨#[], wArgs, []⟩).memory :=
  laidMet_of_run' 8 (by kernel_rfl) (by kernel_rfl)
theorem reads (os : Os) {H : Type} (enc : TypeId × Value → H) : ∃ places, DataW.whole enc Tryd.prog ((laidWorld os).forCall (fun _ _ => 0) ⟨#[], wArgs, []⟩).memory Tryd.f3.params.toList Rows.cachePlaysSpec.vars false wArgs.toList 8 = some ([.agg [.lit (.int .i64 0), .nil], .nil, .lit (.int .i64 0), .lit (.bool false)], [], places) :=
  ⟨[], by kernel_rfl⟩
set_option maxRecDepth 100000 in
theorem lifted (os : Os) (started : os.Started) (H : Type) (enc : TypeId × Value → H) (F : Stop.Interp) :
    ReturnsInHanded {} Tryd.checked os 3 .any ((OpenSpec.ofChange Rows.cachePlaysSpec).preRow enc Tryd.prog Tryd.f3 Rows.cachePlaysRow.domain false Rows.cachePlaysRow.laid) (((OpenSpec.ofChange Rows.cachePlaysSpec).at F).post enc Tryd.prog Tryd.f3 false true false false) := by
  obtain ⟨places, hx⟩ := reads os enc
  refine returnsInHanded_of_row (C := Tryd.checked) (s := OpenSpec.ofChange Rows.cachePlaysSpec) own started (by kernel_rfl) Tryd.func3
    (witness_row_at (enc := enc) (C := Tryd.checked) false (laidWorld os) wArgs rfl (by kernel_rfl) (by kernel_rfl) (by kernel_rfl)
      (OpenSpec.preRow_of_cond 8 hx (by kernel_rfl) (fun k hk => by cases hk) (by kernel_rfl) (laid_met os))) ?_
  intro W base args ds gs before hval hW _ _ _ hL _ _
  exact contract H enc W base args ds gs before hval hW hL
theorem said : Rows.CachePlaysSaid :=
  OpenClaim.holds_of_cond 3 Tryd.f3 rfl rfl rfl rfl rfl rfl rfl ⟨rfl, rfl, rfl, rfl, rfl⟩ rfl rfl rfl rfl rfl (by kernel_rfl) Tryd.func3 (by kernel_rfl)
    (of_decide_eq_true (by kernel_rfl)) (by unfold Func.isWrapper; first | (rw [if_pos (by decide +kernel)]; kernel_rfl) | (rw [if_neg (by decide +kernel)]; exact ⟨rfl, rfl⟩))
    (fun os started H enc _ F => by rw [OpenClaim.pre_eq_preRow]; exact lifted os started H enc F)
theorem plain (f : FuncId) (fn : Func) (hf : Tryd.pinned.checked.prog.funcNamed "bodega/bodegalaw25.CachePlays" = some f) (hfn : Tryd.pinned.checked.prog.funcs[f]? = some fn) :
    false = Tryd.pinned.checked.prog.looks [] ∧ ∀ (j : Nat) t, fn.params[j]? = some t → Tryd.pinned.checked.prog.wantsStandIn t = false := by
  obtain rfl : f = 3 := Option.some.inj ((show Tryd.prog.funcNamed "bodega/bodegalaw25.CachePlays" = some 3 by kernel_rfl).symm.trans hf) |>.symm
  obtain rfl : fn = Tryd.f3 := (Option.some.inj (Tryd.func3.symm.trans hfn)).symm
  refine ⟨by kernel_rfl, fun j t ht => ?_⟩
  rw [Tryd.params3] at ht
  have hm : t ∈ (#[24, 25, 3, 4] : Array TypeId) := Array.mem_of_getElem? ht
  have hm : t = 24 ∨ t = 25 ∨ t = 3 ∨ t = 4 := by simpa using hm
  rcases hm with rfl | rfl | rfl | rfl
  · exact (show Tryd.prog.wantsStandIn 24 = false by kernel_rfl)
  · exact (show Tryd.prog.wantsStandIn 25 = false by kernel_rfl)
  · exact (show Tryd.prog.wantsStandIn 3 = false by kernel_rfl)
  · exact (show Tryd.prog.wantsStandIn 4 = false by kernel_rfl)
theorem card : Rows.CachePlaysCardSaid :=
  Claim7.holds_tied_plain_at .later [] _ _ _ _ said (fun _ h => by cases h) (by kernel_rfl) (fun _ h => by cases h) cachePlays_row_tie rfl ⟨rfl, rfl⟩ (by kernel_rfl) rfl plain (by kernel_rfl)
end Go.Proofs.YtjbpbidlcegopaaDoor.cachePlaysP
namespace Go.Proofs.YtjbpbidlcegopaaDoor
theorem cachePlays_holds : Rows.CachePlaysCardSaid := cachePlaysP.card
end Go.Proofs.YtjbpbidlcegopaaDoor
