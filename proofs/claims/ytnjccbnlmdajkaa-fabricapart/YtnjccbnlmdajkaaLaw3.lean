/- FabricApart: the statement,from what the evaluator answers. No conditions. -/
import Derived.Test.YtnjccbnlmdajkaaAwkP
set_option linter.all false
namespace Go.Proofs.Ytnjccbnlmdajkaa.fabricApartP
open Go.Ev Go.ChangeShapes Go.RowKit
theorem own : ownKnob Try.prog.godebug = none := by kernel_rfl
theorem mix : Try.prog.follows .mixedOrders = true := by kernel_rfl
theorem laid : laidOutB Try.prog = true := by kernel_rfl
theorem und : Try.prog.underlying 4 = some .bool := by kernel_rfl
theorem res : Try.f5.resultTypes = #[4] := by kernel_rfl
theorem pars : parOk Try.prog Try.f5.params.toList = true := by kernel_rfl
theorem mem_all {H : Type} {d : DataW H} {l : List (DataW H)} (h : d ∈ l) : Rows.uptoBulk d ≤ Rows.uptoBulkAll l := by
 induction l with
 | nil => cases h
 | cons x r ih =>
  simp only [Rows.uptoBulkAll]
  rcases List.mem_cons.1 h with h | h
  ·subst h; omega
  ·have := ih h; omega
theorem pos {H : Type} (d : DataW H) : 1 ≤ Rows.uptoBulk d := by
 cases d with
 | lit l => cases l <;> simp [Rows.uptoBulk]
 | _ => simp [Rows.uptoBulk]
theorem len_all {H : Type} (l : List (DataW H)) : l.length ≤ Rows.uptoBulkAll l := by
 induction l with
 | nil => simp [Rows.uptoBulkAll]
 | cons x r ih => have := pos x; simp only [Rows.uptoBulkAll,List.length_cons]; omega
theorem bulk_ok {H : Type} : BulkOf (Rows.uptoBulk (H := H)) where
 str b := by simp [Rows.uptoBulk]
 len e s := by have := len_all e; simp only [Rows.uptoBulk]; omega
 elem e s d h := by have := mem_all h; simp only [Rows.uptoBulk]; omega
 part ps d h := by have := mem_all h; simp only [Rows.uptoBulk]; omega
theorem spec {H : Type} (ds : List (DataW H)) (h : ds.length = Try.f5.params.toList.length) : Rows.fabricApartSpec.fn H (ds ++ []) = { results := [.lit (.bool true)],args := ds } := by
 have h : ds.length = 2 := h.trans (by kernel_rfl)
 match ds,h with
 | [_,_],_ => rfl
set_option maxRecDepth 100000 in
theorem lifted (os : Os) (started : os.Started) (H : Type) (enc : TypeId × Value → H) :
  ReturnsInHanded {} Try.checked os 5 .any (Rows.fabricApartSpec.pre6 enc Try.prog Try.f5 Rows.fabricApartRow.domain false) (Rows.fabricApartSpec.post enc Try.prog Try.f5 false true false false) := by
 refine returnsInHanded_of_change (C := Try.checked) own started (by kernel_rfl) Try.func5
  (ChangeSpec.witness6 (enc := enc) (C := Try.checked) false ⟨#[],#[.slice none 0 0,.slice none 0 0],[]⟩ 8 (by kernel_rfl) (by kernel_rfl) (by kernel_rfl) (by kernel_rfl)) ?_
 intro W base args ds gs before hval hW _ _
 obtain ⟨rfl,_⟩ : gs = []∧True := by
  obtain ⟨_,_,_,hV,_⟩ := hW
  exact ⟨(trodVars_none hV).1,trivial⟩
 exact law_step' (N := maxLen) bulk_ok mix cfg5 ext5Ok Try.func5 res und rfl rfl spec laid pars (fabricApart_all) base args ds [] before hval hW (.inl rfl)
theorem said : Rows.FabricApartSaid :=
 OpenClaim.holds_of_wide 5 Try.f5 rfl rfl rfl rfl rfl rfl rfl ⟨rfl,rfl,rfl,rfl,rfl⟩ rfl rfl rfl rfl rfl (by kernel_rfl) Try.func5 (by kernel_rfl)
  (of_decide_eq_true (by kernel_rfl)) (by unfold Func.isWrapper; first | (rw [if_pos (by decide +kernel)]; kernel_rfl) | (rw [if_neg (by decide +kernel)]; exact ⟨rfl,rfl⟩))
  (fun os started H enc _ => lifted os started H enc)
end Go.Proofs.Ytnjccbnlmdajkaa.fabricApartP
namespace Go.Proofs.Ytnjccbnlmdajkaa
theorem fabricApart_holds : Rows.FabricApartSaid := fabricApartP.said
end Go.Proofs.Ytnjccbnlmdajkaa
