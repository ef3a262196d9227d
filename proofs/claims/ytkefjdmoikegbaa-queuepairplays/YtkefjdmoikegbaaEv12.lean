/- Calls of Go's library that are told to the evaluator: what the shelf's contracts say, in the evaluator's words. -/
import Derived.Shelf.Strings.OnBuilder
import Derived.Shelf.Strings.IndexAnyAll
import Derived.Shelf.Spec.SlicesGrow
import Derived.Shelf.SlicesE.Reverse
import Derived.Test.YtkefjdmoikegbaaEv11
set_option linter.all false
namespace Go.Ev
open Go Go.Proofs Go.Shelf Go.RowKit

/-- A text of bytes. -/
def bs (l : List UInt8) : ByteArray := ⟨l.toArray⟩
theorem b1_v {μ : Mu} {hp : HF} {F : List Nat} {G : List Value} {x v : Value} (h : B1 μ hp F G (.v x) v) : F = [] ∧ G = [] ∧ v = x := by
  cases h with
  | c h => cases h with
    | d h => cases h with
      | v _ => exact ⟨rfl, rfl, rfl⟩
theorem b1_lst {μ : Mu} {hp : HF} {F : List Nat} {G : List Value} {nil : Bool} {sz : Nat} {xs : List (List AV)} {v : Value} (h : B1 μ hp F G (.lst nil sz xs) v) : F = [] ∧ G = [] ∧ DR μ (.lst nil sz xs) v := by
  cases h with
  | c h => cases h with
    | d h => exact ⟨rfl, rfl, h⟩
section
variable {P : Program}
end
end Go.Ev

namespace Go.Ev
open Go
abbrev B := List UInt8
end Go.Ev

