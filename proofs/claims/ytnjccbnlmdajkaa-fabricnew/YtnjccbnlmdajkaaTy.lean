/- Arguments by their types. -/
import Derived.Test.YtnjccbnlmdajkaaEq
import Derived.Test.YtnjccbnlmdajkaaEv10
set_option linter.all false
namespace Go.Proofs.Ytnjccbnlmdajkaa
open Go.Ev
set_option maxRecDepth 100000
set_option maxHeartbeats 0
theorem openC3 {N n : Nat} {c : List AV} (h : TypC Try.prog N (n + 1) 3 c) : ∃ (x : Int), c = [.v (.int .i64 x)] ∧ ((-9223372036854775808) ≤ x ∧ x ≤ 9223372036854775807) := by
  obtain ⟨x, rfl, fx⟩ := typC_int (k := IntKind.i64) (by kernel_rfl) h
  exact ⟨x, rfl, (lim_i64 fx)⟩
theorem openV3 {N : Nat} {a : AV} (h : TypV Try.prog N 3 a) : ∃ (x : Int), a = .v (.int .i64 x) ∧ ((-9223372036854775808) ≤ x ∧ x ≤ 9223372036854775807) := by
  obtain ⟨c, h1, rfl⟩ := h
  obtain ⟨x, rfl, hx⟩ := openC3 (n := 11) h1
  exact ⟨x, by rw [show aggT Try.prog 3 = false by kernel_rfl]; rfl, hx⟩
theorem openC4 {N n : Nat} {c : List AV} (h : TypC Try.prog N (n + 1) 4 c) : ∃ (x : Bool), c = [.v (.bool x)] ∧ (True) := by
  obtain ⟨x, rfl⟩ := typC_bool (by kernel_rfl) h
  exact ⟨x, rfl, trivial⟩
theorem openV4 {N : Nat} {a : AV} (h : TypV Try.prog N 4 a) : ∃ (x : Bool), a = .v (.bool x) ∧ (True) := by
  obtain ⟨c, h1, rfl⟩ := h
  obtain ⟨x, rfl, hx⟩ := openC4 (n := 11) h1
  exact ⟨x, by rw [show aggT Try.prog 4 = false by kernel_rfl]; rfl, hx⟩
end Go.Proofs.Ytnjccbnlmdajkaa
