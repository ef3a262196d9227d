/- Arguments by their types. -/
import Derived.Test.YtjbpbidlcegopaaEq
import Derived.Test.YtjbpbidlcegopaaEv10
set_option linter.all false
namespace Go.Proofs.Ytjbpbidlcegopaa
open Go.Ev
set_option maxRecDepth 100000
set_option maxHeartbeats 0
theorem openC3 {N n : Nat} {c : List AV} (h : TypC Try.prog N (n + 1) 3 c) : ∃ (x : Int), c = [.v (.int .i64 x)] ∧ ((-9223372036854775808) ≤ x ∧ x ≤ 9223372036854775807) := by
  obtain ⟨x, rfl, fx⟩ := typC_int (k := IntKind.i64) (by kernel_rfl) h
  exact ⟨x, rfl, (lim_i64 fx)⟩
theorem openV3 {N : Nat} {a : AV} (h : TypV Try.prog N 3 a) : ∃ (x : Int), a = .v (.int .i64 x) ∧ ((-9223372036854775808) ≤ x ∧ x ≤ 9223372036854775807) := by
  obtain ⟨c, h1, rfl⟩ := h
  obtain ⟨x, rfl, hx⟩ := openC3 (n := 11) h1
  exact ⟨x, by rw [show aggT Try.prog 3 = false by kernel_rfl]; rfl, hx⟩
theorem openC22 {N n : Nat} {c : List AV} (h : TypC Try.prog N (n + 1) 22 c) : ∃ (xn : Bool) (x : List (List AV)), c = [.lst xn 1 x] ∧ ((xn = true → x = []) ∧ x.length ≤ N ∧ ∀ y ∈ x, TypC Try.prog N n 3 y) := by
  obtain ⟨xn, x, rfl, fx⟩ := typC_slice (e := 3) (by kernel_rfl) h
  exact ⟨xn, x, rfl, fx⟩
theorem openV22 {N : Nat} {a : AV} (h : TypV Try.prog N 22 a) : ∃ (xn : Bool) (x : List (List AV)), a = .lst xn 1 x ∧ ((xn = true → x = []) ∧ x.length ≤ N ∧ ∀ y ∈ x, TypC Try.prog N 11 3 y) := by
  obtain ⟨c, h1, rfl⟩ := h
  obtain ⟨xn, x, rfl, hx⟩ := openC22 (n := 11) h1
  exact ⟨xn, x, by rw [show aggT Try.prog 22 = false by kernel_rfl]; rfl, hx⟩
end Go.Proofs.Ytjbpbidlcegopaa
