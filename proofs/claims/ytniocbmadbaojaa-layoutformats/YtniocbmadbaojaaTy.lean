/- Arguments by their types. -/
import Derived.Test.YtniocbmadbaojaaEq
import Derived.Test.YtniocbmadbaojaaEv10
set_option linter.all false
namespace Go.Proofs.Ytniocbmadbaojaa
open Go.Ev
theorem openC3 {N n : Nat} {c : List AV} (h : TypC Try.prog N (n + 1) 3 c) : ∃ (x : Int), c = [.v (.int .i64 x)] ∧ ((-9223372036854775808) ≤ x ∧ x ≤ 9223372036854775807) := by
  obtain ⟨x, rfl, fx⟩ := typC_int (k := IntKind.i64) (by kernel_rfl) h
  exact ⟨x, rfl, (lim_i64 fx)⟩
theorem openV3 {N : Nat} {a : AV} (h : TypV Try.prog N 3 a) : ∃ (x : Int), a = .v (.int .i64 x) ∧ ((-9223372036854775808) ≤ x ∧ x ≤ 9223372036854775807) := by
  obtain ⟨c, h1, rfl⟩ := h
  obtain ⟨x, rfl, hx⟩ := openC3 (n := 11) h1
  exact ⟨x, by rw [show aggT Try.prog 3 = false by kernel_rfl]; rfl, hx⟩
theorem openC4 {N n : Nat} {c : List AV} (h : TypC Try.prog N (n + 1) 4 c) : ∃ (x : Bool), c = [.v (.bool x)] ∧ (True) := by
  obtain ⟨x, rfl⟩ := typC_bool (by kernel_rfl) h
  exact ⟨x, rfl, trivial⟩
theorem openV4 {N : Nat} {a : AV} (h : TypV Try.prog N 4 a) : ∃ (x : Bool), a = .v (.bool x) ∧ (True) := by
  obtain ⟨c, h1, rfl⟩ := h
  obtain ⟨x, rfl, hx⟩ := openC4 (n := 11) h1
  exact ⟨x, by rw [show aggT Try.prog 4 = false by kernel_rfl]; rfl, hx⟩
theorem openC29 {N n : Nat} {c : List AV} (h : TypC Try.prog N (n + 1) 29 c) : ∃ (x : Int), c = [.v (.int .u64 x)] ∧ (0 ≤ x ∧ x ≤ 18446744073709551615) := by
  obtain ⟨x, rfl, fx⟩ := typC_int (k := IntKind.u64) (by kernel_rfl) h
  exact ⟨x, rfl, (lim_u64 fx)⟩
theorem openV29 {N : Nat} {a : AV} (h : TypV Try.prog N 29 a) : ∃ (x : Int), a = .v (.int .u64 x) ∧ (0 ≤ x ∧ x ≤ 18446744073709551615) := by
  obtain ⟨c, h1, rfl⟩ := h
  obtain ⟨x, rfl, hx⟩ := openC29 (n := 11) h1
  exact ⟨x, by rw [show aggT Try.prog 29 = false by kernel_rfl]; rfl, hx⟩
theorem openC36 {N n : Nat} {c : List AV} (h : TypC Try.prog N (n + 1) 36 c) : ∃ (xn : Bool) (x : List (List AV)), c = [.lst xn 1 x] ∧ ((xn = true → x = []) ∧ x.length ≤ N ∧ ∀ y ∈ x, TypC Try.prog N n 29 y) := by
  obtain ⟨xn, x, rfl, fx⟩ := typC_slice (e := 29) (by kernel_rfl) h
  exact ⟨xn, x, rfl, fx⟩
theorem openV36 {N : Nat} {a : AV} (h : TypV Try.prog N 36 a) : ∃ (xn : Bool) (x : List (List AV)), a = .lst xn 1 x ∧ ((xn = true → x = []) ∧ x.length ≤ N ∧ ∀ y ∈ x, TypC Try.prog N 11 29 y) := by
  obtain ⟨c, h1, rfl⟩ := h
  obtain ⟨xn, x, rfl, hx⟩ := openC36 (n := 11) h1
  exact ⟨xn, x, by rw [show aggT Try.prog 36 = false by kernel_rfl]; rfl, hx⟩
end Go.Proofs.Ytniocbmadbaojaa
