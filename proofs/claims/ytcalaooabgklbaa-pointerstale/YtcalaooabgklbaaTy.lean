/- Arguments by their types. -/
import Derived.Test.YtcalaooabgklbaaEq
import Derived.Test.YtcalaooabgklbaaEv42
set_option linter.all false
namespace Go.Proofs.Ytcalaooabgklbaa
open Go.Ev
theorem openC3 {N n : Nat} {c : List AV} (h : TypC Try.prog N (n + 1) 3 c) : ∃ (x : Int), c = [.v (.int .i64 x)] ∧ ((-9223372036854775808) ≤ x ∧ x ≤ 9223372036854775807) := by
  obtain ⟨x, rfl, fx⟩ := typC_int (k := IntKind.i64) (by kernel_rfl) h
  exact ⟨x, rfl, (lim_i64 fx)⟩
theorem openV3 {N : Nat} {a : AV} (h : TypV Try.prog N 3 a) : ∃ (x : Int), a = .v (.int .i64 x) ∧ ((-9223372036854775808) ≤ x ∧ x ≤ 9223372036854775807) := by
  obtain ⟨c, h1, rfl⟩ := h
  obtain ⟨x, rfl, hx⟩ := openC3 (n := 11) h1
  exact ⟨x, by rw [show aggT Try.prog 3 = false by kernel_rfl]; rfl, hx⟩
theorem openC43 {N n : Nat} {c : List AV} (h : TypC Try.prog N (n + 3) 43 c) : ∃ (x_0 : Int) (x_1 : Int) (x_2_0 : Int) (x_2_1 : Int) (x_2_2 : Int) (x_2_3 : Int) (x_2_4 : Int) (x_2_5 : Int) (x_2_6 : Int), c = [.v (.int .i64 x_0), .v (.int .u64 x_1), .v (.int .u64 x_2_0), .v (.int .u64 x_2_1), .v (.int .u64 x_2_2), .v (.int .u64 x_2_3), .v (.int .u64 x_2_4), .v (.int .u64 x_2_5), .v (.int .u64 x_2_6)] ∧ ((-9223372036854775808) ≤ x_0 ∧ x_0 ≤ 9223372036854775807) ∧ (0 ≤ x_1 ∧ x_1 ≤ 18446744073709551615) ∧ (0 ≤ x_2_0 ∧ x_2_0 ≤ 18446744073709551615) ∧ (0 ≤ x_2_1 ∧ x_2_1 ≤ 18446744073709551615) ∧ (0 ≤ x_2_2 ∧ x_2_2 ≤ 18446744073709551615) ∧ (0 ≤ x_2_3 ∧ x_2_3 ≤ 18446744073709551615) ∧ (0 ≤ x_2_4 ∧ x_2_4 ≤ 18446744073709551615) ∧ (0 ≤ x_2_5 ∧ x_2_5 ≤ 18446744073709551615) ∧ (0 ≤ x_2_6 ∧ x_2_6 ≤ 18446744073709551615) := by
  have lx := typC_st (ts := [3, 23, 41]) (by kernel_rfl) h
  obtain ⟨_, _, rfl, hx_0, lx⟩ := lx
  obtain ⟨_, _, rfl, hx_1, lx⟩ := lx
  obtain ⟨_, _, rfl, hx_2, lx⟩ := lx
  cases lx
  obtain ⟨x_0, rfl, fx_0⟩ := typC_int (k := IntKind.i64) (by kernel_rfl) hx_0
  obtain ⟨x_1, rfl, fx_1⟩ := typC_int (k := IntKind.u64) (by kernel_rfl) hx_1
  have lx_2 := typC_ar (ts := [23, 23, 23, 23, 23, 23, 23]) (by kernel_rfl) hx_2
  obtain ⟨_, _, rfl, hx_2_0, lx_2⟩ := lx_2
  obtain ⟨_, _, rfl, hx_2_1, lx_2⟩ := lx_2
  obtain ⟨_, _, rfl, hx_2_2, lx_2⟩ := lx_2
  obtain ⟨_, _, rfl, hx_2_3, lx_2⟩ := lx_2
  obtain ⟨_, _, rfl, hx_2_4, lx_2⟩ := lx_2
  obtain ⟨_, _, rfl, hx_2_5, lx_2⟩ := lx_2
  obtain ⟨_, _, rfl, hx_2_6, lx_2⟩ := lx_2
  cases lx_2
  obtain ⟨x_2_0, rfl, fx_2_0⟩ := typC_int (k := IntKind.u64) (by kernel_rfl) hx_2_0
  obtain ⟨x_2_1, rfl, fx_2_1⟩ := typC_int (k := IntKind.u64) (by kernel_rfl) hx_2_1
  obtain ⟨x_2_2, rfl, fx_2_2⟩ := typC_int (k := IntKind.u64) (by kernel_rfl) hx_2_2
  obtain ⟨x_2_3, rfl, fx_2_3⟩ := typC_int (k := IntKind.u64) (by kernel_rfl) hx_2_3
  obtain ⟨x_2_4, rfl, fx_2_4⟩ := typC_int (k := IntKind.u64) (by kernel_rfl) hx_2_4
  obtain ⟨x_2_5, rfl, fx_2_5⟩ := typC_int (k := IntKind.u64) (by kernel_rfl) hx_2_5
  obtain ⟨x_2_6, rfl, fx_2_6⟩ := typC_int (k := IntKind.u64) (by kernel_rfl) hx_2_6
  exact ⟨x_0, x_1, x_2_0, x_2_1, x_2_2, x_2_3, x_2_4, x_2_5, x_2_6, rfl, (lim_i64 fx_0), (lim_u64 fx_1), (lim_u64 fx_2_0), (lim_u64 fx_2_1), (lim_u64 fx_2_2), (lim_u64 fx_2_3), (lim_u64 fx_2_4), (lim_u64 fx_2_5), (lim_u64 fx_2_6)⟩
theorem openV43 {N : Nat} {a : AV} (h : TypV Try.prog N 43 a) : ∃ (x_0 : Int) (x_1 : Int) (x_2_0 : Int) (x_2_1 : Int) (x_2_2 : Int) (x_2_3 : Int) (x_2_4 : Int) (x_2_5 : Int) (x_2_6 : Int), a = .agg [.v (.int .i64 x_0), .v (.int .u64 x_1), .v (.int .u64 x_2_0), .v (.int .u64 x_2_1), .v (.int .u64 x_2_2), .v (.int .u64 x_2_3), .v (.int .u64 x_2_4), .v (.int .u64 x_2_5), .v (.int .u64 x_2_6)] ∧ ((-9223372036854775808) ≤ x_0 ∧ x_0 ≤ 9223372036854775807) ∧ (0 ≤ x_1 ∧ x_1 ≤ 18446744073709551615) ∧ (0 ≤ x_2_0 ∧ x_2_0 ≤ 18446744073709551615) ∧ (0 ≤ x_2_1 ∧ x_2_1 ≤ 18446744073709551615) ∧ (0 ≤ x_2_2 ∧ x_2_2 ≤ 18446744073709551615) ∧ (0 ≤ x_2_3 ∧ x_2_3 ≤ 18446744073709551615) ∧ (0 ≤ x_2_4 ∧ x_2_4 ≤ 18446744073709551615) ∧ (0 ≤ x_2_5 ∧ x_2_5 ≤ 18446744073709551615) ∧ (0 ≤ x_2_6 ∧ x_2_6 ≤ 18446744073709551615) := by
  obtain ⟨c, h1, rfl⟩ := h
  obtain ⟨x_0, x_1, x_2_0, x_2_1, x_2_2, x_2_3, x_2_4, x_2_5, x_2_6, rfl, hx⟩ := openC43 (n := 9) h1
  exact ⟨x_0, x_1, x_2_0, x_2_1, x_2_2, x_2_3, x_2_4, x_2_5, x_2_6, by rw [show aggT Try.prog 43 = true by kernel_rfl]; rfl, hx⟩
theorem openC53 {N n : Nat} {c : List AV} (h : TypC Try.prog N (n + 1) 53 c) : ∃ (xn : Bool) (x : List (List AV)), c = [.lst xn 9 x] ∧ ((xn = true → x = []) ∧ x.length ≤ N ∧ ∀ y ∈ x, TypC Try.prog N n 43 y) := by
  obtain ⟨xn, x, rfl, fx⟩ := typC_slice (e := 43) (by kernel_rfl) h
  exact ⟨xn, x, rfl, fx⟩
theorem openV53 {N : Nat} {a : AV} (h : TypV Try.prog N 53 a) : ∃ (xn : Bool) (x : List (List AV)), a = .lst xn 9 x ∧ ((xn = true → x = []) ∧ x.length ≤ N ∧ ∀ y ∈ x, TypC Try.prog N 11 43 y) := by
  obtain ⟨c, h1, rfl⟩ := h
  obtain ⟨xn, x, rfl, hx⟩ := openC53 (n := 11) h1
  exact ⟨xn, x, by rw [show aggT Try.prog 53 = false by kernel_rfl]; rfl, hx⟩
theorem openC54 {N n : Nat} {c : List AV} (h : TypC Try.prog N (n + 1) 54 c) : ∃ (xn : Bool) (x : List (List AV)), c = [.lst xn 1 x] ∧ ((xn = true → x = []) ∧ x.length ≤ N ∧ ∀ y ∈ x, TypC Try.prog N n 3 y) := by
  obtain ⟨xn, x, rfl, fx⟩ := typC_slice (e := 3) (by kernel_rfl) h
  exact ⟨xn, x, rfl, fx⟩
theorem openV54 {N : Nat} {a : AV} (h : TypV Try.prog N 54 a) : ∃ (xn : Bool) (x : List (List AV)), a = .lst xn 1 x ∧ ((xn = true → x = []) ∧ x.length ≤ N ∧ ∀ y ∈ x, TypC Try.prog N 11 3 y) := by
  obtain ⟨c, h1, rfl⟩ := h
  obtain ⟨xn, x, rfl, hx⟩ := openC54 (n := 11) h1
  exact ⟨xn, x, by rw [show aggT Try.prog 54 = false by kernel_rfl]; rfl, hx⟩
theorem openC41 {N n : Nat} {c : List AV} (h : TypC Try.prog N (n + 2) 41 c) : ∃ (x_0 : Int) (x_1 : Int) (x_2 : Int) (x_3 : Int) (x_4 : Int) (x_5 : Int) (x_6 : Int), c = [.v (.int .u64 x_0), .v (.int .u64 x_1), .v (.int .u64 x_2), .v (.int .u64 x_3), .v (.int .u64 x_4), .v (.int .u64 x_5), .v (.int .u64 x_6)] ∧ (0 ≤ x_0 ∧ x_0 ≤ 18446744073709551615) ∧ (0 ≤ x_1 ∧ x_1 ≤ 18446744073709551615) ∧ (0 ≤ x_2 ∧ x_2 ≤ 18446744073709551615) ∧ (0 ≤ x_3 ∧ x_3 ≤ 18446744073709551615) ∧ (0 ≤ x_4 ∧ x_4 ≤ 18446744073709551615) ∧ (0 ≤ x_5 ∧ x_5 ≤ 18446744073709551615) ∧ (0 ≤ x_6 ∧ x_6 ≤ 18446744073709551615) := by
  have lx := typC_ar (ts := [23, 23, 23, 23, 23, 23, 23]) (by kernel_rfl) h
  obtain ⟨_, _, rfl, hx_0, lx⟩ := lx
  obtain ⟨_, _, rfl, hx_1, lx⟩ := lx
  obtain ⟨_, _, rfl, hx_2, lx⟩ := lx
  obtain ⟨_, _, rfl, hx_3, lx⟩ := lx
  obtain ⟨_, _, rfl, hx_4, lx⟩ := lx
  obtain ⟨_, _, rfl, hx_5, lx⟩ := lx
  obtain ⟨_, _, rfl, hx_6, lx⟩ := lx
  cases lx
  obtain ⟨x_0, rfl, fx_0⟩ := typC_int (k := IntKind.u64) (by kernel_rfl) hx_0
  obtain ⟨x_1, rfl, fx_1⟩ := typC_int (k := IntKind.u64) (by kernel_rfl) hx_1
  obtain ⟨x_2, rfl, fx_2⟩ := typC_int (k := IntKind.u64) (by kernel_rfl) hx_2
  obtain ⟨x_3, rfl, fx_3⟩ := typC_int (k := IntKind.u64) (by kernel_rfl) hx_3
  obtain ⟨x_4, rfl, fx_4⟩ := typC_int (k := IntKind.u64) (by kernel_rfl) hx_4
  obtain ⟨x_5, rfl, fx_5⟩ := typC_int (k := IntKind.u64) (by kernel_rfl) hx_5
  obtain ⟨x_6, rfl, fx_6⟩ := typC_int (k := IntKind.u64) (by kernel_rfl) hx_6
  exact ⟨x_0, x_1, x_2, x_3, x_4, x_5, x_6, rfl, (lim_u64 fx_0), (lim_u64 fx_1), (lim_u64 fx_2), (lim_u64 fx_3), (lim_u64 fx_4), (lim_u64 fx_5), (lim_u64 fx_6)⟩
theorem openV41 {N : Nat} {a : AV} (h : TypV Try.prog N 41 a) : ∃ (x_0 : Int) (x_1 : Int) (x_2 : Int) (x_3 : Int) (x_4 : Int) (x_5 : Int) (x_6 : Int), a = .agg [.v (.int .u64 x_0), .v (.int .u64 x_1), .v (.int .u64 x_2), .v (.int .u64 x_3), .v (.int .u64 x_4), .v (.int .u64 x_5), .v (.int .u64 x_6)] ∧ (0 ≤ x_0 ∧ x_0 ≤ 18446744073709551615) ∧ (0 ≤ x_1 ∧ x_1 ≤ 18446744073709551615) ∧ (0 ≤ x_2 ∧ x_2 ≤ 18446744073709551615) ∧ (0 ≤ x_3 ∧ x_3 ≤ 18446744073709551615) ∧ (0 ≤ x_4 ∧ x_4 ≤ 18446744073709551615) ∧ (0 ≤ x_5 ∧ x_5 ≤ 18446744073709551615) ∧ (0 ≤ x_6 ∧ x_6 ≤ 18446744073709551615) := by
  obtain ⟨c, h1, rfl⟩ := h
  obtain ⟨x_0, x_1, x_2, x_3, x_4, x_5, x_6, rfl, hx⟩ := openC41 (n := 10) h1
  exact ⟨x_0, x_1, x_2, x_3, x_4, x_5, x_6, by rw [show aggT Try.prog 41 = true by kernel_rfl]; rfl, hx⟩
end Go.Proofs.Ytcalaooabgklbaa
