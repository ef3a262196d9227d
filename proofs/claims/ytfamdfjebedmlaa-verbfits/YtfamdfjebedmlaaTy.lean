/- Arguments by their types. -/
import Derived.Test.YtfamdfjebedmlaaEq
import Derived.Test.YtfamdfjebedmlaaEv10
set_option linter.all false
namespace Go.Proofs.Ytfamdfjebedmlaa
open Go.Ev
theorem openC3 {N n : Nat} {c : List AV} (h : TypC Try.prog N (n + 1) 3 c) : ∃ (x : Int), c = [.v (.int .i64 x)] ∧ ((-9223372036854775808) ≤ x ∧ x ≤ 9223372036854775807) := by
  obtain ⟨x, rfl, fx⟩ := typC_int (k := IntKind.i64) (by kernel_rfl) h
  exact ⟨x, rfl, (lim_i64 fx)⟩
theorem openV3 {N : Nat} {a : AV} (h : TypV Try.prog N 3 a) : ∃ (x : Int), a = .v (.int .i64 x) ∧ ((-9223372036854775808) ≤ x ∧ x ≤ 9223372036854775807) := by
  obtain ⟨c, h1, rfl⟩ := h
  obtain ⟨x, rfl, hx⟩ := openC3 (n := 11) h1
  exact ⟨x, by rw [show aggT Try.prog 3 = false by kernel_rfl]; rfl, hx⟩
theorem openC32 {N n : Nat} {c : List AV} (h : TypC Try.prog N (n + 2) 32 c) : ∃ (x_0 : Int) (x_1 : Int) (x_2 : Int) (x_3 : Int) (x_4 : Int) (x_5 : Int) (x_6 : Int) (x_7 : Int), c = [.v (.int .i64 x_0), .v (.int .i64 x_1), .v (.int .i64 x_2), .v (.int .i64 x_3), .v (.int .i64 x_4), .v (.int .i64 x_5), .v (.int .u64 x_6), .v (.int .u64 x_7)] ∧ ((-9223372036854775808) ≤ x_0 ∧ x_0 ≤ 9223372036854775807) ∧ ((-9223372036854775808) ≤ x_1 ∧ x_1 ≤ 9223372036854775807) ∧ ((-9223372036854775808) ≤ x_2 ∧ x_2 ≤ 9223372036854775807) ∧ ((-9223372036854775808) ≤ x_3 ∧ x_3 ≤ 9223372036854775807) ∧ ((-9223372036854775808) ≤ x_4 ∧ x_4 ≤ 9223372036854775807) ∧ ((-9223372036854775808) ≤ x_5 ∧ x_5 ≤ 9223372036854775807) ∧ (0 ≤ x_6 ∧ x_6 ≤ 18446744073709551615) ∧ (0 ≤ x_7 ∧ x_7 ≤ 18446744073709551615) := by
  have lx := typC_st (ts := [3, 3, 3, 3, 3, 3, 26, 26]) (by kernel_rfl) h
  obtain ⟨_, _, rfl, hx_0, lx⟩ := lx
  obtain ⟨_, _, rfl, hx_1, lx⟩ := lx
  obtain ⟨_, _, rfl, hx_2, lx⟩ := lx
  obtain ⟨_, _, rfl, hx_3, lx⟩ := lx
  obtain ⟨_, _, rfl, hx_4, lx⟩ := lx
  obtain ⟨_, _, rfl, hx_5, lx⟩ := lx
  obtain ⟨_, _, rfl, hx_6, lx⟩ := lx
  obtain ⟨_, _, rfl, hx_7, lx⟩ := lx
  cases lx
  obtain ⟨x_0, rfl, fx_0⟩ := typC_int (k := IntKind.i64) (by kernel_rfl) hx_0
  obtain ⟨x_1, rfl, fx_1⟩ := typC_int (k := IntKind.i64) (by kernel_rfl) hx_1
  obtain ⟨x_2, rfl, fx_2⟩ := typC_int (k := IntKind.i64) (by kernel_rfl) hx_2
  obtain ⟨x_3, rfl, fx_3⟩ := typC_int (k := IntKind.i64) (by kernel_rfl) hx_3
  obtain ⟨x_4, rfl, fx_4⟩ := typC_int (k := IntKind.i64) (by kernel_rfl) hx_4
  obtain ⟨x_5, rfl, fx_5⟩ := typC_int (k := IntKind.i64) (by kernel_rfl) hx_5
  obtain ⟨x_6, rfl, fx_6⟩ := typC_int (k := IntKind.u64) (by kernel_rfl) hx_6
  obtain ⟨x_7, rfl, fx_7⟩ := typC_int (k := IntKind.u64) (by kernel_rfl) hx_7
  exact ⟨x_0, x_1, x_2, x_3, x_4, x_5, x_6, x_7, rfl, (lim_i64 fx_0), (lim_i64 fx_1), (lim_i64 fx_2), (lim_i64 fx_3), (lim_i64 fx_4), (lim_i64 fx_5), (lim_u64 fx_6), (lim_u64 fx_7)⟩
theorem openV32 {N : Nat} {a : AV} (h : TypV Try.prog N 32 a) : ∃ (x_0 : Int) (x_1 : Int) (x_2 : Int) (x_3 : Int) (x_4 : Int) (x_5 : Int) (x_6 : Int) (x_7 : Int), a = .agg [.v (.int .i64 x_0), .v (.int .i64 x_1), .v (.int .i64 x_2), .v (.int .i64 x_3), .v (.int .i64 x_4), .v (.int .i64 x_5), .v (.int .u64 x_6), .v (.int .u64 x_7)] ∧ ((-9223372036854775808) ≤ x_0 ∧ x_0 ≤ 9223372036854775807) ∧ ((-9223372036854775808) ≤ x_1 ∧ x_1 ≤ 9223372036854775807) ∧ ((-9223372036854775808) ≤ x_2 ∧ x_2 ≤ 9223372036854775807) ∧ ((-9223372036854775808) ≤ x_3 ∧ x_3 ≤ 9223372036854775807) ∧ ((-9223372036854775808) ≤ x_4 ∧ x_4 ≤ 9223372036854775807) ∧ ((-9223372036854775808) ≤ x_5 ∧ x_5 ≤ 9223372036854775807) ∧ (0 ≤ x_6 ∧ x_6 ≤ 18446744073709551615) ∧ (0 ≤ x_7 ∧ x_7 ≤ 18446744073709551615) := by
  obtain ⟨c, h1, rfl⟩ := h
  obtain ⟨x_0, x_1, x_2, x_3, x_4, x_5, x_6, x_7, rfl, hx⟩ := openC32 (n := 10) h1
  exact ⟨x_0, x_1, x_2, x_3, x_4, x_5, x_6, x_7, by rw [show aggT Try.prog 32 = true by kernel_rfl]; rfl, hx⟩
theorem openC38 {N n : Nat} {c : List AV} (h : TypC Try.prog N (n + 2) 38 c) : ∃ (x_0 : Int) (x_1n : Bool) (x_1 : List (List AV)), c = [.v (.int .i64 x_0), .lst x_1n 1 x_1] ∧ ((-9223372036854775808) ≤ x_0 ∧ x_0 ≤ 9223372036854775807) ∧ ((x_1n = true → x_1 = []) ∧ x_1.length ≤ N ∧ ∀ y ∈ x_1, TypC Try.prog N n 26 y) := by
  have lx := typC_st (ts := [33, 27]) (by kernel_rfl) h
  obtain ⟨_, _, rfl, hx_0, lx⟩ := lx
  obtain ⟨_, _, rfl, hx_1, lx⟩ := lx
  cases lx
  obtain ⟨x_0, rfl, fx_0⟩ := typC_int (k := IntKind.i64) (by kernel_rfl) hx_0
  obtain ⟨x_1n, x_1, rfl, fx_1⟩ := typC_slice (e := 26) (by kernel_rfl) hx_1
  exact ⟨x_0, x_1n, x_1, rfl, (lim_i64 fx_0), fx_1⟩
theorem openV38 {N : Nat} {a : AV} (h : TypV Try.prog N 38 a) : ∃ (x_0 : Int) (x_1n : Bool) (x_1 : List (List AV)), a = .agg [.v (.int .i64 x_0), .lst x_1n 1 x_1] ∧ ((-9223372036854775808) ≤ x_0 ∧ x_0 ≤ 9223372036854775807) ∧ ((x_1n = true → x_1 = []) ∧ x_1.length ≤ N ∧ ∀ y ∈ x_1, TypC Try.prog N 10 26 y) := by
  obtain ⟨c, h1, rfl⟩ := h
  obtain ⟨x_0, x_1n, x_1, rfl, hx⟩ := openC38 (n := 10) h1
  exact ⟨x_0, x_1n, x_1, by rw [show aggT Try.prog 38 = true by kernel_rfl]; rfl, hx⟩
theorem openC22 {N n : Nat} {c : List AV} (h : TypC Try.prog N (n + 1) 22 c) : ∃ (xn : Bool) (x : List (List AV)), c = [.lst xn 8 x] ∧ ((xn = true → x = []) ∧ x.length ≤ N ∧ ∀ y ∈ x, TypC Try.prog N n 32 y) := by
  obtain ⟨xn, x, rfl, fx⟩ := typC_slice (e := 32) (by kernel_rfl) h
  exact ⟨xn, x, rfl, fx⟩
theorem openV22 {N : Nat} {a : AV} (h : TypV Try.prog N 22 a) : ∃ (xn : Bool) (x : List (List AV)), a = .lst xn 8 x ∧ ((xn = true → x = []) ∧ x.length ≤ N ∧ ∀ y ∈ x, TypC Try.prog N 11 32 y) := by
  obtain ⟨c, h1, rfl⟩ := h
  obtain ⟨xn, x, rfl, hx⟩ := openC22 (n := 11) h1
  exact ⟨xn, x, by rw [show aggT Try.prog 22 = false by kernel_rfl]; rfl, hx⟩
theorem openC23 {N n : Nat} {c : List AV} (h : TypC Try.prog N (n + 1) 23 c) : ∃ (xn : Bool) (x : List (List AV)), c = [.lst xn 2 x] ∧ ((xn = true → x = []) ∧ x.length ≤ N ∧ ∀ y ∈ x, TypC Try.prog N n 38 y) := by
  obtain ⟨xn, x, rfl, fx⟩ := typC_slice (e := 38) (by kernel_rfl) h
  exact ⟨xn, x, rfl, fx⟩
theorem openV23 {N : Nat} {a : AV} (h : TypV Try.prog N 23 a) : ∃ (xn : Bool) (x : List (List AV)), a = .lst xn 2 x ∧ ((xn = true → x = []) ∧ x.length ≤ N ∧ ∀ y ∈ x, TypC Try.prog N 11 38 y) := by
  obtain ⟨c, h1, rfl⟩ := h
  obtain ⟨xn, x, rfl, hx⟩ := openC23 (n := 11) h1
  exact ⟨xn, x, by rw [show aggT Try.prog 23 = false by kernel_rfl]; rfl, hx⟩
theorem openC24 {N n : Nat} {c : List AV} (h : TypC Try.prog N (n + 1) 24 c) : ∃ (xn : Bool) (x : List (List AV)), c = [.lst xn 1 x] ∧ ((xn = true → x = []) ∧ x.length ≤ N ∧ ∀ y ∈ x, TypC Try.prog N n 3 y) := by
  obtain ⟨xn, x, rfl, fx⟩ := typC_slice (e := 3) (by kernel_rfl) h
  exact ⟨xn, x, rfl, fx⟩
theorem openV24 {N : Nat} {a : AV} (h : TypV Try.prog N 24 a) : ∃ (xn : Bool) (x : List (List AV)), a = .lst xn 1 x ∧ ((xn = true → x = []) ∧ x.length ≤ N ∧ ∀ y ∈ x, TypC Try.prog N 11 3 y) := by
  obtain ⟨c, h1, rfl⟩ := h
  obtain ⟨xn, x, rfl, hx⟩ := openC24 (n := 11) h1
  exact ⟨xn, x, by rw [show aggT Try.prog 24 = false by kernel_rfl]; rfl, hx⟩
end Go.Proofs.Ytfamdfjebedmlaa
