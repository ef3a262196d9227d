/- Arguments by their types. -/
import Derived.Test.YtokagdgcfmjlnaaEq
import Derived.Test.YtokagdgcfmjlnaaEv10
set_option linter.all false
namespace Go.Proofs.Ytokagdgcfmjlnaa
open Go.Ev
theorem openC3 {N n : Nat} {c : List AV} (h : TypC Try.prog N (n + 1) 3 c) : ∃ (x : Int), c = [.v (.int .i64 x)] ∧ ((-9223372036854775808) ≤ x ∧ x ≤ 9223372036854775807) := by
  obtain ⟨x, rfl, fx⟩ := typC_int (k := IntKind.i64) (by kernel_rfl) h
  exact ⟨x, rfl, (lim_i64 fx)⟩
theorem openV3 {N : Nat} {a : AV} (h : TypV Try.prog N 3 a) : ∃ (x : Int), a = .v (.int .i64 x) ∧ ((-9223372036854775808) ≤ x ∧ x ≤ 9223372036854775807) := by
  obtain ⟨c, h1, rfl⟩ := h
  obtain ⟨x, rfl, hx⟩ := openC3 (n := 11) h1
  exact ⟨x, by rw [show aggT Try.prog 3 = false by kernel_rfl]; rfl, hx⟩
theorem openC34 {N n : Nat} {c : List AV} (h : TypC Try.prog N (n + 1) 34 c) : ∃ (xn : Bool) (x : List (List AV)), c = [.lst xn 5 x] ∧ ((xn = true → x = []) ∧ x.length ≤ N ∧ ∀ y ∈ x, TypC Try.prog N n 39 y) := by
  obtain ⟨xn, x, rfl, fx⟩ := typC_slice (e := 39) (by kernel_rfl) h
  exact ⟨xn, x, rfl, fx⟩
theorem openV34 {N : Nat} {a : AV} (h : TypV Try.prog N 34 a) : ∃ (xn : Bool) (x : List (List AV)), a = .lst xn 5 x ∧ ((xn = true → x = []) ∧ x.length ≤ N ∧ ∀ y ∈ x, TypC Try.prog N 11 39 y) := by
  obtain ⟨c, h1, rfl⟩ := h
  obtain ⟨xn, x, rfl, hx⟩ := openC34 (n := 11) h1
  exact ⟨xn, x, by rw [show aggT Try.prog 34 = false by kernel_rfl]; rfl, hx⟩
theorem openC38 {N n : Nat} {c : List AV} (h : TypC Try.prog N (n + 2) 38 c) : ∃ (x_0 : Int) (x_1 : Int) (x_2 : Int) (x_3 : Int) (x_4 : Int), c = [.v (.int .i64 x_0), .v (.int .i64 x_1), .v (.int .i64 x_2), .v (.int .u64 x_3), .v (.int .u64 x_4)] ∧ ((-9223372036854775808) ≤ x_0 ∧ x_0 ≤ 9223372036854775807) ∧ ((-9223372036854775808) ≤ x_1 ∧ x_1 ≤ 9223372036854775807) ∧ ((-9223372036854775808) ≤ x_2 ∧ x_2 ≤ 9223372036854775807) ∧ (0 ≤ x_3 ∧ x_3 ≤ 18446744073709551615) ∧ (0 ≤ x_4 ∧ x_4 ≤ 18446744073709551615) := by
  have lx := typC_st (ts := [3, 3, 3, 31, 31]) (by kernel_rfl) h
  obtain ⟨_, _, rfl, hx_0, lx⟩ := lx
  obtain ⟨_, _, rfl, hx_1, lx⟩ := lx
  obtain ⟨_, _, rfl, hx_2, lx⟩ := lx
  obtain ⟨_, _, rfl, hx_3, lx⟩ := lx
  obtain ⟨_, _, rfl, hx_4, lx⟩ := lx
  cases lx
  obtain ⟨x_0, rfl, fx_0⟩ := typC_int (k := IntKind.i64) (by kernel_rfl) hx_0
  obtain ⟨x_1, rfl, fx_1⟩ := typC_int (k := IntKind.i64) (by kernel_rfl) hx_1
  obtain ⟨x_2, rfl, fx_2⟩ := typC_int (k := IntKind.i64) (by kernel_rfl) hx_2
  obtain ⟨x_3, rfl, fx_3⟩ := typC_int (k := IntKind.u64) (by kernel_rfl) hx_3
  obtain ⟨x_4, rfl, fx_4⟩ := typC_int (k := IntKind.u64) (by kernel_rfl) hx_4
  exact ⟨x_0, x_1, x_2, x_3, x_4, rfl, (lim_i64 fx_0), (lim_i64 fx_1), (lim_i64 fx_2), (lim_u64 fx_3), (lim_u64 fx_4)⟩
theorem openV38 {N : Nat} {a : AV} (h : TypV Try.prog N 38 a) : ∃ (x_0 : Int) (x_1 : Int) (x_2 : Int) (x_3 : Int) (x_4 : Int), a = .agg [.v (.int .i64 x_0), .v (.int .i64 x_1), .v (.int .i64 x_2), .v (.int .u64 x_3), .v (.int .u64 x_4)] ∧ ((-9223372036854775808) ≤ x_0 ∧ x_0 ≤ 9223372036854775807) ∧ ((-9223372036854775808) ≤ x_1 ∧ x_1 ≤ 9223372036854775807) ∧ ((-9223372036854775808) ≤ x_2 ∧ x_2 ≤ 9223372036854775807) ∧ (0 ≤ x_3 ∧ x_3 ≤ 18446744073709551615) ∧ (0 ≤ x_4 ∧ x_4 ≤ 18446744073709551615) := by
  obtain ⟨c, h1, rfl⟩ := h
  obtain ⟨x_0, x_1, x_2, x_3, x_4, rfl, hx⟩ := openC38 (n := 10) h1
  exact ⟨x_0, x_1, x_2, x_3, x_4, by rw [show aggT Try.prog 38 = true by kernel_rfl]; rfl, hx⟩
theorem openC39 {N n : Nat} {c : List AV} (h : TypC Try.prog N (n + 2) 39 c) : ∃ (x_0 : Int) (x_1 : Int) (x_2 : Int) (x_3 : Int) (x_4 : Int), c = [.v (.int .i64 x_0), .v (.int .i64 x_1), .v (.int .i64 x_2), .v (.int .u64 x_3), .v (.int .u64 x_4)] ∧ ((-9223372036854775808) ≤ x_0 ∧ x_0 ≤ 9223372036854775807) ∧ ((-9223372036854775808) ≤ x_1 ∧ x_1 ≤ 9223372036854775807) ∧ ((-9223372036854775808) ≤ x_2 ∧ x_2 ≤ 9223372036854775807) ∧ (0 ≤ x_3 ∧ x_3 ≤ 18446744073709551615) ∧ (0 ≤ x_4 ∧ x_4 ≤ 18446744073709551615) := by
  have lx := typC_st (ts := [3, 3, 3, 31, 31]) (by kernel_rfl) h
  obtain ⟨_, _, rfl, hx_0, lx⟩ := lx
  obtain ⟨_, _, rfl, hx_1, lx⟩ := lx
  obtain ⟨_, _, rfl, hx_2, lx⟩ := lx
  obtain ⟨_, _, rfl, hx_3, lx⟩ := lx
  obtain ⟨_, _, rfl, hx_4, lx⟩ := lx
  cases lx
  obtain ⟨x_0, rfl, fx_0⟩ := typC_int (k := IntKind.i64) (by kernel_rfl) hx_0
  obtain ⟨x_1, rfl, fx_1⟩ := typC_int (k := IntKind.i64) (by kernel_rfl) hx_1
  obtain ⟨x_2, rfl, fx_2⟩ := typC_int (k := IntKind.i64) (by kernel_rfl) hx_2
  obtain ⟨x_3, rfl, fx_3⟩ := typC_int (k := IntKind.u64) (by kernel_rfl) hx_3
  obtain ⟨x_4, rfl, fx_4⟩ := typC_int (k := IntKind.u64) (by kernel_rfl) hx_4
  exact ⟨x_0, x_1, x_2, x_3, x_4, rfl, (lim_i64 fx_0), (lim_i64 fx_1), (lim_i64 fx_2), (lim_u64 fx_3), (lim_u64 fx_4)⟩
theorem openV39 {N : Nat} {a : AV} (h : TypV Try.prog N 39 a) : ∃ (x_0 : Int) (x_1 : Int) (x_2 : Int) (x_3 : Int) (x_4 : Int), a = .agg [.v (.int .i64 x_0), .v (.int .i64 x_1), .v (.int .i64 x_2), .v (.int .u64 x_3), .v (.int .u64 x_4)] ∧ ((-9223372036854775808) ≤ x_0 ∧ x_0 ≤ 9223372036854775807) ∧ ((-9223372036854775808) ≤ x_1 ∧ x_1 ≤ 9223372036854775807) ∧ ((-9223372036854775808) ≤ x_2 ∧ x_2 ≤ 9223372036854775807) ∧ (0 ≤ x_3 ∧ x_3 ≤ 18446744073709551615) ∧ (0 ≤ x_4 ∧ x_4 ≤ 18446744073709551615) := by
  obtain ⟨c, h1, rfl⟩ := h
  obtain ⟨x_0, x_1, x_2, x_3, x_4, rfl, hx⟩ := openC39 (n := 10) h1
  exact ⟨x_0, x_1, x_2, x_3, x_4, by rw [show aggT Try.prog 39 = true by kernel_rfl]; rfl, hx⟩
theorem openC5 {N n : Nat} {c : List AV} (h : TypC Try.prog N (n + 1) 5 c) : ∃ (x : Int), c = [.v (.int .u8 x)] ∧ (0 ≤ x ∧ x ≤ 255) := by
  obtain ⟨x, rfl, fx⟩ := typC_int (k := IntKind.u8) (by kernel_rfl) h
  exact ⟨x, rfl, (lim_u8 fx)⟩
theorem openV5 {N : Nat} {a : AV} (h : TypV Try.prog N 5 a) : ∃ (x : Int), a = .v (.int .u8 x) ∧ (0 ≤ x ∧ x ≤ 255) := by
  obtain ⟨c, h1, rfl⟩ := h
  obtain ⟨x, rfl, hx⟩ := openC5 (n := 11) h1
  exact ⟨x, by rw [show aggT Try.prog 5 = false by kernel_rfl]; rfl, hx⟩
theorem openC50 {N n : Nat} {c : List AV} (h : TypC Try.prog N (n + 1) 50 c) : ∃ (xn : Bool) (x : List (List AV)), c = [.lst xn 1 x] ∧ ((xn = true → x = []) ∧ x.length ≤ N ∧ ∀ y ∈ x, TypC Try.prog N n 5 y) := by
  obtain ⟨xn, x, rfl, fx⟩ := typC_slice (e := 5) (by kernel_rfl) h
  exact ⟨xn, x, rfl, fx⟩
theorem openV50 {N : Nat} {a : AV} (h : TypV Try.prog N 50 a) : ∃ (xn : Bool) (x : List (List AV)), a = .lst xn 1 x ∧ ((xn = true → x = []) ∧ x.length ≤ N ∧ ∀ y ∈ x, TypC Try.prog N 11 5 y) := by
  obtain ⟨c, h1, rfl⟩ := h
  obtain ⟨xn, x, rfl, hx⟩ := openC50 (n := 11) h1
  exact ⟨xn, x, by rw [show aggT Try.prog 50 = false by kernel_rfl]; rfl, hx⟩
end Go.Proofs.Ytokagdgcfmjlnaa
