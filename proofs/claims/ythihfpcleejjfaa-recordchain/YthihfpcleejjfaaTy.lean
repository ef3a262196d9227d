/- Arguments by their types. -/
import Derived.Test.YthihfpcleejjfaaEq
import Derived.Test.YthihfpcleejjfaaEv42
set_option linter.all false
set_option maxRecDepth 100000
set_option maxHeartbeats 0
namespace Go.Proofs.Ythihfpcleejjfaa
open Go.Ev
theorem openC3 {N n : Nat} {c : List AV} (h : TypC Try.prog N (n + 1) 3 c) : ∃ (x : Int), c = [.v (.int .i64 x)] ∧ ((-9223372036854775808) ≤ x ∧ x ≤ 9223372036854775807) := by
  obtain ⟨x, rfl, fx⟩ := typC_int (k := IntKind.i64) (by kernel_rfl) h
  exact ⟨x, rfl, (lim_i64 fx)⟩
theorem openV3 {N : Nat} {a : AV} (h : TypV Try.prog N 3 a) : ∃ (x : Int), a = .v (.int .i64 x) ∧ ((-9223372036854775808) ≤ x ∧ x ≤ 9223372036854775807) := by
  obtain ⟨c, h1, rfl⟩ := h
  obtain ⟨x, rfl, hx⟩ := openC3 (n := 11) h1
  exact ⟨x, by rw [show aggT Try.prog 3 = false by kernel_rfl]; rfl, hx⟩
theorem openC4 {N n : Nat} {c : List AV} (h : TypC Try.prog N (n + 1) 4 c) : ∃ (x : Bool), c = [.v (.bool x)] ∧ (True) := by
  obtain ⟨x, rfl⟩ := typC_bool (by kernel_rfl) h
  exact ⟨x, rfl, trivial⟩
theorem openV4 {N : Nat} {a : AV} (h : TypV Try.prog N 4 a) : ∃ (x : Bool), a = .v (.bool x) ∧ (True) := by
  obtain ⟨c, h1, rfl⟩ := h
  obtain ⟨x, rfl, hx⟩ := openC4 (n := 11) h1
  exact ⟨x, by rw [show aggT Try.prog 4 = false by kernel_rfl]; rfl, hx⟩
theorem openC22 {N n : Nat} {c : List AV} (h : TypC Try.prog N (n + 1) 22 c) : ∃ (x : Int), c = [.v (.int .u64 x)] ∧ (0 ≤ x ∧ x ≤ 18446744073709551615) := by
  obtain ⟨x, rfl, fx⟩ := typC_int (k := IntKind.u64) (by kernel_rfl) h
  exact ⟨x, rfl, (lim_u64 fx)⟩
theorem openV22 {N : Nat} {a : AV} (h : TypV Try.prog N 22 a) : ∃ (x : Int), a = .v (.int .u64 x) ∧ (0 ≤ x ∧ x ≤ 18446744073709551615) := by
  obtain ⟨c, h1, rfl⟩ := h
  obtain ⟨x, rfl, hx⟩ := openC22 (n := 11) h1
  exact ⟨x, by rw [show aggT Try.prog 22 = false by kernel_rfl]; rfl, hx⟩
theorem openC34 {N n : Nat} {c : List AV} (h : TypC Try.prog N (n + 3) 34 c) : ∃ (x_0 : Int) (x_1 : Int) (x_2_0 : Int) (x_2_1 : Int) (x_2_2 : Int) (x_2_3 : Int) (x_2_4 : Int) (x_2_5 : Int) (x_2_6 : Int), c = [.v (.int .i64 x_0), .v (.int .u64 x_1), .v (.int .u64 x_2_0), .v (.int .u64 x_2_1), .v (.int .u64 x_2_2), .v (.int .u64 x_2_3), .v (.int .u64 x_2_4), .v (.int .u64 x_2_5), .v (.int .u64 x_2_6)] ∧ ((-9223372036854775808) ≤ x_0 ∧ x_0 ≤ 9223372036854775807) ∧ (0 ≤ x_1 ∧ x_1 ≤ 18446744073709551615) ∧ (0 ≤ x_2_0 ∧ x_2_0 ≤ 18446744073709551615) ∧ (0 ≤ x_2_1 ∧ x_2_1 ≤ 18446744073709551615) ∧ (0 ≤ x_2_2 ∧ x_2_2 ≤ 18446744073709551615) ∧ (0 ≤ x_2_3 ∧ x_2_3 ≤ 18446744073709551615) ∧ (0 ≤ x_2_4 ∧ x_2_4 ≤ 18446744073709551615) ∧ (0 ≤ x_2_5 ∧ x_2_5 ≤ 18446744073709551615) ∧ (0 ≤ x_2_6 ∧ x_2_6 ≤ 18446744073709551615) := by
  have lx := typC_st (ts := [3, 22, 32]) (by kernel_rfl) h
  obtain ⟨_, _, rfl, hx_0, lx⟩ := lx
  obtain ⟨_, _, rfl, hx_1, lx⟩ := lx
  obtain ⟨_, _, rfl, hx_2, lx⟩ := lx
  cases lx
  obtain ⟨x_0, rfl, fx_0⟩ := typC_int (k := IntKind.i64) (by kernel_rfl) hx_0
  obtain ⟨x_1, rfl, fx_1⟩ := typC_int (k := IntKind.u64) (by kernel_rfl) hx_1
  have lx_2 := typC_ar (ts := [22, 22, 22, 22, 22, 22, 22]) (by kernel_rfl) hx_2
  obtain ⟨_, _, rfl, hx_2_0, lx_2⟩ := lx_2
  obtain ⟨_, _, rfl, hx_2_1, lx_2⟩ := lx_2
  obtain ⟨_, _, rfl, hx_2_2, lx_2⟩ := lx_2
  obtain ⟨_, _, rfl, hx_2_3, lx_2⟩ := lx_2
  obtain ⟨_, _, rfl, hx_2_4, lx_2⟩ := lx_2
  obtain ⟨_, _, rfl, hx_2_5, lx_2⟩ := lx_2
  obtain ⟨_, _, rfl, hx_2_6, lx_2⟩ := lx_2
  cases lx_2
  obtain ⟨x_2_0, rfl, fx_2_0⟩ := typC_int (k := IntKind.u64) (by kernel_rfl) hx_2_0
  obtain ⟨x_2_1, rfl, fx_2_1⟩ := typC_int (k := IntKind.u64) (by kernel_rfl) hx_2_1
  obtain ⟨x_2_2, rfl, fx_2_2⟩ := typC_int (k := IntKind.u64) (by kernel_rfl) hx_2_2
  obtain ⟨x_2_3, rfl, fx_2_3⟩ := typC_int (k := IntKind.u64) (by kernel_rfl) hx_2_3
  obtain ⟨x_2_4, rfl, fx_2_4⟩ := typC_int (k := IntKind.u64) (by kernel_rfl) hx_2_4
  obtain ⟨x_2_5, rfl, fx_2_5⟩ := typC_int (k := IntKind.u64) (by kernel_rfl) hx_2_5
  obtain ⟨x_2_6, rfl, fx_2_6⟩ := typC_int (k := IntKind.u64) (by kernel_rfl) hx_2_6
  exact ⟨x_0, x_1, x_2_0, x_2_1, x_2_2, x_2_3, x_2_4, x_2_5, x_2_6, rfl, (lim_i64 fx_0), (lim_u64 fx_1), (lim_u64 fx_2_0), (lim_u64 fx_2_1), (lim_u64 fx_2_2), (lim_u64 fx_2_3), (lim_u64 fx_2_4), (lim_u64 fx_2_5), (lim_u64 fx_2_6)⟩
theorem openV34 {N : Nat} {a : AV} (h : TypV Try.prog N 34 a) : ∃ (x_0 : Int) (x_1 : Int) (x_2_0 : Int) (x_2_1 : Int) (x_2_2 : Int) (x_2_3 : Int) (x_2_4 : Int) (x_2_5 : Int) (x_2_6 : Int), a = .agg [.v (.int .i64 x_0), .v (.int .u64 x_1), .v (.int .u64 x_2_0), .v (.int .u64 x_2_1), .v (.int .u64 x_2_2), .v (.int .u64 x_2_3), .v (.int .u64 x_2_4), .v (.int .u64 x_2_5), .v (.int .u64 x_2_6)] ∧ ((-9223372036854775808) ≤ x_0 ∧ x_0 ≤ 9223372036854775807) ∧ (0 ≤ x_1 ∧ x_1 ≤ 18446744073709551615) ∧ (0 ≤ x_2_0 ∧ x_2_0 ≤ 18446744073709551615) ∧ (0 ≤ x_2_1 ∧ x_2_1 ≤ 18446744073709551615) ∧ (0 ≤ x_2_2 ∧ x_2_2 ≤ 18446744073709551615) ∧ (0 ≤ x_2_3 ∧ x_2_3 ≤ 18446744073709551615) ∧ (0 ≤ x_2_4 ∧ x_2_4 ≤ 18446744073709551615) ∧ (0 ≤ x_2_5 ∧ x_2_5 ≤ 18446744073709551615) ∧ (0 ≤ x_2_6 ∧ x_2_6 ≤ 18446744073709551615) := by
  obtain ⟨c, h1, rfl⟩ := h
  obtain ⟨x_0, x_1, x_2_0, x_2_1, x_2_2, x_2_3, x_2_4, x_2_5, x_2_6, rfl, hx⟩ := openC34 (n := 9) h1
  exact ⟨x_0, x_1, x_2_0, x_2_1, x_2_2, x_2_3, x_2_4, x_2_5, x_2_6, by rw [show aggT Try.prog 34 = true by kernel_rfl]; rfl, hx⟩
theorem openC36 {N n : Nat} {c : List AV} (h : TypC Try.prog N (n + 2) 36 c) : ∃ (x_0 : Int) (x_1 : Int) (x_2 : Int), c = [.v (.int .i64 x_0), .v (.int .i64 x_1), .v (.int .i64 x_2)] ∧ ((-9223372036854775808) ≤ x_0 ∧ x_0 ≤ 9223372036854775807) ∧ ((-9223372036854775808) ≤ x_1 ∧ x_1 ≤ 9223372036854775807) ∧ ((-9223372036854775808) ≤ x_2 ∧ x_2 ≤ 9223372036854775807) := by
  have lx := typC_ar (ts := [2, 2, 2]) (by kernel_rfl) h
  obtain ⟨_, _, rfl, hx_0, lx⟩ := lx
  obtain ⟨_, _, rfl, hx_1, lx⟩ := lx
  obtain ⟨_, _, rfl, hx_2, lx⟩ := lx
  cases lx
  obtain ⟨x_0, rfl, fx_0⟩ := typC_int (k := IntKind.i64) (by kernel_rfl) hx_0
  obtain ⟨x_1, rfl, fx_1⟩ := typC_int (k := IntKind.i64) (by kernel_rfl) hx_1
  obtain ⟨x_2, rfl, fx_2⟩ := typC_int (k := IntKind.i64) (by kernel_rfl) hx_2
  exact ⟨x_0, x_1, x_2, rfl, (lim_i64 fx_0), (lim_i64 fx_1), (lim_i64 fx_2)⟩
theorem openV36 {N : Nat} {a : AV} (h : TypV Try.prog N 36 a) : ∃ (x_0 : Int) (x_1 : Int) (x_2 : Int), a = .agg [.v (.int .i64 x_0), .v (.int .i64 x_1), .v (.int .i64 x_2)] ∧ ((-9223372036854775808) ≤ x_0 ∧ x_0 ≤ 9223372036854775807) ∧ ((-9223372036854775808) ≤ x_1 ∧ x_1 ≤ 9223372036854775807) ∧ ((-9223372036854775808) ≤ x_2 ∧ x_2 ≤ 9223372036854775807) := by
  obtain ⟨c, h1, rfl⟩ := h
  obtain ⟨x_0, x_1, x_2, rfl, hx⟩ := openC36 (n := 10) h1
  exact ⟨x_0, x_1, x_2, by rw [show aggT Try.prog 36 = true by kernel_rfl]; rfl, hx⟩
theorem openC42 {N n : Nat} {c : List AV} (h : TypC Try.prog N (n + 4) 42 c) : ∃ (x_0_0 : Int) (x_0_1_0 : Int) (x_0_1_1 : Int) (x_0_1_2 : Int) (x_1 : Bool) (x_2 : Int) (x_3 : Int) (x_4_0 : Int) (x_4_1 : Int), c = [.v (.int .u32 x_0_0), .v (.int .i64 x_0_1_0), .v (.int .i64 x_0_1_1), .v (.int .i64 x_0_1_2), .v (.bool x_1), .v (.int .u32 x_2), .v (.int .u64 x_3), .v (.int .i64 x_4_0), .v (.int .i64 x_4_1)] ∧ (0 ≤ x_0_0 ∧ x_0_0 ≤ 4294967295) ∧ ((-9223372036854775808) ≤ x_0_1_0 ∧ x_0_1_0 ≤ 9223372036854775807) ∧ ((-9223372036854775808) ≤ x_0_1_1 ∧ x_0_1_1 ≤ 9223372036854775807) ∧ ((-9223372036854775808) ≤ x_0_1_2 ∧ x_0_1_2 ≤ 9223372036854775807) ∧ (True) ∧ (0 ≤ x_2 ∧ x_2 ≤ 4294967295) ∧ (0 ≤ x_3 ∧ x_3 ≤ 18446744073709551615) ∧ ((-9223372036854775808) ≤ x_4_0 ∧ x_4_0 ≤ 9223372036854775807) ∧ ((-9223372036854775808) ≤ x_4_1 ∧ x_4_1 ≤ 9223372036854775807) := by
  have lx := typC_st (ts := [38, 4, 35, 22, 40]) (by kernel_rfl) h
  obtain ⟨_, _, rfl, hx_0, lx⟩ := lx
  obtain ⟨_, _, rfl, hx_1, lx⟩ := lx
  obtain ⟨_, _, rfl, hx_2, lx⟩ := lx
  obtain ⟨_, _, rfl, hx_3, lx⟩ := lx
  obtain ⟨_, _, rfl, hx_4, lx⟩ := lx
  cases lx
  have lx_0 := typC_st (ts := [35, 36]) (by kernel_rfl) hx_0
  obtain ⟨_, _, rfl, hx_0_0, lx_0⟩ := lx_0
  obtain ⟨_, _, rfl, hx_0_1, lx_0⟩ := lx_0
  cases lx_0
  obtain ⟨x_0_0, rfl, fx_0_0⟩ := typC_int (k := IntKind.u32) (by kernel_rfl) hx_0_0
  have lx_0_1 := typC_ar (ts := [2, 2, 2]) (by kernel_rfl) hx_0_1
  obtain ⟨_, _, rfl, hx_0_1_0, lx_0_1⟩ := lx_0_1
  obtain ⟨_, _, rfl, hx_0_1_1, lx_0_1⟩ := lx_0_1
  obtain ⟨_, _, rfl, hx_0_1_2, lx_0_1⟩ := lx_0_1
  cases lx_0_1
  obtain ⟨x_0_1_0, rfl, fx_0_1_0⟩ := typC_int (k := IntKind.i64) (by kernel_rfl) hx_0_1_0
  obtain ⟨x_0_1_1, rfl, fx_0_1_1⟩ := typC_int (k := IntKind.i64) (by kernel_rfl) hx_0_1_1
  obtain ⟨x_0_1_2, rfl, fx_0_1_2⟩ := typC_int (k := IntKind.i64) (by kernel_rfl) hx_0_1_2
  obtain ⟨x_1, rfl⟩ := typC_bool (by kernel_rfl) hx_1
  obtain ⟨x_2, rfl, fx_2⟩ := typC_int (k := IntKind.u32) (by kernel_rfl) hx_2
  obtain ⟨x_3, rfl, fx_3⟩ := typC_int (k := IntKind.u64) (by kernel_rfl) hx_3
  have lx_4 := typC_st (ts := [3, 3]) (by kernel_rfl) hx_4
  obtain ⟨_, _, rfl, hx_4_0, lx_4⟩ := lx_4
  obtain ⟨_, _, rfl, hx_4_1, lx_4⟩ := lx_4
  cases lx_4
  obtain ⟨x_4_0, rfl, fx_4_0⟩ := typC_int (k := IntKind.i64) (by kernel_rfl) hx_4_0
  obtain ⟨x_4_1, rfl, fx_4_1⟩ := typC_int (k := IntKind.i64) (by kernel_rfl) hx_4_1
  exact ⟨x_0_0, x_0_1_0, x_0_1_1, x_0_1_2, x_1, x_2, x_3, x_4_0, x_4_1, rfl, (lim_u32 fx_0_0), (lim_i64 fx_0_1_0), (lim_i64 fx_0_1_1), (lim_i64 fx_0_1_2), trivial, (lim_u32 fx_2), (lim_u64 fx_3), (lim_i64 fx_4_0), (lim_i64 fx_4_1)⟩
theorem openV42 {N : Nat} {a : AV} (h : TypV Try.prog N 42 a) : ∃ (x_0_0 : Int) (x_0_1_0 : Int) (x_0_1_1 : Int) (x_0_1_2 : Int) (x_1 : Bool) (x_2 : Int) (x_3 : Int) (x_4_0 : Int) (x_4_1 : Int), a = .agg [.v (.int .u32 x_0_0), .v (.int .i64 x_0_1_0), .v (.int .i64 x_0_1_1), .v (.int .i64 x_0_1_2), .v (.bool x_1), .v (.int .u32 x_2), .v (.int .u64 x_3), .v (.int .i64 x_4_0), .v (.int .i64 x_4_1)] ∧ (0 ≤ x_0_0 ∧ x_0_0 ≤ 4294967295) ∧ ((-9223372036854775808) ≤ x_0_1_0 ∧ x_0_1_0 ≤ 9223372036854775807) ∧ ((-9223372036854775808) ≤ x_0_1_1 ∧ x_0_1_1 ≤ 9223372036854775807) ∧ ((-9223372036854775808) ≤ x_0_1_2 ∧ x_0_1_2 ≤ 9223372036854775807) ∧ (True) ∧ (0 ≤ x_2 ∧ x_2 ≤ 4294967295) ∧ (0 ≤ x_3 ∧ x_3 ≤ 18446744073709551615) ∧ ((-9223372036854775808) ≤ x_4_0 ∧ x_4_0 ≤ 9223372036854775807) ∧ ((-9223372036854775808) ≤ x_4_1 ∧ x_4_1 ≤ 9223372036854775807) := by
  obtain ⟨c, h1, rfl⟩ := h
  obtain ⟨x_0_0, x_0_1_0, x_0_1_1, x_0_1_2, x_1, x_2, x_3, x_4_0, x_4_1, rfl, hx⟩ := openC42 (n := 8) h1
  exact ⟨x_0_0, x_0_1_0, x_0_1_1, x_0_1_2, x_1, x_2, x_3, x_4_0, x_4_1, by rw [show aggT Try.prog 42 = true by kernel_rfl]; rfl, hx⟩
theorem openC73 {N n : Nat} {c : List AV} (h : TypC Try.prog N (n + 1) 73 c) : ∃ (xn : Bool) (x : List (List AV)), c = [.lst xn 3 x] ∧ ((xn = true → x = []) ∧ x.length ≤ N ∧ ∀ y ∈ x, TypC Try.prog N n 36 y) := by
  obtain ⟨xn, x, rfl, fx⟩ := typC_slice (e := 36) (by kernel_rfl) h
  exact ⟨xn, x, rfl, fx⟩
theorem openV73 {N : Nat} {a : AV} (h : TypV Try.prog N 73 a) : ∃ (xn : Bool) (x : List (List AV)), a = .lst xn 3 x ∧ ((xn = true → x = []) ∧ x.length ≤ N ∧ ∀ y ∈ x, TypC Try.prog N 11 36 y) := by
  obtain ⟨c, h1, rfl⟩ := h
  obtain ⟨xn, x, rfl, hx⟩ := openC73 (n := 11) h1
  exact ⟨xn, x, by rw [show aggT Try.prog 73 = false by kernel_rfl]; rfl, hx⟩
theorem openC74 {N n : Nat} {c : List AV} (h : TypC Try.prog N (n + 1) 74 c) : ∃ (xn : Bool) (x : List (List AV)), c = [.lst xn 1 x] ∧ ((xn = true → x = []) ∧ x.length ≤ N ∧ ∀ y ∈ x, TypC Try.prog N n 4 y) := by
  obtain ⟨xn, x, rfl, fx⟩ := typC_slice (e := 4) (by kernel_rfl) h
  exact ⟨xn, x, rfl, fx⟩
theorem openV74 {N : Nat} {a : AV} (h : TypV Try.prog N 74 a) : ∃ (xn : Bool) (x : List (List AV)), a = .lst xn 1 x ∧ ((xn = true → x = []) ∧ x.length ≤ N ∧ ∀ y ∈ x, TypC Try.prog N 11 4 y) := by
  obtain ⟨c, h1, rfl⟩ := h
  obtain ⟨xn, x, rfl, hx⟩ := openC74 (n := 11) h1
  exact ⟨xn, x, by rw [show aggT Try.prog 74 = false by kernel_rfl]; rfl, hx⟩
end Go.Proofs.Ythihfpcleejjfaa
