/- Arguments by their types. -/
import Derived.Test.YtcinngpelbdopaaEq
import Derived.Test.YtcinngpelbdopaaEv10
set_option linter.all false
namespace Go.Proofs.Ytcinngpelbdopaa
open Go.Ev
set_option maxRecDepth 100000
set_option maxHeartbeats 0
theorem openC66 {N n : Nat} {c : List AV} (h : TypC Try.prog N (n + 3) 66 c) : ∃ (x_0 : Int) (x_1_0 : Int) (x_1_1 : Int) (x_1_2 : Int), c = [.v (.int .u32 x_0), .v (.int .i64 x_1_0), .v (.int .i64 x_1_1), .v (.int .i64 x_1_2)] ∧ (0 ≤ x_0 ∧ x_0 ≤ 4294967295) ∧ ((-9223372036854775808) ≤ x_1_0 ∧ x_1_0 ≤ 9223372036854775807) ∧ ((-9223372036854775808) ≤ x_1_1 ∧ x_1_1 ≤ 9223372036854775807) ∧ ((-9223372036854775808) ≤ x_1_2 ∧ x_1_2 ≤ 9223372036854775807) := by
  have lx := typC_st (ts := [40, 41]) (by kernel_rfl) h
  obtain ⟨_, _, rfl, hx_0, lx⟩ := lx
  obtain ⟨_, _, rfl, hx_1, lx⟩ := lx
  cases lx
  obtain ⟨x_0, rfl, fx_0⟩ := typC_int (k := IntKind.u32) (by kernel_rfl) hx_0
  have lx_1 := typC_ar (ts := [2, 2, 2]) (by kernel_rfl) hx_1
  obtain ⟨_, _, rfl, hx_1_0, lx_1⟩ := lx_1
  obtain ⟨_, _, rfl, hx_1_1, lx_1⟩ := lx_1
  obtain ⟨_, _, rfl, hx_1_2, lx_1⟩ := lx_1
  cases lx_1
  obtain ⟨x_1_0, rfl, fx_1_0⟩ := typC_int (k := IntKind.i64) (by kernel_rfl) hx_1_0
  obtain ⟨x_1_1, rfl, fx_1_1⟩ := typC_int (k := IntKind.i64) (by kernel_rfl) hx_1_1
  obtain ⟨x_1_2, rfl, fx_1_2⟩ := typC_int (k := IntKind.i64) (by kernel_rfl) hx_1_2
  exact ⟨x_0, x_1_0, x_1_1, x_1_2, rfl, (lim_u32 fx_0), (lim_i64 fx_1_0), (lim_i64 fx_1_1), (lim_i64 fx_1_2)⟩
theorem openC76 {N n : Nat} {c : List AV} (h : TypC Try.prog N (n + 2) 76 c) : ∃ (x_0n : Bool) (x_0 : List (List AV)) (x_1 : Int), c = [.lst x_0n 4 x_0, .v (.int .i64 x_1)] ∧ ((x_0n = true → x_0 = []) ∧ x_0.length ≤ N ∧ ∀ y ∈ x_0, TypC Try.prog N n 66 y) ∧ ((-9223372036854775808) ≤ x_1 ∧ x_1 ≤ 9223372036854775807) := by
  have lx := typC_st (ts := [74, 2]) (by kernel_rfl) h
  obtain ⟨_, _, rfl, hx_0, lx⟩ := lx
  obtain ⟨_, _, rfl, hx_1, lx⟩ := lx
  cases lx
  obtain ⟨x_0n, x_0, rfl, fx_0⟩ := typC_slice (e := 66) (by kernel_rfl) hx_0
  obtain ⟨x_1, rfl, fx_1⟩ := typC_int (k := IntKind.i64) (by kernel_rfl) hx_1
  exact ⟨x_0n, x_0, x_1, rfl, fx_0, (lim_i64 fx_1)⟩
theorem openC73 {N n : Nat} {c : List AV} (h : TypC Try.prog N (n + 1) 73 c) : ∃ (xn : Bool) (x : List (List AV)), c = [.lst xn 2 x] ∧ ((xn = true → x = []) ∧ x.length ≤ N ∧ ∀ y ∈ x, TypC Try.prog N n 76 y) := by
  obtain ⟨xn, x, rfl, fx⟩ := typC_slice (e := 76) (by kernel_rfl) h
  exact ⟨xn, x, rfl, fx⟩
theorem openV73 {N : Nat} {a : AV} (h : TypV Try.prog N 73 a) : ∃ (xn : Bool) (x : List (List AV)), a = .lst xn 2 x ∧ ((xn = true → x = []) ∧ x.length ≤ N ∧ ∀ y ∈ x, TypC Try.prog N 11 76 y) := by
  obtain ⟨c, h1, rfl⟩ := h
  obtain ⟨xn, x, rfl, hx⟩ := openC73 (n := 11) h1
  exact ⟨xn, x, by rw [show aggT Try.prog 73 = false by kernel_rfl]; rfl, hx⟩
theorem openC3 {N n : Nat} {c : List AV} (h : TypC Try.prog N (n + 1) 3 c) : ∃ (x : Int), c = [.v (.int .i64 x)] ∧ ((-9223372036854775808) ≤ x ∧ x ≤ 9223372036854775807) := by
  obtain ⟨x, rfl, fx⟩ := typC_int (k := IntKind.i64) (by kernel_rfl) h
  exact ⟨x, rfl, (lim_i64 fx)⟩
theorem openV3 {N : Nat} {a : AV} (h : TypV Try.prog N 3 a) : ∃ (x : Int), a = .v (.int .i64 x) ∧ ((-9223372036854775808) ≤ x ∧ x ≤ 9223372036854775807) := by
  obtain ⟨c, h1, rfl⟩ := h
  obtain ⟨x, rfl, hx⟩ := openC3 (n := 11) h1
  exact ⟨x, by rw [show aggT Try.prog 3 = false by kernel_rfl]; rfl, hx⟩
end Go.Proofs.Ytcinngpelbdopaa
