/- Arguments by their types. -/
import Derived.Test.YtcinngpelbdopaaEq
import Derived.Test.YtcinngpelbdopaaEv10
set_option linter.all false
namespace Go.Proofs.Ytcinngpelbdopaa
open Go.Ev
set_option maxRecDepth 100000
set_option maxHeartbeats 0
theorem openC52 {N n : Nat} {c : List AV} (h : TypC Try.prog N (n + 2) 52 c) : ∃ (x_0 : Int) (x_1 : Int) (x_2 : Int) (x_3 : Int) (x_4 : Int) (x_5 : Int) (x_6 : Int) (x_7 : Int) (x_8 : Int) (x_9 : Int), c = [.v (.int .i64 x_0), .v (.int .i64 x_1), .v (.int .i64 x_2), .v (.int .i64 x_3), .v (.int .i64 x_4), .v (.int .i64 x_5), .v (.int .i64 x_6), .v (.int .i64 x_7), .v (.int .i64 x_8), .v (.int .i64 x_9)] ∧ ((-9223372036854775808) ≤ x_0 ∧ x_0 ≤ 9223372036854775807) ∧ ((-9223372036854775808) ≤ x_1 ∧ x_1 ≤ 9223372036854775807) ∧ ((-9223372036854775808) ≤ x_2 ∧ x_2 ≤ 9223372036854775807) ∧ ((-9223372036854775808) ≤ x_3 ∧ x_3 ≤ 9223372036854775807) ∧ ((-9223372036854775808) ≤ x_4 ∧ x_4 ≤ 9223372036854775807) ∧ ((-9223372036854775808) ≤ x_5 ∧ x_5 ≤ 9223372036854775807) ∧ ((-9223372036854775808) ≤ x_6 ∧ x_6 ≤ 9223372036854775807) ∧ ((-9223372036854775808) ≤ x_7 ∧ x_7 ≤ 9223372036854775807) ∧ ((-9223372036854775808) ≤ x_8 ∧ x_8 ≤ 9223372036854775807) ∧ ((-9223372036854775808) ≤ x_9 ∧ x_9 ≤ 9223372036854775807) := by
  have lx := typC_st (ts := [3, 3, 3, 3, 3, 3, 3, 3, 3, 3]) (by kernel_rfl) h
  obtain ⟨_, _, rfl, hx_0, lx⟩ := lx
  obtain ⟨_, _, rfl, hx_1, lx⟩ := lx
  obtain ⟨_, _, rfl, hx_2, lx⟩ := lx
  obtain ⟨_, _, rfl, hx_3, lx⟩ := lx
  obtain ⟨_, _, rfl, hx_4, lx⟩ := lx
  obtain ⟨_, _, rfl, hx_5, lx⟩ := lx
  obtain ⟨_, _, rfl, hx_6, lx⟩ := lx
  obtain ⟨_, _, rfl, hx_7, lx⟩ := lx
  obtain ⟨_, _, rfl, hx_8, lx⟩ := lx
  obtain ⟨_, _, rfl, hx_9, lx⟩ := lx
  cases lx
  obtain ⟨x_0, rfl, fx_0⟩ := typC_int (k := IntKind.i64) (by kernel_rfl) hx_0
  obtain ⟨x_1, rfl, fx_1⟩ := typC_int (k := IntKind.i64) (by kernel_rfl) hx_1
  obtain ⟨x_2, rfl, fx_2⟩ := typC_int (k := IntKind.i64) (by kernel_rfl) hx_2
  obtain ⟨x_3, rfl, fx_3⟩ := typC_int (k := IntKind.i64) (by kernel_rfl) hx_3
  obtain ⟨x_4, rfl, fx_4⟩ := typC_int (k := IntKind.i64) (by kernel_rfl) hx_4
  obtain ⟨x_5, rfl, fx_5⟩ := typC_int (k := IntKind.i64) (by kernel_rfl) hx_5
  obtain ⟨x_6, rfl, fx_6⟩ := typC_int (k := IntKind.i64) (by kernel_rfl) hx_6
  obtain ⟨x_7, rfl, fx_7⟩ := typC_int (k := IntKind.i64) (by kernel_rfl) hx_7
  obtain ⟨x_8, rfl, fx_8⟩ := typC_int (k := IntKind.i64) (by kernel_rfl) hx_8
  obtain ⟨x_9, rfl, fx_9⟩ := typC_int (k := IntKind.i64) (by kernel_rfl) hx_9
  exact ⟨x_0, x_1, x_2, x_3, x_4, x_5, x_6, x_7, x_8, x_9, rfl, (lim_i64 fx_0), (lim_i64 fx_1), (lim_i64 fx_2), (lim_i64 fx_3), (lim_i64 fx_4), (lim_i64 fx_5), (lim_i64 fx_6), (lim_i64 fx_7), (lim_i64 fx_8), (lim_i64 fx_9)⟩
theorem openC9 {N n : Nat} {c : List AV} (h : TypC Try.prog N (n + 1) 9 c) : ∃ (x : ByteArray), c = [.v (.string x)] ∧ (x.size ≤ N) := by
  obtain ⟨x, rfl, fx⟩ := typC_string (by kernel_rfl) h
  exact ⟨x, rfl, fx⟩
theorem openV9 {N : Nat} {a : AV} (h : TypV Try.prog N 9 a) : ∃ (x : ByteArray), a = .v (.string x) ∧ (x.size ≤ N) := by
  obtain ⟨c, h1, rfl⟩ := h
  obtain ⟨x, rfl, hx⟩ := openC9 (n := 11) h1
  exact ⟨x, by rw [show aggT Try.prog 9 = false by kernel_rfl]; rfl, hx⟩
theorem openC39 {N n : Nat} {c : List AV} (h : TypC Try.prog N (n + 2) 39 c) : ∃ (x_0 : Int) (x_1 : Int) (x_2 : ByteArray), c = [.v (.int .i64 x_0), .v (.int .i64 x_1), .v (.string x_2)] ∧ ((-9223372036854775808) ≤ x_0 ∧ x_0 ≤ 9223372036854775807) ∧ ((-9223372036854775808) ≤ x_1 ∧ x_1 ≤ 9223372036854775807) ∧ (x_2.size ≤ N) := by
  have lx := typC_st (ts := [3, 3, 9]) (by kernel_rfl) h
  obtain ⟨_, _, rfl, hx_0, lx⟩ := lx
  obtain ⟨_, _, rfl, hx_1, lx⟩ := lx
  obtain ⟨_, _, rfl, hx_2, lx⟩ := lx
  cases lx
  obtain ⟨x_0, rfl, fx_0⟩ := typC_int (k := IntKind.i64) (by kernel_rfl) hx_0
  obtain ⟨x_1, rfl, fx_1⟩ := typC_int (k := IntKind.i64) (by kernel_rfl) hx_1
  obtain ⟨x_2, rfl, fx_2⟩ := typC_string (by kernel_rfl) hx_2
  exact ⟨x_0, x_1, x_2, rfl, (lim_i64 fx_0), (lim_i64 fx_1), fx_2⟩
theorem openC22 {N n : Nat} {c : List AV} (h : TypC Try.prog N (n + 1) 22 c) : ∃ (xn : Bool) (x : List (List AV)), c = [.lst xn 10 x] ∧ ((xn = true → x = []) ∧ x.length ≤ N ∧ ∀ y ∈ x, TypC Try.prog N n 52 y) := by
  obtain ⟨xn, x, rfl, fx⟩ := typC_slice (e := 52) (by kernel_rfl) h
  exact ⟨xn, x, rfl, fx⟩
theorem openV22 {N : Nat} {a : AV} (h : TypV Try.prog N 22 a) : ∃ (xn : Bool) (x : List (List AV)), a = .lst xn 10 x ∧ ((xn = true → x = []) ∧ x.length ≤ N ∧ ∀ y ∈ x, TypC Try.prog N 11 52 y) := by
  obtain ⟨c, h1, rfl⟩ := h
  obtain ⟨xn, x, rfl, hx⟩ := openC22 (n := 11) h1
  exact ⟨xn, x, by rw [show aggT Try.prog 22 = false by kernel_rfl]; rfl, hx⟩
theorem openC37 {N n : Nat} {c : List AV} (h : TypC Try.prog N (n + 1) 37 c) : ∃ (xn : Bool) (x : List (List AV)), c = [.lst xn 3 x] ∧ ((xn = true → x = []) ∧ x.length ≤ N ∧ ∀ y ∈ x, TypC Try.prog N n 39 y) := by
  obtain ⟨xn, x, rfl, fx⟩ := typC_slice (e := 39) (by kernel_rfl) h
  exact ⟨xn, x, rfl, fx⟩
theorem openV37 {N : Nat} {a : AV} (h : TypV Try.prog N 37 a) : ∃ (xn : Bool) (x : List (List AV)), a = .lst xn 3 x ∧ ((xn = true → x = []) ∧ x.length ≤ N ∧ ∀ y ∈ x, TypC Try.prog N 11 39 y) := by
  obtain ⟨c, h1, rfl⟩ := h
  obtain ⟨xn, x, rfl, hx⟩ := openC37 (n := 11) h1
  exact ⟨xn, x, by rw [show aggT Try.prog 37 = false by kernel_rfl]; rfl, hx⟩
end Go.Proofs.Ytcinngpelbdopaa
