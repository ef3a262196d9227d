/- Arguments by their types. -/
import Derived.Test.YtjbpbidlcegopaaDoorEq
import Derived.Test.YtjbpbidlcegopaaDoorEv10
set_option linter.all false
namespace Go.Proofs.YtjbpbidlcegopaaDoor
open Go.Ev
set_option maxRecDepth 100000
set_option maxHeartbeats 0
theorem openC24 {N n : Nat} {c : List AV} (h : TypC Tryd.prog N (n + 2) 24 c) : ∃ (x_0 : Int) (x_1n : Bool) (x_1 : List (List AV)), c = [.v (.int .i64 x_0), .lst x_1n 9 x_1] ∧ ((-9223372036854775808) ≤ x_0 ∧ x_0 ≤ 9223372036854775807) ∧ ((x_1n = true → x_1 = []) ∧ x_1.length ≤ N ∧ ∀ y ∈ x_1, TypC Tryd.prog N n 42 y) := by
  have lx := typC_st (ts := [3, 22]) (by kernel_rfl) h
  obtain ⟨_, _, rfl, hx_0, lx⟩ := lx
  obtain ⟨_, _, rfl, hx_1, lx⟩ := lx
  cases lx
  obtain ⟨x_0, rfl, fx_0⟩ := typC_int (k := IntKind.i64) (by kernel_rfl) hx_0
  obtain ⟨x_1n, x_1, rfl, fx_1⟩ := typC_slice (e := 42) (by kernel_rfl) hx_1
  exact ⟨x_0, x_1n, x_1, rfl, (lim_i64 fx_0), fx_1⟩
theorem openV24 {N : Nat} {a : AV} (h : TypV Tryd.prog N 24 a) : ∃ (x_0 : Int) (x_1n : Bool) (x_1 : List (List AV)), a = .agg [.v (.int .i64 x_0), .lst x_1n 9 x_1] ∧ ((-9223372036854775808) ≤ x_0 ∧ x_0 ≤ 9223372036854775807) ∧ ((x_1n = true → x_1 = []) ∧ x_1.length ≤ N ∧ ∀ y ∈ x_1, TypC Tryd.prog N 10 42 y) := by
  obtain ⟨c, h1, rfl⟩ := h
  obtain ⟨x_0, x_1n, x_1, rfl, hx⟩ := openC24 (n := 10) h1
  exact ⟨x_0, x_1n, x_1, by rw [show aggT Tryd.prog 24 = true by kernel_rfl]; rfl, hx⟩
theorem openC25 {N n : Nat} {c : List AV} (h : TypC Tryd.prog N (n + 1) 25 c) : ∃ (xn : Bool) (x : List (List AV)), c = [.lst xn 3 x] ∧ ((xn = true → x = []) ∧ x.length ≤ N ∧ ∀ y ∈ x, TypC Tryd.prog N n 35 y) := by
  obtain ⟨xn, x, rfl, fx⟩ := typC_slice (e := 35) (by kernel_rfl) h
  exact ⟨xn, x, rfl, fx⟩
theorem openV25 {N : Nat} {a : AV} (h : TypV Tryd.prog N 25 a) : ∃ (xn : Bool) (x : List (List AV)), a = .lst xn 3 x ∧ ((xn = true → x = []) ∧ x.length ≤ N ∧ ∀ y ∈ x, TypC Tryd.prog N 11 35 y) := by
  obtain ⟨c, h1, rfl⟩ := h
  obtain ⟨xn, x, rfl, hx⟩ := openC25 (n := 11) h1
  exact ⟨xn, x, by rw [show aggT Tryd.prog 25 = false by kernel_rfl]; rfl, hx⟩
theorem openC3 {N n : Nat} {c : List AV} (h : TypC Tryd.prog N (n + 1) 3 c) : ∃ (x : Int), c = [.v (.int .i64 x)] ∧ ((-9223372036854775808) ≤ x ∧ x ≤ 9223372036854775807) := by
  obtain ⟨x, rfl, fx⟩ := typC_int (k := IntKind.i64) (by kernel_rfl) h
  exact ⟨x, rfl, (lim_i64 fx)⟩
theorem openV3 {N : Nat} {a : AV} (h : TypV Tryd.prog N 3 a) : ∃ (x : Int), a = .v (.int .i64 x) ∧ ((-9223372036854775808) ≤ x ∧ x ≤ 9223372036854775807) := by
  obtain ⟨c, h1, rfl⟩ := h
  obtain ⟨x, rfl, hx⟩ := openC3 (n := 11) h1
  exact ⟨x, by rw [show aggT Tryd.prog 3 = false by kernel_rfl]; rfl, hx⟩
theorem openC4 {N n : Nat} {c : List AV} (h : TypC Tryd.prog N (n + 1) 4 c) : ∃ (x : Bool), c = [.v (.bool x)] ∧ (True) := by
  obtain ⟨x, rfl⟩ := typC_bool (by kernel_rfl) h
  exact ⟨x, rfl, trivial⟩
theorem openV4 {N : Nat} {a : AV} (h : TypV Tryd.prog N 4 a) : ∃ (x : Bool), a = .v (.bool x) ∧ (True) := by
  obtain ⟨c, h1, rfl⟩ := h
  obtain ⟨x, rfl, hx⟩ := openC4 (n := 11) h1
  exact ⟨x, by rw [show aggT Tryd.prog 4 = false by kernel_rfl]; rfl, hx⟩
end Go.Proofs.YtjbpbidlcegopaaDoor
