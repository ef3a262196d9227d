/- Arguments by their types: pages and steps. -/
import Derived.Test.YtjbpbidlcegopaaDoorTy
set_option linter.all false
namespace Go.Proofs.YtjbpbidlcegopaaDoor
open Go.Ev
set_option maxRecDepth 100000
set_option maxHeartbeats 0
theorem openC42 {N n : Nat} {c : List AV} (h : TypC Tryd.prog N (n + 3) 42 c) : ∃ (x_0 : Int) (x_1 : Int) (x_2_0 : Int) (x_2_1 : Int) (x_2_2 : Int) (x_2_3 : Int) (x_2_4 : Int) (x_2_5 : Int) (x_2_6 : Int), c = [.v (.int .i64 x_0), .v (.int .u64 x_1), .v (.int .u64 x_2_0), .v (.int .u64 x_2_1), .v (.int .u64 x_2_2), .v (.int .u64 x_2_3), .v (.int .u64 x_2_4), .v (.int .u64 x_2_5), .v (.int .u64 x_2_6)] ∧ ((-9223372036854775808) ≤ x_0 ∧ x_0 ≤ 9223372036854775807) ∧ (0 ≤ x_1 ∧ x_1 ≤ 18446744073709551615) ∧ (0 ≤ x_2_0 ∧ x_2_0 ≤ 18446744073709551615) ∧ (0 ≤ x_2_1 ∧ x_2_1 ≤ 18446744073709551615) ∧ (0 ≤ x_2_2 ∧ x_2_2 ≤ 18446744073709551615) ∧ (0 ≤ x_2_3 ∧ x_2_3 ≤ 18446744073709551615) ∧ (0 ≤ x_2_4 ∧ x_2_4 ≤ 18446744073709551615) ∧ (0 ≤ x_2_5 ∧ x_2_5 ≤ 18446744073709551615) ∧ (0 ≤ x_2_6 ∧ x_2_6 ≤ 18446744073709551615) := by
  have lx := typC_st (ts := [3, 39, 40]) (by kernel_rfl) h
  obtain ⟨_, _, rfl, hx_0, lx⟩ := lx
  obtain ⟨_, _, rfl, hx_1, lx⟩ := lx
  obtain ⟨_, _, rfl, hx_2, lx⟩ := lx
  cases lx
  obtain ⟨x_0, rfl, fx_0⟩ := typC_int (k := IntKind.i64) (by kernel_rfl) hx_0
  obtain ⟨x_1, rfl, fx_1⟩ := typC_int (k := IntKind.u64) (by kernel_rfl) hx_1
  have lx_2 := typC_ar (ts := [39, 39, 39, 39, 39, 39, 39]) (by kernel_rfl) hx_2
  obtain ⟨_, _, rfl, hx_2_0, lx_2⟩ := lx_2
  obtain ⟨_, _, rfl, hx_2_1, lx_2⟩ := lx_2
  obtain ⟨_, _, rfl, hx_2_2, lx_2⟩ := lx_2
  obtain ⟨_, _, rfl, hx_2_3, lx_2⟩ := lx_2
  obtain ⟨_, _, rfl, hx_2_4, lx_2⟩ := lx_2
  obtain ⟨_, _, rfl, hx_2_5, lx_2⟩ := lx_2
  obtain ⟨_, _, rfl, hx_2_6, lx_2⟩ := lx_2
  cases lx_2
  obtain ⟨x_2_0, rfl, fx_2_0⟩ := typC_int (k := IntKind.u64) (by kernel_rfl) hx_2_0
  obtain ⟨x_2_1, rfl, fx_2_1⟩ := typC_int (k := IntKind.u64) (by kernel_rfl) hx_2_1
  obtain ⟨x_2_2, rfl, fx_2_2⟩ := typC_int (k := IntKind.u64) (by kernel_rfl) hx_2_2
  obtain ⟨x_2_3, rfl, fx_2_3⟩ := typC_int (k := IntKind.u64) (by kernel_rfl) hx_2_3
  obtain ⟨x_2_4, rfl, fx_2_4⟩ := typC_int (k := IntKind.u64) (by kernel_rfl) hx_2_4
  obtain ⟨x_2_5, rfl, fx_2_5⟩ := typC_int (k := IntKind.u64) (by kernel_rfl) hx_2_5
  obtain ⟨x_2_6, rfl, fx_2_6⟩ := typC_int (k := IntKind.u64) (by kernel_rfl) hx_2_6
  exact ⟨x_0, x_1, x_2_0, x_2_1, x_2_2, x_2_3, x_2_4, x_2_5, x_2_6, rfl, (lim_i64 fx_0), (lim_u64 fx_1), (lim_u64 fx_2_0), (lim_u64 fx_2_1), (lim_u64 fx_2_2), (lim_u64 fx_2_3), (lim_u64 fx_2_4), (lim_u64 fx_2_5), (lim_u64 fx_2_6)⟩
theorem openC39 {N n : Nat} {c : List AV} (h : TypC Tryd.prog N (n + 1) 39 c) : ∃ (x : Int), c = [.v (.int .u64 x)] ∧ (0 ≤ x ∧ x ≤ 18446744073709551615) := by
  obtain ⟨x, rfl, fx⟩ := typC_int (k := IntKind.u64) (by kernel_rfl) h
  exact ⟨x, rfl, (lim_u64 fx)⟩
theorem openC35 {N n : Nat} {c : List AV} (h : TypC Tryd.prog N (n + 2) 35 c) : ∃ (x_0 : Int) (x_1n : Bool) (x_1 : List (List AV)) (x_2n : Bool) (x_2 : List (List AV)), c = [.v (.int .i64 x_0), .lst x_1n 1 x_1, .lst x_2n 1 x_2] ∧ ((-9223372036854775808) ≤ x_0 ∧ x_0 ≤ 9223372036854775807) ∧ ((x_1n = true → x_1 = []) ∧ x_1.length ≤ N ∧ ∀ y ∈ x_1, TypC Tryd.prog N n 3 y) ∧ ((x_2n = true → x_2 = []) ∧ x_2.length ≤ N ∧ ∀ y ∈ x_2, TypC Tryd.prog N n 39 y) := by
  have lx := typC_st (ts := [3, 32, 33]) (by kernel_rfl) h
  obtain ⟨_, _, rfl, hx_0, lx⟩ := lx
  obtain ⟨_, _, rfl, hx_1, lx⟩ := lx
  obtain ⟨_, _, rfl, hx_2, lx⟩ := lx
  cases lx
  obtain ⟨x_0, rfl, fx_0⟩ := typC_int (k := IntKind.i64) (by kernel_rfl) hx_0
  obtain ⟨x_1n, x_1, rfl, fx_1⟩ := typC_slice (e := 3) (by kernel_rfl) hx_1
  obtain ⟨x_2n, x_2, rfl, fx_2⟩ := typC_slice (e := 39) (by kernel_rfl) hx_2
  exact ⟨x_0, x_1n, x_1, x_2n, x_2, rfl, (lim_i64 fx_0), fx_1, fx_2⟩
end Go.Proofs.YtjbpbidlcegopaaDoor
