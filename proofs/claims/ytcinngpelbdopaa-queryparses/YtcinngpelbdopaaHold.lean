/- Conditions. -/
import Derived.Test.YtcinngpelbdopaaAwake
set_option linter.all false
namespace Go.Proofs.Ytcinngpelbdopaa
open Go.Ev
attribute [local congr] bind_first cond_first
theorem s_Pick (a m : Int) (hm : 0 < m) (hm' : m ≤ 4611686018427387904) : ev 19 [.v (.int .i64 a), .v (.int .i64 m)] = some [.v (.int .i64 (pick a m))] := by
  rw [ev19]
  simp only [ltI_f (show 1 ≤ m by omega), eqI_f (show m ≠ 0 by omega), cond_false, pick_ok hm hm']
theorem eqB_f {a b : Int} (h : a ≠ b) : (a == b) = false := beq_eq_false_iff_ne.2 h
theorem in_dec (n lo hi : Int) : (bif leI lo n then leI n hi else false) = decide (lo ≤ n ∧ n ≤ hi) := by
  unfold leI
  by_cases h : lo ≤ n <;> by_cases h2 : n ≤ hi <;> simp [h, h2]
theorem s_in (n lo hi : Int) : ev 45 [.v (.int .i64 n), .v (.int .i64 lo), .v (.int .i64 hi)] = some [.v (.bool (decide (lo ≤ n ∧ n ≤ hi)))] := by
  rw [ev45, ← in_dec]
  cases leI lo n <;> rfl
end Go.Proofs.Ytcinngpelbdopaa
