/- Small functions of a fabric: the walks. -/
import Derived.Test.YtnjccbnlmdajkaaStpW
set_option linter.all false
namespace Go.Proofs.Ytnjccbnlmdajkaa
open Go.RowKit Go.Shelf Go.Lib Go.Ev
attribute [local go_sem] Oper.semAt_some
attribute [local go_sem] neq_nil neq_some eql_some eql_nil
theorem alive_walk {cc : Nat} (bf bc ci nc : Nat) (b : Bool) (W : World) (hci : ci < nc) (h : W.cell? ⟨bf, 2, none⟩ = some (.slice (some ⟨bc, 0, none⟩) nc cc)) (hal : W.cell? ⟨bc, ci * 7, none⟩ = some (.bool b)) : Calls Try.prog 15 #[.pointer (some ⟨bf, 0, none⟩), .int .i64 ci] W fun e w' => e = .returned (.bool b) ∧ w' = W := by
  have hcw := client_walk bf bc ci nc W hci h
  go_enter Try.func15, Try.ntmps15
  go_wp2_with (go_at_call 33; refine Calls.mono hcw ?_; clear hcw; rintro e w' ⟨rfl, hw⟩; rw [hw]; clear hw)
  go_ret
  exact ⟨rfl, rfl⟩
end Go.Proofs.Ytnjccbnlmdajkaa
