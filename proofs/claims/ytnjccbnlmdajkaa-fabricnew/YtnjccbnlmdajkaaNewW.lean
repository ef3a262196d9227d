/- FabricNew: the walks. -/
import Derived.Test.YtnjccbnlmdajkaaFabW
set_option linter.all false
namespace Go.Proofs.Ytnjccbnlmdajkaa
open Go.RowKit Go.Shelf Go.Lib Go.Ev
attribute [local go_sem] Oper.semAt_some
def newE (n c l : Int) : Int := if n < 1 ∨ 5 < n ∨ c < 1 ∨ 6 < c then 1 else if l < 1 ∨ 256 < l then 2 else 0
set_option maxHeartbeats 8000000 in
set_option maxRecDepth 1000000 in
theorem newErr_walk (n c l : Int) (w : World) (h : newE n c l ≠ 0) : Calls Try.prog 7 #[.int .i64 n, .int .i64 c, .int .i64 l] w fun e w' => e = .returned (.tuple #[.pointer none, .int .i64 (newE n c l)]) ∧ w' = w := by
  by_cases h1 : n < 1 ∨ 5 < n ∨ c < 1 ∨ 6 < c
  · have he : newE n c l = 1 := if_pos h1
    rw [he]
    clear he h
    by_cases a1 : n < 1
    · clear h1
      go_enter Try.func7, Try.ntmps7
      go_wp2
      exact bodyPost_ret (results_tmp2 rfl _ _ _) rfl ⟨rfl, rfl⟩
    by_cases a2 : 5 < n
    · clear h1
      go_enter Try.func7, Try.ntmps7
      go_wp2
      exact bodyPost_ret (results_tmp2 rfl _ _ _) rfl ⟨rfl, rfl⟩
    by_cases a3 : c < 1
    · clear h1
      go_enter Try.func7, Try.ntmps7
      go_wp2
      exact bodyPost_ret (results_tmp2 rfl _ _ _) rfl ⟨rfl, rfl⟩
    have a4 : 6 < c := by omega
    clear h1
    go_enter Try.func7, Try.ntmps7
    go_wp2
    exact bodyPost_ret (results_tmp2 rfl _ _ _) rfl ⟨rfl, rfl⟩
  · have he : newE n c l = if l < 1 ∨ 256 < l then 2 else 0 := if_neg h1
    rw [he] at h ⊢
    clear he
    have a1 : ¬ n < 1 := fun h => h1 (.inl h)
    have a2 : ¬ 5 < n := fun h => h1 (.inr (.inl h))
    have a3 : ¬ c < 1 := fun h => h1 (.inr (.inr (.inl h)))
    have a4 : ¬ 6 < c := fun h => h1 (.inr (.inr (.inr h)))
    clear h1
    by_cases h2 : l < 1 ∨ 256 < l
    · rw [if_pos h2]
      clear h
      by_cases b1 : l < 1
      · clear h2
        go_enter Try.func7, Try.ntmps7
        go_wp2
        exact bodyPost_ret (results_tmp2 rfl _ _ _) rfl ⟨rfl, rfl⟩
      have b2 : 256 < l := by omega
      clear h2
      go_enter Try.func7, Try.ntmps7
      go_wp2
      exact bodyPost_ret (results_tmp2 rfl _ _ _) rfl ⟨rfl, rfl⟩
    · exact absurd (if_neg h2) h
theorem lines_walk (pn L c : Nat) (A : Option Addr) (W : World) (hL : L ≤ 256) (h : W.cell? ⟨pn, 0, none⟩ = some (.slice A (8 * L) c)) : Calls Try.prog 10 #[.pointer (some ⟨pn, 0, none⟩)] W fun e w' => e = .returned (.int .i64 L) ∧ w' = W := by
  have hq : wrap64 ((((8 * L : Nat) : Int)).tdiv 8) = (L : Int) := by rw [Int.tdiv_eq_ediv_of_nonneg (by omega), w64, w_i64]; omega
  go_enter Try.func10, Try.ntmps10
  go_wp2
  go_ret
  exact ⟨by first | rfl | (simp; done), rfl⟩
theorem up_walk (pn : Nat) (dn : Bool) (W : World) (h : W.cell? ⟨pn, 1, none⟩ = some (.bool dn)) : Calls Try.prog 11 #[.pointer (some ⟨pn, 0, none⟩)] W fun e w' => e = .returned (.bool (!dn)) ∧ w' = W := by
  go_enter Try.func11, Try.ntmps11
  go_wp2
  go_ret
  exact ⟨rfl, rfl⟩
end Go.Proofs.Ytnjccbnlmdajkaa
