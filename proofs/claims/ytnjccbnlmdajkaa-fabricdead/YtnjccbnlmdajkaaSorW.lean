/- Step of an orphan: the walk. -/
import Derived.Test.YtnjccbnlmdajkaaChsX
set_option linter.all false
namespace Go.Proofs.Ytnjccbnlmdajkaa
open Go.RowKit Go.Shelf Go.Lib Go.Ev
attribute [local go_sem] Oper.semAt_some
set_option maxHeartbeats 1600000 in
set_option maxRecDepth 1000000 in
theorem sor_walk (bf i on oc bo bn nn cnn pb nd nb : Nat) (W : World) (K : World → Prop) (hi : i < on) (hnd : nd < nn) (h3 : W.cell? ⟨bf, 3, none⟩ = some (.slice (some ⟨bo, 0, none⟩) on oc)) (hp : W.cell? ⟨bo, i, none⟩ = some (.pointer (some ⟨pb, 0, none⟩)))
    (h1 : W.drew.cell? ⟨bf, 1, none⟩ = some (.slice (some ⟨bn, 0, none⟩) nn cnn)) (hn : W.drew.cell? ⟨pb, 2, none⟩ = some (.int .i64 nd)) (hb : W.drew.cell? ⟨bn, nd, none⟩ = some (.pointer (some ⟨nb, 0, none⟩)))
    (hst : Calls Try.prog 39 #[.pointer (some ⟨pb, 0, none⟩), .pointer (some ⟨nb, 0, none⟩)] W.drew fun e w' => ∃ (code : Int) (A : Option Addr) (l c : Nat) (cm : Bool) (VA : Option Addr) (vl vc : Nat), e = .returned (.tuple #[.agg #[.int .i64 code, .slice A l c], .bool cm]) ∧ w'.cell? ⟨pb, 3, none⟩ = some (.slice VA vl vc) ∧
      (vl = 0 → Calls Try.prog 25 #[.pointer (some ⟨bf, 0, none⟩), .int .i64 i] w' fun e w'' => e = .returned (.bool true) ∧ K w'') ∧ (0 < vl → K w')) :
    Calls Try.prog 37 #[.pointer (some ⟨bf, 0, none⟩), .int .i64 i] W fun e w' => e = .returned (.bool true) ∧ K w' := by
  have mixed : Try.prog.follows .mixedOrders = true := by kernel_rfl
  have hiI : (i : Int) < (on : Int) := by omega
  have hd1 : ¬ (on ≤ i) := by omega
  have hd2 : ¬ ((on : Int) ≤ (i : Int)) := by omega
  have hndI : (nd : Int) < (nn : Int) := by omega
  have hpn := pnode_walk pb nd W.drew hn
  go_enter Try.func37, Try.ntmps37
  go_wp2
  go_region_with_o (first | (go_at_call 42; refine Calls.mono hpn ?_; rintro e w' ⟨rfl, hw⟩; rw [hw]; clear hw) | (go_at_call 39; refine Calls.mono hst ?_; clear hst; rintro e w' ⟨code, A, l, c, cm, VA, vl, vc, rfl, hv, hz, hK⟩))
  all_goals
    have hpw := pending_walk pb vl vc VA w' hv
    by_cases h0 : vl = 0
    · have hz := hz h0
      have hvb : ((vl : Int) == 0) = true := by simp [h0]
      clear hK
      go_wp2_with (first | (go_at_call 38; refine Calls.mono hpw ?_; clear hpw; rintro e w'' ⟨rfl, hw⟩; rw [hw]; clear hw) | (go_at_call 25; refine Calls.mono hz ?_; clear hz; rintro e w'' ⟨rfl, hK⟩))
      go_ret
      exact ⟨rfl, hK⟩
    · have hK := hK (by omega)
      have hvb : ((vl : Int) == 0) = false := beq_eq_false_iff_ne.2 (by omega)
      clear hz
      go_wp2_with (go_at_call 38; refine Calls.mono hpw ?_; clear hpw; rintro e w'' ⟨rfl, hw⟩; rw [hw]; clear hw)
      go_ret
      exact ⟨rfl, hK⟩
set_option maxHeartbeats 1600000 in
set_option maxRecDepth 1000000 in
theorem step_orw (bf i : Nat) (c n : Int) (W w1 : World) (K : World → Prop) (b : Bool) (e1 : W.alloc (.cells #[.int .i64 i, .int .i64 c, .int .i64 n] 40) = w1) (k0 : w1.cell? ⟨W.heap.size, 0, none⟩ = some (.int .i64 i))
    (h : Calls Try.prog 37 #[.pointer (some ⟨bf, 0, none⟩), .int .i64 i] w1 fun e w' => e = .returned (.bool b) ∧ K w') :
    Calls Try.prog 20 #[.pointer (some ⟨bf, 0, none⟩), .agg #[.int .i64 i, .int .i64 c, .int .i64 n]] W fun e w' => e = .returned (.bool b) ∧ K w' := by
  go_enter Try.func20, Try.ntmps20
  go_wp2_with (go_at_call 37; refine Calls.mono h ?_; clear h; rintro e w' ⟨rfl, hK⟩)
  go_ret
  exact ⟨rfl, hK⟩
end Go.Proofs.Ytnjccbnlmdajkaa
