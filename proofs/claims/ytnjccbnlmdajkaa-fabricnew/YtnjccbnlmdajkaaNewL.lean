/- FabricNew: the law's walk. -/
import Derived.Test.YtnjccbnlmdajkaaNewW
set_option linter.all false
namespace Go.Proofs.Ytnjccbnlmdajkaa
open Go.RowKit Go.Shelf Go.Lib Go.Ev
attribute [local go_sem] Oper.semAt_some
theorem und28 : Try.prog.underlying 28 = some (.pointer 69) := by kernel_rfl
theorem neq_same (a : Addr) (w : World) : (binOp .neq 28 (.pointer (some a)) (.pointer (some a))).run Try.prog w = .ok (.bool false) w := by
  have h : (Op.equal 28 (.pointer (some a)) (.pointer (some a))).run Try.prog w = .ok true w := by
    simp only [equal_succ]; generalize 9999 = d
    have hs : (Try.prog.info? 69).isSome = true := by kernel_rfl
    have hc : Try.prog.cellsOf 69 = 2 := by kernel_rfl
    simp only [Op.equalIn, Sem.run_bind, run_underlying und28, Result.andThen_ok, run_sizeOf' hs, hc, sameAddr]
    simp
  simp [binOp, h]
attribute [local go_sem] neq_same
def NumsAre (near : Bool) (a b cc n c l : Int) : Prop := if near = true then wrap64 (pick a 8 - 1) = n ∧ wrap64 (pick b 9 - 1) = c ∧ wrap64 (pick cc 300 - 3) = l else a = n ∧ b = c ∧ cc = l
set_option maxHeartbeats 16000000 in
set_option maxRecDepth 1000000 in
theorem lawErr_walk (a b cc : Int) (near : Bool) (n c l : Int) (w : World) (R : World → Prop) (hv : NumsAre near a b cc n c l) (he : newE n c l ≠ 0) (haw : Calls Try.prog 8 #[] w fun e w' => e = .returned (.bool true) ∧ R w') :
    Calls Try.prog 3 #[.int .i64 a, .int .i64 b, .int .i64 cc, .bool near] w fun e w' => e = .returned (.bool true) ∧ R w' := by
  have hnew := newErr_walk n c l w he
  have hp1 := pick_walk a 8 w (by decide) (by decide)
  have hp2 := pick_walk b 9 w (by decide) (by decide)
  have hp3 := pick_walk cc 300 w (by decide) (by decide)
  unfold NumsAre at hv
  cases near with
  | true =>
    rw [if_pos rfl] at hv
    obtain ⟨w1, w2, w3⟩ := hv
    by_cases h1 : n < 1 ∨ 5 < n ∨ c < 1 ∨ 6 < c
    · have hk : newE n c l = 1 := if_pos h1
      rw [hk] at hnew
      clear hk he
      by_cases a1 : n < 1
      · clear h1
        go_enter Try.func3, Try.ntmps3
        go_wp2_with (first | (go_at_call_of 6 (Value.int IntKind.i64 8); refine Calls.mono hp1 ?_; rintro e w' ⟨rfl, hw⟩; rw [hw]; clear hw) | (go_at_call_of 6 (Value.int IntKind.i64 9); refine Calls.mono hp2 ?_; rintro e w' ⟨rfl, hw⟩; rw [hw]; clear hw) | (go_at_call_of 6 (Value.int IntKind.i64 300); refine Calls.mono hp3 ?_; rintro e w' ⟨rfl, hw⟩; rw [hw]; clear hw) | (go_at_call 7; refine Calls.mono hnew ?_; rintro e w' ⟨rfl, hw⟩; rw [hw]; clear hw) | (go_at_call 8; refine Calls.mono haw ?_; rintro e w' ⟨rfl, hR⟩))
        go_ret
        exact ⟨rfl, hR⟩
      by_cases a2 : 5 < n
      · clear h1
        go_enter Try.func3, Try.ntmps3
        go_wp2_with (first | (go_at_call_of 6 (Value.int IntKind.i64 8); refine Calls.mono hp1 ?_; rintro e w' ⟨rfl, hw⟩; rw [hw]; clear hw) | (go_at_call_of 6 (Value.int IntKind.i64 9); refine Calls.mono hp2 ?_; rintro e w' ⟨rfl, hw⟩; rw [hw]; clear hw) | (go_at_call_of 6 (Value.int IntKind.i64 300); refine Calls.mono hp3 ?_; rintro e w' ⟨rfl, hw⟩; rw [hw]; clear hw) | (go_at_call 7; refine Calls.mono hnew ?_; rintro e w' ⟨rfl, hw⟩; rw [hw]; clear hw) | (go_at_call 8; refine Calls.mono haw ?_; rintro e w' ⟨rfl, hR⟩))
        go_ret
        exact ⟨rfl, hR⟩
      by_cases a3 : c < 1
      · clear h1
        go_enter Try.func3, Try.ntmps3
        go_wp2_with (first | (go_at_call_of 6 (Value.int IntKind.i64 8); refine Calls.mono hp1 ?_; rintro e w' ⟨rfl, hw⟩; rw [hw]; clear hw) | (go_at_call_of 6 (Value.int IntKind.i64 9); refine Calls.mono hp2 ?_; rintro e w' ⟨rfl, hw⟩; rw [hw]; clear hw) | (go_at_call_of 6 (Value.int IntKind.i64 300); refine Calls.mono hp3 ?_; rintro e w' ⟨rfl, hw⟩; rw [hw]; clear hw) | (go_at_call 7; refine Calls.mono hnew ?_; rintro e w' ⟨rfl, hw⟩; rw [hw]; clear hw) | (go_at_call 8; refine Calls.mono haw ?_; rintro e w' ⟨rfl, hR⟩))
        go_ret
        exact ⟨rfl, hR⟩
      have a4 : 6 < c := by omega
      clear h1
      go_enter Try.func3, Try.ntmps3
      go_wp2_with (first | (go_at_call_of 6 (Value.int IntKind.i64 8); refine Calls.mono hp1 ?_; rintro e w' ⟨rfl, hw⟩; rw [hw]; clear hw) | (go_at_call_of 6 (Value.int IntKind.i64 9); refine Calls.mono hp2 ?_; rintro e w' ⟨rfl, hw⟩; rw [hw]; clear hw) | (go_at_call_of 6 (Value.int IntKind.i64 300); refine Calls.mono hp3 ?_; rintro e w' ⟨rfl, hw⟩; rw [hw]; clear hw) | (go_at_call 7; refine Calls.mono hnew ?_; rintro e w' ⟨rfl, hw⟩; rw [hw]; clear hw) | (go_at_call 8; refine Calls.mono haw ?_; rintro e w' ⟨rfl, hR⟩))
      go_ret
      exact ⟨rfl, hR⟩
    · have hk : newE n c l = if l < 1 ∨ 256 < l then 2 else 0 := if_neg h1
      rw [hk] at hnew he
      clear hk
      have a1 : ¬ n < 1 := fun h => h1 (.inl h)
      have a2 : ¬ 5 < n := fun h => h1 (.inr (.inl h))
      have a3 : ¬ c < 1 := fun h => h1 (.inr (.inr (.inl h)))
      have a4 : ¬ 6 < c := fun h => h1 (.inr (.inr (.inr h)))
      clear h1
      by_cases h2 : l < 1 ∨ 256 < l
      · rw [if_pos h2] at hnew
        clear he
        by_cases b1 : l < 1
        · clear h2
          go_enter Try.func3, Try.ntmps3
          go_wp2_with (first | (go_at_call_of 6 (Value.int IntKind.i64 8); refine Calls.mono hp1 ?_; rintro e w' ⟨rfl, hw⟩; rw [hw]; clear hw) | (go_at_call_of 6 (Value.int IntKind.i64 9); refine Calls.mono hp2 ?_; rintro e w' ⟨rfl, hw⟩; rw [hw]; clear hw) | (go_at_call_of 6 (Value.int IntKind.i64 300); refine Calls.mono hp3 ?_; rintro e w' ⟨rfl, hw⟩; rw [hw]; clear hw) | (go_at_call 7; refine Calls.mono hnew ?_; rintro e w' ⟨rfl, hw⟩; rw [hw]; clear hw) | (go_at_call 8; refine Calls.mono haw ?_; rintro e w' ⟨rfl, hR⟩))
          go_ret
          exact ⟨rfl, hR⟩
        have b2 : 256 < l := by omega
        clear h2
        go_enter Try.func3, Try.ntmps3
        go_wp2_with (first | (go_at_call_of 6 (Value.int IntKind.i64 8); refine Calls.mono hp1 ?_; rintro e w' ⟨rfl, hw⟩; rw [hw]; clear hw) | (go_at_call_of 6 (Value.int IntKind.i64 9); refine Calls.mono hp2 ?_; rintro e w' ⟨rfl, hw⟩; rw [hw]; clear hw) | (go_at_call_of 6 (Value.int IntKind.i64 300); refine Calls.mono hp3 ?_; rintro e w' ⟨rfl, hw⟩; rw [hw]; clear hw) | (go_at_call 7; refine Calls.mono hnew ?_; rintro e w' ⟨rfl, hw⟩; rw [hw]; clear hw) | (go_at_call 8; refine Calls.mono haw ?_; rintro e w' ⟨rfl, hR⟩))
        go_ret
        exact ⟨rfl, hR⟩
      · exact absurd (if_neg h2) he
  | false =>
    rw [if_neg (by decide)] at hv
    obtain ⟨rfl, rfl, rfl⟩ := hv
    by_cases h1 : a < 1 ∨ 5 < a ∨ b < 1 ∨ 6 < b
    · have hk : newE a b cc = 1 := if_pos h1
      rw [hk] at hnew
      clear hk he
      by_cases a1 : a < 1
      · clear h1
        go_enter Try.func3, Try.ntmps3
        go_wp2_with (first | (go_at_call_of 6 (Value.int IntKind.i64 8); refine Calls.mono hp1 ?_; rintro e w' ⟨rfl, hw⟩; rw [hw]; clear hw) | (go_at_call_of 6 (Value.int IntKind.i64 9); refine Calls.mono hp2 ?_; rintro e w' ⟨rfl, hw⟩; rw [hw]; clear hw) | (go_at_call_of 6 (Value.int IntKind.i64 300); refine Calls.mono hp3 ?_; rintro e w' ⟨rfl, hw⟩; rw [hw]; clear hw) | (go_at_call 7; refine Calls.mono hnew ?_; rintro e w' ⟨rfl, hw⟩; rw [hw]; clear hw) | (go_at_call 8; refine Calls.mono haw ?_; rintro e w' ⟨rfl, hR⟩))
        go_ret
        exact ⟨rfl, hR⟩
      by_cases a2 : 5 < a
      · clear h1
        go_enter Try.func3, Try.ntmps3
        go_wp2_with (first | (go_at_call_of 6 (Value.int IntKind.i64 8); refine Calls.mono hp1 ?_; rintro e w' ⟨rfl, hw⟩; rw [hw]; clear hw) | (go_at_call_of 6 (Value.int IntKind.i64 9); refine Calls.mono hp2 ?_; rintro e w' ⟨rfl, hw⟩; rw [hw]; clear hw) | (go_at_call_of 6 (Value.int IntKind.i64 300); refine Calls.mono hp3 ?_; rintro e w' ⟨rfl, hw⟩; rw [hw]; clear hw) | (go_at_call 7; refine Calls.mono hnew ?_; rintro e w' ⟨rfl, hw⟩; rw [hw]; clear hw) | (go_at_call 8; refine Calls.mono haw ?_; rintro e w' ⟨rfl, hR⟩))
        go_ret
        exact ⟨rfl, hR⟩
      by_cases a3 : b < 1
      · clear h1
        go_enter Try.func3, Try.ntmps3
        go_wp2_with (first | (go_at_call_of 6 (Value.int IntKind.i64 8); refine Calls.mono hp1 ?_; rintro e w' ⟨rfl, hw⟩; rw [hw]; clear hw) | (go_at_call_of 6 (Value.int IntKind.i64 9); refine Calls.mono hp2 ?_; rintro e w' ⟨rfl, hw⟩; rw [hw]; clear hw) | (go_at_call_of 6 (Value.int IntKind.i64 300); refine Calls.mono hp3 ?_; rintro e w' ⟨rfl, hw⟩; rw [hw]; clear hw) | (go_at_call 7; refine Calls.mono hnew ?_; rintro e w' ⟨rfl, hw⟩; rw [hw]; clear hw) | (go_at_call 8; refine Calls.mono haw ?_; rintro e w' ⟨rfl, hR⟩))
        go_ret
        exact ⟨rfl, hR⟩
      have a4 : 6 < b := by omega
      clear h1
      go_enter Try.func3, Try.ntmps3
      go_wp2_with (first | (go_at_call_of 6 (Value.int IntKind.i64 8); refine Calls.mono hp1 ?_; rintro e w' ⟨rfl, hw⟩; rw [hw]; clear hw) | (go_at_call_of 6 (Value.int IntKind.i64 9); refine Calls.mono hp2 ?_; rintro e w' ⟨rfl, hw⟩; rw [hw]; clear hw) | (go_at_call_of 6 (Value.int IntKind.i64 300); refine Calls.mono hp3 ?_; rintro e w' ⟨rfl, hw⟩; rw [hw]; clear hw) | (go_at_call 7; refine Calls.mono hnew ?_; rintro e w' ⟨rfl, hw⟩; rw [hw]; clear hw) | (go_at_call 8; refine Calls.mono haw ?_; rintro e w' ⟨rfl, hR⟩))
      go_ret
      exact ⟨rfl, hR⟩
    · have hk : newE a b cc = if cc < 1 ∨ 256 < cc then 2 else 0 := if_neg h1
      rw [hk] at hnew he
      clear hk
      have a1 : ¬ a < 1 := fun h => h1 (.inl h)
      have a2 : ¬ 5 < a := fun h => h1 (.inr (.inl h))
      have a3 : ¬ b < 1 := fun h => h1 (.inr (.inr (.inl h)))
      have a4 : ¬ 6 < b := fun h => h1 (.inr (.inr (.inr h)))
      clear h1
      by_cases h2 : cc < 1 ∨ 256 < cc
      · rw [if_pos h2] at hnew
        clear he
        by_cases b1 : cc < 1
        · clear h2
          go_enter Try.func3, Try.ntmps3
          go_wp2_with (first | (go_at_call_of 6 (Value.int IntKind.i64 8); refine Calls.mono hp1 ?_; rintro e w' ⟨rfl, hw⟩; rw [hw]; clear hw) | (go_at_call_of 6 (Value.int IntKind.i64 9); refine Calls.mono hp2 ?_; rintro e w' ⟨rfl, hw⟩; rw [hw]; clear hw) | (go_at_call_of 6 (Value.int IntKind.i64 300); refine Calls.mono hp3 ?_; rintro e w' ⟨rfl, hw⟩; rw [hw]; clear hw) | (go_at_call 7; refine Calls.mono hnew ?_; rintro e w' ⟨rfl, hw⟩; rw [hw]; clear hw) | (go_at_call 8; refine Calls.mono haw ?_; rintro e w' ⟨rfl, hR⟩))
          go_ret
          exact ⟨rfl, hR⟩
        have b2 : 256 < cc := by omega
        clear h2
        go_enter Try.func3, Try.ntmps3
        go_wp2_with (first | (go_at_call_of 6 (Value.int IntKind.i64 8); refine Calls.mono hp1 ?_; rintro e w' ⟨rfl, hw⟩; rw [hw]; clear hw) | (go_at_call_of 6 (Value.int IntKind.i64 9); refine Calls.mono hp2 ?_; rintro e w' ⟨rfl, hw⟩; rw [hw]; clear hw) | (go_at_call_of 6 (Value.int IntKind.i64 300); refine Calls.mono hp3 ?_; rintro e w' ⟨rfl, hw⟩; rw [hw]; clear hw) | (go_at_call 7; refine Calls.mono hnew ?_; rintro e w' ⟨rfl, hw⟩; rw [hw]; clear hw) | (go_at_call 8; refine Calls.mono haw ?_; rintro e w' ⟨rfl, hR⟩))
        go_ret
        exact ⟨rfl, hR⟩
      · exact absurd (if_neg h2) he
set_option maxHeartbeats 16000000 in
set_option maxRecDepth 1000000 in
theorem lawOk_walk (a b cc : Int) (near : Bool) (N C L bf : Nat) (w : World) (M : World → Prop) (hv : NumsAre near a b cc N C L) (hN : 1 ≤ N ∧ N ≤ 5) (hC : 1 ≤ C ∧ C ≤ 6) (hL : 1 ≤ L ∧ L ≤ 256)
    (hnew : Calls Try.prog 7 #[.int .i64 N, .int .i64 C, .int .i64 L] w fun e w' => e = .returned (.tuple #[.pointer (some ⟨bf, 0, none⟩), .int .i64 0]) ∧ M w') (haw : ∀ W, M W → Calls Try.prog 8 #[] W fun e w' => e = .returned (.bool true) ∧ M w')
    (hM : ∀ W, M W → ∃ bn cn bc : Nat, W.cell? ⟨bf, 0, none⟩ = some (.int .i64 L) ∧ W.cell? ⟨bf, 1, none⟩ = some (.slice (some ⟨bn, 0, none⟩) N cn) ∧ W.cell? ⟨bf, 2, none⟩ = some (.slice (some ⟨bc, 0, none⟩) C C) ∧ W.cell? ⟨bc, (C - 1) * 7, none⟩ = some (.bool true) ∧ W.cell? ⟨bc, (C - 1) * 7 + 1, none⟩ = some (.int .i64 1) ∧
      ∀ i, i < N → ∃ (pn : Nat) (A : Option Addr) (c : Nat), W.cell? ⟨bn, i, none⟩ = some (.pointer (some ⟨pn, 0, none⟩)) ∧ W.cell? ⟨pn, 0, none⟩ = some (.slice A (8 * L) c) ∧ W.cell? ⟨pn, 1, none⟩ = some (.bool false)) :
    Calls Try.prog 3 #[.int .i64 a, .int .i64 b, .int .i64 cc, .bool near] w fun e w' => e = .returned (.bool true) ∧ M w' := by
  have hp1 := pick_walk a 8 w (by decide) (by decide)
  have hp2 := pick_walk b 9 w (by decide) (by decide)
  have hp3 := pick_walk cc 300 w (by decide) (by decide)
  have g1 : ¬ (N : Int) < 1 := by omega
  have g2 : ¬ (5 : Int) < (N : Int) := by omega
  have g3 : ¬ (C : Int) < 1 := by omega
  have g4 : ¬ (6 : Int) < (C : Int) := by omega
  have g5 : ¬ (L : Int) < 1 := by omega
  have g6 : ¬ (256 : Int) < (L : Int) := by omega
  have HM : Hid (∀ W, M W → ∃ bn cn bc : Nat, W.cell? ⟨bf, 0, none⟩ = some (.int .i64 L) ∧ W.cell? ⟨bf, 1, none⟩ = some (.slice (some ⟨bn, 0, none⟩) N cn) ∧ W.cell? ⟨bf, 2, none⟩ = some (.slice (some ⟨bc, 0, none⟩) C C) ∧ W.cell? ⟨bc, (C - 1) * 7, none⟩ = some (.bool true) ∧ W.cell? ⟨bc, (C - 1) * 7 + 1, none⟩ = some (.int .i64 1) ∧
      ∀ i, i < N → ∃ (pn : Nat) (A : Option Addr) (c : Nat), W.cell? ⟨bn, i, none⟩ = some (.pointer (some ⟨pn, 0, none⟩)) ∧ W.cell? ⟨pn, 0, none⟩ = some (.slice A (8 * L) c) ∧ W.cell? ⟨pn, 1, none⟩ = some (.bool false)) := hM
  clear hM
  unfold NumsAre at hv
  cases near with
  | true =>
    rw [if_pos rfl] at hv
    obtain ⟨w1, w2, w3⟩ := hv
    go_enter Try.func3, Try.ntmps3
    go_wp2_with (first | (go_at_call_of 6 (Value.int IntKind.i64 8); refine Calls.mono hp1 ?_; rintro e w' ⟨rfl, hw⟩; rw [hw]; clear hw) | (go_at_call_of 6 (Value.int IntKind.i64 9); refine Calls.mono hp2 ?_; rintro e w' ⟨rfl, hw⟩; rw [hw]; clear hw) | (go_at_call_of 6 (Value.int IntKind.i64 300); refine Calls.mono hp3 ?_; rintro e w' ⟨rfl, hw⟩; rw [hw]; clear hw) | (go_at_call 7; refine Calls.mono hnew ?_; rintro e v1 ⟨rfl, hM1⟩) | (go_at_call 8; refine Calls.mono (haw _ hM1) ?_; rintro e v2 ⟨rfl, hM2⟩))
    obtain ⟨bn, cn, bc, c0, c1, c2, c3, c4, hnd⟩ := HM.out _ hM2
    have HN : Hid (∀ i, i < N → ∃ (pn : Nat) (A : Option Addr) (c : Nat), v2.cell? ⟨bn, i, none⟩ = some (.pointer (some ⟨pn, 0, none⟩)) ∧ v2.cell? ⟨pn, 0, none⟩ = some (.slice A (8 * L) c) ∧ v2.cell? ⟨pn, 1, none⟩ = some (.bool false)) := hnd
    clear hnd hp1 hp2 hp3 hnew haw hM1 HM w1 w2 w3
    go_loopg [12] N (fun g s W => ∃ i : Nat, i + g = N ∧ s = .int .i64 i ∧ W = v2)
    case atStart => exact ⟨0, by omega, rfl, rfl⟩
    case round =>
      obtain ⟨i, hig, rfl, hW⟩ := hrel
      subst hW
      cases gk with
      | succ g =>
        have hi : i < N := by omega
        have hiI : (i : Int) < (N : Int) := by omega
        obtain ⟨pn, A, c, e0, e1, e2⟩ := HN.out i hi
        have hw : wrap64 ((i : Int) + 1) = ((i + 1 : Nat) : Int) := by rw [w64, w_i64]; omega
        have hln := fun W h => lines_walk pn L c A W hL.2 h
        have hup := fun W h => up_walk pn false W h
        clear HN
        go_wp2_with (first | (go_at_call 10; refine Calls.mono (hln _ e1) ?_; rintro e w' ⟨rfl, hw⟩; rw [hw]; clear hw) | (go_at_call 11; refine Calls.mono (hup _ e2) ?_; rintro e w' ⟨rfl, hw⟩; rw [hw]; clear hw) | go_in)
        go_roundg g
        case measure => omega
        case rel => exact ⟨i + 1, by omega, rfl, rfl⟩
      | zero =>
        obtain rfl : i = N := by omega
        have k1 : wrap64 ((C : Int) - 1) = ((C - 1 : Nat) : Int) := by rw [w64, w_i64]; omega
        have k2 : ((C - 1 : Nat) : Int) < (C : Int) := by omega
        have k3 : C - 1 < C := by omega
        clear HN
        go_wp2
        go_ret
        exact ⟨rfl, hM2⟩
  | false =>
    rw [if_neg (by decide)] at hv
    obtain ⟨rfl, rfl, rfl⟩ := hv
    go_enter Try.func3, Try.ntmps3
    go_wp2_with (first | (go_at_call_of 6 (Value.int IntKind.i64 8); refine Calls.mono hp1 ?_; rintro e w' ⟨rfl, hw⟩; rw [hw]; clear hw) | (go_at_call_of 6 (Value.int IntKind.i64 9); refine Calls.mono hp2 ?_; rintro e w' ⟨rfl, hw⟩; rw [hw]; clear hw) | (go_at_call_of 6 (Value.int IntKind.i64 300); refine Calls.mono hp3 ?_; rintro e w' ⟨rfl, hw⟩; rw [hw]; clear hw) | (go_at_call 7; refine Calls.mono hnew ?_; rintro e w1 ⟨rfl, hM1⟩) | (go_at_call 8; refine Calls.mono (haw _ hM1) ?_; rintro e w2 ⟨rfl, hM2⟩))
    obtain ⟨bn, cn, bc, c0, c1, c2, c3, c4, hnd⟩ := HM.out _ hM2
    have HN : Hid (∀ i, i < N → ∃ (pn : Nat) (A : Option Addr) (c : Nat), w2.cell? ⟨bn, i, none⟩ = some (.pointer (some ⟨pn, 0, none⟩)) ∧ w2.cell? ⟨pn, 0, none⟩ = some (.slice A (8 * L) c) ∧ w2.cell? ⟨pn, 1, none⟩ = some (.bool false)) := hnd
    clear hnd hp1 hp2 hp3 hnew haw hM1 HM
    go_loopg [12] N (fun g s W => ∃ i : Nat, i + g = N ∧ s = .int .i64 i ∧ W = w2)
    case atStart => exact ⟨0, by omega, rfl, rfl⟩
    case round =>
      obtain ⟨i, hig, rfl, hW⟩ := hrel
      subst hW
      cases gk with
      | succ g =>
        have hi : i < N := by omega
        have hiI : (i : Int) < (N : Int) := by omega
        obtain ⟨pn, A, c, e0, e1, e2⟩ := HN.out i hi
        have hw : wrap64 ((i : Int) + 1) = ((i + 1 : Nat) : Int) := by rw [w64, w_i64]; omega
        have hln := fun W h => lines_walk pn L c A W hL.2 h
        have hup := fun W h => up_walk pn false W h
        clear HN
        go_wp2_with (first | (go_at_call 10; refine Calls.mono (hln _ e1) ?_; rintro e w' ⟨rfl, hw⟩; rw [hw]; clear hw) | (go_at_call 11; refine Calls.mono (hup _ e2) ?_; rintro e w' ⟨rfl, hw⟩; rw [hw]; clear hw) | go_in)
        go_roundg g
        case measure => omega
        case rel => exact ⟨i + 1, by omega, rfl, rfl⟩
      | zero =>
        obtain rfl : i = N := by omega
        have k1 : wrap64 ((C : Int) - 1) = ((C - 1 : Nat) : Int) := by rw [w64, w_i64]; omega
        have k2 : ((C - 1 : Nat) : Int) < (C : Int) := by omega
        have k3 : C - 1 < C := by omega
        clear HN
        go_wp2
        go_ret
        exact ⟨rfl, hM2⟩
end Go.Proofs.Ytnjccbnlmdajkaa
