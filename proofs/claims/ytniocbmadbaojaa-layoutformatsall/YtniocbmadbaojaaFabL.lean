/- LayoutFormatsAll: the walk. -/
import Derived.Test.YtniocbmadbaojaaFabW
set_option linter.all false
namespace Go.Proofs.Ytniocbmadbaojaa
open Go.RowKit Go.Shelf Go.Lib Go.Ev
attribute [local go_sem] Oper.semAt_some
set_option maxHeartbeats 4000000 in
set_option maxRecDepth 1000000 in
theorem pick_walk (n m : Int) (w : World) (hm : 0 < m) (hm2 : m ≤ 1000) :
    Calls Try.prog 9 #[.int .i64 n, .int .i64 m] w fun e w' => e = .returned (.int .i64 (pick n m)) ∧ w' = w := by
  have h1 : ¬ (m < 1) := by omega
  have h2 : ¬ (m = 0) := by omega
  have h3 : (wrap64 (n.tmod m + m)).tmod m = pick n m := by rw [w64]; exact pick_ok hm (by omega)
  go_enter Try.func9, Try.ntmps9
  go_wp2
  all_goals (go_ret; refine ⟨?_, rfl⟩; show Ending.returned (Value.int .i64 _) = _; rfl)
def Rnd (bf n d j b10 b11 : Nat) (W : World) (K : World → Prop) : Prop :=
  ∃ (A1 : Option Addr) (l1 c1 : Nat) (A2 : Option Addr) (l2 c2 pb bn cn : Nat), W.cell? ⟨b10, 0, none⟩ = some (.slice A1 l1 c1) ∧ W.cell? ⟨b10, 1, none⟩ = some (.bool true) ∧ W.cell? ⟨b11, 0, none⟩ = some (.slice A2 l2 c2) ∧ W.cell? ⟨b11, 1, none⟩ = some (.bool true) ∧ b10 < W.heap.size ∧ b11 < W.heap.size ∧
    (∀ o, (W.alloc o).cell? ⟨bf, 1, none⟩ = some (.slice (some ⟨bn, 0, none⟩) n cn)) ∧ (∀ o, (W.alloc o).cell? ⟨bn, j, none⟩ = some (.pointer (some ⟨pb, 0, none⟩))) ∧
    (d ≤ j → Calls Try.prog 34 #[.pointer (some ⟨pb, 0, none⟩)] (W.alloc (.cells #[.slice A1 l1 c1, .bool ((j : Int) != (d : Int))] 47)) fun e w' => ∃ A l c, e = .returned (.slice A l c) ∧
      Calls Try.prog 38 #[.slice A l c, .pointer (some ⟨W.heap.size, 0, none⟩)] w' fun e w'' => e = .returned (.bool true) ∧ K w'') ∧
    (j < d → Calls Try.prog 34 #[.pointer (some ⟨pb, 0, none⟩)] (W.alloc (.cells #[.slice A2 l2 c2, .bool true] 47)) fun e w' => ∃ A l c, e = .returned (.slice A l c) ∧
      Calls Try.prog 38 #[.slice A l c, .pointer (some ⟨W.heap.size, 0, none⟩)] w' fun e w'' => e = .returned (.bool true) ∧ K w'')
set_option maxHeartbeats 8000000 in
set_option maxRecDepth 1000000 in
theorem law_walk (R : World → Prop) (nodes down : Int) (w : World) (n d bf : Nat) (J : Nat → World → Prop) (L : World → Prop)
    (hn : pick nodes 5 + 1 = (n : Int)) (hn5 : 1 ≤ n ∧ n ≤ 5) (hd : pick down ((n : Int) + 3) = (d : Int))
    (hnew : Calls Try.prog 39 #[.int .i64 n, .int .i64 1, .int .i64 98] w fun e w' => e = .returned (.tuple #[.pointer (some ⟨bf, 0, none⟩), .int .i64 0]) ∧ L w')
    (haw : ∀ W, L W → Calls Try.prog 8 #[] W fun e w' => e = .returned (.bool true) ∧ J 0 w')
    (hJ : ∀ i W, i < n → J i W → ∃ pb bn cn : Nat, W.cell? ⟨bf, 1, none⟩ = some (.slice (some ⟨bn, 0, none⟩) n cn) ∧ W.cell? ⟨bn, i, none⟩ = some (.pointer (some ⟨pb, 0, none⟩)) ∧
      (i ≠ d → J (i + 1) W) ∧ (i = d → Calls Try.prog 33 #[.pointer (some ⟨pb, 0, none⟩)] W fun e w' => e = .returned (.tuple #[]) ∧ J (i + 1) w'))
    (x : Int) (hx : (d < n ∧ x = 4) ∨ (n ≤ d ∧ x = 0)) (L2 : World → Prop) (L3 : Nat → World → Prop) (M : Nat → Nat → Nat → World → Prop) (h41 : ∀ W, J n W → Calls Try.prog 41 #[.pointer (some ⟨bf, 0, none⟩)] W fun e w' => e = .returned (.int .i64 x) ∧ L2 w')
    (h42 : ∀ W, L2 W → Calls Try.prog 42 #[.int .i64 98] W fun e w' => ∃ A1 l1 c1, e = .returned (.agg #[.slice A1 l1 c1, .bool true]) ∧ L3 w'.heap.size (w'.alloc (.cells #[.slice A1 l1 c1, .bool true] 47)))
    (h37 : ∀ b W, L3 b W → Calls Try.prog 37 #[.int .i64 n, .int .i64 98] W fun e w' => ∃ A1 l1 c1, e = .returned (.slice A1 l1 c1) ∧ M 0 b w'.heap.size (w'.alloc (.cells #[.slice A1 l1 c1, .bool true] 47)))
    (hM : ∀ j b10 b11 W, j < n → M j b10 b11 W → Rnd bf n d j b10 b11 W (M (j + 1) b10 b11)) (hR : ∀ b10 b11 W, M n b10 b11 W → R W) :
    Calls Try.prog 6 #[.int .i64 nodes, .int .i64 down] w fun e w' => e = .returned (.bool true) ∧ R w' := by
  have hp1 := pick_walk nodes 5 w (by decide) (by decide)
  have hp2 := pick_walk down ((n : Int) + 3) w (by omega) (by omega)
  rw [hd] at hp2
  have hr := pick_range (n := nodes) (m := 5) (by decide)
  have hw1 : wrap64 (pick nodes 5 + 1) = (n : Int) := by rw [w64, w_i64]; omega
  have hw2 : wrap64 ((n : Int) + 3) = (n : Int) + 3 := by rw [w64, w_i64]; omega
  clear hd
  have HM : Hid ((∀ j b10 b11 W, j < n → M j b10 b11 W → Rnd bf n d j b10 b11 W (M (j + 1) b10 b11)) ∧ ∀ b10 b11 W, M n b10 b11 W → R W) := ⟨hM, hR⟩
  clear hM hR
  go_enter Try.func6, Try.ntmps6
  go_wp2_with (first | (go_at_call 9; refine Calls.mono hp1 ?_; clear hp1; rintro e w' ⟨rfl, hw⟩; rw [hw]; clear hw) | (go_at_call 9; refine Calls.mono hp2 ?_; clear hp2; rintro e w' ⟨rfl, hw⟩; rw [hw]; clear hw) | (go_at_call 39; refine Calls.mono hnew ?_; clear hnew; rintro e w1 ⟨rfl, hL⟩) | (go_at_call 8; refine Calls.mono (haw _ hL) ?_; clear haw; rintro e w2 ⟨rfl, hJ0⟩))
  go_loopg [7] n (fun g s W => ∃ i : Nat, i + g = n ∧ s = .int .i64 i ∧ J i W)
  case atStart => exact ⟨0, by omega, rfl, hJ0⟩
  case round =>
    obtain ⟨i, hig, rfl, hI⟩ := hrel
    cases gk with
    | succ g =>
      have hi : i < n := by omega
      have hin : (i : Int) < (n : Int) := by omega
      obtain ⟨pb, bn, cn, hc1, hc2, hs1, hs2⟩ := hJ i wr hi hI
      have hw : wrap64 ((i : Int) + 1) = ((i + 1 : Nat) : Int) := by rw [w64, w_i64]; omega
      clear hJ0 hI hJ hw1 hw2 hn
      by_cases hid : i = d
      · have hs := hs2 hid
        subst hid
        clear hs1 hs2
        go_wp2_with (first | (go_at_call 33; refine Calls.mono hs ?_; clear hs; rintro e w' ⟨rfl, hJn⟩) | go_in)
        go_roundg g
        case measure => omega
        case rel => exact ⟨i + 1, by omega, rfl, hJn⟩
      · have hs := hs1 hid
        have hne : ((i : Int) == (d : Int)) = false := beq_eq_false_iff_ne.2 (by omega)
        clear hs1 hs2
        go_wp2
        go_roundg g
        case measure => omega
        case rel => exact ⟨i + 1, by omega, rfl, hs⟩
    | zero =>
      obtain rfl : i = n := by omega
      have hc41 := h41 wr hI
      clear hJ hI h41 hJ0 hw1 hw2 hn
      rcases hx with ⟨hdn, rfl⟩ | ⟨hdn, rfl⟩
      · have hdI : (d : Int) < (i : Int) := by omega
        go_wp2_with (first | (go_at_call 41; refine Calls.mono hc41 ?_; clear hc41; rintro e w3 ⟨rfl, hL2⟩) | (go_at_call 42; refine Calls.mono (h42 _ hL2) ?_; clear h42; rintro e w4 ⟨A1, l1, c1, rfl, hL3⟩) | (go_at_call 37; refine Calls.mono (h37 _ _ hL3) ?_; clear h37; rintro e w5 ⟨A2, l2, c2, rfl, hM0⟩) | go_in)
        go_loopg [12] i (fun g s W => ∃ j : Nat, j + g = i ∧ s = .int .i64 j ∧ M j w4.heap.size w5.heap.size W)
        case atStart => exact ⟨0, by omega, rfl, hM0⟩
        case round =>
          obtain ⟨j, hjg, rfl, hMj⟩ := hrel
          cases gk with
          | succ g =>
            have hji : j < i := by omega
            have hjI : (j : Int) < (i : Int) := by omega
            obtain ⟨A1, l1, c1, A2, l2, c2, pb, bn, cn, k1, k2, k3, k4, k5, k6, k7, k8, k9, k10⟩ := HM.out.1 j _ _ wr hji hMj
            have hw : wrap64 ((j : Int) + 1) = ((j + 1 : Nat) : Int) := by rw [w64, w_i64]; omega
            clear hMj HM hM0
            by_cases hjd : d ≤ j
            · have hjdI : (d : Int) ≤ (j : Int) := by omega
              have hcl := k9 hjd
              clear k9 k10
              go_wp2_with (first | (go_at_call 34; refine Calls.mono hcl ?_; clear hcl; rintro e w6 ⟨A, l, c, rfl, hcl⟩) | (go_at_call 38; refine Calls.mono hcl ?_; clear hcl; rintro e w7 ⟨rfl, hK⟩) | go_in)
              go_roundg g
              case measure => omega
              case rel => exact ⟨j + 1, by omega, rfl, hK⟩
            · have hjdI : ¬ (d : Int) ≤ (j : Int) := by omega
              have hcl := k10 (by omega)
              clear k9 k10
              go_wp2_with (first | (go_at_call 34; refine Calls.mono hcl ?_; clear hcl; rintro e w6 ⟨A, l, c, rfl, hcl⟩) | (go_at_call 38; refine Calls.mono hcl ?_; clear hcl; rintro e w7 ⟨rfl, hK⟩) | go_in)
              go_roundg g
              case measure => omega
              case rel => exact ⟨j + 1, by omega, rfl, hK⟩
          | zero =>
            obtain rfl : j = i := by omega
            have hRR := HM.out.2 _ _ wr hMj
            clear HM hM0 hMj
            go_wp2
            go_ret
            exact ⟨rfl, hRR⟩
      · have hdI : ¬ (d : Int) < (i : Int) := by omega
        go_wp2_with (first | (go_at_call 41; refine Calls.mono hc41 ?_; clear hc41; rintro e w3 ⟨rfl, hL2⟩) | (go_at_call 42; refine Calls.mono (h42 _ hL2) ?_; clear h42; rintro e w4 ⟨A1, l1, c1, rfl, hL3⟩) | (go_at_call 37; refine Calls.mono (h37 _ _ hL3) ?_; clear h37; rintro e w5 ⟨A2, l2, c2, rfl, hM0⟩) | go_in)
        go_loopg [12] i (fun g s W => ∃ j : Nat, j + g = i ∧ s = .int .i64 j ∧ M j w4.heap.size w5.heap.size W)
        case atStart => exact ⟨0, by omega, rfl, hM0⟩
        case round =>
          obtain ⟨j, hjg, rfl, hMj⟩ := hrel
          cases gk with
          | succ g =>
            have hji : j < i := by omega
            have hjI : (j : Int) < (i : Int) := by omega
            obtain ⟨A1, l1, c1, A2, l2, c2, pb, bn, cn, k1, k2, k3, k4, k5, k6, k7, k8, k9, k10⟩ := HM.out.1 j _ _ wr hji hMj
            have hw : wrap64 ((j : Int) + 1) = ((j + 1 : Nat) : Int) := by rw [w64, w_i64]; omega
            clear hMj HM hM0
            by_cases hjd : d ≤ j
            · omega
            · have hjdI : ¬ (d : Int) ≤ (j : Int) := by omega
              have hcl := k10 (by omega)
              clear k9 k10
              go_wp2_with (first | (go_at_call 34; refine Calls.mono hcl ?_; clear hcl; rintro e w6 ⟨A, l, c, rfl, hcl⟩) | (go_at_call 38; refine Calls.mono hcl ?_; clear hcl; rintro e w7 ⟨rfl, hK⟩) | go_in)
              go_roundg g
              case measure => omega
              case rel => exact ⟨j + 1, by omega, rfl, hK⟩
          | zero =>
            obtain rfl : j = i := by omega
            have hRR := HM.out.2 _ _ wr hMj
            clear HM hM0 hMj
            go_wp2
            go_ret
            exact ⟨rfl, hRR⟩
end Go.Proofs.Ytniocbmadbaojaa
