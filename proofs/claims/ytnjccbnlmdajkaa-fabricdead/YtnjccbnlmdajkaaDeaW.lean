/- FabricDead: the walk. -/
import Derived.Test.YtnjccbnlmdajkaaVrbW
import Derived.Test.YtnjccbnlmdajkaaPstW
set_option linter.all false
namespace Go.Proofs.Ytnjccbnlmdajkaa
open Go.RowKit Go.Shelf Go.Lib Go.Ev
attribute [local go_sem] Oper.semAt_some
structure DeQ (fb : Nat) (VA : Option Addr) (VC m : Nat) (Q R : World → Prop) (W : World) : Prop where
  run : ∃ wt : Int, (Calls Try.prog 19 #[.pointer (some ⟨fb, 0, none⟩), .int .i64 0] W fun e w' => e = .returned (.int .i64 wt) ∧ w' = W) ∧
    (0 < wt → Calls Try.prog 21 #[.pointer (some ⟨fb, 0, none⟩)] W fun e w' => ∃ (b l c : Nat) (x y z : Int), e = .returned (.slice (some ⟨b, 0, none⟩) l c) ∧ 0 < l ∧ w'.cell? ⟨b, 0, none⟩ = some (.int .i64 x) ∧ w'.cell? ⟨b, 1, none⟩ = some (.int .i64 y) ∧ w'.cell? ⟨b, 2, none⟩ = some (.int .i64 z) ∧
      Calls Try.prog 20 #[.pointer (some ⟨fb, 0, none⟩), .agg #[.int .i64 x, .int .i64 y, .int .i64 z]] w' fun e w2 => (∃ q, e = .returned (.bool q)) ∧ Q w2)
  die : Calls Try.prog 22 #[.pointer (some ⟨fb, 0, none⟩), .int .i64 0] W fun e w' => e = .returned (.bool true) ∧ R w'
structure DeR (fb : Nat) (VA : Option Addr) (VC m : Nat) (T : Nat → World → Prop) (W : World) : Prop where
  die : Calls Try.prog 22 #[.pointer (some ⟨fb, 0, none⟩), .int .i64 0] W fun e w' => e = .returned (.bool false) ∧ w' = W
  al : Calls Try.prog 15 #[.pointer (some ⟨fb, 0, none⟩), .int .i64 0] W fun e w' => e = .returned (.bool false) ∧ w' = W
  post : Calls Try.prog 18 #[.pointer (some ⟨fb, 0, none⟩), .int .i64 0, .slice VA m VC] W fun e w' => e = .returned (.int .i64 1) ∧ w' = W
  re : Calls Try.prog 23 #[.pointer (some ⟨fb, 0, none⟩), .int .i64 0, .int .i64 3] W fun e w' => e = .returned (.int .i64 0) ∧ ∃ n, n ≤ 900 ∧ T n w'
structure DeT (fb m n : Nat) (T : Nat → World → Prop) (K : World → Prop) (W : World) : Prop where
  inc : Calls Try.prog 16 #[.pointer (some ⟨fb, 0, none⟩), .int .i64 0] W fun e w' => e = .returned (.int .i64 3) ∧ w' = W
  take : Calls Try.prog 24 #[.pointer (some ⟨fb, 0, none⟩), .int .i64 0] W fun e w' => e = .returned (.tuple #[.slice none 0 0, .bool false]) ∧ w' = W
  wait : Calls Try.prog 19 #[.pointer (some ⟨fb, 0, none⟩), .int .i64 0] W fun e w' => e = .returned (.int .i64 0) ∧ w' = W
  chs : Calls Try.prog 21 #[.pointer (some ⟨fb, 0, none⟩)] W fun e w' => ∃ (b l c : Nat) (A : Option Addr) (z : Int), e = .returned (.slice A l c) ∧ T n w' ∧ (0 < l ↔ 0 < n) ∧ (0 < n → A = some ⟨b, 0, none⟩ ∧ w'.cell? ⟨b, 0, none⟩ = some (.int .i64 0) ∧ w'.cell? ⟨b, 1, none⟩ = some (.int .i64 0) ∧ w'.cell? ⟨b, 2, none⟩ = some (.int .i64 z) ∧
      ∃ wn : World, w'.alloc (.cells #[.int .i64 0, .int .i64 0, .int .i64 z] 40) = wn ∧ wn.cell? ⟨w'.heap.size, 0, none⟩ = some (.int .i64 0) ∧ wn.cell? ⟨w'.heap.size, 1, none⟩ = some (.int .i64 0) ∧ wn.cell? ⟨w'.heap.size, 2, none⟩ = some (.int .i64 z) ∧
      (Calls Try.prog 25 #[.pointer (some ⟨fb, 0, none⟩), .int .i64 0] wn fun e w2 => e = .returned (.bool true) ∧ ∃ k, k < n ∧ T k w2) ∧
      Calls Try.prog 20 #[.pointer (some ⟨fb, 0, none⟩), .agg #[.int .i64 0, .int .i64 0, .int .i64 z]] wn fun e w2 => e = .returned (.bool true) ∧ ∃ k, k < n ∧ T k w2)
  post : Calls Try.prog 18 #[.pointer (some ⟨fb, 0, none⟩), .int .i64 0, .slice (some ⟨W.heap.size, 0, none⟩) 1 1] (W.alloc (.cells (vCells 1 0 0 1 0 0 none 0 0 0 0) 50)) fun e w' => e = .returned (.int .i64 0) ∧
    (Calls Try.prog 26 #[.pointer (some ⟨fb, 0, none⟩), .int .i64 0] w' fun e w2 => e = .returned (.int .i64 2) ∧ w2 = w') ∧ (Calls Try.prog 27 #[.pointer (some ⟨fb, 0, none⟩), .int .i64 0] w' fun e w2 => e = .returned (.int .i64 (m + 1)) ∧ w2 = w') ∧ K w'
theorem ar1 {g n k : Nat} (h : n ≤ g + 1) (h2 : k < n) : k ≤ g := by omega
theorem ar2 {k g : Nat} (h : k + (g + 1) ≤ 900) : k + 1 + g ≤ 900 := by omega
theorem ar3 {l n : Nat} (h : 0 < l ↔ 0 < n) (hn : 0 < n) : (0 : Int) < (l : Int) := by have := h.2 hn; omega
theorem ar4 {l n : Nat} (h : 0 < l ↔ 0 < n) (hn : ¬ 0 < n) : ¬ (0 : Int) < (l : Int) := fun h2 => hn (h.1 (by omega))
theorem ar5 {k g : Nat} (h : k + g ≤ 900) : ¬ (1000 : Int) < (k : Int) := by omega
theorem ar6 {n g : Nat} (h : n ≤ g) (hn : 0 < n) : ∃ k, g = k + 1 := ⟨g - 1, by omega⟩
theorem ar7 {k g : Nat} (h : k + g ≤ 900) : wrap64 ((k : Int) + 1) = ((k + 1 : Nat) : Int) := by rw [w64, w_i64]; omega
set_option maxHeartbeats 8000000 in
set_option maxRecDepth 1000000 in
theorem dead_walk (A0 : Option Addr) (m vc : Nat) (before : Int) (drop : Bool) (w : World) (P0 : Nat → World → Prop) (P1 Q R : Nat → Option Addr → Nat → World → Prop) (T : Nat → Option Addr → Nat → Nat → World → Prop) (K : World → Prop) (hm : 1 ≤ m ∧ m ≤ 8)
    (h7 : Calls Try.prog 7 #[.int .i64 2, .int .i64 2, .int .i64 12] w fun e w' => ∃ fb : Nat, e = .returned (.tuple #[.pointer (some ⟨fb, 0, none⟩), .int .i64 0]) ∧ P0 fb w')
    (h8 : ∀ fb W, P0 fb W → Calls Try.prog 8 #[] W fun e w' => e = .returned (.bool true) ∧ P0 fb w')
    (h17 : ∀ fb W, P0 fb W → Calls Try.prog 17 #[.slice A0 m vc] W fun e w' => ∃ VA VC, e = .returned (.slice VA m VC) ∧ P1 fb VA VC w')
    (h18 : ∀ fb VA VC W, P1 fb VA VC W → Calls Try.prog 18 #[.pointer (some ⟨fb, 0, none⟩), .int .i64 0, .slice VA m VC] W fun e w' => ∃ z : Int, e = .returned (.int .i64 z) ∧ (z ≠ 0 → K w') ∧ (z = 0 → Q fb VA VC w'))
    (hQ : ∀ fb VA VC W, Q fb VA VC W → DeQ fb VA VC m (Q fb VA VC) (R fb VA VC) W)
    (hR : ∀ fb VA VC W, R fb VA VC W → DeR fb VA VC m (T fb VA VC) W)
    (hT : ∀ fb VA VC n W, T fb VA VC n W → DeT fb m n (T fb VA VC) K W) :
    Calls Try.prog 4 #[.slice A0 m vc, .int .i64 before, .bool drop] w fun e w' => e = .returned (.bool true) ∧ K w' := by
  have mixed : Try.prog.follows .mixedOrders = true := by kernel_rfl
  have hm1 : ¬ (8 : Int) < (m : Int) := by omega
  have hm2 : ¬ (m : Int) < 1 := by omega
  have hmw : wrap64 ((m : Int) + 1) = (m : Int) + 1 := by rw [w64, w_i64]; omega
  have HQ : Hid (∀ fb VA VC W, Q fb VA VC W → DeQ fb VA VC m (Q fb VA VC) (R fb VA VC) W) := hQ
  have HR : Hid (∀ fb VA VC W, R fb VA VC W → DeR fb VA VC m (T fb VA VC) W) := hR
  have HT : Hid (∀ fb VA VC n W, T fb VA VC n W → DeT fb m n (T fb VA VC) K W) := hT
  clear hQ hR hT
  have hp6 : 0 ≤ pick before 6 ∧ pick before 6 < 6 := pick_range (by omega)
  obtain ⟨N, hN⟩ : ∃ N : Nat, pick before 6 = (N : Int) := ⟨(pick before 6).toNat, by omega⟩
  have hpn := fun w => pick_any before 6 w (by omega) (by omega)
  rw [hN] at hpn
  go_enter Try.func4, Try.ntmps4
  go_wp2_with (first | (go_at_call 7; refine Calls.mono h7 ?_; clear h7; rintro e w1 ⟨fb, rfl, hP0⟩; have hP0' := h8 fb w1 hP0; clear h8 hP0) | (go_at_call 8; refine Calls.mono hP0' ?_; clear hP0'; rintro e w2 ⟨rfl, hP0⟩; have hP17 := h17 fb w2 hP0; clear h17 hP0) | (go_at_call 17; refine Calls.mono hP17 ?_; clear hP17; rintro e w3 ⟨VA, VC, rfl, hP1⟩; have hP18 := h18 fb VA VC w3 hP1; clear h18 hP1) | (go_at_call 18; refine Calls.mono hP18 ?_; clear hP18; rintro e w4 ⟨z, rfl, hz1, hz0⟩))
  · rename_i hz
    go_ret
    exact ⟨rfl, hz1 (by simpa using hz)⟩
  have hz : z = 0 := by
    have hz := ‹(z != 0) = false›
    simpa using hz
  have hQ0 := hz0 hz
  subst hz
  clear hz0 hz1
  go_loopg [10] N (fun g s W => ∃ i : Nat, i + g = N ∧ s = .int .i64 i ∧ Q fb VA VC W)
  case atStart => exact ⟨0, by omega, rfl, hQ0⟩
  case round =>
    clear hQ0
    obtain ⟨i, hig, rfl, hI⟩ := hrel
    obtain ⟨⟨wt, h19, h21⟩, hdie⟩ := HQ.out _ _ _ _ hI
    clear hI
    by_cases hgo : 0 < gk ∧ 0 < wt
    · obtain ⟨hg0, hwt⟩ := hgo
      obtain ⟨g, rfl⟩ : ∃ g, gk = g + 1 := ⟨gk - 1, by omega⟩
      have hiI : (i : Int) < (N : Int) := by omega
      have hw : wrap64 ((i : Int) + 1) = ((i + 1 : Nat) : Int) := by rw [w64, w_i64]; omega
      have h21 := h21 hwt
      clear HQ HR HT hdie
      go_wp2_with (first | (go_at_call 6; refine Calls.mono (hpn _) ?_; rintro e w' ⟨rfl, hw⟩; rw [hw]; clear hw) | (go_at_call 19; refine Calls.mono h19 ?_; clear h19; rintro e w' ⟨rfl, hw⟩; rw [hw]; clear hw) | (go_at_call 21; refine Calls.mono h21 ?_; clear h21; rintro e w' ⟨b, l, c, x, y, zz, rfl, hl, c0, c1, c2, h20⟩; have hlI : (0 : Int) < (l : Int) := by omega) | (go_at_call 20; refine Calls.mono h20 ?_; clear h20; rintro e w' ⟨⟨q, rfl⟩, hQ1⟩))
      go_roundg g
      case measure => omega
      case rel => exact ⟨i + 1, by omega, rfl, hQ1⟩
    · have hx : (¬ (i : Int) < (N : Int)) ∨ ((i : Int) < (N : Int) ∧ ¬ 0 < wt) := by omega
      clear hgo h21 hpn
      have hpn := fun w => pick_any before 6 w (by omega) (by omega)
      rw [hN] at hpn
      rcases hx with hiI | ⟨hiI, hwt⟩
      · clear h19
        go_wp2_with (first | (go_at_call 6; refine Calls.mono (hpn _) ?_; rintro e w' ⟨rfl, hw⟩; rw [hw]; clear hw) | (go_at_call 22; refine Calls.mono hdie ?_; clear hdie; rintro e w5 ⟨rfl, hR5⟩; obtain ⟨hd2, hal, hpo, hre⟩ := HR.out _ _ _ _ hR5; clear hR5) | (go_at_call 22; refine Calls.mono hd2 ?_; clear hd2; rintro e w' ⟨rfl, hw⟩; rw [hw]; clear hw) | (go_at_call 15; refine Calls.mono hal ?_; clear hal; rintro e w' ⟨rfl, hw⟩; rw [hw]; clear hw) | (go_at_call 18; refine Calls.mono hpo ?_; clear hpo; rintro e w' ⟨rfl, hw⟩; rw [hw]; clear hw) |
          (go_at_call 23; refine Calls.mono hre ?_; clear hre; rintro e w6 ⟨rfl, n, hn, hT6⟩; obtain ⟨hinc, htake, hwait, _, _⟩ := HT.out _ _ _ _ _ hT6) | (go_at_call 16; refine Calls.mono hinc ?_; clear hinc; rintro e w' ⟨rfl, hw⟩; rw [hw]; clear hw) | (go_at_call 24; refine Calls.mono htake ?_; clear htake; rintro e w' ⟨rfl, hw⟩; rw [hw]; clear hw) | (go_at_call 19; refine Calls.mono hwait ?_; clear hwait; rintro e w' ⟨rfl, hw⟩; rw [hw]; clear hw))
        go_loopg [13] 900 (fun g s W => ∃ k n : Nat, s = .int .i64 k ∧ n ≤ g ∧ k + g ≤ 900 ∧ T fb VA VC n W)
        case atStart => exact ⟨0, n, rfl, hn, by omega, hT6⟩
        case round =>
          clear hT6 HQ HR
          obtain ⟨k, n, rfl, hng, hkg, hT7⟩ := hrel
          have hk1 : ¬ (1000 : Int) < (k : Int) := ar5 hkg
          obtain ⟨_, _, _, hchs, _⟩ := HT.out _ _ _ _ _ hT7
          clear hT7
          by_cases hn0 : 0 < n
          · obtain ⟨g, rfl⟩ := ar6 hng hn0
            have hw : wrap64 ((k : Int) + 1) = ((k + 1 : Nat) : Int) := ar7 hkg
            have HA : Hid (n ≤ g + 1 ∧ k + (g + 1) ≤ 900 ∧ 0 < n) := ⟨hng, hkg, hn0⟩
            clear hng hkg hn0
            cases drop
            all_goals
              go_wp2_with (first | (go_at_call 21; refine Calls.mono hchs ?_; clear hchs; rintro e w7 ⟨b, l, c, A, z, rfl, hT8, hl, _⟩; have hlI : (0 : Int) < (l : Int) := ar3 hl HA.out.2.2; obtain ⟨_, _, _, hchs2, _⟩ := HT.out _ _ _ _ _ hT8; clear hl hT8) |
                (go_at_call 21; refine Calls.mono hchs2 ?_; clear hchs2; rintro e w8 ⟨b, l, c, A, z, rfl, hT9, hl, hfirst⟩; have hlI2 : (0 : Int) < (l : Int) := ar3 hl HA.out.2.2; obtain ⟨rfl, c0, c1, c2, wn, hwn, d0, d1, d2, h25, h20⟩ := hfirst HA.out.2.2; clear hl hfirst hT9 HT) |
                (go_at_call 25; refine Calls.mono h25 ?_; clear h25; rintro e w9 ⟨rfl, n2, hn2, hT10⟩; have H2 : Hid (n2 < n) := hn2; clear hn2) | (go_at_call 20; refine Calls.mono h20 ?_; clear h20; rintro e w9 ⟨rfl, n2, hn2, hT10⟩; have H2 : Hid (n2 < n) := hn2; clear hn2))
              go_roundg g
              case measure => exact Nat.lt_succ_self g
              case rel => exact ⟨k + 1, n2, rfl, ar1 HA.out.1 H2.out, ar2 HA.out.2.1, hT10⟩
          · go_wp2_with (first | (go_at_call 21; refine Calls.mono hchs ?_; clear hchs; rintro e w7 ⟨b, l, c, A, z, rfl, hT8, hl, _⟩; have hlI : ¬ (0 : Int) < (l : Int) := ar4 hl hn0; obtain ⟨_, htk2, _, _, hpost2⟩ := HT.out _ _ _ _ _ hT8; clear hl hT8) |
              (go_at_call 24; refine Calls.mono htk2 ?_; clear htk2; rintro e w' ⟨rfl, hw⟩; rw [hw]; clear hw) | (go_at_call 18; refine Calls.mono hpost2 ?_; clear hpost2; rintro e w9 ⟨rfl, h26, h27, hK⟩) | (go_at_call 26; refine Calls.mono h26 ?_; clear h26; rintro e w' ⟨rfl, hw⟩; rw [hw]; clear hw) | (go_at_call 27; refine Calls.mono h27 ?_; clear h27; rintro e w' ⟨rfl, hw⟩; rw [hw]; clear hw))
            go_ret
            exact ⟨rfl, hK⟩
      · go_wp2_with (first | (go_at_call 19; refine Calls.mono h19 ?_; clear h19; rintro e w' ⟨rfl, hw⟩; rw [hw]; clear hw) | (go_at_call 6; refine Calls.mono (hpn _) ?_; rintro e w' ⟨rfl, hw⟩; rw [hw]; clear hw) | (go_at_call 22; refine Calls.mono hdie ?_; clear hdie; rintro e w5 ⟨rfl, hR5⟩; obtain ⟨hd2, hal, hpo, hre⟩ := HR.out _ _ _ _ hR5; clear hR5) | (go_at_call 22; refine Calls.mono hd2 ?_; clear hd2; rintro e w' ⟨rfl, hw⟩; rw [hw]; clear hw) | (go_at_call 15; refine Calls.mono hal ?_; clear hal; rintro e w' ⟨rfl, hw⟩; rw [hw]; clear hw) | (go_at_call 18; refine Calls.mono hpo ?_; clear hpo; rintro e w' ⟨rfl, hw⟩; rw [hw]; clear hw) |
          (go_at_call 23; refine Calls.mono hre ?_; clear hre; rintro e w6 ⟨rfl, n, hn, hT6⟩; obtain ⟨hinc, htake, hwait, _, _⟩ := HT.out _ _ _ _ _ hT6) | (go_at_call 16; refine Calls.mono hinc ?_; clear hinc; rintro e w' ⟨rfl, hw⟩; rw [hw]; clear hw) | (go_at_call 24; refine Calls.mono htake ?_; clear htake; rintro e w' ⟨rfl, hw⟩; rw [hw]; clear hw) | (go_at_call 19; refine Calls.mono hwait ?_; clear hwait; rintro e w' ⟨rfl, hw⟩; rw [hw]; clear hw))
        go_loopg [13] 900 (fun g s W => ∃ k n : Nat, s = .int .i64 k ∧ n ≤ g ∧ k + g ≤ 900 ∧ T fb VA VC n W)
        case atStart => exact ⟨0, n, rfl, hn, by omega, hT6⟩
        case round =>
          clear hT6 HQ HR
          obtain ⟨k, n, rfl, hng, hkg, hT7⟩ := hrel
          have hk1 : ¬ (1000 : Int) < (k : Int) := ar5 hkg
          obtain ⟨_, _, _, hchs, _⟩ := HT.out _ _ _ _ _ hT7
          clear hT7
          by_cases hn0 : 0 < n
          · obtain ⟨g, rfl⟩ := ar6 hng hn0
            have hw : wrap64 ((k : Int) + 1) = ((k + 1 : Nat) : Int) := ar7 hkg
            have HA : Hid (n ≤ g + 1 ∧ k + (g + 1) ≤ 900 ∧ 0 < n) := ⟨hng, hkg, hn0⟩
            clear hng hkg hn0
            cases drop
            all_goals
              go_wp2_with (first | (go_at_call 21; refine Calls.mono hchs ?_; clear hchs; rintro e w7 ⟨b, l, c, A, z, rfl, hT8, hl, _⟩; have hlI : (0 : Int) < (l : Int) := ar3 hl HA.out.2.2; obtain ⟨_, _, _, hchs2, _⟩ := HT.out _ _ _ _ _ hT8; clear hl hT8) |
                (go_at_call 21; refine Calls.mono hchs2 ?_; clear hchs2; rintro e w8 ⟨b, l, c, A, z, rfl, hT9, hl, hfirst⟩; have hlI2 : (0 : Int) < (l : Int) := ar3 hl HA.out.2.2; obtain ⟨rfl, c0, c1, c2, wn, hwn, d0, d1, d2, h25, h20⟩ := hfirst HA.out.2.2; clear hl hfirst hT9 HT) |
                (go_at_call 25; refine Calls.mono h25 ?_; clear h25; rintro e w9 ⟨rfl, n2, hn2, hT10⟩; have H2 : Hid (n2 < n) := hn2; clear hn2) | (go_at_call 20; refine Calls.mono h20 ?_; clear h20; rintro e w9 ⟨rfl, n2, hn2, hT10⟩; have H2 : Hid (n2 < n) := hn2; clear hn2))
              go_roundg g
              case measure => exact Nat.lt_succ_self g
              case rel => exact ⟨k + 1, n2, rfl, ar1 HA.out.1 H2.out, ar2 HA.out.2.1, hT10⟩
          · go_wp2_with (first | (go_at_call 21; refine Calls.mono hchs ?_; clear hchs; rintro e w7 ⟨b, l, c, A, z, rfl, hT8, hl, _⟩; have hlI : ¬ (0 : Int) < (l : Int) := ar4 hl hn0; obtain ⟨_, htk2, _, _, hpost2⟩ := HT.out _ _ _ _ _ hT8; clear hl hT8) |
              (go_at_call 24; refine Calls.mono htk2 ?_; clear htk2; rintro e w' ⟨rfl, hw⟩; rw [hw]; clear hw) | (go_at_call 18; refine Calls.mono hpost2 ?_; clear hpost2; rintro e w9 ⟨rfl, h26, h27, hK⟩) | (go_at_call 26; refine Calls.mono h26 ?_; clear h26; rintro e w' ⟨rfl, hw⟩; rw [hw]; clear hw) | (go_at_call 27; refine Calls.mono h27 ?_; clear h27; rintro e w' ⟨rfl, hw⟩; rw [hw]; clear hw))
            go_ret
            exact ⟨rfl, hK⟩
end Go.Proofs.Ytnjccbnlmdajkaa
