/- slices.IndexFunc and slices.DeleteFunc at rows of nine cells, whatever closure is handed over: the walks. -/
import Derived.Test.YtjbpbidlcegopaaDoorIns
set_option linter.all false
namespace Go.Proofs.YtjbpbidlcegopaaDoor
open Go.RowKit Go.Shelf Go.Lib Go.Ev
attribute [local go_sem] Oper.semAt_some
abbrev nine (x : Nat → Int) : Array Value := #[Value.int .i64 (x 0), Value.int .u64 (x 1), Value.int .u64 (x 2), Value.int .u64 (x 3), Value.int .u64 (x 4), Value.int .u64 (x 5), Value.int .u64 (x 6), Value.int .u64 (x 7), Value.int .u64 (x 8)]
def At9 (W : World) (b p : Nat) (x : Nat → Int) : Prop :=
  W.cell? ⟨b, p, none⟩ = some (Value.int .i64 (x 0)) ∧ W.cell? ⟨b, p + 1, none⟩ = some (Value.int .u64 (x 1)) ∧ W.cell? ⟨b, p + 2, none⟩ = some (Value.int .u64 (x 2)) ∧ W.cell? ⟨b, p + 3, none⟩ = some (Value.int .u64 (x 3)) ∧ W.cell? ⟨b, p + 4, none⟩ = some (Value.int .u64 (x 4)) ∧ W.cell? ⟨b, p + 5, none⟩ = some (Value.int .u64 (x 5)) ∧ W.cell? ⟨b, p + 6, none⟩ = some (Value.int .u64 (x 6)) ∧ W.cell? ⟨b, p + 7, none⟩ = some (Value.int .u64 (x 7)) ∧ W.cell? ⟨b, p + 8, none⟩ = some (Value.int .u64 (x 8))
def At90 (W : World) (b : Nat) (x : Nat → Int) : Prop :=
  W.cell? ⟨b, 0, none⟩ = some (Value.int .i64 (x 0)) ∧ W.cell? ⟨b, 1, none⟩ = some (Value.int .u64 (x 1)) ∧ W.cell? ⟨b, 2, none⟩ = some (Value.int .u64 (x 2)) ∧ W.cell? ⟨b, 3, none⟩ = some (Value.int .u64 (x 3)) ∧ W.cell? ⟨b, 4, none⟩ = some (Value.int .u64 (x 4)) ∧ W.cell? ⟨b, 5, none⟩ = some (Value.int .u64 (x 5)) ∧ W.cell? ⟨b, 6, none⟩ = some (Value.int .u64 (x 6)) ∧ W.cell? ⟨b, 7, none⟩ = some (Value.int .u64 (x 7)) ∧ W.cell? ⟨b, 8, none⟩ = some (Value.int .u64 (x 8))
def St1 (w : World) (b j : Nat) (v : Value) (w' : World) : Prop := w.frozen? ⟨b, j, none⟩ = false ∧ (∃ y, w.cell? ⟨b, j, none⟩ = some y) ∧ w.setCell ⟨b, j, none⟩ v = w'
def St9 (W : World) (b p : Nat) (x : Nat → Int) (W' : World) : Prop := ∃ w1 w2 w3 w4 w5 w6 w7 w8 : World,
  St1 W b p (Value.int .i64 (x 0)) w1 ∧ St1 w1 b (p + 1) (Value.int .u64 (x 1)) w2 ∧ St1 w2 b (p + 2) (Value.int .u64 (x 2)) w3 ∧ St1 w3 b (p + 3) (Value.int .u64 (x 3)) w4 ∧ St1 w4 b (p + 4) (Value.int .u64 (x 4)) w5 ∧ St1 w5 b (p + 5) (Value.int .u64 (x 5)) w6 ∧ St1 w6 b (p + 6) (Value.int .u64 (x 6)) w7 ∧ St1 w7 b (p + 7) (Value.int .u64 (x 7)) w8 ∧ St1 w8 b (p + 8) (Value.int .u64 (x 8)) W'
set_option maxHeartbeats 4000000 in
set_option maxRecDepth 1000000 in
theorem if_walk (K : Nat) (caps : Array Value) (eg : ∀ args w, (callFunc K args).run Tryd.prog w = .ok (.enter K args) w) (b n c : Nat) (w : World) (x : Nat → Nat → Int) (d : Nat → Bool) (hn : n ≤ 1000000) (J : World → Prop) (hJ : J w)
    (hcell : ∀ W i, i < n → J W → At9 W b (i * 9) (x i)) (hcall : ∀ W i, i < n → J W → Calls Tryd.prog K (#[.agg (nine (x i))] ++ caps) W fun e w' => e = .returned (.bool (d i)) ∧ J w') :
    Calls Tryd.prog 41 #[.slice (some ⟨b, 0, none⟩) n c, .func (.func K) #[] caps] w fun e w' => ∃ r : Int, e = .returned (.int .i64 r) ∧ J w' ∧ ((r = -1 ∧ ∀ i, i < n → d i = false) ∨ ∃ i : Nat, r = i ∧ i < n ∧ d i = true ∧ ∀ j, j < i → d j = false) := by
  have HC : Hid (∀ W i, i < n → J W → At9 W b (i * 9) (x i)) := hcell
  have HL : Hid (∀ W i, i < n → J W → Calls Tryd.prog K (#[.agg (nine (x i))] ++ caps) W fun e w' => e = .returned (.bool (d i)) ∧ J w') := hcall
  clear hcell hcall
  go_enter Tryd.func41, Tryd.ntmps41
  go_wp2
  go_loopg [5, 8] n (fun gg _ s8 wr => ∃ k : Nat, k + gg = n ∧ s8 = .int .i64 k ∧ J wr ∧ Hid (∀ j, j < k → d j = false))
  case atStart => exact ⟨0, by omega, rfl, hJ, fun j hj => absurd hj (Nat.not_lt_zero _)⟩
  case round =>
    obtain ⟨k, hkg, rfl, hJk, A⟩ := hrel
    cases gk with
    | succ g =>
      have hi : k < n := by omega
      have hiI : (k : Int) < (n : Int) := by omega
      have hw : wrap64 ((k : Int) + 1) = ((k + 1 : Nat) : Int) := by unfold wrap64; omega
      obtain ⟨c0, c1, c2, c3, c4, c5, c6, c7, c8⟩ := HC.out wr k hi hJk
      have hcall := HL.out wr k hi hJk
      simp only [nine] at hcall
      clear HC HL hJ
      generalize hx0 : x k 0 = x0 at *
      generalize hx1 : x k 1 = x1 at *
      generalize hx2 : x k 2 = x2 at *
      generalize hx3 : x k 3 = x3 at *
      generalize hx4 : x k 4 = x4 at *
      generalize hx5 : x k 5 = x5 at *
      generalize hx6 : x k 6 = x6 at *
      generalize hx7 : x k 7 = x7 at *
      generalize hx8 : x k 8 = x8 at *
      clear hx0 hx1 hx2 hx3 hx4 hx5 hx6 hx7 hx8
      have B : Hid (d k = d k) := rfl
      cases hq : d k with
      | true =>
        rw [hq] at hcall
        go_wp2_with (go_at_fn K; refine hcall.mono ?_; rintro e w' ⟨rfl, hb'⟩)
        go_ret
        exact ⟨_, rfl, hb', .inr ⟨k, rfl, hi, hq, A.out⟩⟩
      | false =>
        rw [hq] at hcall
        go_wp2_with (go_at_fn K; refine hcall.mono ?_; rintro e w' ⟨rfl, hb'⟩)
        go_roundg g
        case measure => omega
        case rel =>
          refine ⟨k + 1, by omega, congrArg (Value.int .i64) (by omega), hb', (show Hid _ from fun j hj => ?_)⟩
          rcases Nat.lt_succ_iff_lt_or_eq.1 hj with h | h
          · exact A.out j h
          · rw [h]; exact hq
    | zero =>
      obtain rfl : k = n := by omega
      clear HC HL
      go_wp2
      go_ret
      exact ⟨_, rfl, hJk, .inl ⟨rfl, A.out⟩⟩
set_option maxHeartbeats 4000000 in
set_option maxRecDepth 1000000 in
theorem if_nil (K : Nat) (caps : Array Value) (w : World) :
    Calls Tryd.prog 41 #[.slice none 0 0, .func (.func K) #[] caps] w fun e w' => e = .returned (.int .i64 (-1)) ∧ w' = w := by
  go_enter Tryd.func41, Tryd.ntmps41
  go_wp2
  go_loopg [5, 8] 0 (fun gg _ s8 wr => s8 = .int .i64 0 ∧ wr = w)
  case atStart => exact ⟨rfl, rfl⟩
  case round =>
    obtain ⟨rfl, rfl⟩ := hrel
    go_wp2
    go_ret
    exact ⟨rfl, rfl⟩
set_option maxHeartbeats 4000000 in
set_option maxRecDepth 1000000 in
theorem df_nil (K : Nat) (caps : Array Value) (w : World) :
    Calls Tryd.prog 29 #[.slice none 0 0, .func (.func K) #[] caps] w fun e w' => e = .returned (.slice none 0 0) ∧ w' = w := by
  have h := if_nil K caps w
  go_enter Tryd.func29, Tryd.ntmps29
  go_wp2_with (go_at_call 41; refine Calls.mono h ?_; rintro e w' ⟨rfl, rfl⟩)
  go_ret
  exact ⟨rfl, rfl⟩
theorem first_hit (d : Nat → Bool) : ∀ n : Nat, (∀ i, i < n → d i = false) ∨ ∃ i, i < n ∧ d i = true ∧ ∀ j, j < i → d j = false
  | 0 => .inl fun i hi => absurd hi (Nat.not_lt_zero _)
  | n + 1 => by
    rcases first_hit d n with h | ⟨i, h1, h2, h3⟩
    · cases hd : d n with
      | false => exact .inl fun i hi => (by
          rcases Nat.lt_succ_iff_lt_or_eq.1 hi with h4 | h4
          · exact h i h4
          · rw [h4]; exact hd)
      | true => exact .inr ⟨n, by omega, hd, h⟩
    · exact .inr ⟨i, by omega, h2, h3⟩
def DfN (d : Nat → Bool) (b i j B : Nat) (y : Nat → Int) (w' : World) (J : Nat → Nat → World → Prop) : Prop :=
  At90 w' B y ∧ (d j = false → ∃ W', St9 w' b (i * 9) y W' ∧ J (i + 1) (j + 1) W') ∧ (d j = true → J i (j + 1) w')
set_option maxHeartbeats 8000000 in
set_option maxRecDepth 1000000 in
theorem df_walk (K : Nat) (caps : Array Value) (eg : ∀ args w, (callFunc K args).run Tryd.prog w = .ok (.enter K args) w) (b n c : Nat) (w : World) (x : Nat → Nat → Int) (d : Nat → Bool) (hn : n ≤ 1000000) (hnc : n ≤ c) (J0 : World → Prop) (J : Nat → Nat → World → Prop) (F : Nat → World → Prop) (hJ : J0 w)
    (hcell0 : ∀ W i, i < n → J0 W → At9 W b (i * 9) (x i)) (hcall0 : ∀ W i, i < n → J0 W → Calls Tryd.prog K (#[.agg (nine (x i))] ++ caps) W fun e w' => e = .returned (.bool (d i)) ∧ J0 w')
    (hst : ∀ W i, i < n → d i = true → (∀ j, j < i → d j = false) → J0 W → J i (i + 1) W)
    (hcell : ∀ W i j, i < j → j < n → J i j W → At9 W b (j * 9) (x j))
    (hcall : ∀ W i j, i < j → j < n → J i j W → Calls Tryd.prog K (#[.agg (nine (x j))] ++ caps) (W.alloc (.cells (nine (x j)) 42)) fun e w' => e = .returned (.bool (d j)) ∧ DfN d b i j W.heap.size (x j) w' J)
    (hclr : ∀ W i, i < n → J i n W → ∃ W', (∀ ty, (Builtin.clear_ #[22] ty #[.slice (some ⟨b, i * 9, none⟩) (n - i) (c - i)]).run Tryd.prog W = .ok (.tuple #[]) W') ∧ F i W') :
    Calls Tryd.prog 29 #[.slice (some ⟨b, 0, none⟩) n c, .func (.func K) #[] caps] w fun e w' => (e = .returned (.slice (some ⟨b, 0, none⟩) n c) ∧ J0 w' ∧ ∀ i, i < n → d i = false) ∨ ∃ i : Nat, i < n ∧ e = .returned (.slice (some ⟨b, 0, none⟩) i c) ∧ F i w' := by
  have hif := if_walk K caps eg b n c w x d hn J0 hJ hcell0 hcall0
  have HS : Hid (∀ W i, i < n → d i = true → (∀ j, j < i → d j = false) → J0 W → J i (i + 1) W) := hst
  have HC : Hid (∀ W i j, i < j → j < n → J i j W → At9 W b (j * 9) (x j)) := hcell
  have HL : Hid (∀ W i j, i < j → j < n → J i j W → Calls Tryd.prog K (#[.agg (nine (x j))] ++ caps) (W.alloc (.cells (nine (x j)) 42)) fun e w' => e = .returned (.bool (d j)) ∧ DfN d b i j W.heap.size (x j) w' J) := hcall
  have HE : Hid (∀ W i, i < n → J i n W → ∃ W', (∀ ty, (Builtin.clear_ #[22] ty #[.slice (some ⟨b, i * 9, none⟩) (n - i) (c - i)]).run Tryd.prog W = .ok (.tuple #[]) W') ∧ F i W') := hclr
  clear hcell hcall hclr hst hcell0 hcall0 hJ
  rcases first_hit d n with hall | ⟨i0, hi0, hd0, hb0⟩
  · have hif1 := hif.mono (R' := fun e w' => e = .returned (.int .i64 (-1)) ∧ J0 w') (by
      rintro e w' ⟨r, rfl, h1, ⟨rfl, _⟩ | ⟨i, rfl, h2, h3, _⟩⟩
      · exact ⟨rfl, h1⟩
      · rw [hall i h2] at h3; cases h3)
    clear hif HS HC HL HE
    go_enter Tryd.func29, Tryd.ntmps29
    go_wp2_with (go_at_call 41; refine Calls.mono hif1 ?_; clear hif1; rintro e w' ⟨rfl, hJ0⟩)
    go_ret
    exact .inl ⟨rfl, hJ0, hall⟩
  · have hif1 := hif.mono (R' := fun e w' => e = .returned (.int .i64 (i0 : Nat)) ∧ J i0 (i0 + 1) w') (by
      rintro e w' ⟨r, rfl, h1, ⟨rfl, h2⟩ | ⟨i, rfl, h2, h3, h4⟩⟩
      · rw [h2 i0 hi0] at hd0; cases hd0
      · rcases Nat.lt_trichotomy i i0 with h | h | h
        · rw [hb0 i h] at h3; cases h3
        · subst h; exact ⟨rfl, HS.out w' i hi0 hd0 hb0 h1⟩
        · rw [h4 i0 h] at hd0; cases hd0)
    clear hif HS hb0 hd0
    have HB : Hid (i0 < n) := hi0
    have hne : ¬ ((i0 : Int) = -1) := by omega
    have hw0 : wrap64 ((i0 : Int) + 1) = ((i0 + 1 : Nat) : Int) := by unfold wrap64; omega
    have hneb : ((i0 : Int) == -1) = false := beq_eq_false_iff_ne.2 hne
    go_enter Tryd.func29, Tryd.ntmps29
    go_wp2_with (go_at_call 41; refine Calls.mono hif1 ?_; clear hif1; rintro e w' ⟨rfl, hJs⟩)
    go_loopg [5, 6, 7] n (fun gg s5 s6 _ wr => ∃ i j : Nat, i < j ∧ j ≤ n ∧ n - j ≤ gg ∧ s5 = .int .i64 i ∧ s6 = .int .i64 j ∧ J i j wr)
    case atStart => exact ⟨i0, i0 + 1, by omega, by have := HB.out; omega, by omega, rfl, by first | rfl | go_num, hJs⟩
    case round =>
      obtain ⟨i, j, hij, hjn, hjg, rfl, rfl, hI⟩ := hrel
      by_cases hj : j < n
      · 
        have hjI : (j : Int) < (n : Int) := by omega
        have hiI : (i : Int) < (n : Int) := by omega
        have hw : wrap64 ((j : Int) + 1) = ((j + 1 : Nat) : Int) := by unfold wrap64; omega
        have hwi : wrap64 ((i : Int) + 1) = ((i + 1 : Nat) : Int) := by unfold wrap64; omega
        obtain ⟨c0, c1, c2, c3, c4, c5, c6, c7, c8⟩ := HC.out wr i j hij hj hI
        have hcall := HL.out wr i j hij hj hI
        clear HC HL HE hI hJs
        simp only [nine] at hcall
        cases hq : d j with
        | true =>
          rw [hq] at hcall
          go_wp2_with (go_at_fn K; refine hcall.mono ?_; clear hcall; rintro e w' ⟨rfl, ⟨a0, a1, a2, a3, a4, a5, a6, a7, a8⟩, _, hT⟩)
          go_roundg (n - (j + 1))
          case measure => omega
          case rel => exact ⟨i, j + 1, by omega, by omega, by omega, rfl, congrArg (Value.int .i64) (by omega), hT hq⟩
        | false =>
          rw [hq] at hcall
          go_wp2_with (go_at_fn K; refine hcall.mono ?_; clear hcall; rintro e w' ⟨rfl, ⟨a0, a1, a2, a3, a4, a5, a6, a7, a8⟩, hF, _⟩; obtain ⟨W', ⟨w1, w2, w3, w4, w5, w6, w7, w8, ⟨f0, ⟨y0, g0⟩, e0⟩, ⟨f1, ⟨y1, g1⟩, e1⟩, ⟨f2, ⟨y2, g2⟩, e2⟩, ⟨f3, ⟨y3, g3⟩, e3⟩, ⟨f4, ⟨y4, g4⟩, e4⟩, ⟨f5, ⟨y5, g5⟩, e5⟩, ⟨f6, ⟨y6, g6⟩, e6⟩, ⟨f7, ⟨y7, g7⟩, e7⟩, ⟨f8, ⟨y8, g8⟩, e8⟩⟩, hJ'⟩ := hF hq; clear hF)
          go_roundg (n - (j + 1))
          case measure => omega
          case rel => exact ⟨i + 1, j + 1, by omega, by omega, by omega, congrArg (Value.int .i64) (by omega), congrArg (Value.int .i64) (by omega), hJ'⟩
      · obtain rfl : j = n := by omega
        have hi : i < j := hij
        have hiI : (i : Int) < (j : Int) := by omega
        have hic : ¬ (c = i) := by omega
        obtain ⟨W', hcl, hF⟩ := HE.out wr i hi hI
        clear HC HL HE hI hJs
        go_wp2
        go_ret
        exact .inr ⟨i, hi, rfl, hF⟩
end Go.Proofs.YtjbpbidlcegopaaDoor
