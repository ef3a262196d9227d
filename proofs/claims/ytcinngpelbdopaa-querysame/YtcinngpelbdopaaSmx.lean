/- QuerySame: the walk. -/
import Derived.Test.YtcinngpelbdopaaSmw
set_option linter.all false
namespace Go.Proofs.Ytcinngpelbdopaa
open Go.RowKit Go.Shelf Go.Lib Go.Ev
attribute [local go_sem] Oper.semAt_some
theorem drew_set (w : World) (a : Addr) (v : Value) : (w.setCell a v).drew = w.drew.setCell a v := by first | rfl | (unfold World.setCell World.drew; split <;> rfl) | (simp [World.setCell, World.drew]; split <;> rfl)
theorem five3 {r : Int} (h0 : 0 ≤ r) (h5 : r < 5) (r0 : ¬ r = 0) (r1 : ¬ r = 1) (r2 : ¬ r = 2) (r4 : ¬ r = 4) : r = 3 := by omega
theorem five2 {r : Int} (h0 : 0 ≤ r) (h5 : r < 5) (r0 : ¬ r = 0) (r1 : ¬ r = 1) (r3 : ¬ r = 3) (r4 : ¬ r = 4) : r = 2 := by omega
def RowsAt (w : World) (A : Option Addr) (n : Nat) (la : Nat → Nat) : Prop := ∀ i, i < n → ∃ (ab ao : Nat) (RA : Option Addr) (rc : Nat), A = some ⟨ab, ao, none⟩ ∧ w.cell? ⟨ab, ao + i * 2, none⟩ = some (.slice RA (la i) rc)
set_option maxHeartbeats 8000000 in
set_option maxRecDepth 1000000 in
theorem qs_walk (R : World → Prop) (A B0 : Option Addr) (n ca m cb : Nat) (turn : Int) (w : World) (la lb : Nat → Nat) (hR : R w) (ha : RowsAt w A n la) (hb : RowsAt w B0 m lb)
    (hm : n ≤ 8 → m ≤ 8 → (∀ i, i < n → la i ≤ 20) → (∀ i, i < m → lb i ≤ 20) → Main R A n ca (.slice B0 m cb) turn w) :
    Calls Try.prog 9 #[.slice A n ca, .slice B0 m cb, .int .i64 turn] w fun e w' => e = .returned (.bool true) ∧ R w' := by
  have mixed : Try.prog.follows .mixedOrders = true := mix
  have hRr := hR
  clear hR
  obtain ⟨H, hH⟩ : ∃ H : Prop, H = (n ≤ 8 → m ≤ 8 → (∀ i, i < n → la i ≤ 20) → (∀ i, i < m → lb i ≤ 20) → Main R A n ca (.slice B0 m cb) turn w) := ⟨_, rfl⟩
  have hh : H := by rw [hH]; exact hm
  clear hm
  by_cases hn8 : 8 < n
  · have h8 : (8 : Int) < (n : Int) := by omega
    go_enter Try.func9, Try.ntmps9
    go_wp2
    go_ret
    exact ⟨rfl, hRr⟩
  by_cases hm8 : 8 < m
  · have h8 : (8 : Int) < (m : Int) := by omega
    have h9 : ¬ (8 : Int) < (n : Int) := by omega
    go_enter Try.func9, Try.ntmps9
    go_wp2
    go_ret
    exact ⟨rfl, hRr⟩
  have h8 : ¬ (8 : Int) < (n : Int) := by omega
  have h9 : ¬ (8 : Int) < (m : Int) := by omega
  go_enter Try.func9, Try.ntmps9
  go_wp2
  go_loopg [7] n (fun g s wr => ∃ i : Nat, i + g = n ∧ s = .int .i64 i ∧ wr = w ∧ Hid (∀ k, k < i → la k ≤ 20))
  case atStart => exact ⟨0, by omega, rfl, rfl, fun k hk => by omega⟩
  case round =>
    obtain ⟨i, hig, rfl, hwr, hla⟩ := hrel
    subst hwr
    rename World => w
    cases gk with
    | succ g =>
      have hi : i < n := by omega
      have hin : (i : Int) < (n : Int) := by omega
      obtain ⟨ab, ao, RA, rc, rfl, hc⟩ := ha i hi
      have hw : wrap64 ((i : Int) + 1) = ((i + 1 : Nat) : Int) := by rw [w64, w_i64]; omega
      clear ha hb hH
      by_cases hl : 20 < la i
      · have hli : (20 : Int) < (la i : Int) := by omega
        go_wp2
        go_ret
        exact ⟨rfl, hRr⟩
      · have hli : ¬ (20 : Int) < (la i : Int) := by omega
        go_wp2
        go_roundg g
        case measure => omega
        case rel => exact ⟨i + 1, by omega, rfl, rfl, fun k hk => by
          by_cases e : k = i
          · subst e; omega
          · exact hla.out k (by omega)⟩
    | zero =>
      obtain rfl : i = n := by omega
      clear ha hig
      go_wp2
      go_loopg [8] m (fun g s wr => ∃ j : Nat, j + g = m ∧ s = .int .i64 j ∧ wr = w ∧ Hid (∀ k, k < j → lb k ≤ 20))
      case atStart => exact ⟨0, by omega, rfl, rfl, fun k hk => by omega⟩
      case round =>
        obtain ⟨j, hjg, rfl, hwr, hlb⟩ := hrel
        subst hwr
        rename World => w
        cases gk with
        | succ g =>
          have hj : j < m := by omega
          have hjm : (j : Int) < (m : Int) := by omega
          obtain ⟨ab, ao, RA, rc, rfl, hc⟩ := hb j hj
          have hw : wrap64 ((j : Int) + 1) = ((j + 1 : Nat) : Int) := by rw [w64, w_i64]; omega
          clear hb hH
          by_cases hl : 20 < lb j
          · have hli : (20 : Int) < (lb j : Int) := by omega
            go_wp2
            go_ret
            exact ⟨rfl, hRr⟩
          · have hli : ¬ (20 : Int) < (lb j : Int) := by omega
            go_wp2
            go_roundg g
            case measure => omega
            case rel => exact ⟨j + 1, by omega, rfl, rfl, fun k hk => by
              by_cases e : k = j
              · subst e; omega
              · exact hlb.out k (by omega)⟩
        | zero =>
          obtain rfl : j = m := by omega
          clear hb hjg
          have hM := hH ▸ hh
          have hM := hM (by omega) (by omega) hla.out hlb.out
          clear hH hh hla hlb
          obtain ⟨J, hJ0, hJ1, hJ2⟩ := hM
          have HJ : Hid ((∀ i_1 s W, i_1 < i → J i_1 s W → ∃ (CA : Option Addr) (cc ab ao : Nat), s = .slice CA i_1 cc ∧ A = some ⟨ab, ao, none⟩ ∧ StQ i_1 ab ao CA cc W J) ∧ (∀ s W, J i s W → (i = 0 → s = .slice none 0 0 ∧ Fin R (.slice A i ca) (.slice B0 j cb) s W) ∧ (0 < i → ∃ B cc, s = .slice (some ⟨B, 0, none⟩) i cc ∧ i ≤ cc ∧ ModOk i turn B cc W (Fin R (.slice A i ca) (.slice B0 j cb) s)))) := ⟨hJ1, hJ2⟩
          clear hJ1 hJ2
          go_wp2
          go_loopg [9, 10] i (fun g s9 s10 wr => ∃ k : Nat, k + g = i ∧ s10 = .int .i64 k ∧ J k s9 wr)
          case atStart => exact ⟨0, by omega, rfl, hJ0⟩
          case round =>
            obtain ⟨k, hkg, rfl, hJ⟩ := hrel
            cases gk with
            | succ g =>
              have hk : k < i := by omega
              obtain ⟨CA, cc, ab, ao, rfl, rfl, RA, rl, rc, num, VA, vl, vc, B, c', W2, W4, hc1, hap1, hc2, hc3, hap2, hJn⟩ := HJ.out.1 k _ _ hk hJ
              have hkm : (k : Int) < (i : Int) := by omega
              have hw : wrap64 ((k : Int) + 1) = ((k + 1 : Nat) : Int) := by rw [w64, w_i64]; omega
              have hc1d : wr.drew.cell? ⟨ab, ao + k * 2, none⟩ = some (.slice RA rl rc) := hc1
              clear hJ
              go_wp2
              go_region_law_o (first | refine step_append_runE rfl (.const (.slice none 0 0)) (.tmp 58) 74 74 rfl (.slice none 0 0) (.slice RA rl rc) (by simp [Act.eval, Act.put]) (by simp [Act.eval, Act.put]) (hap1.out _) ?_ | refine step_append_runE rfl (.tmp 53) (.tmp 66) 73 73 rfl _ _ (by simp [Act.eval, Act.put]) (by simp [Act.eval, Act.put]) (hap2.out _) ?_)
              all_goals
                go_wp2
                go_roundg g
                case measure => omega
                case rel => exact ⟨k + 1, by omega, rfl, hJn⟩
            | zero =>
              obtain rfl : k = i := by omega
              have hJ2 := HJ.out.2 _ _ hJ
              clear HJ hJ hJ0 hkg
              by_cases hk0 : k = 0
              · subst hk0
                obtain ⟨rfl, hF⟩ := hJ2.1 rfl
                obtain ⟨FI, F1, F2, F3, rab, rac, f0, fR, f14, f30b, f30c, f30a, f32a, f32b, f32c, f31b, f31c⟩ := hF
                clear hJ2
                go_wp2_with (first
                      | (go_at_call 14; refine Calls.mono (f14 _ f0) ?_; rintro e w' ⟨rfl, hFI⟩)
                      | (go_at_call_of 30 (Value.slice B0 j cb); refine Calls.mono (f30b _ hFI) ?_; clear f30b; rintro e w' ⟨rfl, hFI⟩)
                      | (go_at_call_of 30 (Value.slice none 0 0); refine Calls.mono (f30c _ hFI) ?_; clear f30c; rintro e w' ⟨rfl, hFI⟩)
                      | (go_at_call 30; refine Calls.mono (f30a _ hFI) ?_; rintro e w' ⟨rfl, hFI⟩)
                      | (go_at_call_of 32 (Value.slice B0 j cb); refine Calls.mono (f32b _ _ hF1) ?_; rintro e w' ⟨A2, n2, c2, rfl, hF2⟩)
                      | (go_at_call_of 32 (Value.slice none 0 0); refine Calls.mono (f32c _ _ hF1) ?_; rintro e w' ⟨A2, n2, c2, rfl, hF3⟩)
                      | (go_at_call 32; refine Calls.mono (f32a _ hFI) ?_; rintro e w' ⟨A1, n1, c1, rfl, hF1⟩)
                      | (go_at_call 31; refine Calls.mono (f31b _ _ _ hF2) ?_; clear hF2; rintro e w' ⟨rfl, hFI⟩)
                      | (go_at_call 31; refine Calls.mono (f31c _ _ _ hF3) ?_; clear hF3; rintro e w' ⟨rfl, hFI⟩))
                all_goals first | (go_ret; exact ⟨rfl, fR _ hFI⟩)
              obtain ⟨B, cc, rfl, hcc, q, RA, rl, rc, num, r, hq, hqn, hrl20, hr, hr0, hr5, hc0, hc1, hfz, k0, k1, k2a, k2b, k3a, k3b, k4⟩ := hJ2.2 (by omega)
              have hp1 := pick_walk turn k wr (by omega) (by omega)
              rw [hq] at hp1
              have hp2 := pick_walk (wrap64 (turn.tdiv 8)) 5 wr (by decide) (by decide)
              rw [hr] at hp2
              have hkp : (0 : Int) < (k : Int) := by omega
              have hqk : (q : Int) < (k : Int) := by omega
              clear hJ2 hq hr
              by_cases r0 : r = 0
              · subst r0
                have kk := k0 rfl
                clear k0 k1 k2a k2b k3a k3b k4
                obtain ⟨FI, F1, F2, F3, rab, rac, f0, fR, f14, f30b, f30c, f30a, f32a, f32b, f32c, f31b, f31c⟩ := kk
                go_wp2_with (first
                      | (go_at_call 14; refine Calls.mono (f14 _ f0) ?_; rintro e w' ⟨rfl, hFI⟩)
                      | (go_at_call_of 30 (Value.slice B0 j cb); refine Calls.mono (f30b _ hFI) ?_; clear f30b; rintro e w' ⟨rfl, hFI⟩)
                      | (go_at_call_of 30 (Value.slice (some { block := B, off := 0 }) k cc); refine Calls.mono (f30c _ hFI) ?_; clear f30c; rintro e w' ⟨rfl, hFI⟩)
                      | (go_at_call 30; refine Calls.mono (f30a _ hFI) ?_; rintro e w' ⟨rfl, hFI⟩)
                      | (go_at_call_of 32 (Value.slice B0 j cb); refine Calls.mono (f32b _ _ hF1) ?_; rintro e w' ⟨A2, n2, c2, rfl, hF2⟩)
                      | (go_at_call_of 32 (Value.slice (some { block := B, off := 0 }) k cc); refine Calls.mono (f32c _ _ hF1) ?_; rintro e w' ⟨A2, n2, c2, rfl, hF3⟩)
                      | (go_at_call 32; refine Calls.mono (f32a _ hFI) ?_; rintro e w' ⟨A1, n1, c1, rfl, hF1⟩)
                      | (go_at_call 31; refine Calls.mono (f31b _ _ _ hF2) ?_; clear hF2; rintro e w' ⟨rfl, hFI⟩)
                      | (go_at_call 31; refine Calls.mono (f31c _ _ _ hF3) ?_; clear hF3; rintro e w' ⟨rfl, hFI⟩)
                      | (go_at_call 19; refine Calls.mono hp1 ?_; clear hp1; rintro e w' ⟨rfl, hw⟩; rw [hw]; clear hw)
                      | (go_at_call 19; refine Calls.mono hp2 ?_; clear hp2; rintro e w' ⟨rfl, hw⟩; rw [hw]; clear hw))
                all_goals first | (go_ret; exact ⟨rfl, fR _ hFI⟩)
              by_cases r1 : r = 1
              · subst r1
                obtain ⟨b2, c2, W2, hap, hz, ⟨x, hx⟩, kk⟩ := k1 rfl
                clear k0 k1 k2a k2b k3a k3b k4
                obtain ⟨FI, F1, F2, F3, rab, rac, f0, fR, f14, f30b, f30c, f30a, f32a, f32b, f32c, f31b, f31c⟩ := kk
                go_wp2_with (first
                      | (go_at_call 14; refine Calls.mono (f14 _ f0) ?_; rintro e w' ⟨rfl, hFI⟩)
                      | (go_at_call_of 30 (Value.slice B0 j cb); refine Calls.mono (f30b _ hFI) ?_; clear f30b; rintro e w' ⟨rfl, hFI⟩)
                      | (go_at_call_of 30 (Value.slice (some { block := B, off := 0 }) k cc); refine Calls.mono (f30c _ hFI) ?_; clear f30c; rintro e w' ⟨rfl, hFI⟩)
                      | (go_at_call 30; refine Calls.mono (f30a _ hFI) ?_; rintro e w' ⟨rfl, hFI⟩)
                      | (go_at_call_of 32 (Value.slice B0 j cb); refine Calls.mono (f32b _ _ hF1) ?_; rintro e w' ⟨A2, n2, c2, rfl, hF2⟩)
                      | (go_at_call_of 32 (Value.slice (some { block := B, off := 0 }) k cc); refine Calls.mono (f32c _ _ hF1) ?_; rintro e w' ⟨A2, n2, c2, rfl, hF3⟩)
                      | (go_at_call 32; refine Calls.mono (f32a _ hFI) ?_; rintro e w' ⟨A1, n1, c1, rfl, hF1⟩)
                      | (go_at_call 31; refine Calls.mono (f31b _ _ _ hF2) ?_; clear hF2; rintro e w' ⟨rfl, hFI⟩)
                      | (go_at_call 31; refine Calls.mono (f31c _ _ _ hF3) ?_; clear hF3; rintro e w' ⟨rfl, hFI⟩)
                      | (go_at_call 19; refine Calls.mono hp1 ?_; clear hp1; rintro e w' ⟨rfl, hw⟩; rw [hw]; clear hw)
                      | (go_at_call 19; refine Calls.mono hp2 ?_; clear hp2; rintro e w' ⟨rfl, hw⟩; rw [hw]; clear hw)
                      | (at_builtin; refine Lib.wpList_append_run _ rfl _ _ _ _ rfl _ _ rfl rfl _ _ (hap.out _) ?_))
                all_goals first | (go_ret; exact ⟨rfl, fR _ hFI⟩)
              by_cases r4 : r = 4
              · subst r4
                have kk := k4 rfl
                clear k0 k1 k2a k2b k3a k3b k4
                obtain ⟨FI, F1, F2, F3, rab, rac, f0, fR, f14, f30b, f30c, f30a, f32a, f32b, f32c, f31b, f31c⟩ := kk
                go_wp2_with (first
                      | (go_at_call 14; refine Calls.mono (f14 _ f0) ?_; rintro e w' ⟨rfl, hFI⟩)
                      | (go_at_call_of 30 (Value.slice B0 j cb); refine Calls.mono (f30b _ hFI) ?_; clear f30b; rintro e w' ⟨rfl, hFI⟩)
                      | (go_at_call_of 30 (Value.slice (some { block := B, off := 0 }) k cc); refine Calls.mono (f30c _ hFI) ?_; clear f30c; rintro e w' ⟨rfl, hFI⟩)
                      | (go_at_call 30; refine Calls.mono (f30a _ hFI) ?_; rintro e w' ⟨rfl, hFI⟩)
                      | (go_at_call_of 32 (Value.slice B0 j cb); refine Calls.mono (f32b _ _ hF1) ?_; rintro e w' ⟨A2, n2, c2, rfl, hF2⟩)
                      | (go_at_call_of 32 (Value.slice (some { block := B, off := 0 }) k cc); refine Calls.mono (f32c _ _ hF1) ?_; rintro e w' ⟨A2, n2, c2, rfl, hF3⟩)
                      | (go_at_call 32; refine Calls.mono (f32a _ hFI) ?_; rintro e w' ⟨A1, n1, c1, rfl, hF1⟩)
                      | (go_at_call 31; refine Calls.mono (f31b _ _ _ hF2) ?_; clear hF2; rintro e w' ⟨rfl, hFI⟩)
                      | (go_at_call 31; refine Calls.mono (f31c _ _ _ hF3) ?_; clear hF3; rintro e w' ⟨rfl, hFI⟩)
                      | (go_at_call 19; refine Calls.mono hp1 ?_; clear hp1; rintro e w' ⟨rfl, hw⟩; rw [hw]; clear hw)
                      | (go_at_call 19; refine Calls.mono hp2 ?_; clear hp2; rintro e w' ⟨rfl, hw⟩; rw [hw]; clear hw))
                all_goals first | (go_ret; exact ⟨rfl, fR _ hFI⟩)
              by_cases hl0 : rl = 0
              · subst hl0
                by_cases r2 : r = 2
                · subst r2
                  have kk := k2a rfl rfl
                  clear k0 k1 k2a k2b k3a k3b k4
                  obtain ⟨FI, F1, F2, F3, rab, rac, f0, fR, f14, f30b, f30c, f30a, f32a, f32b, f32c, f31b, f31c⟩ := kk
                  go_wp2_with (first
                        | (go_at_call 14; refine Calls.mono (f14 _ f0) ?_; rintro e w' ⟨rfl, hFI⟩)
                        | (go_at_call_of 30 (Value.slice B0 j cb); refine Calls.mono (f30b _ hFI) ?_; clear f30b; rintro e w' ⟨rfl, hFI⟩)
                        | (go_at_call_of 30 (Value.slice (some { block := B, off := 0 }) k cc); refine Calls.mono (f30c _ hFI) ?_; clear f30c; rintro e w' ⟨rfl, hFI⟩)
                        | (go_at_call 30; refine Calls.mono (f30a _ hFI) ?_; rintro e w' ⟨rfl, hFI⟩)
                        | (go_at_call_of 32 (Value.slice B0 j cb); refine Calls.mono (f32b _ _ hF1) ?_; rintro e w' ⟨A2, n2, c2, rfl, hF2⟩)
                        | (go_at_call_of 32 (Value.slice (some { block := B, off := 0 }) k cc); refine Calls.mono (f32c _ _ hF1) ?_; rintro e w' ⟨A2, n2, c2, rfl, hF3⟩)
                        | (go_at_call 32; refine Calls.mono (f32a _ hFI) ?_; rintro e w' ⟨A1, n1, c1, rfl, hF1⟩)
                        | (go_at_call 31; refine Calls.mono (f31b _ _ _ hF2) ?_; clear hF2; rintro e w' ⟨rfl, hFI⟩)
                        | (go_at_call 31; refine Calls.mono (f31c _ _ _ hF3) ?_; clear hF3; rintro e w' ⟨rfl, hFI⟩)
                        | (go_at_call 19; refine Calls.mono hp1 ?_; clear hp1; rintro e w' ⟨rfl, hw⟩; rw [hw]; clear hw)
                        | (go_at_call 19; refine Calls.mono hp2 ?_; clear hp2; rintro e w' ⟨rfl, hw⟩; rw [hw]; clear hw))
                  all_goals first | (go_ret; exact ⟨rfl, fR _ hFI⟩)
                obtain rfl := five3 hr0 hr5 r0 r1 r2 r4
                have kk := k3a rfl rfl
                clear k0 k1 k2a k2b k3a k3b k4
                obtain ⟨FI, F1, F2, F3, rab, rac, f0, fR, f14, f30b, f30c, f30a, f32a, f32b, f32c, f31b, f31c⟩ := kk
                go_wp2_with (first
                      | (go_at_call 14; refine Calls.mono (f14 _ f0) ?_; rintro e w' ⟨rfl, hFI⟩)
                      | (go_at_call_of 30 (Value.slice B0 j cb); refine Calls.mono (f30b _ hFI) ?_; clear f30b; rintro e w' ⟨rfl, hFI⟩)
                      | (go_at_call_of 30 (Value.slice (some { block := B, off := 0 }) k cc); refine Calls.mono (f30c _ hFI) ?_; clear f30c; rintro e w' ⟨rfl, hFI⟩)
                      | (go_at_call 30; refine Calls.mono (f30a _ hFI) ?_; rintro e w' ⟨rfl, hFI⟩)
                      | (go_at_call_of 32 (Value.slice B0 j cb); refine Calls.mono (f32b _ _ hF1) ?_; rintro e w' ⟨A2, n2, c2, rfl, hF2⟩)
                      | (go_at_call_of 32 (Value.slice (some { block := B, off := 0 }) k cc); refine Calls.mono (f32c _ _ hF1) ?_; rintro e w' ⟨A2, n2, c2, rfl, hF3⟩)
                      | (go_at_call 32; refine Calls.mono (f32a _ hFI) ?_; rintro e w' ⟨A1, n1, c1, rfl, hF1⟩)
                      | (go_at_call 31; refine Calls.mono (f31b _ _ _ hF2) ?_; clear hF2; rintro e w' ⟨rfl, hFI⟩)
                      | (go_at_call 31; refine Calls.mono (f31c _ _ _ hF3) ?_; clear hF3; rintro e w' ⟨rfl, hFI⟩)
                      | (go_at_call 19; refine Calls.mono hp1 ?_; clear hp1; rintro e w' ⟨rfl, hw⟩; rw [hw]; clear hw)
                      | (go_at_call 19; refine Calls.mono hp2 ?_; clear hp2; rintro e w' ⟨rfl, hw⟩; rw [hw]; clear hw))
                all_goals first | (go_ret; exact ⟨rfl, fR _ hFI⟩)
              have hlp : (0 : Int) < (rl : Int) := by omega
              by_cases r3 : r = 3
              · subst r3
                obtain ⟨b2, rfl, hrr, kk⟩ := k3b rfl (by omega)
                have hw3 : wrap64 ((rl : Int) - 1) = ((rl - 1 : Nat) : Int) := by rw [w64, w_i64]; omega
                have hw4 : ((rl - 1 : Nat) : Int) ≤ (rc : Int) := by omega
                clear k0 k1 k2a k2b k3a k3b k4
                obtain ⟨FI, F1, F2, F3, rab, rac, f0, fR, f14, f30b, f30c, f30a, f32a, f32b, f32c, f31b, f31c⟩ := kk
                go_wp2_with (first
                      | (go_at_call 14; refine Calls.mono (f14 _ f0) ?_; rintro e w' ⟨rfl, hFI⟩)
                      | (go_at_call_of 30 (Value.slice B0 j cb); refine Calls.mono (f30b _ hFI) ?_; clear f30b; rintro e w' ⟨rfl, hFI⟩)
                      | (go_at_call_of 30 (Value.slice (some { block := B, off := 0 }) k cc); refine Calls.mono (f30c _ hFI) ?_; clear f30c; rintro e w' ⟨rfl, hFI⟩)
                      | (go_at_call 30; refine Calls.mono (f30a _ hFI) ?_; rintro e w' ⟨rfl, hFI⟩)
                      | (go_at_call_of 32 (Value.slice B0 j cb); refine Calls.mono (f32b _ _ hF1) ?_; rintro e w' ⟨A2, n2, c2, rfl, hF2⟩)
                      | (go_at_call_of 32 (Value.slice (some { block := B, off := 0 }) k cc); refine Calls.mono (f32c _ _ hF1) ?_; rintro e w' ⟨A2, n2, c2, rfl, hF3⟩)
                      | (go_at_call 32; refine Calls.mono (f32a _ hFI) ?_; rintro e w' ⟨A1, n1, c1, rfl, hF1⟩)
                      | (go_at_call 31; refine Calls.mono (f31b _ _ _ hF2) ?_; clear hF2; rintro e w' ⟨rfl, hFI⟩)
                      | (go_at_call 31; refine Calls.mono (f31c _ _ _ hF3) ?_; clear hF3; rintro e w' ⟨rfl, hFI⟩)
                      | (go_at_call 19; refine Calls.mono hp1 ?_; clear hp1; rintro e w' ⟨rfl, hw⟩; rw [hw]; clear hw)
                      | (go_at_call 19; refine Calls.mono hp2 ?_; clear hp2; rintro e w' ⟨rfl, hw⟩; rw [hw]; clear hw))
                all_goals first | (go_ret; exact ⟨rfl, fR _ hFI⟩)
              obtain rfl := five2 hr0 hr5 r0 r1 r3 r4
              obtain ⟨b2, q2, c, v, rfl, hq2, hq2l, hc3, hc3l, hv, hvf, kk⟩ := k2b rfl (by omega)
              clear k0 k1 k2a k2b k3a k3b k4
              have hp3 := fun W => pick_walk (IntKind.i64.wrap (turn.tdiv 40)) rl W (by omega) (by omega)
              rw [w64] at hq2 hc3
              rw [← drew_set] at kk
              rw [hq2] at hp3
              have hp4 := fun W => pick_walk (IntKind.i64.wrap (turn.tdiv 64)) 3 W (by decide) (by decide)
              rw [hc3] at hp4
              have hq2i : (q2 : Int) < (rl : Int) := by omega
              have hc3i : (c : Int) < 3 := by omega
              have hc0d : wr.drew.cell? ⟨B, q * 2, none⟩ = some (.slice (some ⟨b2, 0, none⟩) rl rc) := hc0
              clear hq2 hc3
              obtain ⟨FI, F1, F2, F3, rab, rac, f0, fR, f14, f30b, f30c, f30a, f32a, f32b, f32c, f31b, f31c⟩ := kk
              go_wp2_with (first
                    | (go_at_call 19; refine Calls.mono hp1 ?_; clear hp1; rintro e w' ⟨rfl, hw⟩; rw [hw]; clear hw)
                    | (go_at_call 19; refine Calls.mono hp2 ?_; clear hp2; rintro e w' ⟨rfl, hw⟩; rw [hw]; clear hw))
              go_region_with_o (first | (go_at_call_of 19 (rl : Int); refine Calls.mono (hp3 _) ?_; rintro e w' ⟨rfl, hw⟩; rw [hw]; clear hw) | (go_at_call 19; refine Calls.mono (hp4 _) ?_; rintro e w' ⟨rfl, hw⟩; rw [hw]; clear hw))
              all_goals go_wp2_with (first
                    | (go_at_call 14; refine Calls.mono (f14 _ f0) ?_; rintro e w' ⟨rfl, hFI⟩)
                    | (go_at_call_of 30 (Value.slice B0 j cb); refine Calls.mono (f30b _ hFI) ?_; clear f30b; rintro e w' ⟨rfl, hFI⟩)
                    | (go_at_call_of 30 (Value.slice (some { block := B, off := 0 }) k cc); refine Calls.mono (f30c _ hFI) ?_; clear f30c; rintro e w' ⟨rfl, hFI⟩)
                    | (go_at_call 30; refine Calls.mono (f30a _ hFI) ?_; rintro e w' ⟨rfl, hFI⟩)
                    | (go_at_call_of 32 (Value.slice B0 j cb); refine Calls.mono (f32b _ _ hF1) ?_; rintro e w' ⟨A2, n2, c2, rfl, hF2⟩)
                    | (go_at_call_of 32 (Value.slice (some { block := B, off := 0 }) k cc); refine Calls.mono (f32c _ _ hF1) ?_; rintro e w' ⟨A2, n2, c2, rfl, hF3⟩)
                    | (go_at_call 32; refine Calls.mono (f32a _ hFI) ?_; rintro e w' ⟨A1, n1, c1, rfl, hF1⟩)
                    | (go_at_call 31; refine Calls.mono (f31b _ _ _ hF2) ?_; clear hF2; rintro e w' ⟨rfl, hFI⟩)
                    | (go_at_call 31; refine Calls.mono (f31c _ _ _ hF3) ?_; clear hF3; rintro e w' ⟨rfl, hFI⟩))
              all_goals first | (go_ret; exact ⟨rfl, fR _ hFI⟩)
end Go.Proofs.Ytcinngpelbdopaa
