/- Die: the walk. -/
import Derived.Test.YtnjccbnlmdajkaaSmlW
import Derived.Deep.RegionLaw
import Derived.Shelf.RegionOpenPlain
set_option linter.all false
namespace Go.Proofs.Ytnjccbnlmdajkaa
open Go.RowKit Go.Shelf Go.Lib Go.Ev
attribute [local go_sem] Oper.semAt_some
attribute [local go_sem] neq_nil neq_some eql_some eql_nil
theorem step_append_runE {P : Program} {ops : Array Oper} {o : Oper} {a : Act} {w : World} {K : Act → World → Prop} {Q : Exit → Act → World → Prop} {E : Prop}
    (hg : o.guard = none) (d x : Operand) (dT sT : TypeId) (hop : o.op = Op.call { callee := Callee.builtin Builtin.append, args := #[d, x], argTypes := #[dT, sT] })
    (v u : Value) (hd : a.eval d = v) (hx : a.eval x = u) {v' : Value} {w' : World} (hr : (Builtin.append_ #[dT, sT] o.type #[v, u]).run P w = .ok v' w') (hK : K (a.put o.dst v') w') :
    if Region.wanted o (yielded ops a.tmps) = true then Oper.wp P o a w K Q else E := by
  have hw : Region.wanted o (yielded ops a.tmps) = true := by simp [Region.wanted, hg]
  rw [if_pos hw]
  unfold Oper.wp
  simp [execOp, hop, resolve, invoke, builtin, hd, hx, hr, Result.andThen]
  exact hK
def DieRnd (bf : Nat) (LA : Option Addr) (i : Nat) (W : World) (J : Nat → World → Prop) : Prop :=
  ∃ (bl pb : Nat) (PA VA : Option Addr) (pl pc vl vc : Nat), LA = some ⟨bl, 0, none⟩ ∧ W.cell? ⟨bl, i * 2, none⟩ = some (.pointer (some ⟨pb, 0, none⟩)) ∧ W.cell? ⟨bl, i * 2 + 1, none⟩ = some (.slice PA pl pc) ∧ ∃ wb, W.alloc (.cells #[.pointer (some ⟨pb, 0, none⟩), .slice PA pl pc] 82) = wb ∧
    wb.cell? ⟨W.heap.size, 0, none⟩ = some (.pointer (some ⟨pb, 0, none⟩)) ∧ wb.cell? ⟨pb, 3, none⟩ = some (.slice VA vl vc) ∧ (vl = 0 → J (i + 1) wb) ∧ (0 < vl → ∃ (OA : Option Addr) (on oc B c' : Nat) (W4 : World), wb.drew.cell? ⟨bf, 3, none⟩ = some (.slice OA on oc) ∧ (∀ o, (wb.drew.alloc o).cell? ⟨bf, 3, none⟩ = some (.slice OA on oc)) ∧
      Hid (∀ ty, (Builtin.append_ #[60, 60] ty #[.slice OA on oc, .slice (some ⟨wb.drew.heap.size, 0, none⟩) 1 1]).run Try.prog (wb.drew.alloc (.cells #[.pointer (some ⟨pb, 0, none⟩)] 80)) = .ok (.slice (some ⟨B, 0, none⟩) (on + 1) c') W4) ∧ W4.frozen? ⟨bf, 3, none⟩ = false ∧ (∃ y, W4.cell? ⟨bf, 3, none⟩ = some y) ∧ J (i + 1) (W4.setCell ⟨bf, 3, none⟩ (.slice (some ⟨B, 0, none⟩) (on + 1) c')))
def DieEnd (bc ci : Nat) (W : World) (K : World → Prop) : Prop :=
  ∃ w1 w2 w3, W.frozen? ⟨bc, ci * 7, none⟩ = false ∧ (∃ y, W.cell? ⟨bc, ci * 7, none⟩ = some y) ∧ W.setCell ⟨bc, ci * 7, none⟩ (.bool false) = w1 ∧ w1.frozen? ⟨bc, ci * 7 + 2, none⟩ = false ∧ (∃ y, w1.cell? ⟨bc, ci * 7 + 2, none⟩ = some y) ∧ w1.setCell ⟨bc, ci * 7 + 2, none⟩ (.slice none 0 0) = w2 ∧
    w2.frozen? ⟨bc, ci * 7 + 3, none⟩ = false ∧ (∃ y, w2.cell? ⟨bc, ci * 7 + 3, none⟩ = some y) ∧ w2.setCell ⟨bc, ci * 7 + 3, none⟩ (.slice none 0 0) = w3 ∧ w3.frozen? ⟨bc, ci * 7 + 4, none⟩ = false ∧ (∃ y, w3.cell? ⟨bc, ci * 7 + 4, none⟩ = some y) ∧ K (w3.setCell ⟨bc, ci * 7 + 4, none⟩ (.int .i64 0))
set_option maxHeartbeats 8000000 in
set_option maxRecDepth 1000000 in
theorem die_walk {cc : Nat} (bf bc ci nc ll lc : Nat) (LA : Option Addr) (w : World) (J : Nat → World → Prop) (K : World → Prop) (hci : ci < nc) (hll : ll ≤ 100000) (h2 : w.cell? ⟨bf, 2, none⟩ = some (.slice (some ⟨bc, 0, none⟩) nc cc)) (hal : w.cell? ⟨bc, ci * 7, none⟩ = some (.bool true))
    (hlv : w.cell? ⟨bc, ci * 7 + 2, none⟩ = some (.slice LA ll lc)) (hJ : J 0 w) (H : (∀ i W, i < ll → J i W → DieRnd bf LA i W J) ∧ ∀ W, J ll W → DieEnd bc ci W K) :
    Calls Try.prog 22 #[.pointer (some ⟨bf, 0, none⟩), .int .i64 ci] w fun e w' => e = .returned (.bool true) ∧ K w' := by
  have mixed : Try.prog.follows .mixedOrders = true := by kernel_rfl
  have HH : Hid _ := H
  clear H
  have haw := alive_walk bf bc ci nc true w hci h2 hal
  have hcw := client_walk bf bc ci nc w hci h2
  go_enter Try.func22, Try.ntmps22
  go_wp2_with (first | (go_at_call 15; refine Calls.mono haw ?_; clear haw; rintro e w' ⟨rfl, hw⟩; rw [hw]; clear hw) | (go_at_call 33; refine Calls.mono hcw ?_; clear hcw; rintro e w' ⟨rfl, hw⟩; rw [hw]; clear hw))
  go_loopg [20] ll (fun g s W => ∃ i : Nat, i + g = ll ∧ s = .int .i64 i ∧ J i W)
  case atStart => exact ⟨0, by omega, rfl, hJ⟩
  case round =>
    obtain ⟨i, hig, rfl, hI⟩ := hrel
    cases gk with
    | succ g =>
      have hi : i < ll := by omega
      have hiI : (i : Int) < (ll : Int) := by omega
      obtain ⟨bl, pb, PA, VA, pl, pc, vl, vc, rfl, d0, d1, wb, eb, gb, hv, hz, hp⟩ := HH.out.1 i _ hi hI
      have hw : wrap64 ((i : Int) + 1) = ((i + 1 : Nat) : Int) := by rw [w64, w_i64]; omega
      have hpw := pending_walk pb vl vc VA wb hv
      clear hJ hI h2 hal hlv
      by_cases h0 : vl = 0
      · have hJn := hz h0
        have hvI : ¬ (0 : Int) < (vl : Int) := by omega
        clear hz hp
        go_wp2_with (go_at_call 38; refine Calls.mono hpw ?_; rintro e w' ⟨rfl, hw⟩; rw [hw]; clear hw)
        go_roundg g
        case measure => omega
        case rel => exact ⟨i + 1, by omega, rfl, hJn⟩
      · have hvI : (0 : Int) < (vl : Int) := by omega
        obtain ⟨OA, on, oc, B, c', W4, k1, k2, hap, k3, ⟨y, k4⟩, hJn⟩ := hp (by omega)
        clear hz hp
        have gbd : wb.drew.cell? ⟨wr.heap.size, 0, none⟩ = some (.pointer (some ⟨pb, 0, none⟩)) := gb
        have gba : ∀ o, (wb.alloc o).cell? ⟨wr.heap.size, 0, none⟩ = some (.pointer (some ⟨pb, 0, none⟩)) := fun o => cell_alloc' gb
        have k2' : ∀ o, (wb.alloc o).cell? ⟨bf, 3, none⟩ = some (.slice OA on oc) := fun o => k2 o
        go_wp2_with (go_at_call 38; refine Calls.mono hpw ?_; rintro e w' ⟨rfl, hw⟩; rw [hw]; clear hw)
        go_region_law_o (first | (refine step_append_runE rfl (.tmp 32) (.tmp 35) 60 60 rfl _ _ (by simp [Act.eval, Act.put]) (by simp [Act.eval, Act.put]) (hap.out _) ?_))
        all_goals
          go_wp2
          go_roundg g
          case measure => omega
          case rel => exact ⟨i + 1, by omega, rfl, hJn⟩
    | zero =>
      obtain rfl : i = ll := by omega
      obtain ⟨w1, w2, w3, a1, ⟨y1, a2⟩, a3, a4, ⟨y2, a5⟩, a6, a7, ⟨y3, a8⟩, a9, a10, ⟨y4, a11⟩, hK⟩ := HH.out.2 _ hI
      clear hJ hI h2 hal hlv hig HH
      go_wp2
      go_ret
      exact ⟨rfl, hK⟩
theorem die_bad (bf : Nat) (c : Int) (w : World) (h : Calls Try.prog 15 #[.pointer (some ⟨bf, 0, none⟩), .int .i64 c] w fun e w' => e = .returned (.bool false) ∧ w' = w) : Calls Try.prog 22 #[.pointer (some ⟨bf, 0, none⟩), .int .i64 c] w fun e w' => e = .returned (.bool false) ∧ w' = w := by
  go_enter Try.func22, Try.ntmps22
  go_wp2_with (go_at_call 15; refine Calls.mono h ?_; clear h; rintro e w' ⟨rfl, hw⟩; rw [hw]; clear hw)
  go_ret
  exact ⟨rfl, rfl⟩
end Go.Proofs.Ytnjccbnlmdajkaa
