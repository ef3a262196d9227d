/- QuerySame: the walk. -/
import Derived.Test.YtcinngpelbdopaaSmr
import Derived.Shelf.RegionOpenPlain
import Derived.WalkKit
import Derived.Deep.LoopGhost
import Derived.Deep.RegionLaw
import Derived.Deep.WholeRow
import Derived.Lib.Walk
import Derived.Sort.WalkB12
import Derived.Lib.SliceRun
set_option linter.all false
namespace Go.Proofs.Ytcinngpelbdopaa
open Go.RowKit Go.Shelf Go.Lib Go.Ev
attribute [local go_sem] Oper.semAt_some
def Hid (p : Prop) : Prop := p
theorem Hid.out {p : Prop} (h : Hid p) : p := h
theorem step_append_runE {P : Program} {ops : Array Oper} {o : Oper} {a : Act} {w : World} {K : Act → World → Prop} {Q : Exit → Act → World → Prop} {E : Prop}
    (hg : o.guard = none) (d x : Operand) (dT sT : TypeId) (hop : o.op = Op.call { callee := Callee.builtin Builtin.append, args := #[d, x], argTypes := #[dT, sT] })
    (v u : Value) (hd : a.eval d = v) (hx : a.eval x = u) {v' : Value} {w' : World} (hr : (Builtin.append_ #[dT, sT] o.type #[v, u]).run P w = .ok v' w') (hK : K (a.put o.dst v') w') :
    if Region.wanted o (yielded ops a.tmps) = true then Oper.wp P o a w K Q else E := by
  have hw : Region.wanted o (yielded ops a.tmps) = true := by simp [Region.wanted, hg]
  rw [if_pos hw]
  unfold Oper.wp
  simp [execOp, hop, resolve, invoke, builtin, hd, hx, hr, Result.andThen]
  exact hK
theorem w64 (x : Int) : wrap64 x = IntKind.i64.wrap x := by rw [w_i64]; unfold wrap64; omega
set_option maxHeartbeats 4000000 in
set_option maxRecDepth 1000000 in
theorem pick_walk (n m : Int) (w : World) (hm : 0 < m) (hm2 : m ≤ 1000) :
    Calls Try.prog 19 #[.int .i64 n, .int .i64 m] w fun e w' => e = .returned (.int .i64 (pick n m)) ∧ w' = w := by
  have h1 : ¬ (m < 1) := by omega
  have h2 : ¬ (m = 0) := by omega
  have h3 : (wrap64 (n.tmod m + m)).tmod m = pick n m := by rw [w64]; exact pick_ok hm (by omega)
  go_enter Try.func19, Try.ntmps19
  go_wp2
  all_goals (go_ret; refine ⟨?_, rfl⟩; show Ending.returned (Value.int .i64 _) = _; rfl)
def StQ (i ab ao : Nat) (CA : Option Addr) (cc : Nat) (W : World) (J : Nat → Value → World → Prop) : Prop :=
  ∃ (RA : Option Addr) (rl rc : Nat) (num : Int) (VA : Option Addr) (vl vc B c' : Nat) (W2 W4 : World),
    W.cell? ⟨ab, ao + i * 2, none⟩ = some (.slice RA rl rc) ∧
    Hid (∀ ty, (Builtin.append_ #[74, 74] ty #[.slice none 0 0, .slice RA rl rc]).run Try.prog W.drew = .ok (.slice VA vl vc) W2) ∧
    W2.cell? ⟨ab, ao + i * 2 + 1, none⟩ = some (.int .i64 num) ∧ W.drew.cell? ⟨ab, ao + i * 2 + 1, none⟩ = some (.int .i64 num) ∧
    Hid (∀ ty, (Builtin.append_ #[73, 73] ty #[.slice CA i cc, .slice (some ⟨W2.heap.size, 0, none⟩) 1 1]).run Try.prog (W2.alloc (.cells #[.slice VA vl vc, .int .i64 num] 76)) = .ok (.slice (some ⟨B, 0, none⟩) (i + 1) c') W4) ∧
    J (i + 1) (.slice (some ⟨B, 0, none⟩) (i + 1) c') W4
def Fin (R : World → Prop) (va vb vc : Value) (W : World) : Prop :=
  ∃ (FI : World → Prop) (F1 : World → Value → Prop) (F2 F3 : World → Value → Value → Prop) (rab rac : Bool), FI W ∧ (∀ W, FI W → R W) ∧
    (∀ W, FI W → Calls Try.prog 14 #[] W fun e w' => e = .returned (.bool true) ∧ FI w') ∧
    (∀ W, FI W → Calls Try.prog 30 #[va, vb] W fun e w' => e = .returned (.bool rab) ∧ FI w') ∧
    (∀ W, FI W → Calls Try.prog 30 #[va, vc] W fun e w' => e = .returned (.bool rac) ∧ FI w') ∧
    (∀ W, FI W → Calls Try.prog 30 #[va, va] W fun e w' => e = .returned (.bool true) ∧ FI w') ∧
    (∀ W, FI W → Calls Try.prog 32 #[va] W fun e w' => ∃ A n c, e = .returned (.slice A n c) ∧ F1 w' (.slice A n c)) ∧
    (∀ W v, F1 W v → Calls Try.prog 32 #[vb] W fun e w' => ∃ A n c, e = .returned (.slice A n c) ∧ F2 w' v (.slice A n c)) ∧
    (∀ W v, F1 W v → Calls Try.prog 32 #[vc] W fun e w' => ∃ A n c, e = .returned (.slice A n c) ∧ F3 w' v (.slice A n c)) ∧
    (∀ W v u, F2 W v u → Calls Try.prog 31 #[v, u] W fun e w' => e = .returned (.bool rab) ∧ FI w') ∧
    (∀ W v u, F3 W v u → Calls Try.prog 31 #[v, u] W fun e w' => e = .returned (.bool rac) ∧ FI w')
def ModOk (n : Nat) (turn : Int) (B cc : Nat) (W : World) (K : World → Prop) : Prop :=
  ∃ (k : Nat) (RA : Option Addr) (rl rc : Nat) (num r : Int), pick turn n = (k : Int) ∧ k < n ∧ rl ≤ 20 ∧ pick (wrap64 (turn.tdiv 8)) 5 = r ∧ 0 ≤ r ∧ r < 5 ∧
    W.cell? ⟨B, k * 2, none⟩ = some (.slice RA rl rc) ∧ W.cell? ⟨B, k * 2 + 1, none⟩ = some (.int .i64 num) ∧ (∀ j, W.frozen? ⟨B, j, none⟩ = false) ∧
    (r = 0 → K (W.setCell ⟨B, k * 2 + 1, none⟩ (.int .i64 (wrap64 (num + 1))))) ∧
    (r = 1 → ∃ (b2 c2 : Nat) (W2 : World), Hid (∀ ty, (Builtin.append_ #[74, 74] ty #[.slice RA rl rc, .slice (some ⟨W.heap.size, 0, none⟩) 1 1]).run Try.prog (W.alloc (.cells #[.int .u32 1, .int .i64 0, .int .i64 0, .int .i64 0] 66)) = .ok (.slice (some ⟨b2, 0, none⟩) (rl + 1) c2) W2) ∧
      W2.frozen? ⟨B, k * 2, none⟩ = false ∧ (∃ x, W2.cell? ⟨B, k * 2, none⟩ = some x) ∧ K (W2.setCell ⟨B, k * 2, none⟩ (.slice (some ⟨b2, 0, none⟩) (rl + 1) c2))) ∧
    (r = 2 → rl = 0 → K W) ∧
    (r = 2 → 0 < rl → ∃ (b2 q c : Nat) (v : Int), RA = some ⟨b2, 0, none⟩ ∧ pick (wrap64 (turn.tdiv 40)) rl = (q : Int) ∧ q < rl ∧ pick (wrap64 (turn.tdiv 64)) 3 = (c : Int) ∧ c < 3 ∧
      W.drew.cell? ⟨b2, q * 4 + 1 + c, none⟩ = some (.int .i64 v) ∧ W.drew.frozen? ⟨b2, q * 4 + 1 + c, none⟩ = false ∧ K (W.drew.setCell ⟨b2, q * 4 + 1 + c, none⟩ (.int .i64 (wrap64 (v + 1))))) ∧
    (r = 3 → rl = 0 → K W) ∧
    (r = 3 → 0 < rl → ∃ b2, RA = some ⟨b2, 0, none⟩ ∧ rl ≤ rc ∧ K (W.setCell ⟨B, k * 2, none⟩ (.slice (some ⟨b2, 0, none⟩) (rl - 1) rc))) ∧
    (r = 4 → K W)
def Main (R : World → Prop) (A : Option Addr) (n ca : Nat) (vb : Value) (turn : Int) (w : World) : Prop :=
  ∃ J : Nat → Value → World → Prop, J 0 (.slice none 0 0) w ∧
    (∀ i s W, i < n → J i s W → ∃ (CA : Option Addr) (cc ab ao : Nat), s = .slice CA i cc ∧ A = some ⟨ab, ao, none⟩ ∧ StQ i ab ao CA cc W J) ∧
    (∀ s W, J n s W → (n = 0 → s = .slice none 0 0 ∧ Fin R (.slice A n ca) vb s W) ∧ (0 < n → ∃ B cc, s = .slice (some ⟨B, 0, none⟩) n cc ∧ n ≤ cc ∧ ModOk n turn B cc W (Fin R (.slice A n ca) vb s)))
end Go.Proofs.Ytcinngpelbdopaa
