/- FabricDead: the walk. -/
import Derived.Test.YtnjccbnlmdajkaaVrbW
import Derived.Test.YtnjccbnlmdajkaaPstW
set_option linter.all false
namespace Go.Proofs.Ytnjccbnlmdajkaa
open Go.RowKit Go.Shelf Go.Lib Go.Ev
attribute [local go_sem] Oper.semAt_some
structure DeQ (fb : Nat) (VA : Option Addr) (VC m : Nat) (Q R : World → Prop) (W : World) : Prop where
 run : ∃ wt : Int,(Calls Try.prog 19 #[.pointer (some ⟨fb,0,none⟩),.int .i64 0] W fun e w' => e = .returned (.int .i64 wt)∧w' = W) ∧
  (0 < wt → Calls Try.prog 21 #[.pointer (some ⟨fb,0,none⟩)] W fun e w' => ∃ (b l c : Nat) (x y z : Int),e = .returned (.slice (some ⟨b,0,none⟩) l c)∧0 < l∧w'.cell? ⟨b,0,none⟩ = some (.int .i64 x)∧w'.cell? ⟨b,1,none⟩ = some (.int .i64 y)∧w'.cell? ⟨b,2,none⟩ = some (.int .i64 z) ∧
   Calls Try.prog 20 #[.pointer (some ⟨fb,0,none⟩),.agg #[.int .i64 x,.int .i64 y,.int .i64 z]] w' fun e w2 => (∃ q,e = .returned (.bool q))∧Q w2)
 die : Calls Try.prog 22 #[.pointer (some ⟨fb,0,none⟩),.int .i64 0] W fun e w' => e = .returned (.bool true)∧R w'
structure DeR (fb : Nat) (VA : Option Addr) (VC m : Nat) (T : Nat → World → Prop) (W : World) : Prop where
 die : Calls Try.prog 22 #[.pointer (some ⟨fb,0,none⟩),.int .i64 0] W fun e w' => e = .returned (.bool false)∧w' = W
 al : Calls Try.prog 15 #[.pointer (some ⟨fb,0,none⟩),.int .i64 0] W fun e w' => e = .returned (.bool false)∧w' = W
 post : Calls Try.prog 18 #[.pointer (some ⟨fb,0,none⟩),.int .i64 0,.slice VA m VC] W fun e w' => e = .returned (.int .i64 1)∧w' = W
 re : Calls Try.prog 23 #[.pointer (some ⟨fb,0,none⟩),.int .i64 0,.int .i64 3] W fun e w' => e = .returned (.int .i64 0)∧∃ n,n ≤ 900∧T n w'
structure DeT (fb m n : Nat) (T : Nat → World → Prop) (K : World → Prop) (W : World) : Prop where
 inc : Calls Try.prog 16 #[.pointer (some ⟨fb,0,none⟩),.int .i64 0] W fun e w' => e = .returned (.int .i64 3)∧w' = W
 take : Calls Try.prog 24 #[.pointer (some ⟨fb,0,none⟩),.int .i64 0] W fun e w' => e = .returned (.tuple #[.slice none 0 0,.bool false])∧w' = W
 wait : Calls Try.prog 19 #[.pointer (some ⟨fb,0,none⟩),.int .i64 0] W fun e w' => e = .returned (.int .i64 0)∧w' = W
 chs : Calls Try.prog 21 #[.pointer (some ⟨fb,0,none⟩)] W fun e w' => ∃ (b l c : Nat) (A : Option Addr) (z : Int),e = .returned (.slice A l c)∧T n w'∧(0 < l ↔ 0 < n)∧(0 < n → A = some ⟨b,0,none⟩∧w'.cell? ⟨b,0,none⟩ = some (.int .i64 0)∧w'.cell? ⟨b,1,none⟩ = some (.int .i64 0)∧w'.cell? ⟨b,2,none⟩ = some (.int .i64 z) ∧
   ∃ wn : World,w'.alloc (.cells #[.int .i64 0,.int .i64 0,.int .i64 z] 40) = wn∧wn.cell? ⟨w'.heap.size,0,none⟩ = some (.int .i64 0)∧wn.cell? ⟨w'.heap.size,1,none⟩ = some (.int .i64 0)∧wn.cell? ⟨w'.heap.size,2,none⟩ = some (.int .i64 z) ∧
   (Calls Try.prog 25 #[.pointer (some ⟨fb,0,none⟩),.int .i64 0] wn fun e w2 => e = .returned (.bool true)∧∃ k,k < n∧T k w2) ∧
   Calls Try.prog 20 #[.pointer (some ⟨fb,0,none⟩),.agg #[.int .i64 0,.int .i64 0,.int .i64 z]] wn fun e w2 => e = .returned (.bool true)∧∃ k,k < n∧T k w2)
 post : Calls Try.prog 18 #[.pointer (some ⟨fb,0,none⟩),.int .i64 0,.slice (some ⟨W.heap.size,0,none⟩) 1 1] (W.alloc (.cells (vCells 1 0 0 1 0 0 none 0 0 0 0) 50)) fun e w' => e = .returned (.int .i64 0) ∧
  (Calls Try.prog 26 #[.pointer (some ⟨fb,0,none⟩),.int .i64 0] w' fun e w2 => e = .returned (.int .i64 2)∧w2 = w')∧(Calls Try.prog 27 #[.pointer (some ⟨fb,0,none⟩),.int .i64 0] w' fun e w2 => e = .returned (.int .i64 (m + 1))∧w2 = w')∧K w'
end Go.Proofs.Ytnjccbnlmdajkaa
