/- fresh: the walk. -/
import Derived.Test.YtkefjdmoikegbaaCopyL
set_option linter.all false
namespace Go.Proofs.Ytkefjdmoikegbaa
open Go.RowKit Go.Shelf Go.Lib Go.Ev
attribute [local go_sem] Oper.semAt_some
set_option maxRecDepth 100000
set_option maxHeartbeats 8000000 in
set_option maxRecDepth 1000000 in
theorem newnode_walk (W : World) (M : Array Value) (b2 : Nat) (hb2 : W.heap.size = b2) (w1 : World) (hw1 : W.alloc (.cells #[.slice none 0 0,.bool false] 72) = w1) (b : Nat) (hb : w1.heap.size = b) (w2 : World) (hw2 : w1.alloc (.cells M 23) = w2)
  (hmk : (Instr.makeSlice 33 (.int .i64 320) (.int .i64 320)).run Try.prog w1 = .ok (.slice (some ⟨b,0,none⟩) 320 320) w2) (w3 : World) (hw3 : w2.setCell ⟨b2,0,none⟩ (.slice (some ⟨b,0,none⟩) 320 320) = w3) (w4 : World) (hw4 : w3.setCell ⟨b2,1,none⟩ (.bool true) = w4)
  (f0 : w2.frozen? ⟨b2,0,none⟩ = false) (f1 : w3.frozen? ⟨b2,1,none⟩ = false) (c0 : ∃ y,w2.cell? ⟨b2,0,none⟩ = some y) (c1 : ∃ y,w3.cell? ⟨b2,1,none⟩ = some y) (hd : w4.heap[b2]? = some (.cells #[.slice (some ⟨b,0,none⟩) 320 320,.bool true] 72 (0,0))) (hu : ∃ fs,Try.prog.underlying 72 = some (.struct fs)) :
  Calls Try.prog 32 #[.int .i64 40] W fun e w' => e = .returned (.agg #[.slice (some ⟨b,0,none⟩) 320 320,.bool true])∧w' = w4 := by
 obtain ⟨y0,c0⟩ := c0
 obtain ⟨y1,c1⟩ := c1
 go_enter Try.func32,Try.ntmps32
 go_wp2
 obtain ⟨fs,hu⟩ := hu
 exact bodyPost_ret (results_cell_row rfl _ _ b2 72 _ (0,0) (.struct fs) rfl hd hu rfl (by kernel_rfl)) rfl ⟨rfl,rfl⟩
set_option maxHeartbeats 8000000 in
set_option maxRecDepth 1000000 in
theorem fresh_walk (W : World) (b4 : Nat) (hb4 : W.heap.size = b4) (w1 : World) (hw1 : W.alloc (.cells #[.pointer none,.pointer none,.pointer none,.pointer none] 29) = w1) (K : Nat → Nat → Nat → Nat → World → Prop)
  (h : Calls Try.prog 10 #[.int .i64 1,.int .i64 6] w1 fun e w2 => e = .returned (.int .i64 1)∧Calls Try.prog 10 #[.int .i64 1,.int .i64 4] w2 fun e w3 => e = .returned (.int .i64 1)∧Calls Try.prog 16 #[.int .i64 1,.int .i64 1,.int .i64 0] w3 fun e w4 => ∃ pb : Nat,e = .returned (.tuple #[.pointer (some ⟨pb,0,none⟩),.int .i64 0]) ∧
   Calls Try.prog 31 #[.int .i64 40] w4 fun e w5 => ∃ nb : Nat,e = .returned (.tuple #[.pointer (some ⟨nb,0,none⟩),.int .i64 0])∧Calls Try.prog 32 #[.int .i64 40] w5 fun e w6 => ∃ (ab : Nat) (w7 w8 w9 : World),e = .returned (.agg #[.slice (some ⟨ab,0,none⟩) 320 320,.bool true]) ∧
    w6.alloc (.cells #[.slice (some ⟨ab,0,none⟩) 320 320,.bool true] 72) = w7∧w7.cell? ⟨w6.heap.size,0,none⟩ = some (.slice (some ⟨ab,0,none⟩) 320 320)∧w7.frozen? ⟨ab,0,none⟩ = false∧(∃ y,w7.cell? ⟨ab,0,none⟩ = some y)∧w7.setCell ⟨ab,0,none⟩ (.int .u64 1) = w8∧w8.frozen? ⟨ab,1,none⟩ = false∧(∃ y,w8.cell? ⟨ab,1,none⟩ = some y)∧w8.setCell ⟨ab,1,none⟩ (.int .u64 1) = w9 ∧
    ∀ b7,w9.heap.size = b7 → Calls Try.prog 33 #[.pointer (some ⟨nb,0,none⟩),.int .i64 0,.slice (some ⟨b7,0,none⟩) 2 2] (w9.alloc (.cells #[.int .u64 1,.int .u64 1] 23)) fun e w10 => e = .returned (.int .i64 0)∧∃ w11 w12 w13 w14 w15,
     w10.alloc (.cells #[.int .i64 1,.int .i64 1,.int .i64 0,.slice none 0 0] 70) = w11∧w11.frozen? ⟨b4,0,none⟩ = false∧(∃ y,w11.cell? ⟨b4,0,none⟩ = some y)∧w11.setCell ⟨b4,0,none⟩ (.pointer (some ⟨pb,0,none⟩)) = w12 ∧
     w12.frozen? ⟨b4,1,none⟩ = false∧(∃ y,w12.cell? ⟨b4,1,none⟩ = some y)∧w12.setCell ⟨b4,1,none⟩ (.pointer (some ⟨nb,0,none⟩)) = w13 ∧
     w13.frozen? ⟨b4,2,none⟩ = false∧(∃ y,w13.cell? ⟨b4,2,none⟩ = some y)∧w13.setCell ⟨b4,2,none⟩ (.pointer (some ⟨w10.heap.size,0,none⟩)) = w14 ∧
     w14.frozen? ⟨b4,3,none⟩ = false∧(∃ y,w14.cell? ⟨b4,3,none⟩ = some y)∧w14.setCell ⟨b4,3,none⟩ (.pointer (some ⟨w6.heap.size,0,none⟩)) = w15 ∧
     w15.cell? ⟨b4,0,none⟩ = some (.pointer (some ⟨pb,0,none⟩))∧w15.cell? ⟨b4,1,none⟩ = some (.pointer (some ⟨nb,0,none⟩))∧w15.cell? ⟨b4,2,none⟩ = some (.pointer (some ⟨w10.heap.size,0,none⟩))∧w15.cell? ⟨b4,3,none⟩ = some (.pointer (some ⟨w6.heap.size,0,none⟩))∧K pb nb w10.heap.size w6.heap.size w15) :
  Calls Try.prog 8 #[.int .i64 1,.int .i64 1] W fun e w' => ∃ pb nb qb rb : Nat,e = .returned (.tuple #[.agg #[.pointer (some ⟨pb,0,none⟩),.pointer (some ⟨nb,0,none⟩),.pointer (some ⟨qb,0,none⟩),.pointer (some ⟨rb,0,none⟩)],.bool true])∧K pb nb qb rb w' := by
 go_enter Try.func8,Try.ntmps8
 go_wp2_with (first
  | (go_at_call_of 10 (Value.int .i64 6); refine Calls.mono h ?_; clear h; rintro e w2 ⟨rfl,h⟩)
  | (go_at_call_of 10 (Value.int .i64 4); refine Calls.mono h ?_; clear h; rintro e w3 ⟨rfl,h⟩)
  | (go_at_call 16; refine Calls.mono h ?_; clear h; rintro e w4 ⟨pb,rfl,h⟩)
  | (go_at_call 31; refine Calls.mono h ?_; clear h; rintro e w5 ⟨nb,rfl,h⟩)
  | (go_at_call 32; refine Calls.mono h ?_; clear h; rintro e w6 ⟨ab,w7,w8,w9,rfl,h7,g1,g2,⟨y1,g3⟩,h8,g4,⟨y2,g5⟩,h9,h⟩)
  | (go_at_call 33; refine Calls.mono (h _ rfl) ?_; clear h; rintro e w10 ⟨rfl,w11,w12,w13,w14,w15,h11,f0,⟨z0,c0⟩,h12,f1,⟨z1,c1⟩,h13,f2,⟨z2,c2⟩,h14,f3,⟨z3,c3⟩,h15,d0,d1,d2,d3,hK⟩))
 refine bodyPost_ret (v := .tuple #[.agg #[.pointer (some ⟨pb,0,none⟩),.pointer (some ⟨nb,0,none⟩),.pointer (some ⟨w10.heap.size,0,none⟩),.pointer (some ⟨w6.heap.size,0,none⟩)],.bool true]) ?_ rfl ⟨_,_,_,_,rfl,hK⟩
 rw [results_cell_tmp rfl]
 go_simp
end Go.Proofs.Ytkefjdmoikegbaa
