/- The example of chapter 6: the walk. -/
import Derived.Test.YtnjccbnlmdajkaaChsW
set_option linter.all false
namespace Go.Proofs.Ytnjccbnlmdajkaa
open Go.RowKit Go.Shelf Go.Lib Go.Ev
attribute [local go_sem] Oper.semAt_some
abbrev vb18 : Array Value := #[.int .i64 3,.int .i64 0,.int .i64 0,.int .i64 0,.int .u64 0,.int .u64 4,.slice none 0 0,.int .u64 0,.int .i64 0,.int .i64 1,.int .i64 0,.int .i64 0,.int .i64 1,.int .u64 0,.int .u64 0,.slice none 0 0,.int .u64 0,.int .i64 0]
set_option maxHeartbeats 8000000 in
set_option maxRecDepth 1000000 in
theorem awake_walk (bf bb cb : Nat) (w : World) (L0 L1 L2 L3 L4 R : World → Prop)
  (hnew : Calls Try.prog 7 #[.int .i64 1,.int .i64 1,.int .i64 5] w fun e w' => e = .returned (.tuple #[.pointer (some ⟨bf,0,none⟩),.int .i64 0])∧L0 w')
  (hpost : ∀ W,L0 W → Calls Try.prog 18 #[.pointer (some ⟨bf,0,none⟩),.int .i64 0,.slice (some ⟨W.heap.size,0,none⟩) 2 2] (W.alloc (.cells vb18 50)) fun e w' => e = .returned (.int .i64 0)∧L1 w')
  (hch : ∀ W,L1 W → Calls Try.prog 21 #[.pointer (some ⟨bf,0,none⟩)] W fun e w' => (∃ A c,e = .returned (.slice A 1 c))∧L2 w')
  (hs1 : ∀ W,L2 W → Calls Try.prog 20 #[.pointer (some ⟨bf,0,none⟩),.agg #[.int .i64 (-1),.int .i64 0,.int .i64 0]] W fun e w' => e = .returned (.bool true)∧L3 w')
  (hs2 : ∀ W,L3 W → Calls Try.prog 20 #[.pointer (some ⟨bf,0,none⟩),.agg #[.int .i64 (-1),.int .i64 0,.int .i64 0]] W fun e w' => e = .returned (.bool true)∧L4 w')
  (htk : ∀ W,L4 W → Calls Try.prog 24 #[.pointer (some ⟨bf,0,none⟩),.int .i64 0] W fun e w' => ∃ (bb cb : Nat) (A1 : Option Addr) (c1 q o c2 : Nat),e = .returned (.tuple #[.slice (some ⟨bb,0,none⟩) 2 cb,.bool true])∧w'.cell? ⟨bb,1,none⟩ = some (.slice A1 1 c1)∧w'.cell? ⟨bb,3,none⟩ = some (.slice (some ⟨q,o,none⟩) 1 c2)∧w'.cell? ⟨q,o,none⟩ = some (.int .u64 4)∧R w') :
  Calls Try.prog 8 #[] w fun e w' => e = .returned (.bool true)∧R w' := by
 go_enter Try.func8,Try.ntmps8
 go_wp2_with (first
  | (go_at_call 7; refine Calls.mono hnew ?_; clear hnew; rintro e w1 ⟨rfl,hL0⟩)
  | (go_at_call 18; refine Calls.mono (hpost _ hL0) ?_; clear hpost; rintro e w2 ⟨rfl,hL1⟩)
  | (go_at_call 21; refine Calls.mono (hch _ hL1) ?_; clear hch; rintro e w3 ⟨⟨CA,cc,rfl⟩,hL2⟩)
  | (go_at_call 20; refine Calls.mono (hs1 _ hL2) ?_; clear hs1; rintro e w4 ⟨rfl,hL3⟩)
  | (go_at_call 20; refine Calls.mono (hs2 _ hL3) ?_; clear hs2; rintro e w5 ⟨rfl,hL4⟩)
  | (go_at_call 24; refine Calls.mono (htk _ hL4) ?_; clear htk; rintro e w6 ⟨bb,cb,A1,c1,q,o,c2,rfl,k1,k2,k3,hR⟩))
 go_ret
 exact ⟨rfl,hR⟩
end Go.Proofs.Ytnjccbnlmdajkaa
