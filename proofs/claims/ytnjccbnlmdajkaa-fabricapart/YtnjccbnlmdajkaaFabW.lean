/- fabric.New: the walks. -/
import Derived.Test.YtnjccbnlmdajkaaRows
import Derived.Test.YtnjccbnlmdajkaaEv12
import Derived.WalkKit
import Derived.Deep.LoopGhost
import Derived.Deep.WholeRow
import Derived.Lib.Walk
import Derived.Lib.SliceRun
set_option linter.all false
namespace Go.Proofs.Ytnjccbnlmdajkaa
open Go.RowKit Go.Shelf Go.Lib Go.Ev
attribute [local go_sem] Oper.semAt_some
def Hid (p : Prop) : Prop := p
theorem Hid.out {p : Prop} (h : Hid p) : p := h
theorem w64 (x : Int) : wrap64 x = IntKind.i64.wrap x := by rw [w_i64]; unfold wrap64; omega
def CnPost (client bc : Nat) (K : World → Prop) (e : Ending) (W : World) : Prop :=
 ∃ (pb : Nat) (x : Int) (LA : Option Addr) (ll lc B c' : Nat) (W4 : World),e = .returned (.tuple #[.pointer (some ⟨pb,0,none⟩),.int .i64 x])∧W.cell? ⟨bc,client * 7 + 2,none⟩ = some (.slice LA ll lc) ∧
  Hid (∀ ty,(Builtin.append_ #[72,72] ty #[.slice LA ll lc,.slice (some ⟨W.heap.size,0,none⟩) 1 1]).run Try.prog (W.alloc (.cells #[.pointer (some ⟨pb,0,none⟩),.slice none 0 0] 82)) = .ok (.slice (some ⟨B,0,none⟩) (ll + 1) c') W4) ∧
  W4.frozen? ⟨bc,client * 7 + 2,none⟩ = false∧(∃ x,W4.cell? ⟨bc,client * 7 + 2,none⟩ = some x)∧K (W4.setCell ⟨bc,client * 7 + 2,none⟩ (.slice (some ⟨B,0,none⟩) (ll + 1) c'))
set_option maxHeartbeats 8000000 in
set_option maxRecDepth 1000000 in
theorem connect_walk (bf bc client nc cc n ca : Nat) (NA : Option Addr) (inc : Int) (w w1 w2 w3 : World) (J : Nat → World → Prop) (hbig : n ≤ 1000)
  (h1 : w.cell? ⟨bf,2,none⟩ = some (.slice (some ⟨bc,0,none⟩) nc cc)) (hcl : client < nc)
  (e1 : w.setCell ⟨bc,client * 7,none⟩ (.bool true) = w1) (e2 : w1.setCell ⟨bc,client * 7 + 1,none⟩ (.int .i64 inc) = w2) (e3 : w2.setCell ⟨bc,client * 7 + 2,none⟩ (.slice none 0 0) = w3)
  (f0 : w.frozen? ⟨bc,client * 7,none⟩ = false) (f1 : w1.frozen? ⟨bc,client * 7 + 1,none⟩ = false) (f2 : w2.frozen? ⟨bc,client * 7 + 2,none⟩ = false)
  (c0 : ∃ x,w.cell? ⟨bc,client * 7,none⟩ = some x) (c1 : ∃ x,w1.cell? ⟨bc,client * 7 + 1,none⟩ = some x) (c2 : ∃ x,w2.cell? ⟨bc,client * 7 + 2,none⟩ = some x)
  (hn : w3.cell? ⟨bf,1,none⟩ = some (.slice NA n ca)) (hJ0 : J 0 w3)
  (hJ : ∀ i W,i < n → J i W → Calls Try.prog 51 #[.int .i64 client,.int .i64 inc,.int .i64 i] W (CnPost client bc (J (i + 1)))) :
  Calls Try.prog 32 #[.pointer (some ⟨bf,0,none⟩),.int .i64 client,.int .i64 inc] w fun e w' => e = .returned (.tuple #[])∧J n w' := by
 have hclI : (client : Int) < (nc : Int) := by omega
 obtain ⟨x0,c0⟩ := c0
 obtain ⟨x1,c1⟩ := c1
 obtain ⟨x2,c2⟩ := c2
 go_enter Try.func32,Try.ntmps32
 go_wp2
 go_loopg [31] n (fun g s W => ∃ i : Nat,i + g = n∧s = .int .i64 i∧J i W)
 case atStart => exact ⟨0,by omega,rfl,hJ0⟩
 case round =>
  obtain ⟨i,hig,rfl,hI⟩ := hrel
  cases gk with
  | zero =>
   obtain rfl : i = n := by omega
   clear hJ hig
   go_wp2
   exact bodyPost_end (results_none rfl _ _ _) rfl ⟨rfl,hI⟩
  | succ g =>
   have hi : i < n := by omega
   have hin : (i : Int) < (n : Int) := by omega
   have hnew := hJ i wr hi hI
   have hw : wrap64 ((i : Int) + 1) = ((i + 1 : Nat) : Int) := by rw [w64,w_i64]; omega
   clear hJ hI
   go_wp2_with (first | (go_at_call 51; refine Calls.mono hnew ?_; clear hnew; rintro e w' ⟨pb,x,LA,ll,lc,B,c',W4,rfl,hc,hap,hf,⟨y,hy⟩,hK⟩) | (at_builtin; refine Lib.wpList_append_run _ rfl _ _ _ _ rfl _ _ rfl rfl _ _ (hap.out _) ?_))
   go_roundg g
   case measure => omega
   case rel => exact ⟨i + 1,by omega,rfl,hK⟩
def NwPost (bf : Nat) (K : World → Prop) (e : Ending) (W : World) : Prop :=
 ∃ (pb : Nat) (LA : Option Addr) (ll lc B c' : Nat) (W4 : World),e = .returned (.tuple #[.pointer (some ⟨pb,0,none⟩),.int .i64 0])∧W.cell? ⟨bf,1,none⟩ = some (.slice LA ll lc) ∧
  Hid (∀ ty,(Builtin.append_ #[59,59] ty #[.slice LA ll lc,.slice (some ⟨W.heap.size,0,none⟩) 1 1]).run Try.prog (W.alloc (.cells #[.pointer (some ⟨pb,0,none⟩)] 28)) = .ok (.slice (some ⟨B,0,none⟩) (ll + 1) c') W4) ∧
  W4.frozen? ⟨bf,1,none⟩ = false∧(∃ x,W4.cell? ⟨bf,1,none⟩ = some x)∧K (W4.setCell ⟨bf,1,none⟩ (.slice (some ⟨B,0,none⟩) (ll + 1) c'))
set_option maxHeartbeats 8000000 in
set_option maxRecDepth 1000000 in
theorem new_walk (nodes clients : Nat) (lines : Int) (w : World) (J J2 : Nat → World → Prop) (hn : 1 ≤ nodes∧nodes ≤ 5) (hc : 1 ≤ clients∧clients ≤ 6) (hl : 1 ≤ lines∧lines ≤ 256) (MC : Array Value)
  (hmk : (Instr.makeSlice 58 (.int .i64 clients) (.int .i64 clients)).run Try.prog w = .ok (.slice (some ⟨w.heap.size,0,none⟩) clients clients) (w.alloc (.cells MC 74)))
  (hJ0 : J 0 ((w.alloc (.cells MC 74)).alloc (.cells #[.int .i64 lines,.slice none 0 0,.slice (some ⟨w.heap.size,0,none⟩) clients clients,.slice none 0 0] 62)))
  (hJ : ∀ i W,i < nodes → J i W → Calls Try.prog 31 #[.int .i64 lines] W (NwPost (w.heap.size + 1) (J (i + 1))))
  (h12 : ∀ W,J nodes W → J2 0 W∧W.cell? ⟨w.heap.size + 1,2,none⟩ = some (.slice (some ⟨w.heap.size,0,none⟩) clients clients))
  (hJ2 : ∀ c W,c < clients → J2 c W → Calls Try.prog 32 #[.pointer (some ⟨w.heap.size + 1,0,none⟩),.int .i64 c,.int .i64 1] W fun e w' => e = .returned (.tuple #[])∧J2 (c + 1) w') :
  Calls Try.prog 7 #[.int .i64 nodes,.int .i64 clients,.int .i64 lines] w fun e w' => e = .returned (.tuple #[.pointer (some ⟨w.heap.size + 1,0,none⟩),.int .i64 0])∧J2 clients w' := by
 have g1 : ¬ (nodes : Int) < 1 := by omega
 have g2 : ¬ (5 : Int) < (nodes : Int) := by omega
 have g3 : ¬ (clients : Int) < 1 := by omega
 have g4 : ¬ (6 : Int) < (clients : Int) := by omega
 have g5 : ¬ lines < 1 := by omega
 have g6 : ¬ 256 < lines := by omega
 go_enter Try.func7,Try.ntmps7
 go_wp2
 go_loopg [40] nodes (fun g s W => ∃ i : Nat,i + g = nodes∧s = .int .i64 i∧J i W)
 case atStart => exact ⟨0,by omega,rfl,hJ0⟩
 case round =>
  obtain ⟨i,hig,rfl,hI⟩ := hrel
  cases gk with
  | succ g =>
   have hi : i < nodes := by omega
   have hin : (i : Int) < (nodes : Int) := by omega
   have hnew := hJ i wr hi hI
   have hw : wrap64 ((i : Int) + 1) = ((i + 1 : Nat) : Int) := by rw [w64,w_i64]; omega
   clear hJ hI h12 hJ2 hJ0 hmk
   go_wp2_with (first | (go_at_call 31; refine Calls.mono hnew ?_; clear hnew; rintro e w' ⟨pb,LA,ll,lc,B,c',W4,rfl,hc,hap,hf,⟨y,hy⟩,hK⟩) | (at_builtin; refine Lib.wpList_append_run _ rfl _ _ _ _ rfl _ _ rfl rfl _ _ (hap.out _) ?_))
   go_roundg g
   case measure => omega
   case rel => exact ⟨i + 1,by omega,rfl,hK⟩
  | zero =>
   obtain rfl : i = nodes := by omega
   obtain ⟨hI2,hc2⟩ := h12 wr hI
   clear hJ hI h12 hJ0 hmk hig
   go_wp2
   go_loopg [66] clients (fun g s W => ∃ c : Nat,c + g = clients∧s = .int .i64 c∧J2 c W)
   case atStart => exact ⟨0,by omega,rfl,hI2⟩
   case round =>
    obtain ⟨c,hcg,rfl,hI⟩ := hrel
    cases gk with
    | succ g =>
     have hcl : c < clients := by omega
     have hcI : (c : Int) < (clients : Int) := by omega
     have hcon := hJ2 c wr hcl hI
     have hw : wrap64 ((c : Int) + 1) = ((c + 1 : Nat) : Int) := by rw [w64,w_i64]; omega
     clear hJ2 hI hI2 hc2
     go_wp2_with (go_at_call 32; refine Calls.mono hcon ?_; clear hcon; rintro e w' ⟨rfl,hK⟩)
     go_roundg g
     case measure => omega
     case rel => exact ⟨c + 1,by omega,rfl,hK⟩
    | zero =>
     obtain rfl : c = clients := by omega
     clear hJ2 hI2 hc2 hcg
     go_wp2
     exact bodyPost_ret (results_tmp2 rfl _ _ _) rfl ⟨rfl,hI⟩
end Go.Proofs.Ytnjccbnlmdajkaa
