/- More small functions of a fabric: the walks. -/
import Derived.Test.YtnjccbnlmdajkaaSmlW
set_option linter.all false
namespace Go.Proofs.Ytnjccbnlmdajkaa
open Go.RowKit Go.Shelf Go.Lib Go.Ev
attribute [local go_sem] Oper.semAt_some
attribute [local go_sem] neq_nil neq_some eql_some eql_nil
set_option maxRecDepth 1000000 in
theorem waiting_walk {cc : Nat} (bf bc ci nc : Nat) (b : Int) (W : World) (hci : ci < nc) (h : W.cell? ⟨bf,2,none⟩ = some (.slice (some ⟨bc,0,none⟩) nc cc)) (hal : W.cell? ⟨bc,ci * 7 + 4,none⟩ = some (.int .i64 b)) : Calls Try.prog 19 #[.pointer (some ⟨bf,0,none⟩),.int .i64 ci] W fun e w' => e = .returned (.int .i64 b)∧w' = W := by
 have hcw := client_walk bf bc ci nc W hci h
 go_enter Try.func19,Try.ntmps19
 go_wp2_with (go_at_call 33; refine Calls.mono hcw ?_; clear hcw; rintro e w' ⟨rfl,hw⟩; rw [hw]; clear hw)
 go_ret
 exact ⟨rfl,rfl⟩
set_option maxHeartbeats 8000000 in
set_option maxRecDepth 1000000 in
theorem post_inv {cc : Nat} (bf bc ci nc bn nn cnn vb vo m vc k : Nat) (lines code : Int) (w : World) (J1 : Nat → World → Prop) (K : World → Prop) (hci : ci < nc) (hm : 1 ≤ m∧m ≤ 1024) (hk : k < m) (hcode : code ≠ 0)
  (h2 : w.cell? ⟨bf,2,none⟩ = some (.slice (some ⟨bc,0,none⟩) nc cc)) (hal : w.cell? ⟨bc,ci * 7,none⟩ = some (.bool true)) (hba : w.cell? ⟨bc,ci * 7 + 3,none⟩ = some (.slice none 0 0)) (hJ1 : J1 0 w)
  (hv : ∀ i W,i ≤ k → J1 i W → ∃ (kd nd at_ n old nw : Int) (A : Option Addr) (l c : Nat) (key bt : Int),VrbAt W vb (vo + i * 9) kd nd at_ n old nw A l c key bt∧S13 bf bn nn cnn lines (W.alloc (.cells (vCells kd nd at_ n old nw A l c key bt) 50)).drew W.heap.size kd nd at_ n old nw A l c key bt ∧
   Calls Try.prog 35 #[.agg (vCells kd nd at_ n old nw A l c key bt),.int .i64 nn,.int .i64 lines] (W.alloc (.cells (vCells kd nd at_ n old nw A l c key bt) 50)).drew fun e w' => ∃ z : Int,e = .returned (.int .i64 z)∧(i < k → z = 0)∧(i = k → z = code)∧J1 (i + 1) w'∧S13 bf bn nn cnn lines w' W.heap.size kd nd at_ n old nw A l c key bt)
  (hK : ∀ W,J1 (k + 1) W → K W) :
  Calls Try.prog 18 #[.pointer (some ⟨bf,0,none⟩),.int .i64 ci,.slice (some ⟨vb,vo,none⟩) m vc] w fun e w' => e = .returned (.int .i64 code)∧K w' := by
 have mixed : Try.prog.follows .mixedOrders = true := by kernel_rfl
 have hcI : (ci : Int) < (nc : Int) := by omega
 have hm0 : ¬ (m : Int) = 0 := by omega
 have hm1 : ¬ (1024 : Int) < (m : Int) := by omega
 have hmb : ((m : Int) == 0) = false := beq_eq_false_iff_ne.2 hm0
 have hcb : (code == 0) = false := beq_eq_false_iff_ne.2 hcode
 have HV : Hid (∀ i W,i ≤ k → J1 i W → ∃ (kd nd at_ n old nw : Int) (A : Option Addr) (l c : Nat) (key bt : Int),VrbAt W vb (vo + i * 9) kd nd at_ n old nw A l c key bt∧S13 bf bn nn cnn lines (W.alloc (.cells (vCells kd nd at_ n old nw A l c key bt) 50)).drew W.heap.size kd nd at_ n old nw A l c key bt ∧
   Calls Try.prog 35 #[.agg (vCells kd nd at_ n old nw A l c key bt),.int .i64 nn,.int .i64 lines] (W.alloc (.cells (vCells kd nd at_ n old nw A l c key bt) 50)).drew fun e w' => ∃ z : Int,e = .returned (.int .i64 z)∧(i < k → z = 0)∧(i = k → z = code)∧J1 (i + 1) w'∧S13 bf bn nn cnn lines w' W.heap.size kd nd at_ n old nw A l c key bt) := hv
 clear hv
 go_enter Try.func18,Try.ntmps18
 go_wp2
 go_loopg [43] (k + 1) (fun g s W => ∃ i : Nat,i + g = k + 1∧1 ≤ g∧s = .int .i64 i∧J1 i W)
 case atStart => exact ⟨0,by omega,by omega,rfl,hJ1⟩
 case round =>
  obtain ⟨i,hig,hg1,rfl,hI⟩ := hrel
  cases gk with
  | zero => omega
  | succ g =>
   have hi : i < m := by omega
   have hiI : (i : Int) < (m : Int) := by omega
   obtain ⟨kd,nd,at_,n,old,nw,A,l,c,key,bt,⟨v0,v1,v2,v3,v4,v5,v6,v7,v8⟩,hS0,hcall⟩ := HV.out i wr (by omega) hI
   have hw : wrap64 ((i : Int) + 1) = ((i + 1 : Nat) : Int) := by rw [w64,w_i64]; omega
   clear hJ1 HV hI h2 hal hba
   go_wp2
   go_region_held3 (fun w' => w'.cell? ⟨wr.heap.size,0,none⟩ = some (.int .i64 kd)∧w'.cell? ⟨wr.heap.size,1,none⟩ = some (.int .i64 nd)∧w'.cell? ⟨wr.heap.size,2,none⟩ = some (.int .i64 at_)∧w'.cell? ⟨wr.heap.size,3,none⟩ = some (.int .i64 n)∧w'.cell? ⟨wr.heap.size,4,none⟩ = some (.int .u64 old) ∧
    w'.cell? ⟨wr.heap.size,5,none⟩ = some (.int .u64 nw)∧w'.cell? ⟨wr.heap.size,6,none⟩ = some (.slice A l c)∧w'.cell? ⟨wr.heap.size,7,none⟩ = some (.int .u64 key)∧w'.cell? ⟨wr.heap.size,8,none⟩ = some (.int .i64 bt)∧w'.cell? ⟨bf,0,none⟩ = some (.int .i64 lines)∧w'.cell? ⟨bf,1,none⟩ = some (.slice (some ⟨bn,0,none⟩) nn cnn))
    (first | exact hS0 | exact hS1)
    (first | (go_at_call 35; refine Calls.mono hcall ?_; clear hcall; rintro e w' ⟨z,rfl,hz0,hz1,hJ,hS1⟩))
   all_goals
    by_cases hik : i = k
    ·obtain rfl := hz1 hik
     subst hik
     have hKK := hK _ hJ
     clear hS1 hS0 hJ hK
     go_wp2
     go_ret
     exact ⟨rfl,hKK⟩
    ·obtain rfl := hz0 (by omega)
     go_wp2
     go_roundg g
     case measure => omega
     case rel => exact ⟨i + 1,by omega,by omega,rfl,hJ⟩
end Go.Proofs.Ytnjccbnlmdajkaa
