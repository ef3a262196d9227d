/- Step,Take,Choices: the walks. -/
import Derived.Test.YtnjccbnlmdajkaaPstW
import Derived.Deep.RegionHeld3
set_option linter.all false
namespace Go.Proofs.Ytnjccbnlmdajkaa
open Go.RowKit Go.Shelf Go.Lib Go.Ev
attribute [local go_sem] Oper.semAt_some
attribute [local go_sem] neq_nil neq_some eql_some eql_nil
set_option maxRecDepth 1000000 in
theorem pending_walk (pb vl vc : Nat) (VA : Option Addr) (W : World) (h : W.cell? ⟨pb,3,none⟩ = some (.slice VA vl vc)) : Calls Try.prog 38 #[.pointer (some ⟨pb,0,none⟩)] W fun e w' => e = .returned (.int .i64 vl)∧w' = W := by
 go_enter Try.func38,Try.ntmps38
 go_wp2
 go_ret
 exact ⟨rfl,rfl⟩
set_option maxRecDepth 1000000 in
theorem client_walk {cc : Nat} (bf bc ci nc : Nat) (W : World) (hci : ci < nc) (h : W.cell? ⟨bf,2,none⟩ = some (.slice (some ⟨bc,0,none⟩) nc cc)) : Calls Try.prog 33 #[.pointer (some ⟨bf,0,none⟩),.int .i64 ci] W fun e w' => e = .returned (.pointer (some ⟨bc,ci * 7,none⟩))∧w' = W := by
 have hcI : (ci : Int) < (nc : Int) := by omega
 go_enter Try.func33,Try.ntmps33
 go_wp2
 go_ret
 exact ⟨rfl,rfl⟩
set_option maxHeartbeats 8000000 in
set_option maxRecDepth 1000000 in
theorem take_walk {cc : Nat} (bf bc ci nc n c : Nat) (B : Addr) (w : World) (K : World → Prop) (hci : ci < nc) (h2 : w.cell? ⟨bf,2,none⟩ = some (.slice (some ⟨bc,0,none⟩) nc cc)) (hal : w.cell? ⟨bc,ci * 7,none⟩ = some (.bool true))
  (hba : w.cell? ⟨bc,ci * 7 + 3,none⟩ = some (.slice (some B) n c)) (hwa : w.cell? ⟨bc,ci * 7 + 4,none⟩ = some (.int .i64 0)) (hf : w.frozen? ⟨bc,ci * 7 + 3,none⟩ = false) (hK : K (w.setCell ⟨bc,ci * 7 + 3,none⟩ (.slice none 0 0))) :
  Calls Try.prog 24 #[.pointer (some ⟨bf,0,none⟩),.int .i64 ci] w fun e w' => e = .returned (.tuple #[.slice (some B) n c,.bool true])∧K w' := by
 have hcI : (ci : Int) < (nc : Int) := by omega
 go_enter Try.func24,Try.ntmps24
 go_wp2
 exact bodyPost_ret (results_tmp2 rfl _ _ _) rfl ⟨rfl,hK⟩
def S9 (bl nd pb bf bn nn cnn b3 nb : Nat) (w' : World) : Prop := w'.cell? ⟨bl,nd * 2,none⟩ = some (.pointer (some ⟨pb,0,none⟩))∧w'.cell? ⟨bf,1,none⟩ = some (.slice (some ⟨bn,0,none⟩) nn cnn)∧w'.cell? ⟨b3,2,none⟩ = some (.int .i64 nd)∧w'.cell? ⟨bn,nd,none⟩ = some (.pointer (some ⟨nb,0,none⟩))
theorem cell_alloc' {W : World} {o : Obj} {b j : Nat} {v : Value} (h : W.cell? ⟨b,j,none⟩ = some v) : (W.alloc o).cell? ⟨b,j,none⟩ = some v := by
 rw [World.cell?_alloc_some _ _ _ (by rw [h]; rfl)]; exact h
theorem S9_alloc {bl nd pb bf bn nn cnn b3 nb : Nat} {W : World} {o : Obj} (h : S9 bl nd pb bf bn nn cnn b3 nb W) : S9 bl nd pb bf bn nn cnn b3 nb (W.alloc o) :=
 ⟨cell_alloc' h.1,cell_alloc' h.2.1,cell_alloc' h.2.2.1,cell_alloc' h.2.2.2⟩
def S11 (bc ci bl nd bb bm bcap pp po pl pc ix t7 : Nat) (code : Int) (A : Option Addr) (l c : Nat) (W : World) : Prop :=
 W.cell? ⟨bc,ci * 7 + 3,none⟩ = some (.slice (some ⟨bb,0,none⟩) bm bcap)∧W.cell? ⟨bl,nd * 2 + 1,none⟩ = some (.slice (some ⟨pp,po,none⟩) pl pc)∧W.cell? ⟨pp,po,none⟩ = some (.int .i64 ix)∧W.cell? ⟨t7,0,none⟩ = some (.int .i64 code)∧W.cell? ⟨t7,1,none⟩ = some (.slice A l c)
def StpFin (bc ci bl nd : Nat) (t7 : Nat) (code : Int) (A : Option Addr) (l c : Nat) (W : World) (K : World → Prop) : Prop :=
 ∃ (bb bm bcap pp po pl pc ix : Nat) (wv : Int),ix < bm∧0 < pl∧S11 bc ci bl nd bb bm bcap pp po pl pc ix t7 code A l c W ∧
  W.frozen? ⟨bb,ix * 2,none⟩ = false∧(∃ y,W.cell? ⟨bb,ix * 2,none⟩ = some y)∧(W.setCell ⟨bb,ix * 2,none⟩ (.int .i64 code)).frozen? ⟨bb,ix * 2 + 1,none⟩ = false∧(∃ y,(W.setCell ⟨bb,ix * 2,none⟩ (.int .i64 code)).cell? ⟨bb,ix * 2 + 1,none⟩ = some y) ∧
  S11 bc ci bl nd bb bm bcap pp po pl pc ix t7 code A l c ((W.setCell ⟨bb,ix * 2,none⟩ (.int .i64 code)).setCell ⟨bb,ix * 2 + 1,none⟩ (.slice A l c)) ∧
  ∀ q,(q = .slice (some ⟨pp,po + 1,none⟩) (pl - 1) (pc - 1)∧pc ≠ 1) ∨ (q = .slice (some ⟨pp,po,none⟩) (pl - 1) 0∧pc = 1) →
   Calls Try.prog 40 #[q] ((W.setCell ⟨bb,ix * 2,none⟩ (.int .i64 code)).setCell ⟨bb,ix * 2 + 1,none⟩ (.slice A l c)).drew fun e w' => ∃ (PA : Option Addr) (l' c' : Nat) (w2 : World),e = .returned (.slice PA l' c') ∧
    w'.frozen? ⟨bl,nd * 2 + 1,none⟩ = false∧(∃ y,w'.cell? ⟨bl,nd * 2 + 1,none⟩ = some y)∧w'.setCell ⟨bl,nd * 2 + 1,none⟩ (.slice PA l' c') = w2∧w2.frozen? ⟨bc,ci * 7 + 4,none⟩ = false∧w2.cell? ⟨bc,ci * 7 + 4,none⟩ = some (.int .i64 wv) ∧
    K (w2.setCell ⟨bc,ci * 7 + 4,none⟩ (.int .i64 (wrap64 (wv - 1))))
set_option maxHeartbeats 8000000 in
set_option maxRecDepth 1000000 in
theorem step_walk {cc : Nat} (bf bc ci nc bn nn cnn nd bl ll lc pb nb vl vc : Nat) (VA : Option Addr) (w w1 : World) (K : World → Prop) (hci : ci < nc) (hnl : nd < ll) (hnn : nd < nn) (hvl : 0 < vl)
  (e1 : w.alloc (.cells #[.int .i64 (-1),.int .i64 ci,.int .i64 nd] 40) = w1) (b3 : Nat) (hb3 : w.heap.size = b3)
  (k0 : w1.cell? ⟨b3,0,none⟩ = some (.int .i64 (-1))) (k1 : w1.cell? ⟨b3,1,none⟩ = some (.int .i64 ci)) (k2 : w1.cell? ⟨b3,2,none⟩ = some (.int .i64 nd))
  (h1 : w1.cell? ⟨bf,1,none⟩ = some (.slice (some ⟨bn,0,none⟩) nn cnn)) (h2 : w1.cell? ⟨bf,2,none⟩ = some (.slice (some ⟨bc,0,none⟩) nc cc)) (hla : w1.cell? ⟨bc,ci * 7 + 2,none⟩ = some (.slice (some ⟨bl,0,none⟩) ll lc))
  (hp : w1.cell? ⟨bl,nd * 2,none⟩ = some (.pointer (some ⟨pb,0,none⟩))) (hnp : w1.cell? ⟨bn,nd,none⟩ = some (.pointer (some ⟨nb,0,none⟩))) (hv : w1.cell? ⟨pb,3,none⟩ = some (.slice VA vl vc))
  (b7 : Nat) (hb7 : w1.heap.size = b7)
  (hst1 : Calls Try.prog 39 #[.pointer (some ⟨pb,0,none⟩),.pointer (some ⟨nb,0,none⟩)] w1.drew.drew.drew fun e w' => ∃ (code : Int) (A : Option Addr) (l c : Nat),e = .returned (.tuple #[.agg #[.int .i64 code,.slice A l c],.bool true])∧S9 bl nd pb bf bn nn cnn b3 nb w'∧StpFin bc ci bl nd w'.heap.size code A l c (w'.alloc (.cells #[.int .i64 code,.slice A l c] 67)) K)
  (hst2 : Calls Try.prog 39 #[.pointer (some ⟨pb,0,none⟩),.pointer (some ⟨nb,0,none⟩)] (w1.drew.drew.drew.alloc (.cells #[.int .i64 0,.slice none 0 0] 67)) fun e w' => ∃ (code : Int) (A : Option Addr) (l c : Nat),e = .returned (.tuple #[.agg #[.int .i64 code,.slice A l c],.bool true])∧S9 bl nd pb bf bn nn cnn b3 nb w' ∧
   w'.frozen? ⟨b7,0,none⟩ = false∧(w'.setCell ⟨b7,0,none⟩ (.int .i64 code)).frozen? ⟨b7,1,none⟩ = false∧(∃ y,w'.cell? ⟨b7,0,none⟩ = some y)∧(∃ y,(w'.setCell ⟨b7,0,none⟩ (.int .i64 code)).cell? ⟨b7,1,none⟩ = some y)∧S9 bl nd pb bf bn nn cnn b3 nb ((w'.setCell ⟨b7,0,none⟩ (.int .i64 code)).setCell ⟨b7,1,none⟩ (.slice A l c))∧StpFin bc ci bl nd b7 code A l c ((w'.setCell ⟨b7,0,none⟩ (.int .i64 code)).setCell ⟨b7,1,none⟩ (.slice A l c)) K)
  :
  Calls Try.prog 20 #[.pointer (some ⟨bf,0,none⟩),.agg #[.int .i64 (-1),.int .i64 ci,.int .i64 nd]] w fun e w' => e = .returned (.bool true)∧K w' := by
 have mixed : Try.prog.follows .mixedOrders = true := by kernel_rfl
 have hcI : (ci : Int) < (nc : Int) := by omega
 have hnlI : (nd : Int) < (ll : Int) := by omega
 have hnnI : (nd : Int) < (nn : Int) := by omega
 have hd1 : ¬ (ll ≤ nd) := by omega
 have hd2 : ¬ ((ll : Int) ≤ (nd : Int)) := by omega
 have hd3 : ¬ ((nd : Int) < 0) := by omega
 have hvb : ((vl : Int) == 0) = false := beq_eq_false_iff_ne.2 (by omega)
 have hcw := client_walk bf bc ci nc w1 hci h2
 have hpw := pending_walk pb vl vc VA w1.drew hv
 go_enter Try.func20,Try.ntmps20
 go_wp2_with (go_at_call 33; refine Calls.mono hcw ?_; clear hcw; rintro e w' ⟨rfl,hw⟩; rw [hw]; clear hw)
 have hS6 : w1.drew.cell? ⟨b3,2,none⟩ = some (.int .i64 nd)∧w1.drew.cell? ⟨bc,ci * 7 + 2,none⟩ = some (.slice (some ⟨bl,0,none⟩) ll lc)∧w1.drew.cell? ⟨bl,nd * 2,none⟩ = some (.pointer (some ⟨pb,0,none⟩)) := ⟨k2,hla,hp⟩
 go_region_held3 (fun w' => w'.cell? ⟨b3,2,none⟩ = some (.int .i64 nd)∧w'.cell? ⟨bc,ci * 7 + 2,none⟩ = some (.slice (some ⟨bl,0,none⟩) ll lc)∧w'.cell? ⟨bl,nd * 2,none⟩ = some (.pointer (some ⟨pb,0,none⟩)))
  (first | exact hS6)
  (first | (go_at_call 38; refine Calls.mono hpw ?_; rintro e w' ⟨rfl,hw⟩; rw [hw]; clear hw))
 clear hS6 hpw
 go_wp2
 go_region_o
 go_wp2
 have hS9 : S9 bl nd pb bf bn nn cnn b3 nb w1.drew.drew.drew := ⟨hp,h1,k2,hnp⟩
 have hS9a : S9 bl nd pb bf bn nn cnn b3 nb (w1.drew.drew.drew.alloc (.cells #[.int .i64 0,.slice none 0 0] 67)) := S9_alloc hS9
 go_region_held3 (fun w' => w'.cell? ⟨bl,nd * 2,none⟩ = some (.pointer (some ⟨pb,0,none⟩))∧w'.cell? ⟨bf,1,none⟩ = some (.slice (some ⟨bn,0,none⟩) nn cnn)∧w'.cell? ⟨b3,2,none⟩ = some (.int .i64 nd)∧w'.cell? ⟨bn,nd,none⟩ = some (.pointer (some ⟨nb,0,none⟩)))
  (first | exact hS9 | exact hS9a | exact hS9b | exact S9_alloc hS9b | exact hS9c)
  (first | (go_at_call 39; refine Calls.mono hst1 ?_; rintro e w' ⟨code,A,l,c,rfl,hS9b,hF⟩) | (go_at_call 39; refine Calls.mono hst2 ?_; rintro e w' ⟨code,A,l,c,rfl,hS9b,z1,z2,⟨y1,z3⟩,⟨y2,z4⟩,hS9c,hF⟩))
 ·obtain ⟨bb,bm,bcap,pp,po,pl,pc,ix,wv,hix,hpl,hS,f0,⟨y5,x0⟩,f1,⟨y6,x1⟩,hS',hcl⟩ := hF
  have hixI : (ix : Int) < (bm : Int) := by omega
  have hplI : (0 : Int) < (pl : Int) := by omega
  clear hst1 hst2
  go_wp2
  go_region_held3 (fun v' => v'.cell? ⟨bc,ci * 7 + 3,none⟩ = some (.slice (some ⟨bb,0,none⟩) bm bcap)∧v'.cell? ⟨bl,nd * 2 + 1,none⟩ = some (.slice (some ⟨pp,po,none⟩) pl pc)∧v'.cell? ⟨pp,po,none⟩ = some (.int .i64 ix)∧v'.cell? ⟨w'.heap.size,0,none⟩ = some (.int .i64 code)∧v'.cell? ⟨w'.heap.size,1,none⟩ = some (.slice A l c))
   (first | exact hS | exact hS')
   (fail)
  have hq1 := hS'.2.1
  by_cases hpc : pc = 1
  ·have hcl := hcl _ (.inr ⟨rfl,hpc⟩)
   go_wp2_with (go_at_call 40; refine Calls.mono hcl ?_; clear hcl; rintro e w'' ⟨PA,l',c',w2,rfl,r0,⟨y7,r1⟩,r2,r3,r4,hK⟩)
   go_ret
   exact ⟨rfl,hK⟩
  ·have hcl := hcl _ (.inl ⟨rfl,hpc⟩)
   go_wp2_with (go_at_call 40; refine Calls.mono hcl ?_; clear hcl; rintro e w'' ⟨PA,l',c',w2,rfl,r0,⟨y7,r1⟩,r2,r3,r4,hK⟩)
   go_ret
   exact ⟨rfl,hK⟩
 ·obtain ⟨bb,bm,bcap,pp,po,pl,pc,ix,wv,hix,hpl,hS,f0,⟨y5,x0⟩,f1,⟨y6,x1⟩,hS',hcl⟩ := hF
  have hixI : (ix : Int) < (bm : Int) := by omega
  have hplI : (0 : Int) < (pl : Int) := by omega
  clear hst1 hst2
  go_wp2
  go_region_held3 (fun v' => v'.cell? ⟨bc,ci * 7 + 3,none⟩ = some (.slice (some ⟨bb,0,none⟩) bm bcap)∧v'.cell? ⟨bl,nd * 2 + 1,none⟩ = some (.slice (some ⟨pp,po,none⟩) pl pc)∧v'.cell? ⟨pp,po,none⟩ = some (.int .i64 ix)∧v'.cell? ⟨b7,0,none⟩ = some (.int .i64 code)∧v'.cell? ⟨b7,1,none⟩ = some (.slice A l c))
   (first | exact hS | exact hS')
   (fail)
  have hq1 := hS'.2.1
  by_cases hpc : pc = 1
  ·have hcl := hcl _ (.inr ⟨rfl,hpc⟩)
   go_wp2_with (go_at_call 40; refine Calls.mono hcl ?_; clear hcl; rintro e w'' ⟨PA,l',c',w2,rfl,r0,⟨y7,r1⟩,r2,r3,r4,hK⟩)
   go_ret
   exact ⟨rfl,hK⟩
  ·have hcl := hcl _ (.inl ⟨rfl,hpc⟩)
   go_wp2_with (go_at_call 40; refine Calls.mono hcl ?_; clear hcl; rintro e w'' ⟨PA,l',c',w2,rfl,r0,⟨y7,r1⟩,r2,r3,r4,hK⟩)
   go_ret
   exact ⟨rfl,hK⟩
end Go.Proofs.Ytnjccbnlmdajkaa
