/- fresh: the four objects. -/
import Derived.Test.YtkefjdmoikegbaaFrsL
set_option linter.all false
namespace Go.Proofs.Ytkefjdmoikegbaa
open Go.RowKit Go.Shelf Go.Lib Go.Ev
set_option maxRecDepth 100000
section
variable {w0 W : World} {μ : Mu} {I : Nat → Option ItemO}
theorem zer_cells : zer.toList = (List.replicate 320 (Value.int .u64 0)) := by unfold zer; exact Array.toList_replicate
theorem rc_mem0 : (((List.replicate 320 (Value.int .u64 0)).map AV.v).set 0 (.v (.int .u64 1))).set 1 (.v (.int .u64 1)) = mem0.map fun x => AV.v (.int .u64 x) := by kernel_rfl
theorem fresh_ok (h : Kst w0 μ I W) : Calls Try.prog 8 #[.int .i64 1,.int .i64 1] W fun e w' => ∃ pb nb qb rb : Nat,e = .returned (.tuple #[.agg #[.pointer (some ⟨pb,0,none⟩),.pointer (some ⟨nb,0,none⟩),.pointer (some ⟨qb,0,none⟩),.pointer (some ⟨rb,0,none⟩)],.bool true]) ∧
  ∃ (μ' : Mu) (I' : Nat → Option ItemO),MuLe μ μ'∧Kst w0 μ' I' w'∧St4 I' 0 pb nb qb rb ⟨1,1,[],0,[]⟩ true mem0 false := by
 have hws := h.kept.size
 obtain ⟨b4,hb4⟩ : ∃ b,W.heap.size = b := ⟨_,rfl⟩
 obtain ⟨w1,hw1⟩ : ∃ w1,W.alloc (.cells #[.pointer none,.pointer none,.pointer none,.pointer none] 29) = w1 := ⟨_,rfl⟩
 have hK1 : Kst w0 μ (put I 9 (some (obI b4 [b4] 29 ([Value.pointer none,.pointer none,.pointer none,.pointer none].map AV.v)))) w1 := by
  rw [← hw1,← hb4]
  exact h.alloc 9 (b0s_vals _ fun v hv => by
   simp only [List.mem_cons,List.not_mem_nil,or_false] at hv
   rcases hv with rfl | rfl | rfl | rfl <;> rfl)
 refine fresh_walk W b4 hb4 w1 hw1 (fun pb nb qb rb w' => ∃ (μ' : Mu) (I' : Nat → Option ItemO),MuLe μ μ'∧Kst w0 μ' I' w'∧St4 I' 0 pb nb qb rb ⟨1,1,[],0,[]⟩ true mem0 false) ?_
 refine (pick_call hK1 1 6 (by decide) (by decide)).mono fun e w2 he => ?_
 obtain ⟨rfl,k2⟩ := he
 have hK2 := hK1.kept0 k2
 refine ⟨rfl,(pick_call hK2 1 4 (by decide) (by decide)).mono fun e w3 he => ?_⟩
 obtain ⟨rfl,k3⟩ := he
 have hK3 := hK2.kept0 k3
 refine ⟨rfl,(hK3.mkOb mix extOk 0 (xs := [.int .i64 0]) (s_newPair 1 1 (by omega) (by omega)) rfl f16_at (vals := [.int .i64 1,.int .i64 1,.int .i64 0]) (b2s_vals [.int .i64 1,.int .i64 1,.int .i64 0] fun v hv => by
  simp only [List.mem_cons,List.not_mem_nil,or_false] at hv
  rcases hv with rfl | rfl | rfl <;> rfl)).mono fun e w4 he => ?_⟩
 obtain ⟨pb,Fp,rfl,hK4,k4,_⟩ := he
 refine ⟨pb,rfl,(hK4.mkOb mix extOk 1 (xs := [.int .i64 0]) (s_New 40 (by decide)) (by decide) f31_at (vals := [.int .i64 40]) (b2s_vals [.int .i64 40] fun v hv => by
  simp only [List.mem_cons,List.not_mem_nil,or_false] at hv
  rcases hv with rfl; rfl)).mono fun e w5 he => ?_⟩
 obtain ⟨nb,Fn,rfl,hK5,k5,_⟩ := he
 refine ⟨nb,rfl,(newnode_ok w5).mono fun e w6 he => ?_⟩
 obtain ⟨ab,rfl,k6,hab,hrow⟩ := he
 have hK6 := hK5.kept0 k6
 have s5 : w0.heap.size ≤ w5.heap.size := hK5.kept.size
 have hK6' : Kst w0 μ (put (put (put (put I 9 (some (obI b4 [b4] 29 ([Value.pointer none,.pointer none,.pointer none,.pointer none].map AV.v)))) 0 (some (obI pb Fp 83 (prC ⟨1,1,0,true,[],0,true,[]⟩)))) 1 (some (obI nb Fn 93 (ndC (List.replicate (8 * (40 : Int).toNat) 0) false)))) 8 (some (obI ab [ab] 23 ((List.replicate 320 (Value.int .u64 0)).map AV.v)))) w6 := by
  refine hK6.adopt (y := obI ab [ab] 23 ((List.replicate 320 (Value.int .u64 0)).map AV.v)) 8 (.ob (F := []) hrow (hK5.noMu hab) ?_) (by simp) (fun j x hj _ b hb hm => ?_) fun b hb => ?_
  ·rw [zer_cells]
   exact b0s_vals _ fun v hv => by obtain ⟨_,rfl⟩ := List.mem_replicate.1 hv; rfl
  ·have := hK5.lt hj hb
   simp at hm; omega
  ·simp at hb; omega
 obtain ⟨w7,hw7⟩ : ∃ w7,w6.alloc (.cells #[.slice (some ⟨ab,0,none⟩) 320 320,.bool true] 72) = w7 := ⟨_,rfl⟩
 have hK7 := hK6'.alloc 3 (cs := [Value.slice (some ⟨ab,0,none⟩) 320 320,.bool true].map AV.v) (cur := #[.slice (some ⟨ab,0,none⟩) 320 320,.bool true]) (ty := 72) (b0s_vals _ fun v hv => by
  simp only [List.mem_cons,List.not_mem_nil,or_false] at hv
  rcases hv with rfl | rfl <;> rfl)
 rw [hw7] at hK7
 obtain ⟨F8,s8,hK8⟩ := hK7.set (i := 8) (b := ab) rfl 0 (a := .v (.int .u64 1)) (.v rfl)
 obtain ⟨F9,s9,hK9⟩ := hK8.set (i := 8) (b := ab) rfl 1 (a := .v (.int .u64 1)) (.v rfl)
 refine ⟨ab,w7,_,_,rfl,hw7,hK7.cell (i := 3) rfl (j := 0) rfl,hK7.frozen (i := 8) (b := ab) rfl 0,⟨_,hK7.cell (i := 8) (b := ab) rfl (j := 0) (x := .int .u64 0) (by simp)⟩,rfl,hK8.frozen (i := 8) (b := ab) rfl 1,⟨_,hK8.cell (i := 8) (b := ab) rfl (j := 1) (x := .int .u64 0) (by simp)⟩,rfl,fun b7 hb7 => ?_⟩
 obtain ⟨F3,hK9'⟩ := hK9.sink (i := 3) (r := 8) (by decide) (b := w6.heap.size) (ty := 72) rfl (j := 0) (ab := ab) (cap := 320) (T := 23) (sz := 1) (xs := mem0.map wr) rfl rfl (fun e he => by obtain ⟨x,_,rfl⟩ := List.mem_map.1 he; rfl) (by simp) (by simp [mem0_len]) (fun k jj e u he hu => by
  rw [List.getElem?_map] at he
  cases hm : mem0[k]? with
  | none => rw [hm] at he; cases he
  | some x =>
   rw [hm] at he
   cases he
   cases jj with
   | succ jj => simp [wr] at hu
   | zero =>
    cases hu
    refine ⟨?_,rfl⟩
    rw [rc_mem0,Nat.mul_one,Nat.add_zero,List.getElem?_map,hm]; rfl)
 have hK10 := hK9'.alloc 7 (cs := [Value.int .u64 1,.int .u64 1].map AV.v) (cur := #[.int .u64 1,.int .u64 1]) (ty := 23) (b0s_vals _ fun v hv => by
  simp only [List.mem_cons,List.not_mem_nil,or_false] at hv
  rcases hv with rfl | rfl <;> rfl)
 rw [hb7] at hK10
 obtain ⟨μ2,cur,hm2,hmu,hK11,hcur⟩ := hK10.frz (i := 7) (b := b7) rfl
 have hone : DR μ2 (.lst false 1 ([1,1].map wr)) (.slice (some ⟨b7,0,none⟩) 2 2) := dr_row (xs := [1,1].map wr) (MuLe.refl _) hmu (Nat.le_refl _) ⟨fun e he => by obtain ⟨x,_,rfl⟩ := List.mem_map.1 he; rfl,fun i e j c he hc => by
  match i with
  | 0 =>
   cases he
   cases j with
   | succ j => simp [wr] at hc
   | zero => cases hc; exact ⟨_,hcur 0 _ rfl,.v rfl⟩
  | 1 =>
   cases he
   cases j with
   | succ j => simp [wr] at hc
   | zero => cases hc; exact ⟨_,hcur 1 _ rfl,.v rfl⟩
  | n + 2 => simp at he⟩
 refine (hK11.call1 mix extOk (k := 1) (b := nb) rfl (vs := [.int .i64 0,.slice (some ⟨b7,0,none⟩) 2 2]) (.cons (F := []) (F' := []) (G := []) (G' := []) (.o (.c (.d (.v rfl)))) (.cons (F := []) (F' := []) (G := []) (G' := []) (.o (.c (.d hone))) .nil)) (ra := [.v (.int .i64 0)]) s_write0 f33_at rfl).mono fun e w10 he => ?_
 obtain ⟨us,μ3,F1,G1,Fn',rfl,hb,hm3,hK12,_,_,_⟩ := he
 obtain ⟨rfl,_⟩ := b2s_vals_inv (F := F1) (G := G1) [.int .i64 0] hb
 have hK13 := hK12.alloc 2 (cs := [.v (.int .i64 1),.v (.int .i64 1),.v (.int .i64 0),.lst true 12 []]) (cur := #[.int .i64 1,.int .i64 1,.int .i64 0,.slice none 0 0]) (ty := 70) (.cons (F := []) (F' := []) (.d (.v rfl)) (.cons (F := []) (F' := []) (.d (.v rfl)) (.cons (F := []) (F' := []) (.d (.v rfl)) (.cons (F := []) (F' := []) (.d dr_nil) .nil))))
 obtain ⟨G9,t9,hK14⟩ := hK13.set (i := 9) (b := b4) rfl 0 (a := .v (.pointer (some ⟨pb,0,none⟩))) (.v rfl)
 obtain ⟨H9,u9,hK15⟩ := hK14.set (i := 9) (b := b4) rfl 1 (a := .v (.pointer (some ⟨nb,0,none⟩))) (.v rfl)
 obtain ⟨J9,v9,hK16⟩ := hK15.set (i := 9) (b := b4) rfl 2 (a := .v (.pointer (some ⟨w10.heap.size,0,none⟩))) (.v rfl)
 obtain ⟨L9,x9,hK17⟩ := hK16.set (i := 9) (b := b4) rfl 3 (a := .v (.pointer (some ⟨w6.heap.size,0,none⟩))) (.v rfl)
 refine ⟨rfl,_,_,_,_,_,rfl,hK13.frozen (i := 9) (b := b4) rfl 0,⟨_,hK13.cell (i := 9) (b := b4) rfl (j := 0) rfl⟩,rfl,hK14.frozen (i := 9) (b := b4) rfl 1,⟨_,hK14.cell (i := 9) (b := b4) rfl (j := 1) rfl⟩,rfl,hK15.frozen (i := 9) (b := b4) rfl 2,⟨_,hK15.cell (i := 9) (b := b4) rfl (j := 2) rfl⟩,rfl,
  hK16.frozen (i := 9) (b := b4) rfl 3,⟨_,hK16.cell (i := 9) (b := b4) rfl (j := 3) rfl⟩,rfl,hK17.cell (i := 9) (b := b4) rfl (j := 0) rfl,hK17.cell (i := 9) (b := b4) rfl (j := 1) rfl,hK17.cell (i := 9) (b := b4) rfl (j := 2) rfl,hK17.cell (i := 9) (b := b4) rfl (j := 3) rfl,μ3,_,hm2.trans hm3,hK17,⟨_,rfl⟩,⟨_,rfl⟩,⟨_,rfl⟩,⟨_,rfl⟩⟩
end
end Go.Proofs.Ytkefjdmoikegbaa
