/- QueuepairCopies' function answers true. -/
import Derived.Test.YtkefjdmoikegbaaCpL
set_option linter.all false
namespace Go.Proofs.Ytkefjdmoikegbaa
open Go.RowKit Go.Shelf Go.Lib Go.Ev
attribute [local go_sem] Oper.semAt_some
set_option maxRecDepth 100000
set_option maxHeartbeats 4000000 in
set_option maxRecDepth 1000000 in
theorem long_walk (A1 A2 A3 : Option Addr) (n1 n2 n3 c1 c2 c3 : Nat) (w : World) (hn : ¬ (n1 ≤ 20∧n2 ≤ 10∧n3 ≤ 10)) :
  Calls Try.prog 7 #[.slice A1 n1 c1,.slice A2 n2 c2,.slice A3 n3 c3] w fun e w' => e = .returned (.bool true)∧KeptW [] w w' := by
 by_cases h1 : 20 < n1
 ·have g1 : (20 : Int) < (n1 : Int) := by omega
  go_enter Try.func7,Try.ntmps7
  go_wp2
  go_ret
  exact ⟨rfl,KeptW.refl _ _⟩
 ·have g1 : ¬ (20 : Int) < (n1 : Int) := by omega
  by_cases h2 : 10 < n2
  ·have g2 : (10 : Int) < (n2 : Int) := by omega
   go_enter Try.func7,Try.ntmps7
   go_wp2
   go_ret
   exact ⟨rfl,KeptW.refl _ _⟩
  ·have g2 : ¬ (10 : Int) < (n2 : Int) := by omega
   have g3 : (10 : Int) < (n3 : Int) := by omega
   go_enter Try.func7,Try.ntmps7
   go_wp2
   go_ret
   exact ⟨rfl,KeptW.refl _ _⟩
def oprB : List AV → Bool
 | [.v (.int .i64 _),.v (.int .i64 _),.v (.int .i64 _),.v (.int .i64 _),.v (.int .i64 _),.v (.int .i64 _),.v (.int .u64 r6),.v (.int .u64 r7),.v (.int .i64 _),.v (.int .u64 w)] =>
  decide ((0 ≤ r6∧r6 < 18446744073709551616)∧(0 ≤ r7∧r7 < 18446744073709551616)∧(0 ≤ w∧w < 18446744073709551616))
 | _ => false
theorem oprB_opr {e : List AV} (h : oprB e = true) : ∃ o : Opr,e = o.row∧o.Ok := by
 unfold oprB at h
 split at h
 ·rename_i k r1 r2 r3 r4 r5 r6 r7 a w
  exact ⟨⟨k,r1,r2,r3,r4,r5,r6,r7,a,w⟩,rfl,by unfold Opr.Ok; exact of_decide_eq_true h⟩
 ·cases h
theorem rows_opr : ∀ l : List (List AV),l.all oprB = true → ∃ ops : List Opr,l = ops.map Opr.row∧∀ o ∈ ops,o.Ok
 | [],_ => ⟨[],rfl,fun o h => by cases h⟩
 | e :: l,h => by
  rw [List.all_cons,Bool.and_eq_true] at h
  obtain ⟨r,rfl,hr⟩ := oprB_opr h.1
  obtain ⟨rs,rfl,hs⟩ := rows_opr l h.2
  exact ⟨r :: rs,rfl,fun o ho => (List.mem_cons.1 ho).elim (fun e => e ▸ hr) (hs o)⟩
def cpG : List AV → Option (List AV)
 | [.lst _ 10 X,.lst _ 10 Y,.lst _ 10 Z] => cond (X.all oprB && (Y.all oprB && Z.all oprB)) (some [.v (.bool true)]) none
 | _ => none
theorem cp_told : TellS Try.prog 7 cpG := by
 intro bs rs h
 refine ⟨Try.f7,Try.func7,fun w μ F G vals himm hb hnd => ?_⟩
 unfold cpG at h
 split at h
 ·rename_i nx X ny Y nz Z
  obtain ⟨hc,h⟩ := cond_some h
  obtain rfl := Option.some.inj h
  rw [Bool.and_eq_true,Bool.and_eq_true] at hc
  obtain ⟨o1,rfl,k1⟩ := rows_opr _ hc.1
  obtain ⟨o2,rfl,k2⟩ := rows_opr _ hc.2.1
  obtain ⟨o3,rfl,k3⟩ := rows_opr _ hc.2.2
  obtain ⟨F1,F2,G1,G2,va,vs,rfl,rfl,rfl,b1,b2⟩ := b2s_cons hb
  obtain ⟨F3,F4,G3,G4,vb,vs',rfl,rfl,rfl,b3,b4⟩ := b2s_cons b2
  obtain ⟨F5,F6,G5,G6,vc,vs'',rfl,rfl,rfl,b5,b6⟩ := b2s_cons b4
  obtain ⟨rfl,rfl,rfl⟩ := Go.Ev.b2s_nil b6
  obtain ⟨rfl,rfl,hd1⟩ := b2_lst b1
  obtain ⟨rfl,rfl,hd2⟩ := b2_lst b3
  obtain ⟨rfl,rfl,hd3⟩ := b2_lst b5
  obtain ⟨A1,c1,rfl,_⟩ := dr_slice hd1
  obtain ⟨A2,c2,rfl,_⟩ := dr_slice hd2
  obtain ⟨A3,c3,rfl,_⟩ := dr_slice hd3
  rw [List.length_map] at hd1 hd2 hd3
  have hsz : (1 : Nat) = Try.f7.resultTypes.size := by kernel_rfl
  rw [List.length_map,List.length_map,List.length_map]
  have key : Calls Try.prog 7 #[.slice A1 o1.length c1,.slice A2 o2.length c2,.slice A3 o3.length c3] w fun e w' => e = .returned (.bool true)∧KeptW [] w w' := by
   by_cases hl : o1.length ≤ 20∧o2.length ≤ 10∧o3.length ≤ 10
   ·exact law_ok w hl (hd1.mono himm) (hd2.mono himm) (hd3.mono himm) k1 k2 k3
   ·exact long_walk A1 A2 A3 _ _ _ c1 c2 c3 w hl
  refine key.mono fun e w' he => ?_
  obtain ⟨rfl,hk⟩ := he
  exact ⟨[.v (.bool true)],[],[.bool true],μ,[],[],[],rfl,hsz,rfl,⟨hk.os,hk.tape,hk.output,hk.size,fun b hb _ => hk.keep b hb List.not_mem_nil,MuLe.refl μ,fun _ _ h => .inl h⟩,
   fun b o hbo => hk.get (himm b o hbo) List.not_mem_nil,.cons (F := []) (F' := []) (G := []) (G' := []) (.o (.c (.d (.v rfl)))) .nil,.nil,by simp,fun b hb => by simp at hb⟩
 ·cases h
def ext7 : FuncId → Option (List AV → Option (List AV))
 | 7 => some cpG
 | _ => none
def cfg7 : Cfg := { rw := fun _ => [],dat := fun _ => false,inl := fun _ => false,roll := fun _ => 8,join := fun _ => false,ext := ext7 }
theorem ext7Ok : ExtS Try.prog cfg7 := by
 refine ⟨fun f bs rs e => ?_,updS_none fun _ => rfl⟩
 by_cases h9 : f = 7
 ·subst h9; exact cp_told bs rs e
 ·have hf : cfg7.ext f = none := by
   show ext7 f = none
   unfold ext7
   split
   ·exact absurd rfl h9
   ·rfl
  simp only [evTop,hf] at e
  cases e
theorem opr_typ {N : Nat} {y : List AV} (hy : TypC Try.prog N 11 61 y) : oprB y = true := by
 obtain ⟨x0,x1,x2,x3,x4,x5,x6,x7,x8,x9,rfl,h⟩ := openC61 (n := 8) hy
 unfold oprB
 refine decide_eq_true ?_
 omega
theorem copies_all {N : Nat} (l : List AV) (h : TypA Try.prog N Try.f7.params.toList l) : ∃ n,evF Try.prog cfg7 n 7 l = some [.v (.bool true)] := by
 rw [show Try.f7.params.toList = [56,56,56] by kernel_rfl] at h
 obtain ⟨a0,r,rfl,h0,h⟩ := h
 obtain ⟨a1,r,rfl,h1,h⟩ := h
 obtain ⟨a2,r,rfl,h2,h⟩ := h
 obtain rfl : r = [] := h
 obtain ⟨f0,x0,rfl,_,_,g0⟩ := openV56 h0
 obtain ⟨f1,x1,rfl,_,_,g1⟩ := openV56 h1
 obtain ⟨f2,x2,rfl,_,_,g2⟩ := openV56 h2
 refine ⟨1,?_⟩
 have e0 : x0.all oprB = true := List.all_eq_true.2 fun e he => opr_typ (g0 e he)
 have e1 : x1.all oprB = true := List.all_eq_true.2 fun e he => opr_typ (g1 e he)
 have e2 : x2.all oprB = true := List.all_eq_true.2 fun e he => opr_typ (g2 e he)
 show cond (x0.all oprB && (x1.all oprB && x2.all oprB)) _ _ = _
 rw [e0,e1,e2]; rfl
end Go.Proofs.Ytkefjdmoikegbaa
