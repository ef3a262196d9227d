/- Copy of a queue pair: the walk. -/
import Derived.Test.YtkefjdmoikegbaaPair
import Derived.Test.YtkefjdmoikegbaaEv13
import Derived.Deep.RegionHeld3
import Derived.Deep.RegionLaw
import Derived.Shelf.RegionOpenPlain
import Derived.WalkKit
import Derived.Deep.LoopGhost
import Derived.Deep.WholeRow
import Derived.Lib.Walk
import Derived.Lib.SliceRun
set_option linter.all false
namespace Go.Proofs.Ytkefjdmoikegbaa
open Go.RowKit Go.Shelf Go.Lib Go.Ev
attribute [local go_sem] Oper.semAt_some
set_option maxRecDepth 100000
def Hid (p : Prop) : Prop := p
theorem Hid.out {p : Prop} (h : Hid p) : p := h
theorem w64 (x : Int) : wrap64 x = IntKind.i64.wrap x := by rw [w_i64]; unfold wrap64; omega
theorem step_append_runE {P : Program} {ops : Array Oper} {o : Oper} {a : Act} {w : World} {K : Act → World → Prop} {Q : Exit → Act → World → Prop} {E : Prop}
  (hg : o.guard = none) (d x : Operand) (dT sT : TypeId) (hop : o.op = Op.call { callee := Callee.builtin Builtin.append,args := #[d,x],argTypes := #[dT,sT] })
  (v u : Value) (hd : a.eval d = v) (hx : a.eval x = u) {v' : Value} {w' : World} (hr : (Builtin.append_ #[dT,sT] o.type #[v,u]).run P w = .ok v' w') (hK : K (a.put o.dst v') w') :
  if Region.wanted o (yielded ops a.tmps) = true then Oper.wp P o a w K Q else E := by
 have hw : Region.wanted o (yielded ops a.tmps) = true := by simp [Region.wanted,hg]
 rw [if_pos hw]
 unfold Oper.wp
 simp [execOp,hop,resolve,invoke,builtin,hd,hx,hr,Result.andThen]
 exact hK
theorem step_callE {P : Program} {ops : Array Oper} {o : Oper} {a : Act} {w : World} {K : Act → World → Prop} {Q : Exit → Act → World → Prop} {E : Prop}
  (hg : o.guard = none) (f : FuncId) (xs : Array Operand) (ts : Array TypeId) (hop : o.op = Op.call { callee := Callee.value (.func f), args := xs, argTypes := ts }) (vals : Array Value) (hv : xs.map a.eval = vals) {R : Ending → World → Prop} (hc : Calls P f vals w R) {fn : Func} (hfn : P.funcs[f]? = some fn) (hn : (fn.name == "runtime.NumGoroutine") = false) (hb : fn.body.isSome = true)
  (hK : ∀ e w',R e w' → ∃ v,e = .returned v∧K (a.put o.dst v) w') : if Region.wanted o (yielded ops a.tmps) = true then Oper.wp P o a w K Q else E := by
 have hw : Region.wanted o (yielded ops a.tmps) = true := by simp [Region.wanted,hg]
 rw [if_pos hw]
 unfold Oper.wp
 have he : (execOp a.eval o).run P w = .ok (.enter f vals) w := by
  have hn' : ¬ fn.name = "runtime.NumGoroutine" := by simpa using hn
  have hb' : ¬ fn.body = none := fun e => by rw [e] at hb; cases hb
  have he0 : a.eval (.func f) = .func (.func f) #[] #[] := rfl
  simp [execOp,hop,resolve,invoke,← hv,Deferred.ofValue,callFunc,Result.andThen,hfn,hn',hb',he0]
 rw [he,Oper.upon_enter]
 refine hc.mono fun e w' h => ?_
 obtain ⟨v,rfl,h2⟩ := hK e w' h
 exact h2
def prC (p : Pr) : List AV := [.v (.int .i64 p.c),.v (.int .i64 p.inc),.v (.int .i64 p.node),.ow p.qn 38 9 (p.q.map Vb.row),.v (.int .i64 p.ex),.ow p.wn 23 1 (p.w.map wr)]
abbrev vCells (kd nd at_ n old nw : Int) (A : Option Addr) (l c : Nat) (key bt : Int) : Array Value := #[.int .i64 kd,.int .i64 nd,.int .i64 at_,.int .i64 n,.int .u64 old,.int .u64 nw,.slice A l c,.int .u64 key,.int .i64 bt]
def VrbAt (W : World) (b o : Nat) (kd nd at_ n old nw : Int) (A : Option Addr) (l c : Nat) (key bt : Int) : Prop :=
 W.cell? ⟨b,o,none⟩ = some (.int .i64 kd)∧W.cell? ⟨b,o + 1,none⟩ = some (.int .i64 nd)∧W.cell? ⟨b,o + 2,none⟩ = some (.int .i64 at_)∧W.cell? ⟨b,o + 3,none⟩ = some (.int .i64 n)∧W.cell? ⟨b,o + 4,none⟩ = some (.int .u64 old) ∧
 W.cell? ⟨b,o + 5,none⟩ = some (.int .u64 nw)∧W.cell? ⟨b,o + 6,none⟩ = some (.slice A l c)∧W.cell? ⟨b,o + 7,none⟩ = some (.int .u64 key)∧W.cell? ⟨b,o + 8,none⟩ = some (.int .i64 bt)
def CpyRnd (b3 vb i : Nat) (W : World) (J : World → Prop) : Prop :=
 ∃ (kd nd at_ n old nw : Int) (A : Option Addr) (l c : Nat) (key bt : Int),VrbAt W vb (i * 9) kd nd at_ n old nw A l c key bt∧∃ (VA : Option Addr) (vl vc : Nat),
  (W.alloc (.cells (vCells kd nd at_ n old nw A l c key bt) 38)).drew.cell? ⟨b3,3,none⟩ = some (.slice VA vl vc) ∧
  Calls Try.prog 35 #[.agg (vCells kd nd at_ n old nw A l c key bt)] (W.alloc (.cells (vCells kd nd at_ n old nw A l c key bt) 38)).drew fun e w' =>
   ∃ (A' : Option Addr) (l' c' B cc : Nat) (W4 : World),e = .returned (.agg (vCells kd nd at_ n old nw A' l' c' key bt))∧w'.cell? ⟨b3,3,none⟩ = some (.slice VA vl vc)∧(∀ o,(w'.alloc o).cell? ⟨b3,3,none⟩ = some (.slice VA vl vc)) ∧
    Hid (∀ ty,(Builtin.append_ #[81,81] ty #[.slice VA vl vc,.slice (some ⟨w'.heap.size,0,none⟩) 1 1]).run Try.prog (w'.alloc (.cells (vCells kd nd at_ n old nw A' l' c' key bt) 38)) = .ok (.slice (some ⟨B,0,none⟩) (vl + 1) cc) W4) ∧
    W4.frozen? ⟨b3,3,none⟩ = false∧(∃ y,W4.cell? ⟨b3,3,none⟩ = some y)∧J (W4.setCell ⟨b3,3,none⟩ (.slice (some ⟨B,0,none⟩) (vl + 1) cc))
set_option maxHeartbeats 8000000 in
set_option maxRecDepth 1000000 in
theorem copy_walk (pb vl vc wl wc : Nat) (hvl : vl ≤ 1024) (c inc node ex : Int) (VA WA : Option Addr) (W : World) (J : Nat → World → Prop) (b3 : Nat) (hb3 : W.heap.size = b3)
  (k0 : W.cell? ⟨pb,0,none⟩ = some (.int .i64 c)) (k1 : W.cell? ⟨pb,1,none⟩ = some (.int .i64 inc)) (k2 : W.cell? ⟨pb,2,none⟩ = some (.int .i64 node)) (k3 : W.cell? ⟨pb,3,none⟩ = some (.slice VA vl vc)) (k4 : W.cell? ⟨pb,4,none⟩ = some (.int .i64 ex)) (k5 : W.cell? ⟨pb,5,none⟩ = some (.slice WA wl wc))
  (w1 : World) (hw1 : W.alloc (.cells #[.int .i64 c,.int .i64 inc,.int .i64 node,.slice VA vl vc,.int .i64 ex,.slice WA wl wc] 83) = w1) (k5' : w1.cell? ⟨pb,5,none⟩ = some (.slice WA wl wc))
  (hcl : Calls Try.prog 41 #[.slice WA wl wc] w1 fun e w' => ∃ (A : Option Addr) (l c : Nat),e = .returned (.slice A l c)∧w'.frozen? ⟨b3,3,none⟩ = false∧(∃ y,w'.cell? ⟨b3,3,none⟩ = some y)∧∃ w2,w'.setCell ⟨b3,3,none⟩ (.slice none 0 0) = w2∧w2.frozen? ⟨b3,5,none⟩ = false∧(∃ y,w2.cell? ⟨b3,5,none⟩ = some y) ∧
   ∃ w3,w2.setCell ⟨b3,5,none⟩ (.slice A l c) = w3∧w3.cell? ⟨pb,3,none⟩ = some (.slice VA vl vc)∧J 0 w3)
  (hJ : ∀ i W,i < vl → J i W → ∃ vb,VA = some ⟨vb,0,none⟩∧CpyRnd b3 vb i W (J (i + 1))) :
  Calls Try.prog 26 #[.pointer (some ⟨pb,0,none⟩)] W fun e w' => e = .returned (.pointer (some ⟨b3,0,none⟩))∧J vl w' := by
 have mixed : Try.prog.follows .mixedOrders = true := by kernel_rfl
 have HV : Hid (∀ i W,i < vl → J i W → ∃ vb,VA = some ⟨vb,0,none⟩∧CpyRnd b3 vb i W (J (i + 1))) := hJ
 clear hJ
 go_enter Try.func26,Try.ntmps26
 go_wp2_with (go_at_call 41; refine Calls.mono hcl ?_; clear hcl; rintro e w' ⟨A,l,cc,rfl,q0,⟨y1,q1⟩,w2,q2,q3,⟨y2,q4⟩,w3,q5,q6,hJ0⟩)
 go_loopg [21] vl (fun g s W => ∃ i : Nat,i + g = vl∧s = .int .i64 i∧J i W)
 case atStart => exact ⟨0,by omega,rfl,hJ0⟩
 case round =>
  obtain ⟨i,hig,rfl,hI⟩ := hrel
  cases gk with
  | succ g =>
   have hi : i < vl := by omega
   have hiI : (i : Int) < (vl : Int) := by omega
   obtain ⟨vb,rfl,kd,nd,at_,n,old,nw,A',l',c',key,bt,⟨v0,v1,v2,v3,v4,v5,v6,v7,v8⟩,VA',vl',vc',z0,hcall⟩ := HV.out i wr hi hI
   have hw : wrap64 ((i : Int) + 1) = ((i + 1 : Nat) : Int) := by rw [w64,w_i64]; omega
   clear HV hI k0 k1 k2 k3 k4 k5 hw1 k5' q0 q1 q2 q3 q4 q5 q6 hJ0
   go_wp2
   go_region_law_o (first | (refine step_callE rfl 35 _ _ rfl _ (by simp [Act.eval,Act.put]) hcall (fn := Try.f35) (by kernel_rfl) (by kernel_rfl) (by kernel_rfl) ?_; clear hcall; rintro e w' ⟨A2,l2,c2,B,cc,W4,rfl,z1,z2,hap,q2,⟨y,q3⟩,hK⟩; refine ⟨_,rfl,?_⟩) | (refine step_append_runE rfl (.tmp 26) (.tmp 29) 81 81 rfl _ _ (by simp [Act.eval,Act.put]) (by simp [Act.eval,Act.put]) (hap.out _) ?_))
   all_goals
    go_wp2
    go_roundg g
    case measure => omega
    case rel => exact ⟨i + 1,by omega,rfl,hK⟩
  | zero =>
   obtain rfl : i = vl := by omega
   clear HV
   go_wp2
   go_ret
   exact ⟨rfl,hI⟩
end Go.Proofs.Ytkefjdmoikegbaa
