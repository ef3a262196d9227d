/- The reference's Pair.Post: the walk. -/
import Derived.Test.YtnjccbnlmdajkaaGreatVbsW
import Derived.Test.YtnjccbnlmdajkaaGreatDieW
set_option linter.all false
namespace Go.Proofs.YtnjccbnlmdajkaaGreat
open Go.RowKit Go.Shelf Go.Lib Go.Ev
attribute [local go_sem] Oper.semAt_some
abbrev jl(kd nd at_ n old nw:Int)(A:Option Addr)(l c:Nat)(key bt ex:Int)(WA:Option Addr)(wl wc:Nat)(slot:Int):Array Value:= #[.int .i64 kd,.int .i64 nd,.int .i64 at_,.int .i64 n,.int .u64 old,.int .u64 nw,.slice A l c,.int .u64 key,.int .i64 bt,.int .i64 ex,.slice WA wl wc,.int .i64 slot]
def S9b(b o n0:Nat)(kd nd at_ n old nw:Int)(XA:Option Addr)(xl xc:Nat)(key bt:Int)(QA:Option Addr)(ql qc:Nat)(W:World):Prop:=
 W.cell? ⟨n0,0,none⟩=some (.int .i64 kd)/\W.cell? ⟨n0,1,none⟩=some (.int .i64 nd)/\W.cell? ⟨n0,2,none⟩=some (.int .i64 at_)/\W.cell? ⟨n0,3,none⟩=some (.int .i64 n)/\W.cell? ⟨n0,4,none⟩=some (.int .u64 old)/\
 W.cell? ⟨n0,5,none⟩=some (.int .u64 nw)/\W.cell? ⟨n0,6,none⟩=some (.slice XA xl xc)/\W.cell? ⟨n0,7,none⟩=some (.int .u64 key)/\W.cell? ⟨n0,8,none⟩=some (.int .i64 bt)/\W.cell? ⟨b,o+3,none⟩=some (.slice QA ql qc)
def RpD(b o n0:Nat)(kd nd at_ n old nw:Int)(XA:Option Addr)(xl xc:Nat)(key bt slot:Int)(QA:Option Addr)(ql qc:Nat)(W4:World)(K:World->Prop):Prop:=
 ∃(v1A v1B:Value) (AA AB:Option Addr) (lA cA lB cB:Nat) (WJ W7A W8A W6B W7B W8B:World),
  S9b b o n0 kd nd at_ n old nw XA xl xc key bt QA ql qc W4.drew/\S9b b o n0 kd nd at_ n old nw XA xl xc key bt QA ql qc (W4.alloc (.cells (jl kd nd at_ n old nw XA xl xc key bt 0 none 0 0 slot) 149))/\S9b b o n0 kd nd at_ n old nw XA xl xc key bt QA ql qc WJ/\
  Hid (∀ty,(Builtin.append_ #[108,108] ty #[.slice none 0 0,.slice QA ql qc]).run Tryz.prog W4.drew=.ok v1A WJ)/\Hid (∀ty,(Builtin.append_ #[108,108] ty #[v1A,.slice (some ⟨WJ.heap.size,0,none⟩) 1 1]).run Tryz.prog (WJ.alloc (.cells (jl kd nd at_ n old nw XA xl xc key bt 0 none 0 0 slot) 149))=.ok (.slice AA lA cA) W7A)/\St W7A b (o+3) (.slice AA lA cA) W8A/\K W8A/\
  Hid (∀ty,(Builtin.append_ #[108,108] ty #[.slice none 0 0,.slice QA ql qc]).run Tryz.prog (W4.alloc (.cells (jl kd nd at_ n old nw XA xl xc key bt 0 none 0 0 slot) 149)).drew=.ok v1B W6B)/\Hid (∀ty,(Builtin.append_ #[108,108] ty #[v1B,.slice (some ⟨W4.heap.size,0,none⟩) 1 1]).run Tryz.prog W6B=.ok (.slice AB lB cB) W7B)/\St W7B b (o+3) (.slice AB lB cB) W8B/\K W8B
def RpB(b o n0:Nat)(kd nd at_ n old nw:Int)(WA:Option Addr)(wl wc:Nat)(key bt slot pn:Int)(QA:Option Addr)(ql qc:Nat)(w2:World)(K:Int->World->Prop):Prop:=
 w2.cell? ⟨n0,1,none⟩=some (.int .i64 nd)/\w2.cell? ⟨b,o+2,none⟩=some (.int .i64 pn)/\w2.drew.cell? ⟨n0,6,none⟩=some (.slice WA wl wc)/\w2.drew.cell? ⟨b,o+3,none⟩=some (.slice QA ql qc)/\(nd≠pn->K 1 w2.drew)/\(nd=pn->1024<=ql->K 12 w2.drew)/\
  (nd=pn->ql<1024->∃(XA:Option Addr) (xl xc:Nat) (W3 W4:World),Hid (∀ty,(Builtin.append_ #[59,59] ty #[.slice none 0 0,.slice WA wl wc]).run Tryz.prog w2.drew=.ok (.slice XA xl xc) W3)/\St W3 n0 6 (.slice XA xl xc) W4/\
   RpD b o n0 kd nd at_ n old nw XA xl xc key bt slot QA ql qc W4 (K 0))
set_option maxHeartbeats 8000000 in
set_option maxRecDepth 1000000 in
theorem LW(b o ql qc wl wc:Nat)(kd nd at_ n old nw key bt lines slot pn:Int)(WA QA:Option Addr)(W:World)(K:Int->World->Prop)
  (h:Calls Tryz.prog 78 #[.agg (aJ kd nd at_ n old nw WA wl wc key bt),.int .i64 5,.int .i64 lines] (W.alloc (.cells (aJ kd nd at_ n old nw WA wl wc key bt) 71)) fun e w'=> ∃z:Int,e=.returned (.int .i64 z)/\(z≠0->K z w')/\(z=0->RpB b o W.heap.size kd nd at_ n old nw WA wl wc key bt slot pn QA ql qc w' K)):
  Calls Tryz.prog 79 #[.pointer (some ⟨b,o,none⟩),.agg (aJ kd nd at_ n old nw WA wl wc key bt),.int .i64 lines,.int .i64 slot] W fun e w'=> ∃z:Int,e=.returned (.int .i64 z)/\K z w':=by
 have mixed:Tryz.prog.follows .mixedOrders=true:=by kernel_rfl
 go_enter Tryz.func79,Tryz.ntmps79
 go_wp2_with (first|(go_at_call 78;refine da h ?_;clear h;rintro e w2 ⟨z,rfl,hz1,hz0⟩))
 ·have hz:= ‹(z !=0)=true›
  go_ret
  exact⟨z,rfl,hz1 (by simpa using hz)⟩
 have hz:= ‹(z !=0)=false›;obtain rfl:z=0:=by simpa using hz
 obtain⟨c1,c2,c6,c3,k1,k2,k3⟩:=hz0 rfl;clear hz0 hz1;have s4:w2.drew.cell? ⟨W.heap.size,1,none⟩=some (.int .i64 nd)/\w2.drew.cell? ⟨b,o+2,none⟩=some (.int .i64 pn):=⟨c1,c2⟩
 go_region_held3 (fun w'=>w'.cell? ⟨W.heap.size,1,none⟩=some (.int .i64 nd)/\w'.cell? ⟨b,o+2,none⟩=some (.int .i64 pn))
  (first|exact s4) (first|fail)
 by_cases hnd:nd=pn
 ·subst hnd;have hb:(nd !=nd)=false:=by simp
  by_cases hq:1024<=ql
  ·have Y5:(1024:Int)<=(ql:Int):=by omega
   have hK:=k2 rfl hq;clear k1 k2 k3
   go_wp2
   go_ret
   exact⟨12,rfl,hK⟩
  ·have Y5:¬(1024:Int)<=(ql:Int):=by omega
   obtain⟨XA,xl,xc,W3,W4,hap,⟨f6,⟨y6,e6⟩,g6⟩,hD⟩:=k3 rfl (by omega);clear k1 k2 k3
   go_wp2_with (at_builtin;refine Lib.wpList_append_run _ rfl _ _ _ _ rfl _ _ rfl rfl _ _ (hap.out _) ?_)
   obtain⟨v1A,v1B,AA,AB,lA,cA,lB,cB,WJ,W7A,W8A,W6B,W7B,W8B,⟨p0,p1,p2,p3,p4,p5,p6,p7,p8,p9⟩,⟨q0,q1,q2,q3,q4,q5,q6,q7,q8,q9⟩,⟨r0,r1,r2,r3,r4,r5,r6,r7,r8,r9⟩,a1,a2,⟨fA,⟨yA,eA⟩,gA⟩,kA,b1,b2,⟨fB,⟨yB,eB⟩,gB⟩,kB⟩:=hD;clear hap f6 e6 c1 c2 c6 c3 s4
   go_region_law_o (first|(refine aH rfl (.const (.slice none 0 0)) (.tmp 37) 108 108 rfl (.slice none 0 0) (.slice QA ql qc) (by simp[Act.eval,Act.put]) (by simp[Act.eval,Act.put]) (a1.out _) ?_)|(refine aH rfl (.const (.slice none 0 0)) (.tmp 37) 108 108 rfl (.slice none 0 0) (.slice QA ql qc) (by simp[Act.eval,Act.put]) (by simp[Act.eval,Act.put]) (b1.out _) ?_)|
    (refine aH rfl (.tmp 38) (.tmp 42) 108 108 rfl _ _ (by simp[Act.eval,Act.put]) (by simp[Act.eval,Act.put]) (a2.out _) ?_)|(refine aH rfl (.tmp 38) (.tmp 42) 108 108 rfl _ _ (by simp[Act.eval,Act.put]) (by simp[Act.eval,Act.put]) (b2.out _) ?_))
   all_goals
    go_wp2
    go_ret
    first|exact⟨0,rfl,kA⟩|exact⟨0,rfl,kB⟩
 ·have hb:(nd !=pn)=true:=by simpa using hnd
  have hK:=k1 hnd;clear k1 k2 k3
  go_wp2
  go_ret
  exact⟨1,rfl,hK⟩
