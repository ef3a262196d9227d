/- fabric.New: the walks. -/
import Derived.Test.YtnjccbnlmdajkaaGreatRows
import Derived.Test.YtnjccbnlmdajkaaGreatEv12
import Derived.WalkKit
import Derived.Deep.LoopGhost
import Derived.Deep.WholeRow
import Derived.Lib.Walk
import Derived.Lib.SliceRun
set_option linter.all false
namespace Go.Proofs.YtnjccbnlmdajkaaGreat
open Go.RowKit Go.Shelf Go.Lib Go.Ev
attribute [local go_sem] Oper.semAt_some
def Hid(p:Prop):Prop:=p
theorem Hid.out{p:Prop}(h:Hid p):p:=h
theorem mZ(x:Int):wrap64 x=IntKind.i64.wrap x:=by rw[aD];unfold wrap64;omega
def S7(di bc:Nat)(K:World->Prop)(e:Ending)(W:World):Prop:=
 ∃(pb:Nat) (x:Int) (LA:Option Addr) (ll lc B c':Nat) (W4:World),e=.returned (.tuple #[.pointer (some ⟨pb,0,none⟩),.int .i64 x])/\W.cell? ⟨bc,di*7+2,none⟩=some (.slice LA ll lc)/\
  Hid (∀ty,(Builtin.append_ #[97,97] ty #[.slice LA ll lc,.slice (some ⟨W.heap.size,0,none⟩) 1 1]).run Tryz.prog (W.alloc (.cells #[.pointer (some ⟨pb,0,none⟩),.slice none 0 0] 118))=.ok (.slice (some ⟨B,0,none⟩) (ll+1) c') W4)/\
  W4.frozen? ⟨bc,di*7+2,none⟩=false/\(∃x,W4.cell? ⟨bc,di*7+2,none⟩=some x)/\K (W4.setCell ⟨bc,di*7+2,none⟩ (.slice (some ⟨B,0,none⟩) (ll+1) c'))
set_option maxHeartbeats 8000000 in
set_option maxRecDepth 1000000 in
theorem FN(bf bc di nc cc n ca:Nat)(NA:Option Addr)(inc:Int)(w w1 w2 w3:World)(J:Nat->World->Prop)(hbig:n<=1000)
  (h1:w.cell? ⟨bf,2,none⟩=some (.slice (some ⟨bc,0,none⟩) nc cc)) (hcl:di<nc)
  (e1:w.setCell ⟨bc,di*7,none⟩ (.bool true)=w1) (e2:w1.setCell ⟨bc,di*7+1,none⟩ (.int .i64 inc)=w2) (e3:w2.setCell ⟨bc,di*7+2,none⟩ (.slice none 0 0)=w3)
  (f0:w.frozen? ⟨bc,di*7,none⟩=false) (f1:w1.frozen? ⟨bc,di*7+1,none⟩=false) (f2:w2.frozen? ⟨bc,di*7+2,none⟩=false)
  (c0:∃x,w.cell? ⟨bc,di*7,none⟩=some x) (c1:∃x,w1.cell? ⟨bc,di*7+1,none⟩=some x) (c2:∃x,w2.cell? ⟨bc,di*7+2,none⟩=some x)
  (hn:w3.cell? ⟨bf,1,none⟩=some (.slice NA n ca)) (hJ0:J 0 w3)
  (hJ:∀i W,i<n->J i W->Calls Tryz.prog 66 #[.int .i64 di,.int .i64 inc,.int .i64 i] W (S7 di bc (J (i+1)))):
  Calls Tryz.prog 17 #[.pointer (some ⟨bf,0,none⟩),.int .i64 di,.int .i64 inc] w fun e w'=>e=.returned (.tuple #[])/\J n w':=by
 have aaF:(di:Int)<(nc:Int):=by omega
 obtain⟨x0,c0⟩:=c0;obtain⟨x1,c1⟩:=c1;obtain⟨x2,c2⟩:=c2
 go_enter Tryz.func17,Tryz.ntmps17
 go_wp2
 go_loopg [31] n (fun g s W=> ∃i:Nat,i+g=n/\s=.int .i64 i/\J i W)
 case atStart=>exact⟨0,by omega,rfl,hJ0⟩
 case round=>
  obtain⟨i,hig,rfl,hI⟩:=hrel;cases gk with
  |zero=>
   obtain rfl:i=n:=by omega
   clear hJ hig
   go_wp2
   exact bodyPost_end (results_none rfl _ _ _) rfl ⟨rfl,hI⟩
  |succ g=>
   have hi:i<n:=by omega
   have hin:(i:Int)<(n:Int):=by omega
   have hnew:=hJ i wr hi hI;have hw:wrap64 ((i:Int)+1)=((i+1:Nat):Int):=by rw[mZ,aD];omega
   clear hJ hI
   go_wp2_with (first|(go_at_call 66;refine da hnew ?_;clear hnew;rintro e w' ⟨pb,x,LA,ll,lc,B,c',W4,rfl,hc,hap,hf,⟨y,hy⟩,hK⟩)|(at_builtin;refine Lib.wpList_append_run _ rfl _ _ _ _ rfl _ _ rfl rfl _ _ (hap.out _) ?_))
   go_roundg g
   case measure=>omega
   case rel=>exact⟨i+1,by omega,rfl,hK⟩
def S8(bf:Nat)(K:World->Prop)(e:Ending)(W:World):Prop:=
 ∃(pb:Nat) (LA:Option Addr) (ll lc B c':Nat) (W4:World),e=.returned (.tuple #[.pointer (some ⟨pb,0,none⟩),.int .i64 0])/\W.cell? ⟨bf,1,none⟩=some (.slice LA ll lc)/\
  Hid (∀ty,(Builtin.append_ #[45,45] ty #[.slice LA ll lc,.slice (some ⟨W.heap.size,0,none⟩) 1 1]).run Tryz.prog (W.alloc (.cells #[.pointer (some ⟨pb,0,none⟩)] 49))=.ok (.slice (some ⟨B,0,none⟩) (ll+1) c') W4)/\
  W4.frozen? ⟨bf,1,none⟩=false/\(∃x,W4.cell? ⟨bf,1,none⟩=some x)/\K (W4.setCell ⟨bf,1,none⟩ (.slice (some ⟨B,0,none⟩) (ll+1) c'))
set_option maxHeartbeats 8000000 in
set_option maxRecDepth 1000000 in
theorem Ta(nodes au:Nat)(lines:Int)(w:World)(J J2:Nat->World->Prop)(hn:1<=nodes/\nodes<=5)(hc:1<=au/\au<=6)(hl:1<=lines/\lines<=256)(MC:Array Value)
  (hmk:(Instr.makeSlice 44 (.int .i64 au) (.int .i64 au)).run Tryz.prog w=.ok (.slice (some ⟨w.heap.size,0,none⟩) au au) (w.alloc (.cells MC 99)))
  (hJ0:J 0 ((w.alloc (.cells MC 99)).alloc (.cells #[.int .i64 lines,.slice none 0 0,.slice (some ⟨w.heap.size,0,none⟩) au au,.slice none 0 0] 48)))
  (hJ:∀i W,i<nodes->J i W->Calls Tryz.prog 16 #[.int .i64 lines] W (S8 (w.heap.size+1) (J (i+1))))
  (M4:∀W,J nodes W->J2 0 W/\W.cell? ⟨w.heap.size+1,2,none⟩=some (.slice (some ⟨w.heap.size,0,none⟩) au au))
  (qB:∀c W,c<au->J2 c W->Calls Tryz.prog 17 #[.pointer (some ⟨w.heap.size+1,0,none⟩),.int .i64 c,.int .i64 1] W fun e w'=>e=.returned (.tuple #[])/\J2 (c+1) w'):
  Calls Tryz.prog 6 #[.int .i64 nodes,.int .i64 au,.int .i64 lines] w fun e w'=>e=.returned (.tuple #[.pointer (some ⟨w.heap.size+1,0,none⟩),.int .i64 0])/\J2 au w':=by
 have g1:¬(nodes:Int)<1:=by omega
 have g2:¬(5:Int)<(nodes:Int):=by omega
 have g3:¬(au:Int)<1:=by omega
 have g4:¬(6:Int)<(au:Int):=by omega
 have g5:¬lines<1:=by omega
 have g6:¬256<lines:=by omega
 go_enter Tryz.func6,Tryz.ntmps6
 go_wp2
 go_loopg [40] nodes (fun g s W=> ∃i:Nat,i+g=nodes/\s=.int .i64 i/\J i W)
 case atStart=>exact⟨0,by omega,rfl,hJ0⟩
 case round=>
  obtain⟨i,hig,rfl,hI⟩:=hrel;cases gk with
  |succ g=>
   have hi:i<nodes:=by omega
   have hin:(i:Int)<(nodes:Int):=by omega
   have hnew:=hJ i wr hi hI;have hw:wrap64 ((i:Int)+1)=((i+1:Nat):Int):=by rw[mZ,aD];omega
   clear hJ hI M4 qB hJ0 hmk
   go_wp2_with (first|(go_at_call 16;refine da hnew ?_;clear hnew;rintro e w' ⟨pb,LA,ll,lc,B,c',W4,rfl,hc,hap,hf,⟨y,hy⟩,hK⟩)|(at_builtin;refine Lib.wpList_append_run _ rfl _ _ _ _ rfl _ _ rfl rfl _ _ (hap.out _) ?_))
   go_roundg g
   case measure=>omega
   case rel=>exact⟨i+1,by omega,rfl,hK⟩
  |zero=>
   obtain rfl:i=nodes:=by omega
   obtain⟨kJ,sY⟩:=M4 wr hI;clear hJ hI M4 hJ0 hmk hig
   go_wp2
   go_loopg [66] au (fun g s W=> ∃c:Nat,c+g=au/\s=.int .i64 c/\J2 c W)
   case atStart=>exact⟨0,by omega,rfl,kJ⟩
   case round=>
    obtain⟨c,hcg,rfl,hI⟩:=hrel;cases gk with
    |succ g=>
     have hcl:c<au:=by omega
     have uu:(c:Int)<(au:Int):=by omega
     have hcon:=qB c wr hcl hI;have hw:wrap64 ((c:Int)+1)=((c+1:Nat):Int):=by rw[mZ,aD];omega
     clear qB hI kJ sY
     go_wp2_with (go_at_call 17;refine da hcon ?_;clear hcon;rintro e w' ⟨rfl,hK⟩)
     go_roundg g
     case measure=>omega
     case rel=>exact⟨c+1,by omega,rfl,hK⟩
    |zero=>
     obtain rfl:c=au:=by omega
     clear qB kJ sY hcg
     go_wp2
     exact pB (At rfl _ _ _) rfl ⟨rfl,hI⟩
