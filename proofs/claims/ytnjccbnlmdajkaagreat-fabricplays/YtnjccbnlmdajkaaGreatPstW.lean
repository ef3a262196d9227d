/- Post: the walk. -/
import Derived.Test.YtnjccbnlmdajkaaGreatFabW
import Derived.Deep.RegionHeld3
set_option linter.all false
namespace Go.Proofs.YtnjccbnlmdajkaaGreat
open Go.Proofs.Tryz renaming prog->U'
open Go.RowKit Go.Shelf Go.Lib Go.Ev
attribute [local go_sem] Oper.semAt_some
theorem El:U'.underlying 63=some (.slice 81):=by kernel_rfl
theorem eU(w:World):(binOp .neq 63 (.slice none 0 0) (.slice none 0 0)).run U' w=.ok (.bool false) w:=by
 simp[binOp,bT El]
theorem dm(a:Addr)(n c:Nat)(w:World):(binOp .neq 63 (.slice (some a) n c) (.slice none 0 0)).run U' w=.ok (.bool true) w:=by
 simp[binOp,bT El]
theorem dq(a:Addr)(n c:Nat)(w:World):(binOp .eql 63 (.slice (some a) n c) (.slice none 0 0)).run U' w=.ok (.bool false) w:=by
 simp[binOp,bT El]
theorem eV(w:World):(binOp .eql 63 (.slice none 0 0) (.slice none 0 0)).run U' w=.ok (.bool true) w:=by
 simp[binOp,bT El]
attribute [local go_sem] eU dm dq eV
def qp(W:World)(b o:Nat)(kd nd at_ n old nw:Int)(A:Option Addr)(l c:Nat)(key bt:Int):Prop:=
 W.cell? ⟨b,o,none⟩=some (.int .i64 kd)/\W.cell? ⟨b,o+1,none⟩=some (.int .i64 nd)/\W.cell? ⟨b,o+2,none⟩=some (.int .i64 at_)/\W.cell? ⟨b,o+3,none⟩=some (.int .i64 n)/\W.cell? ⟨b,o+4,none⟩=some (.int .u64 old)/\
 W.cell? ⟨b,o+5,none⟩=some (.int .u64 nw)/\W.cell? ⟨b,o+6,none⟩=some (.slice A l c)/\W.cell? ⟨b,o+7,none⟩=some (.int .u64 key)/\W.cell? ⟨b,o+8,none⟩=some (.int .i64 bt)
def Ju(W:World)(b:Nat)(kd nd at_ n old nw:Int)(A:Option Addr)(l c:Nat)(key bt:Int):Prop:=
 W.cell? ⟨b,0,none⟩=some (.int .i64 kd)/\W.cell? ⟨b,1,none⟩=some (.int .i64 nd)/\W.cell? ⟨b,2,none⟩=some (.int .i64 at_)/\W.cell? ⟨b,3,none⟩=some (.int .i64 n)/\W.cell? ⟨b,4,none⟩=some (.int .u64 old)/\
 W.cell? ⟨b,5,none⟩=some (.int .u64 nw)/\W.cell? ⟨b,6,none⟩=some (.slice A l c)/\W.cell? ⟨b,7,none⟩=some (.int .u64 key)/\W.cell? ⟨b,8,none⟩=some (.int .i64 bt)
def Vm(bf bn nn wu:Nat)(lines:Int)(W:World)(b:Nat)(kd nd at_ n old nw:Int)(A:Option Addr)(l c:Nat)(key bt:Int):Prop:=
 W.cell? ⟨b,0,none⟩=some (.int .i64 kd)/\W.cell? ⟨b,1,none⟩=some (.int .i64 nd)/\W.cell? ⟨b,2,none⟩=some (.int .i64 at_)/\W.cell? ⟨b,3,none⟩=some (.int .i64 n)/\W.cell? ⟨b,4,none⟩=some (.int .u64 old)/\
 W.cell? ⟨b,5,none⟩=some (.int .u64 nw)/\W.cell? ⟨b,6,none⟩=some (.slice A l c)/\W.cell? ⟨b,7,none⟩=some (.int .u64 key)/\W.cell? ⟨b,8,none⟩=some (.int .i64 bt)/\W.cell? ⟨bf,0,none⟩=some (.int .i64 lines)/\W.cell? ⟨bf,1,none⟩=some (.slice (some ⟨bn,0,none⟩) nn wu)
abbrev aJ(kd nd at_ n old nw:Int)(A:Option Addr)(l c:Nat)(key bt:Int):Array Value:= #[.int .i64 kd,.int .i64 nd,.int .i64 at_,.int .i64 n,.int .u64 old,.int .u64 nw,.slice A l c,.int .u64 key,.int .i64 bt]
def FO(bf bc ci nn:Nat)(lines:Int)(vb vo i:Nat)(W:World)(J:World->Prop):Prop:=
 ∃(kd:Int) (nd:Nat) (at_ n old nw:Int) (A:Option Addr) (l c:Nat) (key bt:Int) (bl ll lc pb:Nat),qp W vb (vo+i*9) kd nd at_ n old nw A l c key bt/\(∀o,(W.alloc o).cell? ⟨bf,0,none⟩=some (.int .i64 lines))/\
  (∀o,(W.alloc o).cell? ⟨bc,ci*7+2,none⟩=some (.slice (some ⟨bl,0,none⟩) ll lc))/\nd<ll/\(∀o,(W.alloc o).cell? ⟨bl,nd*2,none⟩=some (.pointer (some ⟨pb,0,none⟩)))/\
  Calls U' 69 #[.pointer (some ⟨pb,0,none⟩),.agg (aJ kd nd at_ n old nw A l c key bt),.int .i64 lines] (W.alloc (.cells (aJ kd nd at_ n old nw A l c key bt) 71)).drew.drew fun e w'=>
   ∃(x:Int) (PA:Option Addr) (pl pc B c':Nat) (W4:World),e=.returned (.int .i64 x)/\w'.cell? ⟨bl,nd*2+1,none⟩=some (.slice PA pl pc)/\
    Hid (∀ty,(Builtin.append_ #[116,116] ty #[.slice PA pl pc,.slice (some ⟨w'.heap.size,0,none⟩) 1 1]).run U' (w'.alloc (.cells #[.int .i64 i] 3))=.ok (.slice (some ⟨B,0,none⟩) (pl+1) c') W4)/\
    W4.frozen? ⟨bl,nd*2+1,none⟩=false/\(∃y,W4.cell? ⟨bl,nd*2+1,none⟩=some y)/\J (W4.setCell ⟨bl,nd*2+1,none⟩ (.slice (some ⟨B,0,none⟩) (pl+1) c'))
def FP(bc ci m:Nat)(W:World)(K:World->Prop):Prop:=
 ∃(MB:Array Value) (w1 w2 w3 w4:World) (tr po:Int),(Instr.makeSlice 63 (.int .i64 m) (.int .i64 m)).run U' W=.ok (.slice (some ⟨W.heap.size,0,none⟩) m m) (W.alloc (.cells MB 81))/\
  (W.alloc (.cells MB 81)).frozen? ⟨bc,ci*7+3,none⟩=false/\(∃y,(W.alloc (.cells MB 81)).cell? ⟨bc,ci*7+3,none⟩=some y)/\(W.alloc (.cells MB 81)).setCell ⟨bc,ci*7+3,none⟩ (.slice (some ⟨W.heap.size,0,none⟩) m m)=w1/\
  w1.frozen? ⟨bc,ci*7+4,none⟩=false/\(∃y,w1.cell? ⟨bc,ci*7+4,none⟩=some y)/\w1.setCell ⟨bc,ci*7+4,none⟩ (.int .i64 m)=w2/\
  w2.frozen? ⟨bc,ci*7+5,none⟩=false/\w2.cell? ⟨bc,ci*7+5,none⟩=some (.int .i64 tr)/\w2.setCell ⟨bc,ci*7+5,none⟩ (.int .i64 (wrap64 (tr+1)))=w3/\
  w3.frozen? ⟨bc,ci*7+6,none⟩=false/\w3.cell? ⟨bc,ci*7+6,none⟩=some (.int .i64 po)/\w3.setCell ⟨bc,ci*7+6,none⟩ (.int .i64 (wrap64 (po+m)))=w4/\K w4
set_option maxHeartbeats 8000000 in
set_option maxRecDepth 1000000 in
theorem PO{cc:Nat}(bf bc ci nc bn nn wu vb vo m vc:Nat)(lines:Int)(w:World)(J1 J2:Nat->World->Prop)(K:World->Prop)(iN:ci<nc)(hm:1<=m/\m<=1024)
  (h2:w.cell? ⟨bf,2,none⟩=some (.slice (some ⟨bc,0,none⟩) nc cc)) (hal:w.cell? ⟨bc,ci*7,none⟩=some (.bool true)) (tT:w.cell? ⟨bc,ci*7+3,none⟩=some (.slice none 0 0)) (FQ:J1 0 w)
  (hv:∀i W,i<m->J1 i W->∃(kd nd at_ n old nw:Int) (A:Option Addr) (l c:Nat) (key bt:Int),qp W vb (vo+i*9) kd nd at_ n old nw A l c key bt/\Vm bf bn nn wu lines (W.alloc (.cells (aJ kd nd at_ n old nw A l c key bt) 71)).drew W.heap.size kd nd at_ n old nw A l c key bt/\
   Calls U' 68 #[.agg (aJ kd nd at_ n old nw A l c key bt),.int .i64 nn,.int .i64 lines] (W.alloc (.cells (aJ kd nd at_ n old nw A l c key bt) 71)).drew fun e w'=>e=.returned (.int .i64 0)/\J1 (i+1) w'/\Vm bf bn nn wu lines w' W.heap.size kd nd at_ n old nw A l c key bt)
  (M4:∀W,J1 m W->J2 0 W)
  (QW:(∀i W,i<m->J2 i W->FO bf bc ci nn lines vb vo i W (J2 (i+1)))/\∀W,J2 m W->FP bc ci m W K):
  Calls U' 20 #[.pointer (some ⟨bf,0,none⟩),.int .i64 ci,.slice (some ⟨vb,vo,none⟩) m vc] w fun e w'=>e=.returned (.int .i64 0)/\K w':=by
 have mixed:U'.follows .mixedOrders=true:=by kernel_rfl
 have uu:(ci:Int)<(nc:Int):=by omega
 have hm0:¬(m:Int)=0:=by omega
 have iT:¬(1024:Int)<(m:Int):=by omega
 have hmb:((m:Int)==0)=false:=oE.2 hm0;have HV:Hid (∀i W,i<m->J1 i W->∃(kd nd at_ n old nw:Int) (A:Option Addr) (l c:Nat) (key bt:Int),qp W vb (vo+i*9) kd nd at_ n old nw A l c key bt/\Vm bf bn nn wu lines (W.alloc (.cells (aJ kd nd at_ n old nw A l c key bt) 71)).drew W.heap.size kd nd at_ n old nw A l c key bt/\
   Calls U' 68 #[.agg (aJ kd nd at_ n old nw A l c key bt),.int .i64 nn,.int .i64 lines] (W.alloc (.cells (aJ kd nd at_ n old nw A l c key bt) 71)).drew fun e w'=>e=.returned (.int .i64 0)/\J1 (i+1) w'/\Vm bf bn nn wu lines w' W.heap.size kd nd at_ n old nw A l c key bt):=hv
 clear hv;have HW:Hid ((∀i W,i<m->J2 i W->FO bf bc ci nn lines vb vo i W (J2 (i+1)))/\∀W,J2 m W->FP bc ci m W K):=QW;clear QW
 go_enter Tryz.func20,Tryz.ntmps20
 go_wp2
 go_loopg [43] m (fun g s W=> ∃i:Nat,i+g=m/\s=.int .i64 i/\J1 i W)
 case atStart=>exact⟨0,by omega,rfl,FQ⟩
 case round=>
  obtain⟨i,hig,rfl,hI⟩:=hrel;cases gk with
  |succ g=>
   have hi:i<m:=by omega
   have zP:(i:Int)<(m:Int):=by omega
   obtain⟨kd,nd,at_,n,old,nw,A,l,c,key,bt,⟨v0,v1,v2,v3,v4,v5,v6,v7,v8⟩,hS0,hcall⟩:=HV.out i wr hi hI;have hw:wrap64 ((i:Int)+1)=((i+1:Nat):Int):=by rw[mZ,aD];omega
   clear FQ HV hI h2 hal tT
   go_wp2
   go_region_held3 (fun w'=>w'.cell? ⟨wr.heap.size,0,none⟩=some (.int .i64 kd)/\w'.cell? ⟨wr.heap.size,1,none⟩=some (.int .i64 nd)/\w'.cell? ⟨wr.heap.size,2,none⟩=some (.int .i64 at_)/\w'.cell? ⟨wr.heap.size,3,none⟩=some (.int .i64 n)/\w'.cell? ⟨wr.heap.size,4,none⟩=some (.int .u64 old)/\
    w'.cell? ⟨wr.heap.size,5,none⟩=some (.int .u64 nw)/\w'.cell? ⟨wr.heap.size,6,none⟩=some (.slice A l c)/\w'.cell? ⟨wr.heap.size,7,none⟩=some (.int .u64 key)/\w'.cell? ⟨wr.heap.size,8,none⟩=some (.int .i64 bt)/\w'.cell? ⟨bf,0,none⟩=some (.int .i64 lines)/\w'.cell? ⟨bf,1,none⟩=some (.slice (some ⟨bn,0,none⟩) nn wu))
    (first|exact hS0|exact hS1)
    (first|(go_at_call 68;refine da hcall ?_;clear hcall;rintro e w' ⟨rfl,hJ,hS1⟩))
   all_goals
    go_wp2
    go_roundg g
    case measure=>omega
    case rel=>exact⟨i+1,by omega,rfl,hJ⟩
  |zero=>
   obtain rfl:i=m:=by omega
   have qB:=M4 wr hI;clear FQ HV hI h2 hal tT hig
   go_wp2
   go_loopg [64] i (fun g s W=> ∃j:Nat,j+g=i/\s=.int .i64 j/\J2 j W)
   case atStart=>exact⟨0,by omega,rfl,qB⟩
   case round=>
    obtain⟨j,hjg,rfl,PQ⟩:=hrel;cases gk with
    |succ g=>
     have hj:j<i:=by omega
     have hjI:(j:Int)<(i:Int):=by omega
     obtain⟨kd,nd,at_,n,old,nw,A,l,c,key,bt,bl,ll,lc,pb,⟨v0,v1,v2,v3,v4,v5,v6,v7,v8⟩,c0,c1,hnd,c2,hcall⟩:=HW.out.1 j wr hj PQ;have aaG:(nd:Int)<(ll:Int):=by omega
     have hw:wrap64 ((j:Int)+1)=((j+1:Nat):Int):=by rw[mZ,aD];omega
     clear qB HW PQ
     go_wp2
     go_region_o
     all_goals
      go_wp2
      go_region_with_o (go_at_call 69;refine da hcall ?_;clear hcall;rintro e w' ⟨x,PA,pl,pc,B,c',W4,rfl,q1,hap,q2,⟨y,q3⟩,hK⟩)
      all_goals
       go_wp2_with (at_builtin;refine Lib.wpList_append_run _ rfl _ _ _ _ rfl _ _ rfl rfl _ _ (hap.out _) ?_)
       go_roundg g
       case measure=>omega
       case rel=>exact⟨j+1,by omega,rfl,hK⟩
    |zero=>
     obtain rfl:j=i:=by omega
     obtain⟨MB,w1,w2,w3,w4,tr,po,hmk,q1,⟨y2,q2⟩,q3,q4,⟨y5,q5⟩,q6,q7,q8,q9,q10,q11,q12,hK⟩:=HW.out.2 wr PQ;clear qB HW PQ hjg
     go_wp2
     go_ret
     exact⟨rfl,hK⟩
