/- The reference's fabric: Post where it succeeds. -/
import Derived.Test.YtnjccbnlmdajkaaGreatRv
set_option linter.all false
namespace Go.Proofs.YtnjccbnlmdajkaaGreat
open Go.RowKit Go.Shelf Go.Lib Go.Ev
attribute [local go_sem] Oper.semAt_some
def aaX(f lb nl lc ci pb np pc vb vo i:Nat)(lines kd:Int)(nd:Nat)(at_ n old iO:Int)(WA:Option Addr)(wl wc:Nat)(key bt:Int)(w:World):Prop:=
 qp w vb (vo+i*9) kd nd at_ n old iO WA wl wc key bt/\w.cell? ⟨f,3,none⟩=some (.slice (some ⟨lb,0,none⟩) nl lc)/\w.cell? ⟨lb,ci,none⟩=some (.slice (some ⟨pb,0,none⟩) np pc)/\w.cell? ⟨f,0,none⟩=some (.int .i64 lines)
def TQ(f lb nl lc ci vb vo i:Nat)(lines:Int)(W:World)(J:World->Prop):Prop:=
 ∃(pb np pc nd:Nat) (kd at_ n old iO:Int) (WA:Option Addr) (wl wc:Nat) (key bt:Int),nd<np/\aaX f lb nl lc ci pb np pc vb vo i lines kd nd at_ n old iO WA wl wc key bt W.drew/\
  Calls Tryz.prog 79 #[.pointer (some ⟨pb,nd*4,none⟩),.agg (aJ kd nd at_ n old iO WA wl wc key bt),.int .i64 lines,.int .i64 (i:Int)] W.drew fun e w'=> ∃z:Int,e=.returned (.int .i64 z)/\aaX f lb nl lc ci pb np pc vb vo i lines kd nd at_ n old iO WA wl wc key bt w'/\J w'
def Mk(t m n:Nat)(w w':World):Prop:=(Instr.makeSlice t (.int .i64 m) (.int .i64 m)).run Tryz.prog w=.ok (.slice (some ⟨n,0,none⟩) m m) w'
def Qa(cb ci m:Nat)(w:World)(K:World->Prop):Prop:=
 ∃(tr po:Int) (w1 w2:World),w.drew.cell? ⟨cb,ci*7+5,none⟩=some (.int .i64 tr)/\w.drew.cell? ⟨cb,ci*7+6,none⟩=some (.int .i64 po)/\St w.drew cb (ci*7+5) (.int .i64 (IntKind.i64.wrap (tr+1))) w1/\St w1 cb (ci*7+6) (.int .i64 (IntKind.i64.wrap (po+m))) w2/\K w2
def Qb(cb ci m N:Nat)(a:World)(K:World->Prop):Prop:=
 ∃(b c x bx cx bc Vp bcx cbx bxy Qc TR e1 e2:World),
  (Mk 63 m N a b/\Mk 63 m (N+1) c Vp/\Mk 63 m N x bx/\Mk 63 m (N+1) cx cbx)/\(Mk 64 m N a c/\Mk 64 m (N+1) b bc/\Mk 64 m N x cx/\Mk 64 m (N+1) bx bcx/\Mk 64 m (N+1) bxy Qc)/\
  (St a cb (ci*7+2) (.bool true) x/\St b cb (ci*7+2) (.bool true) bx/\St c cb (ci*7+2) (.bool true) cx/\St bc cb (ci*7+2) (.bool true) bcx/\St Vp cb (ci*7+2) (.bool true) cbx)/\
  (St bx cb (ci*7+3) (.slice (some ⟨N,0,none⟩) m m) bxy/\St bcx cb (ci*7+3) (.slice (some ⟨N,0,none⟩) m m) Qc/\St cbx cb (ci*7+3) (.slice (some ⟨N+1,0,none⟩) m m) TR)/\
  (St Qc cb (ci*7+4) (.slice (some ⟨N+1,0,none⟩) m m) e1/\St TR cb (ci*7+4) (.slice (some ⟨N,0,none⟩) m m) e2)/\Qa cb ci m e1 K/\Qa cb ci m e2 K
set_option maxHeartbeats 4000000 in
set_option maxRecDepth 1000000 in
theorem Qd(f lb nl lc cb dz cc ci vb vo m vc nn nc:Nat)(NA:Option Addr)(lines:Int)(W:World)(J:Nat->World->Prop)(J2:Nat->World->Prop)(K:World->Prop)(h1:W.cell? ⟨f,2,none⟩=some (.slice (some ⟨cb,0,none⟩) dz cc))(hc:ci<dz)(h2:W.cell? ⟨cb,ci*7,none⟩=some (.bool true))(h3:W.cell? ⟨cb,ci*7+2,none⟩=some (.bool false))
  (hm0:0<m) (hm:m<=1024) (hJ:J 0 W) (hR:∀i W',i<m->J i W'->Cq f NA nn nc lines vb vo i W' (J (i+1)) fun _ _=>False) (hcl:ci<nl) (M4:∀W',J m W'->J2 0 W') (ux:∀i W',i<m->J2 i W'->TQ f lb nl lc ci vb vo i lines W' (J2 (i+1))) (hC:∀W',J2 m W'->W'.cell? ⟨f,2,none⟩=some (.slice (some ⟨cb,0,none⟩) dz cc)/\∃N,Qb cb ci m N W'.drew K):
  Calls Tryz.prog 26 #[.pointer (some ⟨f,0,none⟩),.int .i64 (ci:Int),.slice (some ⟨vb,vo,none⟩) m vc] W fun e w'=>e=.returned (.int .i64 0)/\K w':=by
 have mixed:Tryz.prog.follows .mixedOrders=true:=by kernel_rfl
 have h:=dX f cb ci dz cc true W h1 hc h2;have uu:(ci:Int)<(dz:Int):=by omega
 have hc0:(0:Int)<=(ci:Int):=by omega
 have hmb:((m:Int)==0)=false:=oE.2 (by omega);have hmI:¬(1024:Int)<(m:Int):=by omega
 have HR:Hid (∀i W',i<m->J i W'->Cq f NA nn nc lines vb vo i W' (J (i+1)) fun _ _=>False):=hR;have H12:Hid (∀W',J m W'->J2 0 W'):=M4;have Mi:Hid (∀i W',i<m->J2 i W'->TQ f lb nl lc ci vb vo i lines W' (J2 (i+1))):=ux;have HC:Hid (∀W',J2 m W'->W'.cell? ⟨f,2,none⟩=some (.slice (some ⟨cb,0,none⟩) dz cc)/\∃N,Qb cb ci m N W'.drew K):=hC;have aaF:(ci:Int)<(nl:Int):=by omega
 clear hR M4 ux hC
 go_enter Tryz.func26,Tryz.ntmps26
 go_wp2_with (go_at_call 77;refine da h ?_;clear h;rintro e w' ⟨rfl,hw⟩;rw[hw];clear hw)
 go_loopg [7] m (fun g s7 W=> ∃i:Nat,i+g=m/\s7=.int .i64 i/\J i W)
 case atStart=>exact⟨0,by omega,rfl,hJ⟩
 case round=>
  obtain⟨i,hig,rfl,hI⟩:=hrel;clear hJ;cases gk with
  |succ g=>
   have hi:i<m:=by omega
   have zP:(i:Int)<(m:Int):=by omega
   have hw:wrap64 ((i:Int)+1)=((i+1:Nat):Int):=by rw[mZ,aD];omega
   obtain⟨kd,nd,at_,n,old,iO,WA,wl,wc,key,bt,⟨r0,r1,r2,r3,r4,r5,r6,r7,r8⟩,r9,BR,hcall⟩:=HR.out i wr hi hI;clear HR H12 Mi HC hI
   go_wp2
   go_region_held3 (fun w'=>w'.cell? ⟨vb,vo+i*9,none⟩=some (.int .i64 kd)/\w'.cell? ⟨vb,vo+i*9+1,none⟩=some (.int .i64 nd)/\w'.cell? ⟨vb,vo+i*9+2,none⟩=some (.int .i64 at_)/\w'.cell? ⟨vb,vo+i*9+3,none⟩=some (.int .i64 n)/\w'.cell? ⟨vb,vo+i*9+4,none⟩=some (.int .u64 old)/\w'.cell? ⟨vb,vo+i*9+5,none⟩=some (.int .u64 iO)/\w'.cell? ⟨vb,vo+i*9+6,none⟩=some (.slice WA wl wc)/\w'.cell? ⟨vb,vo+i*9+7,none⟩=some (.int .u64 key)/\w'.cell? ⟨vb,vo+i*9+8,none⟩=some (.int .i64 bt)/\w'.cell? ⟨f,1,none⟩=some (.slice NA nn nc)/\w'.cell? ⟨f,0,none⟩=some (.int .i64 lines))
    (first|exact⟨r0,r1,r2,r3,r4,r5,r6,r7,r8,r9,BR⟩|exact⟨t0,t1,t2,t3,t4,t5,t6,t7,t8,t9,t10⟩)
    (first|(go_at_call 78;refine da hcall ?_;clear hcall;rintro e w' ⟨z,rfl,⟨t0,t1,t2,t3,t4,t5,t6,t7,t8⟩,t9,t10,hz1,hz0⟩))
   by_cases hz:z=0
   ·subst hz;have hJ':=hz0 rfl;clear hz1 hz0
    go_wp2
    go_roundg g
    case measure=>omega
    case rel=>exact⟨i+1,by omega,by first|rfl|rw[hw],hJ'⟩
   ·exact(hz1 hz).elim
  |zero=>
   obtain rfl:i=m:=by omega
   have qB:=H12.out _ hI;clear HR H12 hI
   go_wp2
   go_loopg [9] i (fun g s9 W=> ∃j:Nat,j+g=i/\s9=.int .i64 j/\J2 j W)
   case atStart=>exact⟨0,by omega,rfl,qB⟩
   case round=>
    obtain⟨j,hjg,rfl,PQ⟩:=hrel;clear qB;cases gk with
    |succ g=>
     have hj:j<i:=by omega
     have hjI:(j:Int)<(i:Int):=by omega
     have hw:wrap64 ((j:Int)+1)=((j+1:Nat):Int):=by rw[mZ,aD];omega
     obtain⟨pb,np,pc,nd,kd,at_,n,old,iO,WA,wl,wc,key,bt,hnd,⟨⟨r0,r1,r2,r3,r4,r5,r6,r7,r8⟩,r9,BR,YT⟩,hcall⟩:=Mi.out j wr hj PQ;have aaG:(nd:Int)<(np:Int):=by omega
     clear Mi HC PQ
     go_wp2
     go_region_held3 (fun w'=>w'.cell? ⟨vb,vo+j*9,none⟩=some (.int .i64 kd)/\w'.cell? ⟨vb,vo+j*9+1,none⟩=some (.int .i64 (nd:Int))/\w'.cell? ⟨vb,vo+j*9+2,none⟩=some (.int .i64 at_)/\w'.cell? ⟨vb,vo+j*9+3,none⟩=some (.int .i64 n)/\w'.cell? ⟨vb,vo+j*9+4,none⟩=some (.int .u64 old)/\w'.cell? ⟨vb,vo+j*9+5,none⟩=some (.int .u64 iO)/\w'.cell? ⟨vb,vo+j*9+6,none⟩=some (.slice WA wl wc)/\w'.cell? ⟨vb,vo+j*9+7,none⟩=some (.int .u64 key)/\w'.cell? ⟨vb,vo+j*9+8,none⟩=some (.int .i64 bt)/\w'.cell? ⟨f,3,none⟩=some (.slice (some ⟨lb,0,none⟩) nl lc)/\w'.cell? ⟨lb,ci,none⟩=some (.slice (some ⟨pb,0,none⟩) np pc)/\w'.cell? ⟨f,0,none⟩=some (.int .i64 lines))
      (first|exact⟨r0,r1,r2,r3,r4,r5,r6,r7,r8,r9,BR,YT⟩|exact⟨t0,t1,t2,t3,t4,t5,t6,t7,t8,t9,t10,t11⟩)
      (first|(go_at_call 79;refine da hcall ?_;clear hcall;rintro e w' ⟨z,rfl,⟨⟨t0,t1,t2,t3,t4,t5,t6,t7,t8⟩,t9,t10,t11⟩,hJ'⟩))
     go_wp2
     go_roundg g
     case measure=>omega
     case rel=>exact⟨j+1,by omega,by first|rfl|rw[hw],hJ'⟩
    |zero=>
     obtain rfl:j=i:=by omega
     obtain⟨sY,N,b,c,x,bx,cx,bc,Vp,bcx,cbx,bxy,Qc,TR,e1,e2,⟨a1,a2,a3,a4⟩,⟨b1,b2,b3,b4,b5⟩,⟨⟨c1,⟨y1,d1⟩,k1⟩,⟨c2,⟨y2,d2⟩,k2⟩,⟨c3,⟨y3,d3⟩,k3⟩,⟨c4,⟨y4,d4⟩,k4⟩,⟨c5,⟨y5,d5⟩,k5⟩⟩,⟨⟨c6,⟨y6,d6⟩,k6⟩,⟨c7,⟨y7,d7⟩,k7⟩,⟨c8,⟨y8,d8⟩,k8⟩⟩,⟨⟨c9,⟨y9,d9⟩,k9⟩,⟨V2,⟨y10,d10⟩,k10⟩⟩,⟨trA,poA,wA1,wA2,p1,p2,⟨p3,⟨p4,p5⟩,p6⟩,⟨p7,⟨p8,p9⟩,p10⟩,kA⟩,⟨trB,poB,wB1,wB2,q1,q2,⟨q3,⟨q4,q5⟩,q6⟩,⟨q7,⟨q8,q9⟩,q10⟩,kB⟩⟩:=HC.out _ PQ;unfold Mk at a1 a2 a3 a4 b1 b2 b3 b4 b5;clear Mi HC PQ
     go_wp2
     go_region_o
     all_goals
      go_wp2
      go_region_o
      all_goals
       go_wp2
       go_ret
       exact⟨rfl,by assumption⟩
