/- bodegalaw6.verbs: the walk. -/
import Derived.Test.YtnjccbnlmdajkaaGreatVrbW
import Derived.Test.YtnjccbnlmdajkaaGreatPstW
set_option linter.all false
namespace Go.Proofs.YtnjccbnlmdajkaaGreat
open Go.RowKit Go.Shelf Go.Lib Go.Ev
attribute [local go_sem] Oper.semAt_some
def Td(b6:Nat)(A:Option Addr)(l c:Nat)(y0 y1 y2 y3 y4 y5:Int)(YA:Option Addr)(yl yc:Nat)(w:World)(J:Option Addr->Nat->Nat->World->Prop):Prop:=
 ∃(B c':Nat) (w':World),Ju w b6 y0 y1 y2 y3 y4 y5 YA yl yc 0 0/\
  Hid (∀ty,(Builtin.append_ #[72,72] ty #[.slice A l c,.slice (some ⟨w.heap.size,0,none⟩) 1 1]).run Tryz.prog (w.alloc (.cells (aJ y0 y1 y2 y3 y4 y5 YA yl yc 0 0) 71))=.ok (.slice (some ⟨B,0,none⟩) (l+1) c') w')/\J (some ⟨B,0,none⟩) (l+1) c' w'
def St(w:World)(b j:Nat)(v:Value)(w':World):Prop:=w.frozen? ⟨b,j,none⟩=false/\(∃y,w.cell? ⟨b,j,none⟩=some y)/\w.setCell ⟨b,j,none⟩ v=w'
def S3(n5:Nat)(x0 x1 x2:Int)(w:World):Prop:=w.cell? ⟨n5,0,none⟩=some (.int .i64 x0)/\w.cell? ⟨n5,1,none⟩=some (.int .i64 x1)/\w.cell? ⟨n5,2,none⟩=some (.int .i64 x2)
def ac3(n5:Nat)(A:Option Addr)(l c:Nat)(x0 x1 x2 x3:Int)(a0 a1 a2 a3 a4 a5:Int)(WA:Option Addr)(wl wc:Nat)(a7 a8:Int)(w:World)(J:Option Addr->Nat->Nat->World->Prop):Prop:=
 ∃w2 w3:World,St (w.alloc (.cells (aJ a0 a1 a2 a3 a4 a5 WA wl wc a7 a8) 71)) w.heap.size 7 (.int .u64 0) w2/\St w2 w.heap.size 8 (.int .i64 0) w3/\w3.cell? ⟨n5,3,none⟩=some (.int .i64 x3)/\
  (pick x3 9=0->Td w.heap.size A l c a0 a1 a2 a3 a4 a5 WA wl wc w3 J)/\
  (0<pick x3 9->∃(w4 w5 w6 w7 w8 w9:World) (B c':Nat),S3 n5 x0 x1 x2 w3.drew/\St w3.drew w.heap.size 0 (.int .i64 (pick x0 4+1)) w4/\S3 n5 x0 x1 x2 w4/\St w4 w.heap.size 1 (.int .i64 (pick x1 2)) w5/\S3 n5 x0 x1 x2 w5/\St w5 w.heap.size 2 (.int .i64 (pick x2 60+32)) w6/\S3 n5 x0 x1 x2 w6/\
   w6.cell? ⟨n5,3,none⟩=some (.int .i64 x3)/\St w6 w.heap.size 3 (.int .i64 (pick x3 20+1)) w7/\w7.cell? ⟨w.heap.size,6,none⟩=some (.slice WA wl wc)/\
   Hid (∀ty,(Builtin.append_ #[59,59] ty #[.slice WA wl wc,.slice (some ⟨w7.heap.size,0,none⟩) 1 1]).run Tryz.prog (w7.alloc (.cells #[.int .u64 7] 69))=.ok (.slice (some ⟨B,0,none⟩) (wl+1) c') w8)/\St w8 w.heap.size 6 (.slice (some ⟨B,0,none⟩) (wl+1) c') w9/\
   Td w.heap.size A l c (pick x0 4+1) (pick x1 2) (pick x2 60+32) (pick x3 20+1) a4 a5 (some ⟨B,0,none⟩) (wl+1) c' w9 J)
def Te(vb vo i:Nat)(A:Option Addr)(l c:Nat)(W:World)(J:Option Addr->Nat->Nat->World->Prop):Prop:=
 ∃x0 x1 x2 x3 x4 x5:Int,W.cell? ⟨vb,vo+i*6,none⟩=some (.int .i64 x0)/\W.cell? ⟨vb,vo+i*6+1,none⟩=some (.int .i64 x1)/\W.cell? ⟨vb,vo+i*6+2,none⟩=some (.int .i64 x2)/\W.cell? ⟨vb,vo+i*6+3,none⟩=some (.int .i64 x3)/\W.cell? ⟨vb,vo+i*6+4,none⟩=some (.int .u64 x4)/\W.cell? ⟨vb,vo+i*6+5,none⟩=some (.int .u64 x5)/\
  Calls Tryz.prog 76 #[.int .i64 x0,.int .i64 x1,.int .i64 x2,.int .i64 x3,.int .i64 1,.int .i64 1,.int .u64 x4,.int .u64 x5] (W.alloc (.cells #[.int .i64 x0,.int .i64 x1,.int .i64 x2,.int .i64 x3,.int .u64 x4,.int .u64 x5] 127)) fun e w'=>
   ∃(a0 a1 a2 a3 a4 a5:Int) (WA:Option Addr) (wl wc:Nat) (a7 a8:Int),e=.returned (.agg (aJ a0 a1 a2 a3 a4 a5 WA wl wc a7 a8))/\ac3 W.heap.size A l c x0 x1 x2 x3 a0 a1 a2 a3 a4 a5 WA wl wc a7 a8 w' J
set_option maxHeartbeats 8000000 in
set_option maxRecDepth 1000000 in
theorem LU(vb vo m vc:Nat)(w:World)(J:Nat->Option Addr->Nat->Nat->World->Prop)(hm:m<=100000)(hJ:J 0 none 0 0 w)(hR:∀i A l c W,i<m->J i A l c W->Te vb vo i A l c W (J (i+1))):
  Calls Tryz.prog 25 #[.slice (some ⟨vb,vo,none⟩) m vc] w fun e w'=> ∃A l c,e=.returned (.slice A l c)/\J m A l c w':=by
 have mixed:Tryz.prog.follows .mixedOrders=true:=by kernel_rfl
 have HR:Hid (∀i A l c W,i<m->J i A l c W->Te vb vo i A l c W (J (i+1))):=hR;clear hR
 go_enter Tryz.func25,Tryz.ntmps25
 go_wp2
 go_loopg [3,4] m (fun g s3 s4 W=> ∃(i:Nat) (A:Option Addr) (l c:Nat),i+g=m/\s4=.int .i64 i/\s3=.slice A l c/\J i A l c W)
 case atStart=>exact⟨0,none,0,0,by omega,rfl,rfl,hJ⟩
 case round=>
  obtain⟨i,A,l,c,hig,rfl,rfl,hI⟩:=hrel;cases gk with
  |succ g=>
   have hi:i<m:=by omega
   have zP:(i:Int)<(m:Int):=by omega
   have hw:wrap64 ((i:Int)+1)=((i+1:Nat):Int):=by rw[mZ,aD];omega
   obtain⟨x0,x1,x2,x3,x4,x5,v0,v1,v2,v3,v4,v5,hcall⟩:=HR.out i A l c wr hi hI;clear hJ HR hI;have hp:=fun(n m:Int) (h1:0<m) (h2:m<=100000) w=>aX n m w h1 h2;by_cases hpk:0<pick x3 9
   ·go_wp2_with (first|(go_at_call 76;refine da hcall ?_;clear hcall;rintro e w' ⟨a0,a1,a2,a3,a4,a5,WA,wl,wc,a7,a8,rfl,w2,w3,⟨f7,⟨y7,c7⟩,e7⟩,⟨f8,⟨y8,c8⟩,e8⟩,z3,hz,qK⟩;obtain⟨w4,w5,w6,w7,w8,w9,B,c',q0,⟨m1,⟨y1,m2⟩,m3⟩,q1,⟨m4,⟨y4,m5⟩,m6⟩,q2,⟨m7,⟨y7',m8⟩,m9⟩,q3,m10,⟨m11,⟨y11,m12⟩,m13⟩,m14,zo,⟨m15,⟨y15,m16⟩,m17⟩,B2,c2,w10,⟨n0,n1,n2,n3,n4,n5,n6,n7,n8⟩,sM,hJJ⟩:=qK hpk;clear hz qK)|(go_at_call 24;refine da (hp _ _ (by decide) (by decide) _) ?_;rintro e w' ⟨rfl,hw⟩;rw[hw];clear hw))
    have r0:IntKind.i64.wrap (pick x0 4+1)=pick x0 4+1:=by have:=dC (n:=x0) (m:=4) (by omega);rw[aD];omega
    have r2:IntKind.i64.wrap (pick x2 60+32)=pick x2 60+32:=by have:=dC (n:=x2) (m:=60) (by omega);rw[aD];omega
    have r3:wrap64 (pick x3 20+1)=pick x3 20+1:=by have:=dC (n:=x3) (m:=20) (by omega);rw[mZ,aD];omega
    go_region_held3 (fun w'=>w'.cell? ⟨wr.heap.size,0,none⟩=some (.int .i64 x0)/\w'.cell? ⟨wr.heap.size,1,none⟩=some (.int .i64 x1)/\w'.cell? ⟨wr.heap.size,2,none⟩=some (.int .i64 x2))
     (first|exact q0|exact q1|exact q2|exact q3)
     (first|(go_at_call 24;refine da (hp _ _ (by decide) (by decide) _) ?_;rintro e w' ⟨rfl,hw⟩;rw[hw];clear hw))
    clear q0 q1 q2 q3
    go_wp2_with (first|(go_at_call 24;refine da (hp _ _ (by decide) (by decide) _) ?_;rintro e w' ⟨rfl,hw⟩;rw[hw];clear hw)|(at_builtin;refine Lib.wpList_append_run _ rfl _ _ _ _ rfl _ _ rfl rfl _ _ (zo.out _) ?_)|(at_builtin;refine Lib.wpList_append_run _ rfl _ _ _ _ rfl _ _ rfl rfl _ _ (sM.out _) ?_))
    go_roundg g
    case measure=>omega
    case rel=>exact⟨i+1,_,_,_,by omega,rfl,rfl,hJJ⟩
   ·have afr:pick x3 9=0:=by have:=dC (n:=x3) (m:=9) (by omega);omega
    go_wp2_with (first|(go_at_call 76;refine da hcall ?_;clear hcall;rintro e w' ⟨a0,a1,a2,a3,a4,a5,WA,wl,wc,a7,a8,rfl,w2,w3,⟨f7,⟨y7,c7⟩,e7⟩,⟨f8,⟨y8,c8⟩,e8⟩,z3,hz,qK⟩;obtain⟨B2,c2,w10,⟨n0,n1,n2,n3,n4,n5,n6,n7,n8⟩,sM,hJJ⟩:=hz afr;clear hz qK)|(go_at_call 24;refine da (hp _ _ (by decide) (by decide) _) ?_;rintro e w' ⟨rfl,hw⟩;rw[hw];clear hw)|(at_builtin;refine Lib.wpList_append_run _ rfl _ _ _ _ rfl _ _ rfl rfl _ _ (sM.out _) ?_))
    go_roundg g
    case measure=>omega
    case rel=>exact⟨i+1,_,_,_,by omega,rfl,rfl,hJJ⟩
  |zero=>
   obtain rfl:i=m:=by omega
   clear hJ HR
   go_wp2
   go_ret
   exact⟨A,l,c,rfl,hI⟩
