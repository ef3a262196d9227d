/- Choices: the walk. -/
import Derived.Test.YtnjccbnlmdajkaaGreatStpW
set_option linter.all false
namespace Go.Proofs.YtnjccbnlmdajkaaGreat
open Go.RowKit Go.Shelf Go.Lib Go.Ev
attribute [local go_sem] Oper.semAt_some
set_option maxRecDepth 1000000 in
theorem Gh(pb:Nat)(c:Int)(W:World)(h:W.cell? ⟨pb,0,none⟩=some (.int .i64 c)):Calls Tryz.prog 71 #[.pointer (some ⟨pb,0,none⟩)] W fun e w'=>e=.returned (.int .i64 c)/\w'=W:=by
 go_enter Tryz.func71,Tryz.ntmps71
 go_wp2
 go_ret
 exact⟨rfl,rfl⟩
set_option maxRecDepth 1000000 in
theorem Cs(pb:Nat)(c:Int)(W:World)(h:W.cell? ⟨pb,2,none⟩=some (.int .i64 c)):Calls Tryz.prog 72 #[.pointer (some ⟨pb,0,none⟩)] W fun e w'=>e=.returned (.int .i64 c)/\w'=W:=by
 go_enter Tryz.func72,Tryz.ntmps72
 go_wp2
 go_ret
 exact⟨rfl,rfl⟩
def Mn(x y z:Int)(v:Value)(W:World)(J:Value->World->Prop):Prop:=
 ∃(A:Option Addr) (l c B c':Nat) (W4:World),v=.slice A l c/\Hid (∀ty,(Builtin.append_ #[73,73] ty #[.slice A l c,.slice (some ⟨W.heap.size,0,none⟩) 1 1]).run Tryz.prog (W.alloc (.cells #[.int .i64 x,.int .i64 y,.int .i64 z] 77))=.ok (.slice (some ⟨B,0,none⟩) (l+1) c') W4)/\J (.slice (some ⟨B,0,none⟩) (l+1) c') W4
def adH(bc i:Nat)(v:Value)(W:World)(J2:Option Addr->Nat->Nat->Value->World->Prop):Prop:=
 ∃(al:Bool) (inc:Int) (LA BA:Option Addr) (ll lc bn bcp:Nat) (wv tr po:Int),W.cell? ⟨bc,i*7,none⟩=some (.bool al)/\W.cell? ⟨bc,i*7+1,none⟩=some (.int .i64 inc)/\W.cell? ⟨bc,i*7+2,none⟩=some (.slice LA ll lc)/\W.cell? ⟨bc,i*7+3,none⟩=some (.slice BA bn bcp)/\
  W.cell? ⟨bc,i*7+4,none⟩=some (.int .i64 wv)/\W.cell? ⟨bc,i*7+5,none⟩=some (.int .i64 tr)/\W.cell? ⟨bc,i*7+6,none⟩=some (.int .i64 po)/\∃wa,W.alloc (.cells #[.bool al,.int .i64 inc,.slice LA ll lc,.slice BA bn bcp,.int .i64 wv,.int .i64 tr,.int .i64 po] 99)=wa/\
  wa.cell? ⟨W.heap.size,2,none⟩=some (.slice LA ll lc)/\J2 LA ll 0 v wa
def adI(i:Nat)(LA:Option Addr)(j:Nat)(v:Value)(W:World)(J2:Nat->Value->World->Prop):Prop:=
 ∃(bl pb:Nat) (PA VA:Option Addr) (pl pc vl vc:Nat),LA=some ⟨bl,0,none⟩/\W.cell? ⟨bl,j*2,none⟩=some (.pointer (some ⟨pb,0,none⟩))/\W.cell? ⟨bl,j*2+1,none⟩=some (.slice PA pl pc)/\∃wb,W.alloc (.cells #[.pointer (some ⟨pb,0,none⟩),.slice PA pl pc] 118)=wb/\
  wb.cell? ⟨W.heap.size,0,none⟩=some (.pointer (some ⟨pb,0,none⟩))/\wb.cell? ⟨pb,3,none⟩=some (.slice VA vl vc)/\(vl=0->J2 (j+1) v wb)/\(0<vl->Mn (-1) i j v wb (J2 (j+1)))
def adJ(OA:Option Addr)(k:Nat)(v:Value)(W:World)(J3:Nat->Value->World->Prop):Prop:=
 ∃(bo pb:Nat) (c n:Int),OA=some ⟨bo,0,none⟩/\W.cell? ⟨bo,k,none⟩=some (.pointer (some ⟨pb,0,none⟩))/\W.cell? ⟨pb,0,none⟩=some (.int .i64 c)/\W.cell? ⟨pb,2,none⟩=some (.int .i64 n)/\Mn k c n v W (J3 (k+1))
set_option maxHeartbeats 8000000 in
set_option maxRecDepth 1000000 in
theorem Gi{cc:Nat}(bf bc nc on oc:Nat)(OA:Option Addr)(w:World)(J:Nat->Value->World->Prop)(J2:Nat->Option Addr->Nat->Nat->Value->World->Prop)(J3:Nat->Value->World->Prop)(K:Value->World->Prop)
  (nH:on<=100000) (hnc:nc<=100000) (h2:w.cell? ⟨bf,2,none⟩=some (.slice (some ⟨bc,0,none⟩) nc cc)) (hJ:J 0 (.slice none 0 0) w)
  (H:(∀i v W,i<nc->J i v W->adH bc i v W (J2 i))/\(∀i LA ll j v W,j<ll->J2 i LA ll j v W->ll<=100000/\adI i LA j v W (J2 i LA ll))/\(∀i LA ll v W,J2 i LA ll ll v W->J (i+1) v W)/\(∀v W,J nc v W->W.cell? ⟨bf,3,none⟩=some (.slice OA on oc)/\J3 0 v W)/\
   (∀k v W,k<on->J3 k v W->adJ OA k v W J3)/\∀v W,J3 on v W->K v W):
  Calls Tryz.prog 21 #[.pointer (some ⟨bf,0,none⟩)] w fun e w'=> ∃v,e=.returned v/\K v w':=by
 have HH:Hid _:=H;clear H
 go_enter Tryz.func21,Tryz.ntmps21
 go_wp2
 go_loopg [3,15] nc (fun g s3 s15 W=> ∃i:Nat,i+g=nc/\s15=.int .i64 i/\J i s3 W)
 case atStart=>exact⟨0,by omega,rfl,hJ⟩
 case round=>
  obtain⟨i,hig,rfl,hI⟩:=hrel;cases gk with
  |succ g=>
   have hi:i<nc:=by omega
   have zP:(i:Int)<(nc:Int):=by omega
   obtain⟨al,inc,LA,BA,ll,lc,bn,bcp,wv,tr,po,c0,c1,c2,c3,c4,c5,c6,wa,ea,ga,qB⟩:=HH.out.1 i _ _ hi hI;have hw:wrap64 ((i:Int)+1)=((i+1:Nat):Int):=by rw[mZ,aD];omega
   clear hJ hI
   go_wp2
   clear c0 c1 c2 c3 c4 c5 c6 ea ga
   go_loopg [3,23] ll (fun g s3 s23 W=> ∃j:Nat,j+g=ll/\s23=.int .i64 j/\J2 i LA ll j s3 W)
   case atStart=>exact⟨0,by omega,rfl,qB⟩
   case round=>
    obtain⟨j,hjg,rfl,hIj⟩:=hrel;cases gk with
    |succ g'=>
     have hj:j<ll:=by omega
     have hjI:(j:Int)<(ll:Int):=by omega
     obtain⟨QX,bl,pb,PA,VA,pl,pc,vl,vc,rfl,d0,d1,wb,eb,gb,hv,hz,hp⟩:=HH.out.2.1 i _ _ j _ _ hj hIj;have hwj:wrap64 ((j:Int)+1)=((j+1:Nat):Int):=by rw[mZ,aD];omega
     have PV:=jk pb vl vc VA wb hv;clear qB hIj;by_cases h0:vl=0
     ·have zR:=hz h0;have hvI:¬(0:Int)<(vl:Int):=by omega
      clear hz hp
      go_wp2_with (go_at_call 70;refine da PV ?_;rintro e w' ⟨rfl,hw⟩;rw[hw];clear hw)
      go_roundg g'
      case measure=>omega
      case rel=>exact⟨j+1,by omega,rfl,zR⟩
     ·have hvI:(0:Int)<(vl:Int):=by omega
      obtain⟨A,l,c,B,c',W4,rfl,hap,zR⟩:=hp (by omega);clear hz hp
      go_wp2_with (first|(go_at_call 70;refine da PV ?_;rintro e w' ⟨rfl,hw⟩;rw[hw];clear hw)|(at_builtin;refine Lib.wpList_append_run _ rfl _ _ _ _ rfl _ _ rfl rfl _ _ (hap.out _) ?_))
      go_roundg g'
      case measure=>omega
      case rel=>exact⟨j+1,by omega,rfl,zR⟩
    |zero=>
     obtain rfl:j=ll:=by omega
     have zR:=HH.out.2.2.1 i _ _ _ _ hIj;clear qB hIj
     go_wp2
     go_roundg g
     case measure=>omega
     case rel=>exact⟨i+1,by omega,rfl,zR⟩
  |zero=>
   obtain rfl:i=nc:=by omega
   obtain⟨h3,LB⟩:=HH.out.2.2.2.1 _ _ hI;clear hJ hI h2 hig
   go_wp2
   clear h3
   go_loopg [3,45] on (fun g s3 s W=> ∃k:Nat,k+g=on/\s=.int .i64 k/\J3 k s3 W)
   case atStart=>exact⟨0,by omega,rfl,LB⟩
   case round=>
    obtain⟨k,hkg,rfl,hIk⟩:=hrel;cases gk with
    |succ g=>
     have hk:k<on:=by omega
     have hkI:(k:Int)<(on:Int):=by omega
     obtain⟨bo,pb,c,n,rfl,d0,d1,d2,A,l,ca,B,c',W4,rfl,hap,zR⟩:=HH.out.2.2.2.2.1 k _ _ hk hIk;have hwk:wrap64 ((k:Int)+1)=((k+1:Nat):Int):=by rw[mZ,aD];omega
     have xW:=Gh pb c _ d1;have Ie:=Cs pb n _ d2;clear LB hIk
     go_wp2_with (first|(go_at_call 71;refine da xW ?_;rintro e w' ⟨rfl,hw⟩;rw[hw];clear hw)|(go_at_call 72;refine da Ie ?_;rintro e w' ⟨rfl,hw⟩;rw[hw];clear hw)|(at_builtin;refine Lib.wpList_append_run _ rfl _ _ _ _ rfl _ _ rfl rfl _ _ (hap.out _) ?_))
     go_roundg g
     case measure=>omega
     case rel=>exact⟨k+1,by omega,rfl,zR⟩
    |zero=>
     obtain rfl:k=on:=by omega
     have hK:=HH.out.2.2.2.2.2 _ _ hIk;clear LB hIk HH
     go_wp2
     go_ret
     exact⟨_,rfl,hK⟩
