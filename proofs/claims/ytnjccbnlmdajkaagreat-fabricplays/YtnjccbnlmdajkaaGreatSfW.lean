/- SameFabric: the walk. -/
import Derived.BigQuiet
import Derived.Test.YtnjccbnlmdajkaaGreatRv
import Derived.Test.YtnjccbnlmdajkaaGreatRkD
set_option linter.all false
namespace Go.Proofs.YtnjccbnlmdajkaaGreat
open Go.Proofs.Tryz renaming prog->U'
open Go.RowKit Go.Shelf Go.Lib Go.Ev
attribute [local go_sem] Oper.semAt_some
attribute [local go_sem] eU dm dq eV
structure SfC(fb rb kE nc js cc:Nat)(w:World):Prop where
 r0:w.cell? ⟨rb,0,none⟩=some (.int .i64 12)
 r1:w.cell? ⟨rb,1,none⟩=some (.slice (some ⟨kE,0,none⟩) 2 nc)
 r2:w.cell? ⟨rb,2,none⟩=some (.slice (some ⟨js,0,none⟩) 2 cc)
 h43:Calls U' 43 #[.pointer (some ⟨fb,0,none⟩)] w fun e w'=>e=.returned (.int .i64 2)/\w'=w
 h44:Calls U' 44 #[.pointer (some ⟨fb,0,none⟩)] w fun e w'=>e=.returned (.int .i64 2)/\w'=w
 h45:Calls U' 45 #[.pointer (some ⟨fb,0,none⟩)] w fun e w'=>e=.returned (.int .i64 12)/\w'=w
structure SfN(fb rb kE nc:Nat)(nb:Nat->Nat)(J:World->Prop)(w:World):Prop where
 X2:∀i:Nat,i<2->Calls U' 39 #[.pointer (some ⟨fb,0,none⟩),.int .i64 (i:Int)] w fun e w'=>e=.returned (.pointer (some ⟨nb i,0,none⟩))/\w'=w
 h46:∀i:Nat,i<2->Calls U' 46 #[.pointer (some ⟨nb i,0,none⟩),.pointer (some ⟨kE,i*2,none⟩)] w fun e w'=>e=.returned (.bool true)/\J w'
structure SfL(fb rb js:Nat)(tr po:Nat->Int)(w:World):Prop where
 al:∀c:Int,∃b:Bool,(Calls U' 47 #[.pointer (some ⟨fb,0,none⟩),.int .i64 c] w fun e w'=>e=.returned (.bool b)/\w'=w)/\(Calls U' 48 #[.pointer (some ⟨rb,0,none⟩),.int .i64 c] w fun e w'=>e=.returned (.bool b)/\w'=w)
 inc:∀c:Int,∃b:Int,(Calls U' 49 #[.pointer (some ⟨fb,0,none⟩),.int .i64 c] w fun e w'=>e=.returned (.int .i64 b)/\w'=w)/\(Calls U' 50 #[.pointer (some ⟨rb,0,none⟩),.int .i64 c] w fun e w'=>e=.returned (.int .i64 b)/\w'=w)
 wt:∀c:Int,∃b:Int,(Calls U' 51 #[.pointer (some ⟨fb,0,none⟩),.int .i64 c] w fun e w'=>e=.returned (.int .i64 b)/\w'=w)/\(Calls U' 52 #[.pointer (some ⟨rb,0,none⟩),.int .i64 c] w fun e w'=>e=.returned (.int .i64 b)/\w'=w)
 h53:∀c:Nat,c<2->Calls U' 53 #[.pointer (some ⟨fb,0,none⟩),.int .i64 (c:Int)] w fun e w'=>e=.returned (.int .i64 (tr c))/\w'=w
 ctr:∀c:Nat,c<2->w.cell? ⟨js,c*7+5,none⟩=some (.int .i64 (tr c))
 h54:∀c:Nat,c<2->Calls U' 54 #[.pointer (some ⟨fb,0,none⟩),.int .i64 (c:Int)] w fun e w'=>e=.returned (.int .i64 (po c))/\w'=w
 cpo:∀c:Nat,c<2->w.cell? ⟨js,c*7+6,none⟩=some (.int .i64 (po c))
def SfX(fb rb:Nat)(K:World->Prop)(w:World):Prop:=
 Calls U' 21 #[.pointer (some ⟨fb,0,none⟩)] w fun e w'=> ∃(A:Option Addr) (n c:Nat),e=.returned (.slice A n c)/\n<=100000/\Calls U' 27 #[.pointer (some ⟨rb,0,none⟩)] w' fun e w2=> ∃(B:Option Addr) (d p q:Nat),e=.returned (.slice B n d)/\K w2/\
  (0<n->A=some ⟨p,0,none⟩/\B=some ⟨q,0,none⟩)/\∀k:Nat,k<n->∃x y z:Int,w2.cell? ⟨p,k*3,none⟩=some (.int .i64 x)/\w2.cell? ⟨p,k*3+1,none⟩=some (.int .i64 y)/\w2.cell? ⟨p,k*3+2,none⟩=some (.int .i64 z)/\
   w2.cell? ⟨q,k*3,none⟩=some (.int .i64 x)/\w2.cell? ⟨q,k*3+1,none⟩=some (.int .i64 y)/\w2.cell? ⟨q,k*3+2,none⟩=some (.int .i64 z)
def SfE (p q n : Nat) (w : World) : Prop := ∀ k : Nat,k < n -> ∃ x y z : Int,w.cell? ⟨p,k * 3,none⟩ = some (.int .i64 x)/\w.cell? ⟨p,k * 3 + 1,none⟩ = some (.int .i64 y)/\w.cell? ⟨p,k * 3 + 2,none⟩ = some (.int .i64 z) /\
   w.cell? ⟨q,k*3,none⟩=some (.int .i64 x)/\w.cell? ⟨q,k*3+1,none⟩=some (.int .i64 y)/\w.cell? ⟨q,k*3+2,none⟩=some (.int .i64 z)
set_option maxHeartbeats 4000000 in
set_option maxRecDepth 1000000 in
theorem X3(fb rb kE nc js cc:Nat)(nb:Nat->Nat)(tr po:Nat->Int)(W:World)(J K:World->Prop)(hJ:J W)(hD:∀w n,J w->J (w.drewN n))(hC:∀w,J w->SfC fb rb kE nc js cc w)(hN:∀w,J w->SfN fb rb kE nc nb J w)(hL:∀w,J w->SfL fb rb js tr po w)(hX:∀w,J w->SfX fb rb K w)(Vr:∀w n,K w->K (w.drewN n)):
  Calls U' 10 #[.pointer (some ⟨fb,0,none⟩),.pointer (some ⟨rb,0,none⟩)] W fun e w'=>e=.returned (.bool true)/\K w':=by
 have mixed:U'.follows .mixedOrders=true:=by kernel_rfl
 have HC:Hid (∀w,J w->SfC fb rb kE nc js cc w):=hC;have HN:Hid (∀w,J w->SfN fb rb kE nc nb J w):=hN;have HL:Hid (∀w,J w->SfL fb rb js tr po w):=hL;have HX:Hid (∀w,J w->SfX fb rb K w):=hX;have HD:Hid (∀w n,J w->J (w.drewN n)):=hD;have HK:Hid (∀w n,K w->K (w.drewN n)):=Vr;clear hC hN hL hX hD Vr;obtain⟨a0,a1,a2,h43,h44,h45⟩:=HC.out W hJ
 go_enter Tryz.func10,Tryz.ntmps10
 go_wp2_with fail
 go_quiet (first|(go_at_call 43;exact kt (HC.out _ (HD.out _ _ hJ)).h43)|(go_at_call 44;exact kt (HC.out _ (HD.out _ _ hJ)).h44)|(go_at_call 45;exact kt (HC.out _ (HD.out _ _ hJ)).h45))
 go_wp2_with fail
 go_loopg [5] 2 (fun g s5 w=> ∃i:Nat,i+g=2/\s5=.int .i64 i/\J w)
 case atStart=>exact⟨0,rfl,rfl,HD.out _ _ hJ⟩
 case round=>
  clear hJ a0 a1 a2 h43 h44 h45;obtain⟨i,hig,rfl,hJ⟩:=hrel;obtain⟨a0,a1,a2,h43,h44,h45⟩:=HC.out _ hJ;clear h43 h44 h45;by_cases hg:0<gk
  ·obtain⟨g,rfl⟩:∃g,gk=g+1:=⟨gk-1,by omega⟩;have zP:(i:Int)<2:=by omega
   have hw:wrap64 ((i:Int)+1)=((i+1:Nat):Int):=by rw[mZ,aD];omega
   have qB:=HD.out _ 1 hJ;have X2:=(HN.out _ qB).X2 i (by omega);have h46:=(HN.out _ qB).h46 i (by omega);have b1:=(HC.out _ qB).r1
   go_wp2_with fail
   go_region_held3 (fun w'=>w'.cell? ⟨rb,1,none⟩=some (.slice (some ⟨kE,0,none⟩) 2 nc)) (first|exact b1|exact b2) (first|(go_at_call 39;refine da X2 ?_;clear X2;rintro e w' ⟨rfl,hw⟩;rw[hw];clear hw)|(go_at_call 46;refine da h46 ?_;clear h46;rintro e w' ⟨rfl,LB⟩;have b2:=(HC.out _ LB).r1))
   go_wp2_with fail
   go_roundg g
   case measure=>omega
   case rel=>exact⟨i+1,by omega,rfl,LB⟩
  ·obtain rfl:i=2:=by omega
   clear a0 hg hig
   go_wp2_with fail
   go_loopg [6] 4 (fun g s6 w=> ∃c:Int,c+g=3/\-1<=c/\s6=.int .i64 c/\J w)
   case atStart=>exact⟨-1,rfl,Int.le_refl _,rfl,hJ⟩
   case round=>
    clear hJ a1 a2;obtain⟨c,hcg,hcm,rfl,hJ⟩:=hrel;have a2:=(HC.out _ hJ).r2;by_cases hg:0<gk
    ·obtain⟨g,rfl⟩:∃g,gk=g+1:=⟨gk-1,by omega⟩;have sY:c<=2:=by omega
     have hw:wrap64 (c+1)=c+1:=by rw[mZ,aD];omega
     obtain⟨b,hb1,hb2⟩:=(HL.out _ hJ).al c;obtain⟨ic,hi1,hi2⟩:=(HL.out _ hJ).inc c;obtain⟨wt,hw1,hw2⟩:=(HL.out _ hJ).wt c;have HA:Hid (c+((g+1:Nat):Int)=3/\-1<=c/\0<g+1):=⟨hcg,hcm,hg⟩;clear hcg hcm hg
     go_wp2_with (first|(go_at_call 47;refine da hb1 ?_;clear hb1;rintro e w' ⟨rfl,hw⟩;rw[hw];clear hw)|(go_at_call 48;refine da hb2 ?_;clear hb2;rintro e w' ⟨rfl,hw⟩;rw[hw];clear hw)|(go_at_call 49;refine da hi1 ?_;clear hi1;rintro e w' ⟨rfl,hw⟩;rw[hw];clear hw)|(go_at_call 50;refine da hi2 ?_;clear hi2;rintro e w' ⟨rfl,hw⟩;rw[hw];clear hw)|
      (go_at_call 51;refine da hw1 ?_;clear hw1;rintro e w' ⟨rfl,hw⟩;rw[hw];clear hw)|(go_at_call 52;refine da hw2 ?_;clear hw2;rintro e w' ⟨rfl,hw⟩;rw[hw];clear hw))
     by_cases hc0:0<=c
     ·have d0:decide (0<=c)=true:=oS hc0;obtain⟨n,rfl⟩:∃n:Nat,c=n:=⟨c.toNat,by omega⟩;by_cases CT:n<2
      ·have hnI:(n:Int)<2:=by omega
       have d1:decide ((n:Int)<2)=true:=oS hnI;have e1:=(HL.out _ hJ).ctr n CT;have e2:=(HL.out _ hJ).cpo n CT
       go_quiet (first|(go_at_call 53;exact kt ((HL.out _ (HD.out _ _ hJ)).h53 n CT))|(go_at_call 54;exact kt ((HL.out _ (HD.out _ _ hJ)).h54 n CT)))
       go_wp2_with fail
       go_roundg g
       case measure=>omega
       case rel=>exact⟨(n:Int)+1,by have:=HA.out.1;omega,by omega,rfl,HD.out _ _ hJ⟩
      ·have hnI:¬(n:Int)<2:=by omega
       have d1:decide ((n:Int)<2)=false:=kq hnI
       go_quiet (fail)
       go_wp2_with fail
       go_roundg g
       case measure=>omega
       case rel=>exact⟨(n:Int)+1,by have:=HA.out.1;omega,by omega,rfl,HD.out _ _ hJ⟩
     ·have d0:decide (0<=c)=false:=kq hc0
      go_quiet (fail)
      go_wp2_with fail
      go_roundg g
      case measure=>omega
      case rel=>exact⟨c+1,by have:=HA.out.1;omega,by have:=HA.out.2.1;omega,rfl,HD.out _ _ hJ⟩
    ·obtain rfl:c=3:=by omega
     have hX:=HX.out _ hJ;clear hJ hcg hcm hg HC HN HL HX HD
     go_wp2_with (first|(go_at_call 21;refine da hX ?_;clear hX;rintro e w1 ⟨A,n,cA,rfl,hn,h27⟩)|(go_at_call 27;refine da h27 ?_;clear h27;rintro e w2 ⟨B,d,p,q,rfl,hK,hAB,hcell⟩))
     go_loopg [9] n (fun g s9 w=> ∃k:Nat,k+g=n/\s9=.int .i64 k/\K w/\SfE p q n w)
     case atStart=>exact⟨0,by omega,rfl,hK,hcell⟩
     case round=>
      clear hK hcell;obtain⟨k,hkg,rfl,hK,hcell⟩:=hrel;by_cases hg:0<gk
      ·obtain⟨g,rfl⟩:∃g,gk=g+1:=⟨gk-1,by omega⟩;have hkI:(k:Int)<(n:Int):=by omega
       have hw:wrap64 ((k:Int)+1)=((k+1:Nat):Int):=by rw[mZ,aD];omega
       obtain⟨rfl,rfl⟩:=hAB (by omega);obtain⟨x,y,z,c0,c1,c2,c3,c4,c5⟩:=hcell k (by omega);clear hAB;have HA:Hid (k+(g+1)=n/\n<=100000):=⟨hkg,hn⟩;have HE:Hid (SfE p q n _):=hcell;clear hkg hn hg hcell
       go_wp2_with fail
       go_quiet (fail)
       go_wp2_with fail
       go_roundg g
       case measure=>omega
       case rel=>exact⟨k+1,by have:=HA.out.1;omega,by rw[show wrap64 ((k:Int)+1)=((k+1:Nat):Int) by have:=HA.out;rw[mZ,aD];omega],HK.out _ _ hK,HE.out⟩
      ·have hkI:¬(k:Int)<(n:Int):=by omega
       clear hcell hAB hkg hg
       go_wp2_with fail
       go_ret
       exact⟨rfl,hK⟩
