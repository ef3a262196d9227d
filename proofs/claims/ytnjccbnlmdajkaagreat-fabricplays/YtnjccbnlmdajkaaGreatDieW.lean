/- Die: the walk. -/
import Derived.Test.YtnjccbnlmdajkaaGreatSmlW
import Derived.Deep.RegionLaw
import Derived.Shelf.RegionOpenPlain
set_option linter.all false
namespace Go.Proofs.YtnjccbnlmdajkaaGreat
open Go.RowKit Go.Shelf Go.Lib Go.Ev
attribute [local go_sem] Oper.semAt_some
attribute [local go_sem] eU dm dq eV
theorem aH{P:Program}{ops:Array Oper}{o:Oper}{a:Act}{w:World}{K:Act->World->Prop}{Q:Exit->Act->World->Prop}{E:Prop}
  (hg:o.guard=none) (d x:Operand) (dT sT:TypeId) (hop:o.op=Op.call {callee:=Callee.builtin Builtin.append,args:= #[d,x],argTypes:= #[dT,sT]})
  (v u:Value) (hd:a.eval d=v) (hx:a.eval x=u) {v':Value} {w':World} (hr:(Builtin.append_ #[dT,sT] o.type #[v,u]).run P w=.ok v' w') (hK:K (a.put o.dst v') w'):
  if Region.wanted o (yielded ops a.tmps)=true then Oper.wp P o a w K Q else E:=by
 have hw:Region.wanted o (yielded ops a.tmps)=true:=by simp[Region.wanted,hg]
 rw[ee hw];unfold Oper.wp;simp[execOp,hop,resolve,invoke,builtin,hd,hx,hr,Result.andThen];exact hK
def Tf(bf:Nat)(LA:Option Addr)(i:Nat)(W:World)(J:Nat->World->Prop):Prop:=
 ∃(bl pb:Nat) (PA VA:Option Addr) (pl pc vl vc:Nat),LA=some ⟨bl,0,none⟩/\W.cell? ⟨bl,i*2,none⟩=some (.pointer (some ⟨pb,0,none⟩))/\W.cell? ⟨bl,i*2+1,none⟩=some (.slice PA pl pc)/\∃wb,W.alloc (.cells #[.pointer (some ⟨pb,0,none⟩),.slice PA pl pc] 118)=wb/\
  wb.cell? ⟨W.heap.size,0,none⟩=some (.pointer (some ⟨pb,0,none⟩))/\wb.cell? ⟨pb,3,none⟩=some (.slice VA vl vc)/\(vl=0->J (i+1) wb)/\(0<vl->∃(OA:Option Addr) (on oc B c':Nat) (W4:World),wb.drew.cell? ⟨bf,3,none⟩=some (.slice OA on oc)/\(∀o,(wb.drew.alloc o).cell? ⟨bf,3,none⟩=some (.slice OA on oc))/\
   Hid (∀ty,(Builtin.append_ #[46,46] ty #[.slice OA on oc,.slice (some ⟨wb.drew.heap.size,0,none⟩) 1 1]).run Tryz.prog (wb.drew.alloc (.cells #[.pointer (some ⟨pb,0,none⟩)] 101))=.ok (.slice (some ⟨B,0,none⟩) (on+1) c') W4)/\W4.frozen? ⟨bf,3,none⟩=false/\(∃y,W4.cell? ⟨bf,3,none⟩=some y)/\J (i+1) (W4.setCell ⟨bf,3,none⟩ (.slice (some ⟨B,0,none⟩) (on+1) c')))
def Tg(bc ci:Nat)(W:World)(K:World->Prop):Prop:=
 ∃w1 w2 w3,W.frozen? ⟨bc,ci*7,none⟩=false/\(∃y,W.cell? ⟨bc,ci*7,none⟩=some y)/\W.setCell ⟨bc,ci*7,none⟩ (.bool false)=w1/\w1.frozen? ⟨bc,ci*7+2,none⟩=false/\(∃y,w1.cell? ⟨bc,ci*7+2,none⟩=some y)/\w1.setCell ⟨bc,ci*7+2,none⟩ (.slice none 0 0)=w2/\
  w2.frozen? ⟨bc,ci*7+3,none⟩=false/\(∃y,w2.cell? ⟨bc,ci*7+3,none⟩=some y)/\w2.setCell ⟨bc,ci*7+3,none⟩ (.slice none 0 0)=w3/\w3.frozen? ⟨bc,ci*7+4,none⟩=false/\(∃y,w3.cell? ⟨bc,ci*7+4,none⟩=some y)/\K (w3.setCell ⟨bc,ci*7+4,none⟩ (.int .i64 0))
set_option maxHeartbeats 8000000 in
set_option maxRecDepth 1000000 in
theorem Th{cc:Nat}(bf bc ci nc ll lc:Nat)(LA:Option Addr)(w:World)(J:Nat->World->Prop)(K:World->Prop)(iN:ci<nc)(QX:ll<=100000)(h2:w.cell? ⟨bf,2,none⟩=some (.slice (some ⟨bc,0,none⟩) nc cc))(hal:w.cell? ⟨bc,ci*7,none⟩=some (.bool true))
  (hlv:w.cell? ⟨bc,ci*7+2,none⟩=some (.slice LA ll lc)) (hJ:J 0 w) (H:(∀i W,i<ll->J i W->Tf bf LA i W J)/\∀W,J ll W->Tg bc ci W K):
  Calls Tryz.prog 31 #[.pointer (some ⟨bf,0,none⟩),.int .i64 ci] w fun e w'=>e=.returned (.bool true)/\K w':=by
 have mixed:Tryz.prog.follows .mixedOrders=true:=by kernel_rfl
 have HH:Hid _:=H;clear H;have haw:=B6 bf bc ci nc true w iN h2 hal;have hcw:=aW bf bc ci nc w iN h2
 go_enter Tryz.func31,Tryz.ntmps31
 go_wp2_with (first|(go_at_call 47;refine da haw ?_;clear haw;rintro e w' ⟨rfl,hw⟩;rw[hw];clear hw)|(go_at_call 67;refine da hcw ?_;clear hcw;rintro e w' ⟨rfl,hw⟩;rw[hw];clear hw))
 go_loopg [20] ll (fun g s W=> ∃i:Nat,i+g=ll/\s=.int .i64 i/\J i W)
 case atStart=>exact⟨0,by omega,rfl,hJ⟩
 case round=>
  obtain⟨i,hig,rfl,hI⟩:=hrel;cases gk with
  |succ g=>
   have hi:i<ll:=by omega
   have zP:(i:Int)<(ll:Int):=by omega
   obtain⟨bl,pb,PA,VA,pl,pc,vl,vc,rfl,d0,d1,wb,eb,gb,hv,hz,hp⟩:=HH.out.1 i _ hi hI;have hw:wrap64 ((i:Int)+1)=((i+1:Nat):Int):=by rw[mZ,aD];omega
   have PV:=jk pb vl vc VA wb hv;clear hJ hI h2 hal hlv;by_cases h0:vl=0
   ·have zR:=hz h0;have hvI:¬(0:Int)<(vl:Int):=by omega
    clear hz hp
    go_wp2_with (go_at_call 70;refine da PV ?_;rintro e w' ⟨rfl,hw⟩;rw[hw];clear hw)
    go_roundg g
    case measure=>omega
    case rel=>exact⟨i+1,by omega,rfl,zR⟩
   ·have hvI:(0:Int)<(vl:Int):=by omega
    obtain⟨OA,on,oc,B,c',W4,k1,k2,hap,k3,⟨y,k4⟩,zR⟩:=hp (by omega);clear hz hp;have gbd:wb.drew.cell? ⟨wr.heap.size,0,none⟩=some (.pointer (some ⟨pb,0,none⟩)):=gb;have gba:∀o,(wb.alloc o).cell? ⟨wr.heap.size,0,none⟩=some (.pointer (some ⟨pb,0,none⟩)):=fun o=>kZ gb;have k2':∀o,(wb.alloc o).cell? ⟨bf,3,none⟩=some (.slice OA on oc):=fun o=>k2 o
    go_wp2_with (go_at_call 70;refine da PV ?_;rintro e w' ⟨rfl,hw⟩;rw[hw];clear hw)
    go_region_law_o (first|(refine aH rfl (.tmp 32) (.tmp 35) 46 46 rfl _ _ (by simp[Act.eval,Act.put]) (by simp[Act.eval,Act.put]) (hap.out _) ?_))
    all_goals
     go_wp2
     go_roundg g
     case measure=>omega
     case rel=>exact⟨i+1,by omega,rfl,zR⟩
  |zero=>
   obtain rfl:i=ll:=by omega
   obtain⟨w1,w2,w3,a1,⟨y1,a2⟩,a3,a4,⟨y2,a5⟩,a6,a7,⟨y3,a8⟩,a9,Y3,⟨y4,Y4⟩,hK⟩:=HH.out.2 _ hI;clear hJ hI h2 hal hlv hig HH
   go_wp2
   go_ret
   exact⟨rfl,hK⟩
theorem NM(bf:Nat)(c:Int)(w:World)(h:Calls Tryz.prog 47 #[.pointer (some ⟨bf,0,none⟩),.int .i64 c] w fun e w'=>e=.returned (.bool false)/\w'=w):Calls Tryz.prog 31 #[.pointer (some ⟨bf,0,none⟩),.int .i64 c] w fun e w'=>e=.returned (.bool false)/\w'=w:=by
 go_enter Tryz.func31,Tryz.ntmps31
 go_wp2_with (go_at_call 47;refine da h ?_;clear h;rintro e w' ⟨rfl,hw⟩;rw[hw];clear hw)
 go_ret
 exact⟨rfl,rfl⟩
