/- Step,whatever the pair answers: the walk. -/
import Derived.Test.YtnjccbnlmdajkaaGreatStpW
set_option linter.all false
namespace Go.Proofs.YtnjccbnlmdajkaaGreat
open Go.RowKit Go.Shelf Go.Lib Go.Ev
attribute [local go_sem] Oper.semAt_some
attribute [local go_sem] eU dm dq eV
set_option maxHeartbeats 8000000 in
set_option maxRecDepth 1000000 in
theorem Mm{cc:Nat}(bf bc ci nc bn nn wu nd bl ll lc pb nb vl vc:Nat)(VA:Option Addr)(w w1:World)(K:World->Prop)(iN:ci<nc)(wH:nd<ll)(Yt:nd<nn)(hvl:0<vl)
  (e1:w.alloc (.cells #[.int .i64 (-1),.int .i64 ci,.int .i64 nd] 77)=w1) (b3:Nat) (hb3:w.heap.size=b3)
  (k0:w1.cell? ⟨b3,0,none⟩=some (.int .i64 (-1))) (k1:w1.cell? ⟨b3,1,none⟩=some (.int .i64 ci)) (k2:w1.cell? ⟨b3,2,none⟩=some (.int .i64 nd))
  (h1:w1.cell? ⟨bf,1,none⟩=some (.slice (some ⟨bn,0,none⟩) nn wu)) (h2:w1.cell? ⟨bf,2,none⟩=some (.slice (some ⟨bc,0,none⟩) nc cc)) (hla:w1.cell? ⟨bc,ci*7+2,none⟩=some (.slice (some ⟨bl,0,none⟩) ll lc))
  (hp:w1.cell? ⟨bl,nd*2,none⟩=some (.pointer (some ⟨pb,0,none⟩))) (Q5:w1.cell? ⟨bn,nd,none⟩=some (.pointer (some ⟨nb,0,none⟩))) (hv:w1.cell? ⟨pb,3,none⟩=some (.slice VA vl vc))
  (b7:Nat) (hb7:w1.heap.size=b7)
  (T5:Calls Tryz.prog 74 #[.pointer (some ⟨pb,0,none⟩),.pointer (some ⟨nb,0,none⟩)] w1.drew.drew.drew fun e w'=> ∃(code:Int) (A:Option Addr) (l c:Nat) (cm:Bool),e=.returned (.tuple #[.agg #[.int .i64 code,.slice A l c],.bool cm])/\S9 bl nd pb bf bn nn wu b3 nb w'/\(cm=true->FT bc ci bl nd w'.heap.size code A l c (w'.alloc (.cells #[.int .i64 code,.slice A l c] 81)) K)/\(cm=false->K (w'.alloc (.cells #[.int .i64 code,.slice A l c] 81))))
  (zq:Calls Tryz.prog 74 #[.pointer (some ⟨pb,0,none⟩),.pointer (some ⟨nb,0,none⟩)] (w1.drew.drew.drew.alloc (.cells #[.int .i64 0,.slice none 0 0] 81)) fun e w'=> ∃(code:Int) (A:Option Addr) (l c:Nat) (cm:Bool),e=.returned (.tuple #[.agg #[.int .i64 code,.slice A l c],.bool cm])/\S9 bl nd pb bf bn nn wu b3 nb w'/\
   w'.frozen? ⟨b7,0,none⟩=false/\(w'.setCell ⟨b7,0,none⟩ (.int .i64 code)).frozen? ⟨b7,1,none⟩=false/\(∃y,w'.cell? ⟨b7,0,none⟩=some y)/\(∃y,(w'.setCell ⟨b7,0,none⟩ (.int .i64 code)).cell? ⟨b7,1,none⟩=some y)/\S9 bl nd pb bf bn nn wu b3 nb ((w'.setCell ⟨b7,0,none⟩ (.int .i64 code)).setCell ⟨b7,1,none⟩ (.slice A l c))/\(cm=true->FT bc ci bl nd b7 code A l c ((w'.setCell ⟨b7,0,none⟩ (.int .i64 code)).setCell ⟨b7,1,none⟩ (.slice A l c)) K)/\(cm=false->K ((w'.setCell ⟨b7,0,none⟩ (.int .i64 code)).setCell ⟨b7,1,none⟩ (.slice A l c))))
  :
  Calls Tryz.prog 22 #[.pointer (some ⟨bf,0,none⟩),.agg #[.int .i64 (-1),.int .i64 ci,.int .i64 nd]] w fun e w'=>e=.returned (.bool true)/\K w':=by
 have mixed:Tryz.prog.follows .mixedOrders=true:=by kernel_rfl
 have uu:(ci:Int)<(nc:Int):=by omega
 have ahb:(nd:Int)<(ll:Int):=by omega
 have ahc:(nd:Int)<(nn:Int):=by omega
 have hd1:¬(ll<=nd):=by omega
 have qw:¬((ll:Int)<=(nd:Int)):=by omega
 have hd3:¬((nd:Int)<0):=by omega
 have hvb:((vl:Int)==0)=false:=oE.2 (by omega);have hcw:=aW bf bc ci nc w1 iN h2;have PV:=jk pb vl vc VA w1.drew hv
 go_enter Tryz.func22,Tryz.ntmps22
 go_wp2_with (go_at_call 67;refine da hcw ?_;clear hcw;rintro e w' ⟨rfl,hw⟩;rw[hw];clear hw)
 have hS6:w1.drew.cell? ⟨b3,2,none⟩=some (.int .i64 nd)/\w1.drew.cell? ⟨bc,ci*7+2,none⟩=some (.slice (some ⟨bl,0,none⟩) ll lc)/\w1.drew.cell? ⟨bl,nd*2,none⟩=some (.pointer (some ⟨pb,0,none⟩)):=⟨k2,hla,hp⟩
 go_region_held3 (fun w'=>w'.cell? ⟨b3,2,none⟩=some (.int .i64 nd)/\w'.cell? ⟨bc,ci*7+2,none⟩=some (.slice (some ⟨bl,0,none⟩) ll lc)/\w'.cell? ⟨bl,nd*2,none⟩=some (.pointer (some ⟨pb,0,none⟩)))
  (first|exact hS6)
  (first|(go_at_call 70;refine da PV ?_;rintro e w' ⟨rfl,hw⟩;rw[hw];clear hw))
 clear hS6 PV
 go_wp2
 go_region_o
 go_wp2
 have hS9:S9 bl nd pb bf bn nn wu b3 nb w1.drew.drew.drew:=⟨hp,h1,k2,Q5⟩;have af6:S9 bl nd pb bf bn nn wu b3 nb (w1.drew.drew.drew.alloc (.cells #[.int .i64 0,.slice none 0 0] 81)):=Jv hS9
 go_region_held3 (fun w'=>w'.cell? ⟨bl,nd*2,none⟩=some (.pointer (some ⟨pb,0,none⟩))/\w'.cell? ⟨bf,1,none⟩=some (.slice (some ⟨bn,0,none⟩) nn wu)/\w'.cell? ⟨b3,2,none⟩=some (.int .i64 nd)/\w'.cell? ⟨bn,nd,none⟩=some (.pointer (some ⟨nb,0,none⟩)))
  (first|exact hS9|exact af6|exact aa2|exact Jv aa2|exact af7)
  (first|(go_at_call 74;refine da T5 ?_;rintro e w' ⟨code,A,l,c,cm,rfl,aa2,hF,hG⟩)|(go_at_call 74;refine da zq ?_;rintro e w' ⟨code,A,l,c,cm,rfl,aa2,z1,z2,⟨y1,z3⟩,⟨y2,z4⟩,af7,hF,hG⟩))
 ·cases cm with
  |false=>
   have hGG:=hG rfl;clear T5 zq hF hG
   go_wp2
   go_ret
   exact⟨rfl,hGG⟩
  |true=>
  obtain⟨bb,bm,pU,pp,po,pl,pc,ix,wv,Y8,hpl,hS,f0,⟨y5,x0⟩,f1,⟨y6,x1⟩,hS',hcl⟩:=hF rfl;clear hF hG;have af8:(ix:Int)<(bm:Int):=by omega
  have adj:(0:Int)<(pl:Int):=by omega
  clear T5 zq
  go_wp2
  go_region_held3 (fun v'=>v'.cell? ⟨bc,ci*7+3,none⟩=some (.slice (some ⟨bb,0,none⟩) bm pU)/\v'.cell? ⟨bl,nd*2+1,none⟩=some (.slice (some ⟨pp,po,none⟩) pl pc)/\v'.cell? ⟨pp,po,none⟩=some (.int .i64 ix)/\v'.cell? ⟨w'.heap.size,0,none⟩=some (.int .i64 code)/\v'.cell? ⟨w'.heap.size,1,none⟩=some (.slice A l c))
   (first|exact hS|exact hS')
   (fail)
  have hq1:=hS'.2.1;by_cases xW:pc=1
  ·have hcl:=hcl _ (.inr ⟨rfl,xW⟩)
   go_wp2_with (go_at_call 75;refine da hcl ?_;clear hcl;rintro e w'' ⟨PA,l',c',w2,rfl,r0,⟨y7,r1⟩,r2,r3,r4,hK⟩)
   go_ret
   exact⟨rfl,hK⟩
  ·have hcl:=hcl _ (.inl ⟨rfl,xW⟩)
   go_wp2_with (go_at_call 75;refine da hcl ?_;clear hcl;rintro e w'' ⟨PA,l',c',w2,rfl,r0,⟨y7,r1⟩,r2,r3,r4,hK⟩)
   go_ret
   exact⟨rfl,hK⟩
 ·cases cm with
  |false=>
   have hGG:=hG rfl;clear T5 zq hF hG
   go_wp2
   go_ret
   exact⟨rfl,hGG⟩
  |true=>
  obtain⟨bb,bm,pU,pp,po,pl,pc,ix,wv,Y8,hpl,hS,f0,⟨y5,x0⟩,f1,⟨y6,x1⟩,hS',hcl⟩:=hF rfl;clear hF hG;have af8:(ix:Int)<(bm:Int):=by omega
  have adj:(0:Int)<(pl:Int):=by omega
  clear T5 zq
  go_wp2
  go_region_held3 (fun v'=>v'.cell? ⟨bc,ci*7+3,none⟩=some (.slice (some ⟨bb,0,none⟩) bm pU)/\v'.cell? ⟨bl,nd*2+1,none⟩=some (.slice (some ⟨pp,po,none⟩) pl pc)/\v'.cell? ⟨pp,po,none⟩=some (.int .i64 ix)/\v'.cell? ⟨b7,0,none⟩=some (.int .i64 code)/\v'.cell? ⟨b7,1,none⟩=some (.slice A l c))
   (first|exact hS|exact hS')
   (fail)
  have hq1:=hS'.2.1;by_cases xW:pc=1
  ·have hcl:=hcl _ (.inr ⟨rfl,xW⟩)
   go_wp2_with (go_at_call 75;refine da hcl ?_;clear hcl;rintro e w'' ⟨PA,l',c',w2,rfl,r0,⟨y7,r1⟩,r2,r3,r4,hK⟩)
   go_ret
   exact⟨rfl,hK⟩
  ·have hcl:=hcl _ (.inl ⟨rfl,xW⟩)
   go_wp2_with (go_at_call 75;refine da hcl ?_;clear hcl;rintro e w'' ⟨PA,l',c',w2,rfl,r0,⟨y7,r1⟩,r2,r3,r4,hK⟩)
   go_ret
   exact⟨rfl,hK⟩
