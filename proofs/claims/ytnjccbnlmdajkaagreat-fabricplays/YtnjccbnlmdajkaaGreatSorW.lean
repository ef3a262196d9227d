/- Step of an orphan: the walk. -/
import Derived.Test.YtnjccbnlmdajkaaGreatChsX
set_option linter.all false
namespace Go.Proofs.YtnjccbnlmdajkaaGreat
open Go.RowKit Go.Shelf Go.Lib Go.Ev
attribute [local go_sem] Oper.semAt_some
set_option maxHeartbeats 1600000 in
set_option maxRecDepth 1000000 in
theorem T8(bf i on oc bo bn nn wu pb nd nb:Nat)(W:World)(K:World->Prop)(hi:i<on)(hnd:nd<nn)(h3:W.cell? ⟨bf,3,none⟩=some (.slice (some ⟨bo,0,none⟩) on oc))(hp:W.cell? ⟨bo,i,none⟩=some (.pointer (some ⟨pb,0,none⟩)))
  (h1:W.drew.cell? ⟨bf,1,none⟩=some (.slice (some ⟨bn,0,none⟩) nn wu)) (hn:W.drew.cell? ⟨pb,2,none⟩=some (.int .i64 nd)) (hb:W.drew.cell? ⟨bn,nd,none⟩=some (.pointer (some ⟨nb,0,none⟩)))
  (hst:Calls Tryz.prog 74 #[.pointer (some ⟨pb,0,none⟩),.pointer (some ⟨nb,0,none⟩)] W.drew fun e w'=> ∃(code:Int) (A:Option Addr) (l c:Nat) (cm:Bool) (VA:Option Addr) (vl vc:Nat),e=.returned (.tuple #[.agg #[.int .i64 code,.slice A l c],.bool cm])/\w'.cell? ⟨pb,3,none⟩=some (.slice VA vl vc)/\
   (vl=0->Calls Tryz.prog 37 #[.pointer (some ⟨bf,0,none⟩),.int .i64 i] w' fun e w''=>e=.returned (.bool true)/\K w'')/\(0<vl->K w')):
  Calls Tryz.prog 73 #[.pointer (some ⟨bf,0,none⟩),.int .i64 i] W fun e w'=>e=.returned (.bool true)/\K w':=by
 have mixed:Tryz.prog.follows .mixedOrders=true:=by kernel_rfl
 have zP:(i:Int)<(on:Int):=by omega
 have hd1:¬(on<=i):=by omega
 have qw:¬((on:Int)<=(i:Int)):=by omega
 have aaG:(nd:Int)<(nn:Int):=by omega
 have Ie:=Cs pb nd W.drew hn
 go_enter Tryz.func73,Tryz.ntmps73
 go_wp2
 go_region_with_o (first|(go_at_call 72;refine da Ie ?_;rintro e w' ⟨rfl,hw⟩;rw[hw];clear hw)|(go_at_call 74;refine da hst ?_;clear hst;rintro e w' ⟨code,A,l,c,cm,VA,vl,vc,rfl,hv,hz,hK⟩))
 all_goals
  have PV:=jk pb vl vc VA w' hv;by_cases h0:vl=0
  ·have hz:=hz h0;have hvb:((vl:Int)==0)=true:=by simp[h0]
   clear hK
   go_wp2_with (first|(go_at_call 70;refine da PV ?_;clear PV;rintro e w'' ⟨rfl,hw⟩;rw[hw];clear hw)|(go_at_call 37;refine da hz ?_;clear hz;rintro e w'' ⟨rfl,hK⟩))
   go_ret
   exact⟨rfl,hK⟩
  ·have hK:=hK (by omega);have hvb:((vl:Int)==0)=false:=oE.2 (by omega);clear hz
   go_wp2_with (go_at_call 70;refine da PV ?_;clear PV;rintro e w'' ⟨rfl,hw⟩;rw[hw];clear hw)
   go_ret
   exact⟨rfl,hK⟩
set_option maxRecDepth 1000000 in
theorem Xo(bf i on oc:Nat)(OA:Option Addr)(W:World)(hi:on<=i)(h3:W.cell? ⟨bf,3,none⟩=some (.slice OA on oc)):Calls Tryz.prog 73 #[.pointer (some ⟨bf,0,none⟩),.int .i64 i] W fun e w'=>e=.returned (.bool false)/\w'=W:=by
 have hi2:(on:Int)<=(i:Int):=by omega
 go_enter Tryz.func73,Tryz.ntmps73
 go_wp2
 go_ret
 exact⟨rfl,rfl⟩
set_option maxHeartbeats 1600000 in
set_option maxRecDepth 1000000 in
theorem JV(bf i:Nat)(c n:Int)(W w1:World)(K:World->Prop)(b:Bool)(e1:W.alloc (.cells #[.int .i64 i,.int .i64 c,.int .i64 n] 77)=w1)(k0:w1.cell? ⟨W.heap.size,0,none⟩=some (.int .i64 i))
  (h:Calls Tryz.prog 73 #[.pointer (some ⟨bf,0,none⟩),.int .i64 i] w1 fun e w'=>e=.returned (.bool b)/\K w'):
  Calls Tryz.prog 22 #[.pointer (some ⟨bf,0,none⟩),.agg #[.int .i64 i,.int .i64 c,.int .i64 n]] W fun e w'=>e=.returned (.bool b)/\K w':=by
 go_enter Tryz.func22,Tryz.ntmps22
 go_wp2_with (go_at_call 73;refine da h ?_;clear h;rintro e w' ⟨rfl,hK⟩)
 go_ret
 exact⟨rfl,hK⟩
