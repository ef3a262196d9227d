/- The reference's fabric: Step of a live pair. -/
import Derived.BigQuiet
import Derived.Test.YtnjccbnlmdajkaaGreatRv
set_option linter.all false
namespace Go.Proofs.YtnjccbnlmdajkaaGreat
open Go.RowKit Go.Shelf Go.Lib Go.Ev
attribute [local go_sem] Oper.semAt_some
def Rf9(f n0:Nat)(LA:Option Addr)(nl lc:Nat)(NA:Option Addr)(nn nc:Nat)(o c x:Int)(w:World):Prop:=
 w.cell? ⟨n0,0,none⟩=some (.int .i64 o)/\w.cell? ⟨n0,1,none⟩=some (.int .i64 c)/\w.cell? ⟨n0,2,none⟩=some (.int .i64 x)/\w.cell? ⟨f,3,none⟩=some (.slice LA nl lc)/\w.cell? ⟨f,1,none⟩=some (.slice NA nn nc)
def TU(f n0 lb nl lc ci pb np pc nd nb nn nc:Nat)(w:World):Prop:=
 w.cell? ⟨f,3,none⟩=some (.slice (some ⟨lb,0,none⟩) nl lc)/\w.cell? ⟨n0,1,none⟩=some (.int .i64 (ci:Int))/\w.cell? ⟨lb,ci,none⟩=some (.slice (some ⟨pb,0,none⟩) np pc)/\w.cell? ⟨n0,2,none⟩=some (.int .i64 (nd:Int))/\w.cell? ⟨f,1,none⟩=some (.slice (some ⟨nb,0,none⟩) nn nc)
def SDn(f n0 n6 cb dz cc ci db dl dc hb hl hc:Nat)(code:Int)(RA:Option Addr)(rl rc:Nat)(w:World):Prop:=
 w.cell? ⟨f,2,none⟩=some (.slice (some ⟨cb,0,none⟩) dz cc)/\w.cell? ⟨n0,1,none⟩=some (.int .i64 (ci:Int))/\w.cell? ⟨cb,ci*7+3,none⟩=some (.slice (some ⟨db,0,none⟩) dl dc)/\w.cell? ⟨cb,ci*7+4,none⟩=some (.slice (some ⟨hb,0,none⟩) hl hc)/\w.cell? ⟨n6,0,none⟩=some (.int .i64 code)/\w.cell? ⟨n6,1,none⟩=some (.slice RA rl rc)
def NV(f n0 n6 dz ci:Nat)(code:Int)(RA:Option Addr)(rl rc:Nat)(slot:Int)(done ok:Bool)(w:World)(K:Bool->World->Prop):Prop:=
 (done=false->K ok w)/\(done=true->∃(cb cc db dl dc hb hl hc sl:Nat) (w1 w2 w3:World),slot=(sl:Int)/\sl<dl/\sl<hl/\SDn f n0 n6 cb dz cc ci db dl dc hb hl hc code RA rl rc w.drew/\St w.drew db (sl*2) (.int .i64 code) w1/\St w1 db (sl*2+1) (.slice RA rl rc) w2/\SDn f n0 n6 cb dz cc ci db dl dc hb hl hc code RA rl rc w2/\
  St w2 hb sl (.bool true) w3/\SDn f n0 n6 cb dz cc ci db dl dc hb hl hc code RA rl rc w3/\K ok w3)
set_option maxHeartbeats 4000000 in
set_option maxRecDepth 1000000 in
theorem TV(f lb nl lc ci pb np pc nd nb nn nc dz:Nat)(W:World)(K:Bool->World->Prop)(iN:ci<nl)(hcc:ci<dz)(hnd:nd<np)(Yt:nd<nn)
  (h1:Rf9 f W.heap.size (some ⟨lb,0,none⟩) nl lc (some ⟨nb,0,none⟩) nn nc (-1) ci nd (W.alloc (gz (-1) ci nd)).drew)
  (h2:∀k,TU f W.heap.size lb nl lc ci pb np pc nd nb nn nc ((W.alloc (gz (-1) ci nd)).drewN k)) (h2':∀k o,TU f W.heap.size lb nl lc ci pb np pc nd nb nn nc (((W.alloc (gz (-1) ci nd)).drewN k).alloc o))
  (wF:∀k,Calls Tryz.prog 80 #[.pointer (some ⟨pb,nd*4,none⟩),.pointer (some ⟨nb,nd*2,none⟩)] ((W.alloc (gz (-1) ci nd)).drewN k) fun e w2=> ∃(code:Int) (RA:Option Addr) (rl rc:Nat) (slot:Int) (done ok:Bool) (w3 w4:World),e=.returned (rsV code RA rl rc slot done ok)/\TU f W.heap.size lb nl lc ci pb np pc nd nb nn nc w2/\
   (∀o,TU f W.heap.size lb nl lc ci pb np pc nd nb nn nc (w2.alloc o))/\St (w2.alloc (.cells #[.int .i64 0,.slice none 0 0] 81)) w2.heap.size 0 (.int .i64 code) w3/\St w3 w2.heap.size 1 (.slice RA rl rc) w4/\TU f W.heap.size lb nl lc ci pb np pc nd nb nn nc w4/\NV f W.heap.size w2.heap.size dz ci code RA rl rc slot done ok w4 K)
  (sY:∀k,Calls Tryz.prog 80 #[.pointer (some ⟨pb,nd*4,none⟩),.pointer (some ⟨nb,nd*2,none⟩)] (((W.alloc (gz (-1) ci nd)).drewN k).alloc (.cells #[.int .i64 0,.slice none 0 0] 81)) fun e w2=> ∃(code:Int) (RA:Option Addr) (rl rc:Nat) (slot:Int) (done ok:Bool) (w3 w4:World),e=.returned (rsV code RA rl rc slot done ok)/\TU f W.heap.size lb nl lc ci pb np pc nd nb nn nc w2/\
   St w2 (W.heap.size+1) 0 (.int .i64 code) w3/\St w3 (W.heap.size+1) 1 (.slice RA rl rc) w4/\TU f W.heap.size lb nl lc ci pb np pc nd nb nn nc w4/\NV f W.heap.size (W.heap.size+1) dz ci code RA rl rc slot done ok w4 K):
  Calls Tryz.prog 28 #[.pointer (some ⟨f,0,none⟩),P7 (-1) ci nd] W fun e w'=> ∃b:Bool,e=.returned (.bool b)/\K b w':=by
 have mixed:Tryz.prog.follows .mixedOrders=true:=by kernel_rfl
 have i0:¬(ci:Int)<0:=by omega
 have i1:¬(nl:Int)<=(ci:Int):=by omega
 have i2:¬(nd:Int)<0:=by omega
 have i3:¬(nn:Int)<=(nd:Int):=by omega
 have i4:(ci:Int)<(nl:Int):=by omega
 have i5:(nd:Int)<(np:Int):=by omega
 have i6:(nd:Int)<(nn:Int):=by omega
 have i7:(ci:Int)<(dz:Int):=by omega
 have j0:decide ((ci:Int)<0)=false:=kq i0;have j1:decide ((nl:Int)<=(ci:Int))=false:=kq i1;have j2:decide ((nd:Int)<0)=false:=kq i2;have j3:decide ((nn:Int)<=(nd:Int))=false:=kq i3;obtain⟨a0,a1,a2,a3,a4⟩:=h1;have a0':(W.alloc (gz (-1) ci nd)).cell? ⟨W.heap.size,0,none⟩=some (.int .i64 (-1)):=a0;have a1':(W.alloc (gz (-1) ci nd)).cell? ⟨W.heap.size,1,none⟩=some (.int .i64 (ci:Int)):=a1;have a2':(W.alloc (gz (-1) ci nd)).cell? ⟨W.heap.size,2,none⟩=some (.int .i64 (nd:Int)):=a2;have Wt:(W.alloc (gz (-1) ci nd)).cell? ⟨f,3,none⟩=some (.slice (some ⟨lb,0,none⟩) nl lc):=a3;have a4':(W.alloc (gz (-1) ci nd)).cell? ⟨f,1,none⟩=some (.slice (some ⟨nb,0,none⟩) nn nc):=a4;have h2d:∀k,TU f W.heap.size lb nl lc ci pb np pc nd nb nn nc ((W.alloc (gz (-1) ci nd)).drewN k).drew:=fun k=>h2 k;have afZ:∀k o,TU f W.heap.size lb nl lc ci pb np pc nd nb nn nc (((W.alloc (gz (-1) ci nd)).alloc o).drewN k):=fun k o=>h2' k o
 go_enter Tryz.func28,Tryz.ntmps28
 go_wp2_with fail
 go_quiet (fail)
 go_wp2
 go_region_held3 (fun w'=>w'.cell? ⟨f,3,none⟩=some (.slice (some ⟨lb,0,none⟩) nl lc)/\w'.cell? ⟨W.heap.size,1,none⟩=some (.int .i64 (ci:Int))/\w'.cell? ⟨lb,ci,none⟩=some (.slice (some ⟨pb,0,none⟩) np pc)/\w'.cell? ⟨W.heap.size,2,none⟩=some (.int .i64 (nd:Int))/\w'.cell? ⟨f,1,none⟩=some (.slice (some ⟨nb,0,none⟩) nn nc))
  (first|exact h2d _|exact h2 _|exact h2' _ _|exact afZ _ _|exact Y6|exact hS4|exact hSo _|fail)
  (first|(go_at_call 80;refine da (wF _) ?_;clear wF sY;rintro e w2 ⟨code,RA,rl,rc,slot,done,ok,w3,w4,rfl,Y6,hSo,⟨f0,⟨y0,g0⟩,q0⟩,⟨f1,⟨y1,g1⟩,q1⟩,hS4,Gf⟩)|(go_at_call 80;refine da (sY _) ?_;clear wF sY;rintro e w2 ⟨code,RA,rl,rc,slot,done,ok,w3,w4,rfl,Y6,⟨f0,⟨y0,g0⟩,q0⟩,⟨f1,⟨y1,g1⟩,q1⟩,hS4,Gf⟩))
 ·cases done with
  |false=>
   have hK:=Gf.1 rfl;clear Gf
   go_wp2
   go_ret
   exact⟨_,rfl,hK⟩
  |true=>
   obtain⟨cb,cc,db,dl,dc,hb,hl,hc,sl,x1,x2,x3,rfl,hsd,hsh,hD0,⟨p0,⟨p1,p2⟩,p3⟩,⟨p4,⟨p5,p6⟩,p7⟩,hD1,⟨p8,⟨p9,p10⟩,p11⟩,hD2,hK⟩:=Gf.2 rfl;have af0:(sl:Int)<(dl:Int):=by omega
   have af1:(sl:Int)<(hl:Int):=by omega
   clear Gf
   go_wp2
   go_region_held3 (fun w'=>w'.cell? ⟨f,2,none⟩=some (.slice (some ⟨cb,0,none⟩) dz cc)/\w'.cell? ⟨W.heap.size,1,none⟩=some (.int .i64 (ci:Int))/\w'.cell? ⟨cb,ci*7+3,none⟩=some (.slice (some ⟨db,0,none⟩) dl dc)/\w'.cell? ⟨cb,ci*7+4,none⟩=some (.slice (some ⟨hb,0,none⟩) hl hc)/\w'.cell? ⟨w2.heap.size,0,none⟩=some (.int .i64 code)/\w'.cell? ⟨w2.heap.size,1,none⟩=some (.slice RA rl rc))
    (first|exact hD0|exact hD1|exact hD2|fail) (first|fail)
   go_wp2
   go_ret
   exact⟨_,rfl,hK⟩
 ·cases done with
  |false=>
   have hK:=Gf.1 rfl;clear Gf
   go_wp2
   go_ret
   exact⟨_,rfl,hK⟩
  |true=>
   obtain⟨cb,cc,db,dl,dc,hb,hl,hc,sl,x1,x2,x3,rfl,hsd,hsh,hD0,⟨p0,⟨p1,p2⟩,p3⟩,⟨p4,⟨p5,p6⟩,p7⟩,hD1,⟨p8,⟨p9,p10⟩,p11⟩,hD2,hK⟩:=Gf.2 rfl;have af0:(sl:Int)<(dl:Int):=by omega
   have af1:(sl:Int)<(hl:Int):=by omega
   clear Gf
   go_wp2
   go_region_held3 (fun w'=>w'.cell? ⟨f,2,none⟩=some (.slice (some ⟨cb,0,none⟩) dz cc)/\w'.cell? ⟨W.heap.size,1,none⟩=some (.int .i64 (ci:Int))/\w'.cell? ⟨cb,ci*7+3,none⟩=some (.slice (some ⟨db,0,none⟩) dl dc)/\w'.cell? ⟨cb,ci*7+4,none⟩=some (.slice (some ⟨hb,0,none⟩) hl hc)/\w'.cell? ⟨W.heap.size+1,0,none⟩=some (.int .i64 code)/\w'.cell? ⟨W.heap.size+1,1,none⟩=some (.slice RA rl rc))
    (first|exact hD0|exact hD1|exact hD2|fail) (first|fail)
   go_wp2
   go_ret
   exact⟨_,rfl,hK⟩
