/- bodegahand.Verb: the walk (its end is not done). -/
import Derived.Test.YtnjccbnlmdajkaaGreatSmlW
set_option linter.all false
namespace Go.Proofs.YtnjccbnlmdajkaaGreat
open Go.RowKit Go.Shelf Go.Lib Go.Ev
attribute [local go_sem] Oper.semAt_some
set_option maxHeartbeats 4000000 in
set_option maxRecDepth 1000000 in
theorem aX(n m:Int)(w:World)(hm:0<m)(hm2:m<=100000):
  Calls Tryz.prog 24 #[.int .i64 n,.int .i64 m] w fun e w'=>e=.returned (.int .i64 (pick n m))/\w'=w:=by
 have h1:¬(m<1):=by omega
 have h2:¬(m=0):=by omega
 have h3:(wrap64 (n.tmod m+m)).tmod m=pick n m:=by rw[mZ];exact Wd hm (by omega)
 go_enter Tryz.func24,Tryz.ntmps24
 go_wp2
 all_goals (go_ret;refine⟨?_,rfl⟩;show Ending.returned (Value.int .i64 _)=_;rfl)
def Y0(b i:Nat)(W:World)(J:Nat->World->Prop):Prop:=
 ∃(A:Option Addr) (l c:Nat) (B c':Int->Nat) (W4:Int->World),W.cell? ⟨b,6,none⟩=some (.slice A l c)/\Hid (∀x ty,(Builtin.append_ #[59,59] ty #[.slice A l c,.slice (some ⟨W.heap.size,0,none⟩) 1 1]).run Tryz.prog (W.alloc (.cells #[.int .u64 x] 69))=.ok (.slice (some ⟨B x,0,none⟩) (l+1) (c' x)) (W4 x))/\
  (∀x,(W4 x).frozen? ⟨b,6,none⟩=false)/\(∀x,(W4 x).cell? ⟨b,6,none⟩=some (.slice A l c))/\∀x,J (i+1) ((W4 x).setCell ⟨b,6,none⟩ (.slice (some ⟨B x,0,none⟩) (l+1) (c' x)))
def Y1(b b2:Nat)(W:World)(K:Value->World->Prop):Prop:=
 ∃(a0 a1 a2 a3 a4 a5 a7 a8:Int) (A:Option Addr) (l c:Nat) (w1 w2 w3 w4 w5 w6 w7 w8 w9:World),W.cell? ⟨b,0,none⟩=some (.int .i64 a0)/\W.cell? ⟨b,1,none⟩=some (.int .i64 a1)/\W.cell? ⟨b,2,none⟩=some (.int .i64 a2)/\W.cell? ⟨b,3,none⟩=some (.int .i64 a3)/\W.cell? ⟨b,4,none⟩=some (.int .u64 a4)/\W.cell? ⟨b,5,none⟩=some (.int .u64 a5)/\W.cell? ⟨b,6,none⟩=some (.slice A l c)/\W.cell? ⟨b,7,none⟩=some (.int .u64 a7)/\W.cell? ⟨b,8,none⟩=some (.int .i64 a8)/\W.frozen? ⟨b2,0,none⟩=false/\(∃y,W.cell? ⟨b2,0,none⟩=some y)/\W.setCell ⟨b2,0,none⟩ (.int .i64 a0)=w1/\w1.frozen? ⟨b2,1,none⟩=false/\(∃y,w1.cell? ⟨b2,1,none⟩=some y)/\w1.setCell ⟨b2,1,none⟩ (.int .i64 a1)=w2/\w2.frozen? ⟨b2,2,none⟩=false/\(∃y,w2.cell? ⟨b2,2,none⟩=some y)/\w2.setCell ⟨b2,2,none⟩ (.int .i64 a2)=w3/\w3.frozen? ⟨b2,3,none⟩=false/\(∃y,w3.cell? ⟨b2,3,none⟩=some y)/\w3.setCell ⟨b2,3,none⟩ (.int .i64 a3)=w4/\w4.frozen? ⟨b2,4,none⟩=false/\(∃y,w4.cell? ⟨b2,4,none⟩=some y)/\w4.setCell ⟨b2,4,none⟩ (.int .u64 a4)=w5/\w5.frozen? ⟨b2,5,none⟩=false/\(∃y,w5.cell? ⟨b2,5,none⟩=some y)/\w5.setCell ⟨b2,5,none⟩ (.int .u64 a5)=w6/\w6.frozen? ⟨b2,6,none⟩=false/\(∃y,w6.cell? ⟨b2,6,none⟩=some y)/\w6.setCell ⟨b2,6,none⟩ (.slice A l c)=w7/\w7.frozen? ⟨b2,7,none⟩=false/\(∃y,w7.cell? ⟨b2,7,none⟩=some y)/\w7.setCell ⟨b2,7,none⟩ (.int .u64 a7)=w8/\w8.frozen? ⟨b2,8,none⟩=false/\(∃y,w8.cell? ⟨b2,8,none⟩=some y)/\w8.setCell ⟨b2,8,none⟩ (.int .i64 a8)=w9/\w9.heap[b2]?=some (.cells #[.int .i64 a0,.int .i64 a1,.int .i64 a2,.int .i64 a3,.int .u64 a4,.int .u64 a5,.slice A l c,.int .u64 a7,.int .i64 a8] 71 (0,0))/\K (.agg #[.int .i64 a0,.int .i64 a1,.int .i64 a2,.int .i64 a3,.int .u64 a4,.int .u64 a5,.slice A l c,.int .u64 a7,.int .i64 a8]) w9
abbrev vbZ:Obj:=.cells #[.int .i64 0,.int .i64 0,.int .i64 0,.int .i64 0,.int .u64 0,.int .u64 0,.slice none 0 0,.int .u64 0,.int .i64 0] 71
abbrev vbI(a0 a1 a2 a3 old Cc a7 a8:Int):Obj:=.cells #[.int .i64 a0,.int .i64 a1,.int .i64 a2,.int .i64 a3,.int .u64 old,.int .u64 Cc,.slice none 0 0,.int .u64 a7,.int .i64 a8] 71
theorem ac2:∃fs,Tryz.prog.underlying 71=some (.struct fs):=by
 have h:(match Tryz.prog.underlying 71 with|some (.struct _)=>true|_=>false)=true:=by kernel_rfl
 revert h;generalize Tryz.prog.underlying 71=x;intro h
 match x,h with
 |some (.struct fs),_=>exact⟨fs,rfl⟩
set_option maxHeartbeats 4000000 in
set_option maxRecDepth 1000000 in
theorem PT(kind node at_ n key aS old Cc:Int)(W:World)(J:Nat->World->Prop)(K:Value->World->Prop)
  (hJ:∀a0 a1 a2 a3 a7 a8:Int,J 0 ((W.alloc vbZ).alloc (vbI a0 a1 a2 a3 old Cc a7 a8))) (hR:(∀i W',i<23->J i W'->Y0 (W.heap.size+1) i W' J)/\∀i W',J i W'->Y1 (W.heap.size+1) W.heap.size W' K):
  Calls Tryz.prog 76 #[.int .i64 kind,.int .i64 node,.int .i64 at_,.int .i64 n,.int .i64 key,.int .i64 aS,.int .u64 old,.int .u64 Cc] W fun e w'=> ∃v,e=.returned v/\K v w':=by
 have VL:0<=pick n 23/\pick n 23<23:=dC (by omega);obtain⟨m,hm⟩:∃m:Nat,pick n 23=(m:Int):=⟨(pick n 23).toNat,by omega⟩;have Ie:=fun w=>aX n 23 w (by omega) (by omega);obtain⟨fs,afq⟩:=ac2;cases hb:(pick n 7==6)
 all_goals
  go_enter Tryz.func76,Tryz.ntmps76
  go_wp2_with (go_at_call 24;refine da (aX _ _ _ (by decide) (by decide)) ?_;rintro e w' ⟨rfl,hw⟩;rw[hw];clear hw)
  all_goals
   go_loopg [18] m (fun g s Wr=> ∃i:Nat,i+g=m/\s=.int .i64 i/\J i Wr)
   case atStart=>exact⟨0,by omega,rfl,hJ _ _ _ _ _ _⟩
   case round=>
    obtain⟨i,hig,rfl,hI⟩:=hrel;cases gk with
    |succ g=>
     have hi:i<m:=by omega
     have zP:(i:Int)<(m:Int):=by omega
     have hw:wrap64 ((i:Int)+1)=((i+1:Nat):Int):=by rw[mZ,aD];omega
     obtain⟨A,l,c,B,c',W4,hc,hap,hf,hc4,zR⟩:=hR.1 i _ (by omega) hI
     go_wp2_with (first|(go_at_call 24;refine da (Ie _) ?_;rintro e w' ⟨rfl,hw⟩;rw[hw,hm];clear hw)|(at_builtin;refine Lib.wpList_append_run _ rfl _ _ _ _ rfl _ _ rfl rfl _ _ (hap.out _ _) ?_))
     go_roundg g
     case measure=>omega
     case rel=>exact⟨i+1,by omega,rj (Value.int .i64) (by omega),zR _⟩
    |zero=>
     obtain rfl:i=m:=by omega
     obtain⟨a0,a1,a2,a3,a4,a5,a7,a8,A,l,c,w1,w2,w3,w4,w5,w6,w7,w8,w9,k0,k1,k2,k3,k4,k5,k6,k7,k8,f0,⟨y0,z0⟩,e0,f1,⟨y1,z1⟩,e1,f2,⟨y2,z2⟩,e2,f3,⟨y3,z3⟩,e3,f4,⟨y4,z4⟩,e4,f5,⟨y5,z5⟩,e5,f6,⟨y6,z6⟩,e6,f7,⟨y7,z7⟩,e7,f8,⟨y8,z8⟩,e8,hH,hK⟩:=hR.2 i _ hI;clear hR hJ hI
     go_wp2_with (first|(go_at_call 24;refine da (Ie _) ?_;rintro e w' ⟨rfl,hw⟩;rw[hw,hm];clear hw))
     exact pB (results_cell_row rfl _ _ W.heap.size 71 _ (0,0) _ rfl hH afq rfl (by kernel_rfl)) rfl ⟨_,rfl,hK⟩
