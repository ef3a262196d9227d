/- One event on both fabrics: the walk,a named step. -/
import Derived.Test.YtnjccbnlmdajkaaGreatSfS
set_option linter.all false
namespace Go.Proofs.YtnjccbnlmdajkaaGreat
open Go.RowKit Go.Shelf Go.Lib Go.Ev
attribute [local go_sem] Oper.semAt_some
attribute [local go_sem] eU dm dq eV
theorem wp2(A:Int):wrap64 (pick A 5-2)=pick A 5-2:=by
 have:=dC (n:=A) (m:=5) (by omega);rw[mZ,aD];omega
set_option maxHeartbeats 4000000 in
set_option maxRecDepth 1000000 in
theorem U4(fb rb js cc:Nat)(kd cl A B:Int)(L:Value)(W w1:World)(K:World->Prop)(e1:W.alloc (zt kd cl A B L)=w1)(hC:Q8 W.heap.size rb js cc kd cl A B L w1)(hk:pick kd 19=18)
  (ha:∀n o,((w1.drewN n).alloc o).cell? ⟨W.heap.size,2,none⟩=some (.int .i64 A)/\((w1.drewN n).alloc o).cell? ⟨W.heap.size,3,none⟩=some (.int .i64 B))
  (hv:∀n,∃za wa wb wn,(w1.drewN n).alloc (.cells #[.int .i64 0,.int .i64 0,.int .i64 0] 86)=za/\(za.cell? ⟨W.heap.size,2,none⟩=some (.int .i64 A)/\za.cell? ⟨W.heap.size,3,none⟩=some (.int .i64 B))/\(za.frozen? ⟨w1.heap.size,1,none⟩=false/\∃y,za.cell? ⟨w1.heap.size,1,none⟩=some y)/\(za.frozen? ⟨w1.heap.size,2,none⟩=false/\∃y,za.cell? ⟨w1.heap.size,2,none⟩=some y)/\St za w1.heap.size 0 (.int .i64 (pick A 5-2)) wa/\St wa w1.heap.size 1 (.int .i64 (pick cl 4-1)) wb/\St wb w1.heap.size 2 (.int .i64 (pick B 4-1)) wn/\wn.cell? ⟨W.heap.size,2,none⟩=some (.int .i64 A)/\wn.cell? ⟨W.heap.size,3,none⟩=some (.int .i64 B)/\Q7 wn.drew w1.heap.size (pick A 5-2) (pick cl 4-1) (pick B 4-1)/\abJ (fun w=>Q7 w w1.heap.size (pick A 5-2) (pick cl 4-1) (pick B 4-1)) 22 28 #[.pointer (some ⟨fb,0,none⟩),.agg #[.int .i64 (pick A 5-2),.int .i64 (pick cl 4-1),.int .i64 (pick B 4-1)]] #[.pointer (some ⟨rb,0,none⟩),.agg #[.int .i64 (pick A 5-2),.int .i64 (pick cl 4-1),.int .i64 (pick B 4-1)]] K wn.drew):
  Calls Tryz.prog 9 #[.pointer (some ⟨fb,0,none⟩),.pointer (some ⟨rb,0,none⟩),xJ kd cl A B L] W fun e w'=>e=.returned (.bool true)/\K w':=by
 have mixed:Tryz.prog.follows .mixedOrders=true:=by kernel_rfl
 obtain⟨b0,b1,b2,b3,b4,r2⟩:=hC;have U1:=QS cl;have p4:=fun w=>aX cl 4 w (by omega) (by omega);have pY:=fun w=>aX kd 19 w (by omega) (by omega);rw[hk]at pY;have c0:∀n,(w1.drewN n).cell? ⟨W.heap.size,0,none⟩=some (.int .i64 kd):=fun n=>b0;have c2:∀n,(w1.drewN n).cell? ⟨W.heap.size,2,none⟩=some (.int .i64 A):=fun n=>b2;have c3:∀n,(w1.drewN n).cell? ⟨W.heap.size,3,none⟩=some (.int .i64 B):=fun n=>b3;have p5:=fun w=>aX A 5 w (by omega) (by omega);have p6:=fun w=>aX B 4 w (by omega) (by omega);have hw8:=QS B;have hw9:=wp2 A;have hx8:IntKind.i64.wrap (pick B 4-1)=pick B 4-1:=by rw[<-mZ];exact hw8
 have hx9:IntKind.i64.wrap (pick A 5-2)=pick A 5-2:=by rw[<-mZ];exact hw9
 go_enter Tryz.func9,Tryz.ntmps9
 go_wp2_with fail
 go_quiet ((go_at_call 24;exact kt (p4 _)))
 go_wp2_with ((go_at_call 24;refine da (pY _) ?_;clear pY;rintro e w' ⟨rfl,hw⟩;rw[hw];clear hw))
 have hvn:=hv (nq+1);obtain⟨za,wa,wb,wn,hza,hzc,⟨k0,y3,k1⟩,⟨k2,y4,k3⟩,⟨f0,⟨y0,f1⟩,f2⟩,⟨f3,⟨y1,f4⟩,f5⟩,⟨f6,⟨y2,f7⟩,f8⟩,g3,g4,hS,XP⟩:=hvn;have g0:(w1.drewN (nq+1)).cell? ⟨W.heap.size,2,none⟩=some (.int .i64 A)/\(w1.drewN (nq+1)).cell? ⟨W.heap.size,3,none⟩=some (.int .i64 B):=⟨c2 _,c3 _⟩;have ga:=ha (nq+1);clear p5 p6 hv ha b0 b1 b2 b3 b4 r2 c0 c2 c3 p4 e1 hk
 go_region_held3 (fun w=>w.cell? ⟨W.heap.size,2,none⟩=some (.int .i64 A)/\w.cell? ⟨W.heap.size,3,none⟩=some (.int .i64 B)) (first|exact g0|exact ga _|exact hzc|exact⟨g3,g4⟩) ((go_at_call 24;refine da (aX _ _ _ (by decide) (by decide)) ?_;rintro e w' ⟨rfl,hw⟩;rw[hw];clear hw))
 all_goals clear g0 ga hza hzc k0 k1 k2 k3 f0 f1 f2 f3 f4 f5 f6 f7 f8 g3 g4
 all_goals go_wp2_with fail
 all_goals go_region_held3 (fun w=>w.cell? ⟨w1.heap.size,0,none⟩=some (.int .i64 (pick A 5-2))/\w.cell? ⟨w1.heap.size,1,none⟩=some (.int .i64 (pick cl 4-1))/\w.cell? ⟨w1.heap.size,2,none⟩=some (.int .i64 (pick B 4-1))) (first|exact hS|exact q1|exact q2) (first|(go_at_call 22;refine da XP ?_;clear XP;rintro e w3 ⟨q,rfl,q1,h28⟩)|(go_at_call 28;refine da h28 ?_;clear h28;rintro e w4 ⟨rfl,q2,hK⟩))
 all_goals go_wp2_with fail
 all_goals go_ret
 all_goals exact⟨rfl,hK⟩
