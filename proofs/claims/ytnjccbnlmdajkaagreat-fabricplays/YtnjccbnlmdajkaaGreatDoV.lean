/- One event on both fabrics: the walk,a node that fails or comes back. -/
import Derived.Test.YtnjccbnlmdajkaaGreatSfS
import Derived.Test.YtnjccbnlmdajkaaGreatDoZ
import Derived.Test.YtnjccbnlmdajkaaGreatRkD
import Derived.Test.YtnjccbnlmdajkaaGreatTab2
import Derived.Test.YtnjccbnlmdajkaaGreatPiecesS
import Derived.Test.YtnjccbnlmdajkaaGreatEv10
set_option linter.all false
namespace Go.Proofs.YtnjccbnlmdajkaaGreat
open Go.Proofs.Tryz renaming prog->U'
open Go.RowKit Go.Shelf Go.Lib Go.Ev
variable{K:World->Prop}{F:List Nat}{xs ys:Array Value}{cs:List AV}{v:Value}{f g:FuncId}{n:Bool}
section
attribute [local go_sem] Oper.semAt_some
attribute [local go_sem] eU dm dq eV
set_option maxHeartbeats 4000000 in
set_option maxRecDepth 1000000 in
theorem X7(fb rb js cc:Nat)(i nb kE nc:Nat)(kd cl A B:Int)(L:Value)(W w1:World)(K:World->Prop)(e1:W.alloc (zt kd cl A B L)=w1)(hC:Q8 W.heap.size rb js cc kd cl A B L w1)(hk:pick kd 19=17)
  (hi:i<2) (hpi:pick A 2=(i:Int)) (r1:w1.cell? ⟨rb,1,none⟩=some (.slice (some ⟨kE,0,none⟩) 2 nc))
  (X2:∀n,Calls U' 39 #[.pointer (some ⟨fb,0,none⟩),.int .i64 (i:Int)] (w1.drewN n) fun e w'=>e=.returned (.pointer (some ⟨nb,0,none⟩))/\w'=w1.drewN n)
  (hv:∀n,Calls U' 40 #[.pointer (some ⟨nb,0,none⟩)] (w1.drewN n) fun e w'=> ∃v:Bool,e=.returned (.bool v)/\w'.cell? ⟨rb,1,none⟩=some (.slice (some ⟨kE,0,none⟩) 2 nc)/\Calls U' 41 #[.pointer (some ⟨kE,i*2,none⟩)] w' fun e w3=>e=.returned (.bool v)/\w3.cell? ⟨rb,1,none⟩=some (.slice (some ⟨kE,0,none⟩) 2 nc)/\K w3):
  Calls U' 9 #[.pointer (some ⟨fb,0,none⟩),.pointer (some ⟨rb,0,none⟩),xJ kd cl A B L] W fun e w'=>e=.returned (.bool true)/\K w':=by
 have mixed:U'.follows .mixedOrders=true:=by kernel_rfl
 obtain⟨b0,b1,b2,b3,b4,r2⟩:=hC;have U1:=QS cl;have p4:=fun w=>aX cl 4 w (by omega) (by omega);have pY:=fun w=>aX kd 19 w (by omega) (by omega);rw[hk]at pY;have c0:∀n,(w1.drewN n).cell? ⟨W.heap.size,0,none⟩=some (.int .i64 kd):=fun n=>b0;have c2:∀n,(w1.drewN n).cell? ⟨W.heap.size,2,none⟩=some (.int .i64 A):=fun n=>b2;have c3:∀n,(w1.drewN n).cell? ⟨W.heap.size,3,none⟩=some (.int .i64 B):=fun n=>b3;have pA:∀w,Calls U' 24 #[.int .i64 A,.int .i64 2] w fun e w'=>e=.returned (.int .i64 (i:Int))/\w'=w:=fun w=>by rw[<-hpi];exact aX A 2 w (by omega) (by omega)
 have c1:∀n,(w1.drewN n).cell? ⟨rb,1,none⟩=some (.slice (some ⟨kE,0,none⟩) 2 nc):=fun n=>r1;have c1d:∀n,(w1.drewN n).drew.cell? ⟨rb,1,none⟩=some (.slice (some ⟨kE,0,none⟩) 2 nc):=fun n=>r1;have zP:(i:Int)<2:=by omega
 go_enter Tryz.func9,Tryz.ntmps9
 go_wp2_with fail
 go_quiet ((go_at_call 24;exact kt (p4 _)))
 go_wp2_with ((go_at_call 24;refine da (pY _) ?_;rintro e w' ⟨rfl,hw⟩;rw[hw];clear hw))
 go_quiet ((go_at_call 24;exact(pA _).mono fun e w' he=>⟨he.1,_,he.2⟩))
 go_wp2_with fail
 refine da (X2 _) ?_;rintro e w' ⟨rfl,hw⟩;rw[hw];clear hw
 go_wp2_with ((go_at_call 24;refine da (pY _) ?_;rintro e w' ⟨rfl,hw⟩;rw[hw];clear hw))
 go_region_held3 (fun w=>w.cell? ⟨rb,1,none⟩=some (.slice (some ⟨kE,0,none⟩) 2 nc)) (first|exact c1 _|exact c1d _|exact g1|exact g2|fail) (first|(go_at_call 40;refine da (hv _) ?_;clear hv;rintro e w2 ⟨v,rfl,g1,h3⟩)|(go_at_call 41;refine da h3 ?_;clear h3;rintro e w3 ⟨rfl,g2,hK⟩))
 go_wp2_with fail
 go_ret
 exact⟨rfl,hK⟩
set_option maxHeartbeats 4000000 in
set_option maxRecDepth 1000000 in
theorem X8(fb rb js cc:Nat)(i nb kE nc:Nat)(kd cl A B:Int)(L:Value)(W w1:World)(K:World->Prop)(e1:W.alloc (zt kd cl A B L)=w1)(hC:Q8 W.heap.size rb js cc kd cl A B L w1)(hk:pick kd 19=16)
  (hi:i<2) (hpi:pick A 2=(i:Int)) (r1:w1.cell? ⟨rb,1,none⟩=some (.slice (some ⟨kE,0,none⟩) 2 nc))
  (X2:∀n,Calls U' 39 #[.pointer (some ⟨fb,0,none⟩),.int .i64 (i:Int)] (w1.drewN n) fun e w'=>e=.returned (.pointer (some ⟨nb,0,none⟩))/\w'=w1.drewN n)
  (hv:∀n,Calls U' 42 #[.pointer (some ⟨nb,0,none⟩)] (w1.drewN n) fun e w'=>e=.returned (.tuple #[])/\w'.cell? ⟨rb,1,none⟩=some (.slice (some ⟨kE,0,none⟩) 2 nc)/\∃w2,St w' kE (i*2+1) (.bool false) w2/\K w2):
  Calls U' 9 #[.pointer (some ⟨fb,0,none⟩),.pointer (some ⟨rb,0,none⟩),xJ kd cl A B L] W fun e w'=>e=.returned (.bool true)/\K w':=by
 have mixed:U'.follows .mixedOrders=true:=by kernel_rfl
 obtain⟨b0,b1,b2,b3,b4,r2⟩:=hC;have U1:=QS cl;have p4:=fun w=>aX cl 4 w (by omega) (by omega);have pY:=fun w=>aX kd 19 w (by omega) (by omega);rw[hk]at pY;have c0:∀n,(w1.drewN n).cell? ⟨W.heap.size,0,none⟩=some (.int .i64 kd):=fun n=>b0;have c2:∀n,(w1.drewN n).cell? ⟨W.heap.size,2,none⟩=some (.int .i64 A):=fun n=>b2;have c3:∀n,(w1.drewN n).cell? ⟨W.heap.size,3,none⟩=some (.int .i64 B):=fun n=>b3;have pA:∀w,Calls U' 24 #[.int .i64 A,.int .i64 2] w fun e w'=>e=.returned (.int .i64 (i:Int))/\w'=w:=fun w=>by rw[<-hpi];exact aX A 2 w (by omega) (by omega)
 have c1:∀n,(w1.drewN n).cell? ⟨rb,1,none⟩=some (.slice (some ⟨kE,0,none⟩) 2 nc):=fun n=>r1;have c1d:∀n,(w1.drewN n).drew.cell? ⟨rb,1,none⟩=some (.slice (some ⟨kE,0,none⟩) 2 nc):=fun n=>r1;have zP:(i:Int)<2:=by omega
 go_enter Tryz.func9,Tryz.ntmps9
 go_wp2_with fail
 go_quiet ((go_at_call 24;exact kt (p4 _)))
 go_wp2_with ((go_at_call 24;refine da (pY _) ?_;rintro e w' ⟨rfl,hw⟩;rw[hw];clear hw))
 go_quiet ((go_at_call 24;exact(pA _).mono fun e w' he=>⟨he.1,_,he.2⟩))
 go_wp2_with fail
 refine da (X2 _) ?_;rintro e w' ⟨rfl,hw⟩;rw[hw];clear hw
 go_wp2_with ((go_at_call 24;refine da (pY _) ?_;rintro e w' ⟨rfl,hw⟩;rw[hw];clear hw))
 refine da (hv _) ?_;clear hv b0 b1 b2 b3 b4 r2 c0 c1 c2 c3 p4 e1 hk pY pA X2;rintro e w2 ⟨rfl,g1,w3,⟨f0,⟨y0,f1⟩,f2⟩,hK⟩
 go_wp2_with fail
 go_ret
 exact⟨rfl,hK⟩
end
section
attribute [local go_sem] Oper.semAt_some
set_option maxHeartbeats 2000000 in
set_option maxRecDepth 1000000 in
theorem QU(A:Option Addr)(c:Nat)(w:World):Calls U' 25 #[.slice A 0 c] w fun e w'=>e=.returned (.slice none 0 0)/\w'=w:=by
 have mixed:U'.follows .mixedOrders=true:=by kernel_rfl
 go_enter Tryz.func25,Tryz.ntmps25
 go_wp2
 go_loopg [3,4] 0 (fun g s3 s4 W=>s3=.slice none 0 0/\s4=.int .i64 0/\W=w)
 case atStart=>exact⟨rfl,rfl,rfl⟩
 case round=>
  obtain⟨rfl,rfl,hw⟩:=hrel
  go_wp2
  go_ret
  exact⟨rfl,rfl⟩
set_option maxRecDepth 100000
variable{w0 W:World}{μ:Mu}{I:Ky->Option ag}{fb rb k:Nat}{a:mV}{r:gP}
theorem JS.le{k':Nat}(h:JS w0 μ I fb rb k W)(hk:k<=k'):JS w0 μ I fb rb k' W:=by
 obtain⟨a,r,h1,h2,h3⟩:=h;exact⟨a,r,h1,h2,by omega⟩
theorem JS.mono{μ':Mu}(h:JS w0 μ' I fb rb k W)(hm:ak μ μ'):JS w0 μ I fb rb k W:=by
 obtain⟨a,r,h1,h2,h3⟩:=h;exact⟨a,r,h1.mono hm,h2,h3⟩
def JE(w0:World)(μ:Mu)(fb rb k:Nat)(W:World):Prop:=∃I:Ky->Option ag,JS w0 μ I fb rb k W
theorem JS.MK(h:JS w0 μ I fb rb k W)(m:Nat)(vs:List Value)(ty:Nat)(hv:∀v∈vs,oN (.v v)=true):JS w0 μ (put I (0,.tmp m) (some (bG W.heap.size [W.heap.size] ty (vs.map AV.v)))) fb rb k (W.alloc (.cells vs.toArray ty (0,0))):=by
 obtain⟨a,r,⟨μ',I',s,u,hm,hK,hR,ha,hQ,hD,hr,hf⟩,h2,h3⟩:=h;have hK1:=hK.alloc (0,.tmp m) (cs:=vs.map AV.v) (cur:=vs.toArray) (ty:=ty) (fE vs hv);refine⟨a,r,⟨μ',_,s,u,hm,hK1,hR.of fun k _=>ae _ _ (by simp),ha,hQ.of fun k _=>ae _ _ (by simp),hD,hr,fun k k1 k2=>?_⟩,h2,h3⟩;by_cases e:k=(0,.tmp m)
 all_goals simp_all [af,ae]
theorem JS.ME(h:JS w0 μ I fb rb k W){m b ty j:Nat}{u:AV}(hI:I (0,.tmp m)=some (bG b F ty cs))(hu:cs[j]?=some u)(hv:oN (.v v)=true):∃(W':World) (F':List Nat),St W b j v W'/\JS w0 μ (put I (0,.tmp m) (some (bG b F' ty (cs.set j (.v v))))) fb rb k W':=by
 obtain⟨a,r,⟨μ',I',s,u',hm,hK,hR,ha,hQ,hD,hr,hf⟩,h2,h3⟩:=h;obtain⟨W',F',st,_,hK1⟩:=hK.Jw ((hf _ (by simp) (by simp)).trans hI) hu (a:=.v v) (v:=v) (.v hv);refine⟨W',F',st,a,r,⟨μ',_,s,u',hm,hK1,hR.of fun k _=>ae _ _ (by simp),ha,hQ.of fun k _=>ae _ _ (by simp),hD,hr,fun k k1 k2=>?_⟩,h2,h3⟩;by_cases e:k=(0,.tmp m)
 all_goals simp_all [af,ae]
theorem B2.eG(h:B2 w0 μ I fb rb a r W){m b ty j:Nat}(hI:I (0,.tmp m)=some (bG b F ty cs))(hu:cs[j]?=some (.v v)):W.cell? ⟨b,j,none⟩=some v/\W.frozen? ⟨b,j,none⟩=false:=by
 obtain⟨μ',I',s,u',hm,hK,hR,ha,hQ,hD,hr,hf⟩:=h;have e:=(hf _ (by simp) (by simp)).trans hI;exact⟨hK.cell e hu,hK.frozen e j⟩
theorem JS.eG(h:JS w0 μ I fb rb k W){m b ty j:Nat}{F:List Nat}{cs:List AV}{v:Value}(hI:I (0,.tmp m)=some (bG b F ty cs))(hu:cs[j]?=some (.v v)):W.cell? ⟨b,j,none⟩=some v/\W.frozen? ⟨b,j,none⟩=false:=by
 obtain⟨a,r,hB,_⟩:=h;exact hB.eG hI hu
theorem Jt.toI(h:Jt w0 μ I fb rb k true f g xs ys W)(hK:∀w,JS w0 μ I fb rb k w->K w):abH f g xs ys K W:=
 da h fun e w' he=>by
  obtain⟨v,⟨z,rfl⟩,h1,_,h2⟩:=he;exact⟨z,h1,(h2 w' (ar.refl _ _)).mono fun e' w2 he'=>⟨he'.1,hK _ he'.2⟩⟩
theorem Jt.toB(h:Jt w0 μ I fb rb k false f g xs ys W)(hK:∀w,JS w0 μ I fb rb k w->K w):abI f g xs ys K W:=
 da h fun e w' he=>by
  obtain⟨v,⟨z,rfl⟩,h1,_,h2⟩:=he;exact⟨z,h1,(h2 w' (ar.refl _ _)).mono fun e' w2 he'=>⟨he'.1,hK _ he'.2⟩⟩
theorem Jt.toC{m b ty j:Nat}(h:Jt w0 μ I fb rb k true f g xs ys W)(hI:I (0,.tmp m)=some (bG b F ty cs))(hu:cs[j]?=some (.v v))(hK:∀w,JS w0 μ I fb rb k w->K w):aeu ⟨b,j,none⟩ v f g xs ys K W:=
 da h fun e w' he=>by
  obtain⟨v,⟨z,rfl⟩,h1,⟨a,r,hB⟩,h2⟩:=he;exact⟨z,h1,(hB.eG hI hu).1,(h2 w' (ar.refl _ _)).mono fun e' w2 he'=>⟨he'.1,(he'.2.eG hI hu).1,hK _ he'.2⟩⟩
theorem Jt.toS{m b ty:Nat}{x y z:Int}(h:Jt w0 μ I fb rb k false f g xs ys W)(hI:I (0,.tmp m)=some (bG b F ty [Q' x,Q' y,Q' z]))(hK:∀w,JS w0 μ I fb rb k w->K w):abJ (fun w=>Q7 w b x y z) f g xs ys K W:=
 da h fun e w' he=>by
  obtain⟨v,⟨q,rfl⟩,h1,⟨a,r,hB⟩,h2⟩:=he;exact⟨q,h1,⟨(hB.eG hI (j:=0) rfl).1,(hB.eG hI (j:=1) rfl).1,(hB.eG hI (j:=2) rfl).1⟩,(h2 w' (ar.refl _ _)).mono fun e' w2 he'=>⟨he'.1,⟨(he'.2.eG hI (j:=0) rfl).1,(he'.2.eG hI (j:=1) rfl).1,(he'.2.eG hI (j:=2) rfl).1⟩,hK _ he'.2⟩⟩
theorem X9(h:JS w0 μ I fb rb k W){rs:List Rw}{L:Value}(hd:DR μ (.aq n 6 (rs.map Rw.row)) L)(h8:rs.length<=8):Calls U' 25 #[L] W fun e w'=> ∃(μ':Mu) (V:Value) (n':Bool) (vs:List Vb),e=.returned V/\ak μ μ'/\DR μ' (.aq n' 9 (vs.map Vb.row)) V/\vs.length<=8/\(∀u∈vs,u.Wf)/\JS w0 μ' I fb rb k w':=by
 by_cases h0:rs.length=0
 ·obtain⟨A,c,rfl,_⟩:=eZ hd;rw[ab,h0];exact(QU A c W).mono fun e w' he=>⟨μ,_,true,[],he.1,ak.refl _,gM,nt _,fun u hu=>(by cases hu),he.2▸h⟩
 ·obtain⟨a,r,⟨μ',I',s,u',hm,hK,hR,ha,hQ,hD,hr,hf⟩,h2,h3⟩:=h;refine(UG 1 hK (hd.mono hm) ⟨by omega,by omega⟩).mono fun e w' he=>?_;obtain⟨μ2,I2,vs,n',A,c,rfl,m2,bq,qw,hl,hwf,hN⟩:=he;exact⟨μ2,_,n',vs,rfl,hm.trans m2,qw,by omega,hwf,a,r,⟨μ2,I2,s,u',ak.refl _,bq,hR.of fun k hk=>hN _ fun n=>aa (hk n),ha,hQ.of fun k _=>hN _ fun n=>by simp,hD.mono m2,hr,fun k k1 k2=>(hN k fun n e=>k1 (by rw[e])).trans (hf k k1 k2)⟩,h2,h3⟩
theorem ZJ(ln:List th)(c:Nat):∀j,∀x∈NZ ln c j,-1<=x.1
 |0,x,hx=>by cases hx
 |j+1,x,hx=>by
  unfold NZ at hx;rcases gw.1 hx with hx|hx
  ·exact ZJ ln c j x hx
  grind
theorem ZK(cl:List mU):∀c,∀x∈Gz cl c,-1<=x.1
 |0,x,hx=>by cases hx
 |c+1,x,hx=>by
  unfold Gz at hx;rcases gw.1 hx with hx|hx
  ·exact ZK cl c x hx
  ·cases e:cl[c]? with
   |none=>rw[e]at hx;cases hx
   |some l=>rw[e]at hx;exact ZJ l.ln c _ x hx
theorem ZL(os:List Pr):∀k,∀x∈Qs os k,-1<=x.1
 |0,x,hx=>by cases hx
 |k+1,x,hx=>by
  unfold Qs at hx;rcases gw.1 hx with hx|hx
  ·exact ZL os k x hx
  grind
theorem aev(h:JS w0 μ I fb rb k W)(hk:k<=1000):∃oL:List Ch,oL.length<=100000/\(∀x∈oL,-1<=x.1)/\∀w,ar [] W w->Calls U' 27 #[ptr rb] w fun e w'=> ∃(A:Option Addr) (c:Nat),e=.returned (.slice A oL.length c)/\JS w0 μ I fb rb k w'/\
  (0<oL.length->∃b,A=some ⟨b,0,none⟩/\∀(j:Nat) (x:Ch),oL[j]?=some x->w'.cell? ⟨b,j*3,none⟩=some (.int .i64 x.1)/\w'.cell? ⟨b,j*3+1,none⟩=some (.int .i64 x.2.1)/\w'.cell? ⟨b,j*3+2,none⟩=some (.int .i64 x.2.2)):=by
 obtain⟨a,r,hB,hS,ho⟩:=h;have hch:=hS.oL;have hlen:=hS.on;refine⟨r.oL,?_,fun x hx=>?_,fun w hw=>?_⟩
 ·rw[<-hch];unfold mV.oL;rw[ec];have h1:=wj (cl:=a.cl) (B:=2) (fun x hx=>by
   obtain⟨c,hc,rfl⟩:=D0.1 hx;have sY:=hS.c2;obtain⟨x',y,l,hx',hy,hl,hs⟩:=hS.get (c:=c) (by omega);rw[ao hc]at hx';cases hx';cases hal:y.al with
   |true=>rw[hs.xl hal];exact dk _
   |false=>rw[(hs.dead hal).1];exact nt _) a.cl.length
  have h2:=zT a.os a.os.length;have:=hS.c2;omega
 ·rw[<-hch]at hx;unfold mV.oL at hx;rcases gw.1 hx with hx|hx
  ·exact ZK _ _ x hx
  ·exact ZL _ _ x hx
 ·obtain⟨μ',I',u,hm,hK,hQ,hD,hu,hf,hb⟩:=(hB.bw hw).right;obtain⟨q1,q2,q3⟩:=ez hS hu;have eu:u.os.length=u.a.os.length:=(ab ..).symm;rw[hu]at eu;refine(yO hK hQ hD (by omega) ⟨by omega,fun x hx=>?_,by omega⟩).mono fun e w' he=>?_
  ·obtain⟨c,hc,rfl⟩:=D0.1 hx;obtain⟨x',y,l,hx',hy,hl,hs⟩:=hS.get (c:=c) (by omega);obtain⟨lc,hlc,rfl⟩:=uj hu hl;rw[ao hc]at hlc;cases hlc;rw[show(u.ln[c]).ps.length=(u.ln[c]).a.length from(ab ..).symm,hs.ll];omega
  ·obtain⟨v,rfl,I3,du,Kn,qC⟩:=he;obtain⟨A,cA,ev,_⟩:=Kn.val;rw[ab,hu]at ev;have hst:mX 2 w0 μ' I' rb u.a w':=⟨μ',I3,u,ak.refl _,du,hQ.of fun kk hk=>qC _ (aa (hk 9)),hD,rfl,fun kk hk=>qC kk fun e=>hk (by rw[e])⟩;rw[hu]at hst;refine⟨A,cA,by rw[ev],⟨a,r,hb μ' _ _ (ak.refl _) hst,hS,ho⟩,fun hpos=>?_⟩;obtain⟨p,pc,ep,zm⟩:=Kn.ne (fun e=>by simp_all);rw[ev]at ep;injection ep with ep _ _;rw[hu]at zm;exact⟨p,ep,fun j x hx=>⟨du.aL zm (get_map hx) (j:=0) rfl,du.aL zm (get_map hx) rfl,du.aL zm (get_map hx) rfl⟩⟩
end
section
set_option maxRecDepth 100000
variable{w0 W:World}{μ:Mu}{I:Ky->Option ag}{fb rb k:Nat}
theorem JS.r2(h:JS w0 μ I fb rb k W):∃js cc,W.cell? ⟨rb,2,none⟩=some (.slice (some ⟨js,0,none⟩) 2 cc):=by
 obtain⟨a,r,hB,hS,_⟩:=h;obtain⟨μ',I',u,hm,hK,hR,hD,hu,_⟩:=hB.right;obtain⟨q1,_⟩:=ez hS hu;exact MI hK hR q1
theorem agD(h:JS w0 μ I fb rb k W)(hk:k<=900)(kd cl A B:Int){L:Value}{rs:List Rw}(hd:DR μ (.aq n 6 (rs.map Rw.row)) L)(h8:rs.length<=8):
  Calls U' 9 #[ptr fb,ptr rb,xJ kd cl A B L] W fun e w'=>e=.returned (.bool true)/\JE w0 μ fb rb (k+2) w':=by
 obtain⟨LA,lc,hL,_⟩:=eZ hd;have agE:oN (.v L)=true:=by rw[hL];rfl
 have FQ:=h.MK 0 [.int .i64 kd,.int .i64 cl,.int .i64 A,.int .i64 B,L] 34 (fun v hv=>by
  simp only[ft,dt,re]at hv;rcases hv with rfl|rfl|rfl|rfl|rfl
  ·rfl
  ·rfl
  ·rfl
  ·rfl
  ·exact agE)
 obtain⟨w1,e1⟩:∃w1,W.alloc (zt kd cl A B L)=w1:=⟨_,rfl⟩;have e1':W.alloc (.cells [Value.int .i64 kd,.int .i64 cl,.int .i64 A,.int .i64 B,L].toArray 34 (0,0))=w1:=e1;rw[e1']at FQ;obtain⟨I1,aew⟩:∃I1,put I (0,.tmp 0) (some (bG W.heap.size [W.heap.size] 34 ([Value.int .i64 kd,.int .i64 cl,.int .i64 A,.int .i64 B,L].map AV.v)))=I1:=⟨_,rfl⟩;have hI1:I1 (0,.tmp 0)=some (bG W.heap.size [W.heap.size] 34 [Q' kd,Q' cl,Q' A,Q' B,.v L]):=by rw[<-aew];exact af _ _ _
 rw[aew]at FQ;obtain⟨js,cc,yC⟩:=FQ.r2;have hC:Q8 W.heap.size rb js cc kd cl A B L w1:=⟨(FQ.eG hI1 (j:=0) rfl).1,(FQ.eG hI1 (j:=1) rfl).1,(FQ.eG hI1 (j:=2) rfl).1,(FQ.eG hI1 (j:=3) rfl).1,(FQ.eG hI1 (j:=4) rfl).1,yC⟩;have zR:∀n,JS w0 μ I1 fb rb k (w1.drewN n):=fun n=>FQ.bw (bY w1 n);have fin:∀{μ':Mu} {J:Ky->Option ag} {k':Nat},ak μ μ'->k'<=k+2->∀w,JS w0 μ' J fb rb k' w->JE w0 μ fb rb (k+2) w:=fun hm hk w h=>⟨_,(h.mono hm).le hk⟩;have hp:=dC (n:=kd) (m:=19) (by omega);by_cases g1:pick kd 19<4
 ·refine X4 fb rb js cc kd cl A B L W w1 _ e1 hC g1 fun n=>?_;refine(X9 (zR n) hd h8).mono fun e w' he=>?_;obtain⟨μ',V,n',vs,rfl,hm,hdv,hv8,hwf,hJ⟩:=he;exact⟨V,rfl,(aby hJ (pick cl 4-1) hdv hv8 hwf).toI (fin hm (by omega))⟩
 by_cases g2:pick kd 19<11
 ·obtain⟨oL,hcl,hco,hch⟩:=aev FQ (by omega);by_cases hc0:oL.length=0
  ·refine U2 fb rb js cc kd cl A B L W w1 _ e1 hC g1 g2 fun n=>?_;refine(hch _ (bY w1 n)).mono fun e w' he=>?_;obtain⟨A',c,rfl,hJ,_⟩:=he;rw[hc0];exact⟨A',c,rfl,fin (ak.refl _) (by omega) _ hJ⟩
  ·have Ks:=dC (n:=A) (m:=(oL.length:Int)) (by omega);obtain⟨j,hj⟩:∃j:Nat,pick A oL.length=(j:Int):=⟨(pick A oL.length).toNat,by omega⟩;have hjl:j<oL.length:=by omega
   obtain⟨x,hx⟩:∃x,oL[j]?=some x:=⟨_,ao hjl⟩;refine U3 fb rb js cc oL.length j kd cl A B L W w1 _ e1 hC g1 g2 (by omega) hcl hj hjl fun n=>?_;refine(hch _ (bY w1 n)).mono fun e w' he=>?_;obtain⟨A',c,rfl,hJ,hcell⟩:=he;obtain⟨b,rfl,abL⟩:=hcell (by omega);obtain⟨d0,d1,d2⟩:=abL j x hx;have qB:=hJ.MK 1 [.int .i64 x.1,.int .i64 x.2.1,.int .i64 x.2.2] 86 (fun v hv=>by
    simp only[ft,dt,re]at hv;rcases hv with rfl|rfl|rfl<;>rfl)
   obtain⟨I2,aex⟩:∃I2,put I1 (0,.tmp 1) (some (bG w'.heap.size [w'.heap.size] 86 ([Value.int .i64 x.1,.int .i64 x.2.1,.int .i64 x.2.2].map AV.v)))=I2:=⟨_,rfl⟩;have kJ:I2 (0,.tmp 1)=some (bG w'.heap.size [w'.heap.size] 86 [Q' x.1,Q' x.2.1,Q' x.2.2]):=by rw[<-aex];exact af _ _ _
   rw[aex]at qB;have LB:=qB.bw (bY _ 1);exact⟨b,c,rfl,x.1,x.2.1,x.2.2,_,(hJ.eG hI1 (j:=2) rfl).1,d0,d1,d2,rfl,⟨(LB.eG kJ (j:=0) rfl).1,(LB.eG kJ (j:=1) rfl).1,(LB.eG kJ (j:=2) rfl).1⟩,
    (UB LB (by omega) x.1 x.2.1 x.2.2 (by have:=hco x (dp hx);omega)).toS kJ (fin (ak.refl _) (by omega))⟩
 rcases(by omega:pick kd 19=11\/pick kd 19=12\/pick kd 19=13\/pick kd 19=14\/pick kd 19=15\/pick kd 19=16\/pick kd 19=17\/pick kd 19=18)with g|g|g|g|g|g|g|g
 ·refine X5 fb rb js cc kd cl A B L W w1 _ e1 hC g fun n=>?_;refine da (abB (zR n) (pick cl 4-1)) fun e w' he=>?_;obtain⟨d,ok,rfl,h2⟩:=he;refine⟨d,ok,rfl,h2.mono fun e w3 he=>?_⟩;obtain⟨d2,rfl,h3⟩:=he;exact⟨d2,rfl,h3.mono fun e w5 he=>⟨he.1,fin (ak.refl _) (by omega) _ he.2⟩⟩
 ·exact abK fb rb js cc kd cl A B L W w1 _ e1 hC g fun n=>(aea (zR n) (by omega) (pick cl 4-1)).toB (fin (ak.refl _) (by omega))
 ·exact MJ fb rb js cc kd cl A B L W w1 _ e1 hC g fun n=>(QL (zR n) (pick cl 4-1) (pick A 5)).toI (fin (ak.refl _) (by omega))
 ·exact QT fb rb js cc kd cl A B L W w1 _ e1 hC g fun n=>(UA (zR n) (pick cl 4-1) A).toC hI1 (j:=2) rfl (fin (ak.refl _) (by omega))
 ·exact X6 fb rb js cc kd cl A B L W w1 _ e1 hC g fun n=>(abp (zR n) (by omega) (pick A 4-1)).toB (fin (ak.refl _) (by omega))
 ·have Ks:=dC (n:=A) (m:=2) (by omega);obtain⟨i,hi⟩:∃i:Nat,pick A 2=(i:Int):=⟨(pick A 2).toNat,by omega⟩;have hi2:i<2:=by omega
  obtain⟨nb,kE,nc,hN⟩:=UX FQ hi2;refine X8 fb rb js cc i nb kE nc kd cl A B L W w1 _ e1 hC g hi2 hi (hN w1 (ar.refl _ _)).c (fun n=>(hN _ (bY w1 n)).nd) fun n=>?_;refine(hN _ (bY w1 n)).fl.mono fun e w' he=>?_;obtain⟨rfl,hc,w2,st,hJ⟩:=he;exact⟨rfl,hc,w2,st,fin (ak.refl _) (by omega) _ hJ⟩
 ·have Ks:=dC (n:=A) (m:=2) (by omega);obtain⟨i,hi⟩:∃i:Nat,pick A 2=(i:Int):=⟨(pick A 2).toNat,by omega⟩;have hi2:i<2:=by omega
  obtain⟨nb,kE,nc,hN⟩:=UX FQ hi2;refine X7 fb rb js cc i nb kE nc kd cl A B L W w1 _ e1 hC g hi2 hi (hN w1 (ar.refl _ _)).c (fun n=>(hN _ (bY w1 n)).nd) fun n=>?_;refine(hN _ (bY w1 n)).bk.mono fun e w' he=>?_;obtain⟨v,rfl,h2⟩:=he;obtain⟨hc,h3⟩:=h2 w' (ar.refl _ _);exact⟨v,rfl,hc,h3.mono fun e w3 he=>⟨he.1,he.2.1,fin (ak.refl _) (by omega) _ he.2.2⟩⟩
 ·refine U4 fb rb js cc kd cl A B L W w1 _ e1 hC g (fun n o=>?_) fun n=>?_
  ·exact⟨bp (W:=w1.drewN n) hC.b2,bp (W:=w1.drewN n) hC.b3⟩
  ·have hJz:=(zR n).MK 1 [.int .i64 0,.int .i64 0,.int .i64 0] 86 (fun v hv=>by
    simp only[ft,dt,re]at hv;rcases hv with rfl|rfl|rfl<;>rfl)
   have hz:=af I1 (0,.tmp 1) (some (bG w1.heap.size [w1.heap.size] 86 ([Value.int .i64 0,.int .i64 0,.int .i64 0].map AV.v)));have hzb:(put I1 (0,.tmp 1) (some (bG w1.heap.size [w1.heap.size] 86 ([Value.int .i64 0,.int .i64 0,.int .i64 0].map AV.v)))) (0,.tmp 0)=_:=(ae _ _ (by simp)).trans hI1;obtain⟨wa,Fa,sa,hJa⟩:=hJz.ME hz (j:=0) rfl (v:=.int .i64 (pick A 5-2)) rfl;obtain⟨wb,Fb,sb,hJb⟩:=hJa.ME (af _ _ _) (j:=1) rfl (v:=.int .i64 (pick cl 4-1)) rfl;obtain⟨wn,Fn,sn,hJc⟩:=hJb.ME (af _ _ _) (j:=2) rfl (v:=.int .i64 (pick B 4-1)) rfl;rw[aK,aK,aK]at hJc;have qC:=af I1 (0,.tmp 1) (some (bG w1.heap.size Fn 86 [Q' (pick A 5-2),Q' (pick cl 4-1),Q' (pick B 4-1)]));have P3:=(ae I1 (some (bG w1.heap.size Fn 86 [Q' (pick A 5-2),Q' (pick cl 4-1),Q' (pick B 4-1)])) (show((0,.tmp 0):Ky)≠(0,.tmp 1) by simp)).trans hI1;have hJd:=hJc.bw (bY wn 1);have hps:=dC (n:=A) (m:=5) (by omega);exact⟨_,wa,wb,wn,rfl,⟨(hJz.eG hzb (j:=2) rfl).1,(hJz.eG hzb (j:=3) rfl).1⟩,⟨(hJz.eG hz (j:=1) rfl).2,_,(hJz.eG hz (j:=1) rfl).1⟩,⟨(hJz.eG hz (j:=2) rfl).2,_,(hJz.eG hz (j:=2) rfl).1⟩,sa,sb,sn,(hJc.eG P3 (j:=2) rfl).1,(hJc.eG P3 (j:=3) rfl).1,
    ⟨(hJd.eG qC (j:=0) rfl).1,(hJd.eG qC (j:=1) rfl).1,(hJd.eG qC (j:=2) rfl).1⟩,(UB hJd (by omega) (pick A 5-2) (pick cl 4-1) (pick B 4-1) (by omega)).toS qC (fin (ak.refl _) (by omega))⟩
end
section
attribute [local go_sem] Oper.semAt_some
attribute [local go_sem] eU dm dq eV
set_option maxHeartbeats 2000000 in
set_option maxRecDepth 1000000 in
theorem QV(A:Option Addr)(m vc:Nat)(w:World)(hm:50<m):Calls U' 5 #[.slice A m vc,.int .i64 50] w fun e w'=>e=.returned (.bool true)/\w'=w:=by
 have mixed:U'.follows .mixedOrders=true:=by kernel_rfl
 have h1:(50:Int)<(m:Int):=by omega
 go_enter Tryz.func5,Tryz.ntmps5
 go_wp2
 go_ret
 exact⟨rfl,rfl⟩
set_option maxHeartbeats 2000000 in
set_option maxRecDepth 1000000 in
theorem ML(A:Option Addr)(vc:Nat)(w:World):Calls U' 5 #[.slice A 0 vc,.int .i64 50] w fun e w'=>e=.returned (.bool false)/\w'=w:=by
 have mixed:U'.follows .mixedOrders=true:=by kernel_rfl
 go_enter Tryz.func5,Tryz.ntmps5
 go_wp2
 go_loopg [5] 0 (fun g s5 W=>s5=.int .i64 0/\W=w)
 case atStart=>exact⟨rfl,rfl⟩
 case round=>
  obtain⟨rfl,hw⟩:=hrel
  go_wp2
  go_ret
  exact⟨rfl,by first|exact hw|rfl⟩
def HvR(len:Nat->Nat)(m:Nat)(e:Ending):Prop:=∃b:Bool,e=.returned (.bool b)/\(b=false↔ ∀i,i<m->len i<=8)
set_option maxHeartbeats 2000000 in
set_option maxRecDepth 1000000 in
theorem MM(vb vo m vc:Nat)(len:Nat->Nat)(w:World)(hm:m<=50)(hc:∀i,i<m->∃A c,w.cell? ⟨vb,vo+i*5+4,none⟩=some (.slice A (len i) c)):Calls U' 5 #[.slice (some ⟨vb,vo,none⟩) m vc,.int .i64 50] w fun e w'=>w'=w/\HvR len m e:=by
 have mixed:U'.follows .mixedOrders=true:=by kernel_rfl
 have h1:¬(50:Int)<(m:Int):=by omega
 have HC:Hid (∀i,i<m->∃A c,w.cell? ⟨vb,vo+i*5+4,none⟩=some (.slice A (len i) c)):=hc;clear hc
 go_enter Tryz.func5,Tryz.ntmps5
 go_wp2
 go_loopg [5] m (fun g s5 W=> ∃i:Nat,i+g=m/\s5=.int .i64 i/\W=w/\Hid (∀j,j<i->len j<=8))
 case atStart=>exact⟨0,by omega,rfl,rfl,fun j hj=>by omega⟩
 case round=>
  obtain⟨i,hig,rfl,rfl,HL⟩:=hrel;by_cases hg:0<gk
  ·obtain⟨g,rfl⟩:∃g,gk=g+1:=⟨gk-1,by omega⟩;have zP:(i:Int)<(m:Int):=by omega
   have hw:wrap64 ((i:Int)+1)=((i+1:Nat):Int):=by rw[mZ,aD];omega
   obtain⟨A,c,hcell⟩:=HC.out i (by omega);by_cases h8:len i<=8
   ·have h8I:¬(8:Int)<(len i:Int):=by omega
    go_wp2
    go_roundg g
    case measure=>omega
    case rel=>exact⟨i+1,by omega,rfl,rfl,fun j hj=>by
     rcases Nat.lt_succ_iff_lt_or_eq.1 hj with h|rfl
     ·exact HL.out j h
     ·exact h8⟩
   ·have h8I:(8:Int)<(len i:Int):=by omega
    go_wp2
    go_ret
    exact⟨rfl,true,rfl,fun e=>(by cases e),fun h=>absurd (h i (by omega)) h8⟩
  ·obtain rfl:i=m:=by omega
   have zP:¬(i:Int)<(i:Int):=by omega
   go_wp2
   go_ret
   exact⟨rfl,false,rfl,fun _=>HL.out,fun _=>rfl⟩
def PlE(fb rb vb vo i:Nat)(K:World->Prop)(w:World):Prop:=
 ∃(kd cl A B:Int) (L:Value),w.cell? ⟨vb,vo+i*5,none⟩=some (.int .i64 kd)/\w.cell? ⟨vb,vo+i*5+1,none⟩=some (.int .i64 cl)/\w.cell? ⟨vb,vo+i*5+2,none⟩=some (.int .i64 A)/\w.cell? ⟨vb,vo+i*5+3,none⟩=some (.int .i64 B)/\w.cell? ⟨vb,vo+i*5+4,none⟩=some L/\
  Calls U' 9 #[.pointer (some ⟨fb,0,none⟩),.pointer (some ⟨rb,0,none⟩),xJ kd cl A B L] w fun e w'=>e=.returned (.bool true)/\Calls U' 10 #[.pointer (some ⟨fb,0,none⟩),.pointer (some ⟨rb,0,none⟩)] w' fun e w2=>e=.returned (.bool true)/\K w2
set_option maxHeartbeats 4000000 in
set_option maxRecDepth 1000000 in
theorem um(vb vo m vc:Nat)(w:World)(b0:Bool)(K:World->Prop)(P:Nat->World->Prop)(Q:Nat->Nat->World->Prop)(J:Nat->Nat->Nat->World->Prop)
  (h5:Calls U' 5 #[.slice (some ⟨vb,vo,none⟩) m vc,.int .i64 50] w fun e w'=>e=.returned (.bool b0)/\w'=w) (hK0:b0=true->K w)
  (h6:b0=false->Calls U' 6 #[.int .i64 2,.int .i64 2,.int .i64 12] w fun e w'=> ∃fb:Nat,e=.returned (.tuple #[.pointer (some ⟨fb,0,none⟩),.int .i64 0])/\P fb w')
  (h7:∀fb W,P fb W->Calls U' 7 #[.int .i64 2,.int .i64 2,.int .i64 12] W fun e w'=> ∃rb:Nat,e=.returned (.pointer (some ⟨rb,0,none⟩))/\Q fb rb w')
  (h8:∀fb rb W,Q fb rb W->Calls U' 8 #[] W fun e w'=>e=.returned (.bool true)/\J fb rb 0 w')
  (hR:∀fb rb i W,i<m->J fb rb i W->PlE fb rb vb vo i (J fb rb (i+1)) W) (hE:∀fb rb W,J fb rb m W->K W) (hm:b0=false->m<=50):
  Calls U' 3 #[.slice (some ⟨vb,vo,none⟩) m vc] w fun e w'=>e=.returned (.bool true)/\K w':=by
 have mixed:U'.follows .mixedOrders=true:=by kernel_rfl
 have HR:Hid (∀fb rb i W,i<m->J fb rb i W->PlE fb rb vb vo i (J fb rb (i+1)) W):=hR;have HE:Hid (∀fb rb W,J fb rb m W->K W):=hE;clear hR hE;cases b0 with
 |true=>
  have hK:=hK0 rfl;clear hK0 h6 h7 h8 HR HE hm
  go_enter Tryz.func3,Tryz.ntmps3
  go_wp2_with ((go_at_call 5;refine da h5 ?_;clear h5;rintro e w' ⟨rfl,hw⟩;rw[hw];clear hw))
  go_ret
  exact⟨rfl,hK⟩
 |false=>
  replace h6:=h6 rfl;replace hm:=hm rfl;have HM:Hid (m<=50):=hm;clear hK0 hm
  go_enter Tryz.func3,Tryz.ntmps3
  go_wp2_with (first|(go_at_call 5;refine da h5 ?_;clear h5;rintro e w' ⟨rfl,hw⟩;rw[hw];clear hw)|(go_at_call 6;refine da h6 ?_;clear h6;rintro e w1 ⟨fb,rfl,hP⟩)|(go_at_call 7;refine da (h7 _ _ hP) ?_;clear h7 hP;rintro e w2 ⟨rb,rfl,hQ⟩)|(go_at_call 8;refine da (h8 _ _ _ hQ) ?_;clear h8 hQ;rintro e w3 ⟨rfl,hJ⟩))
  go_loopg [6] m (fun g s6 W=> ∃i:Nat,i+g=m/\s6=.int .i64 i/\J fb rb i W)
  case atStart=>exact⟨0,by omega,rfl,hJ⟩
  case round=>
   clear hJ;obtain⟨i,hig,rfl,hJ⟩:=hrel;by_cases hg:0<gk
   ·obtain⟨g,rfl⟩:∃g,gk=g+1:=⟨gk-1,by omega⟩;have zP:(i:Int)<(m:Int):=by omega
    have hw:wrap64 ((i:Int)+1)=((i+1:Nat):Int):=by have:=HM.out;rw[mZ,aD];omega
    obtain⟨kd,cl,A,B,L,c0,c1,c2,c3,c4,h9⟩:=HR.out _ _ _ _ (by omega) hJ;clear hJ HR HE
    go_wp2_with (first|(go_at_call 9;refine da h9 ?_;clear h9;rintro e w4 ⟨rfl,CP⟩)|(go_at_call 10;refine da CP ?_;clear CP;rintro e w5 ⟨rfl,hJ⟩))
    go_roundg g
    case measure=>omega
    case rel=>exact⟨i+1,by omega,by rw[show wrap64 ((i:Int)+1)=((i+1:Nat):Int) by have:=HM.out;rw[mZ,aD];omega],hJ⟩
   ·obtain rfl:i=m:=by omega
    have zP:¬(i:Int)<(i:Int):=by omega
    have hK:=HE.out _ _ _ hJ;clear HR HE hJ hig hg
    go_wp2_with fail
    go_ret
    exact⟨rfl,hK⟩
set_option maxHeartbeats 4000000 in
set_option maxRecDepth 1000000 in
theorem MN(A:Option Addr)(vc:Nat)(w:World)(K:World->Prop)(P:Nat->World->Prop)(Q:Nat->Nat->World->Prop)
  (h6:Calls U' 6 #[.int .i64 2,.int .i64 2,.int .i64 12] w fun e w'=> ∃fb:Nat,e=.returned (.tuple #[.pointer (some ⟨fb,0,none⟩),.int .i64 0])/\P fb w')
  (h7:∀fb W,P fb W->Calls U' 7 #[.int .i64 2,.int .i64 2,.int .i64 12] W fun e w'=> ∃rb:Nat,e=.returned (.pointer (some ⟨rb,0,none⟩))/\Q fb rb w')
  (h8:∀fb rb W,Q fb rb W->Calls U' 8 #[] W fun e w'=>e=.returned (.bool true)/\K w'):
  Calls U' 3 #[.slice A 0 vc] w fun e w'=>e=.returned (.bool true)/\K w':=by
 have mixed:U'.follows .mixedOrders=true:=by kernel_rfl
 have h5:=ML A vc w
 go_enter Tryz.func3,Tryz.ntmps3
 go_wp2_with (first|(go_at_call 5;refine da h5 ?_;clear h5;rintro e w' ⟨rfl,hw⟩;rw[hw];clear hw)|(go_at_call 6;refine da h6 ?_;clear h6;rintro e w1 ⟨fb,rfl,hP⟩)|(go_at_call 7;refine da (h7 _ _ hP) ?_;clear h7 hP;rintro e w2 ⟨rb,rfl,hQ⟩)|(go_at_call 8;refine da (h8 _ _ _ hQ) ?_;clear h8 hQ;rintro e w3 ⟨rfl,hK⟩))
 go_loopg [6] 0 (fun g s6 W=>s6=.int .i64 0/\K W)
 case atStart=>exact⟨rfl,hK⟩
 case round=>
  clear hK;obtain⟨rfl,hK⟩:=hrel
  go_wp2_with fail
  go_ret
  exact⟨rfl,hK⟩
end
section
attribute [local go_sem] Oper.semAt_some
abbrev abM:Array Value:= #[.int .i64 3,.int .i64 0,.int .i64 0,.int .i64 0,.int .u64 0,.int .u64 4,.slice none 0 0,.int .u64 0,.int .i64 0,.int .i64 1,.int .i64 0,.int .i64 0,.int .i64 1,.int .u64 0,.int .u64 0,.slice none 0 0,.int .u64 0,.int .i64 0]
set_option maxHeartbeats 8000000 in
set_option maxRecDepth 1000000 in
theorem MO(w:World)(L0 L1 L2 L3:Nat->World->Prop)(R:World->Prop)
  (hnew:Calls U' 6 #[.int .i64 1,.int .i64 1,.int .i64 5] w fun e w'=> ∃bf,e=.returned (.tuple #[ptr bf,.int .i64 0])/\L0 bf w')
  (hpost:∀bf W,L0 bf W->Calls U' 20 #[ptr bf,.int .i64 0,.slice (some ⟨W.heap.size,0,none⟩) 2 2] (W.alloc (.cells abM 71)) fun e w'=>e=.returned (.int .i64 0)/\L1 bf w')
  (hch:∀bf W,L1 bf W->Calls U' 21 #[ptr bf] W fun e w'=>(∃A c,e=.returned (.slice A 1 c))/\L1 bf w')
  (hs1:∀bf W,L1 bf W->Calls U' 22 #[ptr bf,.agg #[.int .i64 (-1),.int .i64 0,.int .i64 0]] W fun e w'=>e=.returned (.bool true)/\L2 bf w')
  (qL:∀bf W,L2 bf W->Calls U' 22 #[ptr bf,.agg #[.int .i64 (-1),.int .i64 0,.int .i64 0]] W fun e w'=>e=.returned (.bool true)/\L3 bf w')
  (htk:∀bf W,L3 bf W->Calls U' 23 #[ptr bf,.int .i64 0] W fun e w'=> ∃(bb oo cb:Nat) (A1:Option Addr) (c1 q o c2:Nat),e=.returned (.tuple #[.slice (some ⟨bb,oo,none⟩) 2 cb,.bool true])/\w'.cell? ⟨bb,oo+1,none⟩=some (.slice A1 1 c1)/\w'.cell? ⟨bb,oo+3,none⟩=some (.slice (some ⟨q,o,none⟩) 1 c2)/\w'.cell? ⟨q,o,none⟩=some (.int .u64 4)/\R w'):
  Calls U' 8 #[] w fun e w'=>e=.returned (.bool true)/\R w':=by
 go_enter Tryz.func8,Tryz.ntmps8
 go_wp2_with (first
  |(go_at_call 6;refine da hnew ?_;clear hnew;rintro e w1 ⟨bf,rfl,hL0⟩)
  |(go_at_call 20;refine da (hpost _ _ hL0) ?_;clear hpost;rintro e w2 ⟨rfl,hL1⟩)
  |(go_at_call 21;refine da (hch _ _ hL1) ?_;clear hch;rintro e w3 ⟨⟨CA,cc,rfl⟩,hL2⟩)
  |(go_at_call 22;refine da (hs1 _ _ hL2) ?_;clear hs1;rintro e w4 ⟨rfl,hL3⟩)
  |(go_at_call 22;refine da (qL _ _ hL3) ?_;clear qL;rintro e w5 ⟨rfl,hL4⟩)
  |(go_at_call 23;refine da (htk _ _ hL4) ?_;clear htk;rintro e w6 ⟨bb,oo,cb,A1,c1,q,o,c2,rfl,k1,k2,k3,hR⟩))
 go_ret
 exact⟨rfl,hR⟩
def vA:Vb:=⟨3,0,0,0,0,4,true,[],0,0⟩
def vB:Vb:=⟨1,0,0,1,0,0,true,[],0,0⟩
def aw1:mV:=⟨5,[⟨List.replicate 40 0,false⟩],[⟨true,1,[⟨⟨0,1,0,false,[vA,vB],0,true,[]⟩,[0,1]⟩],[⟨0,true,[]⟩,⟨0,true,[]⟩],2,1,2⟩],[]⟩
def aw2:mV:=⟨5,[⟨4::List.replicate 39 0,false⟩],[⟨true,1,[⟨⟨0,1,0,false,[vB],0,true,[]⟩,[1]⟩],[⟨0,false,[0]⟩,⟨0,true,[]⟩],1,1,2⟩],[]⟩
def aw3:mV:=⟨5,[⟨4::List.replicate 39 0,false⟩],[⟨true,1,[⟨⟨0,1,0,false,[],0,true,[]⟩,[]⟩],[⟨0,false,[0]⟩,⟨0,false,[4]⟩],0,1,2⟩],[]⟩
theorem Ya(μ:Mu):bJ μ 9 ([vA,vB].map Vb.row) abM:=by
 refine⟨fun e he=>?_,fun i e j c he hc=>?_⟩
 ·obtain⟨v,_,rfl⟩:=pw.1 he;rfl
 ·match i,he with
  |0,he=>
   cases he
   match j,hc with
   |0,hc|1,hc|2,hc|3,hc|4,hc|5,hc|7,hc|8,hc=>cases hc;exact⟨_,rfl,.v rfl⟩
   |6,hc=>cases hc;exact⟨_,rfl,gM⟩
  |1,he=>
   cases he
   match j,hc with
   |0,hc|1,hc|2,hc|3,hc|4,hc|5,hc|7,hc|8,hc=>cases hc;exact⟨_,rfl,.v rfl⟩
   |6,hc=>cases hc;exact⟨_,rfl,gM⟩
theorem fu.lay{t fb:Nat}{w0 W:World}{μ:Mu}{I:Ky->Option ag}{a:mV}(h:fu t w0 μ I fb a W){cur:Array Value}{T c sz:Nat}{xs:List (List AV)}(hs:cur.size=c*sz)(hl:xs.length=c)(hr:∀μ,bJ μ sz xs cur):
  ∃μ2 n,ak μ μ2/\fu t w0 μ2 I fb a (W.alloc (.cells cur T (0,0)))/\DR μ2 (.aq n sz xs) (.slice (some ⟨W.heap.size,0,none⟩) c c):=by
 obtain⟨μ',I',s',hm,hK,hR,ha,hf⟩:=h;subst hl;obtain⟨μ2,n,m2,bq,hd,_⟩:=(hK.rE (t,.tmp 0) (T:=T) hs (dk _) (hr μ')).Lz (k:=(t,.tmp 0)) (.inr ⟨_,_,rfl,af _ _ _⟩);exact⟨μ2,n,hm.trans m2,⟨μ2,_,s',ak.refl _,bq,hR.of fun k hk=>by rw[aK,ae _ _ (fun e=>hk 0 (OS e).2)],ha,fun k hk=>by rw[aK,ae _ _ (fun e=>hk (by rw[e]))];exact hf k hk⟩,hd⟩
theorem fu.mu{t fb:Nat}{w0 W:World}{μ μ2:Mu}{I:Ky->Option ag}{a:mV}(h:fu t w0 μ2 I fb a W)(hm:ak μ μ2):fu t w0 μ I fb a W:=by
 obtain⟨μ',I',s',m,r⟩:=h;exact⟨μ',I',s',hm.trans m,r⟩
theorem U5:∀u∈[vA,vB],u.Wf/\u.eT 1 5=0:=fun u hu=>by
 simp only[ft,dt,re]at hu;rcases hu with rfl|rfl
 ·exact⟨⟨fun _=>rfl,by decide⟩,by decide⟩
 ·exact⟨⟨fun _=>rfl,by decide⟩,by decide⟩
theorem aey{q:List Vb}(hq:q.length<=1024)(h:∀v r,q=v::r->0<(eD v.at_ v.cnt).length):(⟨0,1,0,false,q,0,true,[]⟩:Pr).Ok:=
 ⟨by simp,by simp,fun _=>rfl,hq,by simp,by simp,fun v r e _=>h v r e⟩
abbrev l1:th:=⟨⟨0,1,0,false,[vA,vB],0,true,[]⟩,[0,1]⟩
abbrev l2:th:=⟨⟨0,1,0,false,[vB],0,true,[]⟩,[1]⟩
abbrev m1:qm:=⟨List.replicate 40 0,false⟩
abbrev m2:qm:=⟨4::List.replicate 39 0,false⟩
abbrev x1:mU:=⟨true,1,[l1],[⟨0,true,[]⟩,⟨0,true,[]⟩],2,1,2⟩
abbrev x2:mU:=⟨true,1,[l2],[⟨0,false,[0]⟩,⟨0,true,[]⟩],1,1,2⟩
theorem Yb:{uf 1 1 5 1 with cl:=(uf 1 1 5 1).cl.set 0 ((Mr 0 1).post (uf 1 1 5 1).lines [vA,vB])}=aw1:=by kernel_rfl
theorem aez:{aw1 with nd:=aw1.nd.set 0 (l1.p.step m1).2.2.2,cl:=aw1.cl.set 0 (x1.lg 0 (l1.p.step m1) l1.pl)}=aw2:=by kernel_rfl
theorem aeA:{aw2 with nd:=aw2.nd.set 0 (l2.p.step m2).2.2.2,cl:=aw2.cl.set 0 (x2.lg 0 (l2.p.step m2) l2.pl)}=aw3:=by kernel_rfl
theorem Ko(w:World):Calls U' 8 #[] w fun e w'=>e=.returned (.bool true)/\ar [] w w':=by
 let K0:Ky->Option ag:=fun _=>none
 let L:mV->Nat->World->Prop:=fun a bf W=>fu 0 w (Go.Ev.hf w) K0 bf a W
 refine MO w (L (uf 1 1 5 1)) (L aw1) (L aw2) (L aw3) (ar [] w)
  (NY 0 (az.start w) 1 1 5 (by decide) (by decide) (by decide)) (fun bf W h=>?_) (fun bf W h=>?_) (fun bf W h=>?_) (fun bf W h=>?_) (fun bf W h=>?_)
 ·obtain⟨μ2,n,hm,h2,hd⟩:=h.lay (T:=71) (c:=2) (sz:=9) (cur:=abM) (xs:=[vA,vB].map Vb.row) rfl rfl Ya;refine(Ul (c:=0) (x:=Mr 0 1) (vs:=[vA,vB]) h2 rfl rfl rfl hd (by decide) U5 (by decide) rfl (by decide)).mono fun e w' he=>⟨he.1,?_⟩;have:=fu.mu he.2 hm;rwa [Yb]at this
 ·refine(Qu h (by decide) ⟨by decide,by decide,by decide⟩).mono fun e w' he=>?_;obtain⟨b,A,c,rfl,_,_,h2⟩:=he;exact⟨⟨A,c,rfl⟩,h2⟩
 ·have:=Mx (c:=0) (nd:=0) (x:=x1) (l:=l1) (n:=m1) h rfl rfl rfl (by decide) (aey (by decide) fun v r e=>by cases e;decide) (by decide) fun _=>⟨0,[1],rfl,by decide,by decide⟩;rwa [aez]at this
 ·have:=Mx (c:=0) (nd:=0) (x:=x2) (l:=l2) (n:=m2) h rfl rfl rfl (by decide) (aey (by decide) fun v r e=>by cases e;decide) (by decide) fun _=>⟨1,[],rfl,by decide,by decide⟩;rwa [aeA]at this
 ·refine(UR (c:=0) h rfl rfl (by decide) rfl).mono fun e w' he=>?_;obtain⟨A,cc,μ',n,rfl,hm,hd,hF⟩:=he;obtain⟨μ2,I2,s2,hm2,hK,_⟩:=hF;obtain⟨bb,oo,c',e,hcell⟩:=cU (W:=w') hd (hm2.trans hK.gj) (by decide) (by decide);injection e with e1 _ _;obtain⟨x1,q1,d1⟩:=hcell 0 1 _ _ rfl rfl;obtain⟨x3,q3,d3⟩:=hcell 1 1 _ _ rfl rfl;obtain⟨b1,o1,c1,rfl,_⟩:=cU (W:=w') d1 (hm2.trans hK.gj) (by decide) (by decide);obtain⟨b3,o3,c3,rfl,YQ⟩:=cU (W:=w') d3 (hm2.trans hK.gj) (by decide) (by decide);obtain⟨x,q4,d4⟩:=YQ 0 0 _ _ rfl rfl;rw[jq d4]at q4;subst e1;exact⟨bb,oo,cc,_,_,b3,o3,_,rfl,q1,q3,q4,hK.kept⟩
end
section
set_option maxRecDepth 100000
structure Ac where
 kd:Int
 cl:Int
 A:Int
 B:Int
 nn:Bool
 rs:List Rw
def Ac.row(a:Ac):List AV:=[Q' a.kd,Q' a.cl,Q' a.A,Q' a.B,.aq a.nn 6 (a.rs.map Rw.row)]
abbrev K0:Ky->Option ag:=fun _=>none
variable{w0 W:World}{μ:Mu}{fb rb k:Nat}
theorem JE.kept(h:JE w0 μ fb rb k W):ar [] w0 W:=by
 obtain⟨I,a,r,⟨μ',I',s,u,hm,hK,_⟩,_⟩:=h;exact hK.kept
theorem JE.bw{W':World}(h:JE w0 μ fb rb k W)(hk:ar [] W W'):JE w0 μ fb rb k W':=by
 obtain⟨I,hJ⟩:=h;exact⟨I,hJ.bw hk⟩
theorem aeB(h:fu 1 w0 μ K0 fb (uf 2 2 12 2) W):Calls U' 7 #[.int .i64 2,.int .i64 2,.int .i64 12] W fun e w'=> ∃rb:Nat,e=.returned (.pointer (some ⟨rb,0,none⟩))/\JE w0 μ fb rb 0 w':=by
 obtain⟨μ',I',s,hm,hK,hR,ha,hf⟩:=h;refine(XJ (t:=2) hK (n:=2) (m:=2) (lines:=12) (by omega) (by omega) (by omega)).mono fun e w' he=>?_;obtain⟨rb,rfl,μ2,I2,u,m2,bq,hQ,hD,hu,IL⟩:=he;exact⟨rb,rfl,K0,uf 2 2 12 2,gP.new 2 2 12,⟨μ2,I2,s,u,hm.trans m2,bq,hR.of fun k _=>IL (1,k) (by simp),ha,hQ,hD,hu,fun k k1 k2=>(IL k k2).trans (hf k k1)⟩,kU.new,dk _⟩
def lenOf(ac:List Ac)(i:Nat):Nat:=match ac[i]? with|some a=>a.rs.length|none=>0
theorem U6(w:World){ac:List Ac}{A0:Option Addr}{vc:Nat}(hd:DR (Go.Ev.hf w) (.aq n 5 (ac.map Ac.row)) (.slice A0 ac.length vc)):
  Calls U' 3 #[.slice A0 ac.length vc] w fun e w'=>e=.returned (.bool true)/\ar [] w w':=by
 have h6:=NY (w0:=w) (W:=w) (μ:=Go.Ev.hf w) (I:=K0) 1 (az.start w) 2 2 12 (by decide) (by decide) (by decide);by_cases h0:ac=[]
 ·subst h0;exact MN A0 vc w (ar [] w) (fun fb W=>fu 1 w (Go.Ev.hf w) K0 fb (uf 2 2 12 2) W) (fun fb rb W=>JE w (Go.Ev.hf w) fb rb 0 W) h6 (fun fb W h=>aeB h) fun fb rb W h=>(Ko W).mono fun e w' he=>⟨he.1,(h.bw he.2).kept⟩
 have hne:ac.map Ac.row≠[]:=by simpa using h0
 obtain⟨vb,vo,c',e,_⟩:=cU (W:=w) hd (ak.refl _) (by omega) hne;injection e with e1 e2 e3;subst e1;have hcs:∀W,ar [] w W->∀(i:Nat) (a:Ac),ac[i]?=some a->W.cell? ⟨vb,vo+i*5,none⟩=some (.int .i64 a.kd)/\W.cell? ⟨vb,vo+i*5+1,none⟩=some (.int .i64 a.cl)/\W.cell? ⟨vb,vo+i*5+2,none⟩=some (.int .i64 a.A)/\W.cell? ⟨vb,vo+i*5+3,none⟩=some (.int .i64 a.B)/\
   ∃L,W.cell? ⟨vb,vo+i*5+4,none⟩=some L/\DR (Go.Ev.hf w) (.aq a.nn 6 (a.rs.map Rw.row)) L:=fun W hk i a ha=>by
  obtain⟨ob',oo',oc2,e',hcell⟩:=cU (W:=W) hd hk.hf (by omega) hne;injection e' with e1' _ _;injection e1' with e1';injection e1' with e4 e5;subst e4 e5;obtain⟨x0,q0,d0⟩:=hcell i 0 a.row (Q' a.kd) (get_map ha) rfl;obtain⟨x1,q1,d1⟩:=hcell i 1 a.row (Q' a.cl) (get_map ha) rfl;obtain⟨x2,q2,d2⟩:=hcell i 2 a.row (Q' a.A) (get_map ha) rfl;obtain⟨x3,q3,d3⟩:=hcell i 3 a.row (Q' a.B) (get_map ha) rfl;obtain⟨x4,q4,d4⟩:=hcell i 4 a.row (.aq a.nn 6 (a.rs.map Rw.row)) (get_map ha) rfl;rw[jq d0]at q0;rw[jq d1]at q1;rw[jq d2]at q2;rw[jq d3]at q3;exact⟨q0,q1,q2,q3,x4,q4,d4⟩
 by_cases hm:ac.length<=50
 ·have h5:=MM vb vo ac.length vc (lenOf ac) w hm fun i hi=>by
   obtain⟨a,ha⟩:∃a,ac[i]?=some a:=⟨_,ao hi⟩;obtain⟨_,_,_,_,L,q,d⟩:=hcs w (ar.refl _ _) i a ha;obtain⟨A,c,rfl,_⟩:=eZ d;rw[ab]at q;have:lenOf ac i=a.rs.length:=by unfold lenOf;rw[ha]
   rw[this];exact⟨A,c,q⟩
  by_cases hlt:∀i,i<ac.length->lenOf ac i<=8
  ·refine um vb vo ac.length vc w false (ar [] w) (fun fb W=>fu 1 w (Go.Ev.hf w) K0 fb (uf 2 2 12 2) W) (fun fb rb W=>JE w (Go.Ev.hf w) fb rb 0 W) (fun fb rb i W=>JE w (Go.Ev.hf w) fb rb (2*i) W) (h5.mono fun e w' he=>?_) (fun _=>ar.refl _ _) (fun _=>h6) (fun fb W h=>aeB h)
    (fun fb rb W h=>(Ko W).mono fun e w' he=>⟨he.1,h.bw he.2⟩) (fun fb rb i W hi hJ=>?_) (fun fb rb W h=>h.kept) (fun _=>hm)
   ·obtain⟨rfl,b,rfl,hbb⟩:=he;exact⟨by rw[hbb.2 hlt],rfl⟩
   ·obtain⟨a,ha⟩:∃a,ac[i]?=some a:=⟨_,ao hi⟩;obtain⟨q0,q1,q2,q3,L,q4,hdL⟩:=hcs W hJ.kept i a ha;have hl8:=hlt i hi;have hla:lenOf ac i=a.rs.length:=by unfold lenOf;rw[ha]
    obtain⟨I,hJI⟩:=hJ;refine⟨a.kd,a.cl,a.A,a.B,L,q0,q1,q2,q3,q4,(agD hJI (by omega) a.kd a.cl a.A a.B hdL (by omega)).mono fun e w' he=>⟨he.1,?_⟩⟩;obtain⟨I2,qB⟩:=he.2;exact(abE qB (by omega)).mono fun e w2 he2=>⟨he2.1,I2,he2.2⟩
  ·refine um vb vo ac.length vc w true (ar [] w) (fun _ _=>False) (fun _ _ _=>False) (fun _ _ _ _=>False) (h5.mono fun e w' he=>?_) (fun _=>ar.refl _ _) (fun e=>by cases e) (fun _ _ h=>h.elim) (fun _ _ _ h=>h.elim) (fun _ _ _ _ _ h=>h.elim) (fun _ _ _ h=>h.elim) (fun e=>by cases e);obtain⟨rfl,b,rfl,hbb⟩:=he;refine⟨?_,rfl⟩;cases b with
   |true=>rfl
   |false=>exact absurd (hbb.1 rfl) hlt
 ·refine um vb vo ac.length vc w true (ar [] w) (fun _ _=>False) (fun _ _ _=>False) (fun _ _ _ _=>False) (QV _ _ _ w (by omega)) (fun _=>ar.refl _ _) (fun e=>by cases e) (fun _ _ h=>h.elim) (fun _ _ _ h=>h.elim) (fun _ _ _ _ _ h=>h.elim) (fun _ _ _ h=>h.elim) (fun e=>by cases e)
end
end Go.Proofs.YtnjccbnlmdajkaaGreat
namespace Go.Proofs.YtnjccbnlmdajkaaGreat
open Go.Proofs.Tryz renaming prog->U'
open Go.Ev
set_option maxRecDepth 100000
set_option maxHeartbeats 0
theorem U7{N n:Nat}{c:List AV}(h:fT U' N (n+2) 127 c):∃(U8:Int) (U9:Int) (Va:Int) (Vc:Int) (Q9:Int) (x_5:Int),c=[Q' U8,Q' U9,Q' Va,Q' Vc,Z' Q9,Z' x_5]/\((-9223372036854775808)<=U8/\U8<=9223372036854775807)/\((-9223372036854775808)<=U9/\U9<=9223372036854775807)/\((-9223372036854775808)<=Va/\Va<=9223372036854775807)/\((-9223372036854775808)<=Vc/\Vc<=9223372036854775807)/\(0<=Q9/\Q9<=18446744073709551615)/\(0<=x_5/\x_5<=18446744073709551615):=by
 have lx:=Nv (ts:=[3,3,3,3,69,69]) (by kernel_rfl) h;obtain⟨_,_,rfl,abN,lx⟩:=lx;obtain⟨_,_,rfl,abO,lx⟩:=lx;obtain⟨_,_,rfl,abP,lx⟩:=lx;obtain⟨_,_,rfl,abQ,lx⟩:=lx;obtain⟨_,_,rfl,abR,lx⟩:=lx;obtain⟨_,_,rfl,agF,lx⟩:=lx;cases lx;obtain⟨U8,rfl,abS⟩:=gT (k:=IntKind.i64) (by kernel_rfl) abN;obtain⟨U9,rfl,abT⟩:=gT (k:=IntKind.i64) (by kernel_rfl) abO;obtain⟨Va,rfl,abU⟩:=gT (k:=IntKind.i64) (by kernel_rfl) abP;obtain⟨Vc,rfl,abV⟩:=gT (k:=IntKind.i64) (by kernel_rfl) abQ;obtain⟨Q9,rfl,abW⟩:=gT (k:=IntKind.u64) (by kernel_rfl) abR;obtain⟨x_5,rfl,agG⟩:=gT (k:=IntKind.u64) (by kernel_rfl) agF;exact⟨U8,U9,Va,Vc,Q9,x_5,rfl,(nE abS),(nE abT),(nE abU),(nE abV),(Nw abW),(Nw agG)⟩
theorem Yc{N n:Nat}{c:List AV}(h:fT U' N (n+2) 34 c):∃(U8:Int) (U9:Int) (Va:Int) (Vc:Int) (Yd:Bool) (Q9:List (List AV)),c=[Q' U8,Q' U9,Q' Va,Q' Vc,.aq Yd 6 Q9]/\((-9223372036854775808)<=U8/\U8<=9223372036854775807)/\((-9223372036854775808)<=U9/\U9<=9223372036854775807)/\((-9223372036854775808)<=Va/\Va<=9223372036854775807)/\((-9223372036854775808)<=Vc/\Vc<=9223372036854775807)/\((Yd=true->Q9=[])/\Q9.length<=N/\∀y∈Q9,fT U' N n 127 y):=by
 have lx:=Nv (ts:=[3,3,3,3,32]) (by kernel_rfl) h;obtain⟨_,_,rfl,abN,lx⟩:=lx;obtain⟨_,_,rfl,abO,lx⟩:=lx;obtain⟨_,_,rfl,abP,lx⟩:=lx;obtain⟨_,_,rfl,abQ,lx⟩:=lx;obtain⟨_,_,rfl,abR,lx⟩:=lx;cases lx;obtain⟨U8,rfl,abS⟩:=gT (k:=IntKind.i64) (by kernel_rfl) abN;obtain⟨U9,rfl,abT⟩:=gT (k:=IntKind.i64) (by kernel_rfl) abO;obtain⟨Va,rfl,abU⟩:=gT (k:=IntKind.i64) (by kernel_rfl) abP;obtain⟨Vc,rfl,abV⟩:=gT (k:=IntKind.i64) (by kernel_rfl) abQ;obtain⟨Yd,Q9,rfl,abW⟩:=BI (e:=127) (by kernel_rfl) abR;exact⟨U8,U9,Va,Vc,Yd,Q9,rfl,(nE abS),(nE abT),(nE abU),(nE abV),abW⟩
theorem Ye{N n:Nat}{c:List AV}(h:fT U' N (n+1) 22 c):∃(xn:Bool) (x:List (List AV)),c=[.aq xn 5 x]/\((xn=true->x=[])/\x.length<=N/\∀y∈x,fT U' N n 34 y):=by
 obtain⟨xn,x,rfl,fx⟩:=BI (e:=34) (by kernel_rfl) h;exact⟨xn,x,rfl,fx⟩
theorem Yf{N:Nat}{a:AV}(h:aaj U' N 22 a):∃(xn:Bool) (x:List (List AV)),a=.aq xn 5 x/\((xn=true->x=[])/\x.length<=N/\∀y∈x,fT U' N 11 34 y):=by
 obtain⟨c,h1,rfl⟩:=h;obtain⟨xn,x,rfl,hx⟩:=Ye (n:=11) h1;exact⟨xn,x,by rw[show eO U' 22=false by kernel_rfl];rfl,hx⟩
end Go.Proofs.YtnjccbnlmdajkaaGreat
namespace Go.Proofs.YtnjccbnlmdajkaaGreat
open Go.Proofs.Tryz renaming prog->U'
open Go.RowKit Go.Shelf Go.Lib Go.Ev
set_option maxRecDepth 100000
def rwB:List AV->Bool
 |[.v (.int .i64 _),.v (.int .i64 _),.v (.int .i64 _),.v (.int .i64 _),.v (.int .u64 _),.v (.int .u64 _)]=>true
 |_=>false
theorem Yg{e:List AV}(h:rwB e=true):∃r:Rw,e=r.row:=by
 unfold rwB at h;split at h
 ·rename_i a b c d e f;exact⟨⟨a,b,c,d,e,f⟩,rfl⟩
 ·cases h
theorem Ot:∀l:List (List AV),l.all rwB=true->∃rs:List Rw,l=rs.map Rw.row
 |[],_=>⟨[],rfl⟩
 |e::l,h=>by
  rw[Ix,dd]at h;obtain⟨r,rfl⟩:=Yg h.1;obtain⟨rs,rfl⟩:=Ot l h.2;exact⟨r::rs,rfl⟩
def acB:List AV->Bool
 |[.v (.int .i64 _),.v (.int .i64 _),.v (.int .i64 _),.v (.int .i64 _),.aq _ 6 X]=>X.all rwB
 |_=>false
theorem Yh{e:List AV}(h:acB e=true):∃r:Ac,e=r.row:=by
 unfold acB at h;split at h
 ·rename_i a b c d n X;obtain⟨rs,rfl⟩:=Ot X h;exact⟨⟨a,b,c,d,n,rs⟩,rfl⟩
 ·cases h
theorem Ou:∀l:List (List AV),l.all acB=true->∃rs:List Ac,l=rs.map Ac.row
 |[],_=>⟨[],rfl⟩
 |e::l,h=>by
  rw[Ix,dd]at h;obtain⟨r,rfl⟩:=Yh h.1;obtain⟨rs,rfl⟩:=Ou l h.2;exact⟨r::rs,rfl⟩
theorem abX{N n:Nat}{y:List AV}(hy:fT U' N (n+2) 127 y):rwB y=true:=by
 obtain⟨x0,x1,x2,x3,x4,x5,rfl,h⟩:=U7 (n:=n) hy;rfl
theorem abY{N:Nat}{y:List AV}(hy:fT U' N 11 34 y):acB y=true:=by
 obtain⟨x0,x1,x2,x3,n4,x4,rfl,_,_,_,_,_,_,h⟩:=Yc (n:=9) hy;exact ka.2 fun e he=>abX (n:=7) (h e he)
def plG:List AV->Option (List AV)
 |[.aq _ 5 X]=>cond (X.all acB) (some [.v (.bool true)]) none
 |_=>none
theorem Yi:acy U' 3 plG:=by
 intro bs rs h;refine⟨Tryz.f3,Tryz.func3,fun w μ F G vals oT hb hnd=>?_⟩;unfold plG at h;split at h
 ·rename_i nx X;obtain⟨hc,h⟩:=ah h;obtain rfl:=ss h;obtain⟨o1,rfl⟩:=Ou _ hc;obtain⟨F1,F2,G1,G2,va,vs,rfl,rfl,rfl,b1,b2⟩:=Jf hb;obtain⟨rfl,rfl,rfl⟩:=Go.Ev.Wk b2;obtain⟨rfl,rfl,hd1⟩:=aan b1;obtain⟨A1,c1,rfl,_⟩:=eZ hd1;rw[ab]at hd1;have hsz:(1:Nat)=Tryz.f3.resultTypes.size:=by kernel_rfl
  rw[ab];have key:Calls U' 3 #[.slice A1 o1.length c1] w fun e w'=>e=.returned (.bool true)/\ar [] w w':=U6 w (hd1.mono oT);refine key.mono fun e w' he=>?_;obtain⟨rfl,hk⟩:=he;exact⟨[.v (.bool true)],[],[.bool true],μ,[],[],[],rfl,hsz,rfl,⟨hk.os,hk.tape,hk.output,hk.size,fun b hb _=>hk.keep b hb dt,ak.refl μ,fun _ _ h=>.inl h⟩,
   fun b o hbo=>hk.get (oT b o hbo) dt,.cons (F:=[]) (F':=[]) (G:=[]) (G':=[]) (.o (.c (.d (.v rfl)))) .nil,.nil,by simp,fun b hb=>by simp at hb⟩
 ·cases h
def abZ:FuncId->Option (List AV->Option (List AV))
 |3=>some plG
 |_=>none
def Yj:gD:={rw:=fun _=>[],dat:=fun _=>false,inl:=fun _=>false,roll:=fun _=>8,join:=fun _=>false,ext:=abZ}
theorem ab0:nX U' Yj:=by
 refine⟨fun f bs rs e=>?_,wY fun _=>rfl⟩;by_cases h9:f=3
 ·subst h9;exact Yi bs rs e
 ·have hf:Yj.ext f=none:=by
   show abZ f=none;unfold abZ;split
   ·exact absurd rfl h9
   ·rfl
  simp only[fC,hf]at e;cases e
theorem zu{N:Nat}(l:List AV)(h:Sm U' N Tryz.f3.params.toList l):∃n,uF U' Yj n 3 l=some [.v (.bool true)]:=by
 rw[show Tryz.f3.params.toList=[22] by kernel_rfl]at h;obtain⟨a0,r,rfl,h0,h⟩:=h;obtain rfl:r=[]:=h;obtain⟨f0,x0,rfl,_,_,g0⟩:=Yf h0;refine⟨1,?_⟩;have e0:x0.all acB=true:=ka.2 fun e he=>abY (g0 e he);show cond (x0.all acB) _ _=_;rw[e0];rfl
