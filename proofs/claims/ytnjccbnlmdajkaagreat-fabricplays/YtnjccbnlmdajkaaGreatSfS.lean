/- SameFabric: what it answers. -/
import Derived.Test.YtnjccbnlmdajkaaGreatTab2
import Derived.Test.YtnjccbnlmdajkaaGreatSfW
import Derived.Test.YtnjccbnlmdajkaaGreatFbO
import Derived.BigQuiet
import Derived.Test.YtnjccbnlmdajkaaGreatRv
import Derived.Test.YtnjccbnlmdajkaaGreatRkD
import Derived.Test.YtnjccbnlmdajkaaGreatVrbW
set_option linter.all false
namespace Go.Proofs.YtnjccbnlmdajkaaGreat
open Go.Proofs.Tryz renaming prog->U'
open Go.RowKit Go.Shelf Go.Lib Go.Ev
set_option maxRecDepth 100000
section
variable{w0 W:World}{μ:Mu}{I:Ky->Option ag}{fb rb k:Nat}{s:gN}{u:gm}
theorem QR(hK:az w0 μ I W)(hR:ji 1 I fb s)(hQ:eM 2 I rb u){i:Nat}{n:ur}{rn:qE}(hn:s.nd[i]?=some n)(Jz:u.nd[i]?=some rn)(Vw:rn.a=n.a)(hw:n.a.ws.length=96){kE m nc:Nat}(lk:u.nv=.slice (some ⟨kE,0,none⟩) m nc):
  Calls U' 46 #[.pointer (some ⟨n.b,0,none⟩),.pointer (some ⟨kE,i*2,none⟩)] W fun e w'=>e=.returned (.bool true)/\az w0 μ I w':=by
 obtain⟨F,hIn⟩:=hR.dG i n hn;obtain⟨ahf,nc',Ce,hIr⟩:=Row.at hQ.gO Jz;rw[lk]at Ce;cases Ce;have hd1:DR (Go.Ev.hf W) (YS n.a.ws n.a.dn) (ptr n.b):=B1.Ab hK.gj (hK.ok _ _ hIn);obtain⟨wb,cw,Q4,PX⟩:=wh (hQ.dG i rn Jz) (i:=0) (by rw[Vw];omega);obtain⟨_,_,_,_,_,_,k5,_⟩:=hK.row PX;rw[ab]at k5;have q0:=hK.aL hIr (get_map Jz) (j:=0) rfl;have q1:=hK.aL hIr (get_map Jz) (j:=1) rfl;have qw:DR (Go.Ev.hf W) (.aq false 1 (n.a.ws.map wr)) rn.wv:=by
  rw[Q4,show rn.a.ws.length=(n.a.ws.map wr).length by rw[Vw,ab]];refine .aq (fun k _=>.int .u64 (n.a.ws.getD k 0)) rfl (fun e=>by cases e) (by grind) (fun e he=>by obtain⟨x,_,rfl⟩:=pw.1 he;rfl) (fun a ha k j hk hj=>?_) fun k e j x he hx=>?_
  ·cases ha;obtain rfl:j=0:=by omega
   rw[ab]at hk;have hg:rn.a.ws[k]?=some (n.a.ws.getD k 0):=by grind
   have:=hK.aL PX (get_map hg) (j:=0) rfl;rw[vp,gv];exact this
  ·rw[et]at he;cases hg:n.a.ws[k]? with
   |none=>rw[hg]at he;cases he
   |some y=>
    rw[hg]at he;cases he;cases j with
    |zero=>cases hx;show DR _ _ (.int .u64 (n.a.ws.getD k 0));rw[kc,hg];exact .v rfl
    |succ j=>cases hx
 have hd3:DR (Go.Ev.hf W) (.ep [.aq false 1 (n.a.ws.map wr),.v (.bool (!n.a.dn))] 0) (.pointer (some ⟨kE,i*2,none⟩)):=by
  refine .ep (o:=i*2) (fun j=>if j=0 then rn.wv else .bool (!n.a.dn)) (fun j hj=>?_) fun j x hx=>?_
  ·match j,hj with
   |0,_=>exact q0
   |1,_=>show W.cell? ⟨kE,i*2+1,none⟩=some (.bool (!n.a.dn));rw[<-Vw];exact q1
  ·match j with
   |0=>cases hx;exact qw
   |1=>cases hx;exact .v rfl
   |j+2=>cases hx
 refine(hK.Ab mix B.jx (B.CL false n.a.ws n.a.dn (by omega)) UW (vals:=[ptr n.b,.pointer (some ⟨kE,i*2,none⟩)]) (.cons (F:=[]) (F':=[]) (G:=[]) (G':=[]) (.o (.c (.d hd1))) (.cons (F:=[]) (F':=[]) (G:=[]) (G':=[]) (.o (.c (.d hd3))) .nil))).mono fun e w' he=>?_;obtain⟨vs,μ2,F1,G1,rfl,bq,_,_,hb,_⟩:=he;obtain⟨rfl,_⟩:= @dM _ _ [] [] [.bool true] _ _ _ hb;exact⟨rfl,bq⟩
def UY(s:gN)(i:Nat):Nat:=match s.nd[i]? with|some n=>n.b|none=>0
def UZ(a:mV)(c:Nat):Int:=match a.cl[c]? with|some x=>x.tr|none=>0
def U0(a:mV)(c:Nat):Int:=match a.cl[c]? with|some x=>x.po|none=>0
theorem abE(h:JS w0 μ I fb rb k W)(hk:k<=1000):Calls U' 10 #[ptr fb,ptr rb] W fun e w'=>e=.returned (.bool true)/\JS w0 μ I fb rb k w':=by
 obtain⟨a,r,hB,hS,ho⟩:=h;obtain⟨μ',I',s,u,hm,hK0,hR,rfl,hQ,hD,rfl,hf⟩:=hB;obtain⟨q1,q2,q3⟩:=ez hS rfl;have hl1:s.nd.length=2:=nL hS.n2;have wF:s.cl.length=2:=nL hS.c2;have ea2:=hS.c2;obtain⟨kE,nc,lk,_⟩:=wh hQ.gO (i:=0) (by omega);obtain⟨js,cc,fI,lz⟩:=wh hQ.cls (i:=0) (by omega);rw[q3]at lk;rw[q1]at fI;have e0:u.lines=12:=hS.lr;have eL:s.a.lines=12:=hS.la;have FS:∀{w:World},az w0 μ' I' w->fu 1 w0 μ' I' fb s.a w:=fun hK=>⟨μ',I',s,ak.refl _,hK,hR,rfl,fun _ _=>rfl⟩;have cR2:∀{w:World},az w0 μ' I' w->w.cell? ⟨rb,2,none⟩=some (.slice (some ⟨js,0,none⟩) 2 cc):=fun hK=>by rw[<-fI];exact hQ.c2 hK
 refine X3 fb rb kE nc js cc (UY s) (UZ s.a) (U0 s.a) W (fun w=>az w0 μ' I' w) (JS w0 μ I fb rb k) hK0 (fun w n hK=>hK.bw (bY w n)) (fun w hK=>?_) (fun w hK=>?_) (fun w hK=>?_) (fun w hK=>?_) fun w n hJ=>hJ.bw (bY w n)
 ·obtain⟨NA,CA,OA,n1,c1,o1,p0,p1,p2,p3⟩:=(FS hK).cells;rw[eL]at p0;rw[hS.n2]at p1;rw[hS.c2]at p2;exact⟨by rw[<-e0];exact hQ.c0 hK,by rw[<-lk];exact hQ.c1 hK,cR2 hK,MG fb 2 n1 NA w p1,Gt fb 2 c1 CA w p2,MH fb 12 w p0⟩
 ·refine⟨fun i hi=>?_,fun i hi=>?_⟩
  ·have hn:s.nd[i]?=some s.nd[i]:=ao (by omega);obtain⟨bn,cn,e,_,hp⟩:=hR.PN hK hn;have h1:=hR.c1 hK;rw[e]at h1;have enb:UY s i=(s.nd[i]).b:=by unfold UY;rw[hn]
   rw[enb];grind [EB]
  ·have hn:s.nd[i]?=some s.nd[i]:=ao (by omega);have Jz:u.nd[i]?=some u.nd[i]:=ao (by omega);have enb:UY s i=(s.nd[i]).b:=by unfold UY;rw[hn]
   rw[enb];have g1:s.a.nd[i]?=some (s.nd[i]).a:=get_map hn;have g2:u.a.nd[i]?=some (u.nd[i]).a:=get_map Jz;rw[hS.nd,g2]at g1;have:=hS.nw (s.nd[i]).a (by have:s.a.nd[i]?=some (s.nd[i]).a:=get_map hn;grind);grind [QR,Option.some.inj]
 ·have inn:∀c:Nat,c<2->∃(x:mU) (y:lP),s.a.cl[c]?=some x/\u.cl[c]?=some y/\x.al=y.a.al/\x.inc=y.a.inc/\x.tr=y.a.tr/\x.po=y.a.po/\x.wt=(y.a.wait:Nat)/\(y.a.on=true->y.a.hv≠[])/\y.a.hv.length<=8/\aaK w js c y:=fun c hc=>by
   obtain⟨x,y,l,hx,hy,hl,hs⟩:=hS.get hc;obtain⟨yc,hyc,rfl⟩:=bF hy;refine⟨x,yc,hx,hyc,hs.al,hs.inc,hs.tr,hs.po,hs.wait.symm,fun nH=>?_,by have:=hs.hd;have:=hs.h8;omega,xx hK lz hyc⟩;intro e;have:=hs.hd;rw[e]at this;exact hs.onT.1 nH (dy this.symm)
  have cF:=(FS hK).cells;obtain⟨NA,CA,OA,n1,c1,o1,_,_,p2,_⟩:=cF;refine⟨fun c=>?_,fun c=>?_,fun c=>?_,fun c hc=>?_,fun c hc=>?_,fun c hc=>?_,fun c hc=>?_⟩
  ·rcases Vu c with⟨n,rfl,hn⟩|hc
   ·obtain⟨x,y,hx,hy,g1,_,_,_,_,_,_,hat⟩:=inn n hn;refine⟨x.al,N6 (FS hK) hx,?_⟩;rw[g1];exact Et rb n _ w (dX rb js n 2 cc _ w (cR2 hK) hn hat.al)
   ·exact⟨false,Em fb _ c CA c1 w (by omega) p2,Et rb c _ w (Cj rb js 2 cc c w (cR2 hK) (by omega))⟩
  ·rcases Vu c with⟨n,rfl,hn⟩|hc
   ·obtain⟨x,y,hx,hy,_,g1,_,_,_,_,_,hat⟩:=inn n hn;refine⟨x.inc,ad2 (FS hK) hx,?_⟩;rw[g1];exact W7 rb js n 2 cc _ w (cR2 hK) hn hat.inc
   ·exact⟨0,XK fb c w (uh (FS hK) ea2 hc),TH rb js 2 cc c w (cR2 hK) (by omega)⟩
  ·rcases Vu c with⟨n,rfl,hn⟩|hc
   ·obtain⟨x,y,hx,hy,_,_,_,_,g1,g2,g3,hat⟩:=inn n hn;refine⟨x.wt,Qv (FS hK) hx,?_⟩;grind [Cz]
   ·exact⟨0,Kh fb c w (uh (FS hK) ea2 hc),P4 rb js 2 cc c w (cR2 hK) (by omega)⟩
  ·obtain⟨x,y,hx,_⟩:=inn c hc;have:UZ s.a c=x.tr:=by unfold UZ;rw[hx]
   grind [Xy]
  ·obtain⟨x,y,hx,hy,_,_,g1,_,_,_,_,hat⟩:=inn c hc;have:UZ s.a c=x.tr:=by unfold UZ;rw[hx]
   rw[this,g1];exact hat.tr
  ·obtain⟨x,y,hx,_⟩:=inn c hc;have:U0 s.a c=x.po:=by unfold U0;rw[hx]
   grind [Um]
  ·obtain⟨x,y,hx,hy,_,_,_,g1,_,_,_,hat⟩:=inn c hc;have:U0 s.a c=x.po:=by unfold U0;rw[hx]
   rw[this,g1];exact hat.po
 ·have hxl:∀x∈s.cl,x.ln.length<=2:=fun x hx=>by
   obtain⟨c,hc,rfl⟩:=D0.1 hx;obtain⟨x',y,l,hx',hy,hl,hs⟩:=hS.get (c:=c) (by omega);have:s.a.cl[c]?=some (s.cl[c]).a:=get_map (ao hc);rw[this]at hx';cases hx';rw[show(s.cl[c]).ln.length=(s.cl[c]).a.ln.length from(ab ..).symm];cases hal:y.al with
   |true=>rw[hs.xl hal];exact dk _
   |false=>rw[(hs.dead hal).1];exact nt _
  have hul:∀x∈u.ln,x.ps.length<=2:=fun x hx=>by
   obtain⟨c,hc,rfl⟩:=D0.1 hx;obtain⟨x',y,l,hx',hy,hl,hs⟩:=hS.get (c:=c) (by omega);have:u.a.ln[c]?=some (u.ln[c]).a:=get_map (ao hc);rw[this]at hl;cases hl;rw[show(u.ln[c]).ps.length=(u.ln[c]).a.length from(ab ..).symm,hs.ll];exact dk _
  have eo:s.os.length=s.a.os.length:=(ab ..).symm;have eu:u.os.length=u.a.os.length:=(ab ..).symm;have eou:=hS.on;have hch:=hS.oL;have hcl:s.a.oL.length<=100000:=by
   unfold mV.oL;rw[ec];have h1:=wj (cl:=s.a.cl) (B:=2) (fun x hx=>by
    obtain⟨xc,gp,rfl⟩:=pw.1 hx;rw[show xc.a.ln.length=xc.ln.length from ab ..];exact hxl xc gp) s.a.cl.length
   grind [zT]
  refine(Cy hK hR (by omega) ⟨by omega,fun x hx=>by have:=hxl x hx;omega,by omega⟩).mono fun e w1 he=>?_;obtain⟨v,rfl,I2,bq,hrow,kJ⟩:=he;obtain⟨A,cA,ev,_⟩:=hrow.val;rw[ab]at ev;refine⟨A,s.a.oL.length,cA,by rw[ev],hcl,?_⟩;have hQ2:eM 2 I2 rb u:=hQ.of fun kk _=>kJ _ (by simp);refine(yO bq hQ2 hD (by omega) ⟨by omega,fun x hx=>by have:=hul x hx;omega,by omega⟩).mono fun e w2 he=>?_;obtain⟨v2,rfl,I3,du,Kn,qC⟩:=he;obtain⟨B,cB,ev2,_⟩:=Kn.val;rw[ab,<-hch]at ev2;have hJS:JS w0 μ I fb rb k w2:=⟨s.a,u.a,⟨μ',I3,s,u,hm,du,hR.of fun kk hk=>(qC _ (by simp)).trans (kJ _ (aa (hk 9))),rfl,hQ.of fun kk hk=>(qC _ (aa (hk 9))).trans (kJ _ (by simp)),hD,rfl,fun kk k1 k2=>(qC kk fun e=>k2 (by rw[e])).trans ((kJ kk fun e=>k1 (by rw[e])).trans (hf kk k1 k2))⟩,hS,ho⟩;by_cases hz:s.a.oL.length=0
  ·simp_all
  ·obtain⟨p,pc,ep,zm⟩:=hrow.ne (fun e=>hz (by simp_all));obtain⟨q,qc,eq,hIq⟩:=Kn.ne (fun e=>hz (by grind));rw[ev]at ep;rw[ev2]at eq;injection ep with ep _ _;injection eq with eq _ _;refine⟨B,cB,p,q,by rw[ev2],hJS,fun _=>⟨ep,eq⟩,fun j hj=>?_⟩;obtain⟨ch,hcj⟩:∃ch,s.a.oL[j]?=some ch:=⟨_,ao hj⟩;have abF:u.a.oL[j]?=some ch:=by rw[<-hch];exact hcj
   have abG:=(qC (1,.tmp 9) (by simp)).trans zm;exact⟨ch.1,ch.2.1,ch.2.2,du.aL abG (get_map hcj) (j:=0) rfl,du.aL abG (get_map hcj) rfl,du.aL abG (get_map hcj) rfl,du.aL hIq (get_map abF) (j:=0) rfl,du.aL hIq (get_map abF) rfl,du.aL hIq (get_map abF) rfl⟩
end
section
attribute [local go_sem] Oper.semAt_some
attribute [local go_sem] eU dm dq eV
structure Q8(n0 rb js cc:Nat)(kd cl A B:Int)(L:Value)(w:World):Prop where
 b0:w.cell? ⟨n0,0,none⟩=some (.int .i64 kd)
 b1:w.cell? ⟨n0,1,none⟩=some (.int .i64 cl)
 b2:w.cell? ⟨n0,2,none⟩=some (.int .i64 A)
 b3:w.cell? ⟨n0,3,none⟩=some (.int .i64 B)
 b4:w.cell? ⟨n0,4,none⟩=some L
 r2:w.cell? ⟨rb,2,none⟩=some (.slice (some ⟨js,0,none⟩) 2 cc)
abbrev zt(kd cl A B:Int)(L:Value):Obj:=.cells #[.int .i64 kd,.int .i64 cl,.int .i64 A,.int .i64 B,L] 34
abbrev xJ(kd cl A B:Int)(L:Value):Value:=.agg #[.int .i64 kd,.int .i64 cl,.int .i64 A,.int .i64 B,L]
def abH(f g:FuncId)(xs ys:Array Value)(K:World->Prop)(w:World):Prop:=Calls U' f xs w fun e w'=> ∃z:Int,e=.returned (.int .i64 z)/\Calls U' g ys w' fun e' w2=>e'=.returned (.int .i64 z)/\K w2
def abI(f g:FuncId)(xs ys:Array Value)(K:World->Prop)(w:World):Prop:=Calls U' f xs w fun e w'=> ∃z:Bool,e=.returned (.bool z)/\Calls U' g ys w' fun e' w2=>e'=.returned (.bool z)/\K w2
theorem QS(cl:Int):wrap64 (pick cl 4-1)=pick cl 4-1:=by
 have:=dC (n:=cl) (m:=4) (by omega);rw[mZ,aD];omega
set_option maxHeartbeats 4000000 in
set_option maxRecDepth 1000000 in
theorem X4(fb rb js cc:Nat)(kd cl A B:Int)(L:Value)(W w1:World)(K:World->Prop)(e1:W.alloc (zt kd cl A B L)=w1)(hC:Q8 W.heap.size rb js cc kd cl A B L w1)(hk:pick kd 19<4)
  (hv:∀n,Calls U' 25 #[L] (w1.drewN n) fun e w'=> ∃V,e=.returned V/\abH 20 26 #[.pointer (some ⟨fb,0,none⟩),.int .i64 (pick cl 4-1),V] #[.pointer (some ⟨rb,0,none⟩),.int .i64 (pick cl 4-1),V] K w'):
  Calls U' 9 #[.pointer (some ⟨fb,0,none⟩),.pointer (some ⟨rb,0,none⟩),xJ kd cl A B L] W fun e w'=>e=.returned (.bool true)/\K w':=by
 have mixed:U'.follows .mixedOrders=true:=by kernel_rfl
 obtain⟨b0,b1,b2,b3,b4,r2⟩:=hC;have U1:=QS cl;have p4:=fun w=>aX cl 4 w (by omega) (by omega);have pY:=fun w=>aX kd 19 w (by omega) (by omega);have c0:∀n,(w1.drewN n).cell? ⟨W.heap.size,0,none⟩=some (.int .i64 kd):=fun n=>b0;have c4:∀n,(w1.drewN n).cell? ⟨W.heap.size,4,none⟩=some L:=fun n=>b4
 go_enter Tryz.func9,Tryz.ntmps9
 go_wp2_with fail
 go_quiet ((go_at_call 24;exact kt (p4 _)))
 go_wp2_with (first|(go_at_call 24;refine da (pY _) ?_;rintro e w' ⟨rfl,hw⟩;rw[hw];clear hw)|(go_at_call 25;refine da (hv _) ?_;clear hv;rintro e w2 ⟨V,rfl,Dc⟩)|(go_at_call 20;refine da Dc ?_;clear Dc;rintro e w3 ⟨z,rfl,h26⟩)|(go_at_call 26;refine da h26 ?_;clear h26;rintro e w4 ⟨rfl,hK⟩))
 go_ret
 exact⟨rfl,hK⟩
def abJ(S:World->Prop)(f g:FuncId)(xs ys:Array Value)(K:World->Prop)(w:World):Prop:=Calls U' f xs w fun e w'=> ∃z:Bool,e=.returned (.bool z)/\S w'/\Calls U' g ys w' fun e' w2=>e'=.returned (.bool z)/\S w2/\K w2
set_option maxHeartbeats 4000000 in
set_option maxRecDepth 1000000 in
theorem U2(fb rb js cc:Nat)(kd cl A B:Int)(L:Value)(W w1:World)(K:World->Prop)(e1:W.alloc (zt kd cl A B L)=w1)(hC:Q8 W.heap.size rb js cc kd cl A B L w1)(hk:¬pick kd 19<4)(hk2:pick kd 19<11)
  (hv:∀n,Calls U' 27 #[.pointer (some ⟨rb,0,none⟩)] (w1.drewN n) fun e w'=> ∃(A':Option Addr) (c:Nat),e=.returned (.slice A' 0 c)/\K w'):
  Calls U' 9 #[.pointer (some ⟨fb,0,none⟩),.pointer (some ⟨rb,0,none⟩),xJ kd cl A B L] W fun e w'=>e=.returned (.bool true)/\K w':=by
 have mixed:U'.follows .mixedOrders=true:=by kernel_rfl
 obtain⟨b0,b1,b2,b3,b4,r2⟩:=hC;have U1:=QS cl;have p4:=fun w=>aX cl 4 w (by omega) (by omega);have pY:=fun w=>aX kd 19 w (by omega) (by omega);have c0:∀n,(w1.drewN n).cell? ⟨W.heap.size,0,none⟩=some (.int .i64 kd):=fun n=>b0
 go_enter Tryz.func9,Tryz.ntmps9
 go_wp2_with fail
 go_quiet ((go_at_call 24;exact kt (p4 _)))
 go_wp2_with (first|(go_at_call 24;refine da (pY _) ?_;rintro e w' ⟨rfl,hw⟩;rw[hw];clear hw)|(go_at_call 27;refine da (hv _) ?_;clear hv;rintro e w2 ⟨A',c,rfl,hK⟩))
 go_ret
 exact⟨rfl,hK⟩
set_option maxHeartbeats 4000000 in
set_option maxRecDepth 1000000 in
theorem U3(fb rb js cc l j:Nat)(kd cl A B:Int)(L:Value)(W w1:World)(K:World->Prop)(e1:W.alloc (zt kd cl A B L)=w1)(hC:Q8 W.heap.size rb js cc kd cl A B L w1)(hk:¬pick kd 19<4)(hk2:pick kd 19<11)(hl1:0<l)(hl:l<=100000)(hj:pick A l=(j:Int))(hjl:j<l)
  (hv:∀n,Calls U' 27 #[.pointer (some ⟨rb,0,none⟩)] (w1.drewN n) fun e w'=> ∃(b c:Nat),e=.returned (.slice (some ⟨b,0,none⟩) l c)/\∃(x y z:Int) (wn:World),w'.cell? ⟨W.heap.size,2,none⟩=some (.int .i64 A)/\w'.cell? ⟨b,j*3,none⟩=some (.int .i64 x)/\w'.cell? ⟨b,j*3+1,none⟩=some (.int .i64 y)/\w'.cell? ⟨b,j*3+2,none⟩=some (.int .i64 z)/\
   w'.alloc (.cells #[.int .i64 x,.int .i64 y,.int .i64 z] 86)=wn/\Q7 wn.drew w'.heap.size x y z/\abJ (fun w=>Q7 w w'.heap.size x y z) 22 28 #[.pointer (some ⟨fb,0,none⟩),.agg #[.int .i64 x,.int .i64 y,.int .i64 z]] #[.pointer (some ⟨rb,0,none⟩),.agg #[.int .i64 x,.int .i64 y,.int .i64 z]] K wn.drew):
  Calls U' 9 #[.pointer (some ⟨fb,0,none⟩),.pointer (some ⟨rb,0,none⟩),xJ kd cl A B L] W fun e w'=>e=.returned (.bool true)/\K w':=by
 have mixed:U'.follows .mixedOrders=true:=by kernel_rfl
 obtain⟨b0,b1,b2,b3,b4,r2⟩:=hC;have U1:=QS cl;have p4:=fun w=>aX cl 4 w (by omega) (by omega);have pY:=fun w=>aX kd 19 w (by omega) (by omega);have pl:=fun w=>aX A l w (by omega) (by omega);rw[hj]at pl;have hjI:(j:Int)<(l:Int):=by omega
 have hl0:¬(l:Int)=0:=by omega
 have hlb:((l:Int)==0)=false:=oE.2 hl0;have c0:∀n,(w1.drewN n).cell? ⟨W.heap.size,0,none⟩=some (.int .i64 kd):=fun n=>b0;clear hl1 hl hj hjl
 go_enter Tryz.func9,Tryz.ntmps9
 go_wp2_with fail
 go_quiet ((go_at_call 24;exact kt (p4 _)))
 go_wp2_with ((go_at_call 24;refine da (pY _) ?_;rintro e w' ⟨rfl,hw⟩;rw[hw];clear hw))
 refine da (hv _) ?_;clear hv;rintro e w2 ⟨b,c,rfl,x,y,z,wn,d2,d3,d4,d5,hwn,hS,XP⟩;clear pY p4 c0
 go_wp2_with fail
 refine da (pl _) ?_;rintro e w' ⟨rfl,hw⟩;rw[hw];clear hw;clear e1 b0 b1 b2 b3 b4 r2 U1 hlb hl0 hk hk2 pl
 go_wp2_with fail
 go_region_held3 (fun w=>w.cell? ⟨w2.heap.size,0,none⟩=some (.int .i64 x)/\w.cell? ⟨w2.heap.size,1,none⟩=some (.int .i64 y)/\w.cell? ⟨w2.heap.size,2,none⟩=some (.int .i64 z)) (first|exact hS|exact g|exact g2) (first|(go_at_call 22;refine da XP ?_;clear XP;rintro e w3 ⟨q,rfl,g,h28⟩)|(go_at_call 28;refine da h28 ?_;clear h28;rintro e w4 ⟨rfl,g2,hK⟩))
 go_wp2_with fail
 go_ret
 exact⟨rfl,hK⟩
end
section
attribute [local go_sem] Oper.semAt_some
attribute [local go_sem] eU dm dq eV
set_option maxHeartbeats 4000000 in
set_option maxRecDepth 1000000 in
theorem abK(fb rb js cc:Nat)(kd cl A B:Int)(L:Value)(W w1:World)(K:World->Prop)(e1:W.alloc (zt kd cl A B L)=w1)(hC:Q8 W.heap.size rb js cc kd cl A B L w1)(hk:pick kd 19=12)
  (hv:∀n,abI 31 32 #[.pointer (some ⟨fb,0,none⟩),.int .i64 (pick cl 4-1)] #[.pointer (some ⟨rb,0,none⟩),.int .i64 (pick cl 4-1)] K (w1.drewN n)):
  Calls U' 9 #[.pointer (some ⟨fb,0,none⟩),.pointer (some ⟨rb,0,none⟩),xJ kd cl A B L] W fun e w'=>e=.returned (.bool true)/\K w':=by
 have mixed:U'.follows .mixedOrders=true:=by kernel_rfl
 obtain⟨b0,b1,b2,b3,b4,r2⟩:=hC;have U1:=QS cl;have p4:=fun w=>aX cl 4 w (by omega) (by omega);have pY:=fun w=>aX kd 19 w (by omega) (by omega);rw[hk]at pY;have c0:∀n,(w1.drewN n).cell? ⟨W.heap.size,0,none⟩=some (.int .i64 kd):=fun n=>b0;have c2:∀n,(w1.drewN n).cell? ⟨W.heap.size,2,none⟩=some (.int .i64 A):=fun n=>b2;have c3:∀n,(w1.drewN n).cell? ⟨W.heap.size,3,none⟩=some (.int .i64 B):=fun n=>b3
 go_enter Tryz.func9,Tryz.ntmps9
 go_wp2_with fail
 go_quiet ((go_at_call 24;exact kt (p4 _)))
 go_wp2_with ((go_at_call 24;refine da (pY _) ?_;clear pY;rintro e w' ⟨rfl,hw⟩;rw[hw];clear hw))
 refine da (hv _) ?_;rintro e w2 ⟨z,rfl,h2⟩;clear hv b0 b1 b2 b3 b4 r2 c0 c2 c3 p4 e1 hk
 go_wp2_with ((go_at_call 32;refine da h2 ?_;clear h2;rintro e w3 ⟨rfl,hK⟩))
 go_ret
 exact⟨rfl,hK⟩
set_option maxHeartbeats 4000000 in
set_option maxRecDepth 1000000 in
theorem X5(fb rb js cc:Nat)(kd cl A B:Int)(L:Value)(W w1:World)(K:World->Prop)(e1:W.alloc (zt kd cl A B L)=w1)(hC:Q8 W.heap.size rb js cc kd cl A B L w1)(hk:pick kd 19=11)
  (hv:∀n,Calls U' 23 #[.pointer (some ⟨fb,0,none⟩),.int .i64 (pick cl 4-1)] (w1.drewN n) fun e w'=> ∃(d:Value) (ok:Bool),e=.returned (.tuple #[d,.bool ok])/\Calls U' 29 #[.pointer (some ⟨rb,0,none⟩),.int .i64 (pick cl 4-1)] w' fun e' w3=> ∃d2,e'=.returned (.tuple #[d2,.bool ok])/\Calls U' 30 #[d,d2] w3 fun e w5=>e=.returned (.bool true)/\K w5):
  Calls U' 9 #[.pointer (some ⟨fb,0,none⟩),.pointer (some ⟨rb,0,none⟩),xJ kd cl A B L] W fun e w'=>e=.returned (.bool true)/\K w':=by
 have mixed:U'.follows .mixedOrders=true:=by kernel_rfl
 obtain⟨b0,b1,b2,b3,b4,r2⟩:=hC;have U1:=QS cl;have p4:=fun w=>aX cl 4 w (by omega) (by omega);have pY:=fun w=>aX kd 19 w (by omega) (by omega);rw[hk]at pY;have c0:∀n,(w1.drewN n).cell? ⟨W.heap.size,0,none⟩=some (.int .i64 kd):=fun n=>b0;have c2:∀n,(w1.drewN n).cell? ⟨W.heap.size,2,none⟩=some (.int .i64 A):=fun n=>b2;have c3:∀n,(w1.drewN n).cell? ⟨W.heap.size,3,none⟩=some (.int .i64 B):=fun n=>b3
 go_enter Tryz.func9,Tryz.ntmps9
 go_wp2_with fail
 go_quiet ((go_at_call 24;exact kt (p4 _)))
 go_wp2_with ((go_at_call 24;refine da (pY _) ?_;clear pY;rintro e w' ⟨rfl,hw⟩;rw[hw];clear hw))
 refine da (hv _) ?_;rintro e w2 ⟨d,ok,rfl,h2⟩;clear hv b0 b1 b2 b3 b4 r2 c0 c2 c3 p4 e1 hk
 go_wp2_with (first|(go_at_call 29;refine da h2 ?_;clear h2;rintro e w3 ⟨d2,rfl,h3⟩)|(go_at_call 30;refine da h3 ?_;clear h3;rintro e w4 ⟨rfl,hK⟩))
 go_ret
 exact⟨rfl,hK⟩
set_option maxHeartbeats 4000000 in
set_option maxRecDepth 1000000 in
theorem MJ(fb rb js cc:Nat)(kd cl A B:Int)(L:Value)(W w1:World)(K:World->Prop)(e1:W.alloc (zt kd cl A B L)=w1)(hC:Q8 W.heap.size rb js cc kd cl A B L w1)(hk:pick kd 19=13)
  (hv:∀n,abH 33 34 #[.pointer (some ⟨fb,0,none⟩),.int .i64 (pick cl 4-1),.int .i64 (pick A 5)] #[.pointer (some ⟨rb,0,none⟩),.int .i64 (pick cl 4-1),.int .i64 (pick A 5)] K (w1.drewN n)):
  Calls U' 9 #[.pointer (some ⟨fb,0,none⟩),.pointer (some ⟨rb,0,none⟩),xJ kd cl A B L] W fun e w'=>e=.returned (.bool true)/\K w':=by
 have mixed:U'.follows .mixedOrders=true:=by kernel_rfl
 obtain⟨b0,b1,b2,b3,b4,r2⟩:=hC;have U1:=QS cl;have p4:=fun w=>aX cl 4 w (by omega) (by omega);have pY:=fun w=>aX kd 19 w (by omega) (by omega);rw[hk]at pY;have c0:∀n,(w1.drewN n).cell? ⟨W.heap.size,0,none⟩=some (.int .i64 kd):=fun n=>b0;have c2:∀n,(w1.drewN n).cell? ⟨W.heap.size,2,none⟩=some (.int .i64 A):=fun n=>b2;have c3:∀n,(w1.drewN n).cell? ⟨W.heap.size,3,none⟩=some (.int .i64 B):=fun n=>b3;have p5:=fun w=>aX A 5 w (by omega) (by omega)
 go_enter Tryz.func9,Tryz.ntmps9
 go_wp2_with fail
 go_quiet ((go_at_call 24;exact kt (p4 _)))
 go_wp2_with ((go_at_call 24;refine da (pY _) ?_;clear pY;rintro e w' ⟨rfl,hw⟩;rw[hw];clear hw))
 refine da (p5 _) ?_;clear p5;rintro e w' ⟨rfl,hw⟩;rw[hw];clear hw
 go_wp2_with fail
 refine da (hv _) ?_;rintro e w2 ⟨z,rfl,h2⟩;clear hv b0 b1 b2 b3 b4 r2 c0 c2 c3 p4 e1 hk
 go_wp2_with ((go_at_call 34;refine da h2 ?_;clear h2;rintro e w3 ⟨rfl,hK⟩))
 go_ret
 exact⟨rfl,hK⟩
set_option maxHeartbeats 4000000 in
set_option maxRecDepth 1000000 in
theorem X6(fb rb js cc:Nat)(kd cl A B:Int)(L:Value)(W w1:World)(K:World->Prop)(e1:W.alloc (zt kd cl A B L)=w1)(hC:Q8 W.heap.size rb js cc kd cl A B L w1)(hk:pick kd 19=15)
  (hv:∀n,abI 37 38 #[.pointer (some ⟨fb,0,none⟩),.int .i64 (pick A 4-1)] #[.pointer (some ⟨rb,0,none⟩),.int .i64 (pick A 4-1)] K (w1.drewN n)):
  Calls U' 9 #[.pointer (some ⟨fb,0,none⟩),.pointer (some ⟨rb,0,none⟩),xJ kd cl A B L] W fun e w'=>e=.returned (.bool true)/\K w':=by
 have mixed:U'.follows .mixedOrders=true:=by kernel_rfl
 obtain⟨b0,b1,b2,b3,b4,r2⟩:=hC;have U1:=QS cl;have p4:=fun w=>aX cl 4 w (by omega) (by omega);have pY:=fun w=>aX kd 19 w (by omega) (by omega);rw[hk]at pY;have c0:∀n,(w1.drewN n).cell? ⟨W.heap.size,0,none⟩=some (.int .i64 kd):=fun n=>b0;have c2:∀n,(w1.drewN n).cell? ⟨W.heap.size,2,none⟩=some (.int .i64 A):=fun n=>b2;have c3:∀n,(w1.drewN n).cell? ⟨W.heap.size,3,none⟩=some (.int .i64 B):=fun n=>b3;have p5:=fun w=>aX A 4 w (by omega) (by omega);have hw8:=QS A
 go_enter Tryz.func9,Tryz.ntmps9
 go_wp2_with fail
 go_quiet ((go_at_call 24;exact kt (p4 _)))
 go_wp2_with ((go_at_call 24;refine da (pY _) ?_;clear pY;rintro e w' ⟨rfl,hw⟩;rw[hw];clear hw))
 refine da (p5 _) ?_;clear p5;rintro e w' ⟨rfl,hw⟩;rw[hw];clear hw
 go_wp2_with fail
 refine da (hv _) ?_;rintro e w2 ⟨z,rfl,h2⟩;clear hv b0 b1 b2 b3 b4 r2 c0 c2 c3 p4 e1 hk
 go_wp2_with ((go_at_call 38;refine da h2 ?_;clear h2;rintro e w3 ⟨rfl,hK⟩))
 go_ret
 exact⟨rfl,hK⟩
end
section
attribute [local go_sem] Oper.semAt_some
attribute [local go_sem] eU dm dq eV
def aeu(a:Addr)(v:Value)(f g:FuncId)(xs ys:Array Value)(K:World->Prop)(w:World):Prop:=Calls U' f xs w fun e w'=> ∃z:Int,e=.returned (.int .i64 z)/\w'.cell? a=some v/\Calls U' g ys w' fun e' w2=>e'=.returned (.int .i64 z)/\w2.cell? a=some v/\K w2
set_option maxHeartbeats 4000000 in
set_option maxRecDepth 1000000 in
theorem QT(fb rb js cc:Nat)(kd cl A B:Int)(L:Value)(W w1:World)(K:World->Prop)(e1:W.alloc (zt kd cl A B L)=w1)(hC:Q8 W.heap.size rb js cc kd cl A B L w1)(hk:pick kd 19=14)
  (hv:∀n,aeu ⟨W.heap.size,2,none⟩ (.int .i64 A) 35 36 #[.pointer (some ⟨fb,0,none⟩),.int .i64 (pick cl 4-1),.int .i64 A] #[.pointer (some ⟨rb,0,none⟩),.int .i64 (pick cl 4-1),.int .i64 A] K (w1.drewN n)):
  Calls U' 9 #[.pointer (some ⟨fb,0,none⟩),.pointer (some ⟨rb,0,none⟩),xJ kd cl A B L] W fun e w'=>e=.returned (.bool true)/\K w':=by
 have mixed:U'.follows .mixedOrders=true:=by kernel_rfl
 obtain⟨b0,b1,b2,b3,b4,r2⟩:=hC;have U1:=QS cl;have p4:=fun w=>aX cl 4 w (by omega) (by omega);have pY:=fun w=>aX kd 19 w (by omega) (by omega);rw[hk]at pY;have c0:∀n,(w1.drewN n).cell? ⟨W.heap.size,0,none⟩=some (.int .i64 kd):=fun n=>b0;have c2:∀n,(w1.drewN n).cell? ⟨W.heap.size,2,none⟩=some (.int .i64 A):=fun n=>b2;have c3:∀n,(w1.drewN n).cell? ⟨W.heap.size,3,none⟩=some (.int .i64 B):=fun n=>b3
 go_enter Tryz.func9,Tryz.ntmps9
 go_wp2_with fail
 go_quiet ((go_at_call 24;exact kt (p4 _)))
 go_wp2_with ((go_at_call 24;refine da (pY _) ?_;clear pY;rintro e w' ⟨rfl,hw⟩;rw[hw];clear hw))
 have h2:=hv (nq+1);have g0:=c2 (nq+1);clear hv b0 b1 b2 b3 b4 r2 c0 c2 c3 p4 e1 hk
 go_region_held3 (fun w=>w.cell? ⟨W.heap.size,2,none⟩=some (.int .i64 A)) (first|exact g0|exact g1|exact g2) (first|(go_at_call 35;refine da h2 ?_;clear h2;rintro e w2 ⟨z,rfl,g1,h3⟩)|(go_at_call 36;refine da h3 ?_;clear h3;rintro e w3 ⟨rfl,g2,hK⟩))
 go_wp2_with fail
 go_ret
 exact⟨rfl,hK⟩
end
