/- The reference's fabric: Die. -/
import Derived.Test.YtnjccbnlmdajkaaGreatRv
import Derived.Test.YtnjccbnlmdajkaaGreatFbO
import Derived.Test.YtnjccbnlmdajkaaGreatFbO
import Derived.Test.YtnjccbnlmdajkaaGreatFbO
import Derived.Test.YtnjccbnlmdajkaaGreatFbO
import Derived.Test.YtnjccbnlmdajkaaGreatRhX
import Derived.Test.YtnjccbnlmdajkaaGreatFbP3
import Derived.BigQuiet
import Derived.Test.YtnjccbnlmdajkaaGreatRfL
import Derived.Test.YtnjccbnlmdajkaaGreatVrbW
import Derived.Test.YtnjccbnlmdajkaaGreatSmlW
import Derived.Test.YtnjccbnlmdajkaaGreatVbsW
import Derived.Test.YtnjccbnlmdajkaaGreatEv13
import Derived.Test.YtnjccbnlmdajkaaGreatPstW
set_option linter.all false
namespace Go.Proofs.YtnjccbnlmdajkaaGreat
open Go.Proofs.Tryz renaming prog->U'
open Go.RowKit Go.Shelf Go.Lib Go.Ev
set_option maxRecDepth 100000
variable{cc:Nat}{A:Option Addr}{i j:Nat}{u:gm}{n:Nat}{F:List Nat}{vs:List Vb}{lines:Nat}{b:List eI}{v:Value}{p:eI}
section
variable{w0 W:World}{μ:Mu}{I J:Ky->Option ag}{t fb:Nat}{s:gm}
def fF(l:List dE)(i:Nat):List dE:=(l.take i).filter fun p=> !p.a.q.isEmpty
theorem CD{l:List dE}{p:dE}(h:l[i]?=some p):fF l (i+1)=fF l i++(if p.a.q=[]then []else [p]):=by
 unfold fF;grind [List.take_add_one]
theorem XB(l:List dE):(fF l l.length).map dE.a=(l.map dE.a).filter fun p=> !p.q.isEmpty:=by
 unfold fF;rw[ahm,List.filter_map];rfl
theorem Qx(l:List dE)(i:Nat):(fF l i).length<=l.length:=iS (Sf ..) (by grind)
theorem _root_.Go.Ev.az.Us{ι:Type}[DecidableEq ι]{w W:World}{μ:Mu}{I:ι->Option ag}(h:az w μ I W){k:ι}{T sz:Nat}{xs:List (List AV)}(hr:Row I k v T sz xs):nY μ W sz xs v:=by
 rcases hr with⟨rfl,rfl⟩|⟨b,c,rfl,hk⟩
 ·exact .nil
 ·have:=h.Wu hk 0 xs.length c (by omega);grind
def XC(t:Nat)(w0:World)(μ:Mu)(I:Ky->Option ag)(fb:Nat)(s:gm)(l:List dE)(i:Nat)(W:World):Prop:=
 ∃(I':Ky->Option ag) (ov:Value) (F:List Nat),az w0 μ I' W/\I' (t,.cM)=some (bG fb F 58 {s with ov:=ov}.cells)/\Row I' (t,.lO) ov 110 4 ((s.os++fF l i).map dE.row)/\∀k,k≠(t,.cM)->k≠(t,.lO)->(∀m,k≠(t,.tmp m))->I' k=I k
theorem J5(hK:az w0 μ J W){ov:Value}{l:List dE}{p:dE}(hp:l[i]?=some p)(hne:p.a.q≠[])(hf:J (t,.cM)=some (bG fb F 58 {s with ov:=ov}.cells)){b c:Nat}(hr:J (t,.tmp 5)=some (aE b c 110 4 ((s.os++fF l i).map dE.row++[p.row])))
  (ho:∀k,k≠(t,.cM)->k≠(t,.lO)->(∀m,k≠(t,.tmp m))->J k=I k):
  ∃w3,St W fb 4 (.slice (some ⟨b,0,none⟩) ((s.os++fF l i).length+1) c) w3/\(∃F',az w0 μ (put J (t,.cM) (some (bG fb F' 58 {s with ov:=.slice (some ⟨b,0,none⟩) ((s.os++fF l i).length+1) c}.cells))) w3)/\XC t w0 μ I fb s l (i+1) w3:=by
 obtain⟨w3,F3,st,_,du⟩:=hK.Jw hf (j:=4) rfl (a:=.v (.slice (some ⟨b,0,none⟩) ((s.os++fF l i).length+1) c)) (v:=.slice (some ⟨b,0,none⟩) ((s.os++fF l i).length+1) c) (.v rfl);have du:az w0 μ (put J (t,.cM) (some (bG fb F3 58 {s with ov:=.slice (some ⟨b,0,none⟩) ((s.os++fF l i).length+1) c}.cells))) w3:=du;have eX:=du.move (k1:=(t,.tmp 5)) (k2:=(t,.lO)) (aa fun e=>by cases e);have hl1:(s.os++fF l (i+1)).map dE.row=(s.os++fF l i).map dE.row++[p.row]:=by
  rw[CD hp,eg hne,<-fh,im];rfl
 refine⟨w3,st,⟨F3,du⟩,_,.slice (some ⟨b,0,none⟩) ((s.os++fF l i).length+1) c,F3,eX,?_,.inr ⟨b,c,?_,?_⟩,fun k g1 g2 g3=>?_⟩
 ·simp_all [ae,aa,af]
 ·grind
 all_goals grind [ae,aa,af]
theorem J7{qc:Nat}{c:Nat}{inc:Int}:∀v∈(#[.int .i64 (c:Int),.int .i64 inc,.int .i64 (i:Int),.slice A n qc]:Array Value).toList,v.oneCell'=true:=fun v hv=>by
 simp only[ft,dt,re]at hv;rcases hv with rfl|rfl|rfl|rfl<;>rfl
theorem J9{ν:Mu}{p:dE}{qc:Nat}(h:p.qv=.slice A n qc):∀(jj:Nat) (u:AV) (x:Value),p.row[jj]?=some u->(#[.int .i64 (p.a.c:Int),.int .i64 p.a.inc,.int .i64 (p.a.nd:Int),.slice A n qc]:Array Value)[jj]?=some x->DR ν u x:=fun jj u x hu hx=>by
 match jj with
 |0=>cases hu;cases hx;exact .v rfl
 |1=>cases hu;cases hx;exact .v rfl
 |2=>cases hu;cases hx;exact .v rfl
 |3=>cases hu;cases hx;rw[h];exact .v rfl
 |n+4=>cases hu
theorem Ut(hR:eM t I fb s){c:Nat}{l:mW}(hl:s.ln[c]?=some l){lb lc:Nat}(hlv:s.lv=.slice (some ⟨lb,0,none⟩) s.ln.length lc)(Cb:I (t,.kC 0)=some (aE lb lc 56 1 (s.ln.map mW.row)))(hD:wz μ s)(hlen:s.os.length+l.ps.length<=90000)(hi:i<l.ps.length)(hJ:XC t w0 μ I fb s l.ps i W):
  Gd fb lb s.ln.length lc c l.ps.length i W (XC t w0 μ I fb s l.ps (i+1)):=by
 obtain⟨Inf,z,i1,i2,i3,i4,i5,i6⟩:=i110;obtain⟨I',ov,F,hK,hf,hr,ho⟩:=hJ;have hpi:=ao hi;obtain⟨p,hp⟩:∃p,l.ps[i]?=some p:=⟨_,hpi⟩;obtain⟨pb,pc,wK,zm⟩:=Row.at (hR.lu c l hl) hp;obtain⟨QA,qc,JH⟩:=(hD.ln c l hl p (dp hp)).val;have cS:∀{μ':Mu} {J:Ky->Option ag} {W':World} {F':List Nat} {ov':Value},az w0 μ' J W'->J (t,.cM)=some (bG fb F' 58 {s with ov:=ov'}.cells)->J (t,.kC 0)=I (t,.kC 0)->J (t,.lu c)=I (t,.lu c)->Cp fb lb s.ln.length lc c pb l.ps.length pc i (p.a.c:Int) p.a.inc (p.a.nd:Int) QA p.a.q.length qc W':=fun{μ' J W' F' ov'} hk e1 e2 e3=>by
  have q1:=hk.cell e1 (j:=3) rfl;rw[hlv]at q1;have q2:=hk.aL (e2.trans Cb) (get_map hl) (j:=0) rfl;rw[oe,na,wK]at q2;have q3:=Cd hk (e3.trans zm) hp;exact⟨q1,q2,q3.c,q3.inc,q3.nd,by rw[<-JH];exact q3.q⟩
 have eo:∀k:FK,k=.kC 0\/k=.lu c->I' (t,k)=I (t,k):=fun k hk=>ho _ (aa (by grind)) (aa (by grind)) fun m=>aa (by grind);have e2:=eo _ (.inl rfl);have e3:=eo _ (.inr rfl);refine⟨pb,pc,p.a.q.length,qc,QA,p.a.c,p.a.inc,p.a.nd,cS hK hf e2 e3,fun h0=>?_,fun h0=>?_⟩
 ·have hq:p.a.q=[]:=dy h0;exact⟨I',ov,F,hK,hf,by rw[CD hp,ee hq,ir];exact hr,ho⟩
 ·have hne:p.a.q≠[]:=fun e=>by grind
  obtain⟨OA,oc,JL⟩:=Row.len hr;have hol:(s.os++fF l.ps i).length<=90000:=by
   grind [Qx,List.length_append]
  have c4:∀{μ':Mu} {J:Ky->Option ag} {W':World},az w0 μ' J W'->J (t,.cM)=I' (t,.cM)->W'.cell? ⟨fb,4,none⟩=some (.slice OA (s.os++fF l.ps i).length oc):=fun{μ' J W'} hk e=>by
   have:=hk.cell (e.trans hf) (j:=4) rfl;grind
  have hsrc:=hK.drew.Us hr;rw[JL]at hsrc;obtain⟨vA,w1,yA,aaV,hK1,JI⟩:=hK.drew.qj (P:=U') (k:=(t,.tmp 5)) (v:=.slice none 0 0) (T:=110) (sz:=4) (xs:=[]) (.inl ⟨rfl,rfl⟩) u56 i1 i2 i3 i4 i5 i6 (by omega) (by simp) (by rw[ab];omega) hsrc;rw[ly]at JI;have n5:∀{y:Option ag} {k:FK},k≠ .tmp 5->put I' (t,.tmp 5) y (t,k)=I' (t,k):=fun g=>ae _ _ (aa g);obtain⟨bA,cA,w2,Zt,bq,_,_⟩:=(hK1.bw (ar.alloc w1 (.cells #[.int .i64 (p.a.c:Int),.int .i64 p.a.inc,.int .i64 (p.a.nd:Int),.slice QA p.a.q.length qc] 110))).ua (P:=U') (es:=p.row) JI.row u56 i1 i2 i3 i4 i5 i6 (by rw[ab];omega) (Ev.aZ w1 _) rfl J7 rfl (J9 JH);rw[aK]at bq;rw[ab]at Zt;obtain⟨w3,Q6,⟨F3,du⟩,ad7⟩:=J5 (I:=I) bq hp hne ((n5 fun e=>by cases e).trans hf) (af _ _ _) fun k g1 g2 g3=>(ae _ _ (g3 5)).trans (ho k g1 g2 g3);have hKb:=hK.drew.alloc (t,.tmp 7) (cs:=[Q' (p.a.c:Int),Q' p.a.inc,Q' (p.a.nd:Int),.v (.slice QA p.a.q.length qc)]) (cur:= #[.int .i64 (p.a.c:Int),.int .i64 p.a.inc,.int .i64 (p.a.nd:Int),.slice QA p.a.q.length qc]) (ty:=110) (.cons (F:=[]) (F':=[]) (.d (.v rfl)) (.cons (F:=[]) (F':=[]) (.d (.v rfl)) (.cons (F:=[]) (F':=[]) (.d (.v rfl)) (.cons (F:=[]) (F':=[]) (.d (.v rfl)) .nil))));have Kr:=hr.put (x:=some (bG W.drew.heap.size [W.drew.heap.size] 110 [Q' (p.a.c:Int),Q' p.a.inc,Q' (p.a.nd:Int),.v (.slice QA p.a.q.length qc)])) (aa (t:=t) (a:=.lO) (b:=.tmp 7) fun e=>by cases e);have Zu:=hKb.Us Kr;rw[JL]at Zu;obtain⟨vB,x1,yB,aaW,abg,JJ⟩:=hKb.qj (P:=U') (k:=(t,.tmp 5)) (v:=.slice none 0 0) (T:=110) (sz:=4) (xs:=[]) (.inl ⟨rfl,rfl⟩) u56 i1 i2 i3 i4 i5 i6 (by omega) (by simp) (by rw[ab];omega) Zu
  rw[ly]at JJ;have FZ:=abg.plain (k:=(t,.tmp 7)) (vs:=[.int .i64 (p.a.c:Int),.int .i64 p.a.inc,.int .i64 (p.a.nd:Int),.slice QA p.a.q.length qc]) ((ae _ _ (aa fun e=>by cases e)).trans (af _ _ _));obtain⟨bB,cB,x2,Zv,abh,_,_⟩:=abg.ua (P:=U') (es:=p.row) JJ.row u56 i1 i2 i3 i4 i5 i6 (by rw[ab];omega) FZ rfl J7 rfl (J9 JH);rw[aK]at abh;rw[ab]at Zv;have XD:∀{y y':Option ag} {k:FK},k≠ .tmp 5->k≠ .tmp 7->put (put I' (t,.tmp 7) y) (t,.tmp 5) y' (t,k)=I' (t,k):=fun g g2=>(ae _ _ (aa g)).trans (ae _ _ (aa g2));obtain⟨x3,agi,⟨F3B,agj⟩,abj⟩:=J5 (I:=I) abh hp hne ((XD (fun e=>by cases e) fun e=>by cases e).trans hf) (af _ _ _) fun k g1 g2 g3=>(ae _ _ (g3 5)).trans ((ae _ _ (g3 7)).trans (ho k g1 g2 g3));refine⟨OA,(s.os++fF l.ps i).length,oc,vA,vB,some ⟨bA,0,none⟩,some ⟨bB,0,none⟩,(s.os++fF l.ps i).length+1,cA,(s.os++fF l.ps i).length+1,cB,w1,w2,w3,x1,x2,x3,c4 hK.drew rfl,cS hK.drew hf e2 e3,fun o=>c4 (hK.drew.bw (ar.alloc _ o)) rfl,fun o=>cS (hK.drew.bw (ar.alloc _ o)) hf e2 e3,
   aaV,cS hK1 ((n5 fun e=>by cases e).trans hf) ((n5 fun e=>by cases e).trans e2) ((n5 fun e=>by cases e).trans e3),fun o=>cS (hK1.bw (ar.alloc _ o)) ((n5 fun e=>by cases e).trans hf) ((n5 fun e=>by cases e).trans e2) ((n5 fun e=>by cases e).trans e3),Zt,cS bq ((n5 fun e=>by cases e).trans hf) ((n5 fun e=>by cases e).trans e2) ((n5 fun e=>by cases e).trans e3),Q6,
   cS du (af _ _ _) ((ae _ _ (aa fun e=>by cases e)).trans ((n5 fun e=>by cases e).trans e2)) ((ae _ _ (aa fun e=>by cases e)).trans ((n5 fun e=>by cases e).trans e3)),ad7,aaW,cS abg ((XD (fun e=>by cases e) fun e=>by cases e).trans hf) ((XD (fun e=>by cases e) fun e=>by cases e).trans e2) ((XD (fun e=>by cases e) fun e=>by cases e).trans e3),Zv,
   cS abh ((XD (fun e=>by cases e) fun e=>by cases e).trans hf) ((XD (fun e=>by cases e) fun e=>by cases e).trans e2) ((XD (fun e=>by cases e) fun e=>by cases e).trans e3),agi,cS agj (af _ _ _) ((ae _ _ (aa fun e=>by cases e)).trans ((XD (fun e=>by cases e) fun e=>by cases e).trans e2)) ((ae _ _ (aa fun e=>by cases e)).trans ((XD (fun e=>by cases e) fun e=>by cases e).trans e3)),abj⟩
theorem XE(hK:az w0 μ I W)(hR:eM t I fb s)(hD:wz μ s){c:Nat}{x:lP}{l:mW}(hx:s.cl[c]?=some x)(hl:s.ln[c]?=some l)(hn:s.nd.length<=90000)(hal:x.a.al=true)(hlen:s.os.length+l.ps.length<=90000):
  Calls U' 32 #[ptr fb,.int .i64 (c:Int)] W fun e w'=>e=.returned (.bool true)/\mX t w0 μ I fb {s.a with cl:=s.a.cl.set c {x.a with al:=false,on:=false,dn:=[],hv:=[]},ln:=s.a.ln.set c (iP c x.a.inc s.nd.length),os:=s.a.os++l.a.filter fun p=> !p.q.isEmpty} w':=by
 obtain⟨lb,lc,hlv,Cb,_⟩:=zk hK hR hl;obtain⟨cb,cc,fI,lz⟩:=Row.at hR.cls hx;obtain⟨F,dF⟩:=hR.cM;have h2:=hR.c2 hK;rw[fI]at h2;have JO:=(xx hK lz hx).al;rw[hal]at JO;obtain⟨PA,pc,wK⟩:=Row.len (hR.lu c l hl);refine Xc fb lb s.ln.length lc cb s.cl.length cc c l.ps.length W (XC t w0 μ I fb s l.ps) (fun _ w'=>mX t w0 μ I fb {s.a with cl:=s.a.cl.set c {x.a with al:=false,on:=false,dn:=[],hv:=[]},ln:=s.a.ln.set c (iP c x.a.inc s.nd.length),os:=s.a.os++l.a.filter fun p=> !p.q.isEmpty} w') (by omega) (aV hx) (aV hl) (dX fb cb c s.cl.length cc true W h2 (aV hx) JO) ?_ (fun i W' hJ=>?_) (fun i W' hi hJ=>Ut hR hl hlv Cb hD hlen hi hJ) fun W' hJ=>?_
 ·refine⟨I,s.ov,F,hK,dF,?_,fun _ _ _ _=>rfl⟩;show Row I (t,.lO) s.ov 110 4 ((s.os++[]).map dE.row);rw[ir];exact hR.lO
 ·obtain⟨I',ov,F',hK',hf',_,ho⟩:=hJ;have q1:=hK'.cell hf' (j:=3) rfl;rw[hlv]at q1;have q2:=hK'.aL ((ho _ (aa fun e=>by cases e) (aa fun e=>by cases e) fun m=>aa fun e=>by cases e).trans Cb) (get_map hl) (j:=0) rfl;grind
 ·obtain⟨I',ov,F',hK',hf',hr',ho⟩:=hJ;have aa7:I' (t,.cls)=some (aE cb cc 66 7 (s.cl.map lP.row)):=(ho _ (aa fun e=>by cases e) (aa fun e=>by cases e) fun m=>aa fun e=>by cases e).trans lz;obtain⟨w1,P9,hK1⟩:=il hK' hx aa7 (x':={x with a:={x.a with al:=false}}) 0 (by omega) (v:=.bool false) (.v rfl) rfl;obtain⟨w2,TP,bq⟩:=il hK1 (bS hx) (af _ _ _) (x':={x with a:={x.a with al:=false,on:=false}}) 2 (by omega) (v:=.bool false) (.v rfl) rfl;rw[aK,bE]at bq;obtain⟨w3,Q6,du⟩:=il bq (bS hx) (af _ _ _) (x':=⟨.slice none 0 0,x.hvv,{x.a with al:=false,on:=false}⟩) 3 (by omega) (v:=.slice none 0 0) (.v rfl) rfl;rw[aK,bE]at du;obtain⟨w4,st4,eX⟩:=il du (bS hx) (af _ _ _) (x':=⟨.slice none 0 0,.slice none 0 0,{x.a with al:=false,on:=false,dn:=[],hv:=[]}⟩) 4 (by omega) (v:=.slice none 0 0) (.v rfl) rfl;rw[aK,bE]at eX;have q2:=hK'.cell hf' (j:=2) rfl;rw[show({s with ov:=ov}:gm).cv=s.cv from rfl,fI]at q2;have Kv:eM t I' fb {s with ov:=ov,os:=s.os++fF l.ps l.ps.length}:=hR.orS (F:=F') (fun k g1 g2 g3=>ho _ (aa g1) (aa g2) fun m=>aa (g3 m)) hf' hr';have Zo:eM t (put I' (t,.cls) (some (aE cb cc 66 7 ((s.cl.set c ⟨.slice none 0 0,.slice none 0 0,{x.a with al:=false,on:=false,dn:=[],hv:=[]}⟩).map lP.row)))) fb {s with cl:=s.cl.set c ⟨.slice none 0 0,.slice none 0 0,{x.a with al:=false,on:=false,dn:=[],hv:=[]}⟩,ov:=ov,os:=s.os++fF l.ps l.ps.length}:=by
   refine Kv.clS (fun k g1 _ _ _=>ae _ _ (aa g1)) (.inr ⟨cb,cc,?_,af _ _ _⟩) (.inl ⟨rfl,rfl⟩) (.inl ⟨rfl,rfl⟩);grind
  have hD4:wz μ {s with cl:=s.cl.set c ⟨.slice none 0 0,.slice none 0 0,{x.a with al:=false,on:=false,dn:=[],hv:=[]}⟩,ov:=ov,os:=s.os++fF l.ps l.ps.length}:=⟨hD.ln,fun p hp=>by
   rcases gw.1 hp with hp|hp
   ·exact hD.os p hp
   ·exact hD.ln c l hl p (C1 (List.mem_filter.1 hp).1)⟩
  refine⟨w1,w2,w3,w4,q2,P9,TP,Q6,st4,(vW eX Zo hD4 (bS hx) hl hn).mono fun e w' he=>⟨he.1,?_⟩⟩;have:=he.2.from (μ:=μ) (I:=I) (ak.refl _) fun k g=>(ae _ _ fun e=>g (by rw[e])).trans (ho k (fun e=>g (by rw[e])) (fun e=>g (by rw[e])) fun m e=>g (by rw[e]))
  rw[show({s with cl:=s.cl.set c ⟨.slice none 0 0,.slice none 0 0,{x.a with al:=false,on:=false,dn:=[],hv:=[]}⟩,ov:=ov,os:=s.os++fF l.ps l.ps.length}:gm).a={s.a with cl:=s.a.cl.set c {x.a with al:=false,on:=false,dn:=[],hv:=[]},os:=s.a.os++l.a.filter fun p=> !p.q.isEmpty} by
   unfold gm.a mW.a;simp only[aF,im,XB]]at this
  exact this
end
section
def slots(l:List eI):List Nat:=l.flatMap fun p=>p.q.map jr.sl
theorem nK:∀{l:List eI} {j:Nat} {p:eI},l[j]?=some p->(slots l).Perm (p.q.map jr.sl++slots (l.eraseIdx j))
 |[],j,p,h=>by cases j<;>cases h
 |x::l,0,p,h=>by cases h;exact List.Perm.refl _
 |x::l,j+1,p,h=>by
  have ih:=nK (l:=l) (j:=j) (p:=p) h;show(x.q.map jr.sl++slots l).Perm (p.q.map jr.sl++(x.q.map jr.sl++slots (l.eraseIdx j)));refine(List.Perm.append_left _ ih).trans ?_;rw[<-fh,<-fh];exact List.Perm.append_right _ List.perm_append_comm
theorem xH{l:List eI}(h:l[j]?=some p)(p':eI):(slots (l.set j p')).Perm (p'.q.map jr.sl++slots (l.eraseIdx j)):=by
 grind [nK,bS,xC]
theorem xI{l:List eI}(h:l[j]?=some p){x:jr}(hx:x∈p.q):x.sl∈slots l:=vh.2 ⟨p,dp h,ZD hx⟩
theorem sE{l:List eI}(h:slots l=[])(hp:l[j]?=some p):p.q=[]:=by
 cases e:p.q with
 |nil=>rfl
 |cons x r=>
  have:=xI hp (x:=x) (by rw[e];simp);rw[h]at this;cases this
theorem ml(c:Nat)(inc:Int)(n:Nat):slots (iP c inc n)=[]:=by
 unfold slots iP;simp_all
theorem oM(c:Nat)(inc:Int){k:Nat}(h:(iP c inc n)[k]?=some p):k<n/\p=⟨c,inc,k,[]⟩:=by
 unfold iP at h;grind
theorem CE(c inc:Int){k:Nat}{x:th}(h:(mR c inc n)[k]?=some x):k<n/\x=⟨nI c inc (k:Int),[]⟩:=by
 unfold mR at h;grind
def opn(hv:List Bool):Nat:=(hv.filter fun b=> !b).length
theorem Qy(hv:List Bool):oI hv hv.length=opn hv:=by unfold oI opn;rw[ahm]
theorem abk(hv:List Bool):opn hv<=hv.length:=Sf ..
theorem Gq:∀{hv:List Bool} {s:Nat},hv[s]?=some false->opn (hv.set s true)+1=opn hv
 |[],s,h=>by cases s<;>cases h
 |b::hv,0,h=>by cases h;rfl
 |b::hv,s+1,h=>by
  have ih:=Gq (hv:=hv) (s:=s) h;cases b
  ·exact rj (· +1) ih
  ·exact ih
theorem XF{hv:List Bool}{s:Nat}(h:hv[s]?=some false):0<opn hv:=by have:=Gq h;omega
theorem XG(m:Nat):opn (List.replicate m false)=m:=by
 unfold opn;grind
def gh.key(d:gh):Int×List Int:=(d.code,d.w)
structure fG(c:Nat)(x:mU)(y:sN)(l:List eI):Prop where
 al:x.al=y.al
 inc:x.inc=y.inc
 Qz:0<=y.inc/\y.inc<=59
 tr:x.tr=y.tr
 po:x.po=y.po
 ba:x.ba.map gh.key=y.dn.map gh.key
 hd:y.hv.length=y.dn.length
 h8:y.dn.length<=8
 on:y.on= !y.dn.isEmpty
 wt:x.wt=(opn y.hv:Nat)
 dl:∀d∈y.dn,d.w.length<=100000
 ll:l.length=2
 lc:∀(k:Nat) (p:eI),l[k]?=some p->p.nd=k/\p.c=c/\0<=p.inc/\p.inc<=59
 sn:(slots l).Nodup
 sf:∀s∈slots l,y.hv[s]?=some false
 dead:y.al=false->x.ln=[]/\y.dn=[]
 xl:y.al=true->x.ln.length=2
 ps:∀(k:Nat) (p:eI) (e:th),l[k]?=some p->x.ln[k]?=some e->rN 12 e.p p/\e.pl=p.q.map fun r=>(r.sl:Int)
section
variable{c:Nat}{x:mU}{y:sN}{l:List eI}
theorem fG.len(h:fG c x y l):x.ba.length=y.dn.length:=by
 have:=rj List.length h.ba;grind
theorem fG.emp(h:fG c x y l):x.ba=[]↔y.dn=[]:=by
 rw[<-List.length_eq_zero_iff,<-List.length_eq_zero_iff,h.len]
theorem fG.off(h:fG c x y l)(hd:y.dn=[]):y.hv=[]:=dy (by rw[h.hd,hd];rfl)
theorem fG.noS(h:fG c x y l)(hd:y.dn=[]):slots l=[]:=by
 cases e:slots l with
 |nil=>rfl
 |cons s r=>
  have:=h.sf s (by rw[e];simp);grind [hd]
theorem fG.onT(h:fG c x y l):y.on=true↔y.dn≠[]:=by
 rw[h.on];cases y.dn<;>simp
theorem fG.onF(h:fG c x y l):y.on=false↔y.dn=[]:=by
 rw[h.on];cases y.dn<;>simp
theorem fG.wait(h:fG c x y l):(y.wait:Int)=x.wt:=by
 rw[h.wt];unfold sN.wait;rw[Qy];cases e:y.on with
 |true=>rfl
 |false=>
  have:=h.onF.1 e;rw[h.off this];rfl
theorem fG.renew(h:fG c x y l)(hd:y.dn=[])(hc:c<6){inc:Int}(hi:0<=inc/\inc<=59):fG c {x with al:=true,inc:=inc,ln:=mR c inc 2} {y with al:=true,inc:=inc} (iP c inc 2):=
 ⟨rfl,rfl,hi,h.tr,h.po,h.ba,h.hd,h.h8,h.on,h.wt,h.dl,rfl,fun k p hp=>by
  obtain⟨_,rfl⟩:=oM _ _ hp;exact⟨rfl,rfl,hi⟩,by rw[ml];exact sq,fun s hs=>(by rw[ml]at hs;cases hs),fun e=>(by cases e),fun _=>rfl,fun k p e hp he=>by
  obtain⟨_,rfl⟩:=oM _ _ hp;obtain⟨_,rfl⟩:=CE _ _ he;grind [rN.new]⟩
theorem fG.die(h:fG c x y l):fG c {x with al:=false,ln:=[],ba:=[],wt:=0} {y with al:=false,on:=false,dn:=[],hv:=[]} (iP c y.inc 2):=
 ⟨rfl,h.inc,h.Qz,h.tr,h.po,rfl,rfl,nt _,rfl,rfl,fun d hd=>(by cases hd),rfl,fun k p hp=>by
  obtain⟨_,rfl⟩:=oM _ _ hp;exact⟨rfl,rfl,h.Qz⟩,by rw[ml];exact sq,fun s hs=>(by rw[ml]at hs;cases hs),fun _=>⟨rfl,rfl⟩,fun e=>(by cases e),fun k p e hp he=>by cases he⟩
theorem fG.take(h:fG c x y l)(h0:x.wt=0):fG c {x with ba:=[]} {y with on:=false,dn:=[],hv:=[]} l:=by
 have hs:slots l=[]:=by
  cases e:slots l with
  |nil=>rfl
  |cons s r=>
   have h1:=XF (h.sf s (by rw[e];simp));have h2:=h.wt;omega
 exact⟨h.al,h.inc,h.Qz,h.tr,h.po,rfl,rfl,nt _,rfl,h0,fun d hd=>(by cases hd),h.ll,h.lc,h.sn,fun s hm=>(by rw[hs]at hm;cases hm),fun e=>⟨(h.dead e).1,rfl⟩,h.xl,h.ps⟩
theorem fG.step(h:fG c x y l){j:Nat}{p:eI}{e:th}(hp:l[j]?=some p)(he:x.ln[j]?=some e)(hq:p.q≠[])(n:qm):
  fG c (x.lg j (e.p.step n) e.pl) (y.fill (p.step n)) (l.set j (p.step n).p):=by
 obtain⟨g,gl⟩:=h.ps j p e hp he;cases hq':p.q with
 |nil=>exact absurd hq' hq
 |cons z r=>
 obtain⟨s1,s2,s3,s4,s5,s6,s7,s8,s9,s10,s11,s12⟩:=g.step n hq';have hlc:∀(k:Nat) (p':eI),(l.set j (p.step n).p)[k]?=some p'->p'.nd=k/\p'.c=c/\0<=p'.inc/\p'.inc<=59:=fun k p' hk=>by
  rcases bQ hk with⟨rfl,rfl⟩|⟨_,hk⟩
  ·have:=h.lc k p hp;grind
  ·exact h.lc k p' hk
 have QX:(l.set j (p.step n).p).length=2:=by rw[ff];exact h.ll
 have hal:y.al=true:=by
  cases e':y.al with
  |true=>rfl
  |false=>rw[(h.dead e').1]at he;cases he
 have hz:=h.sf z.sl (xI hp (by rw[hq'];simp));have hP:=nK hp;cases hdone:(p.step n).done with
 |false=>
  have e1:x.lg j (e.p.step n) e.pl={x with ln:=x.ln.set j ⟨(e.p.step n).2.2.1,e.pl⟩}:=by
   unfold mU.lg;rw[s3,hdone];rfl
  have e2:y.fill (p.step n)=y:=by unfold sN.fill;rw[hdone];rfl
  rw[e1,e2];have hP2:(slots (l.set j (p.step n).p)).Perm (slots l):=by
   grind [xH]
  refine⟨h.al,h.inc,h.Qz,h.tr,h.po,h.ba,h.hd,h.h8,h.on,h.wt,h.dl,QX,hlc,hP2.nodup_iff.2 h.sn,fun s hs=>h.sf s (hP2.mem_iff.1 hs),fun e'=>(by rw[hal]at e';cases e'),fun e'=>(ff ..).trans (h.xl e'),fun k p' e' hk hk'=>?_⟩;rcases bQ hk with⟨rfl,rfl⟩|⟨ne,hk⟩
  ·rw[mj,ee rfl,ee (aV he)]at hk';cases hk';refine⟨s5,?_⟩;have:=rj (List.map (fun i:Nat=>(i:Int))) (s8 hdone);rw[BE,BE]at this;exact gl.trans this.symm
  ·rw[mj,eg (fun e=>ne e.symm)]at hk';exact h.ps k p' e' hk hk'
 |true=>
  obtain⟨t1,t2⟩:=s7 hdone;have hpl:e.pl=(z.sl:Int)::r.map fun r=>(r.sl:Int):=by rw[gl,hq'];rfl
  have ho:=Gq hz;have hw:wrap64 (x.wt-1)=(opn (y.hv.set z.sl true):Nat):=by
   have h1:=h.wt;have h2:=abk y.hv;have h3:=h.hd;have h4:=h.h8;unfold wrap64;omega
  have e1:x.lg j (e.p.step n) e.pl={x with ln:=x.ln.set j ⟨(e.p.step n).2.2.1,r.map fun r=>(r.sl:Int)⟩,ba:=x.ba.set z.sl (e.p.step n).1,wt:=(opn (y.hv.set z.sl true):Nat)}:=by
   unfold mU.lg;grind
  have e2:y.fill (p.step n)={y with dn:=y.dn.set z.sl (p.step n).d,hv:=y.hv.set z.sl true}:=by
   unfold sN.fill;grind
  rw[e1,e2];have hPz:(slots l).Perm (z.sl::(r.map jr.sl++slots (l.eraseIdx j))):=by
   grind
  have hP2:(slots (l.set j (p.step n).p)).Perm (r.map jr.sl++slots (l.eraseIdx j)):=by
   grind [xH]
  have hnd:=As.1 (hPz.nodup_iff.1 h.sn);have agk:y.dn≠[]:=fun e'=>by
   rw[h.off e']at hz;cases hz
  refine⟨h.al,h.inc,h.Qz,h.tr,h.po,?_,by rw[ff,ff];exact h.hd,by rw[ff];exact h.h8,?_,rfl,fun d hd=>?_,QX,hlc,hP2.nodup_iff.2 hnd.2,fun s hs=>?_,fun e'=>(by rw[hal]at e';cases e'),fun e'=>(ff ..).trans (h.xl e'),fun k p' e' hk hk'=>?_⟩
  ·show(x.ba.set z.sl _).map gh.key=(y.dn.set z.sl _).map gh.key;rw[aF,aF,h.ba];unfold gh.key;rw[s1,s2]
  ·rw[h.onT.2 agk];simp_all
  ·rcases zp hd with hd|rfl
   ·exact h.dl d hd
   ·rw[<-s2];exact s12
  ·have hs:=hP2.mem_iff.1 hs;have hne:s≠z.sl:=fun e'=>hnd.1 (e'▸hs);rw[mj,eg (fun e'=>hne e'.symm)];exact h.sf s (hPz.mem_iff.2 (nm _ hs))
  ·rcases bQ hk with⟨rfl,rfl⟩|⟨ne,hk⟩
   ·grind
   ·rw[mj,eg (fun e=>ne e.symm)]at hk';exact h.ps k p' e' hk hk'
end
end
section
attribute [local go_sem] Oper.semAt_some
def Mz(f:Nat)(lines:Int)(W:World)(J:World->Prop):Prop:=
 ∃(NA:Option Addr) (nn nc:Nat),W.drew.cell? ⟨f,1,none⟩=some (.slice NA nn nc)/\Calls U' 18 #[.int .i64 lines] W.drew fun e w2=> ∃(WA:Option Addr) (wl wc:Nat) (B l' c':Nat) (W3 W4:World),e=.returned (.agg #[.slice WA wl wc,.bool true])/\w2.cell? ⟨f,1,none⟩=some (.slice NA nn nc)/\(∀o,(w2.alloc o).cell? ⟨f,1,none⟩=some (.slice NA nn nc))/\
  Hid (∀ty,(Builtin.append_ #[53,53] ty #[.slice NA nn nc,.slice (some ⟨w2.heap.size,0,none⟩) 1 1]).run U' (w2.alloc (.cells #[.slice WA wl wc,.bool true] 61))=.ok (.slice (some ⟨B,0,none⟩) l' c') W3)/\St W3 f 1 (.slice (some ⟨B,0,none⟩) l' c') W4/\J W4
def Uu(f c:Nat)(W:World)(J:World->Prop):Prop:=
 ∃(CA:Option Addr) (cn cc B l' c':Nat) (W3 W4:World) (LA:Option Addr) (ln lc B2 l2 c2:Nat) (W5 W6:World),W.cell? ⟨f,2,none⟩=some (.slice CA cn cc)/\
  Hid (∀ty,(Builtin.append_ #[54,54] ty #[.slice CA cn cc,.slice (some ⟨W.heap.size,0,none⟩) 1 1]).run U' (W.alloc (.cells #[.bool true,.int .i64 1,.bool false,.slice none 0 0,.slice none 0 0,.int .i64 0,.int .i64 0] 66))=.ok (.slice (some ⟨B,0,none⟩) l' c') W3)/\St W3 f 2 (.slice (some ⟨B,0,none⟩) l' c') W4/\
  W4.cell? ⟨f,3,none⟩=some (.slice LA ln lc)/\Hid (∀ty,(Builtin.append_ #[55,55] ty #[.slice LA ln lc,.slice (some ⟨W4.heap.size,0,none⟩) 1 1]).run U' (W4.alloc (.cells #[.slice none 0 0] 56))=.ok (.slice (some ⟨B2,0,none⟩) l2 c2) W5)/\St W5 f 3 (.slice (some ⟨B2,0,none⟩) l2 c2) W6/\
  Calls U' 19 #[.pointer (some ⟨f,0,none⟩),.int .i64 (c:Int)] W6 fun e w'=>e=.returned (.tuple #[])/\J w'
theorem abl:U'.funcs[18]?=some Tryz.f18:=by kernel_rfl
set_option maxHeartbeats 4000000 in
set_option maxRecDepth 1000000 in
theorem QB(n m:Nat)(lines:Int)(W:World)(J J2:Nat->World->Prop)(hn:n<=1000)(hm:m<=1000)(hJ:J 0 (W.alloc (.cells #[.int .i64 lines,.slice none 0 0,.slice none 0 0,.slice none 0 0,.slice none 0 0] 58)))(hR:∀i W',i<n->J i W'->Mz W.heap.size lines W' (J (i+1)))
  (M4:∀W',J n W'->J2 0 W') (ux:∀i W',i<m->J2 i W'->Uu W.heap.size i W' (J2 (i+1))):
  Calls U' 7 #[.int .i64 (n:Int),.int .i64 (m:Int),.int .i64 lines] W fun e w'=>e=.returned (.pointer (some ⟨W.heap.size,0,none⟩))/\J2 m w':=by
 have mixed:U'.follows .mixedOrders=true:=by kernel_rfl
 have HR:Hid (∀i W',i<n->J i W'->Mz W.heap.size lines W' (J (i+1))):=hR;have H12:Hid (∀W',J n W'->J2 0 W'):=M4;have Mi:Hid (∀i W',i<m->J2 i W'->Uu W.heap.size i W' (J2 (i+1))):=ux;clear hR M4 ux
 go_enter Tryz.func7,Tryz.ntmps7
 go_wp2
 go_loopg [8] n (fun g s8 W=> ∃i:Nat,i+g=n/\s8=.int .i64 i/\J i W)
 case atStart=>exact⟨0,by omega,rfl,hJ⟩
 case round=>
  obtain⟨i,hig,rfl,hI⟩:=hrel;clear hJ;cases gk with
  |succ g=>
   have hi:i<n:=by omega
   have zP:(i:Int)<(n:Int):=by omega
   have hw:wrap64 ((i:Int)+1)=((i+1:Nat):Int):=by rw[mZ,aD];omega
   obtain⟨NA,nn,nc,q0,hcall⟩:=HR.out i wr hi hI;clear HR H12 Mi hI
   go_wp2
   go_region_law_o (first|(refine Cf rfl 18 _ _ rfl _ (by simp[Act.eval,Act.put]) hcall abl (by kernel_rfl) (by kernel_rfl) ?_;clear hcall;rintro e w2 ⟨WA,wl,wc,B,l',c',W3,W4,rfl,q1,q2,hap,⟨f0,⟨y0,f1⟩,f2⟩,hK⟩;refine⟨_,rfl,?_⟩)|(refine aH rfl (.tmp 22) (.tmp 25) 53 53 rfl _ _ (by simp[Act.eval,Act.put]) (by simp[Act.eval,Act.put]) (hap.out _) ?_))
   all_goals
    go_wp2
    go_roundg g
    case measure=>omega
    case rel=>exact⟨i+1,by omega,by first|rfl|rw[hw],hK⟩
  |zero=>
   obtain rfl:i=n:=by omega
   have qB:=H12.out _ hI;clear HR H12 hI
   go_wp2
   go_loopg [9] m (fun g s9 W=> ∃j:Nat,j+g=m/\s9=.int .i64 j/\J2 j W)
   case atStart=>exact⟨0,by omega,rfl,qB⟩
   case round=>
    obtain⟨j,hjg,rfl,PQ⟩:=hrel;clear qB;cases gk with
    |succ g=>
     have hj:j<m:=by omega
     have hjI:(j:Int)<(m:Int):=by omega
     have hw:wrap64 ((j:Int)+1)=((j+1:Nat):Int):=by rw[mZ,aD];omega
     obtain⟨CA,cn,cc,B,l',c',W3,W4,LA,ln,lc,B2,l2,c2,W5,W6,q0,zo,⟨f0,⟨y0,f1⟩,f2⟩,q1,sM,⟨f3,⟨y3,f4⟩,f5⟩,hcall⟩:=Mi.out j wr hj PQ;clear Mi PQ
     go_wp2_with (first|(go_at_call 19;refine da hcall ?_;clear hcall;rintro e w' ⟨rfl,hK⟩)|(at_builtin;refine Lib.wpList_append_run _ rfl _ _ _ _ rfl _ _ rfl rfl _ _ (zo.out _) ?_)|(at_builtin;refine Lib.wpList_append_run _ rfl _ _ _ _ rfl _ _ rfl rfl _ _ (sM.out _) ?_))
     go_roundg g
     case measure=>omega
     case rel=>exact⟨j+1,by omega,by first|rfl|rw[hw],hK⟩
    |zero=>
     obtain rfl:j=m:=by omega
     clear Mi
     go_wp2
     go_ret
     exact⟨rfl,PQ⟩
end
section
attribute [local go_sem] Oper.semAt_some
theorem ad8:∃fs,U'.underlying 61=some (.struct fs):=by
 have h:(match U'.underlying 61 with|some (.struct _)=>true|_=>false)=true:=by kernel_rfl
 revert h;generalize U'.underlying 61=x;intro h
 match x,h with
 |some (.struct fs),_=>exact⟨fs,rfl⟩
theorem Dj{P:Program}{fn:Func}{p:Tmp}{ty:TypeId}(h:fn.results= #[.cell p ty])(tmps:Array Value)(w:World)(g:Nat)(t:TypeId)(cs:Array Value)(fr:Nat×Nat)(d:TypeDesc)
  (hp:tmps.getD p undef=.pointer (some ⟨g,0,none⟩)) (hg:w.heap[g]?=some (.cells cs t fr))
  (hu:P.underlying ty=some d) (hd:(match d with| .struct _| .array _ _=>true|_=>false)=true) (hi:(P.info? ty).map (·.size)=some cs.size):
  (results fn tmps).run P w=.ok (.agg cs) w:=by
 have hp':tmps[p]?.getD undef=.pointer (some ⟨g,0,none⟩):=by simpa using hp
 simp[results,h,hp',asAddr,run_loadVar_row w g t ty cs fr d hg hu hd hi]
set_option maxHeartbeats 4000000 in
set_option maxRecDepth 1000000 in
theorem Gr(lines m b:Nat)(W W2 W3 W4:World)(hm:m=lines*8)(hl:lines<=1000)(hmk:Mk 59 m b (W.alloc (.cells #[.slice none 0 0,.bool false] 61)) W2)(s3:St W2 W.heap.size 0 (.slice (some ⟨b,0,none⟩) m m) W3)(s4:St W3 W.heap.size 1 (.bool true) W4)
  (hH:W4.heap[W.heap.size]?=some (.cells #[.slice (some ⟨b,0,none⟩) m m,.bool true] 61 (0,0))):
  Calls U' 18 #[.int .i64 (lines:Int)] W fun e w'=>e=.returned (.agg #[.slice (some ⟨b,0,none⟩) m m,.bool true])/\w'=W4:=by
 have mixed:U'.follows .mixedOrders=true:=by kernel_rfl
 obtain⟨f0,⟨y0,f1⟩,f2⟩:=s3;obtain⟨f3,⟨y3,f4⟩,f5⟩:=s4;subst hm;unfold Mk at hmk;have hw:wrap64 ((lines:Int)*8)=(lines:Int)*8:=by rw[mZ,aD];omega
 rw[show((lines*8:Nat):Int)=(lines:Int)*8 by omega]at hmk;obtain⟨fs,hu⟩:=ad8
 go_enter Tryz.func18,Tryz.ntmps18
 go_wp2
 exact pB (Dj rfl _ _ W.heap.size 61 _ (0,0) _ rfl hH hu rfl (by kernel_rfl)) rfl ⟨rfl,rfl⟩
variable{w0 W:World}{μ:Mu}{I J:Ky->Option ag}{t fb:Nat}
theorem QC(m:Nat):bJ μ 1 ((List.replicate m (0:Int)).map wr) (madeCells (Value.int .u64 0).cells (m*1)):=by
 refine⟨fun e he=>?_,fun k e j u he hu=>?_⟩
 ·obtain⟨d,hd,rfl⟩:=pw.1 he;rfl
 ·rw[et,uc]at he;by_cases hk:k<m
  ·rw[ee hk]at he;cases he;have hj:=aV hu
   match j,hj with
   |0,_=>
    cases hu;refine⟨.int .u64 0,?_,.v rfl⟩;rw[rJ _ _ _ (by omega),show(k*1+0) % (Value.int .u64 0).cells.size=0 from Nat.mod_one _];rfl
  ·rw[eg hk]at he;cases he
theorem MA(hK:az w0 μ I W)(k:Ky)(hk:k≠(t,.tmp 0))(hl:lines<=1000):
  Calls U' 18 #[.int .i64 (lines:Int)] W fun e w'=> ∃b,e=.returned (.agg #[.slice (some ⟨b,0,none⟩) (lines*8) (lines*8),.bool true])/\∃J,az w0 μ J w'/\J k=some (aE b (lines*8) 69 1 ((List.replicate (lines*8) (0:Int)).map wr))/\(∀k',k'≠k->k'≠(t,.tmp 0)->J k'=I k'):=by
 have hK1:=hK.alloc (t,.tmp 0) (cs:=[.v (.slice none 0 0),.v (.bool false)]) (cur:= #[.slice none 0 0,.bool false]) (ty:=61) (.cons (F:=[]) (F':=[]) (.d (.v rfl)) (.cons (F:=[]) (F':=[]) (.d (.v rfl)) .nil));obtain⟨Inf,hI,vR,qD,yJ⟩:=i69;have hmk:=Pd (P:=U') (w:=W.alloc (.cells #[.slice none 0 0,.bool false] 61)) 59 69 Inf (.int .u64 0) u59 hI vR .i64 .i64 (lines*8:Nat) (lines*8:Nat) (by omega) (by omega) (by rw[qD];omega) (by rw[yJ];omega) (by omega);rw[qD,kb]at hmk;have bq:=hK1.rE k (T:=69) (c:=lines*8) (sz:=1) (xs:=(List.replicate (lines*8) (0:Int)).map wr) (yv (Value.int .u64 0).cells (lines*8*1)) (by rw[ab,ta];exact dk _) (QC _);rw[mP]at bq hmk;obtain⟨w3,F3,Q6,_,du⟩:=bq.Jw (k:=(t,.tmp 0)) ((ae _ _ fun e=>hk e.symm).trans (af _ _ _)) (j:=0) rfl (a:=.v (.slice (some ⟨W.heap.size+1,0,none⟩) (lines*8) (lines*8))) (v:=.slice (some ⟨W.heap.size+1,0,none⟩) (lines*8) (lines*8)) (.v rfl);obtain⟨w4,F4,st4,_,eX⟩:=du.Jw (af _ _ _) (j:=1) rfl (a:=.v (.bool true)) (v:=.bool true) (.v rfl);refine(Gr lines (lines*8) (W.heap.size+1) W _ w3 w4 rfl hl hmk Q6 st4 (eX.plain (vs:=[.slice (some ⟨W.heap.size+1,0,none⟩) (lines*8) (lines*8),.bool true]) (af _ _ _))).mono fun e w' he=>?_;obtain⟨rfl,rfl⟩:=he;refine⟨_,rfl,_,eX,?_,fun k' g1 g2=>?_⟩
 ·rw[ae _ _ hk,ae _ _ hk,af]
 ·rw[ae _ _ g2,ae _ _ g2,ae _ _ g1,ae _ _ g2]
end
section
variable{w0 W:World}{μ:Mu}{I J:Ky->Option ag}{t fb:Nat}{s:gm}
theorem i61:(U'.info? 61).map (fun i=>(i.zero,i.size,i.bytes))=some (some (.agg #[.slice none 0 0,.bool false]),2,32):=by kernel_rfl
theorem i66:(U'.info? 66).map (fun i=>(i.zero,i.size,i.bytes))=some (some (.agg #[.bool false,.int .i64 0,.bool false,.slice none 0 0,.slice none 0 0,.int .i64 0,.int .i64 0]),7,88):=by kernel_rfl
theorem i56:(U'.info? 56).map (fun i=>(i.zero,i.size,i.bytes))=some (some (.slice none 0 0),1,24):=by kernel_rfl
theorem u53:U'.underlying 53=some (.slice 61):=by kernel_rfl
theorem u54:U'.underlying 54=some (.slice 66):=by kernel_rfl
theorem u55:U'.underlying 55=some (.slice 56):=by kernel_rfl
def XH(lines:Nat):qm:=⟨List.replicate (lines*8) 0,false⟩
def rc0:sN:=⟨true,1,false,[],[],0,0⟩
def gP.part(lines i n c:Nat):gP:=⟨lines,List.replicate i (XH lines),List.replicate c rc0,(List.range c).map fun k=>iP k 1 n,[]⟩
def gP.new(n m lines:Nat):gP:=gP.part lines n n m
def QD(b lines:Nat):qE:=⟨.slice (some ⟨b,0,none⟩) (lines*8) (lines*8),XH lines⟩
def MD:lP:=⟨.slice none 0 0,.slice none 0 0,rc0⟩
def QE:mW:=⟨.slice none 0 0,[]⟩
theorem mS{α:Type}{l:List α}{x y:α}(h:(l++[x])[j]?=some y):l[j]?=some y\/(j=l.length/\y=x):=by
 grind
theorem XI(hl:lines<=1000)(hi:i<=1000)(hJ:mX t w0 μ I fb (gP.part lines i n 0) W):Mz fb (lines:Int) W (mX t w0 μ I fb (gP.part lines (i+1) n 0)):=by
 obtain⟨μ1,I',s,iT,hK,hR,hD,ha,ho⟩:=hJ;have wH:s.nd.length=i:=by
  have:=rj (fun a:gP=>a.nd.length) ha;simpa [gm.a,gP.part]using this
 obtain⟨NA,nc,lk⟩:=Row.len hR.gO;obtain⟨F,dF⟩:=hR.cM;have c1:∀{μ':Mu} {J:Ky->Option ag} {W':World},az w0 μ' J W'->J (t,.cM)=I' (t,.cM)->W'.cell? ⟨fb,1,none⟩=some (.slice NA s.nd.length nc):=fun{μ' J W'} hk e=>by
  have:=hk.cell (e.trans dF) (j:=1) rfl;rwa [lk]at this
 refine⟨NA,s.nd.length,nc,c1 hK.drew rfl,(MA (t:=t) hK.drew (t,.dG i) (aa fun e=>by cases e) hl).mono fun e w2 he=>?_⟩;obtain⟨b,rfl,J2,bq,aa5,Gw⟩:=he;have IL:J2 (t,.cM)=I' (t,.cM):=Gw _ (aa fun e=>by cases e) (aa fun e=>by cases e);have yC:Row J2 (t,.gO) s.nv 61 2 (s.nd.map qE.row):=hR.gO.same (Gw _ (aa fun e=>by cases e) (aa fun e=>by cases e));rw[lk]at yC;obtain⟨Inf,q1,q2,q3,q4⟩:=Go.Ev.info_parts (P:=U') i61;have wy:=bq.bw (ar.alloc w2 (.cells #[.slice (some ⟨b,0,none⟩) (lines*8) (lines*8),.bool true] 61));obtain⟨B,c',W3,hrun,du,_,_⟩:=wy.ua (P:=U') (es:=qE.row (QD b lines)) yC u53 q1 q2 q3 (by omega) (by omega) rfl (by rw[ab];omega) (Ev.aZ w2 _) rfl (fun v hv=>by
  simp only[ft,dt,re]at hv;rcases hv with rfl|rfl<;>rfl) rfl fun jj u x hu hx=>by
  match jj with
  |0=>cases hu;cases hx;exact .v rfl
  |1=>cases hu;cases hx;exact .v rfl
  |n+2=>cases hu
 rw[ab]at hrun;rw[show s.nd.map qE.row++[qE.row (QD b lines)]=(s.nd++[(QD b lines)]).map qE.row by rw[im];rfl]at du;have hf3:=(ae J2 (some (aE B c' 61 2 ((s.nd++[(QD b lines)]).map qE.row))) (aa (t:=t) (a:=.cM) (b:=.gO) fun e=>by cases e)).trans (IL.trans dF);obtain⟨W4,F4,st,_,eX⟩:=du.Jw hf3 (j:=1) rfl (a:=.v (.slice (some ⟨B,0,none⟩) (s.nd.length+1) c')) (v:=.slice (some ⟨B,0,none⟩) (s.nd.length+1) c') (.v rfl);have hn:∀k:FK,k≠ .cM->k≠ .gO->k≠ .dG i->k≠ .tmp 0->put (put J2 (t,.gO) (some (aE B c' 61 2 ((s.nd++[(QD b lines)]).map qE.row)))) (t,.cM) (some (bG fb F4 58 (s.cells.set 1 (.v (.slice (some ⟨B,0,none⟩) (s.nd.length+1) c'))))) (t,k)=I' (t,k):=fun k g1 g2 g3 g4=>by
  simp_all [ae,aa]
 refine⟨_,_,_,B,s.nd.length+1,c',W3,W4,rfl,c1 bq IL,fun o=>c1 (bq.bw (ar.alloc _ o)) IL,hrun,st,μ1,_,{s with nv:=.slice (some ⟨B,0,none⟩) (s.nd.length+1) c',nd:=s.nd++[(QD b lines)]},iT,eX,⟨⟨F4,af _ _ _⟩,.inr ⟨B,c',?_,?_⟩,fun j m hm=>?_,hR.cls.same (hn _ (fun e=>by cases e) (fun e=>by cases e) (fun e=>by cases e) fun e=>by cases e),fun c x hx=>(hR.mO c x hx).same (hn _ (fun e=>by cases e) (fun e=>by cases e) (fun e=>by cases e) fun e=>by cases e),
  fun c x hx=>(hR.Dx c x hx).same (hn _ (fun e=>by cases e) (fun e=>by cases e) (fun e=>by cases e) fun e=>by cases e),hR.PU.same (hn _ (fun e=>by cases e) (fun e=>by cases e) (fun e=>by cases e) fun e=>by cases e),fun c l hl=>(hR.lu c l hl).same (hn _ (fun e=>by cases e) (fun e=>by cases e) (fun e=>by cases e) fun e=>by cases e),hR.lO.same (hn _ (fun e=>by cases e) (fun e=>by cases e) (fun e=>by cases e) fun e=>by cases e)⟩,⟨hD.ln,hD.os⟩,?_,fun k hk=>?_⟩
 ·grind
 ·grind [ae,aa,af]
 ·rcases mS hm with hm|⟨rfl,rfl⟩
  ·have hj:=aV hm;exact(hR.dG j m hm).same (hn _ (fun e=>by cases e) (fun e=>by cases e) (fun e=>by cases e;omega) fun e=>by cases e)
  ·refine .inr ⟨b,lines*8,?_,?_⟩
   ·show _=Value.slice _ ((List.replicate (lines*8) (0:Int)).map wr).length _;rw[ab,ta];rfl
   ·rw[ae _ _ (aa fun e=>by cases e),ae _ _ (aa fun e=>by cases e),wH];exact aa5
 ·have h1:s.a.nd=List.replicate i (XH lines):=rj gP.nd ha;have h1':s.nd.map qE.a=List.replicate i (XH lines):=h1;have h2:s.a=gP.part lines i n 0:=ha;unfold gm.a at h2⊢;simp only[im,h1']at h2⊢;unfold gP.part at h2⊢;simp only[gP.mk.injEq]at h2⊢;refine⟨h2.1,?_,h2.2.2⟩;rw[TO];rfl
 ·rw[ae _ _ (fun e=>hk (by rw[e])),ae _ _ (fun e=>hk (by rw[e]))];simp_all
theorem abm{c:Nat}(hn:n<=1000)(hc:c<=1000)(hJ:mX t w0 μ I fb (gP.part lines n n c) W):Uu fb c W (mX t w0 μ I fb (gP.part lines n n (c+1))):=by
 obtain⟨μ1,I',s,iT,hK,hR,hD,ha,ho⟩:=hJ;have wH:s.nd.length=n:=by
  have:=rj (fun a:gP=>a.nd.length) ha;simpa [gm.a,gP.part]using this
 have hcl:s.cl.length=c:=by
  have:=rj (fun a:gP=>a.cl.length) ha;simpa [gm.a,gP.part]using this
 have QX:s.ln.length=c:=by
  have:=rj (fun a:gP=>a.ln.length) ha;simpa [gm.a,gP.part]using this
 obtain⟨CA,cc,fI⟩:=Row.len hR.cls;obtain⟨LA,lc,hlv⟩:=Row.len hR.PU;obtain⟨F,dF⟩:=hR.cM;have q2:=hR.c2 hK;rw[fI]at q2;have hrc:=hR.cls;rw[fI]at hrc;obtain⟨Inf,p1,p2,p3,p4⟩:=Go.Ev.info_parts (P:=U') i66;have wy:=hK.bw (ar.alloc W (.cells #[.bool true,.int .i64 1,.bool false,.slice none 0 0,.slice none 0 0,.int .i64 0,.int .i64 0] 66));obtain⟨B,c',W3,hrun,du,_,_⟩:=wy.ua (P:=U') (es:=lP.row MD) hrc u54 p1 p2 p3 (by omega) (by omega) rfl (by rw[ab];omega) (Ev.aZ W _) rfl (fun v hv=>by
  simp only[ft,dt,re]at hv;rcases hv with rfl|rfl|rfl|rfl|rfl|rfl|rfl<;>rfl) rfl fun jj u x hu hx=>by
  match jj with
  |0=>cases hu;cases hx;exact .v rfl
  |1=>cases hu;cases hx;exact .v rfl
  |2=>cases hu;cases hx;exact .v rfl
  |3=>cases hu;cases hx;exact .v rfl
  |4=>cases hu;cases hx;exact .v rfl
  |5=>cases hu;cases hx;exact .v rfl
  |6=>cases hu;cases hx;exact .v rfl
  |n+7=>cases hu
 rw[ab]at hrun;rw[show s.cl.map lP.row++[lP.row MD]=(s.cl++[MD]).map lP.row by rw[im];rfl]at du;obtain⟨I3,qC⟩:∃I3,I3=put I' (t,.cls) (some (aE B c' 66 7 ((s.cl++[MD]).map lP.row))):=⟨_,rfl⟩;rw[<-qC]at du;have hf3:I3 (t,.cM)=some (bG fb F 58 s.cells):=by simp_all [ae,aa]
 obtain⟨W4,F4,st4,_,eX⟩:=du.Jw hf3 (j:=2) rfl (a:=.v (.slice (some ⟨B,0,none⟩) (s.cl.length+1) c')) (v:=.slice (some ⟨B,0,none⟩) (s.cl.length+1) c') (.v rfl);have q3:=eX.cell (af _ _ _) (j:=3) (x:=s.lv) rfl;rw[hlv]at q3;have hrl:Row (put I3 (t,.cM) (some (bG fb F4 58 (s.cells.set 2 (.v (.slice (some ⟨B,0,none⟩) (s.cl.length+1) c')))))) (t,.kC 0) s.lv 56 1 (s.ln.map mW.row):=hR.PU.same (by simp_all [ae,aa]);rw[hlv]at hrl;obtain⟨ahe,r1,r2,r3,r4⟩:=Go.Ev.info_parts (P:=U') i56;have hKb:=eX.bw (ar.alloc W4 (.cells #[.slice none 0 0] 56));obtain⟨B2,c2,W5,Zw,uw,_,_⟩:=hKb.ua (P:=U') (es:=mW.row QE) hrl u55 r1 r2 r3 (by omega) (by omega) rfl (by rw[ab];omega) (Ev.aZ W4 _) rfl (fun v hv=>by
  simp only[ft,dt,re]at hv;rcases hv with rfl;rfl) rfl fun jj u x hu hx=>by
  match jj with
  |0=>cases hu;cases hx;exact .v rfl
  |n+1=>cases hu
 rw[ab]at Zw;rw[show s.ln.map mW.row++[mW.row QE]=(s.ln++[QE]).map mW.row by rw[im];rfl]at uw;obtain⟨W6,F6,st6,_,Tx⟩:=uw.Jw ((ae _ _ (aa (t:=t) (a:=.cM) (b:=.kC 0) fun e=>by cases e)).trans (af _ _ _)) (j:=3) rfl (a:=.v (.slice (some ⟨B2,0,none⟩) (s.ln.length+1) c2)) (v:=.slice (some ⟨B2,0,none⟩) (s.ln.length+1) c2) (.v rfl);obtain⟨J6,hJ6⟩:∃J6,J6=put (put (put I3 (t,.cM) (some (bG fb F4 58 (s.cells.set 2 (.v (.slice (some ⟨B,0,none⟩) (s.cl.length+1) c')))))) (t,.kC 0) (some (aE B2 c2 56 1 ((s.ln++[QE]).map mW.row)))) (t,.cM) (some (bG fb F6 58 ((s.cells.set 2 (.v (.slice (some ⟨B,0,none⟩) (s.cl.length+1) c'))).set 3 (.v (.slice (some ⟨B2,0,none⟩) (s.ln.length+1) c2))))):=⟨_,rfl⟩;rw[<-hJ6]at Tx;have hne:∀k:FK,k≠ .cM->k≠ .cls->k≠ .kC 0->J6 (t,k)=I' (t,k):=fun k g1 g2 g3=>by
  simp_all [ae,aa]
 obtain⟨s6,hs6⟩:∃s6:gm,s6={s with cv:=.slice (some ⟨B,0,none⟩) (s.cl.length+1) c',cl:=s.cl++[MD],lv:=.slice (some ⟨B2,0,none⟩) (s.ln.length+1) c2,ln:=s.ln++[QE]}:=⟨_,rfl⟩;have hR6:eM t J6 fb s6:=by
  rw[hs6];refine⟨⟨F6,by rw[hJ6,af];rfl⟩,hR.gO.same (hne _ (fun e=>by cases e) (fun e=>by cases e) fun e=>by cases e),fun j m hm=>(hR.dG j m hm).same (hne _ (fun e=>by cases e) (fun e=>by cases e) fun e=>by cases e),.inr ⟨B,c',?_,?_⟩,fun d x hx=>?_,fun d x hx=>?_,.inr ⟨B2,c2,?_,?_⟩,fun d l hl=>?_,hR.lO.same (hne _ (fun e=>by cases e) (fun e=>by cases e) fun e=>by cases e)⟩
  ·grind
  ·simp_all [ae,aa,af]
  ·rcases mS hx with hx|⟨rfl,rfl⟩
   ·exact(hR.mO d x hx).same (hne _ (fun e=>by cases e) (fun e=>by cases e) fun e=>by cases e)
   ·exact .inl ⟨rfl,rfl⟩
  ·rcases mS hx with hx|⟨rfl,rfl⟩
   ·exact(hR.Dx d x hx).same (hne _ (fun e=>by cases e) (fun e=>by cases e) fun e=>by cases e)
   ·exact .inl ⟨rfl,rfl⟩
  ·grind
  ·simp_all [ae,aa,af]
  ·rcases mS hl with hl|⟨rfl,rfl⟩
   ·exact(hR.lu d l hl).same (hne _ (fun e=>by cases e) (fun e=>by cases e) fun e=>by cases e)
   ·exact .inl ⟨rfl,rfl⟩
 have hD6:wz μ1 s6:=by
  rw[hs6];refine⟨fun d l hl p hp=>?_,hD.os⟩;rcases mS hl with hl|⟨rfl,rfl⟩
  ·exact hD.ln d l hl p hp
  ·cases hp
 have hx6:s6.cl[c]?=some MD:=by
  grind
 have hl6:s6.ln[c]?=some QE:=by
  grind
 have agl:s6.nd.length=n:=by rw[hs6];exact wH
 refine⟨CA,s.cl.length,cc,B,s.cl.length+1,c',W3,W4,LA,s.ln.length,lc,B2,s.ln.length+1,c2,W5,W6,q2,hrun,st4,q3,Zw,st6,(vW Tx hR6 hD6 hx6 hl6 (by omega)).mono fun e w' he=>⟨he.1,?_⟩⟩;have h7:=he.2.from iT (I:=I) fun k hk=>by
  rw[hJ6,ae _ _ (fun e=>hk (by rw[e])),ae _ _ (fun e=>hk (by rw[e])),ae _ _ (fun e=>hk (by rw[e])),qC,ae _ _ (fun e=>hk (by rw[e]))];exact ho k hk
 have e:{s6.a with ln:=s6.a.ln.set c (iP c MD.a.inc s6.nd.length)}=gP.part lines n n (c+1):=by
  have h2:s.a=gP.part lines n n c:=ha;rw[agl,hs6];unfold gm.a at h2⊢;unfold gP.part at h2⊢;simp only[gP.mk.injEq,im]at h2⊢;obtain⟨g1,g2,g3,g4,g5⟩:=h2;refine⟨g1,g2,?_,?_,g5⟩
  ·rw[g3,TO];rfl
  ·rw[g4,S4,im,Hi _ _ (by simp),ab,ahi,Hh];rfl
 rw[e]at h7;exact h7
theorem XJ(hK:az w0 μ I W){m:Nat}(hn:n<=1000)(hm:m<=1000)(hl:lines<=1000):
  Calls U' 7 #[.int .i64 (n:Int),.int .i64 (m:Int),.int .i64 (lines:Int)] W fun e w'=> ∃fb,e=.returned (ptr fb)/\mX t w0 μ I fb (gP.new n m lines) w':=by
 have hK1:=hK.alloc (t,.cM) (cs:=[Q' (lines:Int),.v (.slice none 0 0),.v (.slice none 0 0),.v (.slice none 0 0),.v (.slice none 0 0)]) (cur:= #[.int .i64 (lines:Int),.slice none 0 0,.slice none 0 0,.slice none 0 0,.slice none 0 0]) (ty:=58) (.cons (F:=[]) (F':=[]) (.d (.v rfl)) (.cons (F:=[]) (F':=[]) (.d (.v rfl)) (.cons (F:=[]) (F':=[]) (.d (.v rfl)) (.cons (F:=[]) (F':=[]) (.d (.v rfl)) (.cons (F:=[]) (F':=[]) (.d (.v rfl)) .nil)))));refine(QB n m (lines:Int) W (fun i W'=>mX t w0 μ I W.heap.size (gP.part lines i n 0) W') (fun c W'=>mX t w0 μ I W.heap.size (gP.part lines n n c) W') hn hm ?_ (fun i W' hi hJ=>XI hl (by omega) hJ) (fun W' hJ=>hJ) fun c W' hc hJ=>abm hn (by omega) hJ).mono fun e w' he=>⟨_,he.1,he.2⟩;refine⟨μ,_,⟨(lines:Int),.slice none 0 0,[],.slice none 0 0,[],.slice none 0 0,[],.slice none 0 0,[]⟩,ak.refl _,hK1,⟨⟨_,af _ _ _⟩,.inl ⟨rfl,rfl⟩,fun i n hn=>(by simp at hn),.inl ⟨rfl,rfl⟩,fun c x hx=>(by simp at hx),fun c x hx=>(by simp at hx),.inl ⟨rfl,rfl⟩,fun c x hx=>(by simp at hx),.inl ⟨rfl,rfl⟩⟩,⟨fun c l hl=>(by simp at hl),fun p hp=>(by cases hp)⟩,rfl,fun k hk=>ae _ _ fun e=>hk (by rw[e])⟩
end
section
structure PoS(c i:Nat)(ln:List th)(l:List eI):Prop where
 n1:ln.length=2
 n2:l.length=2
 lc:∀(k:Nat) (p:eI),l[k]?=some p->p.nd=k/\p.c=c/\p.q.length<=i/\0<=p.inc/\p.inc<=59
 sn:(slots l).Nodup
 sf:∀s∈slots l,s<i
 ps:∀(k:Nat) (p:eI) (e:th),l[k]?=some p->ln[k]?=some e->rN 12 e.p p/\e.pl=p.q.map fun r=>(r.sl:Int)
theorem PoS.post{c i:Nat}{ln:List th}{l:List eI}(h:PoS c i ln l)(hi:i<1000){v:Vb}(hw:v.Wf)(hb:v.eT 2 12=0):PoS c (i+1) (nZ 12 ln i v) (mg l i v):=by
 obtain⟨b0,b1,b2⟩:=BW (by omega) hb;have hg:v.Good ((12:Nat):Int):=jh.1 b0;have h1:=h.n1;have h2:=h.n2;have hk:v.node.toNat<2:=by omega
 obtain⟨e,he⟩:∃e,ln[v.node.toNat]?=some e:=⟨_,ao (by omega)⟩;obtain⟨p,hp⟩:∃p,l[v.node.toNat]?=some p:=⟨_,ao (by omega)⟩;have e1:nZ 12 ln i v=ln.set v.node.toNat ⟨e.p.post v 12,e.pl++[(i:Int)]⟩:=by unfold nZ;rw[he]
 have e2:mg l i v=l.set v.node.toNat {p with q:=p.q++[⟨v,0,[],i⟩]}:=by unfold mg;rw[hp]
 rw[e1,e2];obtain⟨g1,g2⟩:=h.ps _ p e hp he;obtain⟨g3,g4,g5,g6⟩:=h.lc _ p hp;have hP:(slots (l.set v.node.toNat {p with q:=p.q++[⟨v,0,[],i⟩]})).Perm (i::slots l):=by
  grind [xH,List.Perm.append_right,List.perm_append_comm,nK]
 refine⟨(ff ..).trans h.n1,(ff ..).trans h.n2,fun k p' hk'=>?_,hP.nodup_iff.2 (As.2 ⟨fun hm=>absurd (h.sf i hm) (Nat.lt_irrefl i),h.sn⟩),fun s hs=>?_,fun k p' e' hk' hke=>?_⟩
 ·rcases bQ hk' with⟨rfl,rfl⟩|⟨_,hk'⟩
  ·grind
  ·obtain⟨a,b,d,g⟩:=h.lc k p' hk';grind
 ·rcases ft.1 (hP.mem_iff.1 hs)with rfl|hs
  ·omega
  ·have:=h.sf s hs;omega
 ·rcases bQ hk' with⟨rfl,rfl⟩|⟨ne,hk'⟩
  ·rw[mj,ee rfl,ee (aV he)]at hke;cases hke;refine⟨g1.post hw hg (by rw[g3];omega) (by omega) i,?_⟩;grind
  ·rw[mj,eg (fun e=>ne e.symm)]at hke;exact h.ps k p' e' hk' hke
theorem PoS.all{c:Nat}{ln:List th}{l:List eI}{vs:List Vb}(h:PoS c 0 ln l)(hl:vs.length<=8)(hg:∀u∈vs,u.Wf/\u.eT 2 12=0):∀i,i<=vs.length->PoS c i (gy 12 vs ln i) (ew vs l i)
 |0,_=>h
 |i+1,hi=>by
  have ih:=h.all hl hg i (by omega);obtain⟨v,hv⟩:∃v,vs[i]?=some v:=⟨_,ao (by omega)⟩;have:=hg v (dp hv);unfold gy ew;rw[hv];exact ih.post (by omega) this.1 this.2
theorem fG.start{c:Nat}{x:mU}{y:sN}{l:List eI}(h:fG c x y l)(hal:y.al=true)(hd:y.dn=[]):PoS c 0 x.ln l:=
 ⟨h.xl hal,h.ll,fun k p hp=>⟨(h.lc k p hp).1,(h.lc k p hp).2.1,by rw[sE (h.noS hd) hp];exact dk _,(h.lc k p hp).2.2⟩,h.sn,fun s hs=>(by rw[h.noS hd]at hs;cases hs),h.ps⟩
theorem fG.post{c:Nat}{x:mU}{y:sN}{l:List eI}(h:fG c x y l)(hal:y.al=true)(hd:y.dn=[])(hl:1<=vs.length/\vs.length<=8)(hg:∀u∈vs,u.Wf/\u.eT 2 12=0):
  fG c (x.post 12 vs) (y.post vs.length) (ew vs l vs.length):=by
 have hP:=(h.start hal hd).all hl.2 hg vs.length (dk _);refine⟨h.al,h.inc,h.Qz,?_,?_,rfl,?_,?_,?_,?_,fun d hd=>?_,hP.n2,fun k p hp=>⟨(hP.lc k p hp).1,(hP.lc k p hp).2.1,(hP.lc k p hp).2.2.2⟩,hP.sn,fun s hs=>?_,fun e=>absurd (hal.symm.trans e) (by decide),fun _=>hP.n1,hP.ps⟩
 ·show wrap64 (x.tr+1)=IntKind.i64.wrap (y.tr+1);rw[mZ,h.tr]
 ·show wrap64 (x.po+vs.length)=IntKind.i64.wrap (y.po+vs.length);rw[mZ,h.po]
 ·show(List.replicate vs.length false).length=(List.replicate vs.length rI).length;grind
 ·show(List.replicate vs.length rI).length<=8;grind
 ·show true= !(List.replicate vs.length rI).isEmpty;cases e:vs.length with
  |zero=>omega
  |succ n=>rfl
 ·show(vs.length:Int)=(opn (List.replicate vs.length false):Nat);rw[XG]
 ·rw[(Lo.1 hd).2];exact nt _
 ·show(List.replicate vs.length false)[s]?=some false;rw[uc,ee (hP.sf s hs)]
structure ad9(p:Pr)(q:eI):Prop where
 p:rN 12 p q
 c:q.c<6
 nd:q.nd<2
 q:q.q≠[]
structure GA(a:List Pr)(b:List eI):Prop where
 len:a.length=b.length
 each:∀(k:Nat) (p:Pr) (q:eI),a[k]?=some p->b[k]?=some q->ad9 p q
theorem GA.nil:GA [] []:=⟨rfl,fun k p q h=>by cases h⟩
theorem GA.append{a a':List Pr}{b':List eI}(h:GA a b)(h':GA a' b'):GA (a++a') (b++b'):=
 ⟨by rw[ec,ec,h.len,h'.len],fun k p q hp hq=>by
  by_cases hk:k<a.length
  ·rw[fj hk]at hp;rw[fj (by rw[<-h.len];exact hk)]at hq;exact h.each k p q hp hq
  ·rw[en (by omega)]at hp;rw[en (by rw[<-h.len];omega)]at hq;rw[<-h.len]at hq;exact h'.each _ p q hp hq⟩
theorem GA.erase{a:List Pr}(h:GA a b)(i:Nat):GA (a.eraseIdx i) (b.eraseIdx i):=
 ⟨by rw[To,To,h.len],fun k p q hp hq=>by
  rw[oK]at hp hq;exact h.each _ p q hp hq⟩
theorem GA.set{a:List Pr}(h:GA a b)(i:Nat){p:Pr}{q:eI}(ho:ad9 p q):GA (a.set i p) (b.set i q):=
 ⟨by rw[ff,ff,h.len],fun k p' q' hp hq=>by
  rcases bQ hp with⟨rfl,rfl⟩|⟨ne,hp⟩
  ·grind
  ·rcases bQ hq with⟨e,_⟩|⟨_,hq⟩
   ·exact absurd e ne
   ·exact h.each k p' q' hp hq⟩
theorem fG.left{c:Nat}{x:mU}{y:sN}{l:List eI}(h:fG c x y l)(hal:y.al=true)(hc:c<6):∀k,k<=2->GA (pA x.ln k) ((l.take k).filter fun p=> !p.q.isEmpty)
 |0,_=>.nil
 |k+1,hk=>by
  have h1:=h.xl hal;have h2:=h.ll;obtain⟨e,he⟩:∃e,x.ln[k]?=some e:=⟨_,ao (by omega)⟩;obtain⟨p,hp⟩:∃p,l[k]?=some p:=⟨_,ao (by omega)⟩;unfold pA;rw[On,hp,he,List.filter_append];obtain⟨g,_⟩:=h.ps k p e hp he;obtain⟨g1,g2,_⟩:=h.lc k p hp;refine(h.left hal hc k (by omega)).append ?_;show GA (if e.p.q=[]then []else [e.p]) ([p].filter _);by_cases hq:p.q=[]
  ·rw[ee (g.nil.2 hq)];have:([p].filter fun p=> !p.q.isEmpty)=[]:=by simp[hq]
   rw[this];exact .nil
  ·rw[eg (fun e'=>hq (g.nil.1 e'))];have:([p].filter fun p=> !p.q.isEmpty)=[p]:=by simp[hq]
   rw[this];refine⟨rfl,fun j a b ha hb=>?_⟩;cases j with
   |zero=>cases ha;cases hb;exact⟨g,by omega,by omega,hq⟩
   |succ j=>cases ha
structure kU(a:mV)(r:gP):Prop where
 la:a.lines=12
 lr:r.lines=12
 nd:a.nd=r.nd
 n2:a.nd.length=2
 nw:∀n∈a.nd,n.ws.length=96
 c2:a.cl.length=2
 r2:r.cl.length=2
 l2:r.ln.length=2
 cs:∀(c:Nat) (x:mU) (y:sN) (l:List eI),a.cl[c]?=some x->r.cl[c]?=some y->r.ln[c]?=some l->fG c x y l
 os:GA a.os r.os
section
variable{a:mV}{r:gP}
theorem kU.sI(h:kU a r){c:Nat}{x':mU}{y':sN}{l':List eI}{os:List Pr}{os':List eI}(hs:fG c x' y' l')(ho:GA os os'):kU {a with cl:=a.cl.set c x',os:=os} {r with cl:=r.cl.set c y',ln:=r.ln.set c l',os:=os'}:=
 ⟨h.la,h.lr,h.nd,h.n2,h.nw,(ff ..).trans h.c2,(ff ..).trans h.r2,(ff ..).trans h.l2,fun d x y l hx hy hl=>by
  rcases bQ hx with⟨rfl,rfl⟩|⟨ne,hx⟩
  ·grind
  ·rcases bQ hy with⟨e,_⟩|⟨_,hy⟩
   ·exact absurd e ne
   ·rcases bQ hl with⟨e,_⟩|⟨_,hl⟩
    ·exact absurd e ne
    ·exact h.cs d x y l hx hy hl,ho⟩
theorem kU.Uv(h:kU a r){n:qm}(hn:n.ws.length=96):kU {a with nd:=a.nd.set j n} {r with nd:=r.nd.set j n}:=
 ⟨h.la,h.lr,by show a.nd.set j n=r.nd.set j n;rw[h.nd],(ff ..).trans h.n2,fun m hm=>by
  rcases zp hm with hm|rfl
  ·exact h.nw m hm
  ·exact hn,h.c2,h.r2,h.l2,h.cs,h.os⟩
theorem kU.ME(h:kU a r){os:List Pr}{os':List eI}(ho:GA os os'):kU {a with os:=os} {r with os:=os'}:=⟨h.la,h.lr,h.nd,h.n2,h.nw,h.c2,h.r2,h.l2,h.cs,ho⟩
theorem kU.get(h:kU a r){c:Nat}(hc:c<2):∃x y l,a.cl[c]?=some x/\r.cl[c]?=some y/\r.ln[c]?=some l/\fG c x y l:=by
 have h1:=h.c2;have h2:=h.r2;have h3:=h.l2;exact⟨_,_,_,ao (by omega),ao (by omega),ao (by omega),h.cs c _ _ _ (ao (by omega)) (ao (by omega)) (ao (by omega))⟩
theorem kU.abn(h:kU a r)(hj:j<2):∃n,a.nd[j]?=some n/\r.nd[j]?=some n/\n.ws.length=96:=by
 have h1:=h.n2;have e:a.nd[j]?=some a.nd[j]:=ao (by omega);exact⟨_,e,by rw[<-h.nd];exact e,h.nw _ (Pe _)⟩
theorem kU.gF(h:kU a r){k:Nat}{p:Pr}{q:eI}{n:qm}(hp:a.os[k]?=some p)(hq:r.os[k]?=some q)(hn:n.ws.length=96):kU (a.gF k q.nd (p.step n)) (r.gF k q.nd (q.step n)):=by
 obtain⟨o1,o2,o3,o4⟩:=h.os.each k p q hp hq;cases hq':q.q with
 |nil=>exact absurd hq' o4
 |cons z t=>
 obtain⟨s1,s2,s3,s4,s5,s6,s7,s8,s9,s10,s11,s12⟩:=o1.step n hq';have hw:(p.step n).2.2.2.ws.length=96:=(o1.inv.step (fun e=>o4 (o1.nil.1 e)) n).2.2.1.trans hn;unfold mV.gF gP.gF;rw[<-s4];by_cases e:(q.step n).p.q=[]
 ·rw[ee (s5.nil.2 e),ee e];exact(h.Uv hw).ME (h.os.erase k)
 ·rw[eg (fun e'=>e (s5.nil.1 e')),eg e];exact(h.Uv hw).ME (h.os.set k ⟨s5,by rw[s9];exact o2,by rw[s10];exact o3,e⟩)
theorem kU.mQ(h:kU a r){c j:Nat}{x:mU}{y:sN}{l:List eI}{p:eI}{e:th}{n:qm}(hx:a.cl[c]?=some x)(hy:r.cl[c]?=some y)(hl:r.ln[c]?=some l)(hp:l[j]?=some p)(he:x.ln[j]?=some e)(hq:p.q≠[])(hn:n.ws.length=96):
  kU {a with nd:=a.nd.set j (e.p.step n).2.2.2,cl:=a.cl.set c (x.lg j (e.p.step n) e.pl)} (r.mQ c j y l (p.step n)):=by
 have hs:=h.cs c x y l hx hy hl;obtain⟨g,_⟩:=hs.ps j p e hp he;cases hq':p.q with
 |nil=>exact absurd hq' hq
 |cons z t=>
 obtain⟨_,_,_,s4,_⟩:=g.step n hq';have hw:(e.p.step n).2.2.2.ws.length=96:=(g.inv.step (fun e'=>hq (g.nil.1 e')) n).2.2.1.trans hn;have:=(h.sI (os:=a.os) (os':=r.os) (hs.step hp he hq n) h.os).Uv (j:=j) hw;unfold gP.mQ;rw[<-s4];exact this
theorem Ka{c:Nat}{x:mU}{y:sN}{l:List eI}(h:fG c x y l)(hal:y.al=true):∀k,k<=2->NZ x.ln c k=xG l c k
 |0,_=>rfl
 |k+1,hk=>by
  have h1:=h.xl hal;have h2:=h.ll;obtain⟨e,he⟩:∃e,x.ln[k]?=some e:=⟨_,ao (by omega)⟩;obtain⟨p,hp⟩:∃p,l[k]?=some p:=⟨_,ao (by omega)⟩;unfold NZ xG;rw[Ka h hal k (by omega),he,hp];obtain⟨g,_⟩:=h.ps k p e hp he;show _++(if e.p.q=[]then []else _)=_++(if p.q=[]then []else _);by_cases hq:p.q=[]
  ·rw[ee (g.nil.2 hq),ee hq]
  ·rw[eg (fun e'=>hq (g.nil.1 e')),eg hq]
theorem EA{l:List eI}(c:Nat)(h:slots l=[]):∀k,xG l c k=[]
 |0=>rfl
 |k+1=>by
  unfold xG;rw[EA c h k];cases e:l[k]? with
  |none=>rfl
  |some p=>show []++(if p.q=[]then []else _)=[];rw[ee (sE h e)];rfl
theorem Kb(h:kU a r):∀k,k<=2->Gz a.cl k=Di r.ln k
 |0,_=>rfl
 |k+1,hk=>by
  obtain⟨x,y,l,hx,hy,hl,hs⟩:=h.get (c:=k) (by omega);unfold Gz Di;rw[Kb h k (by omega),hx,hl];show _++NZ x.ln k x.ln.length=_++xG l k l.length;cases hal:y.al with
  |true=>rw[hs.xl hal,hs.ll,Ka hs hal 2 (dk _)]
  |false=>
   obtain⟨e1,e2⟩:=hs.dead hal;rw[e1,EA k (hs.noS e2)];rfl
theorem Kc{os:List Pr}{os':List eI}(h:GA os os'):∀k,Qs os k=JZ os' k
 |0=>rfl
 |k+1=>by
  unfold Qs JZ;rw[Kc h k];cases e1:os[k]? with
  |none=>
   cases e2:os'[k]? with
   |none=>rfl
   |some q=>have:=aV e2;have h2:=h.len;rw[IS]at e1;omega
  |some p=>
   cases e2:os'[k]? with
   |none=>have:=aV e1;have h2:=h.len;rw[IS]at e2;omega
   |some q=>
    have:=(h.each k p q e1 e2).p;show _++[((k:Int),p.c,p.node)]=_++[((k:Int),(q.c:Int),(q.nd:Int))];rw[this.c,this.nd]
theorem kU.oL(h:kU a r):a.oL=r.oL:=by
 unfold mV.oL gP.oL;rw[h.c2,h.l2,Kb h 2 (dk _),Kc h.os,h.os.len]
theorem kU.new:kU (uf 2 2 12 2) (gP.new 2 2 12):=by
 refine⟨rfl,rfl,rfl,rfl,fun n hn=>?_,rfl,rfl,rfl,fun c x y l hx hy hl=>?_,.nil⟩
 ·obtain⟨_,rfl⟩:=Lo.1 hn;rfl
 ·have key:∀c,c<6->fG c (Mr c 2) rc0 (iP c 1 2):=fun c hc=>
   ⟨rfl,rfl,by decide,rfl,rfl,rfl,rfl,nt _,rfl,rfl,fun d hd=>(by cases hd),rfl,fun k p hp=>(by obtain⟨_,rfl⟩:=oM _ _ hp;grind),(by rw[ml];exact sq),fun s hs=>(by rw[ml]at hs;cases hs),fun e=>(by cases e),fun _=>rfl,fun k p e hp he=>by
    obtain⟨_,rfl⟩:=oM _ _ hp;obtain⟨_,rfl⟩:=CE _ _ he;simp_all [rN.new]⟩
  match c with
  |0=>cases hx;cases hy;cases hl;exact key 0 (by omega)
  |1=>cases hx;cases hy;cases hl;exact key 1 (by omega)
  |c+2=>cases hx
end
end
section
attribute [local go_sem] Oper.semAt_some
attribute [local go_sem] eU dm dq eV
set_option maxRecDepth 1000000 in
set_option maxHeartbeats 2000000 in
theorem Uw(bf:Nat)(c:Int)(L:Value)(W:World)(hcw:Calls U' 67 #[.pointer (some ⟨bf,0,none⟩),.int .i64 c] W fun e w'=>e=.returned (.pointer none)/\w'=W):
  Calls U' 20 #[.pointer (some ⟨bf,0,none⟩),.int .i64 c,L] W fun e w'=>e=.returned (.int .i64 1)/\w'=W:=by
 go_enter Tryz.func20,Tryz.ntmps20
 go_wp2_with (first|(go_at_call 67;refine da hcw ?_;clear hcw;rintro e w' ⟨rfl,hw⟩;rw[hw];clear hw))
 go_ret
 exact⟨rfl,rfl⟩
set_option maxRecDepth 1000000 in
set_option maxHeartbeats 2000000 in
theorem QF(bf bc ci nc:Nat)(a:Addr)(n k:Nat)(L:Value)(W:World)(iN:ci<nc)(h:W.cell? ⟨bf,2,none⟩=some (.slice (some ⟨bc,0,none⟩) nc cc))(hal:W.cell? ⟨bc,ci*7,none⟩=some (.bool true))(tT:W.cell? ⟨bc,ci*7+3,none⟩=some (.slice (some a) n k)):
  Calls U' 20 #[.pointer (some ⟨bf,0,none⟩),.int .i64 ci,L] W fun e w'=>e=.returned (.int .i64 3)/\w'=W:=by
 have hcw:=aW bf bc ci nc W iN h
 go_enter Tryz.func20,Tryz.ntmps20
 go_wp2_with (first|(go_at_call 67;refine da hcw ?_;clear hcw;rintro e w' ⟨rfl,hw⟩;rw[hw];clear hw))
 go_ret
 exact⟨rfl,rfl⟩
set_option maxRecDepth 1000000 in
set_option maxHeartbeats 2000000 in
theorem QG(bf bc ci nc:Nat)(A:Option Addr)(vc:Nat)(W:World)(iN:ci<nc)(h:W.cell? ⟨bf,2,none⟩=some (.slice (some ⟨bc,0,none⟩) nc cc))(hal:W.cell? ⟨bc,ci*7,none⟩=some (.bool true))(tT:W.cell? ⟨bc,ci*7+3,none⟩=some (.slice none 0 0)):
  Calls U' 20 #[.pointer (some ⟨bf,0,none⟩),.int .i64 ci,.slice A 0 vc] W fun e w'=>e=.returned (.int .i64 1)/\w'=W:=by
 have hcw:=aW bf bc ci nc W iN h
 go_enter Tryz.func20,Tryz.ntmps20
 go_wp2_with (first|(go_at_call 67;refine da hcw ?_;clear hcw;rintro e w' ⟨rfl,hw⟩;rw[hw];clear hw))
 go_ret
 exact⟨rfl,rfl⟩
set_option maxRecDepth 1000000 in
set_option maxHeartbeats 2000000 in
theorem Ux(bf:Nat)(c:Int)(W:World)(hcw:Calls U' 67 #[.pointer (some ⟨bf,0,none⟩),.int .i64 c] W fun e w'=>e=.returned (.pointer none)/\w'=W):
  Calls U' 23 #[.pointer (some ⟨bf,0,none⟩),.int .i64 c] W fun e w'=>e=.returned (.tuple #[.slice none 0 0,.bool false])/\w'=W:=by
 go_enter Tryz.func23,Tryz.ntmps23
 go_wp2_with (first|(go_at_call 67;refine da hcw ?_;clear hcw;rintro e w' ⟨rfl,hw⟩;rw[hw];clear hw))
 exact pB (At rfl _ _ _) rfl ⟨rfl,rfl⟩
set_option maxRecDepth 1000000 in
set_option maxHeartbeats 2000000 in
theorem QH(bf bc ci nc:Nat)(W:World)(iN:ci<nc)(h:W.cell? ⟨bf,2,none⟩=some (.slice (some ⟨bc,0,none⟩) nc cc))(hal:W.cell? ⟨bc,ci*7,none⟩=some (.bool false)):
  Calls U' 23 #[.pointer (some ⟨bf,0,none⟩),.int .i64 ci] W fun e w'=>e=.returned (.tuple #[.slice none 0 0,.bool false])/\w'=W:=by
 have hcw:=aW bf bc ci nc W iN h
 go_enter Tryz.func23,Tryz.ntmps23
 go_wp2_with (first|(go_at_call 67;refine da hcw ?_;clear hcw;rintro e w' ⟨rfl,hw⟩;rw[hw];clear hw))
 exact pB (At rfl _ _ _) rfl ⟨rfl,rfl⟩
set_option maxRecDepth 1000000 in
set_option maxHeartbeats 2000000 in
theorem QI(bf bc ci nc:Nat)(a:Addr)(n k:Nat)(wt:Int)(W:World)(iN:ci<nc)(h:W.cell? ⟨bf,2,none⟩=some (.slice (some ⟨bc,0,none⟩) nc cc))(hal:W.cell? ⟨bc,ci*7,none⟩=some (.bool true))(tT:W.cell? ⟨bc,ci*7+3,none⟩=some (.slice (some a) n k))(hwt:W.cell? ⟨bc,ci*7+4,none⟩=some (.int .i64 wt))(h0:0<wt):
  Calls U' 23 #[.pointer (some ⟨bf,0,none⟩),.int .i64 ci] W fun e w'=>e=.returned (.tuple #[.slice none 0 0,.bool false])/\w'=W:=by
 have hcw:=aW bf bc ci nc W iN h
 go_enter Tryz.func23,Tryz.ntmps23
 go_wp2_with (first|(go_at_call 67;refine da hcw ?_;clear hcw;rintro e w' ⟨rfl,hw⟩;rw[hw];clear hw))
 exact pB (At rfl _ _ _) rfl ⟨rfl,rfl⟩
set_option maxRecDepth 1000000 in
set_option maxHeartbeats 2000000 in
theorem Ke(bf:Nat)(c:Int)(inc:Int)(W:World)(hcw:Calls U' 67 #[.pointer (some ⟨bf,0,none⟩),.int .i64 c] W fun e w'=>e=.returned (.pointer none)/\w'=W):
  Calls U' 33 #[.pointer (some ⟨bf,0,none⟩),.int .i64 c,.int .i64 inc] W fun e w'=>e=.returned (.int .i64 1)/\w'=W:=by
 go_enter Tryz.func33,Tryz.ntmps33
 go_wp2_with (first|(go_at_call 67;refine da hcw ?_;clear hcw;rintro e w' ⟨rfl,hw⟩;rw[hw];clear hw))
 go_ret
 exact⟨rfl,rfl⟩
set_option maxRecDepth 1000000 in
set_option maxHeartbeats 2000000 in
theorem Dk(bf bc ci nc:Nat)(inc:Int)(W:World)(iN:ci<nc)(h:W.cell? ⟨bf,2,none⟩=some (.slice (some ⟨bc,0,none⟩) nc cc))(hal:W.cell? ⟨bc,ci*7,none⟩=some (.bool true)):
  Calls U' 33 #[.pointer (some ⟨bf,0,none⟩),.int .i64 ci,.int .i64 inc] W fun e w'=>e=.returned (.int .i64 1)/\w'=W:=by
 have hcw:=aW bf bc ci nc W iN h
 go_enter Tryz.func33,Tryz.ntmps33
 go_wp2_with (first|(go_at_call 67;refine da hcw ?_;clear hcw;rintro e w' ⟨rfl,hw⟩;rw[hw];clear hw))
 go_ret
 exact⟨rfl,rfl⟩
set_option maxRecDepth 1000000 in
set_option maxHeartbeats 2000000 in
theorem Dl(bf bc ci nc:Nat)(inc:Int)(W:World)(iN:ci<nc)(h:W.cell? ⟨bf,2,none⟩=some (.slice (some ⟨bc,0,none⟩) nc cc))(hal:W.cell? ⟨bc,ci*7,none⟩=some (.bool false))(Ud:Calls U' 82 #[.int .i64 inc] W fun e w'=>e=.returned (.bool false)/\w'=W):
  Calls U' 33 #[.pointer (some ⟨bf,0,none⟩),.int .i64 ci,.int .i64 inc] W fun e w'=>e=.returned (.int .i64 2)/\w'=W:=by
 have hcw:=aW bf bc ci nc W iN h
 go_enter Tryz.func33,Tryz.ntmps33
 go_wp2_with (first|(go_at_call 67;refine da hcw ?_;clear hcw;rintro e w' ⟨rfl,hw⟩;rw[hw];clear hw)|(go_at_call 82;refine da Ud ?_;clear Ud;rintro e w' ⟨rfl,hw⟩;rw[hw];clear hw))
 go_ret
 exact⟨rfl,rfl⟩
set_option maxRecDepth 1000000 in
set_option maxHeartbeats 2000000 in
theorem MF(bf:Nat)(c:Int)(inc:Int)(W:World)(hcw:Calls U' 67 #[.pointer (some ⟨bf,0,none⟩),.int .i64 c] W fun e w'=>e=.returned (.pointer none)/\w'=W):
  Calls U' 35 #[.pointer (some ⟨bf,0,none⟩),.int .i64 c,.int .i64 inc] W fun e w'=>e=.returned (.int .i64 1)/\w'=W:=by
 go_enter Tryz.func35,Tryz.ntmps35
 go_wp2_with (first|(go_at_call 67;refine da hcw ?_;clear hcw;rintro e w' ⟨rfl,hw⟩;rw[hw];clear hw))
 go_ret
 exact⟨rfl,rfl⟩
set_option maxRecDepth 1000000 in
set_option maxHeartbeats 2000000 in
theorem Kf(bf bc ci nc:Nat)(inc:Int)(W:World)(iN:ci<nc)(h:W.cell? ⟨bf,2,none⟩=some (.slice (some ⟨bc,0,none⟩) nc cc))(hal:W.cell? ⟨bc,ci*7,none⟩=some (.bool false)):
  Calls U' 35 #[.pointer (some ⟨bf,0,none⟩),.int .i64 ci,.int .i64 inc] W fun e w'=>e=.returned (.int .i64 1)/\w'=W:=by
 have hcw:=aW bf bc ci nc W iN h
 go_enter Tryz.func35,Tryz.ntmps35
 go_wp2_with (first|(go_at_call 67;refine da hcw ?_;clear hcw;rintro e w' ⟨rfl,hw⟩;rw[hw];clear hw))
 go_ret
 exact⟨rfl,rfl⟩
set_option maxRecDepth 1000000 in
set_option maxHeartbeats 2000000 in
theorem Kg(bf bc ci nc:Nat)(a:Addr)(n k:Nat)(inc:Int)(W:World)(iN:ci<nc)(h:W.cell? ⟨bf,2,none⟩=some (.slice (some ⟨bc,0,none⟩) nc cc))(hal:W.cell? ⟨bc,ci*7,none⟩=some (.bool true))(tT:W.cell? ⟨bc,ci*7+3,none⟩=some (.slice (some a) n k)):
  Calls U' 35 #[.pointer (some ⟨bf,0,none⟩),.int .i64 ci,.int .i64 inc] W fun e w'=>e=.returned (.int .i64 3)/\w'=W:=by
 have hcw:=aW bf bc ci nc W iN h
 go_enter Tryz.func35,Tryz.ntmps35
 go_wp2_with (first|(go_at_call 67;refine da hcw ?_;clear hcw;rintro e w' ⟨rfl,hw⟩;rw[hw];clear hw))
 go_ret
 exact⟨rfl,rfl⟩
set_option maxRecDepth 1000000 in
set_option maxHeartbeats 2000000 in
theorem Gs(bf bc ci nc:Nat)(inc:Int)(W:World)(iN:ci<nc)(h:W.cell? ⟨bf,2,none⟩=some (.slice (some ⟨bc,0,none⟩) nc cc))(hal:W.cell? ⟨bc,ci*7,none⟩=some (.bool true))(tT:W.cell? ⟨bc,ci*7+3,none⟩=some (.slice none 0 0))(Ud:Calls U' 82 #[.int .i64 inc] W fun e w'=>e=.returned (.bool false)/\w'=W):
  Calls U' 35 #[.pointer (some ⟨bf,0,none⟩),.int .i64 ci,.int .i64 inc] W fun e w'=>e=.returned (.int .i64 2)/\w'=W:=by
 have hcw:=aW bf bc ci nc W iN h
 go_enter Tryz.func35,Tryz.ntmps35
 go_wp2_with (first|(go_at_call 67;refine da hcw ?_;clear hcw;rintro e w' ⟨rfl,hw⟩;rw[hw];clear hw)|(go_at_call 82;refine da Ud ?_;clear Ud;rintro e w' ⟨rfl,hw⟩;rw[hw];clear hw))
 go_ret
 exact⟨rfl,rfl⟩
set_option maxRecDepth 1000000 in
set_option maxHeartbeats 2000000 in
theorem XK(bf:Nat)(c:Int)(W:World)(hcw:Calls U' 67 #[.pointer (some ⟨bf,0,none⟩),.int .i64 c] W fun e w'=>e=.returned (.pointer none)/\w'=W):
  Calls U' 49 #[.pointer (some ⟨bf,0,none⟩),.int .i64 c] W fun e w'=>e=.returned (.int .i64 0)/\w'=W:=by
 go_enter Tryz.func49,Tryz.ntmps49
 go_wp2_with (first|(go_at_call 67;refine da hcw ?_;clear hcw;rintro e w' ⟨rfl,hw⟩;rw[hw];clear hw))
 go_ret
 exact⟨rfl,rfl⟩
set_option maxRecDepth 1000000 in
set_option maxHeartbeats 2000000 in
theorem Kh(bf:Nat)(c:Int)(W:World)(hcw:Calls U' 67 #[.pointer (some ⟨bf,0,none⟩),.int .i64 c] W fun e w'=>e=.returned (.pointer none)/\w'=W):
  Calls U' 51 #[.pointer (some ⟨bf,0,none⟩),.int .i64 c] W fun e w'=>e=.returned (.int .i64 0)/\w'=W:=by
 go_enter Tryz.func51,Tryz.ntmps51
 go_wp2_with (first|(go_at_call 67;refine da hcw ?_;clear hcw;rintro e w' ⟨rfl,hw⟩;rw[hw];clear hw))
 go_ret
 exact⟨rfl,rfl⟩
set_option maxRecDepth 1000000 in
theorem Ki(inc:Int)(W:World)(h:inc<0\/59<inc):Calls U' 82 #[.int .i64 inc] W fun e w'=>e=.returned (.bool false)/\w'=W:=by
 by_cases h1:inc<0
 ·have h2:¬(0<=inc):=by omega
  go_enter Tryz.func82,Tryz.ntmps82
  go_wp2
  go_ret
  exact⟨rfl,rfl⟩
 ·have h2:0<=inc:=by omega
  have h3:¬inc<=59:=by
   grind
  go_enter Tryz.func82,Tryz.ntmps82
  go_wp2
  go_ret
  exact⟨rfl,rfl⟩
set_option maxRecDepth 1000000 in
theorem Kj(bf bc ci nc:Nat)(inc:Int)(W:World)(K:World->Prop)(iN:ci<nc)(h2:W.cell? ⟨bf,2,none⟩=some (.slice (some ⟨bc,0,none⟩) nc cc))(hal:W.cell? ⟨bc,ci*7,none⟩=some (.bool true))(tT:W.cell? ⟨bc,ci*7+3,none⟩=some (.slice none 0 0))(sO:0<=inc/\inc<=59)
  (Q2:Calls U' 17 #[.pointer (some ⟨bf,0,none⟩),.int .i64 ci,.int .i64 inc] W fun e w'=>e=.returned (.tuple #[])/\K w'):
  Calls U' 35 #[.pointer (some ⟨bf,0,none⟩),.int .i64 ci,.int .i64 inc] W fun e w'=>e=.returned (.int .i64 0)/\K w':=by
 have hcw:=aW bf bc ci nc W iN h2;have Ud:=Cw inc W sO
 go_enter Tryz.func35,Tryz.ntmps35
 go_wp2_with (first|(go_at_call 67;refine da hcw ?_;clear hcw;rintro e w' ⟨rfl,hw⟩;rw[hw];clear hw)|(go_at_call 82;refine da Ud ?_;clear Ud;rintro e w' ⟨rfl,hw⟩;rw[hw];clear hw)|(go_at_call 17;refine da Q2 ?_;clear Q2;rintro e w' ⟨rfl,hK⟩))
 go_ret
 exact⟨rfl,hK⟩
set_option maxRecDepth 1000000 in
theorem EB(bf bn nn cn i:Nat)(v:Value)(W:World)(h1:W.cell? ⟨bf,1,none⟩=some (.slice (some ⟨bn,0,none⟩) nn cn))(hi:i<nn)(hv:W.cell? ⟨bn,i,none⟩=some v):
  Calls U' 39 #[.pointer (some ⟨bf,0,none⟩),.int .i64 (i:Int)] W fun e w'=>e=.returned v/\w'=W:=by
 have e1:¬((i:Int)<0):=by omega
 have e2:¬((nn:Int)<=(i:Int)):=by omega
 have e3:(i:Int)<(nn:Int):=by omega
 go_enter Tryz.func39,Tryz.ntmps39
 go_wp2
 go_ret
 exact⟨rfl,rfl⟩
set_option maxRecDepth 1000000 in
theorem MG(bf nn cn:Nat)(A:Option Addr)(W:World)(h1:W.cell? ⟨bf,1,none⟩=some (.slice A nn cn)):Calls U' 43 #[.pointer (some ⟨bf,0,none⟩)] W fun e w'=>e=.returned (.int .i64 (nn:Int))/\w'=W:=by
 go_enter Tryz.func43,Tryz.ntmps43
 go_wp2
 go_ret
 exact⟨rfl,rfl⟩
set_option maxRecDepth 1000000 in
theorem Gt(bf nn cn:Nat)(A:Option Addr)(W:World)(h1:W.cell? ⟨bf,2,none⟩=some (.slice A nn cn)):Calls U' 44 #[.pointer (some ⟨bf,0,none⟩)] W fun e w'=>e=.returned (.int .i64 (nn:Int))/\w'=W:=by
 go_enter Tryz.func44,Tryz.ntmps44
 go_wp2
 go_ret
 exact⟨rfl,rfl⟩
set_option maxRecDepth 1000000 in
theorem MH(bf:Nat)(n:Int)(W:World)(h1:W.cell? ⟨bf,0,none⟩=some (.int .i64 n)):Calls U' 45 #[.pointer (some ⟨bf,0,none⟩)] W fun e w'=>e=.returned (.int .i64 n)/\w'=W:=by
 go_enter Tryz.func45,Tryz.ntmps45
 go_wp2
 go_ret
 exact⟨rfl,rfl⟩
end
section
attribute [local go_sem] Oper.semAt_some
attribute [local go_sem] eU dm dq eV
abbrev Dm(o c n:Int):Obj:=.cells #[.int .i64 o,.int .i64 c,.int .i64 n] 77
def Q7(W:World)(b:Nat)(o c n:Int):Prop:=W.cell? ⟨b,0,none⟩=some (.int .i64 o)/\W.cell? ⟨b,1,none⟩=some (.int .i64 c)/\W.cell? ⟨b,2,none⟩=some (.int .i64 n)
set_option maxRecDepth 1000000 in
set_option maxHeartbeats 2000000 in
theorem Uy(bf:Nat)(o c x:Int)(W:World)(ho:o< -1)(h:Q7 (W.alloc (Dm o c x)) W.heap.size o c x):
  Calls U' 22 #[.pointer (some ⟨bf,0,none⟩),.agg #[.int .i64 o,.int .i64 c,.int .i64 x]] W fun e w'=>e=.returned (.bool false)/\w'=W.alloc (Dm o c x):=by
 obtain⟨a0,a1,a2⟩:=h;have h1:¬(0<=o):=by omega
 go_enter Tryz.func22,Tryz.ntmps22
 go_wp2
 go_ret
 exact⟨rfl,rfl⟩
set_option maxRecDepth 1000000 in
set_option maxHeartbeats 2000000 in
theorem Uz(bf:Nat)(c x:Int)(W:World)(h:Q7 (W.alloc (Dm (-1) c x)) W.heap.size (-1) c x)(hcw:Calls U' 67 #[.pointer (some ⟨bf,0,none⟩),.int .i64 c] (W.alloc (Dm (-1) c x)) fun e w'=>e=.returned (.pointer none)/\w'=W.alloc (Dm (-1) c x)):
  Calls U' 22 #[.pointer (some ⟨bf,0,none⟩),.agg #[.int .i64 (-1),.int .i64 c,.int .i64 x]] W fun e w'=>e=.returned (.bool false)/\∃n,w'=(W.alloc (Dm (-1) c x)).drewN n:=by
 obtain⟨a0,a1,a2⟩:=h
 go_enter Tryz.func22,Tryz.ntmps22
 go_wp2_with (go_at_call 67;refine da hcw ?_;clear hcw;rintro e w' ⟨rfl,hw⟩;rw[hw];clear hw)
 go_quiet (fail)
 go_wp2
 go_ret
 exact⟨rfl,_,rfl⟩
set_option maxRecDepth 1000000 in
set_option maxHeartbeats 2000000 in
theorem QJ(bf bc ci nc cc:Nat)(x:Int)(LA:Option Addr)(ll lc:Nat)(W:World)(iN:ci<nc)(hx:x<0\/(ll:Int)<=x)(h:Q7 (W.alloc (Dm (-1) (ci:Int) x)) W.heap.size (-1) (ci:Int) x)(h2:(W.alloc (Dm (-1) (ci:Int) x)).cell? ⟨bf,2,none⟩=some (.slice (some ⟨bc,0,none⟩) nc cc))(h3:(W.alloc (Dm (-1) (ci:Int) x)).cell? ⟨bc,ci*7+2,none⟩=some (.slice LA ll lc)):
  Calls U' 22 #[.pointer (some ⟨bf,0,none⟩),.agg #[.int .i64 (-1),.int .i64 (ci:Int),.int .i64 x]] W fun e w'=>e=.returned (.bool false)/\∃n,w'=(W.alloc (Dm (-1) (ci:Int) x)).drewN n:=by
 obtain⟨a0,a1,a2⟩:=h;have hcw:=aW bf bc ci nc _ iN h2;by_cases hx0:x<0
 ·have j0:decide (x<0)=true:=oS hx0
  go_enter Tryz.func22,Tryz.ntmps22
  go_wp2_with (go_at_call 67;refine da hcw ?_;clear hcw;rintro e w' ⟨rfl,hw⟩;rw[hw];clear hw)
  go_quiet (fail)
  go_wp2
  go_ret
  exact⟨rfl,_,rfl⟩
 ·have j0:decide (x<0)=false:=kq hx0;have hx1:(ll:Int)<=x:=by omega
  have j1:decide ((ll:Int)<=x)=true:=oS hx1
  go_enter Tryz.func22,Tryz.ntmps22
  go_wp2_with (go_at_call 67;refine da hcw ?_;clear hcw;rintro e w' ⟨rfl,hw⟩;rw[hw];clear hw)
  go_quiet (fail)
  go_wp2
  go_ret
  exact⟨rfl,_,rfl⟩
set_option maxRecDepth 1000000 in
set_option maxHeartbeats 2000000 in
theorem QK(bf bc ci nc cc nd pb:Nat)(lb ll lc qc:Nat)(QA:Option Addr)(W:World)(iN:ci<nc)(hnd:nd<ll)(h:Q7 (W.alloc (Dm (-1) (ci:Int) (nd:Int))) W.heap.size (-1) (ci:Int) (nd:Int))(h2:(W.alloc (Dm (-1) (ci:Int) (nd:Int))).cell? ⟨bf,2,none⟩=some (.slice (some ⟨bc,0,none⟩) nc cc))(h3:(W.alloc (Dm (-1) (ci:Int) (nd:Int))).cell? ⟨bc,ci*7+2,none⟩=some (.slice (some ⟨lb,0,none⟩) ll lc))
  (h4:(W.alloc (Dm (-1) (ci:Int) (nd:Int))).cell? ⟨lb,nd*2,none⟩=some (.pointer (some ⟨pb,0,none⟩))) (h5:∀n,Calls U' 70 #[.pointer (some ⟨pb,0,none⟩)] ((W.alloc (Dm (-1) (ci:Int) (nd:Int))).drewN n) fun e w'=>e=.returned (.int .i64 0)/\w'=(W.alloc (Dm (-1) (ci:Int) (nd:Int))).drewN n):
  Calls U' 22 #[.pointer (some ⟨bf,0,none⟩),.agg #[.int .i64 (-1),.int .i64 (ci:Int),.int .i64 (nd:Int)]] W fun e w'=>e=.returned (.bool false)/\∃n,w'=(W.alloc (Dm (-1) (ci:Int) (nd:Int))).drewN n:=by
 obtain⟨a0,a1,a2⟩:=h;have hcw:=aW bf bc ci nc _ iN h2;have i0:¬(nd:Int)<0:=by omega
 have i1:¬(ll:Int)<=(nd:Int):=by omega
 have i2:(nd:Int)<(ll:Int):=by omega
 have j0:decide ((nd:Int)<0)=false:=kq i0;have j1:decide ((ll:Int)<=(nd:Int))=false:=kq i1
 go_enter Tryz.func22,Tryz.ntmps22
 go_wp2_with (go_at_call 67;refine da hcw ?_;clear hcw;rintro e w' ⟨rfl,hw⟩;rw[hw];clear hw)
 go_quiet ((go_at_call 70;exact kt (h5 _)))
 go_wp2
 go_ret
 exact⟨rfl,_,rfl⟩
end
section
def B2(w0:World)(μ:Mu)(I:Ky->Option ag)(fb rb:Nat)(a:mV)(r:gP)(W:World):Prop:=
 ∃(μ':Mu) (I':Ky->Option ag) (s:gN) (u:gm),ak μ μ'/\az w0 μ' I' W/\ji 1 I' fb s/\s.a=a/\eM 2 I' rb u/\wz μ' u/\u.a=r/\∀k:Ky,k.1≠1->k.1≠2->I' k=I k
variable{w0 W:World}{μ:Mu}{I:Ky->Option ag}{fb rb:Nat}{a:mV}{r:gP}
theorem B2.bw{W':World}(h:B2 w0 μ I fb rb a r W)(k:ar [] W W'):B2 w0 μ I fb rb a r W':=by
 obtain⟨μ',I',s,u,h1,h2,h3⟩:=h;exact⟨μ',I',s,u,h1,h2.bw k,h3⟩
theorem B2.mono{μ':Mu}(h:B2 w0 μ' I fb rb a r W)(hm:ak μ μ'):B2 w0 μ I fb rb a r W:=by
 obtain⟨μ2,I',s,u,h1,h2⟩:=h;exact⟨μ2,I',s,u,hm.trans h1,h2⟩
theorem B2.left(h:B2 w0 μ I fb rb a r W):∃(μ':Mu) (I':Ky->Option ag),ak μ μ'/\fu 1 w0 μ' I' fb a W/\(∀k:Ky,k.1≠1->k.1≠2->I' k=I k)/\∀μ2 a' w',ak μ' μ2->fu 1 w0 μ2 I' fb a' w'->B2 w0 μ I fb rb a' r w':=by
 obtain⟨μ',I',s,u,h1,h2,h3,h4,h5,h6,h7,h8⟩:=h;refine⟨μ',I',h1,⟨μ',I',s,ak.refl _,h2,h3,h4,fun _ _=>rfl⟩,h8,fun μ2 a' w' hm h=>?_⟩;obtain⟨μ3,I3,s3,g1,g2,g3,g4,g5⟩:=h;exact⟨μ3,I3,s3,u,h1.trans (hm.trans g1),g2,g3,g4,h5.of fun k _=>g5 (2,k) (by simp),h6.mono (hm.trans g1),h7,fun k k1 k2=>(g5 k k1).trans (h8 k k1 k2)⟩
theorem B2.right(h:B2 w0 μ I fb rb a r W):∃(μ':Mu) (I':Ky->Option ag) (u:gm),ak μ μ'/\az w0 μ' I' W/\eM 2 I' rb u/\wz μ' u/\u.a=r/\(∀k:Ky,k.1≠1->k.1≠2->I' k=I k)/\∀μ2 r' w',ak μ' μ2->mX 2 w0 μ2 I' rb r' w'->B2 w0 μ I fb rb a r' w':=by
 obtain⟨μ',I',s,u,h1,h2,h3,h4,h5,h6,h7,h8⟩:=h;refine⟨μ',I',u,h1,h2,h5,h6,h7,h8,fun μ2 r' w' hm h=>?_⟩;obtain⟨μ3,I3,u3,g1,g2,g3,g4,g5,g6⟩:=h;exact⟨μ3,I3,s,u3,h1.trans (hm.trans g1),g2,h3.of fun k _=>g6 (1,k) (by simp),h4,g3,g4,g5,fun k k1 k2=>(g6 k k2).trans (h8 k k1 k2)⟩
def JS(w0:World)(μ:Mu)(I:Ky->Option ag)(fb rb k:Nat)(W:World):Prop:=∃a r,B2 w0 μ I fb rb a r W/\kU a r/\a.os.length<=k
theorem JS.bw{k:Nat}{W':World}(h:JS w0 μ I fb rb k W)(hk:ar [] W W'):JS w0 μ I fb rb k W':=by
 obtain⟨a,r,h1,h2,h3⟩:=h;exact⟨a,r,h1.bw hk,h2,h3⟩
def Vk:Bool->Value->Prop
 |true,v=> ∃z:Int,v=.int .i64 z
 |false,v=> ∃b:Bool,v=.bool b
def Jt(w0:World)(μ:Mu)(I:Ky->Option ag)(fb rb k:Nat)(i:Bool)(f g:FuncId)(xs ys:Array Value)(W:World):Prop:=
 Calls U' f xs W fun e w'=> ∃v,Vk i v/\e=.returned v/\(∃a r,B2 w0 μ I fb rb a r w')/\∀w2,ar [] w' w2->Calls U' g ys w2 fun e' w3=>e'=.returned v/\JS w0 μ I fb rb k w3
theorem fu.cells{t:Nat}(h:fu t w0 μ I fb a W):∃(NA CA OA:Option Addr) (nc cc oc:Nat),W.cell? ⟨fb,0,none⟩=some (.int .i64 a.lines)/\W.cell? ⟨fb,1,none⟩=some (.slice NA a.nd.length nc)/\W.cell? ⟨fb,2,none⟩=some (.slice CA a.cl.length cc)/\W.cell? ⟨fb,3,none⟩=some (.slice OA a.os.length oc):=by
 obtain⟨μ',I',s,hm,hK,hR,rfl,hf⟩:=h;obtain⟨NA,nc,e1,_⟩:=hR.gO.val;obtain⟨CA,cc,e2,_⟩:=hR.cls.val;obtain⟨OA,oc,e3,_⟩:=hR.YX.val;rw[ab]at e1 e2 e3;obtain⟨F,dF⟩:=hR.cM;have q0:s.a.nd.length=s.nd.length:=ab ..;have q1:s.a.cl.length=s.cl.length:=ab ..;have q2:s.a.os.length=s.os.length:=ab ..;refine⟨NA,CA,OA,nc,cc,oc,hK.cell dF (j:=0) rfl,?_,?_,?_⟩
 ·rw[q0,<-e1];exact hR.c1 hK
 ·rw[q1,<-e2];exact hR.c2 hK
 ·rw[q2,<-e3];exact hR.c3 hK
theorem fu.Vt{t:Nat}(h:fu t w0 μ I fb a W){c:Nat}{x:mU}(hc:a.cl[c]?=some x):∃(bc cc:Nat) (LA BA:Option Addr) (lc bn bk:Nat),W.cell? ⟨fb,2,none⟩=some (.slice (some ⟨bc,0,none⟩) a.cl.length cc)/\W.cell? ⟨bc,c*7,none⟩=some (.bool x.al)/\
  W.cell? ⟨bc,c*7+2,none⟩=some (.slice LA x.ln.length lc)/\W.cell? ⟨bc,c*7+3,none⟩=some (.slice BA bn bk)/\(x.ba=[]->BA=none/\bn=0/\bk=0)/\(x.ba≠[]->∃b,BA=some b)/\W.cell? ⟨bc,c*7+4,none⟩=some (.int .i64 x.wt)/\W.cell? ⟨bc,c*7+1,none⟩=some (.int .i64 x.inc):=by
 obtain⟨μ',I',s,hm,hK,hR,rfl,hf⟩:=h;obtain⟨xc,gp,rfl⟩:=bF hc;obtain⟨bc,cc,fI,hI,ng⟩:=hR.jy hK gp;have kD:=hR.cl c xc gp;obtain⟨LA,lc,e1,_⟩:=kD.ls.val;obtain⟨BA,bk,e2,_⟩:=kD.bs.val;rw[ab]at e1 e2;have q1:s.a.cl.length=s.cl.length:=ab ..;have q2:xc.a.ln.length=xc.ln.length:=ab ..;refine⟨bc,cc,LA,BA,lc,xc.ba.length,bk,?_,ng.al,?_,?_,fun hb=>?_,fun hb=>?_,ng.wt,ng.inc⟩
 ·rw[q1,<-fI];exact hR.c2 hK
 ·rw[q2,<-e1];exact ng.lv
 ·rw[<-e2];exact ng.bv
 ·have:=kD.bn hb;rw[e2]at this;injection this with h1 h2 h3;exact⟨h1,h2,h3⟩
 ·obtain⟨bb,cb,vE,_⟩:=kD.bs.ne (fun e=>hb (List.map_eq_nil_iff.1 e));rw[e2]at vE;injection vE with h1;exact⟨_,h1⟩
theorem eM.cells'{t:Nat}(hK:az w0 μ I W)(hR:eM t I rb u):∃(NA CA LA OA:Option Addr) (nc cc lc oc:Nat),W.cell? ⟨rb,0,none⟩=some (.int .i64 u.lines)/\W.cell? ⟨rb,1,none⟩=some (.slice NA u.nd.length nc)/\W.cell? ⟨rb,2,none⟩=some (.slice CA u.cl.length cc)/\W.cell? ⟨rb,3,none⟩=some (.slice LA u.ln.length lc)/\W.cell? ⟨rb,4,none⟩=some (.slice OA u.os.length oc):=by
 obtain⟨NA,nc,e1⟩:=Row.len hR.gO;obtain⟨CA,cc,e2⟩:=Row.len hR.cls;obtain⟨LA,lc,e3⟩:=Row.len hR.PU;obtain⟨OA,oc,e4⟩:=Row.len hR.lO;exact⟨NA,CA,LA,OA,nc,cc,lc,oc,hR.c0 hK,by rw[<-e1];exact hR.c1 hK,by rw[<-e2];exact hR.c2 hK,by rw[<-e3];exact hR.c3 hK,by rw[<-e4];exact hR.c4 hK⟩
theorem Vu(c:Int):(∃n:Nat,c=n/\n<2)\/(c<0\/2<=c):=by
 by_cases h:0<=c/\c<2
 ·exact .inl ⟨c.toNat,by omega,by omega⟩
 ·exact .inr (by omega)
theorem MI{t:Nat}(hK:az w0 μ I W)(hR:eM t I rb u)(h2:u.cl.length=2):∃(cb cc:Nat),W.cell? ⟨rb,2,none⟩=some (.slice (some ⟨cb,0,none⟩) 2 cc):=by
 obtain⟨cb,cc,e,_⟩:=wh hR.cls (i:=0) (by omega);rw[h2]at e;exact⟨cb,cc,by rw[<-e];exact hR.c2 hK⟩
theorem XL{t:Nat}(hK:az w0 μ I W)(hR:eM t I rb u)(h2:u.cl.length=2){c:Int}(hc:c<0\/2<=c):Calls U' 77 #[ptr rb,.int .i64 c] W fun e w'=>e=.returned (.bool false)/\w'=W:=by
 obtain⟨cb,cc,h⟩:=MI hK hR h2;exact Cj rb cb 2 cc c W h (by omega)
structure abo(W:World)(rb c:Nat)(y:sN):Prop where
 w:∃(cb cc:Nat),W.cell? ⟨rb,2,none⟩=some (.slice (some ⟨cb,0,none⟩) 2 cc)/\W.cell? ⟨cb,c*7,none⟩=some (.bool y.al)/\W.cell? ⟨cb,c*7+1,none⟩=some (.int .i64 y.inc)/\W.cell? ⟨cb,c*7+2,none⟩=some (.bool y.on)
theorem Dn{t:Nat}(hK:az w0 μ I W)(hR:eM t I rb u)(h2:u.cl.length=2){c:Nat}{x:lP}(hx:u.cl[c]?=some x):abo W rb c x.a:=by
 obtain⟨bc,cc,e,hI,hat⟩:=hR.jy hK hx;have:=hR.c2 hK;rw[e,h2]at this;exact⟨bc,cc,this,hat.al,hat.inc,hat.on⟩
theorem abo.alive{c:Nat}{y:sN}(h:abo W rb c y)(hc:c<2):Calls U' 77 #[ptr rb,.int .i64 (c:Int)] W fun e w'=>e=.returned (.bool y.al)/\w'=W:=by
 obtain⟨cb,cc,h1,h2,_⟩:=h.w;exact dX rb cb c 2 cc y.al W h1 hc h2
end
section
variable{w0 W:World}{μ:Mu}{I:Ky->Option ag}{fb rb k:Nat}{a:mV}{r:gP}
theorem Jt.of{i:Bool}{f g:FuncId}{xs ys:Array Value}{a':mV}{r':gP}(hp:Calls U' f xs W fun e w'=>e=.returned v/\B2 w0 μ I fb rb a' r w')(hr:∀w2,B2 w0 μ I fb rb a' r w2->Calls U' g ys w2 fun e w3=>e=.returned v/\B2 w0 μ I fb rb a' r' w3)(hS:kU a' r')(ho:a'.os.length<=k)(hv:Vk i v:=by exact⟨_,rfl⟩):
  Jt w0 μ I fb rb k i f g xs ys W:=
 hp.mono fun e w' he=>⟨v,hv,he.1,⟨a',r,he.2⟩,fun w2 hk=>(hr w2 (he.2.bw hk)).mono fun e' w3 he'=>⟨he'.1,a',r',he'.2,hS,ho⟩⟩
theorem kU.on(h:kU a r):a.os.length=r.os.length:=h.os.len
theorem nL{α β:Type}{f:α->β}{l:List α}(h:(l.map f).length=n):l.length=n:=by grind
theorem abp(h:JS w0 μ I fb rb k W)(hk:k<=1000)(i:Int):Jt w0 μ I fb rb k false 37 38 #[ptr fb,.int .i64 i] #[ptr rb,.int .i64 i] W:=by
 obtain⟨a,r,hB,hS,ho⟩:=h;have hlen:=hS.on;by_cases hi:0<=i/\i<a.os.length
 ·obtain⟨n,rfl⟩:∃n:Nat,i=n:=⟨i.toNat,by omega⟩;have hn:n<a.os.length:=by omega
  refine Jt.of (r:=r) (v:=.bool true) (a':={a with os:=a.os.eraseIdx n}) (r':={r with os:=r.os.eraseIdx n}) ?_ (fun w2 h2=>?_) (hS.ME (hS.os.erase n)) (by grind)
  ·obtain⟨μ',I',hm,hF,_,hb⟩:=hB.left;exact(abe hF hn (by omega)).mono fun e w' he=>⟨he.1,hb μ' _ _ (ak.refl _) he.2⟩
  ·obtain⟨μ',I',u,hm,hK,hR,hD,rfl,_,hb⟩:=h2.right;have:u.os.length=u.a.os.length:=(ab ..).symm;exact(JK hK hR hD (i:=n) (by omega) (by omega)).mono fun e w' he=>⟨he.1,hb μ' _ _ (ak.refl _) he.2⟩
 ·refine Jt.of (r:=r) (v:=.bool false) (a':=a) (r':=r) ?_ (fun w2 h2=>?_) hS ho
  ·obtain⟨μ',I',hm,hF,_,_⟩:=hB.left;obtain⟨_,_,_,_,_,_,_,_,_,h3⟩:=hF.cells;exact(TZ fb i _ _ _ W (by omega) h3).mono fun e w' he=>⟨he.1,he.2▸hB⟩
  ·obtain⟨μ',I',u,hm,hK,hR,hD,hu,_,_⟩:=h2.right;obtain⟨_,_,_,_,_,_,_,_,_,_,_,_,h3⟩:=hR.cells' hK;have:u.os.length=u.a.os.length:=(ab ..).symm;rw[hu]at this;exact(P6 rb _ _ _ i w2 h3 (by omega)).mono fun e w' he=>⟨he.1,he.2▸h2⟩
theorem uh(hF:fu 1 w0 μ I fb a W)(h2:a.cl.length=2){c:Int}(hc:c<0\/2<=c):Calls U' 67 #[ptr fb,.int .i64 c] W fun e w'=>e=.returned (.pointer none)/\w'=W:=by
 obtain⟨_,CA,_,_,cc,_,_,_,h,_⟩:=hF.cells;exact BZ fb a.cl.length c CA cc W (by omega) h
theorem jA(hu:u.a=r){c:Nat}{y:sN}(hy:r.cl[c]?=some y):∃x:lP,u.cl[c]?=some x/\x.a=y:=by
 rw[<-hu]at hy;exact bF hy
theorem uj(hu:u.a=r){c:Nat}{l:List eI}(hl:r.ln[c]?=some l):∃x:mW,u.ln[c]?=some x/\x.a=l:=by
 rw[<-hu]at hl;exact bF hl
theorem ez(hS:kU a r)(hu:u.a=r):u.cl.length=2/\u.ln.length=2/\u.nd.length=2:=by
 subst hu;exact⟨nL hS.r2,nL hS.l2,nL ((rj List.length hS.nd).symm.trans hS.n2)⟩
theorem aea(h:JS w0 μ I fb rb k W)(hk:k<=1000)(c:Int):Jt w0 μ I fb rb (k+2) false 31 32 #[ptr fb,.int .i64 c] #[ptr rb,.int .i64 c] W:=by
 obtain⟨a,r,hB,hS,ho⟩:=h;have hlen:=hS.on;have sY:=hS.c2;rcases Vu c with⟨n,rfl,hn⟩|hc
 ·obtain⟨x,y,l,hx,hy,hl,hs⟩:=hS.get hn;cases hal:y.al with
  |true=>
   have hxl:=hs.xl hal;have hol:=(hs.left hal (by omega) 2 (dk _));have hpl:(pA x.ln 2).length<=2:=by
    rw[hol.len];grind
   refine Jt.of (r:=r) (v:=.bool true) (a':={a with cl:=a.cl.set n {x with al:=false,ln:=[],ba:=[],wt:=0},os:=a.os++pA x.ln x.ln.length}) (r':={r with cl:=r.cl.set n {y with al:=false,on:=false,dn:=[],hv:=[]},ln:=r.ln.set n (iP n y.inc 2),os:=r.os++l.filter fun p=> !p.q.isEmpty}) ?_ (fun w2 h2=>?_) (hS.sI hs.die (hS.os.append ?_)) ?_
   ·obtain⟨μ',I',hm,hF,_,hb⟩:=hB.left;exact(ad0 hF hx (hs.al.trans hal) (by omega)).mono fun e w' he=>⟨he.1,hb μ' _ _ (ak.refl _) he.2⟩
   ·obtain⟨μ',I',u,hm,hK,hR,hD,hu,_,hb⟩:=h2.right;obtain⟨q1,q2,q3⟩:=ez hS hu;obtain⟨xc,gp,rfl⟩:=jA hu hy;obtain⟨lc,hlc,rfl⟩:=uj hu hl;subst hu;have e1:u.os.length=u.a.os.length:=(ab ..).symm;have e2:lc.ps.length=lc.a.length:=(ab ..).symm;have e3:=hs.ll;have:=XE hK hR hD gp hlc (by omega) hal (by omega);rw[q3]at this;exact this.mono fun e w' he=>⟨he.1,hb μ' _ _ (ak.refl _) he.2⟩
   ·rw[hxl];have:=hs.ll;grind
   grind
  |false=>
   refine Jt.of (r:=r) (v:=.bool false) (a':=a) (r':=r) ?_ (fun w2 h2=>?_) hS (by omega)
   ·obtain⟨μ',I',hm,hF,_,_⟩:=hB.left;exact(Qw hF hx (hs.al.trans hal)).mono fun e w' he=>⟨he.1,he.2▸hB⟩
   ·obtain⟨μ',I',u,hm,hK,hR,hD,hu,_,_⟩:=h2.right;obtain⟨q1,q2,q3⟩:=ez hS hu;obtain⟨xc,gp,rfl⟩:=jA hu hy;have:=(Dn hK hR q1 gp).alive hn;rw[hal]at this;exact(Eu rb n w2 this).mono fun e w' he=>⟨he.1,he.2▸h2⟩
 ·refine Jt.of (r:=r) (v:=.bool false) (a':=a) (r':=r) ?_ (fun w2 h2=>?_) hS (by omega)
  ·obtain⟨μ',I',hm,hF,_,_⟩:=hB.left;obtain⟨_,CA,_,_,cc,_,_,_,hh,_⟩:=hF.cells;exact(NM fb c W (Em fb a.cl.length c CA cc W (by omega) hh)).mono fun e w' he=>⟨he.1,he.2▸hB⟩
  ·obtain⟨μ',I',u,hm,hK,hR,hD,hu,_,_⟩:=h2.right;obtain⟨q1,q2,q3⟩:=ez hS hu;exact(Eu rb c w2 (XL hK hR q1 hc)).mono fun e w' he=>⟨he.1,he.2▸h2⟩
theorem QL(h:JS w0 μ I fb rb k W)(c inc:Int):Jt w0 μ I fb rb k true 33 34 #[ptr fb,.int .i64 c,.int .i64 inc] #[ptr rb,.int .i64 c,.int .i64 inc] W:=by
 obtain⟨a,r,hB,hS,ho⟩:=h;have sY:=hS.c2;have CT:=hS.n2;rcases Vu c with⟨n,rfl,hn⟩|hc
 ·obtain⟨x,y,l,hx,hy,hl,hs⟩:=hS.get hn;cases hal:y.al with
  |true=>
   refine Jt.of (r:=r) (v:=.int .i64 1) (a':=a) (r':=r) ?_ (fun w2 h2=>?_) hS ho
   ·obtain⟨μ',I',hm,hF,_,_⟩:=hB.left;obtain⟨bc,cc,LA,BA,lc,bn,bk,p1,p2,_⟩:=hF.Vt hx;rw[hs.al.trans hal]at p2;exact(Dk fb bc n _ inc W (by omega) p1 p2).mono fun e w' he=>⟨he.1,he.2▸hB⟩
   ·obtain⟨μ',I',u,hm,hK,hR,hD,hu,_,_⟩:=h2.right;obtain⟨q1,q2,q3⟩:=ez hS hu;obtain⟨xc,gp,rfl⟩:=jA hu hy;obtain⟨cb,cc,p1,p2,_⟩:=(Dn hK hR q1 gp).w;rw[hal]at p2;exact(Cm rb cb 2 cc n inc w2 p1 hn p2).mono fun e w' he=>⟨he.1,he.2▸h2⟩
  |false=>
   by_cases hi:0<=inc/\inc<=59
   ·refine Jt.of (r:=r) (v:=.int .i64 0) (a':={a with cl:=a.cl.set n {x with al:=true,inc:=inc,ln:=mR n inc 2}}) (r':={r with cl:=r.cl.set n {y with al:=true,inc:=inc},ln:=r.ln.set n (iP n inc 2)}) ?_ (fun w2 h2=>?_) (hS.sI (hs.renew (hs.dead hal).2 (by omega) hi) hS.os) ho
    ·obtain⟨μ',I',hm,hF,_,hb⟩:=hB.left;have:=Qt hF hx (hs.al.trans hal) (by omega) hi (by omega);rw[CT]at this;exact this.mono fun e w' he=>⟨he.1,hb μ' _ _ (ak.refl _) he.2⟩
    ·obtain⟨μ',I',u,hm,hK,hR,hD,hu,_,hb⟩:=h2.right;obtain⟨q1,q2,q3⟩:=ez hS hu;obtain⟨xc,gp,rfl⟩:=jA hu hy;obtain⟨lc,hlc,rfl⟩:=uj hu hl;subst hu;have:=JN hK hR hD gp hlc (by omega) hal hi.1 hi.2;rw[q3]at this;exact this.mono fun e w' he=>⟨he.1,hb μ' _ _ (ak.refl _) he.2⟩
   ·refine Jt.of (r:=r) (v:=.int .i64 2) (a':=a) (r':=r) ?_ (fun w2 h2=>?_) hS ho
    ·obtain⟨μ',I',hm,hF,_,_⟩:=hB.left;obtain⟨bc,cc,LA,BA,lc,bn,bk,p1,p2,_⟩:=hF.Vt hx;rw[hs.al.trans hal]at p2;exact(Dl fb bc n _ inc W (by omega) p1 p2 (Ki inc W (by omega))).mono fun e w' he=>⟨he.1,he.2▸hB⟩
    ·obtain⟨μ',I',u,hm,hK,hR,hD,hu,_,_⟩:=h2.right;obtain⟨q1,q2,q3⟩:=ez hS hu;obtain⟨xc,gp,rfl⟩:=jA hu hy;obtain⟨cb,cc,p1,p2,_⟩:=(Dn hK hR q1 gp).w;rw[hal]at p2;exact(Cn rb cb 2 cc n inc w2 p1 hn p2 (by omega)).mono fun e w' he=>⟨he.1,he.2▸h2⟩
 ·refine Jt.of (r:=r) (v:=.int .i64 1) (a':=a) (r':=r) ?_ (fun w2 h2=>?_) hS ho
  ·obtain⟨μ',I',hm,hF,_,_⟩:=hB.left;exact(Ke fb c inc W (uh hF sY hc)).mono fun e w' he=>⟨he.1,he.2▸hB⟩
  ·obtain⟨μ',I',u,hm,hK,hR,hD,hu,_,_⟩:=h2.right;obtain⟨q1,q2,q3⟩:=ez hS hu;obtain⟨cb,cc,p1⟩:=MI hK hR q1;exact(F9 rb cb 2 cc c inc w2 p1 (by omega)).mono fun e w' he=>⟨he.1,he.2▸h2⟩
theorem UA(h:JS w0 μ I fb rb k W)(c inc:Int):Jt w0 μ I fb rb k true 35 36 #[ptr fb,.int .i64 c,.int .i64 inc] #[ptr rb,.int .i64 c,.int .i64 inc] W:=by
 obtain⟨a,r,hB,hS,ho⟩:=h;have sY:=hS.c2;have CT:=hS.n2;rcases Vu c with⟨n,rfl,hn⟩|hc
 ·obtain⟨x,y,l,hx,hy,hl,hs⟩:=hS.get hn;cases hal:y.al with
  |false=>
   refine Jt.of (r:=r) (v:=.int .i64 1) (a':=a) (r':=r) ?_ (fun w2 h2=>?_) hS ho
   ·obtain⟨μ',I',hm,hF,_,_⟩:=hB.left;obtain⟨bc,cc,LA,BA,lc,bn,bk,p1,p2,_⟩:=hF.Vt hx;rw[hs.al.trans hal]at p2;exact(Kf fb bc n _ inc W (by omega) p1 p2).mono fun e w' he=>⟨he.1,he.2▸hB⟩
   ·obtain⟨μ',I',u,hm,hK,hR,hD,hu,_,_⟩:=h2.right;obtain⟨q1,q2,q3⟩:=ez hS hu;obtain⟨xc,gp,rfl⟩:=jA hu hy;have:=(Dn hK hR q1 gp).alive hn;rw[hal]at this;exact(vV rb n inc w2 this).mono fun e w' he=>⟨he.1,he.2▸h2⟩
  |true=>
   cases nH:y.on with
   |true=>
    have hne:x.ba≠[]:=fun e=>hs.onT.1 nH (hs.emp.1 e);refine Jt.of (r:=r) (v:=.int .i64 3) (a':=a) (r':=r) ?_ (fun w2 h2=>?_) hS ho
    ·obtain⟨μ',I',hm,hF,_,_⟩:=hB.left;obtain⟨bc,cc,LA,BA,lc,bn,bk,p1,p2,p3,p4,p5,p6,_⟩:=hF.Vt hx;obtain⟨b,rfl⟩:=p6 hne;rw[hs.al.trans hal]at p2;exact(Kg fb bc n _ b bn bk inc W (by omega) p1 p2 p4).mono fun e w' he=>⟨he.1,he.2▸hB⟩
    ·obtain⟨μ',I',u,hm,hK,hR,hD,hu,_,_⟩:=h2.right;obtain⟨q1,q2,q3⟩:=ez hS hu;obtain⟨xc,gp,rfl⟩:=jA hu hy;obtain⟨cb,cc,p1,p2,_,p3⟩:=(Dn hK hR q1 gp).w;rw[hal]at p2;rw[nH]at p3;exact(Gc rb cb 2 cc n inc w2 p1 hn p2 p3).mono fun e w' he=>⟨he.1,he.2▸h2⟩
   |false=>
    have Kt:=hs.onF.1 nH;have tT:=hs.emp.2 Kt;by_cases hi:0<=inc/\inc<=59
    ·have hC:=hs.renew Kt (by omega) hi;have ey:({y with al:=true,inc:=inc}:sN)={y with inc:=inc}:=by rw[<-hal]
     rw[ey]at hC;refine Jt.of (r:=r) (v:=.int .i64 0) (a':={a with cl:=a.cl.set n {x with al:=true,inc:=inc,ln:=mR n inc 2}}) (r':={r with cl:=r.cl.set n {y with inc:=inc},ln:=r.ln.set n (iP n inc 2)}) ?_ (fun w2 h2=>?_) (hS.sI hC hS.os) ho
     ·obtain⟨μ',I',hm,hF,_,hb⟩:=hB.left;obtain⟨bc,cc,LA,BA,lc,bn,bk,p1,p2,p3,p4,p5,_⟩:=hF.Vt hx;obtain⟨rfl,rfl,rfl⟩:=p5 tT;rw[hs.al.trans hal]at p2;refine Kj fb bc n _ inc W _ (by omega) p1 p2 p4 hi ?_;obtain⟨μ2,I2,s2,m2,bq,ux,rfl,IL⟩:=hF;obtain⟨xc,gp,rfl⟩:=bF hx;have e1:s2.nd.length=2:=nL CT;have:=ue bq ux gp (by omega) hi (by omega);rw[e1]at this;exact this.mono fun e w' he=>⟨he.1,hb μ2 _ _ m2 (he.2.from (ak.refl _) IL)⟩
     ·obtain⟨μ',I',u,hm,hK,hR,hD,hu,_,hb⟩:=h2.right;obtain⟨q1,q2,q3⟩:=ez hS hu;obtain⟨xc,gp,rfl⟩:=jA hu hy;obtain⟨lc,hlc,rfl⟩:=uj hu hl;subst hu;have:=Mg hK hR hD gp hlc (by omega) hal nH hi.1 hi.2;rw[q3]at this;exact this.mono fun e w' he=>⟨he.1,hb μ' _ _ (ak.refl _) he.2⟩
    ·refine Jt.of (r:=r) (v:=.int .i64 2) (a':=a) (r':=r) ?_ (fun w2 h2=>?_) hS ho
     ·obtain⟨μ',I',hm,hF,_,_⟩:=hB.left;obtain⟨bc,cc,LA,BA,lc,bn,bk,p1,p2,p3,p4,p5,_⟩:=hF.Vt hx;obtain⟨rfl,rfl,rfl⟩:=p5 tT;rw[hs.al.trans hal]at p2;exact(Gs fb bc n _ inc W (by omega) p1 p2 p4 (Ki inc W (by omega))).mono fun e w' he=>⟨he.1,he.2▸hB⟩
     ·obtain⟨μ',I',u,hm,hK,hR,hD,hu,_,_⟩:=h2.right;obtain⟨q1,q2,q3⟩:=ez hS hu;obtain⟨xc,gp,rfl⟩:=jA hu hy;obtain⟨cb,cc,p1,p2,_,p3⟩:=(Dn hK hR q1 gp).w;rw[hal]at p2;rw[nH]at p3;exact(Df rb cb 2 cc n inc w2 p1 hn p2 p3 (by omega)).mono fun e w' he=>⟨he.1,he.2▸h2⟩
 ·refine Jt.of (r:=r) (v:=.int .i64 1) (a':=a) (r':=r) ?_ (fun w2 h2=>?_) hS ho
  ·obtain⟨μ',I',hm,hF,_,_⟩:=hB.left;exact(MF fb c inc W (uh hF sY hc)).mono fun e w' he=>⟨he.1,he.2▸hB⟩
  ·obtain⟨μ',I',u,hm,hK,hR,hD,hu,_,_⟩:=h2.right;obtain⟨q1,q2,q3⟩:=ez hS hu;exact(vV rb c inc w2 (XL hK hR q1 hc)).mono fun e w' he=>⟨he.1,he.2▸h2⟩
end
section
attribute [local go_sem] Oper.semAt_some
set_option maxRecDepth 100000
set_option maxHeartbeats 2000000 in
set_option maxRecDepth 1000000 in
theorem XM(f:Nat)(c x:Int)(W:World)(h:Q7 (W.alloc (gz (-2) c x)) W.heap.size (-2) c x):
  Calls U' 28 #[.pointer (some ⟨f,0,none⟩),P7 (-2) c x] W fun e w'=>e=.returned (.bool false)/\∃n,w'=(W.alloc (gz (-2) c x)).drewN n:=by
 have mixed:U'.follows .mixedOrders=true:=by kernel_rfl
 obtain⟨a0,a1,a2⟩:=h
 go_enter Tryz.func28,Tryz.ntmps28
 go_wp2_with fail
 go_quiet (fail)
 go_wp2
 go_ret
 exact⟨rfl,_,rfl⟩
variable{w0 W:World}{μ:Mu}{I:Ky->Option ag}{fb rb k:Nat}{a:mV}{r:gP}
theorem fu.box{t:Nat}(h:fu t w0 μ I fb a W)(ty:Nat)(o c x:Int):fu t w0 μ I fb a (W.alloc (.cells #[.int .i64 o,.int .i64 c,.int .i64 x] ty (0,0)))/\Q7 (W.alloc (.cells #[.int .i64 o,.int .i64 c,.int .i64 x] ty (0,0))) W.heap.size o c x:=by
 obtain⟨μ',I',s,hm,hK,hR,ha,hf⟩:=h;have hK1:=hK.alloc (t,.tmp 20) (cs:=[Q' o,Q' c,Q' x]) (cur:= #[.int .i64 o,.int .i64 c,.int .i64 x]) (ty:=ty) (wg _ _ _ _);exact⟨⟨μ',_,s,hm,hK1,hR.of fun k hk=>ae _ _ (aa (hk 20)),ha,fun k hk=>(ae _ _ fun e=>hk (by rw[e])).trans (hf k hk)⟩,hK1.cell (af _ _ _) (j:=0) rfl,hK1.cell (af _ _ _) (j:=1) rfl,hK1.cell (af _ _ _) (j:=2) rfl⟩
theorem mX.box{t:Nat}(h:mX t w0 μ I rb r W)(ty:Nat)(o c x:Int):mX t w0 μ I rb r (W.alloc (.cells #[.int .i64 o,.int .i64 c,.int .i64 x] ty (0,0)))/\Q7 (W.alloc (.cells #[.int .i64 o,.int .i64 c,.int .i64 x] ty (0,0))) W.heap.size o c x:=by
 obtain⟨μ',I',s,hm,hK,hR,hD,ha,hf⟩:=h;have hK1:=hK.alloc (t,.tmp 20) (cs:=[Q' o,Q' c,Q' x]) (cur:= #[.int .i64 o,.int .i64 c,.int .i64 x]) (ty:=ty) (wg _ _ _ _);exact⟨⟨μ',_,s,hm,hK1,hR.of fun k hk=>ae _ _ (aa (hk 20)),hD,ha,fun k hk=>(ae _ _ fun e=>hk (by rw[e])).trans (hf k hk)⟩,hK1.cell (af _ _ _) (j:=0) rfl,hK1.cell (af _ _ _) (j:=1) rfl,hK1.cell (af _ _ _) (j:=2) rfl⟩
theorem mX.cells{t:Nat}(h:mX t w0 μ I rb r W):∃(NA LA OA:Option Addr) (nc lc oc:Nat),W.cell? ⟨rb,1,none⟩=some (.slice NA r.nd.length nc)/\W.cell? ⟨rb,3,none⟩=some (.slice LA r.ln.length lc)/\W.cell? ⟨rb,4,none⟩=some (.slice OA r.os.length oc):=by
 obtain⟨μ',I',s,hm,hK,hR,hD,rfl,hf⟩:=h;obtain⟨NA,CA,LA,OA,nc,cc,lc,oc,h0,h1,h2,h3,h4⟩:=hR.cells' hK;refine⟨NA,LA,OA,nc,lc,oc,?_,?_,?_⟩
 ·rw[show s.a.nd.length=s.nd.length from ab ..];exact h1
 ·rw[show s.a.ln.length=s.ln.length from ab ..];exact h3
 ·rw[show s.a.os.length=s.os.length from ab ..];exact h4
theorem B2.Ku(h:B2 w0 μ I fb rb a r W):∃(μ':Mu) (I':Ky->Option ag),mX 2 w0 μ' I' rb r W/\∀r' w',mX 2 w0 μ' I' rb r' w'->B2 w0 μ I fb rb a r' w':=by
 obtain⟨μ',I',u,hm,hK,hR,hD,rfl,hf,hb⟩:=h.right;exact⟨μ',I',.start hK hR hD,fun r' w' hs=>hb μ' r' w' (ak.refl _) hs⟩
theorem wm{o c x:Int}(hB:B2 w0 μ I fb rb a r W)(hS:kU a r)(ho:a.os.length<=k)
  (hp:∀μ' I',fu 1 w0 μ' I' fb a W->Calls U' 22 #[ptr fb,.agg #[.int .i64 o,.int .i64 c,.int .i64 x]] W fun e w'=>e=.returned (.bool false)/\∃n,w'=(W.alloc (Dm o c x)).drewN n)
  (hr:∀w2,B2 w0 μ I fb rb a r w2->Calls U' 28 #[ptr rb,P7 o c x] w2 fun e w'=>e=.returned (.bool false)/\B2 w0 μ I fb rb a r w'):
  Jt w0 μ I fb rb k false 22 28 #[ptr fb,.agg #[.int .i64 o,.int .i64 c,.int .i64 x]] #[ptr rb,P7 o c x] W:=by
 refine Jt.of (r:=r) (v:=.bool false) (a':=a) (r':=r) ?_ hr hS ho;obtain⟨μ',I',hm,hF,_,hb⟩:=hB.left;refine(hp μ' I' hF).mono fun e w' he=>?_;obtain⟨rfl,n,rfl⟩:=he;exact⟨rfl,hb μ' _ _ (ak.refl _) ((hF.box 77 o c x).1.bw (bY _ n))⟩
theorem CF{o c x:Int}{w2:World}(h2:B2 w0 μ I fb rb a r w2)(hr:∀μ' I',mX 2 w0 μ' I' rb r w2->Calls U' 28 #[ptr rb,P7 o c x] w2 fun e w'=>e=.returned (.bool false)/\∃n,w'=(w2.alloc (gz o c x)).drewN n):
  Calls U' 28 #[ptr rb,P7 o c x] w2 fun e w'=>e=.returned (.bool false)/\B2 w0 μ I fb rb a r w':=by
 obtain⟨μ',I',hR,hb⟩:=h2.Ku;refine(hr μ' I' hR).mono fun e w' he=>?_;obtain⟨rfl,n,rfl⟩:=he;exact⟨rfl,hb _ _ ((hR.box 86 o c x).1.bw (bY _ n))⟩
theorem UB(h:JS w0 μ I fb rb k W)(hk:k<=1000)(o c x:Int)(hom: -2<=o):Jt w0 μ I fb rb k false 22 28 #[ptr fb,.agg #[.int .i64 o,.int .i64 c,.int .i64 x]] #[ptr rb,P7 o c x] W:=by
 obtain⟨a,r,hB,hS,ho⟩:=h;have hlen:=hS.on;have sY:=hS.c2;have hl2:=hS.l2;have CT:=hS.n2;have yC:r.nd.length=2:=by rw[<-hS.nd];exact CT
 by_cases h0:0<=o
 ·obtain⟨n,rfl⟩:∃n:Nat,o=n:=⟨o.toNat,by omega⟩;by_cases hn:n<a.os.length
  ·obtain⟨p,hp⟩:∃p,a.os[n]?=some p:=⟨_,ao hn⟩;obtain⟨q,hq⟩:∃q,r.os[n]?=some q:=⟨_,ao (by omega)⟩;obtain⟨o1,o2,o3,o4⟩:=hS.os.each n p q hp hq;obtain⟨nd,hn1,XN,hnw⟩:=hS.abn o3;refine Jt.of (r:=r) (v:=.bool true) (a':=a.gF n q.nd (p.step nd)) (r':=r.gF n q.nd (q.step nd)) ?_ (fun w2 h2=>?_) (hS.gF hp hq hnw) ?_
   ·obtain⟨μ',I',hm,hF,_,hb⟩:=hB.left;exact(Xx hF hp o1.nd hn1 o1.inv.ok (by omega) (by omega) c x).mono fun e w' he=>⟨he.1,hb μ' _ _ (ak.refl _) he.2⟩
   ·obtain⟨μ',I',u,hm,hK,hR,hD,hu,_,hb⟩:=h2.right;subst hu;obtain⟨pc,xW,rfl⟩:=bF hq;obtain⟨nc,hnc,rfl⟩:=bF XN;have e1:u.os.length=u.a.os.length:=(ab ..).symm;exact(Ql hK hR hD xW rfl hnc (o1.ok o2 (by omega) (by omega)) (by omega) c x).mono fun e w' he=>⟨he.1,hb μ' _ _ (ak.refl _) he.2⟩
   ·unfold mV.gF;grind
  ·refine wm hB hS ho (fun μ' I' hF=>?_) fun w2 h2=>CF h2 fun μ' I' hR=>?_
   ·obtain⟨YD,b0,b1,b2⟩:=hF.box 77 n c x;obtain⟨_,_,OA,_,_,oc,_,_,_,h3⟩:=YD.cells;refine(JV fb n c x W _ (fun w'=>w'=W.alloc (Dm n c x)) false rfl b0 (Xo fb n a.os.length oc OA _ (by omega) h3)).mono fun e w' he=>⟨he.1,0,he.2⟩
   ·obtain⟨Kv,b0,b1,b2⟩:=hR.box 86 n c x;have ux:=Kv.bw (bY _ 1);obtain⟨_,_,OA,_,_,oc,_,_,h4⟩:=ux.cells;exact(Xa rb r.os.length oc OA n c x w2 (by omega) ⟨b0,h4⟩).mono fun e w' he=>⟨he.1,1,he.2⟩
 by_cases h1:o< -1
 ·obtain rfl:o= -2:=by omega
  refine wm hB hS ho (fun μ' I' hF=>?_) fun w2 h2=>CF h2 fun μ' I' hR=>?_
  ·exact(Uy fb (-2) c x W h1 (hF.box 77 (-2) c x).2).mono fun e w' he=>⟨he.1,0,he.2⟩
  ·exact XM rb c x w2 (hR.box 86 (-2) c x).2
 have e1:o= -1:=by omega
 subst e1;have agm:(c<0\/2<=c\/x<0\/2<=x)->∀w2,B2 w0 μ I fb rb a r w2->Calls U' 28 #[ptr rb,P7 (-1) c x] w2 fun e w'=>e=.returned (.bool false)/\B2 w0 μ I fb rb a r w':=fun hb w2 h2=>CF h2 fun μ' I' hR=>by
  obtain⟨Kv,b0,b1,b2⟩:=hR.box 86 (-1) c x;have ux:=Kv.bw (bY _ 1);obtain⟨NA,LA,_,nc,lc,_,p1,p3,_⟩:=ux.cells;exact Xi rb r.ln.length lc r.nd.length nc LA NA c x w2 (by omega) ⟨b0,b1,b2,p3,p1⟩
 rcases Vu c with⟨n,rfl,hn⟩|hc
 ·obtain⟨y,z,l,hy,hz,hl,hs⟩:=hS.get hn;have hxl:y.ln.length<=2:=by
   cases hal:z.al with
   |true=>rw[hs.xl hal];exact dk _
   |false=>rw[(hs.dead hal).1];exact nt _
  have agN:(x<0\/(y.ln.length:Int)<=x)->∀μ' I',fu 1 w0 μ' I' fb a W->Calls U' 22 #[ptr fb,.agg #[.int .i64 (-1),.int .i64 n,.int .i64 x]] W fun e w'=>e=.returned (.bool false)/\∃n',w'=(W.alloc (Dm (-1) n x)).drewN n':=fun hx μ' I' hF=>by
   obtain⟨YD,Hd⟩:=hF.box 77 (-1) n x;obtain⟨bc,cc,LA,BA,lc,bn,bk,p1,p2,p3,_⟩:=YD.Vt hy;grind [QJ]
  rcases Vu x with⟨j,rfl,hj⟩|hx
  ·obtain⟨q,hq⟩:∃q,l[j]?=some q:=⟨_,ao (by rw[hs.ll];exact hj)⟩;obtain⟨nd,hn1,XN,hnw⟩:=hS.abn hj;obtain⟨c1,c3,c4⟩:=hs.lc j q hq;by_cases hqe:q.q=[]
   ·have hst:q.step nd=⟨⟨0,true,[]⟩,-1,false,false,q,nd⟩:=by unfold eI.step;rw[hqe]
    have hrr:r.mQ n j z l (q.step nd)=r:=by
     unfold gP.mQ sN.fill;simp_all [eg,gS]
    refine wm hB hS ho (fun μ' I' hF=>?_) fun w2 h2=>?_
    ·by_cases hyl:j<y.ln.length
     ·obtain⟨e,he⟩:∃e,y.ln[j]?=some e:=⟨_,ao hyl⟩;obtain⟨g,_⟩:=hs.ps j q e hq he;obtain⟨YD,Hd⟩:=hF.box 77 (-1) n j;obtain⟨μ2,I2,s2,m2,bq,ux,rfl,IL⟩:=YD;obtain⟨xc,gp,rfl⟩:=bF hy;obtain⟨lc,hlc,rfl⟩:=bF he;obtain⟨bc,cc,fI,lz,ng⟩:=ux.jy bq gp;have kD:=ux.cl n xc gp;obtain⟨bl,ll,hlv,Cb,hlp,_⟩:=kD.zk bq hlc;obtain⟨VA,vc,wK⟩:=kD.WE bq hlc;have p2:=ux.c2 bq;rw[fI]at p2;have p3:=ng.lv;rw[hlv]at p3;have VK:lc.a.p.q.length=0:=by rw[g.nil.2 hqe];rfl
      rw[VK]at wK;exact QK fb bc n s2.cl.length cc j lc.b bl xc.ln.length ll 0 none W (aV gp) (aV hlc) Hd p2 p3 hlp fun m=>jk lc.b 0 vc VA ((W.alloc (Dm (-1) n j)).drewN m) wK
     grind
    ·obtain⟨μ',I',u,hm,hK,hR,hD,hu,_,hb⟩:=h2.right;obtain⟨xc,gp,rfl⟩:=jA hu hz;obtain⟨lc,hlc,rfl⟩:=uj hu hl;obtain⟨pc,xW,rfl⟩:=bF hq;have Yr:u.a.nd[j]?=some nd:=by rw[hu];exact XN
     obtain⟨nc,hnc,rfl⟩:=bF Yr;have:=Ez hK hR hD hlc xW hnc gp ⟨by omega,by omega,by grind,by omega,fun x' r' e=>by rw[hqe]at e;cases e⟩ (fun e=>by rw[hst]at e;cases e);rw[hu,hrr,hst]at this;exact this.mono fun e w' he=>⟨he.1,hb μ' _ _ (ak.refl _) he.2⟩
   ·have hal:z.al=true:=by
     cases e':z.al with
     |true=>rfl
     |false=>exact absurd (sE (hs.noS (hs.dead e').2) hq) hqe
    obtain⟨e,he⟩:∃e,y.ln[j]?=some e:=⟨_,ao (by rw[hs.xl hal];exact hj)⟩;obtain⟨g,gl⟩:=hs.ps j q e hq he;cases hq':q.q with
    |nil=>exact absurd hq' hqe
    |cons v t=>
    obtain⟨s1,s2,s3,s4,s5,s6,s7,s8,s9,s10,s11,s12⟩:=g.step nd hq';have hvf:=hs.sf v.sl (xI hq (by rw[hq'];simp));have hvl:=aV hvf;have hd:=hs.hd;have h8:=hs.h8;refine Jt.of (r:=r) (v:=.bool true) (a':={a with nd:=a.nd.set j (e.p.step nd).2.2.2,cl:=a.cl.set n (y.lg j (e.p.step nd) e.pl)}) (r':=r.mQ n j z l (q.step nd)) ?_ (fun w2 h2=>?_) (hS.mQ hy hz hl hq he hqe hnw) ho
    ·obtain⟨μ',I',hm,hF,_,hb⟩:=hB.left;refine(Mx hF hy he hn1 (fun e'=>hqe (g.nil.1 e')) g.inv.ok (by omega) fun _=>⟨v.sl,t.map fun r=>(r.sl:Int),by rw[gl,hq'];rfl,by rw[hs.len];omega,?_⟩).mono fun e w' he=>⟨he.1,hb μ' _ _ (ak.refl _) he.2⟩;rw[ab];have KI:=g.inv.ql;rw[g.vs,ab,hq',ki]at KI;omega
    ·obtain⟨μ',I',u,hm,hK,hR,hD,hu,_,hb⟩:=h2.right;obtain⟨xc,gp,rfl⟩:=jA hu hz;obtain⟨lc,hlc,rfl⟩:=uj hu hl;obtain⟨pc,xW,rfl⟩:=bF hq;have Yr:u.a.nd[j]?=some nd:=by rw[hu];exact XN
     obtain⟨nc,hnc,rfl⟩:=bF Yr;have:=Ez hK hR hD hlc xW hnc gp (g.ok (by omega) (by omega) (by omega)) (fun e=>⟨v.sl,(s7 e).1,by omega,by omega⟩);rw[hu,s6]at this;exact this.mono fun e w' he=>⟨he.1,hb μ' _ _ (ak.refl _) he.2⟩
  grind [wm]
 ·refine wm hB hS ho (fun μ' I' hF=>?_) (agm (by omega));obtain⟨YD,Hd⟩:=hF.box 77 (-1) c x;grind [Uz,uh]
end
section
variable{w0 W:World}{μ:Mu}{I:Ky->Option ag}{t:Nat}
theorem Zx{hp:HF}:∀{F:List Nat} {vs us:List Value},nB μ hp F (vs.map AV.v) us->us=vs
 |_,[],us,h=>by cases h;rfl
 |_,v::vs,us,h=>by
  cases h with
  |cons h k=>rw[Zx k,(aap h).1]
theorem az.rO(h:az w0 μ I W){k:Ky}{b ty:Nat}{vs:List Value}(hk:I k=some (bG b F ty (vs.map AV.v)))(j:Nat)(x:Value)(hx:oN (.v x)=true)(hj:Nat.ble (j+1) vs.length=true):
  ∃F',az w0 μ (put I k (some (bG b F' ty ((vs.set j x).map AV.v)))) (W.setCell ⟨b,j,none⟩ x)/\W.frozen? ⟨b,j,none⟩=false/\(∃y,W.cell? ⟨b,j,none⟩=some y):=by
 have hj:j<vs.length:=pe hj;obtain⟨F',_,hK⟩:=h.set hk j (a:=.v x) (v:=x) (.v hx);refine⟨F',?_,h.frozen hk j,_,h.cell hk (j:=j) (x:=vs[j]) (by rw[et,ao hj];rfl)⟩;rw[show(vs.set j x).map AV.v=(vs.map AV.v).set j (.v x)from ahl ..];exact hK
abbrev vC(a0 a1 a2 a3 a4 a5:Int)(wv:Value)(a7 a8:Int):List Value:=[.int .i64 a0,.int .i64 a1,.int .i64 a2,.int .i64 a3,.int .u64 a4,.int .u64 a5,wv,.int .u64 a7,.int .i64 a8]
theorem Zy:U'.underlying 59=some (.slice 69):=by kernel_rfl
theorem Zz:(U'.info? 69).map (fun i=>(i.zero,i.size,i.bytes))=some (some (.int .u64 0),1,8):=by kernel_rfl
def XO(t:Nat)(w0:World)(μ:Mu)(I:Ky->Option ag)(b i:Nat)(W:World):Prop:=
 ∃(I':Ky->Option ag) (F F2:List Nat) (a0 a1 a2 a3 a4 a5 a7 a8:Int) (wv:Value) (ws:List Int),az w0 μ I' W/\I' (t,.tmp 20)=some (bG (b+1) F 71 ((vC a0 a1 a2 a3 a4 a5 wv a7 a8).map AV.v))/\
  I' (t,.tmp 22)=some (bG b F2 71 ((vC 0 0 0 0 0 0 (.slice none 0 0) 0 0).map AV.v))/\Row I' (t,.tmp 21) wv 69 1 (ws.map wr)/\ws.length=i/\i<=23/\∀k,k≠(t,.tmp 20)->k≠(t,.tmp 21)->k≠(t,.tmp 22)->I' k=I k
theorem UC{a0 a1 a2 a3 a4 a5:Int}{l c:Nat}{a7 a8:Int}:∀v∈vC a0 a1 a2 a3 a4 a5 (.slice A l c) a7 a8,oN (.v v)=true:=fun v hv=>by
 simp only[ft,dt,re]at hv;rcases hv with rfl|rfl|rfl|rfl|rfl|rfl|rfl|rfl|rfl<;>rfl
theorem dP{t m:Nat}(h:m≠n):((t,.tmp m):Ky)≠(t,.tmp n):=fun e=>h (by injection e with _ e;injection e)
theorem abq{b:Nat}(hi:i<23)(h:XO t w0 μ I b i W):Y0 (b+1) i W (XO t w0 μ I b):=by
 obtain⟨I',F,F2,a0,a1,a2,a3,a4,a5,a7,a8,wv,ws,hK,Dc,XP,hr,hl,agn,hf⟩:=h;obtain⟨A,c,rfl,_⟩:=hr.val;rw[ab,hl]at hr Dc;obtain⟨I47,hI,vR,qD,yJ⟩:=info_parts Zz;have hx:∀x:Int,∃y:Nat×Nat×World,(∀ty,(Builtin.append_ #[59,59] ty #[.slice A i c,.slice (some ⟨W.heap.size,0,none⟩) 1 1]).run U' (W.alloc (.cells #[.int .u64 x] 69))=.ok (.slice (some ⟨y.1,0,none⟩) (i+1) y.2.1) y.2.2)/\
   az w0 μ (put I' (t,.tmp 21) (some (aE y.1 y.2.1 69 1 (ws.map wr++[wr x])))) y.2.2:=fun x=>by
  have Xq:=hK.bw (ar.alloc W (.cells #[.int .u64 x] 69));obtain⟨b',c',W2,hrun,bq,_,_⟩:=Xq.ua (P:=U') (es:=wr x) hr Zy hI vR qD (by omega) (by omega) rfl (by rw[ab];omega) (Ev.aZ W _) rfl (fun v hv=>by simp at hv;subst hv;rfl) rfl fun jj u v hu hv=>by
   cases jj with
   |zero=>cases hu;cases hv;exact .v rfl
   |succ j=>simp[wr]at hu
  rw[ab,hl]at hrun;exact⟨(b',c',W2),hrun,bq⟩
 obtain⟨Y,hY⟩:=Classical.axiomOfChoice hx;have g20:∀x,(put I' (t,.tmp 21) (some (aE (Y x).1 (Y x).2.1 69 1 (ws.map wr++[wr x])))) (t,.tmp 20)=_:=fun x=>aC Dc (dP (by omega));refine⟨A,i,c,fun x=>(Y x).1,fun x=>(Y x).2.1,fun x=>(Y x).2.2,hK.cell Dc (j:=6) rfl,fun x ty=>(hY x).1 ty,fun x=>(hY x).2.frozen (g20 x) 6,fun x=>(hY x).2.cell (g20 x) (j:=6) rfl,fun x=>?_⟩;obtain⟨F',du,_,_⟩:=az.rO (hY x).2 (g20 x) 6 (.slice (some ⟨(Y x).1,0,none⟩) (i+1) (Y x).2.1) rfl rfl;refine⟨_,F',F2,a0,a1,a2,a3,a4,a5,a7,a8,.slice (some ⟨(Y x).1,0,none⟩) (i+1) (Y x).2.1,ws++[x],du,af _ _ _,aC (aC XP (dP (by omega))) (dP (by omega)),.inr ⟨(Y x).1,(Y x).2.1,?_,aC ?_ (dP (by omega))⟩,by rw[ec,hl];rfl,by omega,fun k k1 k2 k3=>?_⟩
 ·rw[ab,ec,hl];rfl
 ·rw[af,im];rfl
 ·rw[ae _ _ k1,ae _ _ k2];exact hf k k1 k2 k3
def UD(t:Nat)(w0:World)(μ:Mu)(I:Ky->Option ag)(v:Value)(W:World):Prop:=
 ∃(a0 a1 a2 a3 a4 a5 a7 a8:Int) (A:Option Addr) (wc:Nat) (ws:List Int) (I':Ky->Option ag),v=.agg #[.int .i64 a0,.int .i64 a1,.int .i64 a2,.int .i64 a3,.int .u64 a4,.int .u64 a5,.slice A ws.length wc,.int .u64 a7,.int .i64 a8]/\
  az w0 μ I' W/\Row I' (t,.tmp 21) (.slice A ws.length wc) 69 1 (ws.map wr)/\ws.length<=23/\∀k,k≠(t,.tmp 20)->k≠(t,.tmp 21)->k≠(t,.tmp 22)->I' k=I k
theorem abr{b:Nat}(h:XO t w0 μ I b i W):Y1 (b+1) b W (UD t w0 μ I):=by
 obtain⟨I',F,F2,a0,a1,a2,a3,a4,a5,a7,a8,wv,ws,hK,Dc,XP,hr,hl,agn,hf⟩:=h;obtain⟨A,c,rfl,_⟩:=hr.val;rw[ab]at hr Dc;have hn:((t,.tmp 20):Ky)≠(t,.tmp 22):=dP (by omega);obtain⟨F0,k0,f0,c0⟩:=az.rO hK XP 0 (.int .i64 a0) rfl rfl;obtain⟨F1,k1,f1,c1⟩:=az.rO k0 (af _ _ _) 1 (.int .i64 a1) rfl rfl;rw[aK]at k1;obtain⟨F2',k2,f2,c2⟩:=az.rO k1 (af _ _ _) 2 (.int .i64 a2) rfl rfl;rw[aK]at k2;obtain⟨F3,k3,f3,c3⟩:=az.rO k2 (af _ _ _) 3 (.int .i64 a3) rfl rfl;rw[aK]at k3;obtain⟨F4,k4,f4,c4⟩:=az.rO k3 (af _ _ _) 4 (.int .u64 a4) rfl rfl;rw[aK]at k4;obtain⟨F5,k5,f5,c5⟩:=az.rO k4 (af _ _ _) 5 (.int .u64 a5) rfl rfl;rw[aK]at k5;obtain⟨F6,k6,f6,c6⟩:=az.rO k5 (af _ _ _) 6 (.slice A ws.length c) rfl rfl;rw[aK]at k6;obtain⟨F7,k7,f7,c7⟩:=az.rO k6 (af _ _ _) 7 (.int .u64 a7) rfl rfl;rw[aK]at k7;obtain⟨F8,k8,f8,c8⟩:=az.rO k7 (af _ _ _) 8 (.int .i64 a8) rfl rfl;rw[aK]at k8;obtain⟨_,cur,_,hH,_,hB⟩:=k8.ob (af _ _ _);have hc:=Zx hB;refine⟨a0,a1,a2,a3,a4,a5,a7,a8,A,ws.length,c,_,_,_,_,_,_,_,_,_,hK.cell Dc (j:=0) rfl,hK.cell Dc (j:=1) rfl,hK.cell Dc (j:=2) rfl,hK.cell Dc (j:=3) rfl,hK.cell Dc (j:=4) rfl,hK.cell Dc (j:=5) rfl,hK.cell Dc (j:=6) rfl,hK.cell Dc (j:=7) rfl,hK.cell Dc (j:=8) rfl,
  f0,c0,rfl,f1,c1,rfl,f2,c2,rfl,f3,c3,rfl,f4,c4,rfl,f5,c5,rfl,f6,c6,rfl,f7,c7,rfl,f8,c8,rfl,?_,a0,a1,a2,a3,a4,a5,a7,a8,A,c,ws,_,rfl,k8,hr.put (dP (by omega)),by omega,fun k q1 q2 q3=>?_⟩
 ·rw[hH];have:cur= #[.int .i64 a0,.int .i64 a1,.int .i64 a2,.int .i64 a3,.int .u64 a4,.int .u64 a5,.slice A ws.length c,.int .u64 a7,.int .i64 a8]:=Array.toList_inj.1 hc;rw[this]
 ·rw[ae _ _ q3];exact hf k q1 q2 q3
theorem XQ(t:Nat)(hK:az w0 μ I W)(kind node at_ n key aS old Cc:Int):
  Calls U' 76 #[.int .i64 kind,.int .i64 node,.int .i64 at_,.int .i64 n,.int .i64 key,.int .i64 aS,.int .u64 old,.int .u64 Cc] W fun e w'=> ∃v,e=.returned v/\UD t w0 μ I v w':=by
 refine PT kind node at_ n key aS old Cc W (XO t w0 μ I W.heap.size) (UD t w0 μ I) (fun a0 a1 a2 a3 a7 a8=>?_) ⟨fun i W' hi h=>abq hi h,fun i W' h=>abr h⟩;have k1:=hK.alloc (t,.tmp 22) (cs:=(vC 0 0 0 0 0 0 (.slice none 0 0) 0 0).map AV.v) (cur:= #[.int .i64 0,.int .i64 0,.int .i64 0,.int .i64 0,.int .u64 0,.int .u64 0,.slice none 0 0,.int .u64 0,.int .i64 0]) (ty:=71) (fE (vC 0 0 0 0 0 0 (.slice none 0 0) 0 0) UC);obtain⟨W1,hW1⟩:∃W1,W.alloc vbZ=W1:=⟨_,rfl⟩;have hs1:W1.heap.size=W.heap.size+1:=by rw[<-hW1];exact Array.size_push ..
 rw[show(W.alloc (.cells #[.int .i64 0,.int .i64 0,.int .i64 0,.int .i64 0,.int .u64 0,.int .u64 0,.slice none 0 0,.int .u64 0,.int .i64 0] 71 (0,0)))=W1 from hW1]at k1;have k2:=k1.alloc (t,.tmp 20) (cs:=(vC a0 a1 a2 a3 old Cc (.slice none 0 0) a7 a8).map AV.v) (cur:= #[.int .i64 a0,.int .i64 a1,.int .i64 a2,.int .i64 a3,.int .u64 old,.int .u64 Cc,.slice none 0 0,.int .u64 a7,.int .i64 a8]) (ty:=71) (fE (vC a0 a1 a2 a3 old Cc (.slice none 0 0) a7 a8) UC);rw[hs1]at k2;rw[hW1];exact⟨_,_,_,a0,a1,a2,a3,old,Cc,a7,a8,.slice none 0 0,[],k2,af _ _ _,aC (af _ _ _) (dP (by omega)),.inl ⟨rfl,rfl⟩,rfl,by omega,fun k q1 q2 q3=>by rw[ae _ _ q1,ae _ _ q3]⟩
end
section
variable{w0 W:World}{μ:Mu}{I:Ky->Option ag}{t:Nat}
structure Rw where
 kind:Int
 node:Int
 at_:Int
 n:Int
 old:Int
 new:Int
def Rw.row(r:Rw):List AV:=[Q' r.kind,Q' r.node,Q' r.at_,Q' r.n,Z' r.old,Z' r.new]
theorem aeb:(U'.info? 71).map (fun i=>(i.zero,i.size,i.bytes))=some (some (.agg #[.int .i64 0,.int .i64 0,.int .i64 0,.int .i64 0,.int .u64 0,.int .u64 0,.slice none 0 0,.int .u64 0,.int .i64 0]),9,88):=by kernel_rfl
theorem aec:U'.underlying 72=some (.slice 71):=by kernel_rfl
def UE(t:Nat)(I I':Ky->Option ag):Prop:=∀k:Ky,(∀n,k≠(t,.tmp n))->I' k=I k
def XR(t:Nat)(w0:World)(μ:Mu)(I:Ky->Option ag)(i:Nat)(A:Option Addr)(l c:Nat)(W:World):Prop:=
 ∃(μ':Mu) (I':Ky->Option ag) (vs:List Vb),ak μ μ'/\az w0 μ' I' W/\Row I' (t,.tmp 30) (.slice A l c) 71 9 (vs.map Vb.row)/\vs.length=i/\l=i/\(∀u∈vs,u.Wf)/\UE t I I'
theorem UF{l c b6:Nat}{μ1:Mu}{I1:Ky->Option ag}{y0 y1 y2 y3 y4 y5:Int}{YA:Option Addr}{ws:List Int}{yc:Nat}(hi:i<50000)(hm:ak μ μ1)(hl:vs.length=i)(Z5:l=i)(hw:∀u∈vs,u.Wf)(hf:UE t I I1)
  (hK:az w0 μ1 I1 W) (hr:Row I1 (t,.tmp 30) (.slice A l c) 71 9 (vs.map Vb.row)) (XS:I1 (t,.tmp 23)=some (bG b6 F 71 ((vC y0 y1 y2 y3 y4 y5 (.slice YA ws.length yc) 0 0).map AV.v))) (Ei:Row I1 (t,.tmp 21) (.slice YA ws.length yc) 69 1 (ws.map wr)) (hw1:ws.length<=1000):
  Td b6 A l c y0 y1 y2 y3 y4 y5 YA ws.length yc W (XR t w0 μ I (i+1)):=by
 subst hl;subst Z5;obtain⟨μ',wn,hm',hK',hd,hn⟩:=hK.Lz Ei;have Xq:=hK'.bw (ar.alloc W (.cells (aJ y0 y1 y2 y3 y4 y5 YA ws.length yc 0 0) 71));obtain⟨I50,hI,vR,qD,yJ⟩:=info_parts aeb;have hr':=hr.put (x:=none) (dP (t:=t) (m:=30) (n:=21) (by omega));have hwf:(⟨y0,y1,y2,y3,y4,y5,wn,ws,0,0⟩:Vb).Wf:=⟨fun h=>by
  simp_all,by grind⟩
 obtain⟨b',c',W2,hrun,bq,_,_⟩:=Xq.ua (P:=U') (es:=Vb.row ⟨y0,y1,y2,y3,y4,y5,wn,ws,0,0⟩) hr' aec hI vR qD (by omega) (by omega) rfl (by rw[ab];omega) (Ev.aZ W _) rfl LQ rfl fun jj u x hu hx=>En (v:=⟨y0,y1,y2,y3,y4,y5,wn,ws,0,0⟩) hd jj u x hu (by grind);rw[ab]at hrun;refine⟨b',c',W2,⟨hK.cell XS (j:=0) rfl,hK.cell XS (j:=1) rfl,hK.cell XS (j:=2) rfl,hK.cell XS (j:=3) rfl,hK.cell XS (j:=4) rfl,hK.cell XS (j:=5) rfl,hK.cell XS (j:=6) rfl,hK.cell XS (j:=7) rfl,hK.cell XS (j:=8) rfl⟩,fun ty=>hrun ty,
  μ',_,vs++[⟨y0,y1,y2,y3,y4,y5,wn,ws,0,0⟩],hm.trans hm',bq,.inr ⟨b',c',?_,?_⟩,?_,rfl,fun u hu=>?_,fun k hk=>?_⟩
 ·grind
 ·rw[af,im];rfl
 ·grind
 ·grind
 ·rw[ae _ _ (hk 30),ae _ _ (hk 21)];exact hf k hk
theorem abt{n:Bool}{rs:List Rw}{vb vo m vc:Nat}(hd:DR μ (.aq n 6 (rs.map Rw.row)) (.slice (some ⟨vb,vo,none⟩) m vc))(hm:rs.length<=50000){l c:Nat}(hi:i<rs.length)(h:XR t w0 μ I i A l c W):Te vb vo i A l c W (XR t w0 μ I (i+1)):=by
 obtain⟨μ1,I1,vs,iT,hK,hr,hl,Z5,hwf,hf⟩:=h;obtain⟨r,hri⟩:∃r,rs[i]?=some r:=⟨_,ao hi⟩;have hne:rs.map Rw.row≠[]:=fun e=>by
  simp_all
 obtain⟨vb',vo',vc',e,hcell⟩:=cU (W:=W) (hd.mono iT) hK.gj (by omega) hne;injection e with e1 e2 e3;injection e1 with e1;injection e1 with e1 e4;subst e1 e4;have hat:∀(j:Nat) (x:Value),r.row[j]?=some (.v x)->W.cell? ⟨vb,vo+i*6+j,none⟩=some x:=fun j x hx=>by
  obtain⟨y,h1,h2⟩:=hcell i j r.row (.v x) (by grind) hx;rw[h1,jq h2]
 obtain⟨W1,hW1⟩:∃W1,W.alloc (.cells #[.int .i64 r.kind,.int .i64 r.node,.int .i64 r.at_,.int .i64 r.n,.int .u64 r.old,.int .u64 r.new] 127)=W1:=⟨_,rfl⟩;have kA:=hK.alloc (t,.tmp 24) (cs:=[Value.int .i64 r.kind,.int .i64 r.node,.int .i64 r.at_,.int .i64 r.n,.int .u64 r.old,.int .u64 r.new].map AV.v) (cur:= #[.int .i64 r.kind,.int .i64 r.node,.int .i64 r.at_,.int .i64 r.n,.int .u64 r.old,.int .u64 r.new]) (ty:=127)
  (fE [.int .i64 r.kind,.int .i64 r.node,.int .i64 r.at_,.int .i64 r.n,.int .u64 r.old,.int .u64 r.new] fun v hv=>by
   simp only[ft,dt,re]at hv;rcases hv with rfl|rfl|rfl|rfl|rfl|rfl<;>rfl)
 rw[hW1]at kA;refine⟨r.kind,r.node,r.at_,r.n,r.old,r.new,hat 0 _ rfl,hat 1 _ rfl,hat 2 _ rfl,hat 3 _ rfl,hat 4 _ rfl,hat 5 _ rfl,?_⟩;rw[hW1];refine(XQ t kA r.kind r.node r.at_ r.n 1 1 r.old r.new).mono fun e w' he=>?_;obtain⟨v,rfl,a0,a1,a2,a3,a4,a5,a7,a8,WA,wc,ws,I2,rfl,bq,hrw,hwl,IL⟩:=he;refine⟨a0,a1,a2,a3,a4,a5,WA,ws.length,wc,a7,a8,rfl,?_⟩;have hf3:∀k:Ky,(∀n,k≠(t,.tmp n))->I2 k=I k:=fun k hk=>by
  rw[IL k (hk _) (hk _) (hk _),ae _ _ (hk _)];exact hf k hk
 have yC:Row I2 (t,.tmp 30) (.slice A l c) 71 9 (vs.map Vb.row):=(hr.put (x:=some (bG W.heap.size [W.heap.size] 127 _)) (dP (n:=24) (by omega))).same (IL _ (dP (by omega)) (dP (by omega)) (dP (by omega)));have h24:I2 (t,.tmp 24)=some (bG W.heap.size [W.heap.size] 127 ([Value.int .i64 r.kind,.int .i64 r.node,.int .i64 r.at_,.int .i64 r.n,.int .u64 r.old,.int .u64 r.new].map AV.v)):=(IL _ (dP (by omega)) (dP (by omega)) (dP (by omega))).trans (af _ _ _);have k3:=bq.alloc (t,.tmp 23) (cs:=(vC a0 a1 a2 a3 a4 a5 (.slice WA ws.length wc) a7 a8).map AV.v) (cur:=aJ a0 a1 a2 a3 a4 a5 WA ws.length wc a7 a8) (ty:=71) (fE (vC a0 a1 a2 a3 a4 a5 (.slice WA ws.length wc) a7 a8) UC);obtain⟨F7,k7,f7,c7⟩:=az.rO k3 (af _ _ _) 7 (.int .u64 0) rfl rfl;rw[aK]at k7;obtain⟨F8,k8,f8,c8⟩:=az.rO k7 (af _ _ _) 8 (.int .i64 0) rfl rfl;rw[aK]at k8;have q24:∀{x},put I2 (t,.tmp 23) x (t,.tmp 24)=_:=fun{x}=>aC h24 (dP (by omega));have Ze:=k8.drew;have s3:∀{μ3:Mu} {x:Option ag} {w:World},az w0 μ3 (put I2 (t,.tmp 23) x) w->S3 W.heap.size r.kind r.node r.at_ w:=fun{μ3 x w} h=>⟨h.cell q24 (j:=0) rfl,h.cell q24 (j:=1) rfl,h.cell q24 (j:=2) rfl⟩;refine⟨_,_,⟨f7,c7,rfl⟩,⟨f8,c8,rfl⟩,k8.cell q24 (j:=3) rfl,fun _=>?_,fun _=>?_⟩
 ·refine UF (by omega) iT hl Z5 hwf (fun k hk=>?_) k8 (yC.put (dP (by omega))) (af _ _ _) (hrw.put (dP (by omega))) (by omega);grind [ae]
 ·obtain⟨G0,g0,d0,e0⟩:=az.rO Ze (af _ _ _) 0 (.int .i64 (pick r.kind 4+1)) rfl rfl;rw[aK]at g0;obtain⟨G1,g1,d1,e1⟩:=az.rO g0 (af _ _ _) 1 (.int .i64 (pick r.node 2)) rfl rfl;rw[aK]at g1;obtain⟨G2,g2,d2,e2⟩:=az.rO g1 (af _ _ _) 2 (.int .i64 (pick r.at_ 60+32)) rfl rfl;rw[aK]at g2;obtain⟨G3,g3,d3,e3⟩:=az.rO g2 (af _ _ _) 3 (.int .i64 (pick r.n 20+1)) rfl rfl;rw[aK]at g3;have gA:=g3.bw (ar.alloc _ (.cells #[.int .u64 7] 69));obtain⟨I47,hI,vR,qD,yJ⟩:=info_parts Zz;obtain⟨b',c',W4,hrun,g4,_,_⟩:=gA.ua (P:=U') (es:=wr 7) (hrw.put (l:=(t,.tmp 23)) (dP (by omega))) Zy hI vR qD (by omega) (by omega) rfl (by rw[ab];omega) (Ev.aZ _ _) rfl (fun v hv=>by simp at hv;subst hv;rfl) rfl fun jj u v hu hv=>by
   cases jj with
   |zero=>cases hu;cases hv;exact .v rfl
   |succ j=>simp[wr]at hu
  rw[ab]at hrun;obtain⟨G6,g6,d6,e6⟩:=az.rO g4 (aC (af _ _ _) (dP (by omega))) 6 (.slice (some ⟨b',0,none⟩) (ws.length+1) c') rfl rfl;refine⟨_,_,_,_,W4,_,b',c',s3 Ze,⟨d0,e0,rfl⟩,s3 g0,⟨d1,e1,rfl⟩,s3 g1,⟨d2,e2,rfl⟩,s3 g2,g2.cell q24 (j:=3) rfl,⟨d3,e3,rfl⟩,g3.cell (af _ _ _) (j:=6) rfl,fun ty=>hrun ty,⟨d6,e6,rfl⟩,?_⟩;have el:ws.length+1=(ws++[7]).length:=by grind
  rw[el]at g6⊢;refine UF (by omega) iT hl Z5 hwf (fun k hk=>?_) g6 ((yC.put (dP (by omega))).put (dP (by omega))|>.put (dP (by omega))) (af _ _ _) (.inr ⟨b',c',by rw[ab],aC ?_ (dP (by omega))⟩) (by grind)
  all_goals grind [ae,af]
theorem UG(t:Nat)(hK:az w0 μ I W){n:Bool}{rs:List Rw}(hd:DR μ (.aq n 6 (rs.map Rw.row)) v)(hm:1<=rs.length/\rs.length<=50000):
  Calls U' 25 #[v] W fun e w'=> ∃(μ':Mu) (I':Ky->Option ag) (vs:List Vb) (n':Bool) (A:Option Addr) (c:Nat),e=.returned (.slice A vs.length c)/\ak μ μ'/\az w0 μ' I' w'/\DR μ' (.aq n' 9 (vs.map Vb.row)) (.slice A vs.length c)/\vs.length=rs.length/\(∀u∈vs,u.Wf)/\UE t I I':=by
 have hne:rs.map Rw.row≠[]:=fun e=>by
  simp_all
 obtain⟨vb,vo,vc,rfl,_⟩:=cU (W:=W) hd hK.gj (by omega) hne;rw[ab]at hd⊢;refine(LU vb vo rs.length vc W (XR t w0 μ I) (by omega) ?_ fun i A l c W' hi h=>abt hd hm.2 hi h).mono fun e w' he=>?_
 ·exact⟨μ,put I (t,.tmp 30) none,[],ak.refl _,hK.drop _,.inl ⟨rfl,rfl⟩,rfl,rfl,fun u hu=>by simp at hu,fun k hk=>ae _ _ (hk _)⟩
 ·obtain⟨A,l,c,rfl,μ1,I1,vs,iT,hK1,hr,hl,Z5,hwf,hf⟩:=he;obtain⟨μ2,n',hm2,bq,qw,_⟩:=hK1.Lz hr;rw[Z5,<-hl]at qw⊢;exact⟨μ2,_,vs,n',A,c,rfl,iT.trans hm2,bq,qw,rfl,hwf,fun k hk=>by rw[ae _ _ (hk _)];exact hf k hk⟩
end
section
variable{w0 W:World}{μ:Mu}{I:Ky->Option ag}{t fb:Nat}{a:mV}
theorem QM(n lines:Int):(∀u∈vs,u.eT n lines=0)\/ ∃(k:Nat) (uk:Vb),vs[k]?=some uk/\(∀(i:Nat) (u:Vb),i<k->vs[i]?=some u->u.eT n lines=0)/\uk.eT n lines≠0:=by
 induction vs with
 |nil=>exact .inl fun u hu=>by cases hu
 |cons v r ih=>
  by_cases hv:v.eT n lines=0
  ·rcases ih with h|⟨k,uk,h1,h2,h3⟩
   ·refine .inl fun u hu=>?_;rcases ft.1 hu with rfl|hu
    ·exact hv
    ·exact h u hu
   ·refine .inr ⟨k+1,uk,h1,fun i u hi hu=>?_,h3⟩;cases i with
    |zero=>cases hu;exact hv
    |succ i=>exact h2 i u (by omega) hu
  ·exact .inr ⟨0,v,rfl,fun i u hi=>by omega,hv⟩
end
end Go.Proofs.YtnjccbnlmdajkaaGreat
namespace Go.Ev
open Go Go.Proofs
section
variable{ι:Type}[DecidableEq ι]{w W:World}{μ:Mu}{I:ι->Option ag}{P:Program}{C:gD}
end
end Go.Ev
namespace Go.Proofs.YtnjccbnlmdajkaaGreat
open Go.Proofs.Tryz renaming prog->U'
open Go.RowKit Go.Shelf Go.Lib Go.Ev
attribute [local go_sem] Oper.semAt_some
attribute [local go_sem] eU dm dq eV
