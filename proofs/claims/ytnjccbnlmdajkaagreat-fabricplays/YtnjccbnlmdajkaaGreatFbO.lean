/- Step of an orphan: what it does with a fabric. -/
import Derived.Test.YtnjccbnlmdajkaaGreatRfL
import Derived.Test.YtnjccbnlmdajkaaGreatFbS4
import Derived.Test.YtnjccbnlmdajkaaGreatSorW
import Derived.Test.YtnjccbnlmdajkaaGreatRv
import Derived.Test.YtnjccbnlmdajkaaGreatFbP3
import Derived.Test.YtnjccbnlmdajkaaGreatSmlW
import Derived.Test.YtnjccbnlmdajkaaGreatChsX
set_option linter.all false
namespace Go.Proofs.YtnjccbnlmdajkaaGreat
open Go.Proofs.Tryz renaming prog->U'
open Go.RowKit Go.Shelf Go.Lib Go.Ev
set_option maxRecDepth 100000
variable{c:Nat}{vs:List Vb}{pl:List Nat}{v:Value}{n:Bool}{x:mU}{i cc:Nat}{inc:Int}{α:Type}{ws:List Int}{k:Nat}{f:α->List AV}{j:Nat}{p:Pr}{uk:Vb}{sz au:Nat}{l:List α}
section
variable{w0 W:World}{μ:Mu}{I:Ky->Option ag}{t fb:Nat}{s:gN}
theorem ji.af9(h:ji t I fb s){J:Ky->Option ag}{o:qz}(ho:s.os[i]?=some o){p':Pr}{F':List Nat}(hJ:∀k,k≠ .kC i->(∀n,k≠ .tmp n)->J (t,k)=I (t,k))(hi:J (t,.kC i)=some (bG o.b F' 139 (yI p'))):ji t J fb {s with os:=s.os.set i ⟨o.b,p'⟩}:=by
 refine⟨?_,h.gO.same (hJ _ (fun e=>by cases e) fun n e=>by cases e),fun j n hn=>?_,h.cls.same (hJ _ (fun e=>by cases e) fun n e=>by cases e),fun d y hy=>(h.cl d y hy).of fun k hk=>hJ k (fun e=>by subst e;simp[FK.mT]at hk) (fun n e=>by subst e;simp[FK.mT]at hk),?_,fun k o' ho'=>?_⟩
 ·rw[hJ _ (fun e=>by cases e) fun n e=>by cases e];exact h.cM
 ·rw[hJ _ (fun e=>by cases e) fun n e=>by cases e];exact h.dG j n hn
 ·show Row J (t,.lO) s.ov 101 1 ((s.os.set i ⟨o.b,p'⟩).map qz.row);rw[aF,show(s.os.map qz.row).set i (qz.row ⟨o.b,p'⟩)=s.os.map qz.row from Ey (by rw[et,ho];rfl)];exact h.YX.same (hJ _ (fun e=>by cases e) fun n e=>by cases e)
 ·rcases bQ ho' with⟨rfl,rfl⟩|⟨ne,ho'⟩
  ·exact⟨F',hi⟩
  ·rw[hJ _ (fun e=>by cases e;exact ne rfl) fun n e=>by cases e];exact h.os k o' ho'
theorem fu.from{μ':Mu}{J:Ky->Option ag}{a:mV}(h:fu t w0 μ' J fb a W)(hm:ak μ μ')(hf:∀k:Ky,k.1≠t->J k=I k):fu t w0 μ I fb a W:=by
 obtain⟨μ2,I2,s2,h1,h2,h3,h4,h5⟩:=h;exact⟨μ2,I2,s2,hm.trans h1,h2,h3,h4,fun k hk=>(h5 k hk).trans (hf k hk)⟩
def mV.gF(a:mV)(i nd:Nat)(r:gh×Bool×Pr×qm):mV:=
 if r.2.2.1.q=[]then{a with nd:=a.nd.set nd r.2.2.2,os:=a.os.eraseIdx i}else{a with nd:=a.nd.set nd r.2.2.2,os:=a.os.set i r.2.2.1}
theorem xC(l:List α)(i:Nat)(x:α):(l.set i x).eraseIdx i=l.eraseIdx i:=kj fun k=>by
 rw[oK,oK,mj,eg (by split<;>omega)]
theorem aa4(hK:az w0 μ I W)(hR:ji t I fb s){nd:Nat}{o:qz}{n:ur}(ho:s.os[i]?=some o)(hnd:o.p.node=nd)(hn:s.nd[nd]?=some n)(hp:o.p.Ok)(Ei:n.a.ws.length<=100000)(nH:s.os.length<=100000)(c m:Int):
  Calls U' 22 #[ptr fb,.agg #[.int .i64 i,.int .i64 c,.int .i64 m]] W fun e w'=>e=.returned (.bool true)/\fu t w0 μ I fb (s.a.gF i nd (o.p.step n.a)) w':=by
 obtain⟨bo,co,JL,Vo,hpo⟩:=hR.aaE hK ho;obtain⟨bn,cn,lk,hIn,Q5⟩:=hR.PN hK hn;obtain⟨F,zm⟩:=hR.os i o ho;obtain⟨E,Xn⟩:=hR.dG nd n hn;obtain⟨w1,e1⟩:∃w1,W.alloc (.cells #[.int .i64 i,.int .i64 c,.int .i64 m] 77)=w1:=⟨_,rfl⟩;have hK1:=hK.alloc (t,.tmp 0) (cs:=[Q' i,Q' c,Q' m]) (cur:= #[.int .i64 i,.int .i64 c,.int .i64 m]) (ty:=77) (fE [.int .i64 i,.int .i64 c,.int .i64 m] fun v hv=>by
  simp only[ft,dt,re]at hv;rcases hv with rfl|rfl|rfl<;>rfl)
 rw[e1]at hK1;obtain⟨T0,hT0⟩:∃x,x=some (bG W.heap.size [W.heap.size] 77 [.v (.int .i64 i),.v (.int .i64 c),.v (.int .i64 m)]):=⟨_,rfl⟩;rw[<-hT0]at hK1;have old:∀{k:FK} {v:ag},(∀n,k≠ .tmp n)->I (t,k)=some v->put I (t,.tmp 0) T0 (t,k)=some v:=fun hk h=>aC h (aa (hk 0));have up:∀{b j:Nat} {v:Value},W.cell? ⟨b,j,none⟩=some v->w1.cell? ⟨b,j,none⟩=some v:=fun h=>by rw[<-e1];exact bp h
 have wF:=hR.c1 hK;rw[lk]at wF;have YQ:=hR.c3 hK;rw[JL]at YQ;have Q2:=hK.cell zm (j:=2) rfl;rw[hnd]at Q2;have Kv:ji t (put I (t,.tmp 0) T0) fb s:=hR.of fun k hk=>ae _ _ (aa (hk 0));refine JV fb i c m W w1 _ true e1 (hK1.cell (by rw[af];exact hT0) rfl) ?_;refine T8 fb i s.os.length co bo bn s.nd.length cn o.b nd n.b w1 (fu t w0 μ I fb (s.a.gF i nd (o.p.step n.a))) (aV ho) (aV hn) (up YQ) (up hpo) (up wF) (up Q2) (up Q5) ?_;refine(xB hK1.drew (k:=(t,.kC i)) (l:=(t,.dG nd)) (aa fun e=>by cases e) (old (fun _ e=>by cases e) zm) (old (fun _ e=>by cases e) Xn) hp Ei).mono fun e w' he=>?_;obtain⟨μ',A,cA,F',E',rfl,hm,bq,FU⟩:=he;generalize o.p.step n.a=r at bq FU⊢;have hN:=Kv.node hn (J:=put (put I (t,.tmp 0) T0) (t,.dG nd) (some (bG n.b E' 112 (sL r.2.2.2)))) (a:=r.2.2.2) (F:=E') (fun k h _=>ae _ _ (aa h)) (af _ _ _);have hO:=hN.af9 (J:=put (put (put I (t,.tmp 0) T0) (t,.dG nd) (some (bG n.b E' 112 (sL r.2.2.2)))) (t,.kC i) (some (bG o.b F' 139 (yI r.2.2.1)))) ho (p':=r.2.2.1) (F':=F') (fun k h _=>ae _ _ (aa h)) (af _ _ _);have hfr:∀k:Ky,k.1≠t->put (put (put I (t,.tmp 0) T0) (t,.dG nd) (some (bG n.b E' 112 (sL r.2.2.2)))) (t,.kC i) (some (bG o.b F' 139 (yI r.2.2.1))) k=I k:=aP (aP (aP fun _ _=>rfl));obtain⟨VA,vc,wK,_⟩:=bq.rowAt (af _ _ _) (j:=3) rfl;rw[ab]at wK;refine⟨r.1.code,A,r.1.w.length,cA,r.2.1,VA,r.2.2.1.q.length,vc,rfl,wK,fun h0=>?_,fun h0=>?_⟩
 ·have hq:r.2.2.1.q=[]:=dy h0;have hlen:(s.os.set i ⟨o.b,r.2.2.1⟩).length=s.os.length:=ff ..;refine(NW bq hO (i:=i) (by show i<(s.os.set i _).length;rw[hlen];exact aV ho) (by show(s.os.set i _).length<=_;rw[hlen];exact nH)).mono fun e w'' he=>?_;obtain⟨rfl,hF⟩:=he;refine⟨rfl,?_⟩;have:=hF.from hm hfr
  have e:s.a.gF i nd r={({s with nd:=s.nd.set nd ⟨n.b,r.2.2.2⟩,os:=s.os.set i ⟨o.b,r.2.2.1⟩}:gN).a with os:=({s with nd:=s.nd.set nd ⟨n.b,r.2.2.2⟩,os:=s.os.set i ⟨o.b,r.2.2.1⟩}:gN).a.os.eraseIdx i}:=by
   unfold mV.gF gN.a;simp only[aF,hq,xt,xC]
  rw[e];exact this
 ·have hq:¬r.2.2.1.q=[]:=fun e=>by rw[e]at h0;simp at h0
  refine⟨μ',_,_,hm,bq,hO,?_,hfr⟩;unfold mV.gF gN.a;simp only[aF,hq,tm]
end
section
variable{w0 W:World}{μ:Mu}{I J:Ky->Option ag}{t fb:Nat}{s:gm}
theorem JW(p:eI)(n:qm):(p.step n).n.dn=n.dn:=by
 unfold eI.step;grind
theorem eM.aga(h:eM t I fb s){os:List dE}(hJ:∀k,k≠ .lO->(∀n,k≠ .tmp n)->J (t,k)=I (t,k))(hr:Row J (t,.lO) s.ov 110 4 (os.map dE.row)):eM t J fb {s with os:=os}:=by
 have e:∀k:FK,k≠ .lO->(∀n,k≠ .tmp n)->J (t,k)=I (t,k):=hJ;refine⟨?_,h.gO.same ?_,fun i n hn=>(h.dG i n hn).same ?_,h.cls.same ?_,fun d x hx=>(h.mO d x hx).same ?_,fun d x hx=>(h.Dx d x hx).same ?_,h.PU.same ?_,fun d m hm=>(h.lu d m hm).same ?_,hr⟩
 ·rw[e _ (fun e=>by cases e) fun n e=>by cases e];exact h.cM
 all_goals grind
theorem eM.gF(h:eM t I fb s){k:Nat}{n:qE}(hn:s.nd[j]?=some n){os:List dE}(hJ:∀k:Ky,k≠(t,.lO)->k≠(t,.dG j)->(∀m,m<20->k≠(t,.tmp m))->J k=I k)(hr:Row J (t,.lO) s.ov 110 4 (os.map dE.row))(hw:Row J (t,.dG j) n.wv 69 1 (ws.map wr)):
  eM t J fb {s with nd:=s.nd.set j ⟨n.wv,⟨ws,n.a.dn⟩⟩,os:=os}:=by
 have h1:eM t (put I (t,.dG j) (J (t,.dG j))) fb {s with nd:=s.nd.set j ⟨n.wv,⟨ws,n.a.dn⟩⟩}:=h.Y2 hn (fun k g1 g2=>ae _ _ (aa g1)) (hw.same (af _ _ _));refine h1.aga (fun k g1 g2=>?_) hr;by_cases e:k=.dG j
 all_goals simp_all [af,ae,aa]
theorem eM.mQ(h:eM t I fb s){n:qE}(hn:s.nd[j]?=some n){l:mW}(hl:s.ln[c]?=some l){ps:List dE}(hJ:∀k:Ky,k≠(t,.lu c)->k≠(t,.dG j)->(∀m,m<20->k≠(t,.tmp m))->J k=I k)(hr:Row J (t,.lu c) l.v 110 4 (ps.map dE.row))(hw:Row J (t,.dG j) n.wv 69 1 (ws.map wr)):
  eM t J fb {s with nd:=s.nd.set j ⟨n.wv,⟨ws,n.a.dn⟩⟩,ln:=s.ln.set c ⟨l.v,ps⟩}:=by
 have h1:eM t (put I (t,.dG j) (J (t,.dG j))) fb {s with nd:=s.nd.set j ⟨n.wv,⟨ws,n.a.dn⟩⟩}:=h.Y2 hn (fun k g1 g2=>ae _ _ (aa g1)) (hw.same (af _ _ _));refine h1.ac4 (s:={s with nd:=s.nd.set j ⟨n.wv,⟨ws,n.a.dn⟩⟩}) hl (fun k g1 g2=>?_) hr;by_cases e:k=.dG j
 all_goals simp_all [af,ae,aa]
theorem Ct{x y:α}(h:y∈l.set i x):y=x\/y∈l:=by
 grind
def gP.gF(a:gP)(k j:Nat)(r:RsR):gP:=
 if r.p.q=[]then{a with nd:=a.nd.set j r.n,os:=a.os.eraseIdx k}else{a with nd:=a.nd.set j r.n,os:=a.os.set k r.p}
theorem wg(hp:HF)(o c x:Int):nB μ hp [] ([Q' o,Q' c,Q' x]) [.int .i64 o,.int .i64 c,.int .i64 x]:=.cons (F:=[]) (F':=[]) (.d (.v rfl)) (.cons (F:=[]) (F':=[]) (.d (.v rfl)) (.cons (F:=[]) (F':=[]) (.d (.v rfl)) .nil))
theorem Ql(hK:az w0 μ I W)(hR:eM t I fb s)(hD:wz μ s){p:dE}{n:qE}(hp:s.os[k]?=some p)(hj:p.a.nd=j)(hn:s.nd[j]?=some n)(hok:p.a.Ok n.a.ws)(hl:s.os.length<=100000)(c x:Int):
  Calls U' 28 #[ptr fb,P7 (k:Int) c x] W fun e w'=>e=.returned (.bool true)/\mX t w0 μ I fb (s.a.gF k j (p.a.step n.a)) w':=by
 obtain⟨ob,oc,JL,Vo⟩:=Row.at hR.lO hp;obtain⟨nb,nc,lk,hIn⟩:=Row.at hR.gO hn;obtain⟨F,dF⟩:=hR.cM;have hK1:=hK.alloc (t,.tmp 20) (cs:=[Q' (k:Int),Q' c,Q' x]) (cur:= #[.int .i64 (k:Int),.int .i64 c,.int .i64 x]) (ty:=86) (wg _ _ _ _);obtain⟨I1,hI1⟩:∃I1,I1=put I (t,.tmp 20) (some (bG W.heap.size [W.heap.size] 86 [.v (.int .i64 (k:Int)),.v (.int .i64 c),.v (.int .i64 x)])):=⟨_,rfl⟩;rw[<-hI1]at hK1;have ES:∀k,k≠(t,.tmp 20)->I1 k=I k:=fun k g=>by rw[hI1,ae _ _ g]
 have hb1:I1 (t,.tmp 20)=some (bG W.heap.size [W.heap.size] 86 [Q' (k:Int),Q' c,Q' x]):=by rw[hI1,af]
 have Kv:eM t I1 fb s:=hR.of fun k g=>ES _ (aa (g 20));have c2:∀{μ':Mu} {J:Ky->Option ag} {W':World},az w0 μ' J W'->J (t,.cM)=I (t,.cM)->J (t,.tmp 20)=I1 (t,.tmp 20)->Rf2 fb W.heap.size (some ⟨ob,0,none⟩) s.os.length oc (k:Int) W':=fun{μ' J W'} hk e1 e2=>by
  have:=hk.cell (e1.trans dF) (j:=4) rfl;rw[JL]at this;exact⟨hk.cell (e2.trans hb1) (j:=0) rfl,this⟩
 have c3:∀{μ':Mu} {J:Ky->Option ag} {W':World},az w0 μ' J W'->J (t,.cM)=I (t,.cM)->W'.cell? ⟨fb,1,none⟩=some (.slice (some ⟨nb,0,none⟩) s.nd.length nc):=fun{μ' J W'} hk e1=>by
  have:=hk.cell (e1.trans dF) (j:=1) rfl;rwa [lk]at this
 have Vh:I1 (t,.cM)=I (t,.cM):=ES _ (aa fun e=>by cases e);have W9:I1 (t,.lO)=some (aE ob oc 110 4 (s.os.map dE.row)):=(ES _ (aa fun e=>by cases e)).trans Vo;have Vr:=hK1.drew.drew.drew;have adK:=(Cd Vr W9 hp).nd;rw[hj]at adK;refine Mb fb ob s.os.length oc k nb s.nd.length nc j c x W _ (aV hp) (aV hn) (c2 hK1.drew Vh rfl) (c2 hK1.drew.drew Vh rfl) ⟨c3 Vr Vh,adK⟩ ?_;refine(Ci Vr Kv hn lk (.inl rfl) W9 hp (hD.os p (dp hp)) hok).mono fun e w2 he=>?_;obtain⟨v,rfl,A,cc,μ',J,qv,rfl,hm,bq,ma,hkp,Ks,hw,ho⟩:=he;have hJf:J (t,.cM)=I (t,.cM):=(ho _ (aa fun e=>by cases e) (aa fun e=>by cases e) fun m _=>aa fun e=>by cases e).trans Vh;have hat:(s.os.set k ⟨qv,(p.a.step n.a).p⟩)[k]?=some ⟨qv,(p.a.step n.a).p⟩:=bS hp;have adL:=Cd bq hkp hat;have Ie:(p.a.step n.a).p.nd=j:=by
  rw[<-hj];unfold eI.step;grind
 have Wl:=adL.nd;rw[show((⟨qv,(p.a.step n.a).p⟩:dE).a.nd:Nat)=(p.a.step n.a).p.nd from rfl,Ie]at Wl;have hlen:(s.os.set k ⟨qv,(p.a.step n.a).p⟩).length=s.os.length:=ff ..;have agb:Row J (t,.lO) s.ov 110 4 ((s.os.set k ⟨qv,(p.a.step n.a).p⟩).map dE.row):=.inr ⟨ob,oc,by grind,hkp⟩;have ux:=Kv.gF (k:=k) hn (fun k' g1 g2 g3=>ho k' g1 g2 g3) agb hw;have hD2:wz μ' {s with nd:=s.nd.set j ⟨n.wv,⟨(p.a.step n.a).n.ws,n.a.dn⟩⟩,os:=s.os.set k ⟨qv,(p.a.step n.a).p⟩}:=⟨fun c l hl p hp=>(hD.ln c l hl p hp).mono hm,fun p' hp'=>by
  rcases Ct hp' with rfl|h
  ·exact Ks
  ·exact(hD.os p' h).mono hm⟩
 have Yt:(⟨(p.a.step n.a).n.ws,n.a.dn⟩:qm)=(p.a.step n.a).n:=by rw[<-JW p.a n.a]
 have hJ:∀k':Ky,k'.1≠t->J k'=I k':=fun k' g=>(ho k' (fun e=>g (by rw[e])) (fun e=>g (by rw[e])) fun m _ e=>g (by rw[e])).trans (ES k' fun e=>g (by rw[e]));obtain⟨QA,qc,JH⟩:=Ks.val;have WX:=adL.q;have agc:qv=.slice QA (p.a.step n.a).p.q.length qc:=JH;rw[agc]at WX;refine⟨_,QA,_,qc,rfl,⟨c3 bq hJf,Wl⟩,WX,fun hne=>?_,fun h0=>⟨bq.cell ((ho _ (aa fun e=>by cases e) (aa fun e=>by cases e) fun m hm=>aa fun e=>by cases e;omega).trans hb1) (j:=0) rfl,?_⟩⟩
 ·refine⟨μ',J,_,hm,bq,ux,hD2,?_,hJ⟩;unfold gP.gF;rw[eg (fun e=>hne (by grind))];unfold gm.a;simp only[aF,Yt]
 ·refine(JK (i:=k) bq ux hD2 (by grind) (by grind)).mono fun e w3 he=>?_;obtain⟨rfl,hst⟩:=he;refine⟨true,rfl,?_⟩;have:=hst.from hm hJ
  have e:s.a.gF k j (p.a.step n.a)={({s with nd:=s.nd.set j ⟨n.wv,⟨(p.a.step n.a).n.ws,n.a.dn⟩⟩,os:=s.os.set k ⟨qv,(p.a.step n.a).p⟩}:gm).a with os:=({s with nd:=s.nd.set j ⟨n.wv,⟨(p.a.step n.a).n.ws,n.a.dn⟩⟩,os:=s.os.set k ⟨qv,(p.a.step n.a).p⟩}:gm).a.os.eraseIdx k}:=by
   unfold gP.gF;rw[ee (dy h0)];unfold gm.a;simp only[aF,Yt,xC]
  rw[e];exact this
def sN.fill(x:sN)(r:RsR):sN:=if r.done=true then{x with dn:=x.dn.set r.sl.toNat r.d,hv:=x.hv.set r.sl.toNat true}else x
def gP.mQ(a:gP)(c j:Nat)(x:sN)(l:List eI)(r:RsR):gP:={a with nd:=a.nd.set j r.n,ln:=a.ln.set c (l.set j r.p),cl:=a.cl.set c (x.fill r)}
theorem wh{k:Ky}{T:Nat}(h:Row I k v T sz (l.map f))(hi:i<l.length):∃b c,v=.slice (some ⟨b,0,none⟩) l.length c/\I k=some (aE b c T sz (l.map f)):=Row.at h (ao hi)
theorem T9(hK:az w0 μ J W)(hR:eM t J fb s)(hD:wz μ s){n0 n6:Nat}{F20 F21:List Nat}{y0 y2:Value}{r:RsR}{RA:Option Addr}{rc:Nat}(Dc:J (t,.tmp 20)=some (bG n0 F20 86 [.v y0,Q' (c:Int),.v y2]))(h21:J (t,.tmp 21)=some (bG n6 F21 81 [Q' r.d.code,.v (.slice RA r.d.w.length rc)]))
  (ma:DR μ (.aq r.d.wn 1 (r.d.w.map wr)) (.slice RA r.d.w.length rc)) {x:lP} (hx:s.cl[c]?=some x) (hsl:r.done=true->∃sl:Nat,r.sl=sl/\sl<x.a.dn.length/\sl<x.a.hv.length):
  NV fb n0 n6 s.cl.length c r.d.code RA r.d.w.length rc r.sl r.done r.ok W (fun b w'=>b=r.ok/\mX t w0 μ J fb {s.a with cl:=s.a.cl.set c (x.a.fill r)} w'):=by
 refine⟨fun h=>⟨rfl,?_⟩,fun h=>?_⟩
 ·have e:s.a.cl.set c (x.a.fill r)=s.a.cl:=by
   unfold sN.fill;rw[eg (by rw[h];decide)];exact gS (get_map hx)
  rw[e];exact .start hK hR hD
 ·obtain⟨sl,hsl,hsd,hsh⟩:=hsl h;obtain⟨db,dc,hdv,hId⟩:=wh (hR.mO c x hx) hsd;obtain⟨hb,hc,hhv,hIh⟩:=wh (hR.Dx c x hx) hsh;obtain⟨cb,cc,fI,lz⟩:=Row.at hR.cls hx;obtain⟨F,dF⟩:=hR.cM;have cS:∀{μ':Mu} {J':Ky->Option ag} {W':World},az w0 μ' J' W'->J' (t,.cM)=J (t,.cM)->J' (t,.cls)=J (t,.cls)->J' (t,.tmp 20)=J (t,.tmp 20)->J' (t,.tmp 21)=J (t,.tmp 21)->SDn fb n0 n6 cb s.cl.length cc c db x.a.dn.length dc hb x.a.hv.length hc r.d.code RA r.d.w.length rc W':=fun{μ' J' W'} hk e1 e2 e3 e4=>by
   have q1:=hk.cell (e1.trans dF) (j:=2) rfl;rw[fI]at q1;have q:=xx hk (e2.trans lz) hx;have q3:=q.dv;have q4:=q.hv;rw[hdv]at q3;rw[hhv]at q4;exact⟨q1,hk.cell (e3.trans Dc) (j:=1) rfl,q3,q4,hk.cell (e4.trans h21) (j:=0) rfl,hk.cell (e4.trans h21) (j:=1) rfl⟩
  have Pm:(x.a.dn.map gh.row)[sl]?=some (x.a.dn[sl]).row:=get_map (ao hsd);obtain⟨w1,P9,hK1⟩:=hK.drew.Ku hId Pm (j:=0) rfl (by omega) (a:=Q' r.d.code) (v:=.int .i64 r.d.code) (.v rfl);obtain⟨w2,TP,bq⟩:=hK1.Ku (af _ _ _) (bS Pm) (j:=1) rfl (by omega) ma;rw[aK,bE,show((x.a.dn[sl]).row.set 0 (Q' r.d.code)).set 1 (.aq r.d.wn 1 (r.d.w.map wr))=r.d.row from rfl,<-aF]at bq;have agd:put J (t,.mO c) (some (aE db dc 81 2 ((x.a.dn.set sl r.d).map gh.row))) (t,.BX c 0)=some (aE hb hc 4 1 (x.a.hv.map xw)):=(ae _ _ (aa fun e=>by cases e)).trans hIh;obtain⟨w3,Q6,du⟩:=bq.Ku agd (get_map (ao hsh)) (j:=0) rfl (by omega) (a:=.v (.bool true)) (v:=.bool true) (.v rfl);rw[show(xw x.a.hv[sl]).set 0 (.v (.bool true))=xw true from rfl,<-aF]at du;rw[oe,na]at Q6;have hne:∀k:FK,k≠ .mO c->k≠ .BX c 0->put (put J (t,.mO c) (some (aE db dc 81 2 ((x.a.dn.set sl r.d).map gh.row)))) (t,.BX c 0) (some (aE hb hc 4 1 ((x.a.hv.set sl true).map xw))) (t,k)=J (t,k):=fun k g1 g2=>by simp_all [ae,aa]
  have AE:x.a.fill r={x.a with dn:=x.a.dn.set sl r.d,hv:=x.a.hv.set sl true}:=by
   unfold sN.fill;grind
  refine⟨cb,cc,db,x.a.dn.length,dc,hb,x.a.hv.length,hc,sl,w1,w2,w3,hsl,hsd,hsh,cS hK.drew rfl rfl rfl rfl,P9,TP,cS bq (ae _ _ (aa fun e=>by cases e)) (ae _ _ (aa fun e=>by cases e)) (ae _ _ (aa fun e=>by cases e)) (ae _ _ (aa fun e=>by cases e)),Q6,
   cS du (hne _ (fun e=>by cases e) fun e=>by cases e) (hne _ (fun e=>by cases e) fun e=>by cases e) (hne _ (fun e=>by cases e) fun e=>by cases e) (hne _ (fun e=>by cases e) fun e=>by cases e),rfl,?_⟩
  rw[AE];refine⟨μ,_,{s with cl:=s.cl.set c ⟨x.dv,x.hvv,{x.a with dn:=x.a.dn.set sl r.d,hv:=x.a.hv.set sl true}⟩},ak.refl _,du,hR.clS (fun k g1 g2 g3 g4=>hne k g2 g3) ?_ ?_ ?_,⟨hD.ln,hD.os⟩,?_,fun k hk=>?_⟩
  ·rw[pV hx (by rfl)];exact hR.cls.same (hne _ (fun e=>by cases e) fun e=>by cases e)
  ·refine .inr ⟨db,dc,?_,?_⟩
   all_goals simp_all [ab,ff,ae,aa,af]
  ·refine .inr ⟨hb,hc,?_,af _ _ _⟩;grind
  ·unfold gm.a;simp only[aF]
  ·rw[ae _ _ (fun e=>hk (by rw[e])),ae _ _ (fun e=>hk (by rw[e]))]
theorem Ez(hK:az w0 μ I W)(hR:eM t I fb s)(hD:wz μ s){l:mW}{p:dE}{n:qE}{x:lP}(hl:s.ln[c]?=some l)(hp:l.ps[j]?=some p)(hn:s.nd[j]?=some n)(hx:s.cl[c]?=some x)(hok:p.a.Ok n.a.ws)
  (hsl:(p.a.step n.a).done=true->∃sl:Nat,(p.a.step n.a).sl=sl/\sl<x.a.dn.length/\sl<x.a.hv.length):
  Calls U' 28 #[ptr fb,P7 (-1) (c:Int) (j:Int)] W fun e w'=>e=.returned (.bool (p.a.step n.a).ok)/\mX t w0 μ I fb (s.a.mQ c j x.a l.a (p.a.step n.a)) w':=by
 obtain⟨lb,lc,hlv,Cb,_⟩:=zk hK hR hl;obtain⟨pb,pc,wK,zm⟩:=Row.at (hR.lu c l hl) hp;obtain⟨nb,nc,lk,hIn⟩:=Row.at hR.gO hn;obtain⟨F,dF⟩:=hR.cM;have hK1:=hK.alloc (t,.tmp 20) (cs:=[Q' (-1),Q' (c:Int),Q' (j:Int)]) (cur:= #[.int .i64 (-1),.int .i64 (c:Int),.int .i64 (j:Int)]) (ty:=86) (wg _ _ _ _);obtain⟨I1,hI1⟩:∃I1,I1=put I (t,.tmp 20) (some (bG W.heap.size [W.heap.size] 86 [.v (.int .i64 (-1)),.v (.int .i64 (c:Int)),.v (.int .i64 (j:Int))])):=⟨_,rfl⟩;rw[<-hI1]at hK1;have ES:∀k,k≠(t,.tmp 20)->I1 k=I k:=fun k g=>by rw[hI1,ae _ _ g]
 have hb1:I1 (t,.tmp 20)=some (bG W.heap.size [W.heap.size] 86 [Q' (-1),Q' (c:Int),Q' (j:Int)]):=by rw[hI1,af]
 have Kv:eM t I1 fb s:=hR.of fun k g=>ES _ (aa (g 20));have Vh:I1 (t,.cM)=some (bG fb F 58 s.cells):=(ES _ (aa fun e=>by cases e)).trans dF;have age:I1 (t,.kC 0)=some (aE lb lc 56 1 (s.ln.map mW.row)):=(ES _ (aa fun e=>by cases e)).trans Cb;have adM:I1 (t,.lu c)=some (aE pb pc 110 4 (l.ps.map dE.row)):=(ES _ (aa fun e=>by cases e)).trans zm;have cL:∀{μ':Mu} {J:Ky->Option ag} {W':World},az w0 μ' J W'->J (t,.cM)=I1 (t,.cM)->J (t,.kC 0)=I1 (t,.kC 0)->J (t,.tmp 20)=I1 (t,.tmp 20)->TU fb W.heap.size lb s.ln.length lc c pb l.ps.length pc j nb s.nd.length nc W':=fun{μ' J W'} hk e1 e2 e3=>by
  have q1:=hk.cell (e1.trans Vh) (j:=3) rfl;have q2:=hk.cell (e1.trans Vh) (j:=1) rfl;rw[hlv]at q1;rw[lk]at q2;have q3:=hk.aL (e2.trans age) (get_map hl) (j:=0) rfl;rw[oe,na,wK]at q3;exact⟨q1,hk.cell (e3.trans hb1) (j:=1) rfl,q3,hk.cell (e3.trans hb1) (j:=2) rfl,q2⟩
 have hcc:c<s.cl.length:=aV hx;have hpd:=hD.ln c l hl p (dp hp);have hend:∀{W':World} {μ':Mu} {J:Ky->Option ag} {qv:Value} {n6:Nat} {F6:List Nat} {z0 z1:Value} {A:Option Addr} {cc:Nat},ak μ μ'->az w0 μ' J W'->DR μ' (.aq (p.a.step n.a).d.wn 1 ((p.a.step n.a).d.w.map wr)) (.slice A (p.a.step n.a).d.w.length cc)->
   J (t,.lu c)=some (aE pb pc 110 4 ((l.ps.set j ⟨qv,(p.a.step n.a).p⟩).map dE.row))->LV μ' ⟨qv,(p.a.step n.a).p⟩->Row J (t,.dG j) n.wv 69 1 ((p.a.step n.a).n.ws.map wr)->(∀k,k≠(t,.lu c)->k≠(t,.dG j)->(∀m,m<20->k≠(t,.tmp m))->k≠(t,.tmp 21)->J k=I1 k)->
   J (t,.tmp 21)=some (bG n6 F6 81 [.v z0,.v z1])->∃w3 w4,St W' n6 0 (.int .i64 (p.a.step n.a).d.code) w3/\St w3 n6 1 (.slice A (p.a.step n.a).d.w.length cc) w4/\TU fb W.heap.size lb s.ln.length lc c pb l.ps.length pc j nb s.nd.length nc w4/\
    NV fb W.heap.size n6 s.cl.length c (p.a.step n.a).d.code A (p.a.step n.a).d.w.length cc (p.a.step n.a).sl (p.a.step n.a).done (p.a.step n.a).ok w4 (fun b w'=>b=(p.a.step n.a).ok/\mX t w0 μ I fb (s.a.mQ c j x.a l.a (p.a.step n.a)) w'):=fun{W' μ' J qv n6 F6 z0 z1 A cc} hm hk ma hkp Ks hw ho h21=>by
  obtain⟨w3,F3,Q6,_,du⟩:=hk.Jw h21 (j:=0) rfl (a:=Q' (p.a.step n.a).d.code) (v:=.int .i64 (p.a.step n.a).d.code) (.v rfl);obtain⟨w4,F4,st4,_,eX⟩:=du.Jw (af _ _ _) (j:=1) rfl (a:=.v (.slice A (p.a.step n.a).d.w.length cc)) (v:=.slice A (p.a.step n.a).d.w.length cc) (.v rfl);rw[aK]at eX;obtain⟨J4,hJ4⟩:∃J4,J4=put J (t,.tmp 21) (some (bG n6 F4 81 [.v (.int .i64 (p.a.step n.a).d.code),.v (.slice A (p.a.step n.a).d.w.length cc)])):=⟨_,rfl⟩;have eX:az w0 μ' J4 w4:=by rw[hJ4];exact eX
  have Zh:∀k,k≠(t,.tmp 21)->J4 k=J k:=fun k g=>by rw[hJ4,ae _ _ g]
  have hf4:J4 (t,.cM)=I1 (t,.cM):=(Zh _ (aa fun e=>by cases e)).trans (ho _ (aa fun e=>by cases e) (aa fun e=>by cases e) (fun m _=>aa fun e=>by cases e) (aa fun e=>by cases e));have hl4:J4 (t,.kC 0)=I1 (t,.kC 0):=(Zh _ (aa fun e=>by cases e)).trans (ho _ (aa fun e=>by cases e) (aa fun e=>by cases e) (fun m _=>aa fun e=>by cases e) (aa fun e=>by cases e));have adN:J4 (t,.tmp 20)=I1 (t,.tmp 20):=(Zh _ (aa fun e=>by cases e)).trans (ho _ (aa fun e=>by cases e) (aa fun e=>by cases e) (fun m hm=>aa fun e=>by cases e;omega) (aa fun e=>by cases e));have aaH:Row J4 (t,.lu c) l.v 110 4 ((l.ps.set j ⟨qv,(p.a.step n.a).p⟩).map dE.row):=.inr ⟨pb,pc,by grind,(Zh _ (aa fun e=>by cases e)).trans hkp⟩;have aa5:Row J4 (t,.dG j) n.wv 69 1 ((p.a.step n.a).n.ws.map wr):=hw.same (Zh _ (aa fun e=>by cases e));have Zo:eM t J4 fb {s with nd:=s.nd.set j ⟨n.wv,⟨(p.a.step n.a).n.ws,n.a.dn⟩⟩,ln:=s.ln.set c ⟨l.v,l.ps.set j ⟨qv,(p.a.step n.a).p⟩⟩}:=by
   have h1:eM t (put J4 (t,.tmp 21) (I1 (t,.tmp 21))) fb {s with nd:=s.nd.set j ⟨n.wv,⟨(p.a.step n.a).n.ws,n.a.dn⟩⟩,ln:=s.ln.set c ⟨l.v,l.ps.set j ⟨qv,(p.a.step n.a).p⟩⟩}:=Kv.mQ (c:=c) hn hl (fun k g1 g2 g3=>by
    by_cases e:k=(t,.tmp 21)
    all_goals grind [af,ae]) (aaH.same (ae _ _ (aa fun e=>by cases e))) (aa5.same (ae _ _ (aa fun e=>by cases e)))
   exact h1.of fun k g=>(ae _ _ (aa (g 21))).symm
  have hD4:wz μ' {s with nd:=s.nd.set j ⟨n.wv,⟨(p.a.step n.a).n.ws,n.a.dn⟩⟩,ln:=s.ln.set c ⟨l.v,l.ps.set j ⟨qv,(p.a.step n.a).p⟩⟩}:=⟨fun d m hm' q hq=>by
   rcases bQ hm' with⟨rfl,rfl⟩|⟨ne,hm'⟩
   ·rcases Ct hq with rfl|hq
    ·exact Ks
    ·exact(hD.ln d l hl q hq).mono hm
   ·exact(hD.ln d m hm' q hq).mono hm,fun q hq=>(hD.os q hq).mono hm⟩
  have hle:=T9 eX Zo hD4 (c:=c) (n0:=W.heap.size) (n6:=n6) (F20:=[W.heap.size]) (F21:=F4) (y0:=.int .i64 (-1)) (y2:=.int .i64 (j:Int)) (r:=p.a.step n.a) (RA:=A) (rc:=cc) (adN.trans hb1) (by rw[hJ4,af]) ma (x:=x) hx hsl;have Yt:(⟨(p.a.step n.a).n.ws,n.a.dn⟩:qm)=(p.a.step n.a).n:=by rw[<-JW p.a n.a]
  have sW:∀(b:Bool) (w':World),(b=(p.a.step n.a).ok/\mX t w0 μ' J4 fb {({s with nd:=s.nd.set j ⟨n.wv,⟨(p.a.step n.a).n.ws,n.a.dn⟩⟩,ln:=s.ln.set c ⟨l.v,l.ps.set j ⟨qv,(p.a.step n.a).p⟩⟩}:gm).a with cl:=({s with nd:=s.nd.set j ⟨n.wv,⟨(p.a.step n.a).n.ws,n.a.dn⟩⟩,ln:=s.ln.set c ⟨l.v,l.ps.set j ⟨qv,(p.a.step n.a).p⟩⟩}:gm).a.cl.set c (x.a.fill (p.a.step n.a))} w')->b=(p.a.step n.a).ok/\mX t w0 μ I fb (s.a.mQ c j x.a l.a (p.a.step n.a)) w':=fun b w' ⟨h1,h2⟩=>⟨h1,by
   have h3:=h2.from (μ:=μ) (I:=I) hm fun k g=>(Zh k fun e=>g (by rw[e])).trans ((ho k (fun e=>g (by rw[e])) (fun e=>g (by rw[e])) (fun m _ e=>g (by rw[e])) fun e=>g (by rw[e])).trans (ES k fun e=>g (by rw[e])))
   have e:s.a.mQ c j x.a l.a (p.a.step n.a)={({s with nd:=s.nd.set j ⟨n.wv,⟨(p.a.step n.a).n.ws,n.a.dn⟩⟩,ln:=s.ln.set c ⟨l.v,l.ps.set j ⟨qv,(p.a.step n.a).p⟩⟩}:gm).a with cl:=({s with nd:=s.nd.set j ⟨n.wv,⟨(p.a.step n.a).n.ws,n.a.dn⟩⟩,ln:=s.ln.set c ⟨l.v,l.ps.set j ⟨qv,(p.a.step n.a).p⟩⟩}:gm).a.cl.set c (x.a.fill (p.a.step n.a))}:=by
    unfold gP.mQ gm.a mW.a;simp_all
   rw[e];exact h3⟩
  refine⟨w3,w4,Q6,st4,cL eX hf4 hl4 adN,fun h=>sW _ _ (hle.1 h),fun h=>?_⟩;obtain⟨cb,YZ,db,dl,dc,hb,hl',hc,sl,v1,v2,v3,g1,g2,g3,g4,g5,g6,g7,g8,g9,g10⟩:=hle.2 h;exact⟨cb,YZ,db,dl,dc,hb,hl',hc,sl,v1,v2,v3,g1,g2,g3,g4,g5,g6,g7,g8,g9,sW _ _ g10⟩
 have hKk:=fun k=>hK1.bw (bY (W.alloc (gz (-1) (c:Int) (j:Int))) k);refine(TV fb lb s.ln.length lc c pb l.ps.length pc j nb s.nd.length nc s.cl.length W (fun b w'=>b=(p.a.step n.a).ok/\mX t w0 μ I fb (s.a.mQ c j x.a l.a (p.a.step n.a)) w') (aV hl) hcc (aV hp) (aV hn) ?_ (fun k=>cL (hKk k) rfl rfl rfl) (fun k o=>cL ((hKk k).bw (ar.alloc _ o)) rfl rfl rfl) (fun k=>?_) fun k=>?_).mono fun e w' he=>?_
 ·obtain⟨q1,q2,q3,q4,q5⟩:=cL hK1.drew rfl rfl rfl;exact⟨hK1.drew.cell hb1 (j:=0) rfl,q2,q4,q1,q5⟩
 ·refine(Ci (hKk k) Kv hn lk (.inr ⟨c,rfl⟩) adM hp hpd hok).mono fun e w2 he=>?_;obtain⟨v,rfl,A,cc,μ',J,qv,rfl,hm,bq,ma,hkp,Ks,hw,ho⟩:=he;have e1:∀k:FK,(k=.cM\/k=.kC 0\/k=.tmp 20)->J (t,k)=I1 (t,k):=fun k hk=>ho _ (aa (by grind)) (aa (by grind)) fun m hm=>aa (by grind);have wy:=bq.alloc (t,.tmp 21) (cs:=[Q' 0,.v (.slice none 0 0)]) (cur:= #[.int .i64 0,.slice none 0 0]) (ty:=81) (.cons (F:=[]) (F':=[]) (.d (.v rfl)) (.cons (F:=[]) (F':=[]) (.d (.v rfl)) .nil));obtain⟨w3,w4,h1,h2,h3,h4⟩:=hend hm wy ma ((ae _ _ (aa fun e=>by cases e)).trans hkp) Ks (hw.same (ae _ _ (aa fun e=>by cases e))) (fun k g1 g2 g3 g4=>(ae _ _ g4).trans (ho k g1 g2 g3)) (af _ _ _);exact⟨_,A,_,cc,_,_,_,w3,w4,rfl,cL bq (e1 _ (.inl rfl)) (e1 _ (.inr (.inl rfl))) (e1 _ (.inr (.inr rfl))),fun o=>cL (bq.bw (ar.alloc _ o)) (e1 _ (.inl rfl)) (e1 _ (.inr (.inl rfl))) (e1 _ (.inr (.inr rfl))),h1,h2,h3,h4⟩
 ·have hKb:=(hKk k).alloc (t,.tmp 21) (cs:=[Q' 0,.v (.slice none 0 0)]) (cur:= #[.int .i64 0,.slice none 0 0]) (ty:=81) (.cons (F:=[]) (F':=[]) (.d (.v rfl)) (.cons (F:=[]) (F':=[]) (.d (.v rfl)) .nil));have hsz:((W.alloc (gz (-1) (c:Int) (j:Int))).drewN k).heap.size=W.heap.size+1:=mP _ _;rw[hsz]at hKb;obtain⟨I2,kJ⟩:∃I2,I2=put I1 (t,.tmp 21) (some (bG (W.heap.size+1) [W.heap.size+1] 81 [.v (.int .i64 0),.v (.slice none 0 0)])):=⟨_,rfl⟩;rw[<-kJ]at hKb;have Gw:∀k,k≠(t,.tmp 21)->I2 k=I1 k:=fun k g=>by rw[kJ,ae _ _ g]
  refine(Ci hKb (Kv.of fun k g=>Gw _ (aa (g 21))) hn lk (.inr ⟨c,rfl⟩) ((Gw _ (aa fun e=>by cases e)).trans adM) hp hpd hok).mono fun e w2 he=>?_;obtain⟨v,rfl,A,cc,μ',J,qv,rfl,hm,bq,ma,hkp,Ks,hw,ho⟩:=he;have e1:∀k:FK,(k=.cM\/k=.kC 0\/k=.tmp 20)->J (t,k)=I1 (t,k):=fun k hk=>(ho _ (aa (by grind)) (aa (by grind)) fun m hm=>aa (by grind)).trans (Gw _ (aa (by grind)));have h21:J (t,.tmp 21)=some (bG (W.heap.size+1) [W.heap.size+1] 81 [Q' 0,.v (.slice none 0 0)]):=(ho _ (aa fun e=>by cases e) (aa fun e=>by cases e) fun m hm=>aa fun e=>by cases e;omega).trans (by rw[kJ,af]);grind
 grind
end
section
variable{w0 W:World}{μ:Mu}{I J:Ky->Option ag}{t fb:Nat}{s:gm}
def mg(l:List eI)(i:Nat)(v:Vb):List eI:=
 match l[v.node.toNat]? with
 |some p=>l.set v.node.toNat {p with q:=p.q++[⟨v,0,[],i⟩]}
 |none=>l
def ew(vs:List Vb)(l:List eI):Nat->List eI
 |0=>l
 |i+1=>
  match vs[i]? with
  |some v=>mg (ew vs l i) i v
  |none=>ew vs l i
theorem JX(l:List eI)(i:Nat)(v:Vb):(mg l i v).length=l.length:=by
 unfold mg;grind
theorem pX(vs:List Vb)(l:List eI):∀i,(ew vs l i).length=l.length
 |0=>rfl
 |i+1=>by
  rw[ew];split
  ·rw[JX];exact pX vs l i
  ·exact pX vs l i
theorem lj(vs:List Vb)(l:List eI):∀(i k:Nat) (p:eI),(ew vs l i)[k]?=some p->∃p0,l[k]?=some p0/\p.nd=p0.nd/\p.c=p0.c/\p.inc=p0.inc/\p.q.length<=p0.q.length+i
 |0,k,p,h=>⟨p,h,rfl,rfl,rfl,dk _⟩
 |i+1,k,p,h=>by
  rw[ew]at h;split at h
  ·rename_i v hv;unfold mg at h;split at h
   ·rename_i p1 qK;rcases bQ h with⟨rfl,rfl⟩|⟨ne,h⟩
    ·obtain⟨p0,g1,g2,g3,g4,g5⟩:=lj vs l i _ p1 qK;exact⟨p0,g1,g2,g3,g4,by show(p1.q++_).length<=_;rw[ec];simp;omega⟩
    ·obtain⟨p0,g1,g2,g3,g4,g5⟩:=lj vs l i k p h;exact⟨p0,g1,g2,g3,g4,by omega⟩
   ·obtain⟨p0,g1,g2,g3,g4,g5⟩:=lj vs l i k p h;exact⟨p0,g1,g2,g3,g4,by omega⟩
  ·obtain⟨p0,g1,g2,g3,g4,g5⟩:=lj vs l i k p h;exact⟨p0,g1,g2,g3,g4,by omega⟩
def gP.post(a:gP)(c:Nat)(x:sN)(l:List eI)(vs:List Vb):gP:={a with ln:=a.ln.set c (ew vs l vs.length),cl:=a.cl.set c (x.post vs.length)}
theorem Ua{xs:List (List AV)}{b o m:Nat}(h:DR μ (.aq n sz xs) (.slice (some ⟨b,o,none⟩) m c))(hs:0<sz)(hx:xs≠[]):∃ob,μ b=some ob:=by
 cases h with
 |aq vals hnil hA hc hsz hcell hv=>
  have h0:=hcell _ rfl 0 0 (Fi.2 hx) hs;rw[vp]at h0;unfold gL at h0;grind
theorem Cu(hK:az w0 μ I W){vb vo m:Nat}(hd:DR μ (.aq n 9 (vs.map Vb.row)) (.slice (some ⟨vb,vo,none⟩) m c)){u:Vb}(hi:vs[i]?=some u):
  ∃(A:Option Addr) (cc:Nat),qp W vb (vo+i*9) u.kind u.node u.at_ u.n u.old u.new A u.ws.length cc u.key u.aS/\DR μ (.aq u.wn 1 (u.ws.map wr)) (.slice A u.ws.length cc):=by
 grind [zQ,eZ,List.length_map]
theorem Cv(hK:az w0 μ I W)(hR:eM t I fb s){NA:Option Addr}{Gy:Nat}(lk:s.nv=.slice NA s.nd.length Gy)(De:1<=s.nd.length/\s.nd.length<=5){vb vo m vc:Nat}(hd:DR μ (.aq n 9 (vs.map Vb.row)) (.slice (some ⟨vb,vo,none⟩) m vc)){u:Vb}(hi:vs[i]?=some u)
  {K:Int->World->Prop} {Jn:World->Prop} (h0:u.eT s.nd.length s.lines=0->∀W',az w0 μ I W'->Jn W') (h1:u.eT s.nd.length s.lines≠0->∀W',az w0 μ I W'->K (u.eT s.nd.length s.lines) W'):Cq fb NA s.nd.length Gy s.lines vb vo i W Jn K:=by
 obtain⟨A,cc,hv,hdv⟩:=Cu hK.drew hd hi;have q1:=hR.c1 hK.drew;rw[lk]at q1;refine⟨_,_,_,_,_,_,A,_,cc,_,_,hv,q1,hR.c0 hK.drew,(JF hK.drew hdv s.nd.length s.lines (by omega)).mono fun e w' he=>?_⟩;obtain⟨rfl,hk,hkept⟩:=he;have q1':=hR.c1 hk;rw[lk]at q1';obtain⟨g0,g1,g2,g3,g4,g5,g6,g7,g8⟩:=hv;refine⟨_,rfl,⟨hkept.cell g0 (by simp),hkept.cell g1 (by simp),hkept.cell g2 (by simp),hkept.cell g3 (by simp),hkept.cell g4 (by simp),hkept.cell g5 (by simp),hkept.cell g6 (by simp),hkept.cell g7 (by simp),hkept.cell g8 (by simp)⟩,q1',hR.c0 hk,fun h=>h1 h w' hk,fun h=>h0 h w' hk⟩
def aa6(t:Nat)(w0:World)(μ:Mu)(I:Ky->Option ag)(fb:Nat)(s:gm)(c:Nat)(l:mW)(vs:List Vb)(i:Nat)(W:World):Prop:=
 ∃(μ':Mu) (I':Ky->Option ag) (ps:List dE),ak μ μ'/\az w0 μ' I' W/\eM t I' fb {s with ln:=s.ln.set c ⟨l.v,ps⟩}/\wz μ' {s with ln:=s.ln.set c ⟨l.v,ps⟩}/\ps.map dE.a=ew vs l.a i/\∀k:Ky,k.1≠t->I' k=I k
theorem Qm{l:mW}(hl:s.ln[c]?=some l)(hlA:∀(k:Nat) (p:eI),l.a[k]?=some p->p.nd=k/\p.q.length+10<=1024)(qQ:l.a.length=s.nd.length)(De:1<=s.nd.length/\s.nd.length<=5){vb vo m vc:Nat}(hd:DR μ (.aq n 9 (vs.map Vb.row)) (.slice (some ⟨vb,vo,none⟩) m vc))(hvl:vs.length<=10)
  (hg:∀u∈vs,u.Wf/\u.eT s.nd.length s.lines=0) {lb lc:Nat} (hlv:s.lv=.slice (some ⟨lb,0,none⟩) s.ln.length lc)  (hi:i<vs.length) (hJ:aa6 t w0 μ I fb s c l vs i W):TQ fb lb s.ln.length lc c vb vo i s.lines W (aa6 t w0 μ I fb s c l vs (i+1)):=by
 obtain⟨μ',I',ps,hm,hK,hR,hD,hps,ho⟩:=hJ;obtain⟨u,hu⟩:∃u,vs[i]?=some u:=⟨_,ao hi⟩;obtain⟨hwf,hbN⟩:=hg u (dp hu);obtain⟨hb0,Ru,Yt⟩:=BW (by omega) hbN;obtain⟨nd,hnd⟩:∃nd:Nat,u.node=nd:=⟨u.node.toNat,by omega⟩;have hpl:ps.length=l.a.length:=by rw[<-pX vs l.a i,<-hps,ab]
 obtain⟨p,hp⟩:∃p,ps[nd]?=some p:=⟨_,ao (by omega)⟩;have hpa:(ew vs l.a i)[nd]?=some p.a:=by grind
 obtain⟨p0,g1,g2,g3,g4,g5⟩:=lj vs l.a i nd p.a hpa;obtain⟨k1,k2⟩:=hlA nd p0 g1;have hl':(s.ln.set c ⟨l.v,ps⟩)[c]?=some ⟨l.v,ps⟩:=bS hl;obtain⟨pb,pc,wK,zm⟩:=Row.at (hR.lu c _ hl') hp;obtain⟨lb',lc',Ub,Cb,hlc⟩:=zk hK.drew hR hl';rw[show({s with ln:=s.ln.set c ⟨l.v,ps⟩}:gm).lv=s.lv from rfl,hlv,ff]at Ub;cases Ub;obtain⟨A,cc,hv,hdv⟩:=Cu hK.drew (hd.mono hm) hu;rw[hnd]at hv;have cS:∀{μ2:Mu} {J:Ky->Option ag} {W':World},az w0 μ2 J W'->J (t,.cM)=I' (t,.cM)->J (t,.kC 0)=I' (t,.kC 0)->qp W' vb (vo+i*9) u.kind (nd:Int) u.at_ u.n u.old u.new A u.ws.length cc u.key u.aS->aaX fb lb s.ln.length lc c pb ps.length pc vb vo i s.lines u.kind nd u.at_ u.n u.old u.new A u.ws.length cc u.key u.aS W':=fun{μ2 J W'} hk e1 e2 e3=>by
  obtain⟨F,dF⟩:=hR.cM;have q3:=hk.cell (e1.trans dF) (j:=3) rfl;rw[show({s with ln:=s.ln.set c ⟨l.v,ps⟩}:gm).lv=s.lv from rfl,hlv]at q3;have q2:=hk.aL (e2.trans Cb) (get_map hl') (j:=0) rfl;rw[oe,na,show(⟨l.v,ps⟩:mW).v=l.v from rfl,wK]at q2;exact⟨e3,q3,q2,hk.cell (e1.trans dF) (j:=0) rfl⟩
 refine⟨pb,ps.length,pc,nd,_,_,_,_,_,A,_,cc,_,_,aV hp,cS hK.drew rfl rfl hv,?_⟩;have hpd:LV μ' p:=hD.ln c _ hl' p (dp hp);have hpo:=TG hK.drew (t:=t) (.inr ⟨c,rfl⟩) zm hp hpd hdv (jh.1 hb0) (by rw[hnd,g2,k1]) (by omega) hwf.len i;rw[hnd]at hpo;refine hpo.mono fun e w' he=>?_;obtain⟨z,rfl,μ2,J,qv,hm2,bq,hkp,Ks,Gw⟩:=he;have ef:J (t,.cM)=I' (t,.cM):=Gw _ (aa fun e=>by cases e) fun m _=>aa fun e=>by cases e
 have eo:J (t,.kC 0)=I' (t,.kC 0):=Gw _ (aa fun e=>by cases e) fun m _=>aa fun e=>by cases e
 obtain⟨A',YZ,hv',ahd⟩:=Cu bq ((hd.mono hm).mono hm2) hu;have hvw:qp w' vb (vo+i*9) u.kind (nd:Int) u.at_ u.n u.old u.new A u.ws.length cc u.key u.aS:=by
  obtain⟨ob,Yz⟩:=Ua (hd.mono hm) (by omega) (by simpa using NL hu);have Gj:∀{j:Nat} {v:Value},W.drew.cell? ⟨vb,j,none⟩=some v->w'.cell? ⟨vb,j,none⟩=some v:=fun{j v} fI=>by
   rw[<-fI];exact oD (((hm2.trans bq.gj) _ _ Yz).trans ((hK.drew.gj _ _ Yz).symm)) j
  obtain⟨h0,h1,h2,h3,h4,h5,h6,h7,h8⟩:=hv;exact⟨Gj h0,Gj h1,Gj h2,Gj h3,Gj h4,Gj h5,Gj h6,Gj h7,Gj h8⟩
 refine⟨z,rfl,cS bq ef eo hvw,μ2,J,ps.set nd ⟨qv,{p.a with q:=p.a.q++[⟨u,0,[],i⟩]}⟩,hm.trans hm2,bq,?_,?_,?_,fun k hk=>(Gw k (fun e=>hk (by rw[e])) fun m _ e=>hk (by rw[e])).trans (ho k hk)⟩
 ·have:=hR.ac4 hl' (l':=ps.set nd ⟨qv,{p.a with q:=p.a.q++[⟨u,0,[],i⟩]}⟩) (J:=J) (fun k g1 g2=>Gw _ (aa g1) fun m _=>aa (g2 m)) (.inr ⟨pb,pc,by grind,hkp⟩);simp_all
 ·refine⟨fun d m' hm' q hq=>?_,fun q hq=>(hD.os q hq).mono hm2⟩;rcases bQ hm' with⟨rfl,rfl⟩|⟨ne,hm'⟩
  ·rcases Ct hq with rfl|hq
   ·exact Ks
   ·exact(hD.ln d _ hl' q hq).mono hm2
  ·exact(hD.ln d m' (by grind) q hq).mono hm2
 ·rw[aF,hps,ew,hu];show _=mg _ i u;unfold mg;grind
theorem Uc(hK:az w0 μ I W)(hR:eM t I fb s)(hD:wz μ s){x:lP}{l:mW}(hx:s.cl[c]?=some x)(hl:s.ln[c]?=some l)(hal:x.a.al=true)(nH:x.a.on=false)(hlA:∀(k:Nat) (p:eI),l.a[k]?=some p->p.nd=k/\p.q.length+10<=1024)(qQ:l.a.length=s.nd.length)(De:1<=s.nd.length/\s.nd.length<=5)
     (hd:DR μ (.aq n 9 (vs.map Vb.row)) v) (hvl:1<=vs.length/\vs.length<=10) (hg:∀u∈vs,u.Wf/\u.eT s.nd.length s.lines=0):
  Calls U' 26 #[ptr fb,.int .i64 (c:Int),v] W fun e w'=>e=.returned (.int .i64 0)/\mX t w0 μ I fb (s.a.post c x.a l.a vs) w':=by
 obtain⟨cb,cc,fI,lz⟩:=Row.at hR.cls hx;obtain⟨lb,lc,hlv,Cb,_⟩:=zk hK hR hl;obtain⟨NA,Gy,lk⟩:=Row.len hR.gO;obtain⟨vb,vo,vc,rfl,_⟩:=cU hd hK.gj (by omega) (fun e=>by
  simp_all)
 rw[ab]at hd⊢;have h2:=hR.c2 hK;rw[fI]at h2;have hat:=xx hK lz hx;have h3:=hat.al;have h4:=hat.on;rw[hal]at h3;rw[nH]at h4;refine Qd fb lb s.ln.length lc cb s.cl.length cc c vb vo vs.length vc s.nd.length Gy NA s.lines W (fun _ W'=>az w0 μ I W') (aa6 t w0 μ I fb s c l vs) (mX t w0 μ I fb (s.a.post c x.a l.a vs)) h2 (aV hx) h3 h4 (by omega) (by omega) hK (fun i W' hi hJ=>?_) (aV hl) (fun W' hJ=>?_) (fun i W' hi hJ=>Qm hl hlA qQ De hd hvl.2 hg hlv hi hJ) fun W' hJ=>?_
 ·obtain⟨u,hu⟩:∃u,vs[i]?=some u:=⟨_,ao hi⟩;grind [Cv,List.mem_of_getElem?]
 ·refine⟨μ,I,l.ps,ak.refl _,hJ,?_,?_,rfl,fun _ _=>rfl⟩
  ·rw[show(⟨l.v,l.ps⟩:mW)=l from rfl,gS hl];exact hR
  ·rw[show(⟨l.v,l.ps⟩:mW)=l from rfl,gS hl];exact hD
 ·obtain⟨μ',I',ps,hm,hK',hR',hD',hps,ho⟩:=hJ;have q2:=hR'.c2 hK';rw[show({s with ln:=s.ln.set c ⟨l.v,ps⟩}:gm).cv=s.cv from rfl,fI]at q2;obtain⟨Vp,YZ,adO,aa7⟩:=Row.at hR'.cls (n:=c) (x:=x) hx;rw[show({s with ln:=s.ln.set c ⟨l.v,ps⟩}:gm).cv=s.cv from rfl,fI]at adO;cases adO;refine⟨q2,W'.drew.heap.size,?_⟩;have:=Xh hK'.drew hR' hD' (m:=vs.length) (by omega) hx fI aa7;refine this.mono fun w' h=>?_;have h5:=h.from hm ho
  rw[show({s with ln:=s.ln.set c ⟨l.v,ps⟩}:gm).a={s.a with ln:=s.a.ln.set c (ew vs l.a vs.length)} by unfold gm.a;simp only[aF];rw[show mW.a ⟨l.v,ps⟩=ew vs l.a vs.length from hps]]at h5;exact h5
theorem Qn(hK:az w0 μ I W)(hR:eM t I fb s){x:lP}(hx:s.cl[c]?=some x)(hal:x.a.al=true)(nH:x.a.on=false)(De:1<=s.nd.length/\s.nd.length<=5)(hd:DR μ (.aq n 9 (vs.map Vb.row)) v)(hvl:1<=vs.length/\vs.length<=1024)
    (hk:vs[k]?=some uk) (hg:∀i u,i<k->vs[i]?=some u->u.eT s.nd.length s.lines=0) (hb:uk.eT s.nd.length s.lines≠0):
  Calls U' 26 #[ptr fb,.int .i64 (c:Int),v] W fun e w'=>e=.returned (.int .i64 (uk.eT s.nd.length s.lines))/\az w0 μ I w':=by
 obtain⟨cb,cc,fI,lz⟩:=Row.at hR.cls hx;obtain⟨NA,Gy,lk⟩:=Row.len hR.gO;obtain⟨vb,vo,vc,rfl,_⟩:=cU hd hK.gj (by omega) (by simpa using NL hk);rw[ab]at hd⊢;have h2:=hR.c2 hK;rw[fI]at h2;have hat:=xx hK lz hx;have h3:=hat.al;have h4:=hat.on;rw[hal]at h3;rw[nH]at h4;refine(Mh fb cb s.cl.length cc c vb vo vs.length vc s.nd.length Gy NA s.lines W (fun i W'=>i<=k/\az w0 μ I W') (fun z w'=>z=uk.eT s.nd.length s.lines/\az w0 μ I w') h2 (aV hx) h3 h4 (by omega) hvl.2 ⟨by omega,hK⟩ (fun i W' hi hJ=>?_) fun W' hJ=>?_).mono fun e w' he=>?_
 all_goals grind [List.getElem?_eq_getElem,Cv,aV]
end
section
variable{w0 W:World}{μ:Mu}{I:Ky->Option ag}{t fb:Nat}{s:gN}
def nI(c inc i:Int):Pr:=⟨c,inc,i,true,[],0,true,[]⟩
def mR(c inc:Int)(n:Nat):List th:=(List.range n).map fun(i:Nat)=>(⟨nI c inc (i:Int),[]⟩:th)
theorem Mp(c inc:Int)(n:Nat):mR c inc (n+1)=mR c inc n++[⟨nI c inc n,[]⟩]:=by
 unfold mR;rw[S4,im];rfl
theorem adP:U'.underlying 97=some (.slice 118):=by kernel_rfl
theorem adQ:(U'.info? 118).map (fun i=>(i.zero,i.size,i.bytes))=some (some (.agg #[.pointer none,.slice none 0 0]),2,32):=by kernel_rfl
theorem aa8:U'.funcs[66]?=some Tryz.f66:=by kernel_rfl
theorem Qo(c inc i:Int)(hc:0<=c/\c<6)(hn:0<=inc/\inc<=59)(hi:0<=i/\i<5):ev 66 [Q' c,Q' inc,Q' i]=some (.ob 139 (yI (nI c inc i))::[Value.int .i64 0].map AV.v):=by
 rw[afh,aO (by omega),gE (by omega),aO (by omega),aO (by omega),aO (by omega),gE (by omega)];rfl
def Xp(t:Nat)(w0:World)(μ:Mu)(I:Ky->Option ag)(fb:Nat)(s:gN)(c:Nat)(x:dH)(inc:Int)(i:Nat)(W:World):Prop:=
 ∃(I':Ky->Option ag) (lv:Value) (ln:List ik),az w0 μ I' W/\ji t I' fb {s with cl:=s.cl.set c {x with al:=true,inc:=inc,lv:=lv,ln:=ln}}/\ln.map ik.a=mR c inc i/\∀k:Ky,k.1≠t->I' k=I k
theorem aa9{bc:Nat}{x:dH}(hc:s.cl[c]?=some x)(fI:s.cv=.slice (some ⟨bc,0,none⟩) s.cl.length cc)(WQ:c<6)(sO:0<=inc/\inc<=59)(hi:i<5)(hJ:Xp t w0 μ I fb s c x inc i W):
  Calls U' 66 #[.int .i64 c,.int .i64 inc,.int .i64 i] W (S7 c bc (Xp t w0 μ I fb s c x inc (i+1))):=by
 obtain⟨I1,lv,ln,hK,hR,ha,hfr⟩:=hJ;have QX:ln.length=i:=by rw[<-ab (f:=ik.a),ha];simp[mR]
 have hcx:=bS (y:={x with al:=true,inc:=inc,lv:=lv,ln:=ln}) hc;obtain⟨bc',YZ,e1,lz,ng⟩:=hR.jy hK hcx;rw[show({s with cl:=s.cl.set c {x with al:=true,inc:=inc,lv:=lv,ln:=ln}}:gN).cv=s.cv from rfl,fI]at e1;injection e1 with g1 g2 g3;injection g1 with g1;injection g1 with g1;subst g1 g3;have kD:=hR.cl c _ hcx;refine(hK.acE mix jx (t,.par c i) (Qo c inc i (by omega) sO (by omega)) rfl aa8 (vals:=[.int .i64 c,.int .i64 inc,.int .i64 i]) (vM [.int .i64 c,.int .i64 inc,.int .i64 i] fun v hv=>by
  simp only[ft,dt,re]at hv;rcases hv with rfl|rfl|rfl<;>rfl)).mono fun e w' he=>?_
 obtain⟨pb,F,rfl,bq,_,_⟩:=he;have hls:Row (put I1 (t,.par c i) (some (bG pb F 139 (yI (nI c inc i))))) (t,.lu c) lv 118 2 (ln.map ik.row):=kD.ls.put (aa fun e=>by cases e);have Mj:put I1 (t,.par c i) (some (bG pb F 139 (yI (nI c inc i)))) (t,.cls)=_:=aC lz (aa fun e=>by cases e);have Xq:=bq.bw (ar.alloc w' (.cells #[.pointer (some ⟨pb,0,none⟩),.slice none 0 0] 118));obtain⟨I82,hI,vR,qD,yJ⟩:=info_parts adQ;obtain⟨b',c',W4,hrun,eX,_,_⟩:=Xq.ua (P:=U') (es:=ik.row ⟨pb,.slice none 0 0,⟨nI c inc i,[]⟩⟩) hls adP hI vR qD (by omega) (by omega) rfl (by rw[ab];omega) (Ev.aZ w' _) rfl (fun v hv=>by
  simp only[ft,dt,re]at hv;rcases hv with rfl|rfl<;>rfl) rfl fun jj u v hu hv=>by
  match jj with
  |0=>cases hu;cases hv;exact .v rfl
  |1=>cases hu;cases hv;exact .v rfl
  |n+2=>simp[ik.row]at hu
 obtain⟨LA,lc,elv,_⟩:=hls.val;rw[ab]at elv hrun;rw[elv]at hrun;have Ml:put (put I1 (t,.par c i) (some (bG pb F 139 (yI (nI c inc i))))) (t,.lu c) (some (aE b' c' 118 2 (ln.map ik.row++[ik.row ⟨pb,.slice none 0 0,⟨nI c inc i,[]⟩⟩]))) (t,.cls)=_:=aC Mj (aa fun e=>by cases e);have hr0:=get_map (f:=dH.row) hcx;have hcm:c<((s.cl.set c {x with al:=true,inc:=inc,lv:=lv,ln:=ln}).map dH.row).length:=by rw[ab];exact aV hcx
 have cl2:=bq.aL Mj hr0 (j:=2) rfl;rw[show({x with al:=true,inc:=inc,lv:=lv,ln:=ln}:dH).lv=lv from rfl,elv]at cl2;have f4:=eX.dN Ml hcm (j:=2) (by omega);have c4:=eX.aL Ml hr0 (j:=2) rfl;have uw:=eX.oF Ml hr0 (j:=2) (by omega) (a:=.v (.slice (some ⟨b',0,none⟩) (ln.length+1) c')) (v:=.slice (some ⟨b',0,none⟩) (ln.length+1) c') (.v rfl);refine⟨pb,0,LA,ln.length,lc,b',c',W4,rfl,cl2,fun ty=>hrun ty,f4,⟨_,c4⟩,_,.slice (some ⟨b',0,none⟩) (ln.length+1) c',ln++[⟨pb,.slice none 0 0,⟨nI c inc i,[]⟩⟩],uw,?_,?_,aP (aP (aP hfr))⟩
 ·have:=hR.di (J:=put (put (put I1 (t,.par c i) (some (bG pb F 139 (yI (nI c inc i))))) (t,.lu c) (some (aE b' c' 118 2 (ln.map ik.row++[ik.row ⟨pb,.slice none 0 0,⟨nI c inc i,[]⟩⟩])))) (t,.cls) (some (aE bc cc 99 7 (((s.cl.set c {x with al:=true,inc:=inc,lv:=lv,ln:=ln}).map dH.row).set c ((dH.row {x with al:=true,inc:=inc,lv:=lv,ln:=ln}).set 2 (.v (.slice (some ⟨b',0,none⟩) (ln.length+1) c')))))))
   (c:=c) (x':={x with al:=true,inc:=inc,lv:=.slice (some ⟨b',0,none⟩) (ln.length+1) c',ln:=ln++[⟨pb,.slice none 0 0,⟨nI c inc i,[]⟩⟩]})
   (fun k h1 h2 _=>by rw[ae _ _ (aa h1),ae _ _ (aa fun e=>by subst e;simp[FK.mT]at h2),ae _ _ (aa fun e=>by subst e;simp[FK.mT]at h2)]) ?_ ⟨?_,?_,kD.bn,fun j l hl=>?_,fun j l hl=>?_⟩
  ·rw[show({s with cl:=s.cl.set c {x with al:=true,inc:=inc,lv:=lv,ln:=ln}}:gN).cl=s.cl.set c {x with al:=true,inc:=inc,lv:=lv,ln:=ln}from rfl,bE]at this;exact this
  ·rw[show({s with cl:=s.cl.set c {x with al:=true,inc:=inc,lv:=lv,ln:=ln}}:gN).cv=s.cv from rfl,fI];exact Row.af (by rw[ff,ab,ff])
  ·refine .inr ⟨b',c',?_,aC ?_ (aa fun e=>by cases e)⟩
   ·show Value.slice _ (ln.length+1) c'=Value.slice _ ((ln++[_]).map ik.row).length c';rw[ab,ec];rfl
   ·rw[af,im];rfl
  ·exact kD.bs.same (by rw[ae _ _ (aa fun e=>by cases e),ae _ _ (aa fun e=>by cases e),ae _ _ (aa fun e=>by cases e)])
  ·rw[ae _ _ (aa fun e=>by cases e),ae _ _ (aa fun e=>by cases e)];rcases pS hl with hl|⟨rfl,rfl⟩
   ·have:=aV hl;rw[ae _ _ (aa fun e=>by cases e;omega)];exact kD.ps j l hl
   ·rw[QX];exact⟨F,af _ _ _⟩
  ·rcases pS hl with hl|⟨rfl,rfl⟩
   ·exact(kD.S5 j l hl).same (by rw[ae _ _ (aa fun e=>by cases e),ae _ _ (aa fun e=>by cases e),ae _ _ (aa fun e=>by cases e)])
   ·exact .inl ⟨rfl,rfl⟩
 ·rw[im,ha,Mp];rfl
end
section
attribute [local go_sem] Oper.semAt_some
attribute [local go_sem] eU dm dq eV
set_option maxRecDepth 100000
variable{w0 W:World}{μ:Mu}{I:Ky->Option ag}{t fb:Nat}{s:gN}
theorem ue(hK:az w0 μ I W)(hR:ji t I fb s){x:dH}(hc:s.cl[c]?=some x)(WQ:c<6)(sO:0<=inc/\inc<=59)(De:s.nd.length<=5):
  Calls U' 17 #[ptr fb,.int .i64 c,.int .i64 inc] W fun e w'=>e=.returned (.tuple #[])/\fu t w0 μ I fb {s.a with cl:=s.a.cl.set c {x.a with al:=true,inc:=inc,ln:=mR c inc s.nd.length}} w':=by
 obtain⟨bc,cc,fI,lz,ng⟩:=hR.jy hK hc;have h2:=hR.c2 hK;rw[fI]at h2;have hcm:c<(s.cl.map dH.row).length:=by rw[ab];exact aV hc
 have hr0:(s.cl.map dH.row)[c]?=some x.row:=get_map hc;have f1:=hK.dN lz hcm (j:=0) (by omega);have c1:=hK.aL lz hr0 (j:=0) rfl;have bq:=hK.oF lz hr0 (j:=0) (by omega) (a:=.v (.bool true)) (v:=.bool true) (.v rfl);obtain⟨W2,Tj⟩:∃W2,W.setCell ⟨bc,c*7+0,none⟩ (.bool true)=W2:=⟨_,rfl⟩;rw[Tj]at bq;have kJ:=af I (t,.cls) (some (aE bc cc 99 7 ((s.cl.map dH.row).set c (x.row.set 0 (.v (.bool true))))));have yC:=bS (y:=x.row.set 0 (.v (.bool true))) hr0;have f2:=bq.dN kJ (i:=c) (j:=1) (by rw[ff];exact hcm) (by omega);have c2:=bq.aL kJ yC (j:=1) rfl;have du:=bq.oF kJ yC (j:=1) (by omega) (a:=Q' inc) (v:=.int .i64 inc) (.v rfl);obtain⟨W3,Zl⟩:∃W3,W2.setCell ⟨bc,c*7+1,none⟩ (.int .i64 inc)=W3:=⟨_,rfl⟩;rw[Zl,aK,bE]at du;have qC:=af I (t,.cls) (some (aE bc cc 99 7 ((s.cl.map dH.row).set c ((x.row.set 0 (.v (.bool true))).set 1 (Q' inc)))));have Vq:=bS (y:=(x.row.set 0 (.v (.bool true))).set 1 (Q' inc)) hr0;have f3:=du.dN qC (i:=c) (j:=2) (by rw[ff];exact hcm) (by omega);have c3:=du.aL qC Vq (j:=2) rfl;have eX:=du.oF qC Vq (j:=2) (by omega) (a:=.v (.slice none 0 0)) (v:=.slice none 0 0) (.v rfl);obtain⟨W4,Zm⟩:∃W4,W3.setCell ⟨bc,c*7+2,none⟩ (.slice none 0 0)=W4:=⟨_,rfl⟩;rw[Zm,aK,bE]at eX;have hx':((x.row.set 0 (.v (.bool true))).set 1 (Q' inc)).set 2 (.v (.slice none 0 0))=dH.row {x with al:=true,inc:=inc,lv:=.slice none 0 0,ln:=[]}:=rfl;rw[hx']at eX;have kD:=hR.cl c x hc;have Zo:=hR.di (J:=put I (t,.cls) (some (aE bc cc 99 7 ((s.cl.map dH.row).set c (dH.row {x with al:=true,inc:=inc,lv:=.slice none 0 0,ln:=[]}))))) (c:=c) (x':={x with al:=true,inc:=inc,lv:=.slice none 0 0,ln:=[]})
  (fun k h1 _ _=>ae _ _ (aa h1)) (by rw[fI];exact Row.af (by rw[ff,ab]))
  ⟨.inl ⟨rfl,rfl⟩,kD.bs.put (aa fun e=>by cases e),kD.bn,fun i l hl=>by simp at hl,fun i l hl=>by simp at hl⟩
 have hJ0:Xp t w0 μ I fb s c x inc 0 W4:=⟨_,.slice none 0 0,[],eX,Zo,rfl,aP fun _ _=>rfl⟩;obtain⟨NA,ca,lk,_⟩:=hR.gO.val;rw[ab]at lk;have hn1:=Zo.c1 eX;rw[show({s with cl:=s.cl.set c {x with al:=true,inc:=inc,lv:=.slice none 0 0,ln:=[]}}:gN).nv=s.nv from rfl,lk]at hn1;refine(FN fb bc c s.cl.length cc s.nd.length ca NA inc W W2 W3 W4 (fun i W=>Xp t w0 μ I fb s c x inc i W) (by omega) h2 (aV hc) Tj Zl Zm f1 f2 f3 ⟨_,c1⟩ ⟨_,c2⟩ ⟨_,c3⟩ hn1 hJ0 fun i W' hi hJ=>aa9 hc fI WQ sO (by omega) hJ).mono fun e w' he=>?_;obtain⟨rfl,I',lv,ln,hK',hR',ha,hfr⟩:=he;refine⟨rfl,μ,I',_,ak.refl _,hK',hR',?_,hfr⟩;unfold gN.a dH.a;simp only[aF,ha]
set_option maxRecDepth 1000000 in
theorem Cw(inc:Int)(W:World)(h:0<=inc/\inc<=59):Calls U' 82 #[.int .i64 inc] W fun e w'=>e=.returned (.bool true)/\w'=W:=by
 obtain⟨h1,h2⟩:=h
 go_enter Tryz.func82,Tryz.ntmps82
 go_wp2
 go_ret
 exact⟨rfl,rfl⟩
set_option maxHeartbeats 1600000 in
set_option maxRecDepth 1000000 in
theorem Gk(bf bc ci nc:Nat)(inc:Int)(W:World)(K:World->Prop)(iN:ci<nc)(h2:W.cell? ⟨bf,2,none⟩=some (.slice (some ⟨bc,0,none⟩) nc cc))(hal:W.cell? ⟨bc,ci*7,none⟩=some (.bool false))(sO:0<=inc/\inc<=59)
  (Q2:Calls U' 17 #[.pointer (some ⟨bf,0,none⟩),.int .i64 ci,.int .i64 inc] W fun e w'=>e=.returned (.tuple #[])/\K w'):
  Calls U' 33 #[.pointer (some ⟨bf,0,none⟩),.int .i64 ci,.int .i64 inc] W fun e w'=>e=.returned (.int .i64 0)/\K w':=by
 have hcw:=aW bf bc ci nc W iN h2;have Ud:=Cw inc W sO
 go_enter Tryz.func33,Tryz.ntmps33
 go_wp2_with (first|(go_at_call 67;refine da hcw ?_;clear hcw;rintro e w' ⟨rfl,hw⟩;rw[hw];clear hw)|(go_at_call 82;refine da Ud ?_;clear Ud;rintro e w' ⟨rfl,hw⟩;rw[hw];clear hw)|(go_at_call 17;refine da Q2 ?_;clear Q2;rintro e w' ⟨rfl,hK⟩))
 go_ret
 exact⟨rfl,hK⟩
theorem Mq(hK:az w0 μ I W)(hR:ji t I fb s){x:dH}(hc:s.cl[c]?=some x)(hal:x.al=false)(WQ:c<6)(sO:0<=inc/\inc<=59)(De:s.nd.length<=5):
  Calls U' 33 #[ptr fb,.int .i64 c,.int .i64 inc] W fun e w'=>e=.returned (.int .i64 0)/\fu t w0 μ I fb {s.a with cl:=s.a.cl.set c {x.a with al:=true,inc:=inc,ln:=mR c inc s.nd.length}} w':=by
 obtain⟨bc,cc,fI,lz,ng⟩:=hR.jy hK hc;have h2:=hR.c2 hK;rw[fI]at h2;have wi:=ng.al;rw[hal]at wi;exact Gk fb bc c s.cl.length inc W _ (aV hc) h2 wi sO (ue hK hR hc WQ sO De)
end
section
variable{w0 W:World}{μ:Mu}{I:Ky->Option ag}{t fb:Nat}{s:gN}
abbrev Ue:dH:=⟨false,0,.slice none 0 0,[],.slice none 0 0,[],0,0,0⟩
theorem adR:(U'.info? 99).map (fun i=>(i.zero,i.size,i.bytes))=some (some (.agg #[.bool false,.int .i64 0,.slice none 0 0,.slice none 0 0,.int .i64 0,.int .i64 0,.int .i64 0]),7,88):=by kernel_rfl
theorem adS:U'.underlying 44=some (.slice 99):=by kernel_rfl
theorem adT:U'.underlying 45=some (.slice 49):=by kernel_rfl
theorem adU:(U'.info? 49).map (fun i=>(i.zero,i.size,i.bytes))=some (some (.pointer none),1,8):=by kernel_rfl
theorem aba:U'.funcs[16]?=some Tryz.f16:=by kernel_rfl
theorem Xr(m:Nat):bJ μ 7 ((List.replicate m Ue).map dH.row) (madeCells (Value.agg #[.bool false,.int .i64 0,.slice none 0 0,.slice none 0 0,.int .i64 0,.int .i64 0,.int .i64 0]).cells (m*7)):=by
 refine⟨fun e he=>?_,fun k e j u he hu=>?_⟩
 ·obtain⟨d,hd,rfl⟩:=pw.1 he;rfl
 ·rw[et,uc]at he;by_cases hk:k<m
  ·rw[ee hk]at he;cases he;have hj:j<7:=aV hu;have hm:(k*7+j) % (Value.agg #[.bool false,.int .i64 0,.slice none 0 0,.slice none 0 0,.int .i64 0,.int .i64 0,.int .i64 0]).cells.size=j:=by
    show(k*7+j) % 7=j;omega
   rw[rJ _ _ _ (by omega),hm]
   match j,hj with
   |0,_=>cases hu;exact⟨_,rfl,.v rfl⟩
   |1,_=>cases hu;exact⟨_,rfl,.v rfl⟩
   |2,_=>cases hu;exact⟨_,rfl,.v rfl⟩
   |3,_=>cases hu;exact⟨_,rfl,.v rfl⟩
   |4,_=>cases hu;exact⟨_,rfl,.v rfl⟩
   |5,_=>cases hu;exact⟨_,rfl,.v rfl⟩
   |6,_=>cases hu;exact⟨_,rfl,.v rfl⟩
  ·rw[eg hk]at he;cases he
abbrev Vs(lines:Int):qm:=⟨List.replicate (8*lines.toNat) 0,false⟩
theorem Uf(lines:Int):SC (.ob 112 (sL (Vs lines)))=true:=by
 show(BN (.ow false 69 1 ((List.replicate (8*lines.toNat) (0:Int)).map wr))&&true)=true;rw[xr];show((List.replicate (8*lines.toNat) (0:Int)).map wr).all (fun e=>e.all Ef)=true;rw[ka];intro e he;obtain⟨x,_,rfl⟩:=pw.1 he;rfl
def abb(t:Nat)(w0:World)(μ:Mu)(I:Ky->Option ag)(fb bc au:Nat)(lines:Int)(i:Nat)(W:World):Prop:=
 ∃(I':Ky->Option ag) (nv:Value) (nd:List ur),az w0 μ I' W/\ji t I' fb ⟨lines,nv,nd,.slice (some ⟨bc,0,none⟩) au au,List.replicate au Ue,.slice none 0 0,[]⟩/\nd.map ur.a=List.replicate i (Vs lines)/\∀k:Ky,k.1≠t->I' k=I k
theorem abc{bc:Nat}{lines:Int}(hl:1<=lines/\lines<=256)(hi:i<5)(hJ:abb t w0 μ I fb bc au lines i W):Calls U' 16 #[.int .i64 lines] W (S8 fb (abb t w0 μ I fb bc au lines (i+1))):=by
 obtain⟨I1,nv,nd,hK,hR,ha,hfr⟩:=hJ;have QX:nd.length=i:=by rw[<-ab (f:=ur.a),ha,ta]
 obtain⟨F0,dF⟩:=hR.cM;refine(hK.acE mix jx (t,.dG i) (cs:=sL (Vs lines)) (xs:=[.int .i64 0]) (acG lines hl) (Uf lines) aba (vals:=[.int .i64 lines]) (vM [.int .i64 lines] fun v hv=>by
  simp only[ft,dt,re]at hv;subst hv;rfl)).mono fun e w' he=>?_
 obtain⟨pb,F,rfl,bq,_,_⟩:=he;have hns:Row (put I1 (t,.dG i) (some (bG pb F 112 (sL (Vs lines))))) (t,.gO) nv 49 1 (nd.map ur.row):=hR.gO.put (aa fun e=>by cases e);have Zp:=aC (k:=(t,.dG i)) (x:=some (bG pb F 112 (sL (Vs lines)))) dF (aa fun e=>by cases e);have Xq:=bq.bw (ar.alloc w' (.cells #[.pointer (some ⟨pb,0,none⟩)] 49));obtain⟨I28,hI,vR,qD,yJ⟩:=info_parts adU;obtain⟨b',c',W4,hrun,eX,_,_⟩:=Xq.ua (P:=U') (es:=ur.row ⟨pb,Vs lines⟩) hns adT hI vR qD (by omega) (by omega) rfl (by rw[ab];omega) (Ev.aZ w' _) rfl (fun v hv=>by simp at hv;subst hv;rfl) rfl fun jj u v hu hv=>by
  cases jj with
  |zero=>cases hu;cases hv;exact .v rfl
  |succ j=>simp[ur.row]at hu
 obtain⟨LA,lc,env,_⟩:=hns.val;rw[ab]at env hrun;rw[env]at hrun;have c2:=bq.cell Zp (j:=1) rfl;rw[env]at c2;have Cx:=aC (k:=(t,.gO)) (x:=some (aE b' c' 49 1 (nd.map ur.row++[ur.row ⟨pb,Vs lines⟩]))) Zp (aa fun e=>by cases e);obtain⟨F5,_,uw⟩:=eX.set Cx 1 (a:=.v (.slice (some ⟨b',0,none⟩) (nd.length+1) c')) (v:=.slice (some ⟨b',0,none⟩) (nd.length+1) c') (.v rfl);refine⟨pb,LA,nd.length,lc,b',c',W4,rfl,c2,fun ty=>hrun ty,eX.frozen Cx 1,⟨_,eX.cell Cx (j:=1) rfl⟩,_,.slice (some ⟨b',0,none⟩) (nd.length+1) c',nd++[⟨pb,Vs lines⟩],uw,⟨⟨F5,by rw[af];rfl⟩,?_,fun j n hn=>?_,?_,fun c x hx=>?_,.inl ⟨rfl,rfl⟩,fun k o ho=>by simp at ho⟩,?_,aP (aP (aP hfr))⟩
 ·refine .inr ⟨b',c',?_,aC ?_ (aa fun e=>by cases e)⟩
  ·show Value.slice _ (nd.length+1) c'=Value.slice _ ((nd++[_]).map ur.row).length c';rw[ab,ec];rfl
  ·rw[af,im];rfl
 ·rw[ae _ _ (aa fun e=>by cases e),ae _ _ (aa fun e=>by cases e)];rcases pS hn with hn|⟨rfl,rfl⟩
  ·have:=aV hn;rw[ae _ _ (aa fun e=>by cases e;omega)];exact hR.dG j n hn
  ·rw[QX];exact⟨F,af _ _ _⟩
 ·exact hR.cls.same (by rw[ae _ _ (aa fun e=>by cases e),ae _ _ (aa fun e=>by cases e),ae _ _ (aa fun e=>by cases e)])
 ·exact(hR.cl c x hx).of fun k hk=>by
   rw[ae _ _ (aa fun e=>by subst e;simp[FK.mT]at hk),ae _ _ (aa fun e=>by subst e;simp[FK.mT]at hk),ae _ _ (aa fun e=>by subst e;simp[FK.mT]at hk)]
 ·rw[im,ha,TO];rfl
end
section
variable{w0 W:World}{μ:Mu}{I:Ky->Option ag}{t fb:Nat}{s:gN}
def Mr(c nodes:Nat):mU:=⟨true,1,mR c 1 nodes,[],0,0,0⟩
def tq(au nodes c:Nat):List mU:=(List.range au).map fun(d:Nat)=>if d<c then Mr d nodes else Ue.a
theorem xD{nodes d:Nat}(h:d<au):(tq au nodes c)[d]?=some (if d<c then Mr d nodes else Ue.a):=by
 unfold tq;rw[et,vt h];rfl
theorem xE{nodes:Nat}:(tq au nodes c).length=au:=by simp[tq]
theorem Ms{nodes:Nat}(h:c<au):(tq au nodes c).set c (Mr c nodes)=tq au nodes (c+1):=kj fun d=>by
 rw[mj];by_cases hd:d<au
 ·rw[xD hd,xD hd];by_cases e:c=d
  ·subst e;rw[ee rfl,ee (by rw[xE];exact h),ee (by omega)]
  ·rw[eg e];by_cases h2:d<c
   ·rw[ee h2,ee (by omega)]
   ·rw[eg h2,eg (by omega)]
 ·rw[eg (by omega),we (by rw[xE];omega),we (by rw[xE];omega)]
def uf(nodes au:Nat)(lines:Int)(c:Nat):mV:=⟨lines,List.replicate nodes (Vs lines),tq au nodes c,[]⟩
theorem NY(t:Nat)(hK:az w0 μ I W)(nodes au:Nat)(lines:Int)(hn:1<=nodes/\nodes<=5)(hc:1<=au/\au<=6)(hl:1<=lines/\lines<=256):
  Calls U' 6 #[.int .i64 nodes,.int .i64 au,.int .i64 lines] W fun e w'=> ∃fb:Nat,e=.returned (.tuple #[ptr fb,.int .i64 0])/\fu t w0 μ I fb (uf nodes au lines au) w':=by
 obtain⟨I74,hI,vR,qD,yJ⟩:=info_parts adR;have hmk:=Pd (P:=U') (w:=W) 44 99 I74 _ adS hI vR .i64 .i64 au au (by omega) (by omega) (by rw[qD];omega) (by rw[yJ];omega) (by omega);rw[qD,kb]at hmk;have hK1:=hK.rE (t,.cls) (T:=99) (c:=au) (sz:=7) (xs:=(List.replicate au Ue).map dH.row) (yv _ (au*7)) (by rw[ab,ta];exact dk _) (Xr au);obtain⟨W1,hW1⟩:∃W1,W.alloc (.cells (madeCells (Value.agg #[.bool false,.int .i64 0,.slice none 0 0,.slice none 0 0,.int .i64 0,.int .i64 0,.int .i64 0]).cells (au*7)) 99 (0,0))=W1:=⟨_,rfl⟩;rw[hW1]at hK1;have hs1:W1.heap.size=W.heap.size+1:=by rw[<-hW1];exact Array.size_push ..
 have bq:=hK1.alloc (t,.cM) (cs:=[Q' lines,.v (.slice none 0 0),.v (.slice (some ⟨W.heap.size,0,none⟩) au au),.v (.slice none 0 0)]) (cur:= #[.int .i64 lines,.slice none 0 0,.slice (some ⟨W.heap.size,0,none⟩) au au,.slice none 0 0]) (ty:=48)
  (fE [.int .i64 lines,.slice none 0 0,.slice (some ⟨W.heap.size,0,none⟩) au au,.slice none 0 0] fun v hv=>by
   simp only[ft,dt,re]at hv;rcases hv with rfl|rfl|rfl|rfl<;>rfl)
 rw[hs1]at bq;refine(Ta nodes au lines W (abb t w0 μ I (W.heap.size+1) W.heap.size au lines) (fun c W'=>fu t w0 μ I (W.heap.size+1) (uf nodes au lines c) W') hn hc hl _ hmk ?_ ?_ ?_ ?_).mono fun e w' he=>⟨_,he.1,he.2⟩
 ·rw[show(W.alloc (.cells (madeCells (Value.agg #[.bool false,.int .i64 0,.slice none 0 0,.slice none 0 0,.int .i64 0,.int .i64 0,.int .i64 0]).cells (au*7)) 99))=W1 from hW1];refine⟨_,.slice none 0 0,[],bq,⟨⟨_,af _ _ _⟩,.inl ⟨rfl,rfl⟩,fun j n hn=>by simp at hn,?_,fun c x hx=>?_,.inl ⟨rfl,rfl⟩,fun k o ho=>by simp at ho⟩,rfl,aP (aP fun _ _=>rfl)⟩
  ·refine .inr ⟨W.heap.size,au,?_,aC (af _ _ _) (aa fun e=>by cases e)⟩;rw[ab];show _=Value.slice _ (List.replicate au Ue).length au;rw[ta]
  ·have:x=Ue:=by
    rw[uc]at hx;split at hx
    ·exact(ss hx).symm
    ·cases hx
   subst this;exact⟨.inl ⟨rfl,rfl⟩,.inl ⟨rfl,rfl⟩,fun _=>rfl,fun i l hl=>by simp at hl,fun i l hl=>by simp at hl⟩
 ·intro i W' hi hJ;exact abc hl (by omega) hJ
 ·rintro W' ⟨I',nv,nd,hK',hR',ha,hfr⟩;refine⟨⟨μ,I',_,ak.refl _,hK',hR',?_,hfr⟩,hR'.c2 hK'⟩;unfold gN.a uf tq;simp only[ha,List.map_nil]
  congr 1
  refine kj fun d=>?_;rw[et,uc,et];by_cases hd:d<au
  ·rw[ee hd,vt hd];simp
  ·rw[eg hd,we (by simpa using hd)];rfl
 ·rintro c W' hcl ⟨μ',I',s',hm,hK',hR',ha,hfr⟩;have hcl':s'.a.cl[c]?=some Ue.a:=by rw[ha];show(tq au nodes c)[c]?=_;rw[xD hcl,eg (by omega)]
  have hx:(s'.cl.map dH.a)[c]?=some Ue.a:=hcl';rw[et]at hx;cases gp:s'.cl[c]? with
  |none=>rw[gp]at hx;cases hx
  |some x=>
   rw[gp]at hx;have hxa:x.a=Ue.a:=ss hx;have hnd:s'.nd.length=nodes:=by
    have:(s'.nd.map ur.a).length=nodes:=by rw[show s'.nd.map ur.a=s'.a.nd from rfl,ha];exact ta ..
    rwa [ab]at this
   refine(ue hK' hR' gp (by omega) (by omega) (by omega)).mono fun e w' he=>⟨he.1,?_⟩;have:=he.2.from hm hfr
   rw[ha,hxa,hnd]at this;have e:({uf nodes au lines c with cl:=(uf nodes au lines c).cl.set c {Ue.a with al:=true,inc:=1,ln:=mR c 1 nodes}}:mV)=uf nodes au lines (c+1):=by
    show(⟨lines,List.replicate nodes (Vs lines),(tq au nodes c).set c (Mr c nodes),[]⟩:mV)=_;rw[Ms hcl];rfl
   rw[e]at this;exact this
end
section
def Vb.np(v:Vb):Nat:=(eD v.at_ v.cnt).length
structure Pr.Inv(p:Pr):Prop where
 c:0<=p.c/\p.c<=1000
 inc:0<=p.inc/\p.inc<=1000
 qn:p.q≠[]->p.qn=false
 ql:p.q.length<=1024
 ex0:0<=p.ex
 w:p.w.length<=9*p.ex.toNat
 vs:∀v∈p.q,1<=v.cnt/\v.cnt<=1024/\v.Wf
 ex:∀v r,p.q=v::r->p.ex.toNat<v.np
 z:p.q=[]->p.ex=0
theorem Ug{v:Vb}(h:1<=v.cnt):1<=v.np:=by
 unfold Vb.np;rw[vN (by omega)];simp
theorem Uh{v:Vb}(h:v.cnt<=1024):v.np<=1024:=by
 have:=zL v.at_ v.cnt;unfold Vb.np;omega
theorem Pr.Inv.ok(h:p.Inv):p.Ok:=by
 refine⟨h.c,h.inc,h.qn,h.ql,?_,h.ex0,fun v r hq _=>h.ex v r hq⟩;have hw:=h.w;cases hq:p.q with
 |nil=>rw[h.z hq]at hw;simp at hw;rw[hw];simp
 |cons v r=>
  have h1:=h.ex v r hq;have h2:=Uh (h.vs v (by rw[hq];simp)).2.1;omega
def Pr.left(p:Pr):Nat:=(p.q.map Vb.np).sum-p.ex.toNat
theorem Pr.Inv.pop{p:Pr}(h:p.Inv)(hq:p.q≠[]):p.pop.Inv/\p.pop.left<p.left:=by
 cases e:p.q with
 |nil=>exact absurd e hq
 |cons v r=>
  have h1:=h.ex v r e;have hl:=h.ql;rw[e]at hl;have hvs:∀u∈r,1<=u.cnt/\u.cnt<=1024/\u.Wf:=fun u hu=>h.vs u (by rw[e];exact nm _ hu);have ep:p.pop.q=r:=by unfold Pr.pop;rw[e];rfl
  refine⟨⟨h.c,h.inc,fun _=>h.qn hq,?_,Int.le_refl _,nt _,?_,fun u r' hu=>?_,fun _=>rfl⟩,?_⟩
  ·rw[ep];simp at hl;omega
  ·rw[ep];exact hvs
  ·rw[ep]at hu;show(0:Int).toNat<u.np;have:=Ug (hvs u (by rw[hu];simp)).1;have:(0:Int).toNat=0:=rfl;omega
  ·unfold Pr.left;rw[ep,e,B5,ahg];show(r.map Vb.np).sum-(0:Int).toNat<_;simp only[Int.toNat_zero];omega
theorem Pr.Inv.step{p:Pr}(h:p.Inv)(hq:p.q≠[])(n:qm):(p.step n).2.2.1.Inv/\(p.step n).2.2.1.left<p.left/\(p.step n).2.2.2.ws.length=n.ws.length/\(p.step n).2.2.1.node=p.node/\(p.step n).2.2.1.c=p.c/\
  ((p.step n).2.1=true->(p.step n).2.2.1.q=p.q.tail)/\((p.step n).2.1=false->(p.step n).2.2.1.q=p.q):=by
 obtain⟨hpI,hpl⟩:=h.pop hq;cases e:p.q with
 |nil=>exact absurd e hq
 |cons v r=>
  by_cases hr:lN p.c p.inc v n.ws n.dn=0
  ·obtain⟨_,hg⟩:=sx hr;have hlt:=h.ex v r e;unfold Vb.np at hlt;have hx:(eD v.at_ v.cnt).getD p.ex.toNat (0,0)∈eD v.at_ v.cnt:=rA _ _ _ hlt;have hf:=hg.fits hx;have hml:=Vb.WC hf;have hol:= @Vb.zO v ((eD v.at_ v.cnt).getD p.ex.toNat (0,0)) n.ws;have hle:=hf.le;have hw:=h.w;have h0:=h.ex0;by_cases hl:p.ex.toNat+1<(eD v.at_ v.cnt).length
   ·have e2:p.step n=(⟨0,true,[]⟩,false,{p with ex:=p.ex+1,wn:=(v.out ((eD v.at_ v.cnt).getD p.ex.toNat (0,0)) n.ws).isEmpty&&p.wn,w:=p.w++v.out ((eD v.at_ v.cnt).getD p.ex.toNat (0,0)) n.ws},⟨v.mem ((eD v.at_ v.cnt).getD p.ex.toNat (0,0)) n.ws,n.dn⟩):=by
     unfold Pr.step;rw[e];simp only[hr,M1,ya,tm,ee hl]
    rw[e2];refine⟨⟨h.c,h.inc,fun _=>h.qn hq,h.ql,by show 0<=p.ex+1;omega,?_,h.vs,fun u r' hu=>?_,fun hz=>absurd hz hq⟩,?_,hml,rfl,rfl,(fun h=>by cases h),fun _=>e⟩
    ·show(p.w++_).length<=9*(p.ex+1).toNat;rw[ec];omega
    ·have hu:p.q=u::r':=hu;rw[e]at hu;cases hu;show(p.ex+1).toNat<(eD v.at_ v.cnt).length;omega
    ·unfold Pr.left;show(p.q.map Vb.np).sum-(p.ex+1).toNat<(p.q.map Vb.np).sum-p.ex.toNat;rw[e,B5,ahg];unfold Vb.np;omega
   ·have e2:p.step n=(⟨0,(v.out ((eD v.at_ v.cnt).getD p.ex.toNat (0,0)) n.ws).isEmpty&&p.wn,p.w++v.out ((eD v.at_ v.cnt).getD p.ex.toNat (0,0)) n.ws⟩,true,p.pop,⟨v.mem ((eD v.at_ v.cnt).getD p.ex.toNat (0,0)) n.ws,n.dn⟩):=by
     unfold Pr.step;rw[e];simp only[hr,M1,ya,tm,eg hl]
    rw[e2];exact⟨hpI,hpl,hml,rfl,rfl,(fun _=>by unfold Pr.pop;rw[e]),fun h=>by cases h⟩
  ·have e2:p.step n=(⟨lN p.c p.inc v n.ws n.dn,true,[]⟩,true,p.pop,n):=by
    unfold Pr.step;rw[e];simp only[M1,hr,GO,xt]
   rw[e2];exact⟨hpI,hpl,rfl,rfl,rfl,(fun _=>by unfold Pr.pop;rw[e]),fun h=>by cases h⟩
end
section
variable{w0 W:World}{μ:Mu}{I:Ky->Option ag}{t fb:Nat}{s:gN}
theorem Mt(lines:Int)(ln:List th)(i:Nat)(v:Vb):(nZ lines ln i v).length=ln.length:=by
 unfold nZ;split
 ·rw[ff]
 ·rfl
theorem rM(lines:Int)(vs:List Vb)(ln:List th):∀i,(gy lines vs ln i).length=ln.length
 |0=>rfl
 |i+1=>by
  unfold gy;split
  ·rw[Mt,rM lines vs ln i]
  ·exact rM lines vs ln i
theorem Qp(p:Pr)(v:Vb)(lines:Int):(p.post v lines).q.length<=p.q.length+1:=by
 unfold Pr.post;split
 ·simp
 ·omega
theorem tu(lines:Int)(vs:List Vb)(ln:List th)(B:Nat)(h:∀l∈ln,l.p.q.length<=B/\l.pl.length<=B):∀i,∀l∈gy lines vs ln i,l.p.q.length<=B+i/\l.pl.length<=B+i
 |0=>h
 |i+1=>fun l hl=>by
  have ih:=tu lines vs ln B h i;unfold gy at hl;split at hl
  ·rename_i v _;unfold nZ at hl;split at hl
   ·rename_i l0 h0;obtain⟨g1,g2⟩:=ih l0 (dp h0);rcases zp hl with hl|rfl
    ·have:=ih l hl;omega
    ·have:=Qp l0.p v lines;refine⟨by show(l0.p.post v lines).q.length<=_;omega,?_⟩;show(l0.pl++[(i:Int)]).length<=_;rw[ec];show l0.pl.length+1<=_;omega
   ·have:=ih l hl;omega
  ·have:=ih l hl;omega
theorem Xs(hK:az w0 μ I W)(hR:ji t I fb s){x:dH}(hc:s.cl[c]?=some x)(hal:x.al=true)(tT:x.ba=[])(hd:DR μ (.aq n 9 (vs.map Vb.row)) v)(hm:1<=vs.length/\vs.length<=1024)
  (hg:∀u∈vs,u.Wf/\u.eT s.nd.length s.lines=0) (De:1<=s.nd.length/\s.nd.length<=5) (wH:x.ln.length=s.nd.length) (hq:∀l∈x.ln,l.a.p.q.length+vs.length<=1024/\l.a.pl.length+vs.length<=1024):
  Calls U' 20 #[ptr fb,.int .i64 c,v] W fun e w'=>e=.returned (.int .i64 0)/\fu t w0 μ I fb {s.a with cl:=s.a.cl.set c (x.a.post s.lines vs)} w':=by
 have hv0:vs≠[]:=fun e=>by rw[e]at hm;simp at hm
 obtain⟨vb,vo,vc,rfl,_⟩:=cU (W:=W) hd hK.gj (by omega) (by simpa using hv0);rw[ab]at hd⊢;obtain⟨bc,cc,fI,lz,ng⟩:=hR.jy hK hc;obtain⟨n0,Ru⟩:∃n0,s.nd[0]?=some n0:=⟨_,ao (by omega)⟩;obtain⟨bn,cn,lk,_,_⟩:=hR.PN hK Ru;have h2:=hR.c2 hK;rw[fI]at h2;have vE:=ng.bv;rw[(hR.cl c x hc).bn tT]at vE;have wi:=ng.al;rw[hal]at wi;obtain⟨B,hB⟩:∃B,B+vs.length=1024:=⟨1024-vs.length,by omega⟩;have agf:=tu s.lines vs (x.ln.map ik.a) B (fun l hl=>by
  obtain⟨l',hl',rfl⟩:=pw.1 hl;have:=hq l' hl';omega)
 refine PO fb bc c s.cl.length bn s.nd.length cn vb vo vs.length vc s.lines W (fun _ W'=>az w0 μ I W') (fun i W'=>WI t w0 μ I fb s c x (gy s.lines vs (x.ln.map ik.a) i) W') (fu t w0 μ I fb {s.a with cl:=s.a.cl.set c (x.a.post s.lines vs)})
  (aV hc) hm h2 wi vE hK ?_ ?_ ⟨?_,?_⟩
 ·intro i W' hi hK';obtain⟨u,hu⟩:∃u,vs[i]?=some u:=⟨_,ao hi⟩;obtain⟨A,al,ac,hV,FU⟩:=zQ hK' hd hu;obtain⟨hw,WY⟩:=hg u (dp hu);have wy:=(hK'.bw (ar.alloc W' (.cells (aJ u.kind u.node u.at_ u.n u.old u.new A al ac u.key u.aS) 71))).drew;have hnew:∀j v,(aJ u.kind u.node u.at_ u.n u.old u.new A al ac u.key u.aS)[j]?=some v->(W'.alloc (.cells (aJ u.kind u.node u.at_ u.n u.old u.new A al ac u.key u.aS) 71)).drew.cell? ⟨W'.heap.size,j,none⟩=some v:=fun j v hj=>cell_of (Ev.aZ W' _) hj;have g1:=hR.c1 wy;rw[lk]at g1;have hS:Vm fb bn s.nd.length cn s.lines (W'.alloc (.cells (aJ u.kind u.node u.at_ u.n u.old u.new A al ac u.key u.aS) 71)).drew W'.heap.size u.kind u.node u.at_ u.n u.old u.new A al ac u.key u.aS:=
   ⟨hnew 0 _ rfl,hnew 1 _ rfl,hnew 2 _ rfl,hnew 3 _ rfl,hnew 4 _ rfl,hnew 5 _ rfl,hnew 6 _ rfl,hnew 7 _ rfl,hnew 8 _ rfl,hR.c0 wy,g1⟩
  refine⟨u.kind,u.node,u.at_,u.n,u.old,u.new,A,al,ac,u.key,u.aS,hV,hS,?_⟩;refine(Ca wy FU s.nd.length s.lines (by omega)).mono fun e w' he=>?_;obtain⟨rfl,hKb,hk⟩:=he;rw[WY];obtain⟨s0,s1,s2,s3,s4,s5,s6,s7,s8,s9,s10⟩:=hS;exact⟨rfl,hKb,hk.cell s0 dt,hk.cell s1 dt,hk.cell s2 dt,hk.cell s3 dt,hk.cell s4 dt,hk.cell s5 dt,hk.cell s6 dt,hk.cell s7 dt,hk.cell s8 dt,hk.cell s9 dt,hk.cell s10 dt⟩
 ·intro W' hK';refine⟨μ,I,x.ln,ak.refl _,hK',?_,rfl,fun k _=>rfl⟩;have:s.cl.set c {x with ln:=x.ln}=s.cl:=kj fun j=>by
   rw[mj];by_cases e:c=j
   ·subst e;rw[ee rfl,ee (aV hc),hc]
   ·rw[eg e]
  rw[this];exact hR
 ·intro i W' hi hJ;obtain⟨u,hu⟩:∃u,vs[i]?=some u:=⟨_,ao hi⟩;obtain⟨hw,WY⟩:=hg u (dp hu);have e1:gy s.lines vs (x.ln.map ik.a) (i+1)=nZ s.lines (gy s.lines vs (x.ln.map ik.a) i) i u:=by
   rw[gy,hu]
  rw[e1];exact Tb hd hu hw WY De.2 hc fI (by rw[rM,ab];exact wH) (fun l hl=>by
   have:=agf i l hl;omega) hJ
 ·intro W' hJ;exact TS hm hc fI hJ
end
section
attribute [local go_sem] Oper.semAt_some
attribute [local go_sem] eU dm dq eV
set_option maxRecDepth 1000000 in
theorem Ui(bf bc ci nc:Nat)(b:Int)(W:World)(iN:ci<nc)(h:W.cell? ⟨bf,2,none⟩=some (.slice (some ⟨bc,0,none⟩) nc cc))(hal:W.cell? ⟨bc,ci*7+1,none⟩=some (.int .i64 b)):Calls U' 49 #[.pointer (some ⟨bf,0,none⟩),.int .i64 ci] W fun e w'=>e=.returned (.int .i64 b)/\w'=W:=by
 have hcw:=aW bf bc ci nc W iN h
 go_enter Tryz.func49,Tryz.ntmps49
 go_wp2_with (go_at_call 67;refine da hcw ?_;clear hcw;rintro e w' ⟨rfl,hw⟩;rw[hw];clear hw)
 go_ret
 exact⟨rfl,rfl⟩
set_option maxRecDepth 1000000 in
theorem Gl(bf bc ci nc:Nat)(b:Int)(W:World)(iN:ci<nc)(h:W.cell? ⟨bf,2,none⟩=some (.slice (some ⟨bc,0,none⟩) nc cc))(hal:W.cell? ⟨bc,ci*7+4,none⟩=some (.int .i64 b)):Calls U' 51 #[.pointer (some ⟨bf,0,none⟩),.int .i64 ci] W fun e w'=>e=.returned (.int .i64 b)/\w'=W:=by
 have hcw:=aW bf bc ci nc W iN h
 go_enter Tryz.func51,Tryz.ntmps51
 go_wp2_with (go_at_call 67;refine da hcw ?_;clear hcw;rintro e w' ⟨rfl,hw⟩;rw[hw];clear hw)
 go_ret
 exact⟨rfl,rfl⟩
set_option maxRecDepth 1000000 in
theorem Mv(bf bc ci nc:Nat)(b:Int)(W:World)(iN:ci<nc)(h:W.cell? ⟨bf,2,none⟩=some (.slice (some ⟨bc,0,none⟩) nc cc))(hal:W.cell? ⟨bc,ci*7+5,none⟩=some (.int .i64 b)):Calls U' 53 #[.pointer (some ⟨bf,0,none⟩),.int .i64 ci] W fun e w'=>e=.returned (.int .i64 b)/\w'=W:=by
 have hcw:=aW bf bc ci nc W iN h
 go_enter Tryz.func53,Tryz.ntmps53
 go_wp2_with (go_at_call 67;refine da hcw ?_;clear hcw;rintro e w' ⟨rfl,hw⟩;rw[hw];clear hw)
 go_ret
 exact⟨rfl,rfl⟩
set_option maxRecDepth 1000000 in
theorem JY(bf bc ci nc:Nat)(b:Int)(W:World)(iN:ci<nc)(h:W.cell? ⟨bf,2,none⟩=some (.slice (some ⟨bc,0,none⟩) nc cc))(hal:W.cell? ⟨bc,ci*7+6,none⟩=some (.int .i64 b)):Calls U' 54 #[.pointer (some ⟨bf,0,none⟩),.int .i64 ci] W fun e w'=>e=.returned (.int .i64 b)/\w'=W:=by
 have hcw:=aW bf bc ci nc W iN h
 go_enter Tryz.func54,Tryz.ntmps54
 go_wp2_with (go_at_call 67;refine da hcw ?_;clear hcw;rintro e w' ⟨rfl,hw⟩;rw[hw];clear hw)
 go_ret
 exact⟨rfl,rfl⟩
set_option maxRecDepth 1000000 in
theorem take_nil(bf bc ci nc:Nat)(W:World)(iN:ci<nc)(h:W.cell? ⟨bf,2,none⟩=some (.slice (some ⟨bc,0,none⟩) nc cc))(hal:W.cell? ⟨bc,ci*7,none⟩=some (.bool true))(hb:W.cell? ⟨bc,ci*7+3,none⟩=some (.slice none 0 0)):Calls U' 23 #[.pointer (some ⟨bf,0,none⟩),.int .i64 ci] W fun e w'=>e=.returned (.tuple #[.slice none 0 0,.bool false])/\w'=W:=by
 have hcw:=aW bf bc ci nc W iN h
 go_enter Tryz.func23,Tryz.ntmps23
 go_wp2_with (go_at_call 67;refine da hcw ?_;clear hcw;rintro e w' ⟨rfl,hw⟩;rw[hw];clear hw)
 exact pB (At rfl _ _ _) rfl ⟨rfl,rfl⟩
set_option maxRecDepth 1000000 in
theorem Qq(bf bc ci nc:Nat)(A:Option Addr)(m vc:Nat)(W:World)(iN:ci<nc)(h:W.cell? ⟨bf,2,none⟩=some (.slice (some ⟨bc,0,none⟩) nc cc))(hal:W.cell? ⟨bc,ci*7,none⟩=some (.bool false)):Calls U' 20 #[.pointer (some ⟨bf,0,none⟩),.int .i64 ci,.slice A m vc] W fun e w'=>e=.returned (.int .i64 1)/\w'=W:=by
 have hcw:=aW bf bc ci nc W iN h
 go_enter Tryz.func20,Tryz.ntmps20
 go_wp2_with (go_at_call 67;refine da hcw ?_;clear hcw;rintro e w' ⟨rfl,hw⟩;rw[hw];clear hw)
 go_ret
 exact⟨rfl,rfl⟩
set_option maxHeartbeats 8000000 in
set_option maxRecDepth 1000000 in
theorem Uj(bf bc ci nc bn nn wu vb vo m vc k:Nat)(lines code:Int)(w:World)(J1:Nat->World->Prop)(K:World->Prop)(iN:ci<nc)(hm:1<=m/\m<=1024)(hk:k<m)(Es:code≠0)
  (h2:w.cell? ⟨bf,2,none⟩=some (.slice (some ⟨bc,0,none⟩) nc cc)) (hal:w.cell? ⟨bc,ci*7,none⟩=some (.bool true)) (tT:w.cell? ⟨bc,ci*7+3,none⟩=some (.slice none 0 0)) (FQ:J1 0 w)
  (hv:∀i W,i<=k->J1 i W->∃(kd nd at_ n old nw:Int) (A:Option Addr) (l c:Nat) (key bt:Int),qp W vb (vo+i*9) kd nd at_ n old nw A l c key bt/\Vm bf bn nn wu lines (W.alloc (.cells (aJ kd nd at_ n old nw A l c key bt) 71)).drew W.heap.size kd nd at_ n old nw A l c key bt/\
   Calls U' 68 #[.agg (aJ kd nd at_ n old nw A l c key bt),.int .i64 nn,.int .i64 lines] (W.alloc (.cells (aJ kd nd at_ n old nw A l c key bt) 71)).drew fun e w'=> ∃z:Int,e=.returned (.int .i64 z)/\(i<k->z=0)/\(i=k->z=code)/\J1 (i+1) w'/\Vm bf bn nn wu lines w' W.heap.size kd nd at_ n old nw A l c key bt)
  (hK:∀W,J1 (k+1) W->K W):
  Calls U' 20 #[.pointer (some ⟨bf,0,none⟩),.int .i64 ci,.slice (some ⟨vb,vo,none⟩) m vc] w fun e w'=>e=.returned (.int .i64 code)/\K w':=by
 have mixed:U'.follows .mixedOrders=true:=by kernel_rfl
 have uu:(ci:Int)<(nc:Int):=by omega
 have hm0:¬(m:Int)=0:=by omega
 have iT:¬(1024:Int)<(m:Int):=by omega
 have hmb:((m:Int)==0)=false:=oE.2 hm0;have NI:(code==0)=false:=oE.2 Es;have HV:Hid (∀i W,i<=k->J1 i W->∃(kd nd at_ n old nw:Int) (A:Option Addr) (l c:Nat) (key bt:Int),qp W vb (vo+i*9) kd nd at_ n old nw A l c key bt/\Vm bf bn nn wu lines (W.alloc (.cells (aJ kd nd at_ n old nw A l c key bt) 71)).drew W.heap.size kd nd at_ n old nw A l c key bt/\
   Calls U' 68 #[.agg (aJ kd nd at_ n old nw A l c key bt),.int .i64 nn,.int .i64 lines] (W.alloc (.cells (aJ kd nd at_ n old nw A l c key bt) 71)).drew fun e w'=> ∃z:Int,e=.returned (.int .i64 z)/\(i<k->z=0)/\(i=k->z=code)/\J1 (i+1) w'/\Vm bf bn nn wu lines w' W.heap.size kd nd at_ n old nw A l c key bt):=hv
 clear hv
 go_enter Tryz.func20,Tryz.ntmps20
 go_wp2
 go_loopg [43] (k+1) (fun g s W=> ∃i:Nat,i+g=k+1/\1<=g/\s=.int .i64 i/\J1 i W)
 case atStart=>exact⟨0,by omega,by omega,rfl,FQ⟩
 case round=>
  obtain⟨i,hig,hg1,rfl,hI⟩:=hrel;cases gk with
  |zero=>omega
  |succ g=>
   have hi:i<m:=by omega
   have zP:(i:Int)<(m:Int):=by omega
   obtain⟨kd,nd,at_,n,old,nw,A,l,c,key,bt,⟨v0,v1,v2,v3,v4,v5,v6,v7,v8⟩,hS0,hcall⟩:=HV.out i wr (by omega) hI;have hw:wrap64 ((i:Int)+1)=((i+1:Nat):Int):=by rw[mZ,aD];omega
   clear FQ HV hI h2 hal tT
   go_wp2
   go_region_held3 (fun w'=>w'.cell? ⟨wr.heap.size,0,none⟩=some (.int .i64 kd)/\w'.cell? ⟨wr.heap.size,1,none⟩=some (.int .i64 nd)/\w'.cell? ⟨wr.heap.size,2,none⟩=some (.int .i64 at_)/\w'.cell? ⟨wr.heap.size,3,none⟩=some (.int .i64 n)/\w'.cell? ⟨wr.heap.size,4,none⟩=some (.int .u64 old)/\
    w'.cell? ⟨wr.heap.size,5,none⟩=some (.int .u64 nw)/\w'.cell? ⟨wr.heap.size,6,none⟩=some (.slice A l c)/\w'.cell? ⟨wr.heap.size,7,none⟩=some (.int .u64 key)/\w'.cell? ⟨wr.heap.size,8,none⟩=some (.int .i64 bt)/\w'.cell? ⟨bf,0,none⟩=some (.int .i64 lines)/\w'.cell? ⟨bf,1,none⟩=some (.slice (some ⟨bn,0,none⟩) nn wu))
    (first|exact hS0|exact hS1)
    (first|(go_at_call 68;refine da hcall ?_;clear hcall;rintro e w' ⟨z,rfl,hz0,hz1,hJ,hS1⟩))
   all_goals
    by_cases hik:i=k
    ·obtain rfl:=hz1 hik;subst hik;have hKK:=hK _ hJ;clear hS1 hS0 hJ hK
     go_wp2
     go_ret
     exact⟨rfl,hKK⟩
    ·obtain rfl:=hz0 (by omega)
     go_wp2
     go_roundg g
     case measure=>omega
     case rel=>exact⟨i+1,by omega,by omega,rfl,hJ⟩
end
section
variable{w0 W:World}{μ:Mu}{I:Ky->Option ag}{t fb:Nat}{s:gN}
theorem Uk(hK:az w0 μ I W)(hR:ji t I fb s){x:dH}(hc:s.cl[c]?=some x)(hal:x.al=true)(tT:x.ba=[])(hd:DR μ (.aq n 9 (vs.map Vb.row)) v)(hm:1<=vs.length/\vs.length<=1024)
  (De:1<=s.nd.length/\s.nd.length<=5)   (hk:vs[k]?=some uk) (hg:∀i u,i<k->vs[i]?=some u->u.eT s.nd.length s.lines=0) (hb:uk.eT s.nd.length s.lines≠0):
  Calls U' 20 #[ptr fb,.int .i64 c,v] W fun e w'=>e=.returned (.int .i64 (uk.eT s.nd.length s.lines))/\az w0 μ I w':=by
 have hv0:vs≠[]:=fun e=>by rw[e]at hm;simp at hm
 obtain⟨vb,vo,vc,rfl,_⟩:=cU (W:=W) hd hK.gj (by omega) (by simpa using hv0);rw[ab]at hd⊢;obtain⟨bc,cc,fI,lz,ng⟩:=hR.jy hK hc;obtain⟨n0,Ru⟩:∃n0,s.nd[0]?=some n0:=⟨_,ao (by omega)⟩;obtain⟨bn,cn,lk,_,_⟩:=hR.PN hK Ru;have h2:=hR.c2 hK;rw[fI]at h2;have vE:=ng.bv;rw[(hR.cl c x hc).bn tT]at vE;have wi:=ng.al;rw[hal]at wi;refine Uj fb bc c s.cl.length bn s.nd.length cn vb vo vs.length vc k s.lines (uk.eT s.nd.length s.lines) W (fun _ W'=>az w0 μ I W') (fun W'=>az w0 μ I W') (aV hc) hm (aV hk) hb h2 wi vE hK (fun i W' hi hK'=>?_) fun _ h=>h;obtain⟨u,hu⟩:∃u,vs[i]?=some u:=⟨_,ao (by have:=aV hk;omega)⟩;obtain⟨A,al,ac,hV,FU⟩:=zQ hK' hd hu;have wy:=(hK'.bw (ar.alloc W' (.cells (aJ u.kind u.node u.at_ u.n u.old u.new A al ac u.key u.aS) 71))).drew;have hnew:∀j v,(aJ u.kind u.node u.at_ u.n u.old u.new A al ac u.key u.aS)[j]?=some v->(W'.alloc (.cells (aJ u.kind u.node u.at_ u.n u.old u.new A al ac u.key u.aS) 71)).drew.cell? ⟨W'.heap.size,j,none⟩=some v:=fun j v hj=>cell_of (Ev.aZ W' _) hj;have g1:=hR.c1 wy;rw[lk]at g1;have hS:Vm fb bn s.nd.length cn s.lines (W'.alloc (.cells (aJ u.kind u.node u.at_ u.n u.old u.new A al ac u.key u.aS) 71)).drew W'.heap.size u.kind u.node u.at_ u.n u.old u.new A al ac u.key u.aS:=
  ⟨hnew 0 _ rfl,hnew 1 _ rfl,hnew 2 _ rfl,hnew 3 _ rfl,hnew 4 _ rfl,hnew 5 _ rfl,hnew 6 _ rfl,hnew 7 _ rfl,hnew 8 _ rfl,hR.c0 wy,g1⟩
 refine⟨u.kind,u.node,u.at_,u.n,u.old,u.new,A,al,ac,u.key,u.aS,hV,hS,?_⟩;refine(Ca wy FU s.nd.length s.lines (by omega)).mono fun e w' he=>?_;obtain⟨rfl,hKb,hk'⟩:=he;obtain⟨s0,s1,s2,s3,s4,s5,s6,s7,s8,s9,s10⟩:=hS;refine⟨_,rfl,fun h=>hg i u h hu,fun h=>?_,hKb,hk'.cell s0 dt,hk'.cell s1 dt,hk'.cell s2 dt,hk'.cell s3 dt,hk'.cell s4 dt,hk'.cell s5 dt,hk'.cell s6 dt,hk'.cell s7 dt,hk'.cell s8 dt,hk'.cell s9 dt,hk'.cell s10 dt⟩;subst h;rw[hk]at hu;cases hu;rfl
end
section
variable{w0 W:World}{μ:Mu}{I:Ky->Option ag}{t fb:Nat}{s:gN}
abbrev Ch:=Int×Int×Int
def Qr(x:Ch):List AV:=[Q' x.1,Q' x.2.1,Q' x.2.2]
def NZ(ln:List th)(c:Nat):Nat->List Ch
 |0=>[]
 |j+1=>NZ ln c j++(match ln[j]? with|some l=>if l.p.q=[]then []else [(-1,(c:Int),(j:Int))]|none=>[])
def Gz(cl:List mU):Nat->List Ch
 |0=>[]
 |c+1=>Gz cl c++(match cl[c]? with|some x=>NZ x.ln c x.ln.length|none=>[])
def Qs(os:List Pr):Nat->List Ch
 |0=>[]
 |k+1=>Qs os k++(match os[k]? with|some p=>[((k:Int),p.c,p.node)]|none=>[])
def mV.oL(a:mV):List Ch:=Gz a.cl a.cl.length++Qs a.os a.os.length
theorem Gm(ln:List th)(c:Nat):∀j,(NZ ln c j).length<=j
 |0=>dk _
 |j+1=>by
  have:=Gm ln c j;unfold NZ;rw[ec];split
  ·split<;>simp<;>omega
  ·simp;omega
theorem wj{cl:List mU}{B:Nat}(h:∀x∈cl,x.ln.length<=B):∀c,(Gz cl c).length<=c*B
 |0=>by simp[Gz]
 |c+1=>by
  have:=wj h c;unfold Gz;rw[ec,SO];split
  ·rename_i x hx;have h1:=h x (dp hx);have h2:=Gm x.ln c x.ln.length;omega
  ·simp;omega
theorem zT(os:List Pr):∀k,(Qs os k).length<=k
 |0=>dk _
 |k+1=>by
  have:=zT os k;unfold Qs;rw[ec];split<;>simp<;>omega
theorem adV:U'.underlying 73=some (.slice 77):=by kernel_rfl
theorem adW:(U'.info? 77).map (fun i=>(i.zero,i.size,i.bytes))=some (some (.agg #[.int .i64 0,.int .i64 0,.int .i64 0]),3,24):=by kernel_rfl
def nJ(t:Nat)(w0:World)(μ:Mu)(I:Ky->Option ag)(xs:List Ch)(v:Value)(W:World):Prop:=
 ∃I':Ky->Option ag,az w0 μ I' W/\Row I' (t,.tmp 9) v 77 3 (xs.map Qr)/\∀k,k≠(t,.tmp 9)->I' k=I k
theorem nJ.alloc{xs:List Ch}{v:Value}(h:nJ t w0 μ I xs v W)(o:Obj):nJ t w0 μ I xs v (W.alloc o):=by
 obtain⟨I',h1,h2,h3⟩:=h;exact⟨I',h1.bw (ar.alloc W o),h2,h3⟩
theorem N0{xs:List Ch}(h:nJ t w0 μ I xs v W)(hl:xs.length<=90000)(x y z:Int){J:Value->World->Prop}(hJ:∀v' W',nJ t w0 μ I (xs++[(x,y,z)]) v' W'->J v' W'):Mn x y z v W J:=by
 obtain⟨I',hK,hr,hf⟩:=h;obtain⟨I40,hI,vR,qD,yJ⟩:=info_parts adW;have wy:=hK.bw (ar.alloc W (.cells #[.int .i64 x,.int .i64 y,.int .i64 z] 77));obtain⟨b',c',W2,hrun,bq,_,_⟩:=wy.ua (P:=U') (es:=Qr (x,y,z)) hr adV hI vR qD (by omega) (by omega) rfl (by rw[ab];omega) (Ev.aZ W _) rfl (fun v hv=>by
  simp only[ft,dt,re]at hv;rcases hv with rfl|rfl|rfl<;>rfl) rfl fun jj u e hu he=>by
  match jj with
  |0=>cases hu;cases he;exact .v rfl
  |1=>cases hu;cases he;exact .v rfl
  |2=>cases hu;cases he;exact .v rfl
  |n+3=>simp[Qr]at hu
 obtain⟨A,c,ev,_⟩:=hr.val;rw[ab]at ev hrun;rw[ev]at hrun;refine⟨A,xs.length,c,b',c',W2,ev,fun ty=>hrun ty,hJ _ _ ⟨_,bq,.inr ⟨b',c',?_,?_⟩,fun k hk=>?_⟩⟩
 ·rw[ab,ec];rfl
 ·rw[af,im];rfl
 ·rw[ae _ _ hk];exact hf k hk
theorem Cy(hK:az w0 μ I W)(hR:ji t I fb s)(hcl:0<s.cl.length)(hb:s.cl.length<=100/\(∀x∈s.cl,x.ln.length<=100)/\s.os.length<=50000):
  Calls U' 21 #[ptr fb] W fun e w'=> ∃v,e=.returned v/\nJ t w0 μ I s.a.oL v w':=by
 obtain⟨x0,hx0⟩:∃x0,s.cl[0]?=some x0:=⟨_,ao hcl⟩;obtain⟨bc,cc,fI,_,_⟩:=hR.jy hK hx0;obtain⟨OA,oc,JL⟩:=hR.ovl;have h2:=hR.c2 hK;rw[fI]at h2;obtain⟨b1,b2,b3⟩:=hb;have hst:∀{xs:List Ch} {v:Value} {W':World},nJ t w0 μ I xs v W'->∃I',az w0 μ I' W'/\ji t I' fb s:=fun h=>by
  obtain⟨I',h1,_,h3⟩:=h;exact⟨I',h1,hR.of fun k hk=>h3 _ (aa (hk 9))⟩
 have hlA:s.a.cl.length=s.cl.length:=ab ..;have hBl:∀x∈s.a.cl,x.ln.length<=100:=fun x hx=>by
  obtain⟨y,hy,rfl⟩:=pw.1 hx;show(y.ln.map ik.a).length<=100;rw[ab];exact b2 y hy
 refine Gi fb bc s.cl.length s.os.length oc OA W (fun i v W'=>nJ t w0 μ I (Gz s.a.cl i) v W') (fun i LA ll j v W'=> ∃x lc,s.cl[i]?=some x/\x.lv=.slice LA ll lc/\x.ln.length=ll/\nJ t w0 μ I (Gz s.a.cl i++NZ x.a.ln i j) v W')
  (fun k v W'=>nJ t w0 μ I (Gz s.a.cl s.cl.length++Qs s.a.os k) v W') (fun v W'=>nJ t w0 μ I s.a.oL v W') (by omega) (by omega) h2 ⟨I,hK,.inl ⟨rfl,rfl⟩,fun _ _=>rfl⟩ ⟨?_,?_,?_,?_,?_,?_⟩
 ·intro i v W' hi hJ;obtain⟨I',hK',hR'⟩:=hst hJ;obtain⟨x,hx⟩:∃x,s.cl[i]?=some x:=⟨_,ao hi⟩;obtain⟨bc',YZ,e1,_,ng⟩:=hR'.jy hK' hx;rw[fI]at e1;injection e1 with g1 g2 g3;injection g1 with g1;injection g1 with g1;subst g1 g3;obtain⟨LA,lc,hlv,_⟩:=(hR'.cl i x hx).ls.val;obtain⟨BA,bcp,vE,_⟩:=(hR'.cl i x hx).bs.val;rw[ab]at hlv vE;obtain⟨a0,a1,a2,a3,a4,a5,a6⟩:=ng;rw[hlv]at a2;rw[vE]at a3;refine⟨x.al,x.inc,LA,BA,x.ln.length,lc,x.ba.length,bcp,x.wt,x.tr,x.po,a0,a1,a2,a3,a4,a5,a6,_,rfl,cell_of (Ev.aZ W' _) rfl,x,lc,hx,hlv,rfl,?_⟩;show nJ t w0 μ I (Gz s.a.cl i++[]) v _;rw[ir];exact hJ.alloc _
 ·rintro i LA ll j v W' hj ⟨x,lc,hx,hlv,rfl,hJ⟩;have hxl:=b2 x (dp hx);refine⟨by omega,?_⟩;obtain⟨I',hK',hR'⟩:=hst hJ;have kD:=hR'.cl i x hx;obtain⟨l,hl⟩:∃l,x.ln[j]?=some l:=⟨_,ao hj⟩;obtain⟨bl,ll,e2,_,d0,d1⟩:=kD.zk hK' hl;rw[hlv]at e2;injection e2 with g1 g2 g3;obtain⟨PA,pc,wK,_⟩:=(kD.S5 j l hl).val;rw[wK]at d1;obtain⟨VA,vc,hvv⟩:=kD.WE hK' hl;have hla:x.a.ln[j]?=some l.a:=get_map (f:=ik.a) hl;have e:NZ x.a.ln i (j+1)=NZ x.a.ln i j++(if l.a.p.q=[]then []else [(-1,(i:Int),(j:Int))]):=by rw[NZ,hla]
  refine⟨bl,l.b,PA,VA,_,pc,l.a.p.q.length,vc,g1,d0,d1,_,rfl,cell_of (Ev.aZ W' _) rfl,bp hvv,fun h0=>⟨x,lc,hx,hlv,rfl,?_⟩,fun h0=>?_⟩
  ·rw[e,ee (dy h0),ir];exact hJ.alloc _
  ·have q1:=wj hBl i;have q2:=Gm x.a.ln i j;have hi:=aV hx;have q3:i*100<=100*100:=fi _ (by omega);refine N0 (hJ.alloc _) (by rw[ec];omega) _ _ _ fun v' W'' hC=>⟨x,lc,hx,hlv,rfl,?_⟩;rw[e,eg (fun e=>by rw[e]at h0;simp at h0),<-fh];exact hC
 ·rintro i LA ll v W' ⟨x,lc,hx,hlv,QX,hJ⟩;have hxa:s.a.cl[i]?=some x.a:=get_map (f:=dH.a) hx;have e:Gz s.a.cl (i+1)=Gz s.a.cl i++NZ x.a.ln i x.a.ln.length:=by rw[Gz,hxa]
  rw[e,show x.a.ln.length=ll from(ab ..).trans QX];exact hJ
 ·intro v W' hJ;obtain⟨I',hK',hR'⟩:=hst hJ;have h3:=hR'.c3 hK';rw[JL]at h3;refine⟨h3,?_⟩;show nJ t w0 μ I (Gz s.a.cl s.cl.length++[]) v W';rw[ir];exact hJ
 ·intro k v W' hk hJ;obtain⟨I',hK',hR'⟩:=hst hJ;obtain⟨o,ho⟩:∃o,s.os[k]?=some o:=⟨_,ao hk⟩;obtain⟨bo,co,e1,_,hp⟩:=hR'.aaE hK' ho;rw[JL]at e1;injection e1 with g1 g2 g3;obtain⟨F,hF⟩:=hR'.os k o ho;have hoa:s.a.os[k]?=some o.p:=get_map (f:=qz.p) ho;have e:Qs s.a.os (k+1)=Qs s.a.os k++[((k:Int),o.p.c,o.p.node)]:=by rw[Qs,hoa]
  refine⟨bo,o.b,o.p.c,o.p.node,g1,hp,hK'.cell hF rfl,hK'.cell hF rfl,?_⟩;have q1:=wj hBl s.cl.length;have q2:=zT s.a.os k;have q3:s.cl.length*100<=100*100:=fi _ (by omega);refine N0 hJ (by rw[ec];omega) _ _ _ fun v' W'' hC=>?_;show nJ t w0 μ I (Gz s.a.cl s.cl.length++Qs s.a.os (k+1)) v' W'';rw[e,<-fh];exact hC
 ·intro v W' hJ;unfold mV.oL;rw[hlA,show s.a.os.length=s.os.length from ab ..];exact hJ
end
section
variable{w0 W:World}{μ:Mu}{I:Ky->Option ag}{t fb:Nat}{s:gN}
def ug(ln:List ik):Nat->List Nat
 |0=>[]
 |j+1=>ug ln j++(match ln[j]? with|some l=>if l.a.p.q=[]then []else [j]|none=>[])
def yN(ln:List ik):Nat->List qz
 |0=>[]
 |j+1=>yN ln j++(match ln[j]? with|some l=>if l.a.p.q=[]then []else [⟨l.b,l.a.p⟩]|none=>[])
def pA(ln:List th):Nat->List Pr
 |0=>[]
 |j+1=>pA ln j++(match ln[j]? with|some l=>if l.p.q=[]then []else [l.p]|none=>[])
theorem Zq(ln:List ik):∀j,(yN ln j).map qz.p=pA (ln.map ik.a) j
 |0=>rfl
 |j+1=>by
  unfold yN pA;rw[im,Zq ln j,et];cases ln[j]? with
  |none=>rfl
  |some l=>
   show _++List.map qz.p (if l.a.p.q=[]then []else _)=_++(if l.a.p.q=[]then []else _);split<;>rfl
theorem zU(ln:List ik):∀j,(yN ln j).length=(ug ln j).length/\(ug ln j).length<=j
 |0=>⟨rfl,dk _⟩
 |j+1=>by
  obtain⟨h1,h2⟩:=zU ln j;unfold yN ug;rw[ec,ec,h1];cases ln[j]? with
  |none=>simp;omega
  |some l=>
   simp only;split<;>simp<;>omega
theorem N1(ln:List ik):∀j,∀k∈ug ln j,k<j
 |0=>fun k h=>by cases h
 |j+1=>fun k h=>by
  unfold ug at h;rcases gw.1 h with h|h
  ·have:=N1 ln j k h;omega
  ·split at h
   ·split at h
    ·cases h
    ·simp at h;omega
   ·cases h
theorem N2(ln:List ik):∀j,(ug ln j).Nodup
 |0=>sq
 |j+1=>by
  unfold ug;refine rk.2 ⟨N2 ln j,?_,fun a ha b hb e=>?_⟩
  ·split
   ·split<;>simp
   ·simp
  ·subst e;have:=N1 ln j a ha;split at hb
   ·split at hb
    ·cases hb
    ·simp at hb;omega
   ·cases hb
theorem N3(ln:List ik):∀(j m:Nat) (o:qz),(yN ln j)[m]?=some o->∃i l,(ug ln j)[m]?=some i/\ln[i]?=some l/\o=⟨l.b,l.a.p⟩
 |0=>fun m o h=>by simp[yN]at h
 |j+1=>fun m o h=>by
  unfold yN at h;unfold ug;obtain⟨h1,_⟩:=zU ln j;by_cases hm:m<(yN ln j).length
  ·rw[fj hm]at h;rw[fj (by omega)];exact N3 ln j m o h
  ·rw[en (by omega)]at h;rw[en (by omega),<-h1];cases hl:ln[j]? with
   |none=>rw[hl]at h;simp at h
   |some l=>
    rw[hl]at h;simp only at h⊢;by_cases hq:l.a.p.q=[]
    ·rw[ee hq]at h;simp at h
    ·rw[eg hq]at h⊢;have hm0:m-(yN ln j).length=0:=by
      have:=aV h;simp at this;omega
     rw[hm0]at h⊢;cases h;exact⟨j,l,rfl,hl,rfl⟩
theorem adX:(U'.info? 101).map (fun i=>(i.zero,i.size,i.bytes))=some (some (.pointer none),1,8):=by kernel_rfl
theorem adY:U'.underlying 46=some (.slice 101):=by kernel_rfl
def N4(t:Nat)(w0:World)(μ:Mu)(I:Ky->Option ag)(fb:Nat)(s:gN)(os:List qz)(W:World):Prop:=
 ∃(I':Ky->Option ag) (ov:Value) (F:List Nat),az w0 μ I' W/\Row I' (t,.lO) ov 101 1 (os.map qz.row)/\I' (t,.cM)=some (bG fb F 48 {s with ov:=ov}.cells)/\∀k,k≠(t,.lO)->k≠(t,.cM)->I' k=I k
theorem Xt{i:Nat}{x:dH}{l:ik}{LA:Option Addr}{lc:Nat}(kD:S2 t I c x)(hl:x.ln[i]?=some l)(hlv:x.lv=.slice LA x.ln.length lc)(hlen:s.os.length+x.ln.length<=90000)(hJ:N4 t w0 μ I fb s (s.os++yN x.ln i) W):
  Tf fb LA i W fun i W=>N4 t w0 μ I fb s (s.os++yN x.ln i) W:=by
 obtain⟨I',ov,F,hK,hr,dF,hf⟩:=hJ;have hC':S2 t I' c x:=kD.of fun k hk=>hf _ (aa fun e=>by subst e;simp[FK.mT]at hk) (aa fun e=>by subst e;simp[FK.mT]at hk);obtain⟨bl,ll,e2,_,d0,d1⟩:=hC'.zk hK hl;rw[hlv]at e2;injection e2 with g1 g2 g3;obtain⟨PA,pc,wK,_⟩:=(hC'.S5 i l hl).val;rw[wK]at d1;obtain⟨VA,vc,hvv⟩:=hC'.WE hK hl;have hi:=aV hl;have e:yN x.ln (i+1)=yN x.ln i++(if l.a.p.q=[]then []else [⟨l.b,l.a.p⟩]):=by rw[yN,hl]
 obtain⟨q1,q2⟩:=zU x.ln i;refine⟨bl,l.b,PA,VA,_,pc,l.a.p.q.length,vc,g1,d0,d1,_,rfl,cell_of (Ev.aZ W _) rfl,bp hvv,fun h0=>?_,fun h0=>?_⟩
 ·refine⟨I',ov,F,hK.bw (ar.alloc W _),?_,dF,hf⟩;rw[e,ee (dy h0),ir];exact hr
 ·have hKb:=(hK.bw (ar.alloc W (.cells #[.pointer (some ⟨l.b,0,none⟩),.slice PA (l.a.pl.map kY).length pc] 118))).drew;obtain⟨wb,hwb⟩:∃wb,(W.alloc (.cells #[.pointer (some ⟨l.b,0,none⟩),.slice PA (l.a.pl.map kY).length pc] 118)).drew=wb:=⟨_,rfl⟩;rw[hwb]at hKb⊢;have Xq:=hKb.bw (ar.alloc wb (.cells #[.pointer (some ⟨l.b,0,none⟩)] 101));obtain⟨I80,hI,vR,qD,yJ⟩:=info_parts adX;obtain⟨b',c',W4,hrun,eX,_,_⟩:=Xq.ua (P:=U') (es:=qz.row ⟨l.b,l.a.p⟩) hr adY hI vR qD (by omega) (by omega) rfl (by rw[ab,ec];omega) (Ev.aZ wb _) rfl (fun v hv=>by simp at hv;subst hv;rfl) rfl fun jj u v hu hv=>by
   cases jj with
   |zero=>cases hu;cases hv;exact .v rfl
   |succ j=>simp[qz.row]at hu
  obtain⟨OA,oc,eov,_⟩:=hr.val;rw[ab]at eov hrun;rw[eov]at hrun;have c3:∀{W':World},az w0 μ I' W'->W'.cell? ⟨fb,3,none⟩=some (.slice OA (s.os++yN x.ln i).length oc):=fun h=>by
   rw[h.cell dF (j:=3) rfl,<-eov]
  have Cx:=aC (k:=(t,.lO)) (x:=some (aE b' c' 101 1 ((s.os++yN x.ln i).map qz.row++[qz.row ⟨l.b,l.a.p⟩]))) dF (aa fun e=>by cases e);obtain⟨F2,_,uw⟩:=eX.set Cx 3 (a:=.v (.slice (some ⟨b',0,none⟩) ((s.os++yN x.ln i).length+1) c')) (v:=.slice (some ⟨b',0,none⟩) ((s.os++yN x.ln i).length+1) c') (.v rfl);have hL:(s.os++yN x.ln i++[(⟨l.b,l.a.p⟩:qz)]).length=(s.os++yN x.ln i).length+1:=by simp[vj]
  refine⟨OA,_,oc,b',c',W4,c3 hKb,fun o=>c3 (hKb.bw (ar.alloc wb o)),fun ty=>hrun ty,eX.frozen Cx 3,⟨_,eX.cell Cx (j:=3) rfl⟩,_,.slice (some ⟨b',0,none⟩) ((s.os++yN x.ln i).length+1) c',F2,uw,?_,?_,fun k h1 h2=>?_⟩
  ·refine .inr ⟨b',c',?_,?_⟩
   ·rw[ab,e,eg (fun e=>by rw[e]at h0;simp at h0),<-fh,hL]
   ·refine aC ?_ (aa fun e=>by cases e);rw[af,e,eg (fun e=>by rw[e]at h0;simp at h0),<-fh,im (l₂:=[_])];rfl
  ·rw[af];rfl
  ·rw[ae _ _ h2,ae _ _ h1];exact hf k h1 h2
end
section
variable{w0 W:World}{μ:Mu}{I:Ky->Option ag}{t fb:Nat}{s:gN}
def wk(t c n:Nat)(pl:List Nat):Ky->Ky
 |(u,.kC k)=>if u=t/\n<=k then(t,.par c (pl.getD (k-n) 0))else(u,.kC k)
 |x=>x
def N5(c n:Nat):FK->Bool
 | .kC k=>decide (n<=k)
 |f=>f.mT c
theorem zV{t n:Nat}{k:Ky}(h:∀m,k≠(t,.kC m)):wk t c n pl k=k:=by
 obtain⟨u,f⟩:=k;unfold wk;split
 ·rename_i u' m e;cases e;rw[eg (fun e=>h m (by rw[e.1]))]
 ·rfl
theorem Gn{t n:Nat}(h:k<n):wk t c n pl (t,.kC k)=(t,.kC k):=by
 unfold wk;have:¬n<=k:=by omega
 simp[this]
theorem Gp{t n:Nat}(h:n<=k):wk t c n pl (t,.kC k)=(t,.par c (pl.getD (k-n) 0)):=by
 unfold wk;simp[h]
def Dg(t c n:Nat)(pl:List Nat)(I:Ky->Option ag):Ky->Option ag:=fun k=>if k.1=t/\N5 c (n+pl.length) k.2=true then none else I (wk t c n pl k)
theorem xF{n:Nat}{k:Ky}{x:ag}(h:Dg t c n pl I k=some x):¬(k.1=t/\N5 c (n+pl.length) k.2=true)/\I (wk t c n pl k)=some x:=by
 unfold Dg at h;split at h
 ·cases h
 ·rename_i h1;exact⟨h1,h⟩
theorem Xu{l:List Nat}(h:l.Nodup){a b:Nat}(ha:a<l.length)(hb:b<l.length)(e:l.getD a 0=l.getD b 0):a=b:=by
 have h1:l[a]?=some (l.getD a 0):=by simp[List.getD,ao ha]
 have h2:l[b]?=some (l.getD b 0):=by simp[List.getD,ao hb]
 rw[<-e]at h2;exact BO h h1 h2
theorem Xv{n:Nat}(hn:pl.Nodup)(hK:az w0 μ I W):az w0 μ (Dg t c n pl I) W:=by
 refine hK.ren (wk t c n pl) (fun k x h=>(xF h).2) fun k l x y hk hl e=>?_;obtain⟨k1,_⟩:=xF hk;obtain⟨l1,_⟩:=xF hl;have WG:∀{k:Ky} {m:Nat},¬(k.1=t/\N5 c (n+pl.length) k.2=true)->wk t c n pl k=(t,.par c m)->∃a,k=(t,.kC a)/\n<=a/\a<n+pl.length/\m=pl.getD (a-n) 0:=fun{k m} h1 h2=>by
  by_cases hk:∃a,k=(t,.kC a)
  ·obtain⟨a,rfl⟩:=hk;by_cases ha:n<=a
   ·rw[Gp ha]at h2;have:=FK.par.inj (OS h2).2;refine⟨a,rfl,ha,?_,this.2.symm⟩;have h1:¬(n+pl.length<=a):=fun g=>h1 ⟨rfl,by show decide _=true;exact oS g⟩;omega
   ·rw[Gn (by omega)]at h2;exact absurd (OS h2).2 (fun e=>by cases e)
  ·rw[zV (fun m e=>hk ⟨m,e⟩)]at h2;subst h2;exact absurd ⟨rfl,by show(c==c)=true;exact AM c⟩ h1
 by_cases hp:∃m,wk t c n pl k=(t,.par c m)
 ·obtain⟨m,hm⟩:=hp;obtain⟨a,rfl,a1,a2,a3⟩:=WG k1 hm;obtain⟨b,rfl,b1,b2,b3⟩:=WG l1 (e▸hm);have:=Xu hn (a:=a-n) (b:=b-n) (by omega) (by omega) (a3▸b3);rw[show a=b by omega]
 ·have A8:∀{k:Ky},¬(∃m,wk t c n pl k=(t,.par c m))->wk t c n pl k=k:=fun{k} h=>by
   by_cases hk:∃a,k=(t,.kC a)
   ·obtain⟨a,rfl⟩:=hk;by_cases ha:n<=a
    ·exact absurd ⟨_,Gp ha⟩ h
    ·exact Gn (by omega)
   ·exact zV fun m e=>hk ⟨m,e⟩
  rw[A8 hp]at e;rw[A8 (fun⟨m,hm⟩=>hp ⟨m,by rw[A8 hp,e];exact hm⟩)]at e;exact e
theorem sD{n:Nat}{k:FK}(h:∀m,k≠ .kC m)(hc:k.mT c=false):Dg t c n pl I (t,k)=I (t,k):=by
 unfold Dg;rw[eg (fun g=>by
  have g2:=g.2;cases k<;>simp_all [N5,FK.mT]),zV (fun m e=>h m (OS e).2)]
theorem Mw{n:Nat}{k:Ky}(h:k.1≠t):Dg t c n pl I k=I k:=by
 unfold Dg;rw[eg (fun g=>h g.1),zV (fun m e=>h (by rw[e]))]
end
section
variable{w0 W:World}{μ:Mu}{I:Ky->Option ag}{t fb:Nat}{s:gN}
theorem Xw{bc:Nat}{x:dH}(hR:ji t I fb s)(hc:s.cl[c]?=some x)(lz:I (t,.cls)=some (aE bc cc 99 7 (s.cl.map dH.row)))(fI:s.cv=.slice (some ⟨bc,0,none⟩) s.cl.length cc)(hL:N4 t w0 μ I fb s (s.os++yN x.ln x.ln.length) W):
  Tg bc c W (fu t w0 μ I fb {s.a with cl:=s.a.cl.set c {x.a with al:=false,ln:=[],ba:=[],wt:=0},os:=s.a.os++pA x.a.ln x.a.ln.length}):=by
 obtain⟨I1,ov,F,hK,hr,dF,hf⟩:=hL;have hI1:I1 (t,.cls)=some (aE bc cc 99 7 (s.cl.map dH.row)):=by rw[hf _ (aa fun e=>by cases e) (aa fun e=>by cases e)];exact lz
 have hcm:c<(s.cl.map dH.row).length:=by rw[ab];exact aV hc
 have hr0:(s.cl.map dH.row)[c]?=some x.row:=get_map hc;have f1:=hK.dN hI1 hcm (j:=0) (by omega);have c1:=hK.aL hI1 hr0 (j:=0) rfl;have bq:=hK.oF hI1 hr0 (j:=0) (by omega) (a:=.v (.bool false)) (v:=.bool false) (.v rfl);obtain⟨W2,Tj⟩:∃W2,W.setCell ⟨bc,c*7+0,none⟩ (.bool false)=W2:=⟨_,rfl⟩;rw[Tj]at bq;have kJ:=af I1 (t,.cls) (some (aE bc cc 99 7 ((s.cl.map dH.row).set c (x.row.set 0 (.v (.bool false))))));have yC:=bS (y:=x.row.set 0 (.v (.bool false))) hr0;have f2:=bq.dN kJ (i:=c) (j:=2) (by rw[ff];exact hcm) (by omega);have c2:=bq.aL kJ yC (j:=2) rfl;have du:=bq.oF kJ yC (j:=2) (by omega) (a:=.v (.slice none 0 0)) (v:=.slice none 0 0) (.v rfl);obtain⟨W3,Zl⟩:∃W3,W2.setCell ⟨bc,c*7+2,none⟩ (.slice none 0 0)=W3:=⟨_,rfl⟩;rw[Zl,aK,bE]at du;have qC:=af I1 (t,.cls) (some (aE bc cc 99 7 ((s.cl.map dH.row).set c ((x.row.set 0 (.v (.bool false))).set 2 (.v (.slice none 0 0))))));have Vq:=bS (y:=(x.row.set 0 (.v (.bool false))).set 2 (.v (.slice none 0 0))) hr0;have f3:=du.dN qC (i:=c) (j:=3) (by rw[ff];exact hcm) (by omega);have c3:=du.aL qC Vq (j:=3) rfl;have eX:=du.oF qC Vq (j:=3) (by omega) (a:=.v (.slice none 0 0)) (v:=.slice none 0 0) (.v rfl);obtain⟨W4,Zm⟩:∃W4,W3.setCell ⟨bc,c*7+3,none⟩ (.slice none 0 0)=W4:=⟨_,rfl⟩;rw[Zm,aK,bE]at eX;have P3:=af I1 (t,.cls) (some (aE bc cc 99 7 ((s.cl.map dH.row).set c (((x.row.set 0 (.v (.bool false))).set 2 (.v (.slice none 0 0))).set 3 (.v (.slice none 0 0))))));have hr4:=bS (y:=((x.row.set 0 (.v (.bool false))).set 2 (.v (.slice none 0 0))).set 3 (.v (.slice none 0 0))) hr0
 have f4:=eX.dN P3 (i:=c) (j:=4) (by rw[ff];exact hcm) (by omega);have c4:=eX.aL P3 hr4 (j:=4) rfl;have uw:=eX.oF P3 hr4 (j:=4) (by omega) (a:=Q' 0) (v:=.int .i64 0) (.v rfl);rw[aK,bE]at uw;have hx':(((x.row.set 0 (.v (.bool false))).set 2 (.v (.slice none 0 0))).set 3 (.v (.slice none 0 0))).set 4 (Q' 0)=dH.row {x with al:=false,lv:=.slice none 0 0,ln:=[],bv:=.slice none 0 0,ba:=[],wt:=0}:=rfl;rw[hx',<-aF]at uw;obtain⟨J,hJ⟩:∃J,J=put I1 (t,.cls) (some (aE bc cc 99 7 ((s.cl.set c {x with al:=false,lv:=.slice none 0 0,ln:=[],bv:=.slice none 0 0,ba:=[],wt:=0}).map dH.row))):=⟨_,rfl⟩;rw[<-hJ]at uw;have Tx:=Xv (t:=t) (c:=c) (n:=s.os.length) (N2 x.ln x.ln.length) uw;have Xj:∀k,k≠ .cls->k≠ .lO->k≠ .cM->J (t,k)=I (t,k):=fun k h1 h2 h3=>by rw[hJ,ae _ _ (aa h1)];exact hf _ (aa h2) (aa h3)
 have kD:=hR.cl c x hc;refine⟨W2,W3,W4,f1,⟨_,c1⟩,Tj,f2,⟨_,c2⟩,Zl,f3,⟨_,c3⟩,Zm,f4,⟨_,c4⟩,μ,_,{s with cl:=s.cl.set c {x with al:=false,lv:=.slice none 0 0,ln:=[],bv:=.slice none 0 0,ba:=[],wt:=0},ov:=ov,os:=s.os++yN x.ln x.ln.length},ak.refl _,Tx,⟨?_,?_,fun j n hn=>?_,?_,fun d y hy=>?_,?_,fun k o ho=>?_⟩,?_,fun k hk=>?_⟩
 ·exact⟨F,by rw[sD (fun m e=>by cases e) rfl,hJ,ae _ _ (aa fun e=>by cases e)];exact dF⟩
 ·exact hR.gO.same (by rw[sD (fun m e=>by cases e) rfl];exact Xj _ (fun e=>by cases e) (fun e=>by cases e) fun e=>by cases e)
 ·rw[sD (fun m e=>by cases e) rfl,Xj _ (fun e=>by cases e) (fun e=>by cases e) fun e=>by cases e];exact hR.dG j n hn
 ·refine .inr ⟨bc,cc,?_,?_⟩
  ·show s.cv=Value.slice _ ((s.cl.set c _).map dH.row).length cc;rw[ab,ff];exact fI
  ·rw[sD (fun m e=>by cases e) rfl,hJ,af]
 ·rcases bQ hy with⟨rfl,rfl⟩|⟨ne,hy⟩
  ·exact⟨.inl ⟨rfl,rfl⟩,.inl ⟨rfl,rfl⟩,fun _=>rfl,fun i l hl=>by simp at hl,fun i l hl=>by simp at hl⟩
  ·exact(hR.cl d y hy).of fun k hk=>by
    rw[sD (fun m e=>by subst e;simp[FK.mT]at hk) (S6 ne hk)];exact Xj k (fun e=>by subst e;simp[FK.mT]at hk) (fun e=>by subst e;simp[FK.mT]at hk) fun e=>by subst e;simp[FK.mT]at hk
 ·refine(hr.put (aa (a:=.lO) (b:=.cls) fun e=>by cases e) (x:=some (aE bc cc 99 7 ((s.cl.set c {x with al:=false,lv:=.slice none 0 0,ln:=[],bv:=.slice none 0 0,ba:=[],wt:=0}).map dH.row)))).same ?_;rw[sD (fun m e=>by cases e) rfl,hJ]
 ·have ho:(s.os++yN x.ln x.ln.length)[k]?=some o:=ho;have hk:=aV ho;obtain⟨q1,q2⟩:=zU x.ln x.ln.length;rw[ec,q1]at hk;have Np:Dg t c s.os.length (ug x.ln x.ln.length) J (t,.kC k)=J (wk t c s.os.length (ug x.ln x.ln.length) (t,.kC k)):=by
   unfold Dg;rw[eg (fun g=>by
    have g2:=g.2;have:s.os.length+(ug x.ln x.ln.length).length<=k:=tn g2;omega)]
  rw[Np];by_cases hlo:k<s.os.length
  ·rw[fj hlo]at ho;rw[Gn hlo,Xj _ (fun e=>by cases e) (fun e=>by cases e) fun e=>by cases e];exact hR.os k o ho
  ·rw[en (by omega)]at ho;obtain⟨i,l,p1,p2,rfl⟩:=N3 x.ln _ _ _ ho;rw[Gp (by omega),show(ug x.ln x.ln.length).getD (k-s.os.length) 0=i by rw[List.getD,p1];rfl,Xj _ (fun e=>by cases e) (fun e=>by cases e) fun e=>by cases e];exact kD.ps i l p2
 ·unfold gN.a dH.a;simp only[aF,im,Zq,List.map_nil,ab]
 ·show Dg t c s.os.length (ug x.ln x.ln.length) J k=I k;rw[Mw hk,hJ,ae _ _ (fun e=>hk (by rw[e]))];exact hf k (fun e=>hk (by rw[e])) fun e=>hk (by rw[e])
theorem abd(hK:az w0 μ I W)(hR:ji t I fb s){x:dH}(hc:s.cl[c]?=some x)(hal:x.al=true)(hlen:s.os.length+x.ln.length<=90000):
  Calls U' 31 #[ptr fb,.int .i64 c] W fun e w'=>e=.returned (.bool true)/\fu t w0 μ I fb {s.a with cl:=s.a.cl.set c {x.a with al:=false,ln:=[],ba:=[],wt:=0},os:=s.a.os++pA x.a.ln x.a.ln.length} w':=by
 obtain⟨bc,cc,fI,lz,ng⟩:=hR.jy hK hc;have kD:=hR.cl c x hc;obtain⟨LA,lc,hlv,_⟩:=kD.ls.val;rw[ab]at hlv;have h2:=hR.c2 hK;rw[fI]at h2;have wi:=ng.al;rw[hal]at wi;have Ub:=ng.lv;rw[hlv]at Ub;obtain⟨F,dF⟩:=hR.cM;refine Th fb bc c s.cl.length x.ln.length lc LA W (fun i W=>N4 t w0 μ I fb s (s.os++yN x.ln i) W) _ (aV hc) (by omega) h2 wi Ub ?_ ⟨fun i W' hi hJ=>?_,fun W' hJ=>Xw hR hc lz fI hJ⟩
 ·refine⟨I,s.ov,F,hK,?_,dF,fun _ _ _=>rfl⟩;show Row I (t,.lO) s.ov 101 1 ((s.os++[]).map qz.row);rw[ir];exact hR.YX
 ·exact Xt kD (ao hi) hlv hlen hJ
end
section
variable{w0 W:World}{μ:Mu}{I:Ky->Option ag}{t fb:Nat}{a:mV}
theorem fu.bw{W':World}(h:fu t w0 μ I fb a W)(k:ar [] W W'):fu t w0 μ I fb a W':=by
 obtain⟨μ',I',s',hm,hK,hR,ha,hf⟩:=h;exact⟨μ',I',s',hm,hK.bw k,hR,ha,hf⟩
theorem bF{β:Type}{f:α->β}{n:Nat}{y:β}(h:(l.map f)[n]?=some y):∃x,l[n]?=some x/\f x=y:=by
 rw[et]at h;cases e:l[n]? with
 |none=>rw[e]at h;cases h
 |some x=>rw[e]at h;exact⟨x,rfl,ss h⟩
theorem Ul(h:fu t w0 μ I fb a W)(hc:a.cl[c]?=some x)(hal:x.al=true)(tT:x.ba=[])(hd:DR μ (.aq n 9 (vs.map Vb.row)) v)(hm:1<=vs.length/\vs.length<=1024)
  (hg:∀u∈vs,u.Wf/\u.eT a.nd.length a.lines=0) (De:1<=a.nd.length/\a.nd.length<=5) (wH:x.ln.length=a.nd.length) (hq:∀l∈x.ln,l.p.q.length+vs.length<=1024/\l.pl.length+vs.length<=1024):
  Calls U' 20 #[ptr fb,.int .i64 c,v] W fun e w'=>e=.returned (.int .i64 0)/\fu t w0 μ I fb {a with cl:=a.cl.set c (x.post a.lines vs)} w':=by
 obtain⟨μ',I',s',hm',hK,hR,rfl,hf⟩:=h;obtain⟨xc,gp,rfl⟩:=bF hc;have e1:s'.a.nd.length=s'.nd.length:=ab ..;have e2:xc.a.ln.length=xc.ln.length:=ab ..;rw[e1]at hg De wH;rw[e2]at wH;refine(Xs hK hR gp hal tT (hd.mono hm') hm hg De wH fun l hl=>hq l.a (ZD hl)).mono fun e w' he=>⟨he.1,he.2.from hm' hf⟩
theorem adZ(h:fu t w0 μ I fb a W)(hc:a.cl[c]?=some x)(hal:x.al=true)(tT:x.ba=[])(hd:DR μ (.aq n 9 (vs.map Vb.row)) v)(hm:1<=vs.length/\vs.length<=1024)
  (De:1<=a.nd.length/\a.nd.length<=5)   (hk:vs[k]?=some uk) (hg:∀i u,i<k->vs[i]?=some u->u.eT a.nd.length a.lines=0) (hb:uk.eT a.nd.length a.lines≠0):
  Calls U' 20 #[ptr fb,.int .i64 c,v] W fun e w'=>e=.returned (.int .i64 (uk.eT a.nd.length a.lines))/\fu t w0 μ I fb a w':=by
 obtain⟨μ',I',s',hm',hK,hR,rfl,hf⟩:=h;obtain⟨xc,gp,rfl⟩:=bF hc;have e1:s'.a.nd.length=s'.nd.length:=ab ..;rw[e1]at hg De hb⊢;exact(Uk hK hR gp hal tT (hd.mono hm') hm De hk hg hb).mono fun e w' he=>⟨he.1,μ',I',s',hm',he.2,hR,rfl,hf⟩
theorem Mx(h:fu t w0 μ I fb a W){nd:Nat}{l:th}{n:qm}(hc:a.cl[c]?=some x)(hl:x.ln[nd]?=some l)(hn:a.nd[nd]?=some n)(hq:l.p.q≠[])(hp:l.p.Ok)(Ei:n.ws.length<=100000)
  (hpl:(l.p.step n).2.1=true->∃(ix:Nat) (rest:List Int),l.pl=(ix:Int)::rest/\ix<x.ba.length/\rest.length<=100000):
  Calls U' 22 #[ptr fb,.agg #[.int .i64 (-1),.int .i64 c,.int .i64 nd]] W fun e w'=>e=.returned (.bool true)/\
   fu t w0 μ I fb {a with nd:=a.nd.set nd (l.p.step n).2.2.2,cl:=a.cl.set c (x.lg nd (l.p.step n) l.pl)} w':=by
 obtain⟨μ',I',s',hm',hK,hR,rfl,hf⟩:=h;obtain⟨xc,gp,rfl⟩:=bF hc;obtain⟨lc,hlc,rfl⟩:=bF hl;obtain⟨nc,hnc,rfl⟩:=bF hn;exact(Xm hK hR gp hlc hnc hq hp Ei hpl).mono fun e w' he=>⟨he.1,he.2.from hm' hf⟩
theorem Xx(h:fu t w0 μ I fb a W){nd:Nat}{n:qm}(ho:a.os[i]?=some p)(hnd:p.node=nd)(hn:a.nd[nd]?=some n)(hp:p.Ok)(Ei:n.ws.length<=100000)(nH:a.os.length<=100000)(c m:Int):
  Calls U' 22 #[ptr fb,.agg #[.int .i64 i,.int .i64 c,.int .i64 m]] W fun e w'=>e=.returned (.bool true)/\fu t w0 μ I fb (a.gF i nd (p.step n)) w':=by
 obtain⟨μ',I',s',hm',hK,hR,rfl,hf⟩:=h;obtain⟨oc,hoc,rfl⟩:=bF ho;obtain⟨nc,hnc,rfl⟩:=bF hn;have e1:s'.a.os.length=s'.os.length:=ab ..;rw[e1]at nH;exact(aa4 hK hR hoc hnd hnc hp Ei nH c m).mono fun e w' he=>⟨he.1,he.2.from hm' hf⟩
theorem abe(h:fu t w0 μ I fb a W)(hi:i<a.os.length)(nH:a.os.length<=100000):
  Calls U' 37 #[ptr fb,.int .i64 i] W fun e w'=>e=.returned (.bool true)/\fu t w0 μ I fb {a with os:=a.os.eraseIdx i} w':=by
 obtain⟨μ',I',s',hm',hK,hR,rfl,hf⟩:=h;have e1:s'.a.os.length=s'.os.length:=ab ..;rw[e1]at hi nH;exact(NW hK hR hi nH).mono fun e w' he=>⟨he.1,he.2.from hm' hf⟩
theorem ad0(h:fu t w0 μ I fb a W)(hc:a.cl[c]?=some x)(hal:x.al=true)(hlen:a.os.length+x.ln.length<=90000):
  Calls U' 31 #[ptr fb,.int .i64 c] W fun e w'=>e=.returned (.bool true)/\fu t w0 μ I fb {a with cl:=a.cl.set c {x with al:=false,ln:=[],ba:=[],wt:=0},os:=a.os++pA x.ln x.ln.length} w':=by
 obtain⟨μ',I',s',hm',hK,hR,rfl,hf⟩:=h;obtain⟨xc,gp,rfl⟩:=bF hc;have e1:s'.a.os.length=s'.os.length:=ab ..;have e2:xc.a.ln.length=xc.ln.length:=ab ..;rw[e1,e2]at hlen;exact(abd hK hR gp hal hlen).mono fun e w' he=>⟨he.1,he.2.from hm' hf⟩
theorem Qt(h:fu t w0 μ I fb a W)(hc:a.cl[c]?=some x)(hal:x.al=false)(WQ:c<6)(sO:0<=inc/\inc<=59)(De:a.nd.length<=5):
  Calls U' 33 #[ptr fb,.int .i64 c,.int .i64 inc] W fun e w'=>e=.returned (.int .i64 0)/\fu t w0 μ I fb {a with cl:=a.cl.set c {x with al:=true,inc:=inc,ln:=mR c inc a.nd.length}} w':=by
 obtain⟨μ',I',s',hm',hK,hR,rfl,hf⟩:=h;obtain⟨xc,gp,rfl⟩:=bF hc;have e1:s'.a.nd.length=s'.nd.length:=ab ..;rw[e1]at De⊢;exact(Mq hK hR gp hal WQ sO De).mono fun e w' he=>⟨he.1,he.2.from hm' hf⟩
theorem Qu(h:fu t w0 μ I fb a W)(hcl:0<a.cl.length)(hb:a.cl.length<=100/\(∀x∈a.cl,x.ln.length<=100)/\a.os.length<=50000):
  Calls U' 21 #[ptr fb] W fun e w'=> ∃(b:Nat) (A:Option Addr) (c:Nat),e=.returned (.slice A a.oL.length c)/\(0<a.oL.length->A=some ⟨b,0,none⟩)/\
   (∀k x,a.oL[k]?=some x->w'.cell? ⟨b,k*3,none⟩=some (.int .i64 x.1)/\w'.cell? ⟨b,k*3+1,none⟩=some (.int .i64 x.2.1)/\w'.cell? ⟨b,k*3+2,none⟩=some (.int .i64 x.2.2))/\fu t w0 μ I fb a w':=by
 obtain⟨μ',I',s',hm',hK,hR,rfl,hf⟩:=h;have e1:s'.a.os.length=s'.os.length:=ab ..;have e2:s'.a.cl.length=s'.cl.length:=ab ..;rw[e1,e2]at hb;rw[e2]at hcl;refine(Cy hK hR hcl ⟨hb.1,fun x hx=>?_,hb.2.2⟩).mono fun e w' he=>?_
 ·have:=hb.2.1 x.a (ZD hx);rwa [show x.a.ln.length=x.ln.length from ab ..]at this
 ·obtain⟨v,rfl,I2,bq,hrow,kJ⟩:=he;have hst:fu t w0 μ I fb s'.a w':=⟨μ',I2,s',hm',bq,hR.of fun k hk=>kJ _ (aa (hk 9)),rfl,fun k hk=>(kJ k fun e=>hk (by rw[e])).trans (hf k hk)⟩;rcases hrow with⟨rfl,h0⟩|⟨b,c,rfl,hI⟩
  ·have h0:s'.a.oL=[]:=by
    cases e:s'.a.oL with
    |nil=>rfl
    |cons x r=>rw[e]at h0;cases h0
   refine⟨0,none,0,by rw[h0];rfl,fun h=>by rw[h0]at h;simp at h,fun k x hx=>by rw[h0]at hx;simp at hx,hst⟩
  ·refine⟨b,some ⟨b,0,none⟩,c,by rw[ab],fun _=>rfl,fun k x hx=>⟨bq.aL hI (get_map hx) (j:=0) rfl,bq.aL hI (get_map hx) rfl,bq.aL hI (get_map hx) rfl⟩,hst⟩
end
section
structure Ln(m:Nat)(c i:Int)(l:th):Prop where
 inv:l.p.Inv
 node:l.p.node=i
 c:l.p.c=c
 pl:l.pl.length=l.p.q.length
 ix:∀j∈l.pl,∃k:Nat,j=(k:Int)/\k<m
structure Bt(m:Nat)(c:Int)(B:Nat)(l0 l1:th)(x:mU):Prop where
 al:x.al=true
 ln:x.ln=[l0,l1]
 h0:Ln m c 0 l0
 h1:Ln m c 1 l1
 ba:x.ba.length=m
 wt:x.wt=((l0.p.q.length+l1.p.q.length:Nat):Int)
 left:l0.p.left+l1.p.left<=B
end
section
structure rN(lines:Nat)(p:Pr)(q:eI):Prop where
 c:p.c=(q.c:Int)
 inc:p.inc=q.inc
 nd:p.node=(q.nd:Int)
 vs:p.q=q.q.map jr.v
 hd:∀x r,q.q=x::r->p.ex=(x.ex:Int)/\p.w=x.w/\∀y∈r,y.ex=0/\y.w=[]
 inv:p.Inv
 good:∀y∈q.q,y.v.Good (lines:Nat)
theorem rN.nil{lines:Nat}{q:eI}(h:rN lines p q):p.q=[]↔q.q=[]:=by
 rw[h.vs];exact List.map_eq_nil_iff
theorem rN.ok{lines:Nat}{q:eI}(h:rN lines p q)(hc:q.c<6)(hw:ws.length=lines*8)(hl:4<=lines/\lines<=1000):q.Ok ws:=by
 have hlen:p.q.length=q.q.length:=by rw[h.vs,ab]
 have KI:=h.inv.ql;refine⟨hc,by rw[<-h.inc];exact h.inv.inc,by omega,by omega,fun x r hq=>?_⟩;obtain⟨g1,g2,_⟩:=h.hd x r hq;have hv:p.q=x.v::r.map jr.v:=by rw[h.vs,hq];rfl
 have hx:=h.inv.ex _ _ hv;have hww:=h.inv.w;have Q5:=Uh (h.inv.vs x.v (by rw[hv];simp)).2.1;have hge:=h.good x (by rw[hq];simp);rw[g1,kb]at hx hww;rw[g2]at hww;refine⟨?_,hx,by omega⟩;rw[show ws.length/8=lines by omega];exact hge
theorem rN.step{lines:Nat}{p:Pr}{q:eI}(h:rN lines p q)(n:qm){x:jr}{r:List jr}(hq:q.q=x::r):
  (p.step n).1.code=(q.step n).d.code/\(p.step n).1.w=(q.step n).d.w/\(p.step n).2.1=(q.step n).done/\(p.step n).2.2.2=(q.step n).n/\rN lines (p.step n).2.2.1 (q.step n).p/\(q.step n).ok=true/\
   ((q.step n).done=true->(q.step n).sl=(x.sl:Int)/\(q.step n).p.q=r)/\((q.step n).done=false->(q.step n).p.q.map jr.sl=q.q.map jr.sl)/\(q.step n).p.c=q.c/\(q.step n).p.nd=q.nd/\(q.step n).p.inc=q.inc/\(p.step n).1.w.length<=100000:=by
 obtain⟨g1,g2,g3⟩:=h.hd x r hq;have hv:p.q=x.v::r.map jr.v:=by rw[h.vs,hq];rfl
 have hne:p.q≠[]:=by rw[hv];exact It _ _
 obtain⟨hI,_⟩:=h.inv.step hne n;have ad1:∀y r',r=y::r'->(0:Int)=(y.ex:Int)/\([]:List Int)=y.w/\∀z∈r',z.ex=0/\z.w=[]:=fun y r' e=>by
  obtain⟨e1,e2⟩:=g3 y (by rw[e];simp);exact⟨by rw[e1];rfl,e2.symm,fun z hz=>g3 z (by rw[e];exact nm _ hz)⟩
 have hgr:∀y∈r,y.v.Good (lines:Nat):=fun y hy=>h.good y (by rw[hq];exact nm _ hy);have hwl:p.w.length<=90000:=by
  have h1:=h.inv.w;have h2:=h.inv.ex _ _ hv;have h3:=Uh (h.inv.vs x.v (by rw[hv];simp)).2.1;omega
 by_cases hr:lN (q.c:Int) q.inc x.v n.ws n.dn=0
 ·have hr':lN p.c p.inc x.v n.ws n.dn=0:=by rw[h.c,h.inc];exact hr
  have hxn:p.ex.toNat=x.ex:=by rw[g1,kb]
  have xW:(eD x.v.at_ x.v.cnt).getD p.ex.toNat (0,0)=x.pc:=by rw[hxn];rfl
  by_cases hl:x.ex+1<(eD x.v.at_ x.v.cnt).length
  ·have e1:p.step n=(⟨0,true,[]⟩,false,{p with ex:=p.ex+1,wn:=(x.v.out x.pc n.ws).isEmpty&&p.wn,w:=p.w++x.v.out x.pc n.ws},⟨x.v.mem x.pc n.ws,n.dn⟩):=by
    unfold Pr.step;rw[hv];simp only[hr',M1,ya,tm];rw[xW,ee (by rw[hxn];exact hl)]
   have e2:q.step n=⟨⟨0,true,[]⟩,-1,false,true,{q with q:={x with ex:=x.ex+1,w:=x.w++x.v.out x.pc n.ws}::r},⟨x.v.mem x.pc n.ws,n.dn⟩⟩:=by
    unfold eI.step;rw[hq];simp only[hr,M1,ya,tm,ee hl]
   rw[e1]at hI;rw[e1,e2];refine⟨rfl,rfl,rfl,rfl,⟨h.c,h.inc,h.nd,hv,fun y r' e=>?_,hI,fun y hy=>?_⟩,rfl,(fun e=>by cases e),fun _=>by rw[hq];rfl,rfl,rfl,rfl,by simp⟩
   ·cases e;refine⟨?_,?_,g3⟩
    ·show p.ex+1=((x.ex+1:Nat):Int);omega
    ·show p.w++_=x.w++_;rw[g2]
   ·rcases ft.1 hy with rfl|hy
    ·exact h.good x (by rw[hq];simp)
    ·exact hgr y hy
  ·have e1:p.step n=(⟨0,(x.v.out x.pc n.ws).isEmpty&&p.wn,p.w++x.v.out x.pc n.ws⟩,true,p.pop,⟨x.v.mem x.pc n.ws,n.dn⟩):=by
    unfold Pr.step;rw[hv];simp only[hr',M1,ya,tm];rw[xW,eg (by rw[hxn];exact hl)]
   have e2:q.step n=⟨⟨0,(x.w++x.v.out x.pc n.ws).isEmpty,x.w++x.v.out x.pc n.ws⟩,(x.sl:Int),true,true,{q with q:=r},⟨x.v.mem x.pc n.ws,n.dn⟩⟩:=by
    unfold eI.step;rw[hq];simp only[hr,M1,ya,tm,eg hl]
   rw[e1]at hI;rw[e1,e2];have hol:(x.v.out x.pc n.ws).length<=9:=by
    obtain⟨_,hg⟩:=sx hr;have hlt:=h.inv.ex _ _ hv;have hx:x.pc∈eD x.v.at_ x.v.cnt:=by rw[<-xW];exact rA _ _ _ hlt
    have:=(hg.fits hx).le;exact iS Vb.zO (by omega)
   refine⟨rfl,by rw[g2],rfl,rfl,⟨h.c,h.inc,h.nd,by show p.q.tail=_;rw[hv];rfl,fun y r' e=>?_,hI,hgr⟩,rfl,fun _=>⟨rfl,rfl⟩,(fun e=>by cases e),rfl,rfl,rfl,by rw[ec];omega⟩;exact ad1 y r' e
 ·have hr':lN p.c p.inc x.v n.ws n.dn≠0:=by rw[h.c,h.inc];exact hr
  have e1:p.step n=(⟨lN p.c p.inc x.v n.ws n.dn,true,[]⟩,true,p.pop,n):=by
   unfold Pr.step;rw[hv];simp only[M1,hr',GO,xt]
  have e2:q.step n=⟨⟨lN (q.c:Int) q.inc x.v n.ws n.dn,true,[]⟩,(x.sl:Int),true,true,{q with q:=r},n⟩:=by
   unfold eI.step;rw[hq];simp only[M1,hr,GO,xt]
  rw[e1]at hI;rw[e1,e2];refine⟨by rw[h.c,h.inc],rfl,rfl,rfl,⟨h.c,h.inc,h.nd,by show p.q.tail=_;rw[hv];rfl,fun y r' e=>ad1 y r' e,hI,hgr⟩,rfl,fun _=>⟨rfl,rfl⟩,(fun e=>by cases e),rfl,rfl,rfl,by simp⟩
theorem rN.new(lines c i:Nat)(hc:c<6)(sO:0<=inc/\inc<=59):rN lines (nI c inc (i:Int)) ⟨c,inc,i,[]⟩:=
 ⟨rfl,rfl,rfl,rfl,fun x r e=>(by cases e),⟨⟨by show(0:Int)<=(c:Int);omega,by show(c:Int)<=1000;omega⟩,⟨sO.1,by show inc<=1000;omega⟩,fun e=>absurd rfl e,by show 0<=1024;omega,Int.le_refl _,nt _,fun v hv=>(by cases hv),fun v r e=>(by cases e),fun _=>rfl⟩,fun y hy=>(by cases hy)⟩
theorem rN.post{lines:Nat}{p:Pr}{q:eI}(h:rN lines p q){v:Vb}(hw:v.Wf)(hg:v.Good (lines:Nat))(hn:v.node=(q.nd:Int))(hl:q.q.length<1000)(i:Nat):rN lines (p.post v lines) {q with q:=q.q++[⟨v,0,[],i⟩]}:=by
 have hlen:p.q.length=q.q.length:=by rw[h.vs,ab]
 have hpe:p.BV v lines=0:=by
  unfold Pr.BV;rw[eg (B8 (jh.2 hg)),eg (by rw[hn,h.nd];exact B8 rfl),eg (by omega)]
 have e:p.post v lines={p with qn:=false,q:=p.q++[v]}:=by unfold Pr.post;rw[ee hpe]
 rw[e];have hv1:1<=v.cnt/\v.cnt<=1024/\v.Wf:=⟨hg.pos,hg.ins.2.2.2.2.2.2.1,hw⟩;refine⟨h.c,h.inc,h.nd,?_,fun x r e=>?_,⟨h.inv.c,h.inv.inc,fun _=>rfl,?_,h.inv.ex0,h.inv.w,fun u hu=>?_,fun u r e=>?_,fun e=>?_⟩,fun y hy=>?_⟩
 ·show p.q++[v]=(q.q++[_]).map jr.v;rw[h.vs,im];rfl
 ·have e:q.q++[⟨v,0,[],i⟩]=x::r:=e;cases hq:q.q with
  |nil=>
   rw[hq]at e;cases e;have hp:p.q=[]:=h.nil.2 hq;have hz:=h.inv.z hp;have hw0:=h.inv.w;refine⟨hz,?_,fun y hy=>by cases hy⟩;rw[hz]at hw0;exact dy (by simpa using hw0)
  |cons y r'=>
   rw[hq]at e;cases e;obtain⟨g1,g2,g3⟩:=h.hd x r' hq;refine⟨g1,g2,fun z hz=>?_⟩;rcases gw.1 hz with hz|hz
   ·exact g3 z hz
   ·rw[BT.1 hz];exact⟨rfl,rfl⟩
 ·show(p.q++[v]).length<=1024;rw[ec,List.length_singleton];omega
 ·rcases gw.1 hu with hu|hu
  ·exact h.inv.vs u hu
  ·rw[BT.1 hu];exact hv1
 ·have e:p.q++[v]=u::r:=e;cases hq:p.q with
  |nil=>
   rw[hq]at e;cases e;show p.ex.toNat<_;rw[h.inv.z hq];exact Ug hg.pos
  |cons y r'=>
   rw[hq]at e;cases e;exact h.inv.ex _ _ hq
 ·have e:p.q++[v]=[]:=e;simp at e
 ·rcases gw.1 hy with hy|hy
  ·exact h.good y hy
  ·rw[BT.1 hy];exact hg
end
section
variable{w0 W:World}{μ:Mu}{I:Ky->Option ag}{t fb:Nat}{a:mV}
theorem fu.at(h:fu t w0 μ I fb a W){c:Nat}{x:mU}(hc:a.cl[c]?=some x):∃(bc cc:Nat) (lv bv:Value),c<a.cl.length/\W.cell? ⟨fb,2,none⟩=some (.slice (some ⟨bc,0,none⟩) a.cl.length cc)/\W.cell? ⟨bc,c*7,none⟩=some (.bool x.al)/\W.cell? ⟨bc,c*7+1,none⟩=some (.int .i64 x.inc)/\
  (x.ba=[]->W.cell? ⟨bc,c*7+3,none⟩=some (.slice none 0 0))/\W.cell? ⟨bc,c*7+4,none⟩=some (.int .i64 x.wt)/\W.cell? ⟨bc,c*7+5,none⟩=some (.int .i64 x.tr)/\W.cell? ⟨bc,c*7+6,none⟩=some (.int .i64 x.po):=by
 obtain⟨μ',I',s',hm',hK,hR,rfl,hf⟩:=h;obtain⟨xc,gp,rfl⟩:=bF hc;obtain⟨bc,cc,fI,lz,ng⟩:=hR.jy hK gp;have h2:=hR.c2 hK;rw[fI]at h2;have e2:s'.a.cl.length=s'.cl.length:=ab ..;rw[e2];refine⟨bc,cc,xc.lv,xc.bv,aV gp,h2,ng.al,ng.inc,fun hb=>?_,ng.wt,ng.tr,ng.po⟩;rw[<-(hR.cl c xc gp).bn hb];exact ng.bv
theorem N6(h:fu t w0 μ I fb a W)(hc:a.cl[c]?=some x):Calls U' 47 #[ptr fb,.int .i64 c] W fun e w'=>e=.returned (.bool x.al)/\w'=W:=by
 obtain⟨bc,cc,lv,bv,h0,h2,h3,h4,h5,h6,h7,h8⟩:=h.at hc;exact B6 fb bc c a.cl.length x.al W h0 h2 h3
theorem ad2(h:fu t w0 μ I fb a W)(hc:a.cl[c]?=some x):Calls U' 49 #[ptr fb,.int .i64 c] W fun e w'=>e=.returned (.int .i64 x.inc)/\w'=W:=by
 obtain⟨bc,cc,lv,bv,h0,h2,h3,h4,h5,h6,h7,h8⟩:=h.at hc;exact Ui fb bc c a.cl.length x.inc W h0 h2 h4
theorem Qv(h:fu t w0 μ I fb a W)(hc:a.cl[c]?=some x):Calls U' 51 #[ptr fb,.int .i64 c] W fun e w'=>e=.returned (.int .i64 x.wt)/\w'=W:=by
 obtain⟨bc,cc,lv,bv,h0,h2,h3,h4,h5,h6,h7,h8⟩:=h.at hc;exact Gl fb bc c a.cl.length x.wt W h0 h2 h6
theorem Xy(h:fu t w0 μ I fb a W)(hc:a.cl[c]?=some x):Calls U' 53 #[ptr fb,.int .i64 c] W fun e w'=>e=.returned (.int .i64 x.tr)/\w'=W:=by
 obtain⟨bc,cc,lv,bv,h0,h2,h3,h4,h5,h6,h7,h8⟩:=h.at hc;exact Mv fb bc c a.cl.length x.tr W h0 h2 h7
theorem Um(h:fu t w0 μ I fb a W)(hc:a.cl[c]?=some x):Calls U' 54 #[ptr fb,.int .i64 c] W fun e w'=>e=.returned (.int .i64 x.po)/\w'=W:=by
 obtain⟨bc,cc,lv,bv,h0,h2,h3,h4,h5,h6,h7,h8⟩:=h.at hc;exact JY fb bc c a.cl.length x.po W h0 h2 h8
theorem Xz(h:fu t w0 μ I fb a W)(hc:a.cl[c]?=some x)(hal:x.al=true)(hb:x.ba=[]):Calls U' 23 #[ptr fb,.int .i64 c] W fun e w'=>e=.returned (.tuple #[.slice none 0 0,.bool false])/\w'=W:=by
 obtain⟨bc,cc,lv,bv,h0,h2,h3,h4,h5,h6,h7,h8⟩:=h.at hc;rw[hal]at h3;exact take_nil fb bc c a.cl.length W h0 h2 h3 (h5 hb)
theorem My(h:fu t w0 μ I fb a W)(hc:a.cl[c]?=some x)(hal:x.al=false)(A:Option Addr)(m vc:Nat):Calls U' 20 #[ptr fb,.int .i64 c,.slice A m vc] W fun e w'=>e=.returned (.int .i64 1)/\w'=W:=by
 obtain⟨bc,cc,lv,bv,h0,h2,h3,h4,h5,h6,h7,h8⟩:=h.at hc;rw[hal]at h3;exact Qq fb bc c a.cl.length A m vc W h0 h2 h3
theorem Qw(h:fu t w0 μ I fb a W)(hc:a.cl[c]?=some x)(hal:x.al=false):Calls U' 31 #[ptr fb,.int .i64 c] W fun e w'=>e=.returned (.bool false)/\w'=W:=by
 have:=N6 h hc;rw[hal]at this;exact NM fb c W this
end
section
attribute [local go_sem] Oper.semAt_some
section
set_option maxHeartbeats 2000000 in
set_option maxRecDepth 1000000 in
theorem Un(b o wb nw cw:Nat)(x:Int)(W W1 W2:World)(h1:W.cell? ⟨b,o,none⟩=some (.slice (some ⟨wb,0,none⟩) nw cw))(hi:1<nw)(h2:W.cell? ⟨wb,1,none⟩=some (.int .u64 x))(h3:W.cell? ⟨b,o+1,none⟩=some (.bool false))(hx:x<31)
  (hs1:St W b (o+1) (.bool true) W1) (g1:W1.cell? ⟨b,o,none⟩=some (.slice (some ⟨wb,0,none⟩) nw cw)) (g2:W1.cell? ⟨wb,1,none⟩=some (.int .u64 x)) (qL:St W1 wb 1 (.int .u64 (IntKind.u64.wrap (x+1))) W2):
  Calls U' 41 #[.pointer (some ⟨b,o,none⟩)] W fun e w'=>e=.returned (.bool true)/\w'=W2:=by
 have mixed:U'.follows .mixedOrders=true:=by kernel_rfl
 have hb:=Zi b o wb nw cw x W h1 hi h2;obtain⟨f0,⟨y0,f1⟩,f2⟩:=hs1;obtain⟨f3,⟨y3,f4⟩,f5⟩:=qL;have hI:(1:Int)<(nw:Int):=by omega
 have hxN:¬(31<=x):=by omega
 go_enter Tryz.func41,Tryz.ntmps41
 go_wp2_with (go_at_call 85;refine da hb ?_;clear hb;rintro e w' ⟨rfl,hw⟩;rw[hw];clear hw)
 go_ret
 exact⟨rfl,rfl⟩
end
section
set_option maxRecDepth 100000
variable{w0 W:World}{μ:Mu}{I J:Ky->Option ag}{t fb:Nat}{s:gm}
def sN.wait(x:sN):Nat:=if x.on=true then oI x.hv x.hv.length else 0
theorem Cz(hK:az w0 μ I W)(hR:eM t I fb s){x:lP}(hx:s.cl[c]?=some x)(hh:x.a.on=true->x.a.hv≠[])(hl:x.a.hv.length<=100000):
  Calls U' 52 #[ptr fb,.int .i64 (c:Int)] W fun e w'=>e=.returned (.int .i64 (x.a.wait:Nat))/\w'=W:=by
 obtain⟨cb,cc,fI,lz⟩:=Row.at hR.cls hx;have h2:=hR.c2 hK;rw[fI]at h2;have hat:=xx hK lz hx;unfold sN.wait;cases nH:x.a.on with
 |false=>
  have h3:=hat.on;rw[nH]at h3;rw[eg (by decide)];grind [P5,aV]
 |true=>
  have h3:=hat.on;rw[nH]at h3;rw[ee rfl];obtain⟨hb,hc,hhv,hIh⟩:=wh (hR.Dx c x hx) (Fi.2 (hh nH));have h4:=hat.hv;rw[hhv]at h4;refine TK fb cb c s.cl.length cc hb 0 hc x.a.hv W h2 (aV hx) h3 h4 hl fun i b hb'=>?_;have:=hK.aL hIh (get_map hb') (j:=0) rfl;grind
theorem Uo(hK:az w0 μ I W)(hR:eM t I fb s)(hD:wz μ s){x:lP}(hx:s.cl[c]?=some x)(hal:x.a.al=true)(nH:x.a.on=true)(hh:x.a.hv≠[])(hl:x.a.hv.length<=100000)(h0:x.a.wait=0):
  Calls U' 29 #[ptr fb,.int .i64 (c:Int)] W fun e w'=> ∃(v:Value) (μ':Mu) (n:Bool),e=.returned (.tuple #[v,.bool true])/\ak μ μ'/\DR μ' (.aq n 2 (x.a.dn.map gh.row)) v/\mX t w0 μ' I fb {s.a with cl:=s.a.cl.set c {x.a with on:=false,dn:=[],hv:=[]}} w':=by
 obtain⟨cb,cc,fI,lz⟩:=Row.at hR.cls hx;obtain⟨F,dF⟩:=hR.cM;have c2:∀{μ':Mu} {J:Ky->Option ag} {W':World},az w0 μ' J W'->J (t,.cM)=I (t,.cM)->W'.cell? ⟨fb,2,none⟩=some (.slice (some ⟨cb,0,none⟩) s.cl.length cc):=fun{μ' J W'} hk e=>by
  have q2:=hk.cell (e.trans dF) (j:=2) rfl;rwa [fI]at q2
 have hat:=xx hK lz hx;have h3:=hat.al;rw[hal]at h3;have h4:=hat.on;rw[nH]at h4;obtain⟨DA,dc,hdv⟩:=Row.len (hR.mO c x hx);have h5:=hat.dv;rw[hdv]at h5;have hw:=Cz hK hR hx (fun _=>hh) hl;rw[h0]at hw;obtain⟨w1,P9,hK1⟩:=il hK.drew hx lz (x':={x with a:={x.a with on:=false}}) 2 (by omega) (v:=.bool false) (.v rfl) rfl;obtain⟨w2,TP,bq⟩:=il hK1 (bS hx) (af _ _ _) (x':=⟨.slice none 0 0,x.hvv,{x.a with on:=false}⟩) 3 (by omega) (v:=.slice none 0 0) (.v rfl) rfl;rw[aK,bE]at bq;obtain⟨w3,Q6,du⟩:=il bq (bS hx) (af _ _ _) (x':=⟨.slice none 0 0,.slice none 0 0,{x.a with on:=false,dn:=[],hv:=[]}⟩) 4 (by omega) (v:=.slice none 0 0) (.v rfl) rfl;rw[aK,bE]at du;have nf:∀{y:Option ag},put I (t,.cls) y (t,.cM)=I (t,.cM):=ae _ _ (aa fun e=>by cases e);have hrow:=(hR.mO c x hx).put (x:=some (aE cb cc 66 7 ((s.cl.set c ⟨.slice none 0 0,.slice none 0 0,{x.a with on:=false,dn:=[],hv:=[]}⟩).map lP.row))) (aa (t:=t) (a:=.mO c) (b:=.cls) fun e=>by cases e);obtain⟨μ',n,hm,eX,CO,_⟩:=du.Lz hrow;refine(TN fb cb s.cl.length cc c DA x.a.dn.length dc W w1 w2 w3 (fun w'=>w'=w3) (c2 hK rfl) (aV hx) h3 h4 h5 hw (c2 hK.drew rfl) P9 (c2 hK1 nf) TP (c2 bq nf) Q6 (c2 du nf) rfl).mono fun e w' he=>?_;obtain⟨rfl,rfl⟩:=he;refine⟨_,μ',n,rfl,hm,by rw[<-hdv];exact CO,μ',_,{s with cl:=s.cl.set c ⟨.slice none 0 0,.slice none 0 0,{x.a with on:=false,dn:=[],hv:=[]}⟩},ak.refl _,eX,hR.clS (fun k g1 g2 _ _=>(ae _ _ (aa g2)).trans (ae _ _ (aa g1))) (.inr ⟨cb,cc,?_,?_⟩) (.inl ⟨rfl,rfl⟩) (.inl ⟨rfl,rfl⟩),⟨(hD.mono hm).ln,(hD.mono hm).os⟩,?_,fun k hk=>?_⟩
 ·grind
 ·grind [ae,aa,af]
 ·unfold gm.a;simp only[aF]
 ·rw[ae _ _ (fun e=>hk (by rw[e])),ae _ _ (fun e=>hk (by rw[e]))]
def qm.back(n:qm):Bool×qm:=if n.dn=false\/31<=n.ws.getD 1 0 then(false,n)else(true,⟨n.ws.set 1 (IntKind.u64.wrap (n.ws.getD 1 0+1)),false⟩)
theorem Up(hK:az w0 μ I W)(hR:eM t I fb s)(hD:wz μ s){n:qE}(hn:s.nd[j]?=some n){nb nn nc:Nat}(lk:s.nv=.slice (some ⟨nb,0,none⟩) nn nc)(hl:1<n.a.ws.length):
  Calls U' 41 #[.pointer (some ⟨nb,j*2,none⟩)] W fun e w'=>e=.returned (.bool n.a.back.1)/\mX t w0 μ I fb {s.a with nd:=s.a.nd.set j n.a.back.2} w'/\w'.cell? ⟨fb,1,none⟩=some (.slice (some ⟨nb,0,none⟩) nn nc):=by
 have ad3:=lk;obtain⟨G,dF⟩:=hR.cM;obtain⟨_,_,Ce,hIn⟩:=Row.at hR.gO hn;rw[lk]at Ce;cases Ce;obtain⟨wb,cw,Q4,PX⟩:=wh (hR.dG j n hn) (i:=0) (by omega);have hx:n.a.ws[1]?=some (n.a.ws.getD 1 0):=by grind
 have q1:=hK.aL hIn (get_map hn) (j:=0) rfl;rw[Q4]at q1;have q2:=hK.aL hIn (get_map hn) (j:=1) rfl;have q3:=hK.aL PX (i:=1) (e:=wr (n.a.ws.getD 1 0)) (get_map hx) (j:=0) rfl;by_cases hno:n.a.dn=false\/31<=n.a.ws.getD 1 0
 ·have e:n.a.back=(false,n.a):=ee hno;rw[e];refine(TI nb (j*2) wb n.a.ws.length cw (!n.a.dn) (n.a.ws.getD 1 0) W q1 hl q3 q2 (hno.imp (fun h=>by rw[h];rfl) id)).mono fun e w' he=>?_;obtain⟨rfl,rfl⟩:=he;refine⟨rfl,?_⟩;rw[show s.a.nd.set j n.a=s.a.nd from gS (get_map hn)];exact⟨.start hK hR hD,by rw[<-ad3];exact hR.c1 hK⟩
 ·have Kt:n.a.dn=true:=by
   grind
  have h31:n.a.ws.getD 1 0<31:=by
   grind
  have e:n.a.back=(true,⟨n.a.ws.set 1 (IntKind.u64.wrap (n.a.ws.getD 1 0+1)),false⟩):=eg hno;rw[e];rw[Kt]at q2;obtain⟨w1,P9,hK1⟩:=hK.Ku hIn (get_map hn) (j:=1) rfl (by omega) (a:=.v (.bool true)) (v:=.bool true) (.v rfl);rw[show(s.nd.map qE.row).set j (n.row.set 1 (.v (.bool true)))=(s.nd.set j ⟨n.wv,⟨n.a.ws,false⟩⟩).map qE.row by rw[aF];rfl]at hK1;have ad4:=(ae I (some (aE nb nc 61 2 ((s.nd.set j ⟨n.wv,⟨n.a.ws,false⟩⟩).map qE.row))) (aa (t:=t) (a:=.dG j) (b:=.gO) fun e=>by cases e)).trans PX;have g1:=hK1.aL (af _ _ _) (i:=j) (e:=qE.row ⟨n.wv,⟨n.a.ws,false⟩⟩) (get_map (bS hn)) (j:=0) (x:=n.wv) rfl;rw[Q4]at g1;have g2:=hK1.aL ad4 (i:=1) (e:=wr (n.a.ws.getD 1 0)) (get_map hx) (j:=0) rfl;obtain⟨w2,TP,bq⟩:=hK1.Ku ad4 (i:=1) (e:=wr (n.a.ws.getD 1 0)) (get_map hx) (j:=0) rfl (by omega) (a:=Z' (IntKind.u64.wrap (n.a.ws.getD 1 0+1))) (v:=.int .u64 (IntKind.u64.wrap (n.a.ws.getD 1 0+1))) (.v rfl);rw[show(n.a.ws.map wr).set 1 ((wr (n.a.ws.getD 1 0)).set 0 (Z' (IntKind.u64.wrap (n.a.ws.getD 1 0+1))))=(n.a.ws.set 1 (IntKind.u64.wrap (n.a.ws.getD 1 0+1))).map wr by rw[<-BQ];rfl]at bq;refine(Un nb (j*2) wb n.a.ws.length cw (n.a.ws.getD 1 0) W w1 w2 q1 hl q3 q2 h31 P9 g1 g2 TP).mono fun e w' he=>?_;obtain⟨rfl,rfl⟩:=he;refine⟨rfl,⟨μ,_,{s with nd:=s.nd.set j ⟨n.wv,⟨n.a.ws.set 1 (IntKind.u64.wrap (n.a.ws.getD 1 0+1)),false⟩⟩},ak.refl _,bq,hR.ac5 hn (fun k g1 g2 _=>(ae _ _ (aa g2)).trans (ae _ _ (aa g1))) (.inr ⟨nb,nc,?_,?_⟩) (.inr ⟨wb,cw,?_,af _ _ _⟩),⟨hD.ln,hD.os⟩,?_,fun k hk=>?_⟩,by
   have:=bq.cell ((ae _ _ (aa fun e=>by cases e)).trans ((ae _ _ (aa fun e=>by cases e)).trans dF)) (j:=1) rfl;rwa [ad3]at this⟩
  ·grind
  ·rw[ae _ _ (aa fun e=>by cases e),af,aF,aF];rfl
  ·grind
  ·unfold gm.a;simp only[aF]
  ·rw[ae _ _ (fun e=>hk (by rw[e])),ae _ _ (fun e=>hk (by rw[e]))]
end
end
section
attribute [local go_sem] Oper.semAt_some
def ad5(o c x:Int)(A:Option Addr)(l cp:Nat)(W:World)(J:Option Addr->Nat->Nat->World->Prop):Prop:=
 ∃(B c':Nat) (W':World),Hid (∀ty,(Builtin.append_ #[84,84] ty #[.slice A l cp,.slice (some ⟨W.heap.size,0,none⟩) 1 1]).run U' (W.alloc (gz o c x))=.ok (.slice (some ⟨B,0,none⟩) (l+1) c') W')/\J (some ⟨B,0,none⟩) (l+1) c' W'
def Zr(f lb nl lc c i np:Nat)(A:Option Addr)(l cp:Nat)(W:World)(J:Option Addr->Nat->Nat->World->Prop):Prop:=
 ∃(pb pc ql qc:Nat) (QA:Option Addr),W.cell? ⟨f,3,none⟩=some (.slice (some ⟨lb,0,none⟩) nl lc)/\W.cell? ⟨lb,c,none⟩=some (.slice (some ⟨pb,0,none⟩) np pc)/\W.cell? ⟨pb,i*4+3,none⟩=some (.slice QA ql qc)/\(ql=0->J A l cp W)/\(0<ql->ad5 (-1) c i A l cp W J)
def Zs(f ob n oc k:Nat)(A:Option Addr)(l cp:Nat)(W:World)(J:Option Addr->Nat->Nat->World->Prop):Prop:=
 ∃(cl nd:Int),(W.drew.cell? ⟨f,4,none⟩=some (.slice (some ⟨ob,0,none⟩) n oc)/\W.drew.cell? ⟨ob,k*4,none⟩=some (.int .i64 cl)/\W.drew.cell? ⟨ob,k*4+2,none⟩=some (.int .i64 nd))/\
  ∃(B c':Nat) (W':World),(∀o,(W.drew.alloc o).cell? ⟨f,4,none⟩=some (.slice (some ⟨ob,0,none⟩) n oc)/\(W.drew.alloc o).cell? ⟨ob,k*4,none⟩=some (.int .i64 cl)/\(W.drew.alloc o).cell? ⟨ob,k*4+2,none⟩=some (.int .i64 nd))/\
   Hid (∀ty,(Builtin.append_ #[84,84] ty #[.slice A l cp,.slice (some ⟨W.drew.heap.size,0,none⟩) 1 1]).run U' (W.drew.alloc (gz k cl nd))=.ok (.slice (some ⟨B,0,none⟩) (l+1) c') W')/\(W'.cell? ⟨f,4,none⟩=some (.slice (some ⟨ob,0,none⟩) n oc)/\W'.cell? ⟨ob,k*4,none⟩=some (.int .i64 cl)/\W'.cell? ⟨ob,k*4+2,none⟩=some (.int .i64 nd))/\J (some ⟨B,0,none⟩) (l+1) c' W'
set_option maxHeartbeats 4000000 in
set_option maxRecDepth 1000000 in
theorem Dh(f lb nl lc ob n oc:Nat)(np:Nat->Nat)(OA:Option Addr)(W:World)(J:Nat->Nat->Option Addr->Nat->Nat->World->Prop)(J2:Nat->Option Addr->Nat->Nat->World->Prop)(wH:nl<=100000)(hn:n<=100000)(Q5:∀c,np c<=100000)(hOA:0<n->OA=some ⟨ob,0,none⟩)
  (hJ:J 0 0 none 0 0 W) (hL:∀c i A l cp W,J c i A l cp W->W.cell? ⟨f,3,none⟩=some (.slice (some ⟨lb,0,none⟩) nl lc)) (hM:∀c i A l cp W,c<nl->J c i A l cp W->∃(PA:Option Addr) (pc:Nat),W.cell? ⟨lb,c,none⟩=some (.slice PA (np c) pc))
  (hR:∀c i A l cp W,c<nl->i<np c->J c i A l cp W->Zr f lb nl lc c i (np c) A l cp W (J c (i+1))) (hN:∀c A l cp W,c<nl->J c (np c) A l cp W->J (c+1) 0 A l cp W)
  (hS:∀A l cp W,J nl 0 A l cp W->J2 0 A l cp W) (hO:∀k A l cp W,J2 k A l cp W->W.cell? ⟨f,4,none⟩=some (.slice OA n oc)) (ux:∀k A l cp W,k<n->J2 k A l cp W->Zs f ob n oc k A l cp W (J2 (k+1))):
  Calls U' 27 #[.pointer (some ⟨f,0,none⟩)] W fun e w'=> ∃A l cp,e=.returned (.slice A l cp)/\J2 n A l cp w':=by
 have mixed:U'.follows .mixedOrders=true:=by kernel_rfl
 have HL:Hid (∀c i A l cp W,J c i A l cp W->W.cell? ⟨f,3,none⟩=some (.slice (some ⟨lb,0,none⟩) nl lc)):=hL;have HM:Hid (∀c i A l cp W,c<nl->J c i A l cp W->∃(PA:Option Addr) (pc:Nat),W.cell? ⟨lb,c,none⟩=some (.slice PA (np c) pc)):=hM;have HR:Hid (∀c i A l cp W,c<nl->i<np c->J c i A l cp W->Zr f lb nl lc c i (np c) A l cp W (J c (i+1))):=hR;have HN:Hid (∀c A l cp W,c<nl->J c (np c) A l cp W->J (c+1) 0 A l cp W):=hN;have HS:Hid (∀A l cp W,J nl 0 A l cp W->J2 0 A l cp W):=hS;have HO:Hid (∀k A l cp W,J2 k A l cp W->W.cell? ⟨f,4,none⟩=some (.slice OA n oc)):=hO;have Mi:Hid (∀k A l cp W,k<n->J2 k A l cp W->Zs f ob n oc k A l cp W (J2 (k+1))):=ux;have HP:Hid (∀c,np c<=100000):=Q5;clear hL hM hR hN hS hO ux Q5
 go_enter Tryz.func27,Tryz.ntmps27
 go_wp2
 go_loopg [3,4] nl (fun g s3 s4 W=> ∃(c:Nat) (A:Option Addr) (l cp:Nat),c+g=nl/\s4=.int .i64 c/\s3=.slice A l cp/\J c 0 A l cp W)
 case atStart=>exact⟨0,none,0,0,by omega,rfl,rfl,hJ⟩
 case round=>
  obtain⟨c,A,l,cp,hcg,rfl,rfl,hI⟩:=hrel;clear hJ;cases gk with
  |succ g=>
   have hc:c<nl:=by omega
   have uu:(c:Int)<(nl:Int):=by omega
   have hw:wrap64 ((c:Int)+1)=((c+1:Nat):Int):=by rw[mZ,aD];omega
   have hl3:=HL.out _ _ _ _ _ _ hI;have xW:=HP.out c
   go_wp2
   clear hl3
   go_loopg [3,5] (np c) (fun g2 s3 s5 W=> ∃(i:Nat) (A:Option Addr) (l cp:Nat),i+g2=np c/\s5=.int .i64 i/\s3=.slice A l cp/\J c i A l cp W)
   case atStart=>exact⟨0,A,l,cp,by omega,rfl,rfl,hI⟩
   case round=>
    obtain⟨i,A2,l2,cp2,hig,rfl,rfl,kJ⟩:=hrel;clear hI;have hl4:=HL.out _ _ _ _ _ _ kJ;cases gk with
    |succ g2=>
     have hi:i<np c:=by omega
     have zP:(i:Int)<(np c:Int):=by omega
     have hwi:wrap64 ((i:Int)+1)=((i+1:Nat):Int):=by rw[mZ,aD];omega
     obtain⟨pb,pc,ql,qc,QA,r1,r2,r3,hZ,hA⟩:=HR.out c i A2 l2 cp2 wr hc hi kJ;clear HL HM HR HN HS HO Mi HP kJ hl4;by_cases hq:0<ql
     ·have Y5:(0:Int)<(ql:Int):=by omega
      obtain⟨B,c',W',hap,hJ'⟩:=hA hq;clear hZ hA
      go_wp2_with (at_builtin;refine Lib.wpList_append_run _ rfl _ _ _ _ rfl _ _ rfl rfl _ _ (hap.out _) ?_)
      go_roundg g2
      case measure=>omega
      case rel=>exact⟨i+1,_,_,_,by omega,by first|rfl|rw[hwi],rfl,hJ'⟩
     ·have Y5:¬(0:Int)<(ql:Int):=by omega
      have hJ':=hZ (by omega);clear hZ hA
      go_wp2
      go_roundg g2
      case measure=>omega
      case rel=>exact⟨i+1,_,_,_,by omega,by first|rfl|rw[hwi],rfl,hJ'⟩
    |zero=>
     obtain rfl:i=np c:=by omega
     obtain⟨PA,pc,r2⟩:=HM.out _ _ _ _ _ _ hc kJ;have hJ':=HN.out _ _ _ _ _ hc kJ;clear HL HM HR HN HS HO Mi HP kJ
     go_wp2
     go_roundg g
     case measure=>omega
     case rel=>exact⟨c+1,_,_,_,by omega,by first|rfl|rw[hw],rfl,hJ'⟩
  |zero=>
   obtain rfl:c=nl:=by omega
   have hl3:=HL.out _ _ _ _ _ _ hI;have hI:=HS.out _ _ _ _ hI;clear HL HM HR HN HS HP
   go_wp2
   go_loopg [3,6] n (fun g2 s3 s6 W=> ∃(k:Nat) (A:Option Addr) (l cp:Nat),k+g2=n/\s6=.int .i64 k/\s3=.slice A l cp/\J2 k A l cp W)
   case atStart=>exact⟨0,A,l,cp,by omega,rfl,rfl,hI⟩
   case round=>
    obtain⟨k,A2,l2,cp2,hkg,rfl,rfl,kJ⟩:=hrel;clear hl3;have h4:=HO.out _ _ _ _ _ kJ;cases gk with
    |succ g2=>
     have hk:k<n:=by omega
     have hkI:(k:Int)<(n:Int):=by omega
     have hwk:wrap64 ((k:Int)+1)=((k+1:Nat):Int):=by rw[mZ,aD];omega
     obtain rfl:=hOA (by omega);obtain⟨cl,nd,⟨r1,r2,r3⟩,B,c',W',hall,hap,⟨t1,t2,t3⟩,hJ'⟩:=Mi.out k A2 l2 cp2 wr hk kJ;clear HO Mi hI kJ
     go_wp2
     go_region_held3 (fun w'=>w'.cell? ⟨f,4,none⟩=some (.slice (some ⟨ob,0,none⟩) n oc)/\w'.cell? ⟨ob,k*4,none⟩=some (.int .i64 cl)/\w'.cell? ⟨ob,k*4+2,none⟩=some (.int .i64 nd))
      (first|exact⟨r1,r2,r3⟩|exact hall _|exact⟨t1,t2,t3⟩) (first|(refine aH rfl (.tmp 56) (.tmp 75) 84 84 rfl _ _ (by simp[Act.eval,Act.put]) (by simp[Act.eval,Act.put]) (hap.out _) ?_;clear hap))
     go_wp2
     go_roundg g2
     case measure=>omega
     case rel=>exact⟨k+1,_,_,_,by omega,by first|rfl|rw[hwk],rfl,hJ'⟩
    |zero=>
     obtain rfl:k=n:=by omega
     clear HO Mi hI
     go_wp2
     go_ret
     exact⟨_,_,_,rfl,kJ⟩
end
section
variable{w0 W:World}{μ:Mu}{I J:Ky->Option ag}{t fb:Nat}{s:gm}
def xG(l:List eI)(c:Nat):Nat->List Ch
 |0=>[]
 |j+1=>xG l c j++(match l[j]? with|some p=>if p.q=[]then []else [(-1,(c:Int),(j:Int))]|none=>[])
def Di(ln:List (List eI)):Nat->List Ch
 |0=>[]
 |c+1=>Di ln c++(match ln[c]? with|some l=>xG l c l.length|none=>[])
def JZ(os:List eI):Nat->List Ch
 |0=>[]
 |k+1=>JZ os k++(match os[k]? with|some p=>[((k:Int),(p.c:Int),(p.nd:Int))]|none=>[])
def gP.oL(a:gP):List Ch:=Di a.ln a.ln.length++JZ a.os a.os.length
theorem CB(l:List eI)(c:Nat):∀j,(xG l c j).length<=j
 |0=>dk _
 |j+1=>by
  have:=CB l c j;unfold xG;rw[ec];split
  ·split<;>simp<;>omega
  ·simp;omega
theorem CC{ln:List (List eI)}{B:Nat}(h:∀x∈ln,x.length<=B):∀c,(Di ln c).length<=c*B
 |0=>by simp[Di]
 |c+1=>by
  have:=CC h c;unfold Di;rw[ec,SO];split
  ·rename_i x hx;have h1:=h x (dp hx);have h2:=CB x c x.length;omega
  ·simp;omega
theorem J0(os:List eI):∀k,(JZ os k).length<=k
 |0=>dk _
 |k+1=>by
  have:=J0 os k;unfold JZ;rw[ec];split<;>simp<;>omega
theorem u84:U'.underlying 84=some (.slice 86):=by kernel_rfl
theorem i86:(U'.info? 86).map (fun i=>(i.zero,i.size,i.bytes))=some (some (.agg #[.int .i64 0,.int .i64 0,.int .i64 0]),3,24):=by kernel_rfl
def zr(t:Nat)(w0:World)(μ:Mu)(I:Ky->Option ag)(xs:List Ch)(v:Value)(W:World):Prop:=
 ∃I':Ky->Option ag,az w0 μ I' W/\Row I' (t,.tmp 9) v 86 3 (xs.map Qr)/\∀k,k≠(t,.tmp 9)->I' k=I k
theorem zr.kept{xs:List Ch}{W':World}(h:zr t w0 μ I xs v W)(k:ar [] W W'):zr t w0 μ I xs v W':=by
 obtain⟨I',h1,h2,h3⟩:=h;exact⟨I',h1.bw k,h2,h3⟩
theorem Uq{xs:List Ch}{A:Option Addr}{l cp:Nat}(h:zr t w0 μ I xs (.slice A l cp) W)(hl:xs.length<=90000)(x y z:Int):
  ∃(B c':Nat) (W':World),Hid (∀ty,(Builtin.append_ #[84,84] ty #[.slice A l cp,.slice (some ⟨W.heap.size,0,none⟩) 1 1]).run U' (W.alloc (gz x y z))=.ok (.slice (some ⟨B,0,none⟩) (l+1) c') W')/\zr t w0 μ I (xs++[(x,y,z)]) (.slice (some ⟨B,0,none⟩) (l+1) c') W':=by
 obtain⟨I',hK,hr,hf⟩:=h;obtain⟨I40,hI,vR,qD,yJ⟩:=Go.Ev.info_parts (P:=U') i86;have wy:=hK.bw (ar.alloc W (.cells #[.int .i64 x,.int .i64 y,.int .i64 z] 86));obtain⟨b',c',W2,hrun,bq,_,_⟩:=wy.ua (P:=U') (es:=Qr (x,y,z)) hr u84 hI vR qD (by omega) (by omega) rfl (by rw[ab];omega) (Ev.aZ W _) rfl (fun v hv=>by
  simp only[ft,dt,re]at hv;rcases hv with rfl|rfl|rfl<;>rfl) rfl fun jj u e hu he=>by
  match jj with
  |0=>cases hu;cases he;exact .v rfl
  |1=>cases hu;cases he;exact .v rfl
  |2=>cases hu;cases he;exact .v rfl
  |n+3=>simp[Qr]at hu
 obtain⟨A',c,ev,_⟩:=hr.val;rw[ab]at ev hrun;cases ev;refine⟨b',c',W2,fun ty=>hrun ty,_,bq,.inr ⟨b',c',?_,?_⟩,fun k hk=>?_⟩
 ·rw[ab,ec];rfl
 ·rw[af,im];rfl
 ·rw[ae _ _ hk];exact hf k hk
theorem abf{k:Ky}{T:Nat}(h:Row I k v T sz (l.map f))(hi:i<l.length):∃b c,v=.slice (some ⟨b,0,none⟩) l.length c/\I k=some (aE b c T sz (l.map f)):=Row.at h (ao hi)
theorem yO(hK:az w0 μ I W)(hR:eM t I fb s)(hD:wz μ s)(qQ:0<s.ln.length)(hb:s.ln.length<=100/\(∀x∈s.ln,x.ps.length<=100)/\s.os.length<=50000):
  Calls U' 27 #[ptr fb] W fun e w'=> ∃v,e=.returned v/\zr t w0 μ I s.a.oL v w':=by
 obtain⟨l0,hl0⟩:∃x0,s.ln[0]?=some x0:=⟨_,ao qQ⟩;obtain⟨lb,lc,hlv,Cb⟩:=Row.at hR.PU hl0;obtain⟨OA,oc,JL⟩:=Row.len hR.lO;obtain⟨F,dF⟩:=hR.cM;obtain⟨b1,b2,b3⟩:=hb;have hst:∀{xs:List Ch} {v:Value} {W':World},zr t w0 μ I xs v W'->∃I':Ky->Option ag,az w0 μ I' W'/\I' (t,.cM)=I (t,.cM)/\I' (t,.kC 0)=I (t,.kC 0)/\(∀c,I' (t,.lu c)=I (t,.lu c))/\I' (t,.lO)=I (t,.lO):=fun h=>by
  obtain⟨I',h1,_,h3⟩:=h;exact⟨I',h1,h3 _ (aa fun e=>by cases e),h3 _ (aa fun e=>by cases e),fun c=>h3 _ (aa fun e=>by cases e),h3 _ (aa fun e=>by cases e)⟩
 have c3:∀{xs:List Ch} {v:Value} {W':World},zr t w0 μ I xs v W'->W'.cell? ⟨fb,3,none⟩=some (.slice (some ⟨lb,0,none⟩) s.ln.length lc)/\W'.cell? ⟨fb,4,none⟩=some (.slice OA s.os.length oc):=fun h=>by
  obtain⟨I',h1,h2,_⟩:=hst h;have q3:=h1.cell (h2.trans dF) (j:=3) rfl;have q4:=h1.cell (h2.trans dF) (j:=4) rfl;rw[hlv]at q3;rw[JL]at q4;exact⟨q3,q4⟩
 have hlA:s.a.ln.length=s.ln.length:=ab ..;have hBl:∀x∈s.a.ln,x.length<=100:=fun x hx=>by
  obtain⟨y,hy,rfl⟩:=pw.1 hx;show(y.ps.map dE.a).length<=100;rw[ab];exact b2 y hy
 obtain⟨np,Q5⟩:∃np:Nat->Nat,np=fun c=>((s.ln[c]?).map fun l=>l.ps.length).getD 0:=⟨_,rfl⟩;have Ur:∀{c:Nat} {l:mW},s.ln[c]?=some l->np c=l.ps.length:=fun h=>by rw[Q5];simp only[h];rfl
 have agh:∀c,np c<=100000:=fun c=>by
  cases e:s.ln[c]? with
  |none=>rw[Q5];simp only[e];exact nt _
  |some l=>rw[Ur e];have:=b2 l (dp e);omega
 refine(Dh fb lb s.ln.length lc ((match OA with|some a=>a.block|none=>0)) s.os.length oc np OA W
  (fun c i A l cp W'=> ∃xs,zr t w0 μ I xs (.slice A l cp) W'/\xs=Di s.a.ln c++(match s.a.ln[c]? with|some l=>xG l c i|none=>[]))
  (fun k A l cp W'=>zr t w0 μ I (Di s.a.ln s.a.ln.length++JZ s.a.os k) (.slice A l cp) W') (by omega) (by omega) agh (fun h0=>?_) ?_ (fun c i A l cp W' hJ=>?_) (fun c i A l cp W' hc hJ=>?_) (fun c i A l cp W' hc hi hJ=>?_) (fun c A l cp W' hc hJ=>?_) (fun A l cp W' hJ=>?_) (fun k A l cp W' hJ=>(c3 hJ).2) fun k A l cp W' hk hJ=>?_).mono fun e w' he=>?_
 ·obtain⟨b,c,e,_⟩:=abf hR.lO h0;rw[JL]at e;cases e;rfl
 ·refine⟨[],⟨I,hK,.inl ⟨rfl,rfl⟩,fun _ _=>rfl⟩,?_⟩;cases s.a.ln[0]?<;>rfl
 ·obtain⟨xs,h,_⟩:=hJ;exact(c3 h).1
 ·obtain⟨xs,h,_⟩:=hJ;obtain⟨l,hl⟩:∃l,s.ln[c]?=some l:=⟨_,ao hc⟩;obtain⟨I',h1,_,h3,_,_⟩:=hst h;have q:=h1.aL (h3.trans Cb) (get_map hl) (j:=0) rfl;obtain⟨PA,pc,wK⟩:=Row.len (hR.lu c l hl);rw[oe,na,wK,<-Ur hl]at q;exact⟨PA,pc,q⟩
 ·obtain⟨xs,h,hxs⟩:=hJ;obtain⟨l,hl⟩:∃l,s.ln[c]?=some l:=⟨_,ao hc⟩;rw[Ur hl]at hi;obtain⟨p,hp⟩:∃p,l.ps[i]?=some p:=⟨_,ao hi⟩;obtain⟨I',h1,h2,h3,h4,_⟩:=hst h;have q:=h1.aL (h3.trans Cb) (get_map hl) (j:=0) rfl;obtain⟨pb,pc,wK,zm⟩:=Row.at (hR.lu c l hl) hp;rw[oe,na,wK]at q;have q2:=(Cd h1 ((h4 c).trans zm) hp).q;obtain⟨QA,qc,JH⟩:=(hD.ln c l hl p (dp hp)).val;rw[JH]at q2;have hla:s.a.ln[c]?=some l.a:=get_map (f:=mW.a) hl;have hpa:l.a[i]?=some p.a:=get_map (f:=dE.a) hp;rw[hla]at hxs;simp only at hxs;have e:xG l.a c (i+1)=xG l.a c i++(if p.a.q=[]then []else [(-1,(c:Int),(i:Int))]):=by rw[xG,hpa]
  rw[Ur hl];refine⟨pb,pc,p.a.q.length,qc,QA,(c3 h).1,q,q2,fun h0=>⟨xs,h,?_⟩,fun h0=>?_⟩
  ·rw[hxs,hla];simp only;rw[e,ee (dy h0),ir]
  ·have q1:=CC hBl c;have q2':=CB l.a c i;have q3:c*100<=100*100:=fi _ (by omega);have QZ:i<=100:=by have:=b2 l (dp hl);omega
   obtain⟨B,c',W2,hrun,zq⟩:=Uq h (by rw[hxs,ec];omega) (-1) c i;refine⟨B,c',W2,hrun,_,zq,?_⟩;rw[hxs,hla];simp only;rw[e,eg (fun e=>by rw[e]at h0;simp at h0),<-fh]
 ·obtain⟨xs,h,hxs⟩:=hJ;obtain⟨l,hl⟩:∃l,s.ln[c]?=some l:=⟨_,ao hc⟩;have hla:s.a.ln[c]?=some l.a:=get_map (f:=mW.a) hl;refine⟨xs,h,?_⟩;rw[hxs,Di,hla,Ur hl];simp only;rw[show l.a.length=l.ps.length from ab ..];cases s.a.ln[c+1]? with
  |none=>rw[ir]
  |some y=>show _=_++[];rw[ir]
 ·obtain⟨xs,h,hxs⟩:=hJ;rw[we (by omega),<-hlA]at hxs;simp only at hxs;rw[hxs]at h;exact h
 ·obtain⟨p,hp⟩:∃p,s.os[k]?=some p:=⟨_,ao hk⟩;obtain⟨ob,oc',ad6,Vo⟩:=Row.at hR.lO hp;rw[JL]at ad6;cases ad6;have hpa:s.a.os[k]?=some p.a:=get_map (f:=dE.a) hp;have cO:∀{xs:List Ch} {v:Value} {W':World},zr t w0 μ I xs v W'->W'.cell? ⟨fb,4,none⟩=some (.slice (some ⟨ob,0,none⟩) s.os.length oc)/\W'.cell? ⟨ob,k*4,none⟩=some (.int .i64 (p.a.c:Int))/\W'.cell? ⟨ob,k*4+2,none⟩=some (.int .i64 (p.a.nd:Int)):=fun h=>by
   obtain⟨I',h1,h2,_,_,h5⟩:=hst h;have q:=Cd h1 (h5.trans Vo) hp;exact⟨(c3 h).2,q.c,q.nd⟩
  have hd:=hJ.kept (W':=W'.drew) ⟨rfl,rfl,rfl,dk _,fun _ _ _=>rfl⟩;have q1:=CC hBl s.a.ln.length;have q2:=J0 s.a.os k;have q3:s.a.ln.length*100<=100*100:=fi _ (by omega);obtain⟨B,c',W2,hrun,zq⟩:=Uq hd (by rw[ec];omega) k p.a.c p.a.nd;refine⟨p.a.c,p.a.nd,cO hd,B,c',W2,fun o=>cO (hd.kept (ar.alloc _ o)),hrun,cO zq,?_⟩;show zr _ _ _ _ _ _ _;rw[JZ,hpa];simp only;rw[<-fh];exact zq
 ·obtain⟨A,l,cp,rfl,h⟩:=he;refine⟨_,rfl,?_⟩;have hoA:s.a.os.length=s.os.length:=ab ..;unfold gP.oL;rw[hoA];exact h
end
