/- Step of a live pair: what it does with a fabric. -/
import Derived.Test.YtnjccbnlmdajkaaGreatRfL
import Derived.Test.YtnjccbnlmdajkaaGreatStpX
set_option linter.all false
namespace Go.Proofs.YtnjccbnlmdajkaaGreat
open Go.RowKit Go.Shelf Go.Lib Go.Ev
set_option maxRecDepth 100000
variable{J:Ky->Option ag}{c:Nat}{l:ik}{x:dH}{n:ur}{nd:Nat}
section
variable{w0 W:World}{μ:Mu}{I:Ky->Option ag}{t fb:Nat}{s:gN}
theorem Ey{α:Type}{l:List α}{x:α}(h:l[c]?=some x):l.set c x=l:=kj fun j=>by
 rw[mj];by_cases e:c=j
 ·subst e;rw[ee rfl,ee (aV h),h]
 ·rw[eg e]
theorem T6{W:World}{b j:Nat}{v y:Value}(h:W.cell? ⟨b,j,none⟩=some y):(W.setCell ⟨b,j,none⟩ v).cell? ⟨b,j,none⟩=some v:=by
 unfold World.cell? at h;split at h
 ·rename_i cs ty fz h1;have h2:cs[j]?=some y:=by simpa using h
  refine cell_of (pT W b j v h1) ?_;rw[Array.getElem?_setIfInBounds,ee rfl,ee (gd.1 h2).1]
 ·cases h
theorem ji.stepped(hR:ji t I fb s){n:ur}(hc:s.cl[c]?=some x)(hl:x.ln[nd]?=some l)(hn:s.nd[nd]?=some n){p':Pr}{n':qm}{F' E':List Nat}(hJ:∀k,(∀n,k≠ .tmp n)->k≠ .par c nd->k≠ .dG nd->J (t,k)=I (t,k))
  (hp:J (t,.par c nd)=some (bG l.b F' 139 (yI p'))) (hn':J (t,.dG nd)=some (bG n.b E' 112 (sL n'))):
  ji t J fb {s with nd:=s.nd.set nd ⟨n.b,n'⟩,cl:=s.cl.set c {x with ln:=x.ln.set nd ⟨l.b,l.v,⟨p',l.a.pl⟩⟩}}:=by
 have h1:=hR.node hn (J:=put I (t,.dG nd) (some (bG n.b E' 112 (sL n')))) (a:=n') (F:=E') (fun k h _=>ae _ _ (aa h)) (af _ _ _);have kD:=hR.cl c x hc;refine h1.lane (J:=J) (x:=x) hc hl (l':=⟨l.b,l.v,⟨p',l.a.pl⟩⟩) (fun k g1 g2 g3 g4=>?_) ?_ ⟨F',hp⟩ ?_
 ·by_cases e:k=.dG nd
  ·subst e;rw[af];exact hn'
  ·rw[ae _ _ (aa e)];exact hJ k g4 g1 e
 ·rw[show(x.ln.map ik.row).set nd (ik.row ⟨l.b,l.v,⟨p',l.a.pl⟩⟩)=x.ln.map ik.row from Ey (x:=ik.row ⟨l.b,l.v,⟨p',l.a.pl⟩⟩) (by rw[et,hl];rfl)];exact kD.ls.same (hJ _ (fun n e=>by cases e) (fun e=>by cases e) fun e=>by cases e)
 ·exact(kD.S5 nd l hl).same (hJ _ (fun n e=>by cases e) (fun e=>by cases e) fun e=>by cases e)
def mU.lg(x:mU)(nd:Nat)(r:gh×Bool×Pr×qm)(pl:List Int):mU:=
 if r.2.1 then{x with ln:=x.ln.set nd ⟨r.2.2.1,pl.tail⟩,ba:=x.ba.set (pl.headD 0).toNat r.1,wt:=wrap64 (x.wt-1)}else{x with ln:=x.ln.set nd ⟨r.2.2.1,pl⟩}
theorem JU{hp:HF}{d:gh}{A:Option Addr}{cA:Nat}(h:DR μ (.aq d.wn 1 (d.w.map wr)) (.slice A d.w.length cA)):nB μ hp [] d.row (#[Value.int .i64 d.code,.slice A d.w.length cA]).toList:=
 .cons (F:=[]) (F':=[]) (.d (.v rfl)) (.cons (F:=[]) (F':=[]) (.d h) .nil)
theorem NX{μ0:Mu}{I0:Ky->Option ag}(hm0:ak μ0 μ)(hR:ji t I fb s){n:ur}(hc:s.cl[c]?=some x)(hl:x.ln[nd]?=some l)(hn:s.nd[nd]?=some n){r:gh×Bool×Pr×qm}{F' E':List Nat}(hJ:∀k,(∀n,k≠ .tmp n)->k≠ .par c nd->k≠ .dG nd->J (t,k)=I (t,k))
  (hp:J (t,.par c nd)=some (bG l.b F' 139 (yI r.2.2.1))) (hn':J (t,.dG nd)=some (bG n.b E' 112 (sL r.2.2.2))) (hf0:∀k:Ky,k.1≠t->J k=I0 k) (hK:az w0 μ J W)
  (hpl:r.2.1=true->∃(ix:Nat) (rest:List Int),l.a.pl=(ix:Int)::rest/\ix<x.ba.length/\rest.length<=100000)
  {bc cc bl ll b7:Nat} (fI:s.cv=.slice (some ⟨bc,0,none⟩) s.cl.length cc) (hlv:x.lv=.slice (some ⟨bl,0,none⟩) x.ln.length ll) {F7:List Nat} (hI7:J (t,.tmp 1)=some (bG b7 F7 81 r.1.row)) {A:Option Addr} {cA:Nat}
  (g0:W.cell? ⟨b7,0,none⟩=some (.int .i64 r.1.code)) (g1:W.cell? ⟨b7,1,none⟩=some (.slice A r.1.w.length cA)) (FU:DR μ (.aq r.1.wn 1 (r.1.w.map wr)) (.slice A r.1.w.length cA)):
  (r.2.1=true->FT bc c bl nd b7 r.1.code A r.1.w.length cA W (fu t w0 μ0 I0 fb {s.a with nd:=s.a.nd.set nd r.2.2.2,cl:=s.a.cl.set c (x.a.lg nd r l.a.pl)}))/\
  (r.2.1=false->fu t w0 μ0 I0 fb {s.a with nd:=s.a.nd.set nd r.2.2.2,cl:=s.a.cl.set c (x.a.lg nd r l.a.pl)} W):=by
 have hS:=hR.stepped hc hl hn hJ hp hn';have hcx:=bS (y:={x with ln:=x.ln.set nd ⟨l.b,l.v,⟨r.2.2.1,l.a.pl⟩⟩}) hc;have DE:=bS (y:=(⟨l.b,l.v,⟨r.2.2.1,l.a.pl⟩⟩:ik)) hl;refine⟨fun hcm=>?_,fun hcm=>?_⟩
 ·obtain⟨ix,rest,e1,e2,e3⟩:=hpl hcm;have:=Xl hm0 hf0 hK hS (x:={x with ln:=x.ln.set nd ⟨l.b,l.v,⟨r.2.2.1,l.a.pl⟩⟩}) (l:=⟨l.b,l.v,⟨r.2.2.1,l.a.pl⟩⟩) hcx DE e1 e2 e3 (bc:=bc) (cc:=cc) (bl:=bl) (ll:=ll) (by
   show s.cv=Value.slice _ (s.cl.set c _).length cc;rw[ff];exact fI) (by
   show x.lv=Value.slice _ (x.ln.set nd _).length ll;rw[ff];exact hlv) hI7 g0 g1 FU
  have e:({s.a with nd:=s.a.nd.set nd r.2.2.2,cl:=s.a.cl.set c (x.a.lg nd r l.a.pl)}:mV)={({s with nd:=s.nd.set nd ⟨n.b,r.2.2.2⟩,cl:=s.cl.set c {x with ln:=x.ln.set nd ⟨l.b,l.v,⟨r.2.2.1,l.a.pl⟩⟩}}:gN).a with cl:=({s with nd:=s.nd.set nd ⟨n.b,r.2.2.2⟩,cl:=s.cl.set c {x with ln:=x.ln.set nd ⟨l.b,l.v,⟨r.2.2.1,l.a.pl⟩⟩}}:gN).a.cl.set c {({x with ln:=x.ln.set nd ⟨l.b,l.v,⟨r.2.2.1,l.a.pl⟩⟩}:dH).a with ln:=({x with ln:=x.ln.set nd ⟨l.b,l.v,⟨r.2.2.1,l.a.pl⟩⟩}:dH).a.ln.set nd ⟨r.2.2.1,rest⟩,ba:=x.ba.set ix r.1,wt:=wrap64 (x.wt-1)}}:=by
   unfold gN.a dH.a mU.lg;simp only[aF,bE,hcm,xt,e1,List.tail_cons,List.headD_cons,kb]
  rw[e];exact this
 ·refine⟨μ,J,_,hm0,hK,hS,?_,hf0⟩;unfold gN.a dH.a mU.lg;simp only[aF,hcm,tx,tm]
end
section
variable{w0 W:World}{μ:Mu}{I:Ky->Option ag}{t fb:Nat}{s:gN}
theorem T7{bl ll bn cn b3:Nat}(hK:az w0 μ J W)(DE:x.ln[nd]?=some l)(hnx:s.nd[nd]?=some n)(hl:J (t,.lu c)=some (aE bl ll 118 2 (x.ln.map ik.row)))(dF:∃F,J (t,.cM)=some (bG fb F 48 s.cells))(lk:s.nv=.slice (some ⟨bn,0,none⟩) s.nd.length cn)
  (ht:∃F,J (t,.tmp 0)=some (bG b3 F 77 [Q' (-1),Q' c,Q' nd])) (hnd:J (t,.gO)=some (aE bn cn 49 1 (s.nd.map ur.row))):S9 bl nd l.b fb bn s.nd.length cn b3 n.b W:=by
 obtain⟨F,hF⟩:=dF;obtain⟨G,hG⟩:=ht;have h1:=hK.cell hF (j:=1) rfl;rw[lk]at h1;have h2:=hK.aL hnd (get_map (f:=ur.row) hnx) (j:=0) rfl;rw[oe]at h2;exact⟨hK.aL hl (get_map (f:=ik.row) DE) (j:=0) rfl,h1,hK.cell hG rfl,h2⟩
theorem Xm(hK:az w0 μ I W)(hR:ji t I fb s)(hc:s.cl[c]?=some x)(hl:x.ln[nd]?=some l)(hn:s.nd[nd]?=some n)(hq:l.a.p.q≠[])(hp:l.a.p.Ok)(Ei:n.a.ws.length<=100000)
  (hpl:(l.a.p.step n.a).2.1=true->∃(ix:Nat) (rest:List Int),l.a.pl=(ix:Int)::rest/\ix<x.ba.length/\rest.length<=100000):
  Calls Tryz.prog 22 #[ptr fb,.agg #[.int .i64 (-1),.int .i64 c,.int .i64 nd]] W fun e w'=>e=.returned (.bool true)/\
   fu t w0 μ I fb {s.a with nd:=s.a.nd.set nd (l.a.p.step n.a).2.2.2,cl:=s.a.cl.set c (x.a.lg nd (l.a.p.step n.a) l.a.pl)} w':=by
 obtain⟨bc,cc,fI,lz,ng⟩:=hR.jy hK hc;have kD:=hR.cl c x hc;obtain⟨bl,ll,hlv,Cb,VL,qK⟩:=kD.zk hK hl;obtain⟨VA,vc,wK⟩:=kD.WE hK hl;obtain⟨bn,cn,lk,hIn,Q5⟩:=hR.PN hK hn;obtain⟨F,zm⟩:=kD.ps nd l hl;obtain⟨E,Xn⟩:=hR.dG nd n hn;obtain⟨F0,dF⟩:=hR.cM;have hlen:0<l.a.p.q.length:=Fi.2 hq;obtain⟨w1,e1⟩:∃w1,W.alloc (.cells #[.int .i64 (-1),.int .i64 c,.int .i64 nd] 77)=w1:=⟨_,rfl⟩;have hK1:=hK.alloc (t,.tmp 0) (cs:=[Q' (-1),Q' c,Q' nd]) (cur:= #[.int .i64 (-1),.int .i64 c,.int .i64 nd]) (ty:=77) (fE [.int .i64 (-1),.int .i64 c,.int .i64 nd] fun v hv=>by
  simp only[ft,dt,re]at hv;rcases hv with rfl|rfl|rfl<;>rfl)
 rw[e1]at hK1;have up:∀{b j:Nat} {v:Value},W.cell? ⟨b,j,none⟩=some v->w1.cell? ⟨b,j,none⟩=some v:=fun h=>by rw[<-e1];exact bp h
 obtain⟨T0,hT0⟩:∃x,x=some (bG W.heap.size [W.heap.size] 77 [.v (.int .i64 (-1)),.v (.int .i64 c),.v (.int .i64 nd)]):=⟨_,rfl⟩;rw[<-hT0]at hK1;have WT:put I (t,.tmp 0) T0 (t,.tmp 0)=some (bG W.heap.size [W.heap.size] 77 [Q' (-1),Q' c,Q' nd]):=by rw[af];exact hT0
 have old:∀{k:FK} {v:ag},(∀n,k≠ .tmp n)->I (t,k)=some v->put I (t,.tmp 0) T0 (t,k)=some v:=fun hk h=>aC h (aa (hk 0));have adG:=ng.lv;rw[hlv]at adG;have wF:=hR.c1 hK;rw[lk]at wF;have sY:=hR.c2 hK;rw[fI]at sY;refine Mm fb bc c s.cl.length bn s.nd.length cn nd bl x.ln.length ll l.b n.b l.a.p.q.length vc VA W w1 (fu t w0 μ I fb {s.a with nd:=s.a.nd.set nd (l.a.p.step n.a).2.2.2,cl:=s.a.cl.set c (x.a.lg nd (l.a.p.step n.a) l.a.pl)}) (aV hc) (aV hl) (aV hn) hlen e1 W.heap.size rfl
  (hK1.cell WT rfl) (hK1.cell WT rfl) (hK1.cell WT rfl) (up wF) (up sY) (up adG) (up VL) (up Q5) (up wK) w1.heap.size rfl ?_ ?_
 ·refine(xB hK1.drew.drew.drew (k:=(t,.par c nd)) (l:=(t,.dG nd)) (aa fun e=>by cases e) (old (fun _ e=>by cases e) zm) (old (fun _ e=>by cases e) Xn) hp Ei).mono fun e w' he=>?_;obtain⟨μ',A,cA,F',E',rfl,hm,bq,FU⟩:=he;generalize l.a.p.step n.a=r at hpl bq FU⊢;have du:=bq.alloc (t,.tmp 1) (cs:=r.1.row) (cur:= #[.int .i64 r.1.code,.slice A r.1.w.length cA]) (ty:=81) (JU FU);have hnew:=Ev.aZ w' (.cells #[.int .i64 r.1.code,.slice A r.1.w.length cA] 81);have hall:=NX (J:=put (put (put (put I (t,.tmp 0) T0) (t,.dG nd) (some (bG n.b E' 112 (sL r.2.2.2)))) (t,.par c nd) (some (bG l.b F' 139 (yI r.2.2.1)))) (t,.tmp 1) (some (bG w'.heap.size [w'.heap.size] 81 r.1.row))) hm hR hc hl hn
   (fun k h1 h2 h3=>by rw[ae _ _ (aa (h1 1)),ae _ _ (aa h2),ae _ _ (aa h3),ae _ _ (aa (h1 0))])
   (aC (af _ _ _) (aa fun e=>by cases e)) (aC (aC (af _ _ _) (aa fun e=>by cases e)) (aa fun e=>by cases e)) (aP (aP (aP (aP fun _ _=>rfl)))) du hpl fI hlv (af _ _ _) (cell_of hnew rfl) (cell_of hnew rfl) FU
  refine⟨r.1.code,A,r.1.w.length,cA,r.2.1,rfl,?_,hall.1,hall.2⟩;exact T7 bq hl hn (aC (aC (old (fun _ e=>by cases e) Cb) (aa fun e=>by cases e)) (aa fun e=>by cases e)) ⟨F0,aC (aC (old (fun _ e=>by cases e) dF) (aa fun e=>by cases e)) (aa fun e=>by cases e)⟩ lk
   ⟨_,aC (aC WT (aa fun e=>by cases e)) (aa fun e=>by cases e)⟩ (aC (aC (old (fun _ e=>by cases e) hIn) (aa fun e=>by cases e)) (aa fun e=>by cases e))
 ·have Vr:=hK1.drew.drew.drew.alloc (t,.tmp 1) (cs:=rI.row) (cur:= #[.int .i64 0,.slice none 0 0]) (ty:=81) (JU (d:=rI) gM);have h7:(w1.drew.drew.drew).heap.size=w1.heap.size:=rfl;rw[h7]at Vr;obtain⟨T1,hT1⟩:∃x,x=some (bG w1.heap.size [w1.heap.size] 81 rI.row):=⟨_,rfl⟩;rw[<-hT1]at Vr;have aa3:∀{k:FK} {v:ag},(∀n,k≠ .tmp n)->I (t,k)=some v->put (put I (t,.tmp 0) T0) (t,.tmp 1) T1 (t,k)=some v:=fun hk h=>aC (old hk h) (aa (hk 1));refine(xB Vr (k:=(t,.par c nd)) (l:=(t,.dG nd)) (aa fun e=>by cases e) (aa3 (fun _ e=>by cases e) zm) (aa3 (fun _ e=>by cases e) Xn) hp Ei).mono fun e w' he=>?_;obtain⟨μ',A,cA,F',E',rfl,hm,bq,FU⟩:=he;generalize l.a.p.step n.a=r at hpl bq FU⊢;obtain⟨J2,qB⟩:∃J,J=put (put (put (put I (t,.tmp 0) T0) (t,.tmp 1) T1) (t,.dG nd) (some (bG n.b E' 112 (sL r.2.2.2)))) (t,.par c nd) (some (bG l.b F' 139 (yI r.2.2.1))):=⟨_,rfl⟩;rw[<-qB]at bq;have Qk:∀{k:FK} {v:ag},(∀n,k≠ .tmp n)->k≠ .par c nd->k≠ .dG nd->I (t,k)=some v->J2 (t,k)=some v:=fun h1 h2 h3 h=>by
   rw[qB];exact aC (aC (aa3 h1 h) (aa h3)) (aa h2)
  have hj1:J2 (t,.tmp 1)=some (bG w1.heap.size [w1.heap.size] 81 rI.row):=by rw[qB,ae _ _ (aa fun e=>by cases e),ae _ _ (aa fun e=>by cases e),af];exact hT1
  have VJ:J2 (t,.tmp 0)=some (bG W.heap.size [W.heap.size] 77 [Q' (-1),Q' c,Q' nd]):=by rw[qB];exact aC (aC (aC WT (aa fun e=>by cases e)) (aa fun e=>by cases e)) (aa fun e=>by cases e)
  have hjp:J2 (t,.par c nd)=some (bG l.b F' 139 (yI r.2.2.1)):=by rw[qB,af]
  have hjn:J2 (t,.dG nd)=some (bG n.b E' 112 (sL r.2.2.2)):=by rw[qB];exact aC (af _ _ _) (aa fun e=>by cases e)
  have hjf:∀k:Ky,k.1≠t->J2 k=I k:=by rw[qB];exact aP (aP (aP (aP fun _ _=>rfl)))
  have f0:=bq.frozen hj1 0;have c0:=bq.cell hj1 (j:=0) rfl;obtain⟨Fa,_,wy⟩:=bq.set hj1 0 (a:=Q' r.1.code) (v:=.int .i64 r.1.code) (.v rfl);have hja:=af J2 (t,.tmp 1) (some (bG w1.heap.size Fa 81 (rI.row.set 0 (Q' r.1.code))));have f1:=wy.frozen hja 1;obtain⟨v1,c1,_⟩:=wy.YJ hja (j:=1) rfl;obtain⟨Fb,_,hKb⟩:=wy.set hja 1 (a:=.aq r.1.wn 1 (r.1.w.map wr)) (v:=.slice A r.1.w.length cA) FU;rw[aK]at hKb;have g1:=T6 (v:=.slice A r.1.w.length cA) c1;have g0:=hKb.cell (af _ _ _) (j:=0) rfl;have hall:=NX hm hR hc hl hn (fun k h1 h2 h3=>by
    rw[ae _ _ (aa (h1 1)),qB,ae _ _ (aa h2),ae _ _ (aa h3),ae _ _ (aa (h1 1)),ae _ _ (aa (h1 0))])
   (aC hjp (aa fun e=>by cases e)) (aC hjn (aa fun e=>by cases e)) (aP hjf) hKb hpl fI hlv (af _ _ _) g0 g1 FU
  refine⟨r.1.code,A,r.1.w.length,cA,r.2.1,rfl,?_,f0,f1,⟨_,c0⟩,⟨_,c1⟩,?_,hall.1,hall.2⟩
  ·exact T7 bq hl hn (Qk (fun _ e=>by cases e) (fun e=>by cases e) (fun e=>by cases e) Cb) ⟨F0,Qk (fun _ e=>by cases e) (fun e=>by cases e) (fun e=>by cases e) dF⟩ lk ⟨_,VJ⟩ (Qk (fun _ e=>by cases e) (fun e=>by cases e) (fun e=>by cases e) hIn)
  ·exact T7 hKb hl hn (aC (Qk (fun _ e=>by cases e) (fun e=>by cases e) (fun e=>by cases e) Cb) (aa fun e=>by cases e)) ⟨F0,aC (Qk (fun _ e=>by cases e) (fun e=>by cases e) (fun e=>by cases e) dF) (aa fun e=>by cases e)⟩ lk
    ⟨_,aC VJ (aa fun e=>by cases e)⟩ (aC (Qk (fun _ e=>by cases e) (fun e=>by cases e) (fun e=>by cases e) hIn) (aa fun e=>by cases e))
end
