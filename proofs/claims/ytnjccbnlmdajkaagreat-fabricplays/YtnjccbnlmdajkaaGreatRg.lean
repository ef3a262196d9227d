/- The reference's fabric in memory. -/
import Derived.Test.YtnjccbnlmdajkaaGreatSmlW
import Derived.Test.YtnjccbnlmdajkaaGreatVbsW
import Derived.Test.YtnjccbnlmdajkaaGreatEv13
set_option linter.all false
namespace Go.Proofs.YtnjccbnlmdajkaaGreat
open Go.RowKit Go.Shelf Go.Lib Go.Ev
set_option maxRecDepth 100000
variable{c:Nat}{F:List Nat}{v:Value}{ι:Type}{i:Nat}{k:Ky}
structure jr where
 v:Vb
 ex:Nat
 w:List Int
 sl:Nat
structure eI where
 c:Nat
 inc:Int
 nd:Nat
 q:List jr
structure sN where
 al:Bool
 inc:Int
 on:Bool
 dn:List gh
 hv:List Bool
 tr:Int
 po:Int
structure gP where
 lines:Int
 nd:List qm
 cl:List sN
 ln:List (List eI)
 os:List eI
structure qE where
 wv:Value
 a:qm
structure lP where
 dv:Value
 hvv:Value
 a:sN
structure dE where
 qv:Value
 a:eI
structure mW where
 v:Value
 ps:List dE
structure gm where
 lines:Int
 nv:Value
 nd:List qE
 cv:Value
 cl:List lP
 lv:Value
 ln:List mW
 ov:Value
 os:List dE
def mW.a(l:mW):List eI:=l.ps.map dE.a
def gm.a(s:gm):gP:=⟨s.lines,s.nd.map qE.a,s.cl.map lP.a,s.ln.map mW.a,s.os.map dE.a⟩
def jr.row(x:jr):List AV:=[Q' x.v.kind,Q' x.v.node,Q' x.v.at_,Q' x.v.n,Z' x.v.old,Z' x.v.new,.aq x.v.ws.isEmpty 1 (x.v.ws.map wr),Z' x.v.key,Q' x.v.aS,Q' (x.ex:Int),.aq x.w.isEmpty 1 (x.w.map wr),Q' (x.sl:Int)]
def dE.row(p:dE):List AV:=[Q' (p.a.c:Int),Q' p.a.inc,Q' (p.a.nd:Int),.v p.qv]
def LV(μ:Mu)(p:dE):Prop:=DR μ (.aq p.a.q.isEmpty 12 (p.a.q.map jr.row)) p.qv
def qE.row(n:qE):List AV:=[.v n.wv,.v (.bool (!n.a.dn))]
def lP.row(x:lP):List AV:=[.v (.bool x.a.al),Q' x.a.inc,.v (.bool x.a.on),.v x.dv,.v x.hvv,Q' x.a.tr,Q' x.a.po]
def mW.row(l:mW):List AV:=[.v l.v]
def xw(b:Bool):List AV:=[.v (.bool b)]
def gm.cells(s:gm):List AV:=[Q' s.lines,.v s.nv,.v s.cv,.v s.lv,.v s.ov]
structure eM(t:Nat)(I:Ky->Option ag)(fb:Nat)(s:gm):Prop where
 cM:∃F,I (t,.cM)=some (bG fb F 58 s.cells)
 gO:Row I (t,.gO) s.nv 61 2 (s.nd.map qE.row)
 dG:∀i n,s.nd[i]?=some n->Row I (t,.dG i) n.wv 69 1 (n.a.ws.map wr)
 cls:Row I (t,.cls) s.cv 66 7 (s.cl.map lP.row)
 mO:∀c x,s.cl[c]?=some x->Row I (t,.mO c) x.dv 81 2 (x.a.dn.map gh.row)
 Dx:∀c x,s.cl[c]?=some x->Row I (t,.BX c 0) x.hvv 4 1 (x.a.hv.map xw)
 PU:Row I (t,.kC 0) s.lv 56 1 (s.ln.map mW.row)
 lu:∀c l,s.ln[c]?=some l->Row I (t,.lu c) l.v 110 4 (l.ps.map dE.row)
 lO:Row I (t,.lO) s.ov 110 4 (s.os.map dE.row)
section
variable{w0 W:World}{μ:Mu}{I J:Ky->Option ag}{t fb:Nat}{s:gm}
theorem eM.of(h:eM t I fb s)(hJ:∀k,(∀n,k≠ .tmp n)->J (t,k)=I (t,k)):eM t J fb s:=by
 have e:∀k:FK,(∀n,k≠ .tmp n)->J (t,k)=I (t,k):=hJ;exact⟨by rw[e _ (fun n e=>by cases e)];exact h.cM,h.gO.same (e _ fun n e=>by cases e),fun i n hn=>(h.dG i n hn).same (e _ fun n e=>by cases e),h.cls.same (e _ fun n e=>by cases e),fun c x hx=>(h.mO c x hx).same (e _ fun n e=>by cases e),
  fun c x hx=>(h.Dx c x hx).same (e _ fun n e=>by cases e),h.PU.same (e _ fun n e=>by cases e),fun c l hl=>(h.lu c l hl).same (e _ fun n e=>by cases e),h.lO.same (e _ fun n e=>by cases e)⟩
theorem pV{α β:Type}{f:α->β}{l:List α}{n:Nat}{x y:α}(h:l[n]?=some x)(e:f y=f x):(l.set n y).map f=l.map f:=by
 rw[aF];exact kj fun j=>by
  grind
theorem eM.ac4(h:eM t I fb s){l:mW}(hl:s.ln[c]?=some l){l':List dE}(hJ:∀k,k≠ .lu c->(∀n,k≠ .tmp n)->J (t,k)=I (t,k))(hr:Row J (t,.lu c) l.v 110 4 (l'.map dE.row)):eM t J fb {s with ln:=s.ln.set c ⟨l.v,l'⟩}:=by
 refine⟨?_,h.gO.same (hJ _ (fun e=>by cases e) fun n e=>by cases e),fun i n hn=>(h.dG i n hn).same (hJ _ (fun e=>by cases e) fun n e=>by cases e),h.cls.same (hJ _ (fun e=>by cases e) fun n e=>by cases e),fun c x hx=>(h.mO c x hx).same (hJ _ (fun e=>by cases e) fun n e=>by cases e),
  fun c x hx=>(h.Dx c x hx).same (hJ _ (fun e=>by cases e) fun n e=>by cases e),?_,fun d m hm=>?_,h.lO.same (hJ _ (fun e=>by cases e) fun n e=>by cases e)⟩
 ·rw[hJ _ (fun e=>by cases e) fun n e=>by cases e];exact h.cM
 ·show Row J (t,.kC 0) s.lv 56 1 ((s.ln.set c ⟨l.v,l'⟩).map mW.row);rw[pV hl (by rfl)];exact h.PU.same (hJ _ (fun e=>by cases e) fun n e=>by cases e)
 ·rcases bQ hm with⟨rfl,rfl⟩|⟨ne,hm⟩
  ·exact hr
  ·exact(h.lu d m hm).same (hJ _ (fun e=>by cases e;exact ne rfl) fun n e=>by cases e)
theorem eM.Y2(h:eM t I fb s){n:qE}(hn:s.nd[i]?=some n){ws:List Int}(hJ:∀k,k≠ .dG i->(∀n,k≠ .tmp n)->J (t,k)=I (t,k))(hr:Row J (t,.dG i) n.wv 69 1 (ws.map wr)):eM t J fb {s with nd:=s.nd.set i ⟨n.wv,⟨ws,n.a.dn⟩⟩}:=by
 refine⟨?_,?_,fun j m hm=>?_,h.cls.same (hJ _ (fun e=>by cases e) fun n e=>by cases e),fun c x hx=>(h.mO c x hx).same (hJ _ (fun e=>by cases e) fun n e=>by cases e),
  fun c x hx=>(h.Dx c x hx).same (hJ _ (fun e=>by cases e) fun n e=>by cases e),h.PU.same (hJ _ (fun e=>by cases e) fun n e=>by cases e),fun d m hm=>(h.lu d m hm).same (hJ _ (fun e=>by cases e) fun n e=>by cases e),h.lO.same (hJ _ (fun e=>by cases e) fun n e=>by cases e)⟩
 ·rw[hJ _ (fun e=>by cases e) fun n e=>by cases e];exact h.cM
 ·show Row J (t,.gO) s.nv 61 2 ((s.nd.set i ⟨n.wv,⟨ws,n.a.dn⟩⟩).map qE.row);rw[pV hn (by rfl)];exact h.gO.same (hJ _ (fun e=>by cases e) fun n e=>by cases e)
 ·rcases bQ hm with⟨rfl,rfl⟩|⟨ne,hm⟩
  ·exact hr
  ·exact(h.dG j m hm).same (hJ _ (fun e=>by cases e;exact ne rfl) fun n e=>by cases e)
theorem eM.ac5(h:eM t I fb s){n n':qE}(hn:s.nd[i]?=some n)(hJ:∀k,k≠ .gO->k≠ .dG i->(∀n,k≠ .tmp n)->J (t,k)=I (t,k))(hr:Row J (t,.gO) s.nv 61 2 ((s.nd.set i n').map qE.row))(hw:Row J (t,.dG i) n'.wv 69 1 (n'.a.ws.map wr)):eM t J fb {s with nd:=s.nd.set i n'}:=by
 refine⟨?_,hr,fun j m hm=>?_,h.cls.same (hJ _ (fun e=>by cases e) (fun e=>by cases e) fun n e=>by cases e),fun c x hx=>(h.mO c x hx).same (hJ _ (fun e=>by cases e) (fun e=>by cases e) fun n e=>by cases e),
  fun c x hx=>(h.Dx c x hx).same (hJ _ (fun e=>by cases e) (fun e=>by cases e) fun n e=>by cases e),h.PU.same (hJ _ (fun e=>by cases e) (fun e=>by cases e) fun n e=>by cases e),fun d m hm=>(h.lu d m hm).same (hJ _ (fun e=>by cases e) (fun e=>by cases e) fun n e=>by cases e),h.lO.same (hJ _ (fun e=>by cases e) (fun e=>by cases e) fun n e=>by cases e)⟩
 ·rw[hJ _ (fun e=>by cases e) (fun e=>by cases e) fun n e=>by cases e];exact h.cM
 ·rcases bQ hm with⟨rfl,rfl⟩|⟨ne,hm⟩
  ·exact hw
  ·exact(h.dG j m hm).same (hJ _ (fun e=>by cases e) (fun e=>by cases e;exact ne rfl) fun n e=>by cases e)
theorem eM.clS(h:eM t I fb s){x':lP}(hJ:∀k,k≠ .cls->k≠ .mO c->k≠ .BX c 0->(∀n,k≠ .tmp n)->J (t,k)=I (t,k))(hr:Row J (t,.cls) s.cv 66 7 ((s.cl.set c x').map lP.row))(hb:Row J (t,.mO c) x'.dv 81 2 (x'.a.dn.map gh.row))(hh:Row J (t,.BX c 0) x'.hvv 4 1 (x'.a.hv.map xw)):eM t J fb {s with cl:=s.cl.set c x'}:=by
 have e:∀k:FK,k≠ .cls->k≠ .mO c->k≠ .BX c 0->(∀n,k≠ .tmp n)->J (t,k)=I (t,k):=hJ;refine⟨?_,h.gO.same ?_,fun i n hn=>(h.dG i n hn).same ?_,hr,fun d x hx=>?_,fun d x hx=>?_,h.PU.same ?_,fun d m hm=>(h.lu d m hm).same ?_,h.lO.same ?_⟩
 ·rw[e _ (fun e=>by cases e) (fun e=>by cases e) (fun e=>by cases e) fun n e=>by cases e];exact h.cM
 ·grind
 ·grind
 ·rcases bQ hx with⟨rfl,rfl⟩|⟨ne,hx⟩
  ·exact hb
  ·exact(h.mO d x hx).same (e _ (fun e=>by cases e) (fun e=>by cases e;exact ne rfl) (fun e=>by cases e) fun n e=>by cases e)
 ·rcases bQ hx with⟨rfl,rfl⟩|⟨ne,hx⟩
  ·exact hh
  ·exact(h.Dx d x hx).same (e _ (fun e=>by cases e) (fun e=>by cases e) (fun e=>by cases e;exact ne rfl) fun n e=>by cases e)
 all_goals grind
theorem eM.orS(h:eM t I fb s){ov:Value}{os:List dE}(hJ:∀k,k≠ .cM->k≠ .lO->(∀n,k≠ .tmp n)->J (t,k)=I (t,k))(hf:J (t,.cM)=some (bG fb F 58 {s with ov:=ov}.cells))(hr:Row J (t,.lO) ov 110 4 (os.map dE.row)):eM t J fb {s with ov:=ov,os:=os}:=by
 have e:∀k:FK,k≠ .cM->k≠ .lO->(∀n,k≠ .tmp n)->J (t,k)=I (t,k):=hJ;refine⟨⟨F,hf⟩,h.gO.same ?_,fun i n hn=>(h.dG i n hn).same ?_,h.cls.same ?_,fun d x hx=>(h.mO d x hx).same ?_,fun d x hx=>(h.Dx d x hx).same ?_,h.PU.same ?_,fun d m hm=>(h.lu d m hm).same ?_,hr⟩
 all_goals grind
theorem eM.lvS(h:eM t I fb s){l':mW}(hJ:∀k,k≠ .kC 0->k≠ .lu c->(∀n,k≠ .tmp n)->J (t,k)=I (t,k))(hr:Row J (t,.kC 0) s.lv 56 1 ((s.ln.set c l').map mW.row))(hl:Row J (t,.lu c) l'.v 110 4 (l'.ps.map dE.row)):eM t J fb {s with ln:=s.ln.set c l'}:=by
 have e:∀k:FK,k≠ .kC 0->k≠ .lu c->(∀n,k≠ .tmp n)->J (t,k)=I (t,k):=hJ;refine⟨?_,h.gO.same ?_,fun i n hn=>(h.dG i n hn).same ?_,h.cls.same ?_,fun d x hx=>(h.mO d x hx).same ?_,fun d x hx=>(h.Dx d x hx).same ?_,hr,fun d m hm=>?_,h.lO.same ?_⟩
 ·rw[e _ (fun e=>by cases e) (fun e=>by cases e) fun n e=>by cases e];exact h.cM
 ·grind
 ·grind
 ·grind
 ·grind
 ·grind
 ·rcases bQ hm with⟨rfl,rfl⟩|⟨ne,hm⟩
  ·exact hl
  ·exact(h.lu d m hm).same (e _ (fun e=>by cases e) (fun e=>by cases e;exact ne rfl) fun n e=>by cases e)
 grind
theorem eM.c0(h:eM t I fb s)(hK:az w0 μ I W):W.cell? ⟨fb,0,none⟩=some (.int .i64 s.lines):=by obtain⟨F,hF⟩:=h.cM;exact hK.cell hF rfl
theorem eM.c1(h:eM t I fb s)(hK:az w0 μ I W):W.cell? ⟨fb,1,none⟩=some s.nv:=by obtain⟨F,hF⟩:=h.cM;exact hK.cell hF rfl
theorem eM.c2(h:eM t I fb s)(hK:az w0 μ I W):W.cell? ⟨fb,2,none⟩=some s.cv:=by obtain⟨F,hF⟩:=h.cM;exact hK.cell hF rfl
theorem eM.c3(h:eM t I fb s)(hK:az w0 μ I W):W.cell? ⟨fb,3,none⟩=some s.lv:=by obtain⟨F,hF⟩:=h.cM;exact hK.cell hF rfl
theorem eM.c4(h:eM t I fb s)(hK:az w0 μ I W):W.cell? ⟨fb,4,none⟩=some s.ov:=by obtain⟨F,hF⟩:=h.cM;exact hK.cell hF rfl
structure aaK(W:World)(bc c:Nat)(x:lP):Prop where
 al:W.cell? ⟨bc,c*7,none⟩=some (.bool x.a.al)
 inc:W.cell? ⟨bc,c*7+1,none⟩=some (.int .i64 x.a.inc)
 on:W.cell? ⟨bc,c*7+2,none⟩=some (.bool x.a.on)
 dv:W.cell? ⟨bc,c*7+3,none⟩=some x.dv
 hv:W.cell? ⟨bc,c*7+4,none⟩=some x.hvv
 tr:W.cell? ⟨bc,c*7+5,none⟩=some (.int .i64 x.a.tr)
 po:W.cell? ⟨bc,c*7+6,none⟩=some (.int .i64 x.a.po)
theorem xx(hK:az w0 μ I W){bc cc:Nat}{l:List lP}(hI:I k=some (aE bc cc 66 7 (l.map lP.row))){x:lP}(hc:l[c]?=some x):aaK W bc c x:=
 ⟨hK.aL hI (get_map hc) (j:=0) rfl,hK.aL hI (get_map hc) rfl,hK.aL hI (get_map hc) rfl,hK.aL hI (get_map hc) rfl,hK.aL hI (get_map hc) rfl,hK.aL hI (get_map hc) rfl,hK.aL hI (get_map hc) rfl⟩
theorem eM.jy(h:eM t I fb s)(hK:az w0 μ I W){x:lP}(hc:s.cl[c]?=some x):∃bc cc,s.cv=.slice (some ⟨bc,0,none⟩) s.cl.length cc/\I (t,.cls)=some (aE bc cc 66 7 (s.cl.map lP.row))/\aaK W bc c x:=by
 obtain⟨bc,cc,h1,h2⟩:=Row.at h.cls hc;exact⟨bc,cc,h1,h2,xx hK h2 hc⟩
theorem Row.len{α:Type}{T sz:Nat}{f:α->List AV}{l:List α}(h:Row I k v T sz (l.map f)):∃A c,v=.slice A l.length c:=by
 obtain⟨A,c,h1,_⟩:=h.val;grind
theorem zk(hK:az w0 μ I W)(h:eM t I fb s){l:mW}(hl:s.ln[c]?=some l):∃bl cl,s.lv=.slice (some ⟨bl,0,none⟩) s.ln.length cl/\I (t,.kC 0)=some (aE bl cl 56 1 (s.ln.map mW.row))/\W.cell? ⟨bl,c,none⟩=some l.v:=by
 obtain⟨bc,cc,h1,h2⟩:=Row.at h.PU hl;have:=hK.aL h2 (get_map hl) (j:=0) rfl;grind
structure ac6(W:World)(b i:Nat)(p:dE):Prop where
 c:W.cell? ⟨b,i*4,none⟩=some (.int .i64 (p.a.c:Int))
 inc:W.cell? ⟨b,i*4+1,none⟩=some (.int .i64 p.a.inc)
 nd:W.cell? ⟨b,i*4+2,none⟩=some (.int .i64 (p.a.nd:Int))
 q:W.cell? ⟨b,i*4+3,none⟩=some p.qv
theorem Cd(hK:az w0 μ I W){bc cc:Nat}{l:List dE}(hI:I k=some (aE bc cc 110 4 (l.map dE.row))){p:dE}(hp:l[i]?=some p):ac6 W bc i p:=
 ⟨hK.aL hI (get_map hp) (j:=0) rfl,hK.aL hI (get_map hp) rfl,hK.aL hI (get_map hp) rfl,hK.aL hI (get_map hp) rfl⟩
theorem LV.val{p:dE}(h:LV μ p):∃Q qc,p.qv=.slice Q p.a.q.length qc:=by
 obtain⟨Q,qc,e,_⟩:=eZ h;grind
theorem LV.mono{μ':Mu}{p:dE}(h:LV μ p)(hm:ak μ μ'):LV μ' p:=DR.mono hm h
structure wz(μ:Mu)(s:gm):Prop where
 ln:∀(c:Nat) (l:mW),s.ln[c]?=some l->∀p∈l.ps,LV μ p
 os:∀p∈s.os,LV μ p
theorem wz.mono{μ':Mu}(h:wz μ s)(hm:ak μ μ'):wz μ' s:=⟨fun c l hl p hp=>(h.ln c l hl p hp).mono hm,fun p hp=>(h.os p hp).mono hm⟩
theorem _root_.Go.Ev.az.Ku[DecidableEq ι]{w W:World}{μ:Mu}{I:ι->Option ag}(h:az w μ I W){k:ι}{b T sz:Nat}{xs:List (List AV)}(hk:I k=some (aE b c T sz xs)){j:Nat}{e:List AV}{u a:AV}(he:xs[i]?=some e)(hu:e[j]?=some u)(hj:j<sz)(ha:DR μ a v):
  ∃W',St W b (i*sz+j) v W'/\az w μ (put I k (some (aE b c T sz (xs.set i (e.set j a))))) W':=by
 obtain⟨x,hx,_⟩:=h.FE hk he hu;exact⟨_,⟨h.dN hk (aV he) hj,⟨x,hx⟩,rfl⟩,h.oF hk he hj ha⟩
theorem _root_.Go.Ev.az.Jw[DecidableEq ι]{w W:World}{μ:Mu}{I:ι->Option ag}(h:az w μ I W){k:ι}{b ty:Nat}{cs:List AV}(hk:I k=some (bG b F ty cs)){j:Nat}{u a:AV}(hu:cs[j]?=some u)(ha:DR μ a v):
  ∃W' F',St W b j v W'/\(∀x∈F',x∈F)/\az w μ (put I k (some (bG b F' ty (cs.set j a)))) W':=by
 obtain⟨F',hF',hK⟩:=h.set hk j ha;obtain⟨_,x,hx,_⟩:=h.at hk hu;exact⟨_,F',⟨h.frozen hk j,⟨x,hx⟩,rfl⟩,hF',hK⟩
theorem _root_.Go.Ev.az.plain[DecidableEq ι]{w W:World}{μ:Mu}{I:ι->Option ag}(h:az w μ I W){k:ι}{b ty:Nat}{vs:List Value}(hk:I k=some (bG b F ty (vs.map AV.v))):W.heap[b]?=some (.cells vs.toArray ty (0,0)):=by
 obtain⟨F',cur,_,h2,_,h4⟩:=h.ob hk;have:∀{vs:List Value} {us:List Value} {F:List Nat},nB μ (hf W) F (vs.map AV.v) us->us=vs:=fun{vs}=>by
  induction vs with
  |nil=>intro us F h;cases h;rfl
  |cons v vs ih=>
   intro us F h;cases h with
   |cons h1 h2=>rw[(aap h1).1,ih h2]
 rw[h2,<-this h4]
end
