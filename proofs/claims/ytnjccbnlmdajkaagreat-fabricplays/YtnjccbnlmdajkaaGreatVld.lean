/- Verbs on a fabric of n nodes. -/
import Derived.Test.YtnjccbnlmdajkaaGreatPair
import Derived.Test.YtnjccbnlmdajkaaGreatEv13
set_option linter.all false
namespace Go.Proofs.YtnjccbnlmdajkaaGreat
open Go.Ev Go.RowKit
attribute [local congr] ek er
set_option maxRecDepth 10000
def Vb.Vl(v:Vb)(n lines:Int):Prop:=1<=lines/\lines<=256/\0<=v.node/\v.node<n/\0<=v.at_/\v.at_<lines*8/\v.cnt<=1024/\v.hi<lines/\v.hi-v.lo<128
instance (v:Vb) (n lines:Int):Decidable (v.Vl n lines):=by unfold Vb.Vl;infer_instance
def Vb.eT(v:Vb)(n lines:Int):Int:=if v.cnt<1 then 1 else if¬v.Vl n lines then 2 else if v.lo<=v.qy/\v.qy<v.hi then 2 else 0
theorem BW{v:Vb}{n lines:Int}(hn:n<=5)(h:v.eT n lines=0):v.bad lines=0/\0<=v.node/\v.node<n:=by
 unfold Vb.eT at h;split at h
 ·cases h
 split at h
 ·cases h
 split at h
 ·cases h
 rename_i h1 h2 h3;obtain⟨g1,g2,g3,g4,g5⟩:=ahh.1 h2;refine⟨jh.2 ⟨by omega,⟨g1,g2,g3,by omega,g5⟩,by omega⟩,g3,g4⟩
theorem LP(v:Vb)(n lines:Int)(hn:1<=n/\n<=5)(h:1<=v.cnt):ev 98 [.agg v.row,Q' n,Q' lines]=some [.v (.bool (decide (v.Vl n lines)))]:=by
 have hc:=rG v;have hs:=zN v;have no:∀{x:Option (List AV)},¬v.Vl n lines->x=some [.v (.bool false)]->x=some [.v (.bool (decide (v.Vl n lines)))]:=fun hn hx=>by rw[kq hn];exact hx
 unfold Vb.row at*;rw[acJ];refine cF (aO (by omega)) (cF (aO (by omega)) ?_);by_cases h1:lines<1
 ·exact no (fun g=>by have:=g.1;omega) (cT (aT h1) rfl)
 refine cF (aO (by omega)) ?_;by_cases h2:256<lines
 ·exact no (fun g=>by have:=g.2.1;omega) (cT (aT h2) rfl)
 refine cF (aO (by omega)) ?_;by_cases h3:v.node<0
 ·exact no (fun g=>by have:=g.2.2.1;omega) (cT (aT h3) rfl)
 refine cF (aO (by omega)) ?_;by_cases h4:n<=v.node
 ·exact no (fun g=>by have:=g.2.2.2.1;omega) (cT (cd h4) rfl)
 refine cF (gE (by omega)) ?_;by_cases h5:v.at_<0
 ·exact no (fun g=>by have:=g.2.2.2.2.1;omega) (cT (aT h5) rfl)
 refine cF (aO (by omega)) ?_;have e1:IntKind.i64.wrap (lines*8)=lines*8:=by rw[aD];omega
 rw[e1];by_cases h6:lines*8<=v.at_
 ·exact no (fun g=>by have:=g.2.2.2.2.2.1;omega) (cT (cd h6) rfl)
 refine cF (gE (by omega)) (fM hc (cT rfl ?_));by_cases h7:1024<v.cnt
 ·exact no (fun g=>by have:=g.2.2.2.2.2.2.1;omega) (cT (aT h7) rfl)
 have hs:=hs (by omega) (by omega);refine cF (aO (show v.cnt<=1024 by omega)) (fM hs (cT rfl (cT rfl ?_)));by_cases h8:v.hi<lines
 ·refine cT (aT h8) ?_;have e2:IntKind.i64.wrap (v.hi-v.lo)=v.hi-v.lo:=by unfold Vb.hi Vb.lo at*;rw[aD];omega
  show some [AV.v (.bool (cq (IntKind.i64.wrap (v.hi-v.lo)) 128))]=_;rw[e2];by_cases h9:v.hi-v.lo<128
  ·rw[aT h9,oS];exact⟨by omega,by omega,by omega,by omega,by omega,by omega,by omega,h8,h9⟩
  ·exact no (fun g=>by have:=g.2.2.2.2.2.2.2.2;omega) (by rw[aO (by omega)])
 ·exact no (fun g=>by have:=g.2.2.2.2.2.2.2.1;omega) (cF (aO (show lines<=v.hi by omega)) rfl)
theorem PM(v:Vb)(n lines:Int)(hn:1<=n/\n<=5):ev 68 [.agg v.row,Q' n,Q' lines]=some [Q' (v.eT n lines)]:=by
 have hc:=rG v;have hl:=FL v;have hi:=LP v n lines hn;have hs:=zN v;unfold Vb.eT;unfold Vb.row at*;rw[acI];refine fM hc (cT rfl ?_);by_cases h1:v.cnt<1
 ·rw[ee h1];exact cT (aT h1) rfl
 rw[eg h1];refine cF (aO (show 1<=v.cnt by omega)) (fM (hi (by omega)) (cT rfl ?_));by_cases h2:v.Vl n lines
 ·rw[eg (B8 h2),oS h2];obtain⟨g1,g2,g3,g4,g5,g6,g7,g8,g9⟩:=h2;refine cF rfl (fM (hs (by omega) (by omega)) (cT rfl (cT rfl (fM hl (cT rfl ?_)))));by_cases h3:v.lo<=v.qy
  ·refine cT (cd h3) (fM hl (cT rfl ?_));by_cases h4:v.qy<v.hi
   ·rw[ee ⟨h3,h4⟩];exact cT (aT h4) rfl
   ·rw[eg (fun g=>h4 g.2)];exact cF (aO (show v.hi<=v.qy by omega)) rfl
  ·rw[eg (fun g=>h3 g.1)];exact cF (gE (show v.qy<v.lo by omega)) rfl
 ·rw[ee h2,kq h2];exact cT rfl rfl
end Go.Proofs.YtnjccbnlmdajkaaGreat
namespace Go.Proofs.YtnjccbnlmdajkaaGreat
open Go.RowKit Go.Shelf Go.Lib Go.Ev
set_option maxRecDepth 100000
section
inductive FK where
 |cM|gO|cls|lO
 |dG (i:Nat)|lu (c:Nat)|mO (c:Nat)|par (c i:Nat)|BX (c i:Nat)|kC (k:Nat)|tmp (n:Nat)
 deriving DecidableEq
abbrev Ky:=Nat×FK
structure qm where
 ws:List Int
 dn:Bool
structure th where
 p:Pr
 pl:List Int
structure gh where
 code:Int
 wn:Bool
 w:List Int
structure mU where
 al:Bool
 inc:Int
 ln:List th
 ba:List gh
 wt:Int
 tr:Int
 po:Int
structure mV where
 lines:Int
 nd:List qm
 cl:List mU
 os:List Pr
structure ur where
 b:Nat
 a:qm
structure ik where
 b:Nat
 v:Value
 a:th
structure dH where
 al:Bool
 inc:Int
 lv:Value
 ln:List ik
 bv:Value
 ba:List gh
 wt:Int
 tr:Int
 po:Int
structure qz where
 b:Nat
 p:Pr
structure gN where
 lines:Int
 nv:Value
 nd:List ur
 cv:Value
 cl:List dH
 ov:Value
 os:List qz
def dH.a(x:dH):mU:=⟨x.al,x.inc,x.ln.map ik.a,x.ba,x.wt,x.tr,x.po⟩
def gN.a(s:gN):mV:=⟨s.lines,s.nd.map ur.a,s.cl.map dH.a,s.os.map qz.p⟩
abbrev ptr(b:Nat):Value:=.pointer (some ⟨b,0,none⟩)
def kY(x:Int):List AV:=[Q' x]
def gh.row(d:gh):List AV:=[Q' d.code,.aq d.wn 1 (d.w.map wr)]
def ur.row(n:ur):List AV:=[.v (ptr n.b)]
def ik.row(l:ik):List AV:=[.v (ptr l.b),.v l.v]
def dH.row(x:dH):List AV:=[.v (.bool x.al),Q' x.inc,.v x.lv,.v x.bv,Q' x.wt,Q' x.tr,Q' x.po]
def qz.row(o:qz):List AV:=[.v (ptr o.b)]
def gN.cells(s:gN):List AV:=[Q' s.lines,.v s.nv,.v s.cv,.v s.ov]
def sL(a:qm):List AV:=[.ow false 69 1 (a.ws.map wr),.v (.bool a.dn)]
def yI(p:Pr):List AV:=[Q' p.c,Q' p.inc,Q' p.node,.ow p.qn 71 9 (p.q.map Vb.row),Q' p.ex,.ow p.wn 69 1 (p.w.map wr)]
def pzC(p:Pr):List AV:=[Q' p.c,Q' p.inc,Q' p.node,.ow p.qn 71 9 (p.q.map Vb.row),Q' p.ex,.aq true 0 []]
structure S2(t:Nat)(I:Ky->Option ag)(c:Nat)(x:dH):Prop where
 ls:Row I (t,.lu c) x.lv 118 2 (x.ln.map ik.row)
 bs:Row I (t,.mO c) x.bv 81 2 (x.ba.map gh.row)
 bn:x.ba=[]->x.bv=.slice none 0 0
 ps:∀i l,x.ln[i]?=some l->∃F,I (t,.par c i)=some (bG l.b F 139 (yI l.a.p))
 S5:∀i l,x.ln[i]?=some l->Row I (t,.BX c i) l.v 3 1 (l.a.pl.map kY)
structure ji(t:Nat)(I:Ky->Option ag)(fb:Nat)(s:gN):Prop where
 cM:∃F,I (t,.cM)=some (bG fb F 48 s.cells)
 gO:Row I (t,.gO) s.nv 49 1 (s.nd.map ur.row)
 dG:∀i n,s.nd[i]?=some n->∃F,I (t,.dG i)=some (bG n.b F 112 (sL n.a))
 cls:Row I (t,.cls) s.cv 99 7 (s.cl.map dH.row)
 cl:∀c x,s.cl[c]?=some x->S2 t I c x
 YX:Row I (t,.lO) s.ov 101 1 (s.os.map qz.row)
 os:∀k o,s.os[k]?=some o->∃F,I (t,.kC k)=some (bG o.b F 139 (yI o.p))
def FK.mT(c:Nat):FK->Bool
 | .lu d=>d==c
 | .mO d=>d==c
 | .par d _=>d==c
 | .BX d _=>d==c
 |_=>false
theorem S2.of{t:Nat}{I J:Ky->Option ag}{c:Nat}{x:dH}(h:S2 t I c x)(hJ:∀k,k.mT c=true->J (t,k)=I (t,k)):S2 t J c x:=
 ⟨h.ls.same (hJ _ (by simp[FK.mT])),h.bs.same (hJ _ (by simp[FK.mT])),h.bn,fun i l hl=>by
  rw[hJ _ (by simp[FK.mT])];exact h.ps i l hl,fun i l hl=>(h.S5 i l hl).same (hJ _ (by simp[FK.mT]))⟩
theorem S6{c d:Nat}(h:c≠d){k:FK}(hk:k.mT c=true):k.mT d=false:=by
 cases k<;>simp_all [FK.mT]
theorem ji.of{t:Nat}{I J:Ky->Option ag}{fb:Nat}{s:gN}(h:ji t I fb s)(hJ:∀k,(∀n,k≠ .tmp n)->J (t,k)=I (t,k)):ji t J fb s:=
 ⟨by rw[hJ _ (fun n e=>by cases e)];exact h.cM,h.gO.same (hJ _ fun n e=>by cases e),fun i n hn=>by
  rw[hJ _ (fun n e=>by cases e)];exact h.dG i n hn,h.cls.same (hJ _ fun n e=>by cases e),fun c x hx=>(h.cl c x hx).of fun k hk=>hJ k fun n e=>by subst e;simp[FK.mT]at hk,h.YX.same (hJ _ fun n e=>by cases e),fun k o ho=>by
  rw[hJ _ (fun n e=>by cases e)];exact h.os k o ho⟩
theorem bQ{α:Type}{l:List α}{n m:Nat}{x y:α}(h:(l.set n x)[m]?=some y):(m=n/\y=x)\/(m≠n/\l[m]?=some y):=by
 rw[mj]at h;by_cases e:n=m
 ·rw[ee e]at h;by_cases g:n<l.length
  ·rw[ee g]at h;cases h;exact .inl ⟨e.symm,rfl⟩
  ·rw[eg g]at h;cases h
 ·rw[eg e]at h;exact .inr ⟨fun q=>e q.symm,h⟩
theorem aF{α β:Type}(f:α->β)(l:List α)(n:Nat)(x:α):(l.set n x).map f=(l.map f).set n (f x):=ahl ..
theorem ji.di{t:Nat}{I J:Ky->Option ag}{fb:Nat}{s:gN}(h:ji t I fb s){c:Nat}{x':dH}(hJ:∀k,k≠ .cls->k.mT c=false->(∀n,k≠ .tmp n)->J (t,k)=I (t,k))
  (hc:Row J (t,.cls) s.cv 99 7 ((s.cl.map dH.row).set c x'.row)) (hx:S2 t J c x'):ji t J fb {s with cl:=s.cl.set c x'}:=by
 refine⟨?_,h.gO.same (hJ _ (fun e=>by cases e) rfl fun n e=>by cases e),fun i n hn=>?_,?_,fun d y hy=>?_,h.YX.same (hJ _ (fun e=>by cases e) rfl fun n e=>by cases e),fun k o ho=>?_⟩
 ·rw[hJ _ (fun e=>by cases e) rfl fun n e=>by cases e];exact h.cM
 ·rw[hJ _ (fun e=>by cases e) rfl fun n e=>by cases e];exact h.dG i n hn
 ·show Row J (t,.cls) s.cv 99 7 ((s.cl.set c x').map dH.row);rw[aF];exact hc
 ·rcases bQ hy with⟨rfl,rfl⟩|⟨ne,hy⟩
  ·exact hx
  ·exact(h.cl d y hy).of fun k hk=>hJ k (fun e=>by subst e;simp[FK.mT]at hk) (S6 ne hk) fun n e=>by subst e;simp[FK.mT]at hk
 ·rw[hJ _ (fun e=>by cases e) rfl fun n e=>by cases e];exact h.os k o ho
theorem ji.node{t:Nat}{I J:Ky->Option ag}{fb:Nat}{s:gN}(h:ji t I fb s){i:Nat}{n:ur}(hn:s.nd[i]?=some n){a:qm}{F:List Nat}(hJ:∀k,k≠ .dG i->(∀n,k≠ .tmp n)->J (t,k)=I (t,k))(hi:J (t,.dG i)=some (bG n.b F 112 (sL a))):ji t J fb {s with nd:=s.nd.set i ⟨n.b,a⟩}:=by
 refine⟨?_,?_,fun j m hm=>?_,h.cls.same (hJ _ (fun e=>by cases e) fun n e=>by cases e),fun d y hy=>(h.cl d y hy).of fun k hk=>hJ k (fun e=>by subst e;simp[FK.mT]at hk) (fun n e=>by subst e;simp[FK.mT]at hk),h.YX.same (hJ _ (fun e=>by cases e) fun n e=>by cases e),fun k o ho=>?_⟩
 ·rw[hJ _ (fun e=>by cases e) fun n e=>by cases e];exact h.cM
 ·show Row J (t,.gO) s.nv 49 1 ((s.nd.set i ⟨n.b,a⟩).map ur.row);have:(s.nd.set i ⟨n.b,a⟩).map ur.row=s.nd.map ur.row:=by
   rw[aF];exact kj fun j=>by
    rw[mj];by_cases e:i=j
    ·subst e;rw[ee rfl,ee (by rw[ab];exact(eR.1 hn).1),et,hn];rfl
    ·rw[eg e]
  rw[this];exact h.gO.same (hJ _ (fun e=>by cases e) fun n e=>by cases e)
 ·rcases bQ hm with⟨rfl,rfl⟩|⟨ne,hm⟩
  ·exact⟨F,hi⟩
  ·rw[hJ _ (fun e=>by cases e;exact ne rfl) fun n e=>by cases e];exact h.dG j m hm
 ·rw[hJ _ (fun e=>by cases e) fun n e=>by cases e];exact h.os k o ho
end
section
variable{w W:World}{μ:Mu}{I:Ky->Option ag}{t fb:Nat}{s:gN}
theorem get_map{α β:Type}{f:α->β}{l:List α}{n:Nat}{x:α}(h:l[n]?=some x):(l.map f)[n]?=some (f x):=by rw[et,h];rfl
theorem ji.c0(h:ji t I fb s)(hK:az w μ I W):W.cell? ⟨fb,0,none⟩=some (.int .i64 s.lines):=by obtain⟨F,hF⟩:=h.cM;exact hK.cell hF rfl
theorem ji.c1(h:ji t I fb s)(hK:az w μ I W):W.cell? ⟨fb,1,none⟩=some s.nv:=by obtain⟨F,hF⟩:=h.cM;exact hK.cell hF rfl
theorem ji.c2(h:ji t I fb s)(hK:az w μ I W):W.cell? ⟨fb,2,none⟩=some s.cv:=by obtain⟨F,hF⟩:=h.cM;exact hK.cell hF rfl
theorem ji.c3(h:ji t I fb s)(hK:az w μ I W):W.cell? ⟨fb,3,none⟩=some s.ov:=by obtain⟨F,hF⟩:=h.cM;exact hK.cell hF rfl
theorem NL{α:Type}{l:List α}{n:Nat}{x:α}(h:l[n]?=some x):l≠[]:=fun e=>by subst e;simp at h
theorem aV{α:Type}{l:List α}{n:Nat}{x:α}(h:l[n]?=some x):n<l.length:=(eR.1 h).1
theorem Row.at{α:Type}{k:Ky}{v:Value}{T sz:Nat}{f:α->List AV}{l:List α}{n:Nat}{x:α}(h:Row I k v T sz (l.map f))(hn:l[n]?=some x):∃b c,v=.slice (some ⟨b,0,none⟩) l.length c/\I k=some (aE b c T sz (l.map f)):=by
 obtain⟨b,c,h1,h2⟩:=h.ne (by simpa using NL hn);exact⟨b,c,by rw[h1,ab],h2⟩
structure acY(W:World)(bc c:Nat)(x:dH):Prop where
 al:W.cell? ⟨bc,c*7,none⟩=some (.bool x.al)
 inc:W.cell? ⟨bc,c*7+1,none⟩=some (.int .i64 x.inc)
 lv:W.cell? ⟨bc,c*7+2,none⟩=some x.lv
 bv:W.cell? ⟨bc,c*7+3,none⟩=some x.bv
 wt:W.cell? ⟨bc,c*7+4,none⟩=some (.int .i64 x.wt)
 tr:W.cell? ⟨bc,c*7+5,none⟩=some (.int .i64 x.tr)
 po:W.cell? ⟨bc,c*7+6,none⟩=some (.int .i64 x.po)
theorem acZ(hK:az w μ I W){k:Ky}{bc cc:Nat}{l:List dH}(hI:I k=some (aE bc cc 99 7 (l.map dH.row))){c:Nat}{x:dH}(hc:l[c]?=some x):acY W bc c x:=
 ⟨hK.aL hI (get_map hc) (j:=0) rfl,hK.aL hI (get_map hc) rfl,hK.aL hI (get_map hc) rfl,hK.aL hI (get_map hc) rfl,hK.aL hI (get_map hc) rfl,hK.aL hI (get_map hc) rfl,hK.aL hI (get_map hc) rfl⟩
theorem ji.jy(h:ji t I fb s)(hK:az w μ I W){c:Nat}{x:dH}(hc:s.cl[c]?=some x):∃bc cc,s.cv=.slice (some ⟨bc,0,none⟩) s.cl.length cc/\I (t,.cls)=some (aE bc cc 99 7 (s.cl.map dH.row))/\acY W bc c x:=by
 obtain⟨bc,cc,h1,h2⟩:=Row.at h.cls hc;exact⟨bc,cc,h1,h2,acZ hK h2 hc⟩
theorem ji.PN(h:ji t I fb s)(hK:az w μ I W){i:Nat}{n:ur}(hn:s.nd[i]?=some n):∃bn cn,s.nv=.slice (some ⟨bn,0,none⟩) s.nd.length cn/\I (t,.gO)=some (aE bn cn 49 1 (s.nd.map ur.row))/\W.cell? ⟨bn,i,none⟩=some (ptr n.b):=by
 obtain⟨bc,cc,h1,h2⟩:=Row.at h.gO hn;have:=hK.aL h2 (get_map hn) (j:=0) rfl;rw[oe]at this;exact⟨bc,cc,h1,h2,this⟩
theorem S2.zk{c:Nat}{x:dH}(h:S2 t I c x)(hK:az w μ I W){i:Nat}{l:ik}(hl:x.ln[i]?=some l):∃bl ll,x.lv=.slice (some ⟨bl,0,none⟩) x.ln.length ll/\I (t,.lu c)=some (aE bl ll 118 2 (x.ln.map ik.row))/\W.cell? ⟨bl,i*2,none⟩=some (ptr l.b)/\W.cell? ⟨bl,i*2+1,none⟩=some l.v:=by
 obtain⟨bc,cc,h1,h2⟩:=Row.at h.ls hl;exact⟨bc,cc,h1,h2,hK.aL h2 (get_map hl) (j:=0) rfl,hK.aL h2 (get_map hl) rfl⟩
theorem S2.WE{c:Nat}{x:dH}(h:S2 t I c x)(hK:az w μ I W){i:Nat}{l:ik}(hl:x.ln[i]?=some l):∃A cp,W.cell? ⟨l.b,3,none⟩=some (.slice A l.a.p.q.length cp):=by
 obtain⟨F,hF⟩:=h.ps i l hl;obtain⟨A,cp,e,_⟩:=hK.rowAt hF (j:=3) rfl;rw[ab]at e;exact⟨A,cp,e⟩
theorem ji.aaE(h:ji t I fb s)(hK:az w μ I W){i:Nat}{o:qz}(ho:s.os[i]?=some o):∃bo co,s.ov=.slice (some ⟨bo,0,none⟩) s.os.length co/\I (t,.lO)=some (aE bo co 101 1 (s.os.map qz.row))/\W.cell? ⟨bo,i,none⟩=some (ptr o.b):=by
 obtain⟨bc,cc,h1,h2⟩:=Row.at h.YX ho;have:=hK.aL h2 (get_map ho) (j:=0) rfl;rw[oe]at this;exact⟨bc,cc,h1,h2,this⟩
theorem ji.ovl(h:ji t I fb s):∃A c,s.ov=.slice A s.os.length c:=by
 obtain⟨A,c,h1,_⟩:=h.YX.val;exact⟨A,c,by rw[h1,ab]⟩
theorem Row.af{k:Ky}{b c T sz:Nat}{xs:List (List AV)}{n:Nat}(hn:n=xs.length):Row (put I k (some (aE b c T sz xs))) k (.slice (some ⟨b,0,none⟩) n c) T sz xs:=.inr ⟨b,c,by rw[hn],Ev.af _ _ _⟩
end
