/- The reference's verbs. -/
import Derived.Test.YtnjccbnlmdajkaaGreatVld
import Derived.Test.YtnjccbnlmdajkaaGreatEqS
import Derived.Test.YtnjccbnlmdajkaaGreatRhX
set_option linter.all false
namespace Go.Proofs.YtnjccbnlmdajkaaGreat
open Go.Proofs.Tryz renaming prog->U'
open Go.Ev Go.RowKit
section
attribute [local congr] ek er
set_option maxRecDepth 10000
theorem vS(v:Vb)(h:1<=v.kind/\v.kind<=4):ev 105 [.agg v.row]=some [Q' v.cnt]:=by
 unfold Vb.row Vb.cnt lK;rw[adl,ab];grind
def pW(l:List (Int×Int)):List (List AV):=l.map fun x=>[Q' x.1,Q' x.2]
theorem aaP(a l:Int):(if IntKind.i64.wrap (8-Int.tmod a 8)<l then IntKind.i64.wrap (8-Int.tmod a 8)else l)=qk a l:=by
 unfold qk wrap64;rw[aD]
theorem Er:∀(k:Nat) (f:Bool) (a l:Int) (b0:List (List AV)),l<=k->l<=100000->b0.length+l<=1000000->∃f':Bool,
  lp 109 0 0 ⟨[(3,.sl f 0 0 none),(4,Q' a),(5,Q' l)],[⟨1,165,2,false,b0⟩]⟩=some ⟨some 0,⟨[(3,.sl f' 0 0 none)],[⟨1,165,2,false,b0++pW (eD a l)⟩]⟩,[]⟩
 |0,f,a,l,b0,hk,hl,hb=>by
  refine⟨f,?_⟩;rw[FX,aO (by omega),vO (by omega)];show some (LR.mk _ _ _)=some (LR.mk _ ⟨_,[⟨1,_,2,false,b0++[]⟩]⟩ _);rw[ir]
 |k+1,f,a,l,b0,hk,hl,hb=>by
  by_cases h:0<l
  ·have hp:=sw (a:=a) h;obtain⟨f',ih⟩:=Er k false (wrap64 (a+qk a l)) (l-qk a l) (b0++[[Q' a,Q' (qk a l)]]) (by omega) (by omega) (by grind);refine⟨f',?_⟩;have e1:IntKind.i64.wrap (a+qk a l)=wrap64 (a+qk a l):=by unfold wrap64;rw[aD]
   have e2:IntKind.i64.wrap (l-qk a l)=l-qk a l:=by rw[aD];omega
   rw[FX,aaP,aT h,vJ (by omega),e1,e2];refine ih.trans ?_;rw[vN h,fh];rfl
  ·refine⟨f,?_⟩;rw[FX,aO (by omega),vO (by omega)];show some (LR.mk _ _ _)=some (LR.mk _ ⟨_,[⟨1,_,2,false,b0++[]⟩]⟩ _);rw[ir]
theorem P1(v:Vb)(h:1<=v.kind/\v.kind<=4)(hc:v.cnt<=100000):∃f:Bool,ev 109 [.agg v.row]=some [.ow f 165 2 (pW (eD v.at_ v.cnt))]:=by
 have h1:=vS v h;obtain⟨f',h2⟩:=Er v.cnt.toNat true v.at_ v.cnt [] (by omega) hc (by grind);refine⟨f',?_⟩;unfold Vb.row at*;rw[adn];exact fM h1 (cT rfl (fM h2 (cT rfl (cT rfl rfl))))
theorem Ty(v:Vb)(lines:Int):ev 78 [.agg v.row,Q' 5,Q' lines]=some [Q' (v.bad lines)]:=by
 have hc:=vS v;have k1:∀{x:Option (List AV)},v.cnt<1->x=some [Q' 1]->x=some [Q' (v.bad lines)]:=fun h hx=>by
  unfold Vb.bad;rw[ee h];exact hx
 have k2:∀{x:Option (List AV)},1<=v.cnt->¬v.In lines->x=some [Q' 2]->x=some [Q' (v.bad lines)]:=fun h h2 hx=>by
  unfold Vb.bad;grind
 have k3:∀{x:Option (List AV)},1<=v.cnt->v.In lines->x=some [Q' (if v.lo<=v.qy/\v.qy<v.hi then 2 else 0)]->x=some [Q' (v.bad lines)]:=fun h h2 hx=>by
  unfold Vb.bad;grind
 have Cg:v.cnt=if v.kind=1 then v.n else if v.kind=2 then(v.ws.length:Int)else if v.kind=3\/v.kind=4 then 1 else 0:=rfl
 have FY:v.qy=if v.kind=1 then 3 else 2:=rfl
 have hin:v.In lines↔(1<=lines/\lines<=256/\0<=v.node/\v.node<5/\0<=v.at_/\v.at_<lines*8/\v.cnt<=1024/\v.hi<lines/\v.hi-v.lo<128):=Iff.rfl;have hlo:v.lo=v.at_/8:=rfl;have hhi:v.hi=(v.at_+v.cnt-1)/8:=rfl;unfold Vb.row at*;rw[adk,ab];by_cases h1:v.kind<1
 ·refine k1 ?_ (cT (aT h1) rfl);grind
 refine cF (aO (by omega)) ?_;by_cases h2:4<v.kind
 ·refine k1 ?_ (cT (aT h2) rfl);grind
 refine cF (aO (by omega)) ?_;have hc:=hc (by omega);by_cases hk1:v.kind=1
 case' pos=>
  rw[ee hk1]at Cg FY;refine cT (mN hk1) ?_;by_cases hn:v.n<1
  case pos=>exact k1 (by omega) (cT (aT hn) rfl)
  refine cF (aO (by omega)) (cF (fO (by omega)) ?_);have hpos:1<=v.cnt:=by omega
 case' neg=>
  rw[eg hk1]at Cg FY;refine cF (fO hk1) ?_;by_cases hk2:v.kind=2
  case' pos=>
   rw[ee hk2]at Cg;refine cT (mN hk2) ?_;by_cases hn:(v.ws.length:Int)<1
   case pos=>exact k1 (by omega) (cT (aT hn) rfl)
   refine cF (aO (by omega)) ?_;have hpos:1<=v.cnt:=by omega
  case' neg=>
   rw[eg hk2,ee (by omega)]at Cg;refine cF (fO hk2) ?_;have hpos:1<=v.cnt:=by omega
 all_goals
  refine fM hc (cT rfl ?_);refine cF rfl (cF rfl ?_);by_cases g1:lines<1
  ·exact k2 hpos (fun h=>by rw[hin]at h;omega) (cT (aT g1) rfl)
  refine cF (aO (by omega)) ?_;by_cases g2:256<lines
  ·exact k2 hpos (fun h=>by rw[hin]at h;omega) (cT (aT g2) rfl)
  refine cF (aO (by omega)) ?_;by_cases g3:v.node<0
  ·exact k2 hpos (fun h=>by rw[hin]at h;omega) (cT (aT g3) rfl)
  refine cF (aO (by omega)) ?_;by_cases g4:5<=v.node
  ·exact k2 hpos (fun h=>by rw[hin]at h;omega) (cT (cd g4) rfl)
  refine cF (gE (by omega)) ?_;by_cases g5:v.at_<0
  ·exact k2 hpos (fun h=>by rw[hin]at h;omega) (cT (aT g5) rfl)
  refine cF (aO (by omega)) ?_;rw[show IntKind.i64.wrap (lines*8)=lines*8 by rw[aD];omega];by_cases g6:lines*8<=v.at_
  ·exact k2 hpos (fun h=>by rw[hin]at h;omega) (cT (cd g6) rfl)
  refine cF (gE (by omega)) ?_;by_cases g7:1024<v.cnt
  ·exact k2 hpos (fun h=>by rw[hin]at h;omega) (cT (aT g7) rfl)
  refine cF (aO (show v.cnt<=1024 by omega)) ?_;simp-implicitDefEqProofs only[bL,gq];rw[show IntKind.i64.wrap (v.at_+v.cnt)=v.at_+v.cnt by rw[aD];omega,show IntKind.i64.wrap (v.at_+v.cnt-1)=v.at_+v.cnt-1 by rw[aD];omega,fU _ _ (show 0<=v.at_+v.cnt-1 by omega),fU _ _ (show 0<=v.at_ by omega),
   show IntKind.i64.wrap ((v.at_+v.cnt-1)/8)=v.hi by rw[aD];omega,show IntKind.i64.wrap (v.at_/8)=v.lo by rw[aD];omega,show IntKind.i64.wrap (v.hi-v.lo)=v.hi-v.lo by rw[aD];omega,show IntKind.i64.wrap (v.hi-v.lo+1)=v.hi-v.lo+1 by rw[aD];omega]
  by_cases g8:lines<=v.hi
  ·exact k2 hpos (fun h=>by rw[hin]at h;omega) (cT (cd g8) rfl)
  refine cF (gE (by omega)) ?_;by_cases g9:128<v.hi-v.lo+1
  ·exact k2 hpos (fun h=>by rw[hin]at h;omega) (cT (aT g9) rfl)
  refine cF (aO (by omega)) (k3 hpos (by rw[hin];omega) ?_);rw[FY]
 all_goals
  first
  | (refine cF (by rw [mN hk1]; rfl) (cT (mN hk1) ?_)
     by_cases c1:v.lo<=3
     · refine cT (cd c1) ?_
       by_cases c2:3<v.hi
       · rw[ee ⟨c1,c2⟩];exact cT (aT c2) rfl
       · rw[eg (fun g=>c2 g.2)];exact cF (aO (by omega)) rfl
     · rw[eg (fun g=>c1 g.1)];exact cF (gE (by omega)) rfl)
  | (refine cT (by rw [fO hk1]; rfl) ?_
     by_cases c1:v.lo<=2
     · refine cT (aT (by omega)) ?_
       by_cases c2:2<v.hi
       · rw[ee ⟨c1,c2⟩];exact cT (cd (by omega)) rfl
       · rw[eg (fun g=>c2 g.2)];exact cF (gE (by omega)) (cF (fO hk1) rfl)
     · rw[eg (fun g=>c1 g.1)];exact cF (aO (by omega)) (cF (fO hk1) rfl))
theorem L7(v:Vb){lines:Int}(h:v.Good lines):ev 124 [.agg v.row]=some [.v (.bool (decide (v.lo<=v.qy)))]:=by
 obtain⟨hp,⟨g1,g2,g3,g4,g5,g6,g7,g8,g9⟩,ho⟩:=h;have hc:=vS v (by have:=Vb.kinds hp;omega);have FY:v.qy=if v.kind=1 then 3 else 2:=rfl
 have hlo:v.lo=v.at_/8:=rfl;have hhi:v.hi=(v.at_+v.cnt-1)/8:=rfl;unfold Vb.row at*;rw[ado];refine fM hc (cT rfl ?_);simp-implicitDefEqProofs only[bL,gq];rw[show IntKind.i64.wrap (v.at_+v.cnt)=v.at_+v.cnt by rw[aD];omega,show IntKind.i64.wrap (v.at_+v.cnt-1)=v.at_+v.cnt-1 by rw[aD];omega,fU _ _ (show 0<=v.at_+v.cnt-1 by omega),show IntKind.i64.wrap ((v.at_+v.cnt-1)/8)=v.hi by rw[aD];omega];by_cases c1:v.hi<3
 ·refine cT (aT c1) ?_;rw[oS];grind
 ·refine cF (aO (by omega)) ?_;by_cases hk:v.kind=1
  ·refine cT (mN hk) ?_;rw[ee hk]at FY;by_cases c2:v.hi=3
   ·rw[mN c2,oS (by omega)]
   grind
  grind
theorem Tz(v:Vb){lines:Int}(h:v.Good lines)(inc door key aS:Int)(hi:0<=inc/\inc<=1000):ev 106 [.agg v.row,Q' inc,Z' door,Z' key,Z' aS]=some [Q' (v.YW inc door key aS)]:=by
 have hc:=L7 v h;have e1:IntKind.u64.wrap inc=inc:=by rw[IM];omega
 unfold Vb.YW;unfold Vb.row at*;rw[adm,e1];by_cases h4:v.kind=1
 ·refine cT (mN h4) (fM hc (cT rfl ?_));by_cases h3:v.lo<=v.qy
  ·simp_all
  ·rw[eg h3,eg (fun g=>h3 g.1)];refine cF (kq h3) (cF (aO (by omega)) ?_);by_cases h5:inc<door
   ·rw[ee h5];exact cT (aT h5) rfl
   rw[eg h5];refine cF (aO (by omega)) (fM hc (cT rfl (cF (kq h3) ?_)));by_cases h6:v.aS<0
   ·rw[ee h6];exact cT (aT h6) rfl
   rw[eg h6];refine cF (aO (by omega)) ?_;grind
 ·rw[eg (fun g=>h4 g.2)];refine cF (fO h4) (cF (aO (by omega)) ?_);by_cases h5:inc<door
  ·rw[ee h5];exact cT (aT h5) rfl
  rw[eg h5];refine cF (aO (by omega)) (fM hc (cT rfl ?_));by_cases h3:v.lo<=v.qy
  ·simp_all
  rw[eg h3];refine cF (kq h3) ?_;by_cases h6:v.aS<0
  ·rw[ee h6];exact cT (aT h6) rfl
  rw[eg h6];refine cF (aO (by omega)) ?_;grind
end
section
attribute [local congr] ek er
set_option maxRecDepth 10000
theorem P2(v:Vb)(n lines:Int)(De:1<=n/\n<=5):ev 78 [.agg v.row,Q' n,Q' lines]=some [Q' (v.eT n lines)]:=by
 have hc:=vS v;have k1:∀{x:Option (List AV)},v.cnt<1->x=some [Q' 1]->x=some [Q' (v.eT n lines)]:=fun h hx=>by
  unfold Vb.eT;rw[ee h];exact hx
 have k2:∀{x:Option (List AV)},1<=v.cnt->¬v.Vl n lines->x=some [Q' 2]->x=some [Q' (v.eT n lines)]:=fun h h2 hx=>by
  unfold Vb.eT;rw[eg (by omega),ee h2];exact hx
 have k3:∀{x:Option (List AV)},1<=v.cnt->v.Vl n lines->x=some [Q' (if v.lo<=v.qy/\v.qy<v.hi then 2 else 0)]->x=some [Q' (v.eT n lines)]:=fun h h2 hx=>by
  unfold Vb.eT;rw[eg (by omega),eg (B8 h2)];exact hx
 have Cg:v.cnt=if v.kind=1 then v.n else if v.kind=2 then(v.ws.length:Int)else if v.kind=3\/v.kind=4 then 1 else 0:=rfl
 have FY:v.qy=if v.kind=1 then 3 else 2:=rfl
 have hin:v.Vl n lines↔(1<=lines/\lines<=256/\0<=v.node/\v.node<n/\0<=v.at_/\v.at_<lines*8/\v.cnt<=1024/\v.hi<lines/\v.hi-v.lo<128):=Iff.rfl;have hlo:v.lo=v.at_/8:=rfl;have hhi:v.hi=(v.at_+v.cnt-1)/8:=rfl;unfold Vb.row at*;rw[adk,ab];by_cases h1:v.kind<1
 ·refine k1 ?_ (cT (aT h1) rfl);rw[Cg,eg (by omega),eg (by omega),eg (by omega)];decide
 refine cF (aO (by omega)) ?_;by_cases h2:4<v.kind
 ·refine k1 ?_ (cT (aT h2) rfl);rw[Cg,eg (by omega),eg (by omega),eg (by omega)];decide
 refine cF (aO (by omega)) ?_;have hc:=hc (by omega);by_cases hk1:v.kind=1
 case' pos=>
  rw[ee hk1]at Cg FY;refine cT (mN hk1) ?_;by_cases hn:v.n<1
  case pos=>exact k1 (by omega) (cT (aT hn) rfl)
  refine cF (aO (by omega)) (cF (fO (by omega)) ?_);have hpos:1<=v.cnt:=by omega
 case' neg=>
  rw[eg hk1]at Cg FY;refine cF (fO hk1) ?_;by_cases hk2:v.kind=2
  case' pos=>
   rw[ee hk2]at Cg;refine cT (mN hk2) ?_;by_cases hn:(v.ws.length:Int)<1
   case pos=>exact k1 (by omega) (cT (aT hn) rfl)
   refine cF (aO (by omega)) ?_;have hpos:1<=v.cnt:=by omega
  case' neg=>
   rw[eg hk2,ee (by omega)]at Cg;refine cF (fO hk2) ?_;have hpos:1<=v.cnt:=by omega
 all_goals
  refine fM hc (cT rfl ?_);refine cF (aO (by omega)) (cF (aO (by omega)) ?_);by_cases g1:lines<1
  ·exact k2 hpos (fun h=>by rw[hin]at h;omega) (cT (aT g1) rfl)
  refine cF (aO (by omega)) ?_;by_cases g2:256<lines
  ·exact k2 hpos (fun h=>by rw[hin]at h;omega) (cT (aT g2) rfl)
  refine cF (aO (by omega)) ?_;by_cases g3:v.node<0
  ·exact k2 hpos (fun h=>by rw[hin]at h;omega) (cT (aT g3) rfl)
  refine cF (aO (by omega)) ?_;by_cases g4:n<=v.node
  ·exact k2 hpos (fun h=>by rw[hin]at h;omega) (cT (cd g4) rfl)
  refine cF (gE (by omega)) ?_;by_cases g5:v.at_<0
  ·exact k2 hpos (fun h=>by rw[hin]at h;omega) (cT (aT g5) rfl)
  refine cF (aO (by omega)) ?_;rw[show IntKind.i64.wrap (lines*8)=lines*8 by rw[aD];omega];by_cases g6:lines*8<=v.at_
  ·exact k2 hpos (fun h=>by rw[hin]at h;omega) (cT (cd g6) rfl)
  refine cF (gE (by omega)) ?_;by_cases g7:1024<v.cnt
  ·exact k2 hpos (fun h=>by rw[hin]at h;omega) (cT (aT g7) rfl)
  refine cF (aO (show v.cnt<=1024 by omega)) ?_;simp-implicitDefEqProofs only[bL,gq];rw[show IntKind.i64.wrap (v.at_+v.cnt)=v.at_+v.cnt by rw[aD];omega,show IntKind.i64.wrap (v.at_+v.cnt-1)=v.at_+v.cnt-1 by rw[aD];omega,fU _ _ (show 0<=v.at_+v.cnt-1 by omega),fU _ _ (show 0<=v.at_ by omega),
   show IntKind.i64.wrap ((v.at_+v.cnt-1)/8)=v.hi by rw[aD];omega,show IntKind.i64.wrap (v.at_/8)=v.lo by rw[aD];omega,show IntKind.i64.wrap (v.hi-v.lo)=v.hi-v.lo by rw[aD];omega,show IntKind.i64.wrap (v.hi-v.lo+1)=v.hi-v.lo+1 by rw[aD];omega]
  by_cases g8:lines<=v.hi
  ·exact k2 hpos (fun h=>by rw[hin]at h;omega) (cT (cd g8) rfl)
  refine cF (gE (by omega)) ?_;by_cases g9:128<v.hi-v.lo+1
  ·exact k2 hpos (fun h=>by rw[hin]at h;omega) (cT (aT g9) rfl)
  refine cF (aO (by omega)) (k3 hpos (by rw[hin];omega) ?_);rw[FY]
 all_goals
  first
  | (refine cF (by rw [mN hk1]; rfl) (cT (mN hk1) ?_)
     by_cases c1:v.lo<=3
     · refine cT (cd c1) ?_
       by_cases c2:3<v.hi
       · rw[ee ⟨c1,c2⟩];exact cT (aT c2) rfl
       · rw[eg (fun g=>c2 g.2)];exact cF (aO (by omega)) rfl
     · rw[eg (fun g=>c1 g.1)];exact cF (gE (by omega)) rfl)
  | (refine cT (by rw [fO hk1]; rfl) ?_
     by_cases c1:v.lo<=2
     · refine cT (aT (by omega)) ?_
       by_cases c2:2<v.hi
       · rw[ee ⟨c1,c2⟩];exact cT (cd (by omega)) rfl
       · rw[eg (fun g=>c2 g.2)];exact cF (gE (by omega)) (cF (fO hk1) rfl)
     · rw[eg (fun g=>c1 g.1)];exact cF (aO (by omega)) (cF (fO hk1) rfl))
end
end Go.Proofs.YtnjccbnlmdajkaaGreat
namespace Go.Proofs.YtnjccbnlmdajkaaGreat
open Go.Proofs.Tryz renaming prog->U'
open Go.RowKit Go.Shelf Go.Lib Go.Ev
set_option maxRecDepth 100000
section
variable{w0 W:World}{μ:Mu}{I J:Ky->Option ag}{t fb:Nat}{s:gm}
structure RsR where
 d:gh
 sl:Int
 done:Bool
 ok:Bool
 p:eI
 n:qm
def jr.pc(x:jr):Int×Int:=(eD x.v.at_ x.v.cnt).getD x.ex (0,0)
def eI.step(p:eI)(n:qm):RsR:=
 match p.q with
 |[]=>⟨⟨0,true,[]⟩,-1,false,false,p,n⟩
 |x::r=>
  if lN (p.c:Int) p.inc x.v n.ws n.dn≠0 then⟨⟨lN (p.c:Int) p.inc x.v n.ws n.dn,true,[]⟩,(x.sl:Int),true,true,{p with q:=r},n⟩
  else if x.ex+1<(eD x.v.at_ x.v.cnt).length then⟨⟨0,true,[]⟩,-1,false,true,{p with q:={x with ex:=x.ex+1,w:=x.w++x.v.out x.pc n.ws}::r},⟨x.v.mem x.pc n.ws,n.dn⟩⟩
  else⟨⟨0,(x.w++x.v.out x.pc n.ws).isEmpty,x.w++x.v.out x.pc n.ws⟩,(x.sl:Int),true,true,{p with q:=r},⟨x.v.mem x.pc n.ws,n.dn⟩⟩
structure eI.Ok(p:eI)(ws:List Int):Prop where
 c:p.c<6
 inc:0<=p.inc/\p.inc<=1000
 ql:p.q.length<=10000
 wl:32<=ws.length/\ws.length<=100000
 q:∀x r,p.q=x::r->x.v.Good (ws.length/8:Nat)/\x.ex<(eD x.v.at_ x.v.cnt).length/\x.w.length<=90000
def PsK(t j:Nat)(w0:World)(μ:Mu)(I:Ky->Option ag)(kp:Ky)(pb pc:Nat)(ps:List dE)(i:Nat)(wv:Value)(st:RsR)(r:Value)(W':World):Prop:=
 ∃(A:Option Addr) (c:Nat) (μ':Mu) (J:Ky->Option ag) (qv:Value),r=rsV st.d.code A st.d.w.length c st.sl st.done st.ok/\ak μ μ'/\az w0 μ' J W'/\DR μ' (.aq st.d.wn 1 (st.d.w.map wr)) (.slice A st.d.w.length c)/\
  J kp=some (aE pb pc 110 4 ((ps.set i ⟨qv,st.p⟩).map dE.row))/\LV μ' ⟨qv,st.p⟩/\Row J (t,.dG j) wv 69 1 (st.n.ws.map wr)/\∀k,k≠kp->k≠(t,.dG j)->(∀m,m<20->k≠(t,.tmp m))->J k=I k
theorem TB:U'.funcs[78]?=some Tryz.f78:=by kernel_rfl
theorem WV:U'.funcs[106]?=some Tryz.f106:=by kernel_rfl
theorem WW:U'.funcs[109]?=some Tryz.f109:=by kernel_rfl
theorem gS{α:Type}{l:List α}{i:Nat}{x:α}(h:l[i]?=some x):l.set i x=l:=
 kj fun j=>by
  grind
theorem Zb{x:jr}{WA XA:Option Addr}{wc xc:Nat}(h6:DR μ (.aq x.v.ws.isEmpty 1 (x.v.ws.map wr)) (.slice WA x.v.ws.length wc))(CP:DR μ (.aq x.w.isEmpty 1 (x.w.map wr)) (.slice XA x.w.length xc)):
  ∀(j:Nat) (a:AV) (v:Value),x.row[j]?=some a->(jl x.v.kind x.v.node x.v.at_ x.v.n x.v.old x.v.new WA x.v.ws.length wc x.v.key x.v.aS (x.ex:Int) XA x.w.length xc (x.sl:Int)).toList[j]?=some v->DR μ a v:=fun j a v ha hv=>by
 match j with
 |0=>cases ha;cases hv;exact .v rfl
 |1=>cases ha;cases hv;exact .v rfl
 |2=>cases ha;cases hv;exact .v rfl
 |3=>cases ha;cases hv;exact .v rfl
 |4=>cases ha;cases hv;exact .v rfl
 |5=>cases ha;cases hv;exact .v rfl
 |6=>cases ha;cases hv;exact h6
 |7=>cases ha;cases hv;exact .v rfl
 |8=>cases ha;cases hv;exact .v rfl
 |9=>cases ha;cases hv;exact .v rfl
 |10=>cases ha;cases hv;exact CP
 |11=>cases ha;cases hv;exact .v rfl
 |n+12=>cases ha
theorem adp{qn:Bool}{qb qo ql qc:Nat}{x:jr}{r:List jr}(hd:DR μ (.aq qn 12 ((x::r).map jr.row)) (.slice (some ⟨qb,qo,none⟩) ql qc))(KW:ak μ (hf W)):
  ∃(WA XA:Option Addr) (wc xc:Nat),FV W qb qo x.v.kind x.v.node x.v.at_ x.v.n x.v.old x.v.new WA x.v.ws.length wc x.v.key x.v.aS (x.ex:Int) XA x.w.length xc (x.sl:Int)/\DR μ (.aq x.v.ws.isEmpty 1 (x.v.ws.map wr)) (.slice WA x.v.ws.length wc)/\DR μ (.aq x.w.isEmpty 1 (x.w.map wr)) (.slice XA x.w.length xc):=by
 obtain⟨_,_,_,e,hcl⟩:=cU hd KW (by omega) (It _ _);cases e;have hat:∀(j:Nat) (u:AV),x.row[j]?=some u->∃y,W.cell? ⟨qb,qo+j,none⟩=some y/\DR μ u y:=fun j u hu=>by
  have:=hcl 0 j x.row u rfl hu;grind
 obtain⟨_,q0,d0⟩:=hat 0 _ rfl;obtain rfl:=jq d0;obtain⟨_,q1,d1⟩:=hat 1 _ rfl;obtain rfl:=jq d1;obtain⟨_,q2,d2⟩:=hat 2 _ rfl;obtain rfl:=jq d2;obtain⟨_,q3,d3⟩:=hat 3 _ rfl;obtain rfl:=jq d3;obtain⟨_,q4,d4⟩:=hat 4 _ rfl;obtain rfl:=jq d4;obtain⟨_,q5,d5⟩:=hat 5 _ rfl;obtain rfl:=jq d5;obtain⟨_,q6,d6⟩:=hat 6 _ rfl;obtain⟨A6,c6,e6,_⟩:=eZ d6;rw[ab]at e6;subst e6;obtain⟨_,q7,d7⟩:=hat 7 _ rfl;obtain rfl:=jq d7;obtain⟨_,q8,d8⟩:=hat 8 _ rfl;obtain rfl:=jq d8;obtain⟨_,q9,d9⟩:=hat 9 _ rfl;obtain rfl:=jq d9;obtain⟨_,q10,d10⟩:=hat 10 _ rfl;obtain⟨A10,V2,Eo,_⟩:=eZ d10;rw[ab]at Eo;subst Eo;obtain⟨_,q11,d11⟩:=hat 11 _ rfl;obtain rfl:=jq d11;exact⟨A6,A10,c6,V2,⟨q0,q1,q2,q3,q4,q5,q6,q7,q8,q9,q10,q11⟩,d6,d10⟩
theorem TC{o:Obj}{b f:Nat}{kd nd at_ n old nw key bt ex slot:Int}{A XA:Option Addr}{l c xl xc:Nat}(h:FV W b f kd nd at_ n old nw A l c key bt ex XA xl xc slot):FV (W.alloc o) b f kd nd at_ n old nw A l c key bt ex XA xl xc slot:=by
 obtain⟨h0,h1,h2,h3,h4,h5,h6,h7,h8,h9,CP,WR⟩:=h;exact⟨bp h0,bp h1,bp h2,bp h3,bp h4,bp h5,bp h6,bp h7,bp h8,bp h9,bp CP,bp WR⟩
theorem L8(f:Bool)(l:List (Int×Int)):BN (.ow f 165 2 (pW l))=true:=by
 show(pW l).all _=true;refine ka.2 fun e he=>?_;obtain⟨x,_,rfl⟩:=pw.1 he;rfl
theorem JD(hK:az w0 μ I W)(k:Ky){u:Vb}{A:Option Addr}{l c:Nat}(hd:DR μ (.aq u.wn 1 (u.ws.map wr)) (.slice A l c))(hk:1<=u.kind/\u.kind<=4)(hc:u.cnt<=100000)(hne:eD u.at_ u.cnt≠[]):
  Calls U' 109 #[.agg (aJ u.kind u.node u.at_ u.n u.old u.new A l c u.key u.aS)] W fun e w'=> ∃(b c':Nat),e=.returned (.slice (some ⟨b,0,none⟩) (eD u.at_ u.cnt).length c')/\az w0 μ (put I k (some (aE b c' 165 2 (pW (eD u.at_ u.cnt))))) w':=by
 obtain⟨f,hev⟩:=P1 u hk hc;refine(hK.Ab mix jx hev WW ((sy hd [] fun v hv=>by cases hv).mono hK.gj fun b hb=>by cases hb)).mono fun e w' he=>?_;obtain⟨vs,μ',F1,G1,rfl,hK',hk,_,hb,hn⟩:=he;obtain⟨x,rfl,hb2⟩:=Go.Ev.zI hb;have hb3:=NH (YL hb2) (L8 _ _) fun b hb'=>hK.Jk (hn b hb');have hsz:=hK.kept.size;obtain⟨y,bq,hr⟩:=hK'.SS k hb3 (fun b hb'=>by have:=hn b hb';omega) (fun j x hj b hb' hm=>by
  have:=hn b hm;have:=hK.lt hj hb';omega)
 obtain⟨b,c',rfl,hI⟩:=hr.ne (by simpa [pW]using hne);rw[af]at hI;subst hI;exact⟨b,c',by rw[show(pW (eD u.at_ u.cnt)).length=(eD u.at_ u.cnt).length from ab ..];rfl,bq⟩
theorem JF(hK:az w0 μ I W){u:Vb}{A:Option Addr}{l c:Nat}(hd:DR μ (.aq u.wn 1 (u.ws.map wr)) (.slice A l c))(n lines:Int)(hn:1<=n/\n<=5):
  Calls U' 78 #[.agg (aJ u.kind u.node u.at_ u.n u.old u.new A l c u.key u.aS),.int .i64 n,.int .i64 lines] W fun e w'=>e=.returned (.int .i64 (u.eT n lines))/\az w0 μ I w'/\ar [] W w':=
 hK.vals mix jx (xs:=[.int .i64 (u.eT n lines)]) (P2 u n lines hn) TB (sy hd [.int .i64 n,.int .i64 lines] fun v hv=>by
  simp only[ft,dt,re]at hv;rcases hv with rfl|rfl<;>rfl)
theorem vU(hK:az w0 μ I W){u:Vb}{A:Option Addr}{l c:Nat}(hd:DR μ (.aq u.wn 1 (u.ws.map wr)) (.slice A l c))(lines:Int):
  Calls U' 78 #[.agg (aJ u.kind u.node u.at_ u.n u.old u.new A l c u.key u.aS),.int .i64 5,.int .i64 lines] W fun e w'=>e=.returned (.int .i64 (u.bad lines))/\az w0 μ I w'/\ar [] W w':=
 hK.vals mix jx (xs:=[.int .i64 (u.bad lines)]) (Ty u lines) TB (sy hd [.int .i64 5,.int .i64 lines] fun v hv=>by
  simp only[ft,dt,re]at hv;rcases hv with rfl|rfl<;>rfl)
theorem JG(hK:az w0 μ I W){u:Vb}{A:Option Addr}{l c:Nat}(hd:DR μ (.aq u.wn 1 (u.ws.map wr)) (.slice A l c)){lines:Int}(hg:u.Good lines)(inc x1 x2 x3:Int)(hi:0<=inc/\inc<=1000):
  Calls U' 106 #[.agg (aJ u.kind u.node u.at_ u.n u.old u.new A l c u.key u.aS),.int .i64 inc,.int .u64 x1,.int .u64 x2,.int .u64 x3] W fun e w'=>e=.returned (.int .i64 (u.YW inc x1 x2 x3))/\az w0 μ I w'/\ar [] W w':=
 hK.vals mix jx (xs:=[.int .i64 (u.YW inc x1 x2 x3)]) (Tz u hg inc x1 x2 x3 hi) WV (sy hd [.int .i64 inc,.int .u64 x1,.int .u64 x2,.int .u64 x3] fun v hv=>by
  simp only[ft,dt,re]at hv;rcases hv with rfl|rfl|rfl|rfl<;>rfl)
set_option maxHeartbeats 4000000 in
theorem Ci(hK:az w0 μ I W)(hR:eM t I fb s){j:Nat}{n:qE}(hn:s.nd[j]?=some n){nb nn nc:Nat}(lk:s.nv=.slice (some ⟨nb,0,none⟩) nn nc){kp:Ky}(hkp:FW t kp){pb pc:Nat}{ps:List dE}(xy:I kp=some (aE pb pc 110 4 (ps.map dE.row)))
  {i:Nat} {p:dE} (hp:ps[i]?=some p) (hd:LV μ p) (hok:p.a.Ok n.a.ws):
  Calls U' 80 #[.pointer (some ⟨pb,i*4,none⟩),.pointer (some ⟨nb,j*2,none⟩)] W fun e w'=> ∃v,e=.returned v/\PsK t j w0 μ I kp pb pc ps i n.wv (p.a.step n.a) v w':=by
 obtain⟨WQ,sO,KI,⟨adq,hwl⟩,hqx⟩:=hok;have ng:=Cd hK xy hp;have Ei:(n.a.ws.map wr)≠[]:=fun e=>by
  simp_all
 have TD:=hR.dG j n hn;obtain⟨wb,cw,Q4,PX⟩:=TD.ne Ei;rw[ab]at Q4;obtain⟨_,_,Ce,hIn⟩:=Row.at hR.gO hn;rw[lk]at Ce;cases Ce;obtain⟨Q,qc,JH⟩:=hd.val;cases hq:p.a.q with
 |nil=>
  have WX:=ng.q;rw[JH,hq]at WX;refine(PY pb (i*4) nb (j*2) qc Q W WX).mono fun e w' he=>?_;obtain⟨rfl,rfl⟩:=he;have hst:p.a.step n.a=⟨⟨0,true,[]⟩,-1,false,false,p.a,n.a⟩:=by unfold eI.step;rw[hq]
  rw[hst];exact⟨_,rfl,none,0,μ,I,p.qv,rfl,ak.refl _,hK.bw (ar.alloc W _),gM,by rw[show(⟨p.qv,p.a⟩:dE)=p from rfl,gS hp];exact xy,hd,TD,fun k _ _ _=>rfl⟩
 |cons x r=>
  obtain⟨hgood,hex,hxw⟩:=hqx x r hq;have hd':DR μ (.aq p.a.q.isEmpty 12 (p.a.q.map jr.row)) (.slice Q p.a.q.length qc):=by rw[<-JH];exact hd
  have Ys:=hd';rw[hq]at hd';obtain⟨qb,qo,qc',e,_⟩:=cU hd' hK.gj (by omega) (It _ _);rw[ab]at e;cases e;obtain⟨WA,XA,wc,xc,hPd,h6,CP⟩:=adp hd' hK.gj;obtain⟨vals,jt⟩:∃vals,vals=(jl x.v.kind x.v.node x.v.at_ x.v.n x.v.old x.v.new WA x.v.ws.length wc x.v.key x.v.aS (x.ex:Int) XA x.w.length xc (x.sl:Int)).toList:=⟨_,rfl⟩;have hK1:=hK.alloc (t,.tmp 0) (cs:=[Q' 0,.v (.slice none 0 0)]) (cur:= #[.int .i64 0,.slice none 0 0]) (ty:=81) (.cons (F:=[]) (F':=[]) (.d (.v rfl)) (.cons (F:=[]) (F':=[]) (.d (.v rfl)) .nil));have bq:=hK1.alloc (t,.tmp 1) (cs:=vals.map AV.v) (cur:=jl x.v.kind x.v.node x.v.at_ x.v.n x.v.old x.v.new WA x.v.ws.length wc x.v.key x.v.aS (x.ex:Int) XA x.w.length xc (x.sl:Int)) (ty:=149) (by
   rw[jt];exact fE _ fun v hv=>by
    simp only[ft,dt,re]at hv;rcases hv with rfl|rfl|rfl|rfl|rfl|rfl|rfl|rfl|rfl|rfl|rfl|rfl<;>rfl)
  rw[mP]at bq;obtain⟨I2,kJ⟩:∃I2,I2=put (put I (t,.tmp 0) (some (bG W.heap.size [W.heap.size] 81 [.v (.int .i64 0),.v (.slice none 0 0)]))) (t,.tmp 1) (some (bG (W.heap.size+1) [W.heap.size+1] 149 (vals.map AV.v))):=⟨_,rfl⟩;rw[<-kJ]at bq;have hb0:I2 (t,.tmp 0)=some (bG W.heap.size [W.heap.size] 81 [Q' 0,.v (.slice none 0 0)]):=by simp_all [ae,aa,af]
  have hb1:I2 (t,.tmp 1)=some (bG (W.heap.size+1) [W.heap.size+1] 149 (vals.map AV.v)):=by rw[kJ,af]
  have hoth:∀k,k≠(t,.tmp 0)->k≠(t,.tmp 1)->I2 k=I k:=fun k g1 g2=>by rw[kJ,ae _ _ g2,ae _ _ g1]
  have WM:I2 (t,.gO)=_:=(hoth (t,.gO) (aa fun e=>by cases e) (aa fun e=>by cases e)).trans hIn;have WN:I2 (t,.dG j)=_:=(hoth (t,.dG j) (aa fun e=>by cases e) (aa fun e=>by cases e)).trans PX;have adr:I2 kp=_:=(hoth kp (hkp.tmp 0) (hkp.tmp 1)).trans xy;have ux:eM t I2 fb s:=hR.of fun k hk=>hoth _ (aa (hk 0)) (aa (hk 1));have hE2:SpE t I2 kp W.heap.size (W.heap.size+1) vals pb pc ps:=⟨⟨_,_,_,hb0⟩,⟨_,hb1⟩,adr⟩;have cN:∀{μ':Mu} {J:Ky->Option ag} {W':World},az w0 μ' J W'->J (t,.gO)=I2 (t,.gO)->W'.cell? ⟨nb,j*2,none⟩=some (.slice (some ⟨wb,0,none⟩) n.a.ws.length cw)/\W'.cell? ⟨nb,j*2+1,none⟩=some (.bool (!n.a.dn)):=fun{μ' J W'} hk e=>by
   have h1:=hk.aL (e.trans WM) (get_map hn) (j:=0) rfl;rw[Q4]at h1;exact⟨h1,hk.aL (e.trans WM) (get_map hn) (j:=1) rfl⟩
  have cV:∀{μ':Mu} {J:Ky->Option ag} {W':World},az w0 μ' J W'->J (t,.tmp 1)=I2 (t,.tmp 1)->FV W' (W.heap.size+1) 0 x.v.kind x.v.node x.v.at_ x.v.n x.v.old x.v.new WA x.v.ws.length wc x.v.key x.v.aS (x.ex:Int) XA x.w.length xc (x.sl:Int):=fun{μ' J W'} hk e=>by
   have e1:=e.trans hb1;rw[jt]at e1;exact⟨hk.cell e1 (j:=0) rfl,hk.cell e1 (j:=1) rfl,hk.cell e1 (j:=2) rfl,hk.cell e1 (j:=3) rfl,hk.cell e1 (j:=4) rfl,hk.cell e1 (j:=5) rfl,hk.cell e1 (j:=6) rfl,hk.cell e1 (j:=7) rfl,hk.cell e1 (j:=8) rfl,hk.cell e1 (j:=9) rfl,hk.cell e1 (j:=10) rfl,hk.cell e1 (j:=11) rfl⟩
  have cVN:∀{μ':Mu} {J:Ky->Option ag} {W':World},az w0 μ' J W'->J (t,.tmp 1)=I2 (t,.tmp 1)->Ju W' (W.heap.size+1) x.v.kind x.v.node x.v.at_ x.v.n x.v.old x.v.new WA x.v.ws.length wc x.v.key x.v.aS:=fun{μ' J W'} hk e=>by
   obtain⟨g0,g1,g2,g3,g4,g5,g6,g7,g8,_⟩:=cV hk e;exact⟨g0,g1,g2,g3,g4,g5,g6,g7,g8⟩
  have cP:∀{μ':Mu} {J:Ky->Option ag} {W':World},az w0 μ' J W'->J kp=I2 kp->ac6 W' pb i p:=fun{μ' J W'} hk e=>Cd hk (e.trans adr) hp;have cW:∀{μ':Mu} {J:Ky->Option ag} {W':World} (m:Nat),az w0 μ' J W'->J (t,.dG j)=I2 (t,.dG j)->m<n.a.ws.length->W'.cell? ⟨wb,m,none⟩=some (.int .u64 (n.a.ws.getD m 0)):=fun{μ' J W'} m hk e hm=>by
   have hx:n.a.ws[m]?=some (n.a.ws.getD m 0):=by grind
   have:=hk.aL (e.trans WN) (Ti hx) (j:=0) rfl;grind
  have agM:p.a.q.length=r.length+1:=by rw[hq];rfl
  have WX:(W.alloc (.cells #[.int .i64 0,.slice none 0 0] 81)).cell? ⟨pb,i*4+3,none⟩=some (.slice (some ⟨qb,qo,none⟩) p.a.q.length qc):=by rw[<-JH];exact bp ng.q
  have TE:p.a.q.length<=qc:=SU Ys;have aaQ:=TC (o:=.cells #[.int .i64 0,.slice none 0 0] 81) hPd;have hfin:∀{W':World} {J':Ky->Option ag} {μ':Mu},az w0 μ' J' W'->SpE t J' kp W.heap.size (W.heap.size+1) vals pb pc ps->ak μ μ'->(∀k,k≠(t,.tmp 0)->k≠(t,.tmp 1)->J' k=I k)->∀code,code≠0->lN (p.a.c:Int) p.a.inc x.v n.a.ws n.a.dn=code->
    Tm pb (i*4) W.heap.size (W.heap.size+1) qb qo p.a.q.length qc code (x.sl:Int) W' (PsK t j w0 μ I kp pb pc ps i n.wv (p.a.step n.a)):=fun{W' J' μ'} hk hE hm ho code hne Es=>by
   have hst:p.a.step n.a=⟨⟨code,true,[]⟩,(x.sl:Int),true,true,{p.a with q:=r},n.a⟩:=by
    unfold eI.step;grind
   have afF:W'.cell? ⟨pb,i*4+3,none⟩=some (.slice (some ⟨qb,qo,none⟩) p.a.q.length qc):=by rw[<-JH];exact(Cd hk hE.kp hp).q
   refine⟨afF,fun so hso=>?_⟩;obtain⟨A,l,c,w1,w2,w3,w4,g1,g2,g3,g4,g5,g6,g7,mz,J'',qv,m1,m2,m3,m4,m5⟩:=Tv hk hE hkp hp hq KI (Ys.mono hm) code none 0 0 so hso;refine⟨A,l,c,w1,w2,w3,w4,g1,g2,g3 11 _ (by rw[jt];rfl),g4,g5,g6 11 _ (by rw[jt];rfl),g7,none,0,mz,J'',qv,?_,hm.trans m1,m2,?_,?_,?_,?_,fun k k1 k2 k3=>?_⟩
   ·rw[hst];rfl
   ·rw[hst];exact gM
   ·rw[hst];exact m3
   ·rw[hst];exact m4
   ·rw[hst];exact TD.same ((m5 _ (fun e=>hkp.dG j e.symm) (aa fun e=>by cases e) (aa fun e=>by cases e)).trans (ho _ (aa fun e=>by cases e) (aa fun e=>by cases e)))
   grind
  by_cases Kt:n.a.dn=true
  ·--the node is down
   refine LZ pb (i*4) nb (j*2) qb qo p.a.q.length qc x.v.kind x.v.node x.v.at_ x.v.n x.v.old x.v.new x.v.key x.v.aS (x.ex:Int) (x.sl:Int) WA XA x.v.ws.length wc x.w.length xc W _ (by omega) TE WX aaQ ?_ ?_
   ·grind
   ·exact hfin bq hE2 (ak.refl _) hoth 4 (by decide) (by unfold lN;rw[ee Kt])
  have ads:n.a.dn=false:=by simpa using Kt
  have hup:=(cN bq rfl).2;rw[ads]at hup;obtain⟨u,hu⟩:∃u:Vb,u={x.v with wn:=x.v.ws.isEmpty}:=⟨_,rfl⟩;have h6u:DR μ (.aq u.wn 1 (u.ws.map wr)) (.slice WA x.v.ws.length wc):=by rw[hu];exact h6
  have WY:u.Good (n.a.ws.length/8:Nat):=by rw[hu];exact⟨hgood.1,hgood.2,hgood.3⟩
  have hvc:aJ x.v.kind x.v.node x.v.at_ x.v.n x.v.old x.v.new WA x.v.ws.length wc x.v.key x.v.aS=aJ u.kind u.node u.at_ u.n u.old u.new WA x.v.ws.length wc u.key u.aS:=by rw[hu]
  obtain⟨code,Es⟩:∃code,code=lN (p.a.c:Int) p.a.inc x.v n.a.ws n.a.dn:=⟨_,rfl⟩;have adt:u.YW p.a.inc (n.a.ws.getD (24+p.a.c) 0) (n.a.ws.getD 0 0) (n.a.ws.getD 1 0)=code:=by
   rw[Es,hu];unfold lN;rw[eg (by rw[ads];decide),eg (B8 (jh.2 hgood)),show((24:Int)+(p.a.c:Int)).toNat=24+p.a.c by omega];rfl
  have Pk:∀{R:Int->World->Prop},(∀w3,az w0 μ I2 w3->R code w3)->Tn (W.heap.size+1) pb (i*4) nb (j*2) wb n.a.ws.length cw x.v.kind x.v.node x.v.at_ x.v.n x.v.old x.v.new WA x.v.ws.length wc x.v.key x.v.aS (p.a.c:Int) p.a.inc (n.a.ws.getD (24+p.a.c) 0) (n.a.ws.getD 0 0) (n.a.ws.getD 1 0)
    (Vn W x.v.kind x.v.node x.v.at_ x.v.n x.v.old x.v.new WA x.v.ws.length wc x.v.key x.v.aS (x.ex:Int) XA x.w.length xc (x.sl:Int)) R:=fun{R} hR'=>by
   refine⟨⟨cVN bq.drew rfl,(cN bq.drew rfl).1⟩,?_⟩;rw[show IntKind.i64.wrap ((n.a.ws.length:Int)/8)=((n.a.ws.length/8:Nat):Int) by rw[aD];omega,hvc];refine(vU bq.drew h6u _).mono fun e w2 he=>?_;obtain⟨rfl,hk2,_⟩:=he;rw[jh.2 WY];refine⟨rfl,⟨cVN hk2 rfl,(cN hk2 rfl).1⟩,⟨cVN hk2.drew rfl,(cP hk2.drew rfl).inc,(cP hk2.drew rfl).c⟩,(cN hk2.drew rfl).1,?_,cW 0 hk2.drew rfl (by omega),cW 1 hk2.drew rfl (by omega),?_⟩
   ·rw[show((24:Int)+(p.a.c:Int)).toNat=24+p.a.c by omega];exact cW _ hk2.drew rfl (by omega)
   ·refine(JG hk2.drew h6u WY _ _ _ _ sO).mono fun e w3 he=>?_;obtain⟨rfl,hk3,_⟩:=he;rw[adt];exact⟨code,rfl,⟨cVN hk3 rfl,(cP hk3 rfl).inc,(cP hk3 rfl).c⟩,hR' w3 hk3⟩
  by_cases hc0:code=0
  ·refine P0 pb (i*4) nb (j*2) qb qo p.a.q.length qc wb n.a.ws.length cw x.ex x.v.kind x.v.node x.v.at_ x.v.n x.v.old x.v.new x.v.key x.v.aS (x.sl:Int) (p.a.c:Int) p.a.inc (n.a.ws.getD (24+p.a.c) 0) (n.a.ws.getD 0 0) (n.a.ws.getD 1 0) WA XA x.v.ws.length wc x.w.length xc W _ (by omega) TE (by omega) adq WX aaQ hup (Pk fun w3 hk3=>⟨hc0,cVN hk3 rfl,?_⟩);have hz:lN (p.a.c:Int) p.a.inc x.v n.a.ws n.a.dn=0:=Es.symm.trans hc0;obtain⟨PL,hPL⟩:∃PL,PL=eD x.v.at_ x.v.cnt:=⟨_,rfl⟩;have afG:eD u.at_ u.cnt=PL:=by rw[hPL,hu];rfl
   have adu:x.ex<PL.length:=by rw[hPL];exact hex
   have hpx:PL[x.ex]?=some x.pc:=by rw[ao adu];unfold jr.pc;grind
   have hfit:x.v.Fits x.pc n.a.ws.length:=hgood.fits (by grind);obtain⟨f1,f2,f3,f4,f5,f6,f7⟩:=hfit;obtain⟨pa,hpa⟩:∃pa:Nat,(pa:Int)=x.pc.1:=⟨x.pc.1.toNat,by omega⟩;obtain⟨pn,Ie⟩:∃pn:Nat,(pn:Int)=x.pc.2:=⟨x.pc.2.toNat,by omega⟩;have hpp:(((pa:Int),(pn:Int)):Int×Int)=x.pc:=Prod.ext hpa Ie;obtain⟨out,hout⟩:∃out,out=x.v.out x.pc n.a.ws:=⟨_,rfl⟩;have Zc:u.out ((pa:Int),(pn:Int)) n.a.ws=out:=by rw[hpp,hout,hu];rfl
   have adv:u.mem ((pa:Int),(pn:Int)) n.a.ws=x.v.mem x.pc n.a.ws:=by rw[hpp,hu];rfl
   have hol:out.length<=9:=by rw[hout];exact iS Vb.zO (by omega)
   have afH:1<=u.kind/\u.kind<=4:=by
    have:=Vb.kinds WY.pos;omega
   have Q2:u.cnt<=1024:=WY.ins.2.2.2.2.2.2.1;have afI:PL.length<=100000:=by
    grind [zL]
   rw[hvc];refine(JD hk3 (t,.tmp 3) h6u afH (by omega) (aaC (by have:=WY.pos;omega))).mono fun r' w4 he=>?_;obtain⟨b3,c3,rfl,eX⟩:=he;rw[afG]at eX⊢;obtain⟨I3,qC⟩:∃I3,I3=put I2 (t,.tmp 3) (some (aE b3 c3 165 2 (pW PL))):=⟨_,rfl⟩;rw[<-qC]at eX;have hb3:I3 (t,.tmp 3)=some (aE b3 c3 165 2 (pW PL)):=by rw[qC,af]
   have NF:∀k,k≠(t,.tmp 3)->I3 k=I2 k:=fun k g=>by rw[qC,ae _ _ g]
   have c14:∀{μ':Mu} {J:Ky->Option ag} {W':World},az w0 μ' J W'->Ju W' (W.heap.size+1) x.v.kind x.v.node x.v.at_ x.v.n x.v.old x.v.new WA x.v.ws.length wc x.v.key x.v.aS->W'.cell? ⟨W.heap.size+1,9,none⟩=some (.int .i64 (x.ex:Int))->J (t,.tmp 3)=I3 (t,.tmp 3)->L5 (W.heap.size+1) b3 0 x.ex pa pn x.v.kind x.v.node x.v.at_ x.v.n x.v.old x.v.new WA x.v.ws.length wc x.v.key x.v.aS W':=fun{μ' J W'} hk g1 g2 g3=>by
    have q0:=hk.aL (g3.trans hb3) (get_map (f:=fun x:Int×Int=>[Q' x.1,Q' x.2]) hpx) (j:=0) rfl;have q1:=hk.aL (g3.trans hb3) (get_map (f:=fun x:Int×Int=>[Q' x.1,Q' x.2]) hpx) (j:=1) rfl;refine⟨g1,g2,?_,?_⟩
    all_goals grind
   have WZ:∀{μ':Mu} {J:Ky->Option ag} {W':World},az w0 μ' J W'->J (t,.tmp 1)=I2 (t,.tmp 1)->J (t,.tmp 3)=I3 (t,.tmp 3)->L5 (W.heap.size+1) b3 0 x.ex pa pn x.v.kind x.v.node x.v.at_ x.v.n x.v.old x.v.new WA x.v.ws.length wc x.v.key x.v.aS W':=fun hk g1 g3=>
    c14 hk (cVN hk g1) (cV hk g1).2.2.2.2.2.2.2.2.2.1 g3
   have e31:I3 (t,.tmp 1)=I2 (t,.tmp 1):=NF _ (aa fun e=>by cases e);obtain⟨Inf,i1,i2,i3,i4⟩:=i69;obtain⟨vY,wa,y4,afJ,uw,NS⟩:=eX.drew.qj (P:=U') (k:=(t,.tmp 4)) (v:=.slice none 0 0) (T:=69) (sz:=1) (xs:=[]) (.inl ⟨rfl,rfl⟩) u59 i1 i2 i3 (by omega) (by omega) rfl (by omega) (by simp) (by rw[ab];omega) (nY.data CP eX.drew.gj (by omega));rw[ly]at NS;obtain⟨YA,yc,rfl,_⟩:=NS.val;obtain⟨I5,hI5⟩:∃I5,I5=put I3 (t,.tmp 4) y4:=⟨_,rfl⟩;rw[<-hI5]at uw NS;have ho5:∀k,k≠(t,.tmp 4)->I5 k=I3 k:=fun k g=>by rw[hI5,ae _ _ g]
   have e51:I5 (t,.tmp 1)=I2 (t,.tmp 1):=(ho5 _ (aa fun e=>by cases e)).trans e31;have e53:I5 (t,.tmp 3)=I3 (t,.tmp 3):=ho5 _ (aa fun e=>by cases e);have hR5:eM t I5 fb s:=ux.of fun k hk=>(ho5 _ (aa (hk 4))).trans (NF _ (aa (hk 3)));refine⟨b3,0,PL.length,c3,pa,pn,YA,(x.w.map wr).length,yc,wa,rfl,adu,afI,WZ eX.drew e31 rfl,(cV eX.drew e31).2.2.2.2.2.2.2.2.2.2.1,afJ,WZ uw e51 e53,?_⟩;have hfu:u.Fits ((pa:Int),(pn:Int)) n.a.ws.length:=by rw[hpp,hu];exact⟨f1,f2,f3,f4,f5,f6,f7⟩
   have hsl:x.v.ws.length=u.ws.length:=by rw[hu]
   have adw:=WL uw hR5 hn lk hfu hwl (WA:=WA) (wc:=wc) (by rw[<-hsl];exact h6u);rw[<-hsl]at adw;refine adw.mono fun e w5 he=>?_;obtain⟨_,rfl,ZA,zc,zn,μ5,J6,rfl,hm5,Tx,hdZ,_,Zd,ho6⟩:=he;rw[Zc]at hdZ;rw[adv]at Zd;rw[Zc];have e61:J6 (t,.tmp 1)=I2 (t,.tmp 1):=(ho6 _ (aa fun e=>by cases e) (aa fun e=>by cases e) (aa fun e=>by cases e) (aa fun e=>by cases e)).trans e51;have e63:J6 (t,.tmp 3)=I3 (t,.tmp 3):=(ho6 _ (aa fun e=>by cases e) (aa fun e=>by cases e) (aa fun e=>by cases e) (aa fun e=>by cases e)).trans e53;have e64:J6 (t,.tmp 4)=I5 (t,.tmp 4):=ho6 _ (aa fun e=>by cases e) (aa fun e=>by cases e) (aa fun e=>by cases e) (aa fun e=>by cases e);obtain⟨vT,w6,y6,adx,hK7,yL⟩:=Tx.qj (P:=U') (NS.same e64) u59 i1 i2 i3 (by omega) (by omega) rfl (by omega) (by rw[ab];omega) (by rw[ab];omega) (nY.data hdZ Tx.gj (by omega));rw[<-im]at yL;obtain⟨TA,tc,rfl,_⟩:=yL.val;rw[ab]at adx yL;obtain⟨μ7,hm7,Ze,hdT⟩:=hK7.Jm yL;rw[aK]at Ze;rw[zS]at hdT;obtain⟨J8,hJ8⟩:∃J8,J8=put J6 (t,.tmp 4) none:=⟨_,rfl⟩;rw[<-hJ8]at Ze;have ho8:∀k,k≠(t,.tmp 4)->J8 k=J6 k:=fun k g=>by rw[hJ8,ae _ _ g]
   have hb8:J8 (t,.tmp 1)=some (bG (W.heap.size+1) [W.heap.size+1] 149 (vals.map AV.v)):=(ho8 _ (aa fun e=>by cases e)).trans (e61.trans hb1);obtain⟨w7,F7,afK,_,hK9⟩:=Ze.Jw hb8 (j:=10) (by rw[jt];rfl) (a:=.v (.slice TA (x.w++out).length tc)) (v:=.slice TA (x.w++out).length tc) (.v rfl);obtain⟨w8,F8,afL,_,L9⟩:=hK9.Jw (af _ _ _) (j:=9) (by rw[jt];rfl) (a:=Q' ((x.ex:Int)+1)) (v:=.int .i64 ((x.ex:Int)+1)) (.v rfl);rw[aK]at L9;obtain⟨Bv,og⟩:∃Bv,Bv=(jl x.v.kind x.v.node x.v.at_ x.v.n x.v.old x.v.new WA x.v.ws.length wc x.v.key x.v.aS ((x.ex:Int)+1) TA (x.w++out).length tc (x.sl:Int)).toList:=⟨_,rfl⟩;rw[show((vals.map AV.v).set 10 (.v (.slice TA (x.w++out).length tc))).set 9 (Q' ((x.ex:Int)+1))=Bv.map AV.v by rw[jt,og];rfl]at L9;obtain⟨Zf,aaR⟩:∃Zf,Zf=put J8 (t,.tmp 1) (some (bG (W.heap.size+1) F8 149 (Bv.map AV.v))):=⟨_,rfl⟩;rw[<-aaR]at L9;have aaS:∀k,k≠(t,.tmp 1)->Zf k=J8 k:=fun k g=>by rw[aaR,ae _ _ g]
   have hall:∀k,k≠(t,.dG j)->(∀m,m<20->k≠(t,.tmp m))->Zf k=I k:=fun k g1 g2=>(aaS k (g2 1 (by omega))).trans ((ho8 k (g2 4 (by omega))).trans ((ho6 k g1 (g2 10 (by omega)) (g2 11 (by omega)) (g2 12 (by omega))).trans ((ho5 k (g2 4 (by omega))).trans ((NF k (g2 3 (by omega))).trans (hoth k (g2 0 (by omega)) (g2 1 (by omega)))))));have Zg:Zf kp=some (aE pb pc 110 4 (ps.map dE.row)):=(hall kp (hkp.dG j) fun m _=>hkp.tmp m).trans xy;have afM:Zf (t,.tmp 0)=some (bG W.heap.size [W.heap.size] 81 [Q' 0,.v (.slice none 0 0)]):=(aaS _ (aa fun e=>by cases e)).trans ((ho8 _ (aa fun e=>by cases e)).trans ((ho6 _ (aa fun e=>by cases e) (aa fun e=>by cases e) (aa fun e=>by cases e) (aa fun e=>by cases e)).trans ((ho5 _ (aa fun e=>by cases e)).trans ((NF _ (aa fun e=>by cases e)).trans hb0))));have TF:Row Zf (t,.dG j) n.wv 69 1 ((x.v.mem x.pc n.a.ws).map wr):=Zd.same ((aaS _ (aa fun e=>by cases e)).trans (ho8 _ (aa fun e=>by cases e)));have aaT:SpE t Zf kp W.heap.size (W.heap.size+1) Bv pb pc ps:=⟨⟨_,_,_,afM⟩,⟨F8,by rw[aaR,af]⟩,Zg⟩;have hmm:ak μ μ7:=hm5.trans hm7;have h97:∀m,m≠10->∀v,vals[m]?=some v->w7.cell? ⟨W.heap.size+1,m,none⟩=some v:=fun m hm v hv=>hK9.cell (af _ _ _) (by rw[mj,eg (fun e=>hm e.symm),et,hv];rfl);have hv7:Ju w7 (W.heap.size+1) x.v.kind x.v.node x.v.at_ x.v.n x.v.old x.v.new WA x.v.ws.length wc x.v.key x.v.aS:=
    ⟨h97 0 (by omega) _ (by rw[jt];rfl),h97 1 (by omega) _ (by rw[jt];rfl),h97 2 (by omega) _ (by rw[jt];rfl),h97 3 (by omega) _ (by rw[jt];rfl),h97 4 (by omega) _ (by rw[jt];rfl),h97 5 (by omega) _ (by rw[jt];rfl),h97 6 (by omega) _ (by rw[jt];rfl),h97 7 (by omega) _ (by rw[jt];rfl),h97 8 (by omega) _ (by rw[jt];rfl)⟩
   refine⟨ZA,out.length,zc,TA,(x.w++out).length,tc,w6,w7,w8,rfl,?_,afK,WZ Tx e61 e63,WZ hK7 ((ae _ _ (aa fun e=>by cases e)).trans e61) ((ae _ _ (aa fun e=>by cases e)).trans e63),c14 hK9 hv7 (h97 9 (by omega) _ (by rw[jt];rfl)) ((ae _ _ (aa fun e=>by cases e)).trans ((ho8 _ (aa fun e=>by cases e)).trans e63)),afL,?_,?_,fun hle=>?_,fun hlt=>?_⟩
   ·intro ty;have:=adx ty;grind
   ·exact L9.cell (aaT.t1.choose_spec) (j:=9) (by rw[og];rfl)
   ·rw[<-JH];exact(Cd L9 Zg hp).q
   ·--the verb is complete
    have hst:p.a.step n.a=⟨⟨0,(x.w++out).isEmpty,x.w++out⟩,(x.sl:Int),true,true,{p.a with q:=r},⟨x.v.mem x.pc n.a.ws,n.a.dn⟩⟩:=by
     unfold eI.step;grind
    intro so hso;obtain⟨A,l,c,v1,v2,v3,v4,g1,g2,g3,g4,g5,g6,g7,mz,J'',qv,m1,m2,m3,m4,m5⟩:=Tv L9 aaT hkp hp hq KI (Ys.mono hmm) 0 TA (x.w++out).length tc so hso;refine⟨A,l,c,v1,v2,v3,v4,g1,g2,⟨g3 10 _ (by rw[og];rfl),g3 11 _ (by rw[og];rfl)⟩,g4,g5,⟨g6 10 _ (by rw[og];rfl),g6 11 _ (by rw[og];rfl)⟩,g7,TA,tc,mz,J'',qv,?_,hmm.trans m1,m2,?_,?_,?_,?_,fun k k1 k2 k3=>?_⟩
    ·rw[hst]
    ·rw[hst];exact hdT.mono m1
    ·rw[hst];exact m3
    ·rw[hst];exact m4
    ·rw[hst];exact TF.same (m5 _ (fun e=>hkp.dG j e.symm) (aa fun e=>by cases e) (aa fun e=>by cases e))
    ·exact(m5 k k1 (k3 0 (by omega)) (k3 2 (by omega))).trans (hall k k2 k3)
   ·--the verb is to go on
    have hst:p.a.step n.a=⟨⟨0,true,[]⟩,-1,false,true,{p.a with q:={x with ex:=x.ex+1,w:=x.w++out}::r},⟨x.v.mem x.pc n.a.ws,n.a.dn⟩⟩:=by
     unfold eI.step;grind
    obtain⟨xb,xc',v1,v2,v3,v4,v5,g1,g2,g3,g4,g5,g6,g7,mz,J'',qv,m1,m2,m3,m4,m5⟩:=WU (x':={x with ex:=x.ex+1,w:=x.w++out}) L9 aaT hkp hp hq KI (Ys.mono hmm) (by rw[og];rfl) (by
     rw[og];exact Zb (x:={x with ex:=x.ex+1,w:=x.w++out}) (h6.mono hmm) hdT)
    refine⟨xb,xc',v1,v2,v3,v4,v5,g1,?_,?_,g4,g5,g6,g7,none,0,mz,J'',qv,?_,hmm.trans m1,m2,?_,?_,?_,?_,fun k k1 k2 k3=>?_⟩
    ·rw[og]at g2;exact⟨g2 0 _ rfl,g2 1 _ rfl,g2 2 _ rfl,g2 3 _ rfl,g2 4 _ rfl,g2 5 _ rfl,g2 6 _ rfl,g2 7 _ rfl,g2 8 _ rfl,g2 9 _ rfl,g2 10 _ rfl,g2 11 _ rfl⟩
    ·rw[og]at g3;exact g3
    ·rw[hst];rfl
    ·rw[hst];exact gM
    ·rw[hst];exact m3
    ·rw[hst];exact m4
    ·rw[hst];exact TF.same (m5 _ (fun e=>hkp.dG j e.symm) (aa fun e=>by cases e) (aa fun e=>by cases e))
    ·exact(m5 k k1 (k3 0 (by omega)) (k3 2 (by omega))).trans (hall k k2 k3)
  ·exact PZ pb (i*4) nb (j*2) qb qo p.a.q.length qc wb n.a.ws.length cw x.v.kind x.v.node x.v.at_ x.v.n x.v.old x.v.new x.v.key x.v.aS (x.ex:Int) (x.sl:Int) (p.a.c:Int) p.a.inc (n.a.ws.getD (24+p.a.c) 0) (n.a.ws.getD 0 0) (n.a.ws.getD 1 0) WA XA x.v.ws.length wc x.w.length xc W _ (by omega) TE (by omega) adq WX aaQ hup
    (Pk fun w3 hk3=>⟨hc0,hfin hk3 hE2 (ak.refl _) hoth code hc0 Es.symm⟩)
end
section
variable{w0 W:World}{μ:Mu}{I J:Ky->Option ag}{t fb:Nat}{s:gm}
def PpK(t:Nat)(w0:World)(μ:Mu)(I:Ky->Option ag)(kp:Ky)(pb pc:Nat)(ps:List dE)(i:Nat)(p':eI)(W':World):Prop:=
 ∃(μ':Mu) (J:Ky->Option ag) (qv:Value),ak μ μ'/\az w0 μ' J W'/\J kp=some (aE pb pc 110 4 ((ps.set i ⟨qv,p'⟩).map dE.row))/\LV μ' ⟨qv,p'⟩/\∀k,k≠kp->(∀m,m<20->k≠(t,.tmp m))->J k=I k
theorem NT(hK:az w0 μ J W){kp:Ky}(hkp:FW t kp){pb pc:Nat}{ps:List dE}(xy:J kp=some (aE pb pc 110 4 (ps.map dE.row))){i:Nat}{p:dE}(hp:ps[i]?=some p)(KI:p.a.q.length<=10000){v1:Value}(hrow:xo J (t,.tmp 2) v1 149 12 (p.a.q.map jr.row))
  {x:jr} {XA YA:Option Addr} {xc yc:Nat} (h6:DR μ (.aq x.v.ws.isEmpty 1 (x.v.ws.map wr)) (.slice XA x.v.ws.length xc)) (CP:DR μ (.aq x.w.isEmpty 1 (x.w.map wr)) (.slice YA x.w.length yc)) {E:Nat} {F:List Nat}
  (FZ:J (t,.tmp 3)=some (bG E F 149 ((jl x.v.kind x.v.node x.v.at_ x.v.n x.v.old x.v.new XA x.v.ws.length xc x.v.key x.v.aS (x.ex:Int) YA x.w.length yc (x.sl:Int)).toList.map AV.v))):
  ∃(A:Option Addr) (l c:Nat) (w7 w8:World),Hid (∀ty,(Builtin.append_ #[108,108] ty #[v1,.slice (some ⟨E,0,none⟩) 1 1]).run U' W=.ok (.slice A l c) w7)/\St w7 pb (i*4+3) (.slice A l c) w8/\PpK t w0 μ J kp pb pc ps i {p.a with q:=p.a.q++[x]} w8:=by
 obtain⟨Inf,z,i1,i2,i3,i4,i5,i6⟩:=i149;have hS:nY μ W 12 [x.row] (.slice (some ⟨E,0,none⟩) 1 1):=by
  refine⟨_,_,rfl,fun e he=>?_,fun _=>⟨E,0,rfl,fun k j e u he hu=>?_⟩⟩
  ·obtain rfl:=BT.1 he;rfl
  ·match k with
   |0=>
    cases he;have hjl:j<12:=(eR.1 hu).1;have hv:∃y,(jl x.v.kind x.v.node x.v.at_ x.v.n x.v.old x.v.new XA x.v.ws.length xc x.v.key x.v.aS (x.ex:Int) YA x.w.length yc (x.sl:Int)).toList[j]?=some y:=⟨_,ao hjl⟩;obtain⟨y,hy⟩:=hv;refine⟨y,?_,Zb h6 CP j u y hu hy⟩;rw[show 0+0*12+j=j by omega];exact hK.cell FZ (by grind)
   |k+1=>cases he
 obtain⟨v',w7,y,hap,hK7,yL⟩:=hK.qj (P:=U') hrow Tu i1 i2 i3 i4 i5 i6 (by omega) (by rw[ab];omega) (by simp) hS;rw[show p.a.q.map jr.row++[x.row]=(p.a.q++[x]).map jr.row by rw[im];rfl]at yL;obtain⟨A,c,rfl,_⟩:=yL.val;obtain⟨μ',hm,Ze,hd⟩:=hK7.Jm yL;rw[zS]at hd;obtain⟨w8,hst,hK9⟩:=Ze.Ku (k:=kp) ((ae _ _ (hkp.tmp 2)).trans ((ae _ _ (hkp.tmp 2)).trans xy)) (get_map hp) (j:=3) rfl (by omega) (a:=.v (.slice A ((p.a.q++[x]).map jr.row).length c)) (v:=.slice A ((p.a.q++[x]).map jr.row).length c) (.v rfl);rw[show(ps.map dE.row).set i (p.row.set 3 (.v (.slice A ((p.a.q++[x]).map jr.row).length c)))=(ps.set i ⟨.slice A ((p.a.q++[x]).map jr.row).length c,{p.a with q:=p.a.q++[x]}⟩).map dE.row by rw[aF];rfl]at hK9;exact⟨A,_,c,w7,w8,hap,hst,μ',_,.slice A ((p.a.q++[x]).map jr.row).length c,hm,hK9,af _ _ _,hd,fun k g1 g2=>by simp_all [ae]⟩
theorem PpK.from{kp:Ky}{pb pc:Nat}{ps:List dE}{i:Nat}{p':eI}{μ':Mu}(h:PpK t w0 μ' J kp pb pc ps i p' W)(hm:ak μ μ')(hJ:∀k,k≠kp->(∀m,m<20->k≠(t,.tmp m))->J k=I k):PpK t w0 μ I kp pb pc ps i p' W:=by
 obtain⟨mz,J',qv,h1,h2,h3,h4,h5⟩:=h;exact⟨mz,J',qv,hm.trans h1,h2,h3,h4,fun k g1 g2=>(h5 k g1 g2).trans (hJ k g1 g2)⟩
set_option maxHeartbeats 4000000 in
theorem TG(hK:az w0 μ I W){kp:Ky}(hkp:FW t kp){pb pc:Nat}{ps:List dE}(xy:I kp=some (aE pb pc 110 4 (ps.map dE.row))){i:Nat}{p:dE}(hp:ps[i]?=some p)(hd:LV μ p){v:Vb}{WA:Option Addr}{wc:Nat}(hdv:DR μ (.aq v.wn 1 (v.ws.map wr)) (.slice WA v.ws.length wc))
  {lines:Int} (hg:v.Good lines) (hnd:v.node=(p.a.nd:Int)) (KI:p.a.q.length<1024) (Ei:v.ws.length<=100000) (slot:Nat):
  Calls U' 79 #[.pointer (some ⟨pb,i*4,none⟩),.agg (aJ v.kind v.node v.at_ v.n v.old v.new WA v.ws.length wc v.key v.aS),.int .i64 lines,.int .i64 (slot:Int)] W
   fun e w'=> ∃z:Int,e=.returned (.int .i64 z)/\PpK t w0 μ I kp pb pc ps i {p.a with q:=p.a.q++[⟨v,0,[],slot⟩]} w':=by
 obtain⟨Q,qc,JH⟩:=hd.val;have Ys:DR μ (.aq p.a.q.isEmpty 12 (p.a.q.map jr.row)) (.slice Q p.a.q.length qc):=by rw[<-JH];exact hd
 have hK1:=hK.alloc (t,.tmp 0) (cs:=(aJ v.kind v.node v.at_ v.n v.old v.new WA v.ws.length wc v.key v.aS).toList.map AV.v) (cur:=aJ v.kind v.node v.at_ v.n v.old v.new WA v.ws.length wc v.key v.aS) (ty:=71) (fE _ fun v hv=>by
  simp only[ft,dt,re]at hv;rcases hv with rfl|rfl|rfl|rfl|rfl|rfl|rfl|rfl|rfl<;>rfl)
 obtain⟨I1,hI1⟩:∃I1,I1=put I (t,.tmp 0) (some (bG W.heap.size [W.heap.size] 71 ((aJ v.kind v.node v.at_ v.n v.old v.new WA v.ws.length wc v.key v.aS).toList.map AV.v))):=⟨_,rfl⟩;rw[<-hI1]at hK1;have hb0:I1 (t,.tmp 0)=some (bG W.heap.size [W.heap.size] 71 ((aJ v.kind v.node v.at_ v.n v.old v.new WA v.ws.length wc v.key v.aS).toList.map AV.v)):=by rw[hI1,af]
 have ES:∀k,k≠(t,.tmp 0)->I1 k=I k:=fun k g=>by rw[hI1,ae _ _ g]
 have afN:=(ES kp (hkp.tmp 0)).trans xy;refine LW pb (i*4) p.a.q.length qc v.ws.length wc v.kind v.node v.at_ v.n v.old v.new v.key v.aS lines (slot:Int) (p.a.nd:Int) WA Q W (fun _ w'=>PpK t w0 μ I kp pb pc ps i {p.a with q:=p.a.q++[⟨v,0,[],slot⟩]} w') ((vU hK1 hdv lines).mono fun e w2 he=>?_);obtain⟨rfl,hk2,_⟩:=he;rw[jh.2 hg];refine⟨0,rfl,fun h=>absurd rfl h,fun _=>?_⟩;have ng:=fun{μ':Mu} {J:Ky->Option ag} {W':World} (hk:az w0 μ' J W') (e:J kp=I1 kp)=>Cd hk (e.trans afN) hp;refine⟨hk2.cell hb0 (j:=1) rfl,(ng hk2 rfl).nd,hk2.drew.cell hb0 (j:=6) rfl,by rw[<-JH];exact(ng hk2.drew rfl).q,fun h=>absurd hnd h,fun _ h=>absurd h (by omega),fun _ _=>?_⟩;obtain⟨Inf,i1,i2,i3,i4⟩:=i69;obtain⟨vX,W3,y1,ady,du,DD⟩:=hk2.drew.qj (P:=U') (k:=(t,.tmp 1)) (v:=.slice none 0 0) (T:=69) (sz:=1) (xs:=[]) (.inl ⟨rfl,rfl⟩) u59 i1 i2 i3 (by omega) (by omega) rfl (by omega) (by simp) (by rw[ab];omega) (nY.data hdv hk2.drew.gj (by omega));rw[ly]at DD;obtain⟨XA,xc,rfl,_⟩:=DD.val;obtain⟨μ3,hm3,adz,hdX⟩:=du.Jm DD;rw[aK]at adz;rw[zS]at hdX;rw[ab]at ady hdX;obtain⟨W4,F4,Tw,_,eX⟩:=adz.Jw (k:=(t,.tmp 0)) ((ae _ _ (aa fun e=>by cases e)).trans hb0) (j:=6) rfl (a:=.v (.slice XA v.ws.length xc)) (v:=.slice XA v.ws.length xc) (.v rfl);obtain⟨I4,P3⟩:∃I4,I4=put (put I1 (t,.tmp 1) none) (t,.tmp 0) (some (bG W.heap.size F4 71 (((aJ v.kind v.node v.at_ v.n v.old v.new WA v.ws.length wc v.key v.aS).toList.map AV.v).set 6 (.v (.slice XA v.ws.length xc))))):=⟨_,rfl⟩;rw[<-P3]at eX;have hb4:I4 (t,.tmp 0)=some (bG W.heap.size F4 71 (((aJ v.kind v.node v.at_ v.n v.old v.new WA v.ws.length wc v.key v.aS).toList.map AV.v).set 6 (.v (.slice XA v.ws.length xc)))):=by rw[P3,af]
 have Zh:∀k,k≠(t,.tmp 0)->k≠(t,.tmp 1)->I4 k=I k:=fun k g1 g2=>by simp_all [ae]
 have aaU:=(Zh kp (hkp.tmp 0) (hkp.tmp 1)).trans xy;have cS:∀{μ':Mu} {J:Ky->Option ag} {W':World},az w0 μ' J W'->J kp=I4 kp->J (t,.tmp 0)=I4 (t,.tmp 0)->S9b pb (i*4) W.heap.size v.kind v.node v.at_ v.n v.old v.new XA v.ws.length xc v.key v.aS Q p.a.q.length qc W':=fun{μ' J W'} hk g1 g2=>
  ⟨hk.cell (g2.trans hb4) (j:=0) rfl,hk.cell (g2.trans hb4) (j:=1) rfl,hk.cell (g2.trans hb4) (j:=2) rfl,hk.cell (g2.trans hb4) (j:=3) rfl,hk.cell (g2.trans hb4) (j:=4) rfl,hk.cell (g2.trans hb4) (j:=5) rfl,hk.cell (g2.trans hb4) (j:=6) rfl,hk.cell (g2.trans hb4) (j:=7) rfl,hk.cell (g2.trans hb4) (j:=8) rfl,by rw[<-JH];exact(Cd hk (g1.trans aaU) hp).q⟩
 obtain⟨x,hx⟩:∃x:jr,x=⟨v,0,[],slot⟩:=⟨_,rfl⟩;obtain⟨box,FZ⟩:∃box,box=jl v.kind v.node v.at_ v.n v.old v.new XA v.ws.length xc v.key v.aS 0 none 0 0 (slot:Int):=⟨_,rfl⟩;have adA:(jl x.v.kind x.v.node x.v.at_ x.v.n x.v.old x.v.new XA x.v.ws.length xc x.v.key x.v.aS (x.ex:Int) none x.w.length 0 (x.sl:Int))=box:=by rw[hx,FZ];rfl
 have vE:∀(hp:HF) (ν:Mu),nB ν hp [] (box.toList.map AV.v) box.toList:=fun hp ν=>fE _ fun v hv=>by
  rw[FZ]at hv;simp only[ft,dt,re]at hv;rcases hv with rfl|rfl|rfl|rfl|rfl|rfl|rfl|rfl|rfl|rfl|rfl|rfl<;>rfl
 have hx6:DR μ3 (.aq x.v.ws.isEmpty 1 (x.v.ws.map wr)) (.slice XA x.v.ws.length xc):=by rw[hx];exact hdX
 have adB:DR μ3 (.aq x.w.isEmpty 1 (x.w.map wr)) (.slice none x.w.length 0):=by rw[hx];exact gM
 obtain⟨ag8,z',j1,j2,j3,j4,j5,j6⟩:=i149;have hd3:=Ys.mono hm3;obtain⟨v1A,WJ,yA,aaV,hKA,JI⟩:=eX.drew.qj (P:=U') (k:=(t,.tmp 2)) (v:=.slice none 0 0) (T:=149) (sz:=12) (xs:=[]) (.inl ⟨rfl,rfl⟩) Tu j1 j2 j3 j4 j5 j6 (by omega) (by simp) (by rw[ab];omega) (nY.data hd3 eX.drew.gj (by omega));rw[ly]at JI;have afO:=hKA.alloc (t,.tmp 3) (ty:=149) (vE _ _);obtain⟨AA,lA,cA,W7A,W8A,a1,a2,a3⟩:=NT (x:=x) afO hkp (by rw[ae _ _ (hkp.tmp 3),ae _ _ (hkp.tmp 2)];exact aaU) hp (by omega) (JI.same (ae _ _ (aa fun e=>by cases e))) hx6 adB (E:=WJ.heap.size) (F:=[WJ.heap.size]) (by rw[af,adA]);have hKB:=eX.alloc (t,.tmp 3) (ty:=149) (vE _ _);obtain⟨v1B,W6B,yB,aaW,afP,JJ⟩:=hKB.drew.qj (P:=U') (k:=(t,.tmp 2)) (v:=.slice none 0 0) (T:=149) (sz:=12) (xs:=[]) (.inl ⟨rfl,rfl⟩) Tu j1 j2 j3 j4 j5 j6 (by omega) (by simp) (by rw[ab];omega) (nY.data hd3 hKB.drew.gj (by omega));rw[ly]at JJ;obtain⟨AB,lB,cB,W7B,W8B,b1,b2,b3⟩:=NT (x:=x) afP hkp (by rw[ae _ _ (hkp.tmp 2),ae _ _ (hkp.tmp 3)];exact aaU) hp (by omega) JJ hx6 adB (E:=W4.heap.size) (F:=[W4.heap.size]) (by simp_all [ae,aa,af]);rw[hx]at a3 b3;refine⟨XA,v.ws.length,xc,W3,W4,ady,Tw,v1A,v1B,AA,AB,lA,cA,lB,cB,WJ,W7A,W8A,W6B,W7B,W8B,cS eX.drew rfl rfl,?_,cS hKA (ae _ _ (hkp.tmp 2)) (ae _ _ (aa fun e=>by cases e)),aaV,?_,a2,?_,?_,b1,b2,?_⟩
 ·rw[<-FZ];exact cS hKB (ae _ _ (hkp.tmp 3)) (ae _ _ (aa fun e=>by cases e))
 ·rw[<-FZ];exact a1
 ·exact a3.from hm3 fun k g1 g2=>by simp_all [ae]
 ·rw[<-FZ];exact aaW
 ·exact b3.from hm3 fun k g1 g2=>by simp_all [ae]
end
section
attribute [local go_sem] Oper.semAt_some
set_option maxHeartbeats 2000000 in
set_option maxRecDepth 1000000 in
theorem dX(f cb ci nc cc:Nat)(al:Bool)(W:World)(h1:W.cell? ⟨f,2,none⟩=some (.slice (some ⟨cb,0,none⟩) nc cc))(hc:ci<nc)(h2:W.cell? ⟨cb,ci*7,none⟩=some (.bool al)):
  Calls U' 77 #[.pointer (some ⟨f,0,none⟩),.int .i64 (ci:Int)] W fun e w'=>e=.returned (.bool al)/\w'=W:=by
 have mixed:U'.follows .mixedOrders=true:=by kernel_rfl
 have uu:(ci:Int)<(nc:Int):=by omega
 have hc0:(0:Int)<=(ci:Int):=by omega
 go_enter Tryz.func77,Tryz.ntmps77
 go_wp2
 go_ret
 exact⟨rfl,rfl⟩
set_option maxHeartbeats 2000000 in
set_option maxRecDepth 1000000 in
theorem Cj(f cb nc cc:Nat)(c:Int)(W:World)(h1:W.cell? ⟨f,2,none⟩=some (.slice (some ⟨cb,0,none⟩) nc cc))(hc:c<0\/(nc:Int)<=c):
  Calls U' 77 #[.pointer (some ⟨f,0,none⟩),.int .i64 c] W fun e w'=>e=.returned (.bool false)/\w'=W:=by
 have mixed:U'.follows .mixedOrders=true:=by kernel_rfl
 by_cases h0:0<=c
 ·have uu:¬(c<(nc:Int)):=by omega
  go_enter Tryz.func77,Tryz.ntmps77
  go_wp2
  go_ret
  exact⟨rfl,rfl⟩
 ·go_enter Tryz.func77,Tryz.ntmps77
  go_wp2
  go_ret
  exact⟨rfl,rfl⟩
set_option maxHeartbeats 2000000 in
set_option maxRecDepth 1000000 in
theorem Et(f:Nat)(c:Int)(b:Bool)(W:World)(h:Calls U' 77 #[.pointer (some ⟨f,0,none⟩),.int .i64 c] W fun e w'=>e=.returned (.bool b)/\w'=W):
  Calls U' 48 #[.pointer (some ⟨f,0,none⟩),.int .i64 c] W fun e w'=>e=.returned (.bool b)/\w'=W:=by
 have mixed:U'.follows .mixedOrders=true:=by kernel_rfl
 go_enter Tryz.func48,Tryz.ntmps48
 go_wp2_with (go_at_call 77;refine da h ?_;clear h;rintro e w' ⟨rfl,hw⟩;rw[hw];clear hw)
 go_ret
 exact⟨rfl,rfl⟩
set_option maxHeartbeats 2000000 in
set_option maxRecDepth 1000000 in
theorem W7(f cb ci nc cc:Nat)(inc:Int)(W:World)(h1:W.cell? ⟨f,2,none⟩=some (.slice (some ⟨cb,0,none⟩) nc cc))(hc:ci<nc)(h2:W.cell? ⟨cb,ci*7+1,none⟩=some (.int .i64 inc)):
  Calls U' 50 #[.pointer (some ⟨f,0,none⟩),.int .i64 (ci:Int)] W fun e w'=>e=.returned (.int .i64 inc)/\w'=W:=by
 have mixed:U'.follows .mixedOrders=true:=by kernel_rfl
 have uu:(ci:Int)<(nc:Int):=by omega
 have hcJ:¬((nc:Int)<=(ci:Int)):=by omega
 have hc0:¬((ci:Int)<0):=by omega
 go_enter Tryz.func50,Tryz.ntmps50
 go_wp2
 go_ret
 exact⟨rfl,rfl⟩
set_option maxHeartbeats 2000000 in
set_option maxRecDepth 1000000 in
theorem TH(f cb nc cc:Nat)(c:Int)(W:World)(h1:W.cell? ⟨f,2,none⟩=some (.slice (some ⟨cb,0,none⟩) nc cc))(hc:c<0\/(nc:Int)<=c):
  Calls U' 50 #[.pointer (some ⟨f,0,none⟩),.int .i64 c] W fun e w'=>e=.returned (.int .i64 0)/\w'=W:=by
 have mixed:U'.follows .mixedOrders=true:=by kernel_rfl
 by_cases h0:c<0
 ·go_enter Tryz.func50,Tryz.ntmps50
  go_wp2
  go_ret
  exact⟨rfl,rfl⟩
 ·have uu:(nc:Int)<=c:=by omega
  go_enter Tryz.func50,Tryz.ntmps50
  go_wp2
  go_ret
  exact⟨rfl,rfl⟩
set_option maxHeartbeats 2000000 in
set_option maxRecDepth 1000000 in
theorem Zi(b o wb nw cw:Nat)(x:Int)(W:World)(h1:W.cell? ⟨b,o,none⟩=some (.slice (some ⟨wb,0,none⟩) nw cw))(hi:1<nw)(h2:W.cell? ⟨wb,1,none⟩=some (.int .u64 x)):
  Calls U' 85 #[.pointer (some ⟨b,o,none⟩)] W fun e w'=>e=.returned (.int .u64 x)/\w'=W:=by
 have mixed:U'.follows .mixedOrders=true:=by kernel_rfl
 have hI:(1:Int)<(nw:Int):=by omega
 go_enter Tryz.func85,Tryz.ntmps85
 go_wp2
 go_ret
 exact⟨rfl,rfl⟩
set_option maxHeartbeats 2000000 in
set_option maxRecDepth 1000000 in
theorem TI(b o wb nw cw:Nat)(up:Bool)(x:Int)(W:World)(h1:W.cell? ⟨b,o,none⟩=some (.slice (some ⟨wb,0,none⟩) nw cw))(hi:1<nw)(h2:W.cell? ⟨wb,1,none⟩=some (.int .u64 x))(h3:W.cell? ⟨b,o+1,none⟩=some (.bool up))(hn:up=true\/31<=x):
  Calls U' 41 #[.pointer (some ⟨b,o,none⟩)] W fun e w'=>e=.returned (.bool false)/\w'=W:=by
 have mixed:U'.follows .mixedOrders=true:=by kernel_rfl
 have hb:=Zi b o wb nw cw x W h1 hi h2;cases up with
 |true=>
  go_enter Tryz.func41,Tryz.ntmps41
  go_wp2
  go_ret
  exact⟨rfl,rfl⟩
 |false=>
  have hx:31<=x:=hn.resolve_left (by simp)
  go_enter Tryz.func41,Tryz.ntmps41
  go_wp2_with (go_at_call 85;refine da hb ?_;clear hb;rintro e w' ⟨rfl,hw⟩;rw[hw];clear hw)
  go_ret
  exact⟨rfl,rfl⟩
end
section
attribute [local go_sem] Oper.semAt_some
def oI(hv:List Bool)(k:Nat):Nat:=((hv.take k).filter (fun b=> !b)).length
theorem TJ(hv:List Bool)(k:Nat):oI hv k<=k:=by
 unfold oI;have h1:=Sf (fun b=> !b) (hv.take k);have h2:=List.length_take_le k hv;omega
theorem Ma{hv:List Bool}{k:Nat}{b:Bool}(h:hv[k]?=some b):oI hv (k+1)=oI hv k+(if b then 0 else 1):=by
 unfold oI;rw[On,h,List.filter_append,ec];cases b<;>rfl
set_option maxHeartbeats 2000000 in
set_option maxRecDepth 1000000 in
theorem P4(f cb nc cc:Nat)(c:Int)(W:World)(h1:W.cell? ⟨f,2,none⟩=some (.slice (some ⟨cb,0,none⟩) nc cc))(hc:c<0\/(nc:Int)<=c):
  Calls U' 52 #[.pointer (some ⟨f,0,none⟩),.int .i64 c] W fun e w'=>e=.returned (.int .i64 0)/\w'=W:=by
 have mixed:U'.follows .mixedOrders=true:=by kernel_rfl
 by_cases h0:c<0
 ·go_enter Tryz.func52,Tryz.ntmps52
  go_wp2
  go_ret
  exact⟨rfl,rfl⟩
 ·have uu:(nc:Int)<=c:=by omega
  go_enter Tryz.func52,Tryz.ntmps52
  go_wp2
  go_ret
  exact⟨rfl,rfl⟩
set_option maxHeartbeats 2000000 in
set_option maxRecDepth 1000000 in
theorem P5(f cb ci nc cc:Nat)(W:World)(h1:W.cell? ⟨f,2,none⟩=some (.slice (some ⟨cb,0,none⟩) nc cc))(hc:ci<nc)(h2:W.cell? ⟨cb,ci*7+2,none⟩=some (.bool false)):
  Calls U' 52 #[.pointer (some ⟨f,0,none⟩),.int .i64 (ci:Int)] W fun e w'=>e=.returned (.int .i64 0)/\w'=W:=by
 have mixed:U'.follows .mixedOrders=true:=by kernel_rfl
 have uu:(ci:Int)<(nc:Int):=by omega
 have hcJ:¬((nc:Int)<=(ci:Int)):=by omega
 have hc0:¬((ci:Int)<0):=by omega
 go_enter Tryz.func52,Tryz.ntmps52
 go_wp2
 go_ret
 exact⟨rfl,rfl⟩
set_option maxHeartbeats 2000000 in
set_option maxRecDepth 1000000 in
theorem TK(f cb ci nc cc hb ho hc':Nat)(hv:List Bool)(W:World)(h1:W.cell? ⟨f,2,none⟩=some (.slice (some ⟨cb,0,none⟩) nc cc))(hc:ci<nc)(h2:W.cell? ⟨cb,ci*7+2,none⟩=some (.bool true))
  (h3:W.cell? ⟨cb,ci*7+4,none⟩=some (.slice (some ⟨hb,ho,none⟩) hv.length hc')) (hl:hv.length<=100000) (h4:∀(i:Nat) (b:Bool),hv[i]?=some b->W.cell? ⟨hb,ho+i,none⟩=some (.bool b)):
  Calls U' 52 #[.pointer (some ⟨f,0,none⟩),.int .i64 (ci:Int)] W fun e w'=>e=.returned (.int .i64 (oI hv hv.length:Nat))/\w'=W:=by
 have mixed:U'.follows .mixedOrders=true:=by kernel_rfl
 have uu:(ci:Int)<(nc:Int):=by omega
 have hcJ:¬((nc:Int)<=(ci:Int)):=by omega
 have hc0:¬((ci:Int)<0):=by omega
 go_enter Tryz.func52,Tryz.ntmps52
 go_wp2
 go_loopg [5,6] hv.length (fun g s5 s6 W'=> ∃i:Nat,i+g=hv.length/\s6=.int .i64 i/\s5=.int .i64 (oI hv i:Nat)/\W'=W)
 case atStart=>exact⟨0,by omega,rfl,by simp[oI],rfl⟩
 case round=>
  obtain⟨i,hig,rfl,rfl,rfl⟩:=hrel;cases gk with
  |succ g=>
   have hi:i<hv.length:=by omega
   have zP:(i:Int)<(hv.length:Int):=by omega
   have hw:wrap64 ((i:Int)+1)=((i+1:Nat):Int):=by rw[mZ,aD];omega
   have hop:=TJ hv i;have hw2:wrap64 ((oI hv i:Nat)+1)=((oI hv i+1:Nat):Int):=by rw[mZ,aD];omega
   have hget:hv[i]?=some hv[i]:=ao hi;have hcell:=h4 i _ hget;have hs:=Ma hget;cases vE:hv[i]with
   |true=>
    rw[vE]at hcell hs
    go_wp2
    go_roundg g
    case measure=>omega
    case rel=>exact⟨i+1,by omega,by first|rfl|rw[hw],by rw[hs];rfl,rfl⟩
   |false=>
    rw[vE]at hcell hs
    go_wp2
    go_roundg g
    case measure=>omega
    case rel=>exact⟨i+1,by omega,by first|rfl|rw[hw],by rw[hs];first|rfl|rw[<-hw2];rfl,rfl⟩
  |zero=>
   obtain rfl:i=hv.length:=by omega
   go_wp2
   go_ret
   exact⟨rfl,rfl⟩
end
section
attribute [local go_sem] Oper.semAt_some
set_option maxHeartbeats 2000000 in
set_option maxRecDepth 1000000 in
theorem P6(f:Nat)(OA:Option Addr)(n oc:Nat)(i:Int)(W:World)(h1:W.cell? ⟨f,4,none⟩=some (.slice OA n oc))(hi:i<0\/(n:Int)<=i):
  Calls U' 38 #[.pointer (some ⟨f,0,none⟩),.int .i64 i] W fun e w'=>e=.returned (.bool false)/\w'=W:=by
 have mixed:U'.follows .mixedOrders=true:=by kernel_rfl
 by_cases h0:i<0
 ·go_enter Tryz.func38,Tryz.ntmps38
  go_wp2
  go_ret
  exact⟨rfl,rfl⟩
 ·have uu:(n:Int)<=i:=by omega
  go_enter Tryz.func38,Tryz.ntmps38
  go_wp2
  go_ret
  exact⟨rfl,rfl⟩
set_option maxHeartbeats 2000000 in
set_option maxRecDepth 1000000 in
theorem TL(f ob n oc i:Nat)(W w1:World)(A1:Option Addr)(l1 c1:Nat)(K:World->Prop)(h1:W.drew.cell? ⟨f,4,none⟩=some (.slice (some ⟨ob,0,none⟩) n oc))(h0:W.cell? ⟨f,4,none⟩=some (.slice (some ⟨ob,0,none⟩) n oc))(hi:i<n)(hn:n<=oc)(hoc:n<=100000)
  (zo:Hid (∀ty,(Builtin.append_ #[56,56] ty #[.slice none 0 0,.slice (some ⟨ob,0,none⟩) i oc]).run U' W.drew=.ok (.slice A1 l1 c1) w1)) (h2:w1.cell? ⟨f,4,none⟩=some (.slice (some ⟨ob,0,none⟩) n oc))
  (hR:∀so,(so=(i+1)*4/\oc≠i+1\/so=0/\oc=i+1)->∃(A2:Option Addr) (l2 c2:Nat) (w2 w3:World),Hid (∀ty,(Builtin.append_ #[56,56] ty #[.slice A1 l1 c1,.slice (some ⟨ob,so,none⟩) (n-(i+1)) (oc-(i+1))]).run U' w1=.ok (.slice A2 l2 c2) w2)/\St w2 f 4 (.slice A2 l2 c2) w3/\K w3):
  Calls U' 38 #[.pointer (some ⟨f,0,none⟩),.int .i64 (i:Int)] W fun e w'=>e=.returned (.bool true)/\K w':=by
 have mixed:U'.follows .mixedOrders=true:=by kernel_rfl
 have e1:¬((i:Int)<0):=by omega
 have e2:¬((n:Int)<=(i:Int)):=by omega
 have e3:(0:Int)<=(i:Int):=by omega
 have e4:(i:Int)<=(oc:Int):=by omega
 have e5:wrap64 ((i:Int)+1)=((i+1:Nat):Int):=by rw[mZ,aD];omega
 have e5':IntKind.i64.wrap ((i:Int)+1)=(i:Int)+1:=by rw[aD];omega
 have e6:(0:Int)<=(i:Int)+1:=by omega
 have e7:(i:Int)+1<=(n:Int):=by omega
 have e8:(n:Int)<=(oc:Int):=by omega
 have e9:((i:Int)+1).toNat=i+1:=by omega
 by_cases hq:oc=i+1
 ·subst hq;obtain rfl:n=i+1:=by omega
  obtain⟨A2,l2,c2,w2,w3,sM,⟨f0,⟨y0,f1⟩,f2⟩,hK⟩:=hR 0 (.inr ⟨rfl,rfl⟩);clear hR;simp only[Hh]at sM;have Eo:(i:Int)<=(i:Int)+1:=by omega
  have JA:(i:Int)<(i:Int)+1:=by omega
  go_enter Tryz.func38,Tryz.ntmps38
  go_wp2
  go_region_law_o (first|(refine aH rfl (.const (.slice none 0 0)) (.tmp 22) 56 56 rfl (.slice none 0 0) (.slice (some ⟨ob,0,none⟩) i (i+1)) (by simp[Act.eval,Act.put]) (by simp[Act.eval,Act.put]) (zo.out _) ?_)|(refine aH rfl (.tmp 23) (.tmp 30) 56 56 rfl (.slice A1 l1 c1) (.slice (some ⟨ob,0,none⟩) 0 0) (by simp[Act.eval,Act.put]) (by simp[Act.eval,Act.put]) (sM.out _) ?_))
  all_goals
   go_wp2
   go_ret
   exact⟨rfl,hK⟩
 ·obtain⟨A2,l2,c2,w2,w3,sM,⟨f0,⟨y0,f1⟩,f2⟩,hK⟩:=hR ((i+1)*4) (.inl ⟨rfl,hq⟩);clear hR;have hqd:¬(oc-(i+1)=0):=by omega
  go_enter Tryz.func38,Tryz.ntmps38
  go_wp2
  go_region_law_o (first|(refine aH rfl (.const (.slice none 0 0)) (.tmp 22) 56 56 rfl (.slice none 0 0) (.slice (some ⟨ob,0,none⟩) i oc) (by simp[Act.eval,Act.put]) (by simp[Act.eval,Act.put]) (zo.out _) ?_)|(refine aH rfl (.tmp 23) (.tmp 30) 56 56 rfl (.slice A1 l1 c1) (.slice (some ⟨ob,(i+1)*4,none⟩) (n-(i+1)) (oc-(i+1))) (by simp[Act.eval,Act.put]) (by simp[Act.eval,Act.put]) (sM.out _) ?_))
  all_goals
   go_wp2
   go_ret
   exact⟨rfl,hK⟩
end
section
variable{w0 W:World}{μ:Mu}{I J:Ky->Option ag}{t fb:Nat}{s:gm}
def mX(t:Nat)(w0:World)(μ:Mu)(I:Ky->Option ag)(fb:Nat)(a:gP)(W:World):Prop:=
 ∃(μ':Mu) (I':Ky->Option ag) (s':gm),ak μ μ'/\az w0 μ' I' W/\eM t I' fb s'/\wz μ' s'/\s'.a=a/\∀k:Ky,k.1≠t->I' k=I k
theorem mX.from{μ':Mu}{J:Ky->Option ag}{a:gP}(h:mX t w0 μ' J fb a W)(hm:ak μ μ')(hf:∀k:Ky,k.1≠t->J k=I k):mX t w0 μ I fb a W:=by
 obtain⟨μ2,I2,s2,h1,h2,h3,h4,h5,h6⟩:=h;exact⟨μ2,I2,s2,hm.trans h1,h2,h3,h4,h5,fun k hk=>(h6 k hk).trans (hf k hk)⟩
theorem mX.start(hK:az w0 μ I W)(hR:eM t I fb s)(hD:wz μ s):mX t w0 μ I fb s.a W:=⟨μ,I,s,ak.refl _,hK,hR,hD,rfl,fun _ _=>rfl⟩
theorem mX.bw{W':World}{a:gP}(h:mX t w0 μ I fb a W)(k:ar [] W W'):mX t w0 μ I fb a W':=by
 obtain⟨μ2,I2,s2,h1,h2,h3,h4,h5,h6⟩:=h;exact⟨μ2,I2,s2,h1,h2.bw k,h3,h4,h5,h6⟩
theorem bY(W:World)(n:Nat):ar [] W (W.drewN n):=⟨rfl,rfl,rfl,dk _,fun _ _ _=>rfl⟩
theorem _root_.Go.Ev.az.move{ι:Type}[DecidableEq ι]{w W:World}{μ:Mu}{I:ι->Option ag}(h:az w μ I W){k1 k2:ι}(hne:k1≠k2):az w μ (put (put I k2 (I k1)) k1 none) W:=by
 have hJ:∀k x,put (put I k2 (I k1)) k1 none k=some x->k≠k1/\((k=k2/\I k1=some x)\/(k≠k2/\I k=some x)):=fun k x hx=>by
  rcases oB hx with⟨_,e⟩|⟨g,hx⟩
  ·cases e
  ·rcases oB hx with⟨g2,e⟩|⟨g2,hx⟩
   ·exact⟨g,.inl ⟨g2,e⟩⟩
   ·exact⟨g,.inr ⟨g2,hx⟩⟩
 refine h.ren (fun k=>if k=k2 then k1 else k) (fun k x hx=>?_) fun k l x y hk hl e=>?_
 ·obtain⟨_,h2⟩:=hJ k x hx;rcases h2 with⟨e,h2⟩|⟨e,h2⟩
  ·rw[ee e];exact h2
  ·rw[eg e];exact h2
 ·obtain⟨a1,a2⟩:=hJ k x hk;obtain⟨b1,b2⟩:=hJ l y hl;by_cases g1:k=k2
  ·by_cases g2:l=k2
   ·rw[g1,g2]
   ·rw[ee g1,eg g2]at e;exact absurd e.symm b1
  ·by_cases g2:l=k2
   ·rw[eg g1,ee g2]at e;exact absurd e a1
   ·rw[eg g1,eg g2]at e;exact e
theorem i110:∃(Inf:TypeInfo) (z:Value),U'.info? 110=some Inf/\Inf.zero=some z/\Inf.size=4/\0<Inf.bytes/\Inf.bytes<=1000/\z.cells.size=4:=by
 obtain⟨Inf,h1,h2,h3,h4⟩:=Go.Ev.info_parts (P:=U') (t:=110) (z:=.agg #[.int .i64 0,.int .i64 0,.int .i64 0,.slice none 0 0]) (s:=4) (b:=48) (by kernel_rfl);exact⟨Inf,_,h1,h2,h3,by omega,by omega,rfl⟩
theorem u56:U'.underlying 56=some (.slice 110):=by kernel_rfl
theorem Ck{α:Type}(l:List α)(i:Nat):l.take i++l.drop (i+1)=l.eraseIdx i:=(List.eraseIdx_eq_take_drop_succ ..).symm
theorem Cl{α β:Type}(f:α->β)(l:List α)(i:Nat):(l.eraseIdx i).map f=(l.map f).eraseIdx i:=by
 rw[<-Ck,<-Ck,im,IF,List.map_drop]
theorem W8{l:List dE}(i:Nat):((l.map dE.row).drop 0).take i++((l.map dE.row).drop (i+1)).take (l.length-(i+1))=(l.eraseIdx i).map dE.row:=by
 rw[List.drop_zero,yi (l:=(l.map dE.row).drop (i+1)) (by rw[xf,ab];exact dk _),Ck,Cl]
theorem JK(hK:az w0 μ I W)(hR:eM t I fb s)(hD:wz μ s){i:Nat}(hi:i<s.os.length)(hl:s.os.length<=100000):
  Calls U' 38 #[ptr fb,.int .i64 (i:Int)] W fun e w'=>e=.returned (.bool true)/\mX t w0 μ I fb {s.a with os:=s.a.os.eraseIdx i} w':=by
 obtain⟨Inf,z,i1,i2,i3,i4,i5,i6⟩:=i110;obtain⟨ob,oc,JL,Vo⟩:=Row.at hR.lO (ao hi);obtain⟨F,dF⟩:=hR.cM;obtain⟨_,_,_,_,_,_,k5,_⟩:=hK.row Vo;rw[ab]at k5;have c4:∀{μ':Mu} {J:Ky->Option ag} {W':World},az w0 μ' J W'->J (t,.cM)=I (t,.cM)->W'.cell? ⟨fb,4,none⟩=some (.slice (some ⟨ob,0,none⟩) s.os.length oc):=fun{μ' J W'} hk e=>by
  have:=hk.cell (e.trans dF) (j:=4) rfl;rwa [JL]at this
 have hS1:=hK.drew.Wu Vo 0 i oc (by rw[ab];omega);rw[By]at hS1;obtain⟨v1,w1,y1,zo,hK1,TM⟩:=hK.drew.qj (P:=U') (k:=(t,.tmp 5)) (v:=.slice none 0 0) (T:=110) (sz:=4) (xs:=[]) (.inl ⟨rfl,rfl⟩) u56 i1 i2 i3 i4 i5 i6 (by omega) (by simp) (by rw[uv,xf,ab];omega) hS1;rw[ly]at TM;obtain⟨A1,c1,rfl,_⟩:=TM.val;have W9:put I (t,.tmp 5) y1 (t,.lO)=some (aE ob oc 110 4 (s.os.map dE.row)):=(ae _ _ (aa fun e=>by cases e)).trans Vo;refine TL fb ob s.os.length oc i W w1 A1 _ c1 _ (c4 hK.drew rfl) (c4 hK rfl) hi k5 hl zo (c4 hK1 (ae _ _ (aa fun e=>by cases e))) fun so hso=>?_;have Y6:nY μ w1 4 (((s.os.map dE.row).drop (i+1)).take (s.os.length-(i+1))) (.slice (some ⟨ob,so,none⟩) (s.os.length-(i+1)) (oc-(i+1))):=by
  rcases hso with⟨rfl,_⟩|⟨rfl,hoc⟩
  ·exact hK1.Wu W9 (i+1) _ _ (by rw[ab];omega)
  ·rw[show s.os.length-(i+1)=0 by omega,List.take_zero];exact .nil
 obtain⟨v2,w2,y2,sM,bq,AO⟩:=hK1.qj (P:=U') TM u56 i1 i2 i3 i4 i5 i6 (by omega) (by rw[uv,xf,ab];omega) (by rw[uv,xf,ab];omega) Y6;rw[W8,aK]at AO;rw[aK]at bq;obtain⟨A2,c2,rfl,_⟩:=AO.val;have IL:put I (t,.tmp 5) y2 (t,.cM)=some (bG fb F 58 s.cells):=(ae _ _ (aa fun e=>by cases e)).trans dF;obtain⟨w3,F3,hst,_,du⟩:=bq.Jw IL (j:=4) rfl (a:=.v (.slice A2 ((s.os.eraseIdx i).map dE.row).length c2)) (v:=.slice A2 ((s.os.eraseIdx i).map dE.row).length c2) (.v rfl);have eX:=du.move (k1:=(t,.tmp 5)) (k2:=(t,.lO)) (aa fun e=>by cases e);refine⟨A2,_,c2,w2,w3,sM,hst,μ,_,{s with ov:=.slice A2 ((s.os.eraseIdx i).map dE.row).length c2,os:=s.os.eraseIdx i},ak.refl _,eX,hR.orS (F:=F3) (fun k g1 g2 g3=>?_) ?_ ?_,⟨hD.ln,fun p hp=>hD.os p (List.mem_of_mem_eraseIdx hp)⟩,?_,fun k hk=>?_⟩
 ·rw[ae _ _ (aa (g3 5)),ae _ _ (aa g2),ae _ _ (aa g1),ae _ _ (aa (g3 5))]
 ·rw[ae _ _ (aa fun e=>by cases e),ae _ _ (aa fun e=>by cases e),af];rfl
 ·refine Row.same (J:=put (put (put (put I (t,.tmp 5) y2) (t,.cM) (some (bG fb F3 58 (s.cells.set 4 (.v (.slice A2 ((s.os.eraseIdx i).map dE.row).length c2)))))) (t,.lO) (put (put I (t,.tmp 5) y2) (t,.cM) (some (bG fb F3 58 (s.cells.set 4 (.v (.slice A2 ((s.os.eraseIdx i).map dE.row).length c2))))) (t,.tmp 5))) (t,.tmp 5) none) (I:=fun k=>put I (t,.tmp 5) y2 (t,.tmp 5)) ?_ ?_
  ·rcases AO.row with h|⟨b,c,h1,h2⟩
   ·exact .inl h
   ·exact .inr ⟨b,c,h1,h2⟩
  ·rw[ae _ _ (aa fun e=>by cases e),af,ae _ _ (aa fun e=>by cases e)]
 ·unfold gm.a;simp only[Cl]
 ·rw[ae _ _ (fun e=>hk (by rw[e])),ae _ _ (fun e=>hk (by rw[e])),ae _ _ (fun e=>hk (by rw[e])),ae _ _ (fun e=>hk (by rw[e]))]
end
section
attribute [local go_sem] Oper.semAt_some
abbrev gz(o c n:Int):Obj:=.cells #[.int .i64 o,.int .i64 c,.int .i64 n] 86
abbrev P7(o c n:Int):Value:=.agg #[.int .i64 o,.int .i64 c,.int .i64 n]
def Rf2(f n0:Nat)(OA:Option Addr)(n oc:Nat)(k:Int)(w:World):Prop:=w.cell? ⟨n0,0,none⟩=some (.int .i64 k)/\w.cell? ⟨f,4,none⟩=some (.slice OA n oc)
set_option maxHeartbeats 2000000 in
set_option maxRecDepth 1000000 in
theorem Xa(f n oc:Nat)(OA:Option Addr)(k c nd:Int)(W:World)(hk:(n:Int)<=k)(h1:Rf2 f W.heap.size OA n oc k (W.alloc (gz k c nd)).drew):
  Calls U' 28 #[.pointer (some ⟨f,0,none⟩),P7 k c nd] W fun e w'=>e=.returned (.bool false)/\w'=(W.alloc (gz k c nd)).drew:=by
 have mixed:U'.follows .mixedOrders=true:=by kernel_rfl
 have hk0:(0:Int)<=k:=by omega
 obtain⟨a0,a1⟩:=h1
 go_enter Tryz.func28,Tryz.ntmps28
 go_wp2
 go_region_held3 (fun w'=>w'.cell? ⟨W.heap.size,0,none⟩=some (.int .i64 k)/\w'.cell? ⟨f,4,none⟩=some (.slice OA n oc)) (first|exact⟨a0,a1⟩) (first|fail)
 go_wp2
 go_ret
 exact⟨rfl,rfl⟩
set_option maxHeartbeats 2000000 in
set_option maxRecDepth 1000000 in
theorem Mb(f ob n oc k nb nn nc nd:Nat)(c x:Int)(W:World)(K:World->Prop)(hk:k<n)(hnd:nd<nn)
  (h1:Rf2 f W.heap.size (some ⟨ob,0,none⟩) n oc k (W.alloc (gz k c x)).drew) (h2:Rf2 f W.heap.size (some ⟨ob,0,none⟩) n oc k (W.alloc (gz k c x)).drew.drew)
  (h3:(W.alloc (gz k c x)).drew.drew.drew.cell? ⟨f,1,none⟩=some (.slice (some ⟨nb,0,none⟩) nn nc)/\(W.alloc (gz k c x)).drew.drew.drew.cell? ⟨ob,k*4+2,none⟩=some (.int .i64 (nd:Int)))
  (hcall:Calls U' 80 #[.pointer (some ⟨ob,k*4,none⟩),.pointer (some ⟨nb,nd*2,none⟩)] (W.alloc (gz k c x)).drew.drew.drew fun e w2=> ∃(v:Value) (QA:Option Addr) (ql qc:Nat),e=.returned v/\
   (w2.cell? ⟨f,1,none⟩=some (.slice (some ⟨nb,0,none⟩) nn nc)/\w2.cell? ⟨ob,k*4+2,none⟩=some (.int .i64 (nd:Int)))/\w2.cell? ⟨ob,k*4+3,none⟩=some (.slice QA ql qc)/\(ql≠0->K w2)/\
   (ql=0->w2.cell? ⟨W.heap.size,0,none⟩=some (.int .i64 k)/\Calls U' 38 #[.pointer (some ⟨f,0,none⟩),.int .i64 (k:Int)] w2 fun e w3=> ∃b,e=.returned (.bool b)/\K w3)):
  Calls U' 28 #[.pointer (some ⟨f,0,none⟩),P7 k c x] W fun e w'=>e=.returned (.bool true)/\K w':=by
 have mixed:U'.follows .mixedOrders=true:=by kernel_rfl
 have hk0:(0:Int)<=(k:Int):=by omega
 have hkI:(k:Int)<(n:Int):=by omega
 have hkJ:¬((n:Int)<=(k:Int)):=by omega
 have aaG:(nd:Int)<(nn:Int):=by omega
 obtain⟨a0,a1⟩:=h1;obtain⟨b0,b1⟩:=h2;obtain⟨d0,d1⟩:=h3
 go_enter Tryz.func28,Tryz.ntmps28
 go_wp2
 go_region_held3 (fun w'=>w'.cell? ⟨W.heap.size,0,none⟩=some (.int .i64 (k:Int))/\w'.cell? ⟨f,4,none⟩=some (.slice (some ⟨ob,0,none⟩) n oc)) (first|exact⟨a0,a1⟩) (first|fail)
 go_wp2
 go_region_held3 (fun w'=>w'.cell? ⟨W.heap.size,0,none⟩=some (.int .i64 (k:Int))/\w'.cell? ⟨f,4,none⟩=some (.slice (some ⟨ob,0,none⟩) n oc)) (first|exact⟨b0,b1⟩) (first|fail)
 go_wp2
 go_region_held3 (fun w'=>w'.cell? ⟨f,1,none⟩=some (.slice (some ⟨nb,0,none⟩) nn nc)/\w'.cell? ⟨ob,k*4+2,none⟩=some (.int .i64 (nd:Int))) (first|exact⟨d0,d1⟩|exact⟨g0,g1⟩)
  (first|(go_at_call 80;refine da hcall ?_;clear hcall;rintro e w2 ⟨v,QA,ql,qc,rfl,⟨g0,g1⟩,g2,hK1,bq⟩))
 by_cases hq:ql=0
 ·subst hq;obtain⟨g3,rH⟩:=bq rfl
  go_wp2_with (go_at_call 38;refine da rH ?_;clear rH;rintro e w3 ⟨bb,rfl,hK⟩)
  go_ret
  exact⟨rfl,hK⟩
 ·have hK:=hK1 hq;have hqb:((ql:Int)==0)=false:=oE.2 (by omega);have ag9:¬(ql:Int)=0:=by omega
  clear hK1 bq
  go_wp2
  go_ret
  exact⟨rfl,hK⟩
end
section
attribute [local go_sem] Oper.semAt_some
def Zj(f cb dz cc ci n:Nat)(inc:Int)(i:Nat)(A:Option Addr)(l c:Nat)(W:World)(J:Option Addr->Nat->Nat->World->Prop):Prop:=
 ∃(NA:Option Addr) (Gy B c':Nat) (W':World),W.cell? ⟨f,1,none⟩=some (.slice NA n Gy)/\W.cell? ⟨f,2,none⟩=some (.slice (some ⟨cb,0,none⟩) dz cc)/\W.cell? ⟨cb,ci*7+1,none⟩=some (.int .i64 inc)/\
  Hid (∀ty,(Builtin.append_ #[56,56] ty #[.slice A l c,.slice (some ⟨W.heap.size,0,none⟩) 1 1]).run U' (W.alloc (.cells #[.int .i64 (ci:Int),.int .i64 inc,.int .i64 (i:Int),.slice none 0 0] 110))=.ok (.slice (some ⟨B,0,none⟩) (l+1) c') W')/\J (some ⟨B,0,none⟩) (l+1) c' W'
set_option maxHeartbeats 2000000 in
set_option maxRecDepth 1000000 in
theorem Mc(f cb dz cc ci n lb nl lc:Nat)(inc:Int)(W:World)(J:Nat->Option Addr->Nat->Nat->World->Prop)(K:World->Prop)(hn:n<=100000)(hc:ci<dz)(hcl:ci<nl)(hJ:J 0 none 0 0 W)(hR:∀i A l c W,i<n->J i A l c W->Zj f cb dz cc ci n inc i A l c W (J (i+1)))
  (hE:∀A l c W,J n A l c W->∃(NA:Option Addr) (Gy:Nat) (W':World),W.cell? ⟨f,1,none⟩=some (.slice NA n Gy)/\W.cell? ⟨f,3,none⟩=some (.slice (some ⟨lb,0,none⟩) nl lc)/\St W lb ci (.slice A l c) W'/\K W'):
  Calls U' 19 #[.pointer (some ⟨f,0,none⟩),.int .i64 (ci:Int)] W fun e w'=>e=.returned (.tuple #[])/\K w':=by
 have mixed:U'.follows .mixedOrders=true:=by kernel_rfl
 have uu:(ci:Int)<(dz:Int):=by omega
 have aaF:(ci:Int)<(nl:Int):=by omega
 have hc0:(0:Int)<=(ci:Int):=by omega
 have HR:Hid (∀i A l c W,i<n->J i A l c W->Zj f cb dz cc ci n inc i A l c W (J (i+1))):=hR;have HE:Hid (∀A l c W,J n A l c W->∃(NA:Option Addr) (Gy:Nat) (W':World),W.cell? ⟨f,1,none⟩=some (.slice NA n Gy)/\W.cell? ⟨f,3,none⟩=some (.slice (some ⟨lb,0,none⟩) nl lc)/\St W lb ci (.slice A l c) W'/\K W'):=hE;clear hR hE
 go_enter Tryz.func19,Tryz.ntmps19
 go_wp2
 go_loopg [4,5] n (fun g s4 s5 W=> ∃(i:Nat) (A:Option Addr) (l c:Nat),i+g=n/\s5=.int .i64 i/\s4=.slice A l c/\J i A l c W)
 case atStart=>exact⟨0,none,0,0,by omega,rfl,rfl,hJ⟩
 case round=>
  obtain⟨i,A,l,c,hig,rfl,rfl,hI⟩:=hrel;cases gk with
  |succ g=>
   have hi:i<n:=by omega
   have zP:(i:Int)<(n:Int):=by omega
   have hw:wrap64 ((i:Int)+1)=((i+1:Nat):Int):=by rw[mZ,aD];omega
   obtain⟨NA,Gy,B,c',W',k1,k2,k3,hap,hJ'⟩:=HR.out i A l c wr hi hI;clear hJ HR hI HE
   go_wp2_with (at_builtin;refine Lib.wpList_append_run _ rfl _ _ _ _ rfl _ _ rfl rfl _ _ (hap.out _) ?_)
   go_roundg g
   case measure=>omega
   case rel=>exact⟨i+1,_,_,_,by omega,by first|rfl|rw[hw],rfl,hJ'⟩
  |zero=>
   obtain rfl:i=n:=by omega
   obtain⟨NA,Gy,W',k1,k2,⟨f0,⟨y0,f1⟩,f2⟩,hK⟩:=HE.out _ _ _ _ hI;clear hJ HR hI HE
   go_wp2
   exact bodyPost_end (results_none rfl _ _ _) rfl ⟨rfl,hK⟩
end
section
attribute [local go_sem] Oper.semAt_some
set_option maxHeartbeats 2000000 in
set_option maxRecDepth 1000000 in
theorem F9(f cb dz cc:Nat)(c inc:Int)(W:World)(h1:W.cell? ⟨f,2,none⟩=some (.slice (some ⟨cb,0,none⟩) dz cc))(hc:c<0\/(dz:Int)<=c):
  Calls U' 34 #[.pointer (some ⟨f,0,none⟩),.int .i64 c,.int .i64 inc] W fun e w'=>e=.returned (.int .i64 1)/\w'=W:=by
 have mixed:U'.follows .mixedOrders=true:=by kernel_rfl
 by_cases h0:c<0
 ·go_enter Tryz.func34,Tryz.ntmps34
  go_wp2
  go_ret
  exact⟨rfl,rfl⟩
 ·have uu:(dz:Int)<=c:=by omega
  go_enter Tryz.func34,Tryz.ntmps34
  go_wp2
  go_ret
  exact⟨rfl,rfl⟩
set_option maxHeartbeats 2000000 in
set_option maxRecDepth 1000000 in
theorem Cm(f cb dz cc ci:Nat)(inc:Int)(W:World)(h1:W.cell? ⟨f,2,none⟩=some (.slice (some ⟨cb,0,none⟩) dz cc))(hc:ci<dz)(h2:W.cell? ⟨cb,ci*7,none⟩=some (.bool true)):
  Calls U' 34 #[.pointer (some ⟨f,0,none⟩),.int .i64 (ci:Int),.int .i64 inc] W fun e w'=>e=.returned (.int .i64 1)/\w'=W:=by
 have mixed:U'.follows .mixedOrders=true:=by kernel_rfl
 have uu:(ci:Int)<(dz:Int):=by omega
 have hcJ:¬((dz:Int)<=(ci:Int)):=by omega
 have hc0:¬((ci:Int)<0):=by omega
 go_enter Tryz.func34,Tryz.ntmps34
 go_wp2
 go_ret
 exact⟨rfl,rfl⟩
set_option maxHeartbeats 2000000 in
set_option maxRecDepth 1000000 in
theorem Cn(f cb dz cc ci:Nat)(inc:Int)(W:World)(h1:W.cell? ⟨f,2,none⟩=some (.slice (some ⟨cb,0,none⟩) dz cc))(hc:ci<dz)(h2:W.cell? ⟨cb,ci*7,none⟩=some (.bool false))(hi:inc<0\/59<inc):
  Calls U' 34 #[.pointer (some ⟨f,0,none⟩),.int .i64 (ci:Int),.int .i64 inc] W fun e w'=>e=.returned (.int .i64 2)/\w'=W:=by
 have mixed:U'.follows .mixedOrders=true:=by kernel_rfl
 have uu:(ci:Int)<(dz:Int):=by omega
 have hcJ:¬((dz:Int)<=(ci:Int)):=by omega
 have hc0:¬((ci:Int)<0):=by omega
 by_cases h0:inc<0
 ·go_enter Tryz.func34,Tryz.ntmps34
  go_wp2
  go_ret
  exact⟨rfl,rfl⟩
 ·have zP:59<inc:=by omega
  go_enter Tryz.func34,Tryz.ntmps34
  go_wp2
  go_ret
  exact⟨rfl,rfl⟩
set_option maxHeartbeats 2000000 in
set_option maxRecDepth 1000000 in
theorem JM(f cb dz cc ci:Nat)(inc:Int)(W w1 w2:World)(K:World->Prop)(h1:W.cell? ⟨f,2,none⟩=some (.slice (some ⟨cb,0,none⟩) dz cc))(hc:ci<dz)(h2:W.cell? ⟨cb,ci*7,none⟩=some (.bool false))(hi0:0<=inc)(hi1:inc<=59)
  (g1:W.drew.cell? ⟨f,2,none⟩=some (.slice (some ⟨cb,0,none⟩) dz cc)) (s1:St W.drew cb (ci*7) (.bool true) w1) (g2:w1.cell? ⟨f,2,none⟩=some (.slice (some ⟨cb,0,none⟩) dz cc)) (s2:St w1 cb (ci*7+1) (.int .i64 inc) w2) (g3:w2.cell? ⟨f,2,none⟩=some (.slice (some ⟨cb,0,none⟩) dz cc))
  (hcall:Calls U' 19 #[.pointer (some ⟨f,0,none⟩),.int .i64 (ci:Int)] w2 fun e w'=>e=.returned (.tuple #[])/\K w'):
  Calls U' 34 #[.pointer (some ⟨f,0,none⟩),.int .i64 (ci:Int),.int .i64 inc] W fun e w'=>e=.returned (.int .i64 0)/\K w':=by
 have mixed:U'.follows .mixedOrders=true:=by kernel_rfl
 have uu:(ci:Int)<(dz:Int):=by omega
 have hcJ:¬((dz:Int)<=(ci:Int)):=by omega
 have hc0:¬((ci:Int)<0):=by omega
 have afQ:¬(inc<0):=by omega
 have afR:¬(59<inc):=by omega
 obtain⟨f0,⟨y0,f1⟩,f2⟩:=s1;obtain⟨f3,⟨y3,f4⟩,f5⟩:=s2
 go_enter Tryz.func34,Tryz.ntmps34
 go_wp2
 go_region_held3 (fun w'=>w'.cell? ⟨f,2,none⟩=some (.slice (some ⟨cb,0,none⟩) dz cc)) (first|exact g1|exact g2|exact g3) (first|fail)
 go_wp2_with (go_at_call 19;refine da hcall ?_;clear hcall;rintro e w' ⟨rfl,hK⟩)
 go_ret
 exact⟨rfl,hK⟩
set_option maxHeartbeats 2000000 in
set_option maxRecDepth 1000000 in
theorem vV(f:Nat)(c inc:Int)(W:World)(h:Calls U' 77 #[.pointer (some ⟨f,0,none⟩),.int .i64 c] W fun e w'=>e=.returned (.bool false)/\w'=W):
  Calls U' 36 #[.pointer (some ⟨f,0,none⟩),.int .i64 c,.int .i64 inc] W fun e w'=>e=.returned (.int .i64 1)/\w'=W:=by
 have mixed:U'.follows .mixedOrders=true:=by kernel_rfl
 go_enter Tryz.func36,Tryz.ntmps36
 go_wp2_with (go_at_call 77;refine da h ?_;clear h;rintro e w' ⟨rfl,hw⟩;rw[hw];clear hw)
 go_ret
 exact⟨rfl,rfl⟩
set_option maxHeartbeats 2000000 in
set_option maxRecDepth 1000000 in
theorem Gc(f cb dz cc ci:Nat)(inc:Int)(W:World)(h1:W.cell? ⟨f,2,none⟩=some (.slice (some ⟨cb,0,none⟩) dz cc))(hc:ci<dz)(h2:W.cell? ⟨cb,ci*7,none⟩=some (.bool true))(h3:W.cell? ⟨cb,ci*7+2,none⟩=some (.bool true)):
  Calls U' 36 #[.pointer (some ⟨f,0,none⟩),.int .i64 (ci:Int),.int .i64 inc] W fun e w'=>e=.returned (.int .i64 3)/\w'=W:=by
 have mixed:U'.follows .mixedOrders=true:=by kernel_rfl
 have h:=dX f cb ci dz cc true W h1 hc h2;have uu:(ci:Int)<(dz:Int):=by omega
 have hc0:(0:Int)<=(ci:Int):=by omega
 go_enter Tryz.func36,Tryz.ntmps36
 go_wp2_with (go_at_call 77;refine da h ?_;clear h;rintro e w' ⟨rfl,hw⟩;rw[hw];clear hw)
 go_ret
 exact⟨rfl,rfl⟩
set_option maxHeartbeats 2000000 in
set_option maxRecDepth 1000000 in
theorem Df(f cb dz cc ci:Nat)(inc:Int)(W:World)(h1:W.cell? ⟨f,2,none⟩=some (.slice (some ⟨cb,0,none⟩) dz cc))(hc:ci<dz)(h2:W.cell? ⟨cb,ci*7,none⟩=some (.bool true))(h3:W.cell? ⟨cb,ci*7+2,none⟩=some (.bool false))(hi:inc<0\/59<inc):
  Calls U' 36 #[.pointer (some ⟨f,0,none⟩),.int .i64 (ci:Int),.int .i64 inc] W fun e w'=>e=.returned (.int .i64 2)/\w'=W:=by
 have mixed:U'.follows .mixedOrders=true:=by kernel_rfl
 have h:=dX f cb ci dz cc true W h1 hc h2;have uu:(ci:Int)<(dz:Int):=by omega
 have hc0:(0:Int)<=(ci:Int):=by omega
 by_cases h0:inc<0
 ·go_enter Tryz.func36,Tryz.ntmps36
  go_wp2_with (go_at_call 77;refine da h ?_;clear h;rintro e w' ⟨rfl,hw⟩;rw[hw];clear hw)
  go_ret
  exact⟨rfl,rfl⟩
 ·have zP:59<inc:=by omega
  go_enter Tryz.func36,Tryz.ntmps36
  go_wp2_with (go_at_call 77;refine da h ?_;clear h;rintro e w' ⟨rfl,hw⟩;rw[hw];clear hw)
  go_ret
  exact⟨rfl,rfl⟩
set_option maxHeartbeats 2000000 in
set_option maxRecDepth 1000000 in
theorem Md(f cb dz cc ci:Nat)(inc:Int)(W w1:World)(K:World->Prop)(h1:W.cell? ⟨f,2,none⟩=some (.slice (some ⟨cb,0,none⟩) dz cc))(hc:ci<dz)(h2:W.cell? ⟨cb,ci*7,none⟩=some (.bool true))(h3:W.cell? ⟨cb,ci*7+2,none⟩=some (.bool false))(hi0:0<=inc)(hi1:inc<=59)
  (s1:St W cb (ci*7+1) (.int .i64 inc) w1) (hcall:Calls U' 19 #[.pointer (some ⟨f,0,none⟩),.int .i64 (ci:Int)] w1 fun e w'=>e=.returned (.tuple #[])/\K w'):
  Calls U' 36 #[.pointer (some ⟨f,0,none⟩),.int .i64 (ci:Int),.int .i64 inc] W fun e w'=>e=.returned (.int .i64 0)/\K w':=by
 have mixed:U'.follows .mixedOrders=true:=by kernel_rfl
 have h:=dX f cb ci dz cc true W h1 hc h2;have uu:(ci:Int)<(dz:Int):=by omega
 have hc0:(0:Int)<=(ci:Int):=by omega
 have afQ:¬(inc<0):=by omega
 have afR:¬(59<inc):=by omega
 obtain⟨f0,⟨y0,f1⟩,f2⟩:=s1
 go_enter Tryz.func36,Tryz.ntmps36
 go_wp2_with (first|(go_at_call 77;refine da h ?_;clear h;rintro e w' ⟨rfl,hw⟩;rw[hw];clear hw)|(go_at_call 19;refine da hcall ?_;clear hcall;rintro e w' ⟨rfl,hK⟩))
 go_ret
 exact⟨rfl,hK⟩
end
section
attribute [local go_sem] Oper.semAt_some
set_option maxHeartbeats 2000000 in
set_option maxRecDepth 1000000 in
theorem Co(f:Nat)(c:Int)(W:World)(h:Calls U' 77 #[.pointer (some ⟨f,0,none⟩),.int .i64 c] W fun e w'=>e=.returned (.bool false)/\w'=W):
  Calls U' 29 #[.pointer (some ⟨f,0,none⟩),.int .i64 c] W fun e w'=>e=.returned (.tuple #[.slice none 0 0,.bool false])/\w'=W:=by
 have mixed:U'.follows .mixedOrders=true:=by kernel_rfl
 go_enter Tryz.func29,Tryz.ntmps29
 go_wp2_with (go_at_call 77;refine da h ?_;clear h;rintro e w' ⟨rfl,hw⟩;rw[hw];clear hw)
 exact pB (At rfl _ _ _) rfl ⟨rfl,rfl⟩
set_option maxHeartbeats 2000000 in
set_option maxRecDepth 1000000 in
theorem P8(f cb dz cc ci:Nat)(W:World)(h1:W.cell? ⟨f,2,none⟩=some (.slice (some ⟨cb,0,none⟩) dz cc))(hc:ci<dz)(h2:W.cell? ⟨cb,ci*7,none⟩=some (.bool true))(h3:W.cell? ⟨cb,ci*7+2,none⟩=some (.bool false)):
  Calls U' 29 #[.pointer (some ⟨f,0,none⟩),.int .i64 (ci:Int)] W fun e w'=>e=.returned (.tuple #[.slice none 0 0,.bool false])/\w'=W:=by
 have mixed:U'.follows .mixedOrders=true:=by kernel_rfl
 have h:=dX f cb ci dz cc true W h1 hc h2;have uu:(ci:Int)<(dz:Int):=by omega
 have hc0:(0:Int)<=(ci:Int):=by omega
 go_enter Tryz.func29,Tryz.ntmps29
 go_wp2_with (go_at_call 77;refine da h ?_;clear h;rintro e w' ⟨rfl,hw⟩;rw[hw];clear hw)
 exact pB (At rfl _ _ _) rfl ⟨rfl,rfl⟩
set_option maxHeartbeats 2000000 in
set_option maxRecDepth 1000000 in
theorem Me(f cb dz cc ci k:Nat)(W:World)(h1:W.cell? ⟨f,2,none⟩=some (.slice (some ⟨cb,0,none⟩) dz cc))(hc:ci<dz)(h2:W.cell? ⟨cb,ci*7,none⟩=some (.bool true))(h3:W.cell? ⟨cb,ci*7+2,none⟩=some (.bool true))(hk:0<k)
  (hw:Calls U' 52 #[.pointer (some ⟨f,0,none⟩),.int .i64 (ci:Int)] W fun e w'=>e=.returned (.int .i64 (k:Int))/\w'=W):
  Calls U' 29 #[.pointer (some ⟨f,0,none⟩),.int .i64 (ci:Int)] W fun e w'=>e=.returned (.tuple #[.slice none 0 0,.bool false])/\w'=W:=by
 have mixed:U'.follows .mixedOrders=true:=by kernel_rfl
 have h:=dX f cb ci dz cc true W h1 hc h2;have uu:(ci:Int)<(dz:Int):=by omega
 have hc0:(0:Int)<=(ci:Int):=by omega
 have hkI:(0:Int)<(k:Int):=by omega
 go_enter Tryz.func29,Tryz.ntmps29
 go_wp2_with (first|(go_at_call 77;refine da h ?_;clear h;rintro e w' ⟨rfl,hw⟩;rw[hw];clear hw)|(go_at_call 52;refine da hw ?_;clear hw;rintro e w' ⟨rfl,hw⟩;rw[hw];clear hw))
 exact pB (At rfl _ _ _) rfl ⟨rfl,rfl⟩
set_option maxHeartbeats 2000000 in
set_option maxRecDepth 1000000 in
theorem TN(f cb dz cc ci:Nat)(DA:Option Addr)(dl dc:Nat)(W w1 w2 w3:World)(K:World->Prop)(h1:W.cell? ⟨f,2,none⟩=some (.slice (some ⟨cb,0,none⟩) dz cc))(hc:ci<dz)(h2:W.cell? ⟨cb,ci*7,none⟩=some (.bool true))(h3:W.cell? ⟨cb,ci*7+2,none⟩=some (.bool true))
  (h4:W.cell? ⟨cb,ci*7+3,none⟩=some (.slice DA dl dc)) (hw:Calls U' 52 #[.pointer (some ⟨f,0,none⟩),.int .i64 (ci:Int)] W fun e w'=>e=.returned (.int .i64 0)/\w'=W)
  (g0:W.drew.cell? ⟨f,2,none⟩=some (.slice (some ⟨cb,0,none⟩) dz cc)) (s1:St W.drew cb (ci*7+2) (.bool false) w1) (g1:w1.cell? ⟨f,2,none⟩=some (.slice (some ⟨cb,0,none⟩) dz cc)) (s2:St w1 cb (ci*7+3) (.slice none 0 0) w2) (g2:w2.cell? ⟨f,2,none⟩=some (.slice (some ⟨cb,0,none⟩) dz cc))
  (s3:St w2 cb (ci*7+4) (.slice none 0 0) w3) (g3:w3.cell? ⟨f,2,none⟩=some (.slice (some ⟨cb,0,none⟩) dz cc)) (hK:K w3):
  Calls U' 29 #[.pointer (some ⟨f,0,none⟩),.int .i64 (ci:Int)] W fun e w'=>e=.returned (.tuple #[.slice DA dl dc,.bool true])/\K w':=by
 have mixed:U'.follows .mixedOrders=true:=by kernel_rfl
 have h:=dX f cb ci dz cc true W h1 hc h2;have uu:(ci:Int)<(dz:Int):=by omega
 have hc0:(0:Int)<=(ci:Int):=by omega
 obtain⟨f0,⟨y0,f1⟩,f2⟩:=s1;obtain⟨f3,⟨y3,f4⟩,f5⟩:=s2;obtain⟨f6,⟨y6,f7⟩,f8⟩:=s3
 go_enter Tryz.func29,Tryz.ntmps29
 go_wp2_with (first|(go_at_call 77;refine da h ?_;clear h;rintro e w' ⟨rfl,hw⟩;rw[hw];clear hw)|(go_at_call 52;refine da hw ?_;clear hw;rintro e w' ⟨rfl,hw⟩;rw[hw];clear hw))
 go_region_held3 (fun w'=>w'.cell? ⟨f,2,none⟩=some (.slice (some ⟨cb,0,none⟩) dz cc)) (first|exact g0|exact g1|exact g2|exact g3) (first|fail)
 go_wp2
 exact pB (At rfl _ _ _) rfl ⟨rfl,hK⟩
end
section
attribute [local go_sem] Oper.semAt_some
def Cp(f lb nl lc ci pb n pc i:Nat)(cl inc nd:Int)(QA:Option Addr)(ql qc:Nat)(w:World):Prop:=
 w.cell? ⟨f,3,none⟩=some (.slice (some ⟨lb,0,none⟩) nl lc)/\w.cell? ⟨lb,ci,none⟩=some (.slice (some ⟨pb,0,none⟩) n pc)/\w.cell? ⟨pb,i*4,none⟩=some (.int .i64 cl)/\w.cell? ⟨pb,i*4+1,none⟩=some (.int .i64 inc)/\w.cell? ⟨pb,i*4+2,none⟩=some (.int .i64 nd)/\w.cell? ⟨pb,i*4+3,none⟩=some (.slice QA ql qc)
def Xb(f lb nl lc ci pb n pc i:Nat)(cl inc nd:Int)(QA:Option Addr)(ql qc:Nat)(W:World)(K:World->Prop):Prop:=
 ∃(OA:Option Addr) (on oc:Nat) (vA vB:Value) (AA AB:Option Addr) (la ca lb' Vp:Nat) (w1 w2 w3 x1 x2 x3:World),W.drew.cell? ⟨f,4,none⟩=some (.slice OA on oc)/\Cp f lb nl lc ci pb n pc i cl inc nd QA ql qc W.drew/\
  (∀o,(W.drew.alloc o).cell? ⟨f,4,none⟩=some (.slice OA on oc))/\(∀o,Cp f lb nl lc ci pb n pc i cl inc nd QA ql qc (W.drew.alloc o))/\
  Hid (∀ty,(Builtin.append_ #[56,56] ty #[.slice none 0 0,.slice OA on oc]).run U' W.drew=.ok vA w1)/\Cp f lb nl lc ci pb n pc i cl inc nd QA ql qc w1/\(∀o,Cp f lb nl lc ci pb n pc i cl inc nd QA ql qc (w1.alloc o))/\
  Hid (∀ty,(Builtin.append_ #[56,56] ty #[vA,.slice (some ⟨w1.heap.size,0,none⟩) 1 1]).run U' (w1.alloc (.cells #[.int .i64 cl,.int .i64 inc,.int .i64 nd,.slice QA ql qc] 110))=.ok (.slice AA la ca) w2)/\Cp f lb nl lc ci pb n pc i cl inc nd QA ql qc w2/\St w2 f 4 (.slice AA la ca) w3/\Cp f lb nl lc ci pb n pc i cl inc nd QA ql qc w3/\K w3/\
  Hid (∀ty,(Builtin.append_ #[56,56] ty #[.slice none 0 0,.slice OA on oc]).run U' (W.drew.alloc (.cells #[.int .i64 cl,.int .i64 inc,.int .i64 nd,.slice QA ql qc] 110))=.ok vB x1)/\Cp f lb nl lc ci pb n pc i cl inc nd QA ql qc x1/\
  Hid (∀ty,(Builtin.append_ #[56,56] ty #[vB,.slice (some ⟨W.drew.heap.size,0,none⟩) 1 1]).run U' x1=.ok (.slice AB lb' Vp) x2)/\Cp f lb nl lc ci pb n pc i cl inc nd QA ql qc x2/\St x2 f 4 (.slice AB lb' Vp) x3/\Cp f lb nl lc ci pb n pc i cl inc nd QA ql qc x3/\K x3
def Gd(f lb nl lc ci n i:Nat)(W:World)(J:World->Prop):Prop:=
 ∃(pb pc ql qc:Nat) (QA:Option Addr) (cl inc nd:Int),Cp f lb nl lc ci pb n pc i cl inc nd QA ql qc W/\(ql=0->J W)/\(0<ql->Xb f lb nl lc ci pb n pc i cl inc nd QA ql qc W J)
set_option maxHeartbeats 2000000 in
set_option maxRecDepth 1000000 in
theorem Eu(f:Nat)(c:Int)(W:World)(h:Calls U' 77 #[.pointer (some ⟨f,0,none⟩),.int .i64 c] W fun e w'=>e=.returned (.bool false)/\w'=W):
  Calls U' 32 #[.pointer (some ⟨f,0,none⟩),.int .i64 c] W fun e w'=>e=.returned (.bool false)/\w'=W:=by
 have mixed:U'.follows .mixedOrders=true:=by kernel_rfl
 go_enter Tryz.func32,Tryz.ntmps32
 go_wp2_with (go_at_call 77;refine da h ?_;clear h;rintro e w' ⟨rfl,hw⟩;rw[hw];clear hw)
 go_ret
 exact⟨rfl,rfl⟩
set_option maxHeartbeats 4000000 in
set_option maxRecDepth 1000000 in
theorem Xc(f lb nl lc cb dz cc ci n:Nat)(W:World)(J K:Nat->World->Prop)(hn:n<=100000)(hc:ci<dz)(hcl:ci<nl)(h:Calls U' 77 #[.pointer (some ⟨f,0,none⟩),.int .i64 (ci:Int)] W fun e w'=>e=.returned (.bool true)/\w'=W)
  (hJ:J 0 W) (hL:∀i W,J i W->W.cell? ⟨f,3,none⟩=some (.slice (some ⟨lb,0,none⟩) nl lc)/\∃(PA:Option Addr) (pc:Nat),W.cell? ⟨lb,ci,none⟩=some (.slice PA n pc)) (hR:∀i W,i<n->J i W->Gd f lb nl lc ci n i W (J (i+1)))
  (hE:∀W,J n W->∃w1 w2 w3 w4:World,W.cell? ⟨f,2,none⟩=some (.slice (some ⟨cb,0,none⟩) dz cc)/\St W cb (ci*7) (.bool false) w1/\St w1 cb (ci*7+2) (.bool false) w2/\St w2 cb (ci*7+3) (.slice none 0 0) w3/\St w3 cb (ci*7+4) (.slice none 0 0) w4/\
   Calls U' 19 #[.pointer (some ⟨f,0,none⟩),.int .i64 (ci:Int)] w4 fun e w'=>e=.returned (.tuple #[])/\K n w'):
  Calls U' 32 #[.pointer (some ⟨f,0,none⟩),.int .i64 (ci:Int)] W fun e w'=>e=.returned (.bool true)/\K n w':=by
 have mixed:U'.follows .mixedOrders=true:=by kernel_rfl
 have uu:(ci:Int)<(dz:Int):=by omega
 have aaF:(ci:Int)<(nl:Int):=by omega
 have hc0:(0:Int)<=(ci:Int):=by omega
 have HL:Hid (∀i W,J i W->W.cell? ⟨f,3,none⟩=some (.slice (some ⟨lb,0,none⟩) nl lc)/\∃(PA:Option Addr) (pc:Nat),W.cell? ⟨lb,ci,none⟩=some (.slice PA n pc)):=hL;have HR:Hid (∀i W,i<n->J i W->Gd f lb nl lc ci n i W (J (i+1))):=hR;have HE:Hid (∀W,J n W->∃w1 w2 w3 w4:World,W.cell? ⟨f,2,none⟩=some (.slice (some ⟨cb,0,none⟩) dz cc)/\St W cb (ci*7) (.bool false) w1/\St w1 cb (ci*7+2) (.bool false) w2/\St w2 cb (ci*7+3) (.slice none 0 0) w3/\St w3 cb (ci*7+4) (.slice none 0 0) w4/\
   Calls U' 19 #[.pointer (some ⟨f,0,none⟩),.int .i64 (ci:Int)] w4 fun e w'=>e=.returned (.tuple #[])/\K n w'):=hE
 clear hL hR hE
 go_enter Tryz.func32,Tryz.ntmps32
 go_wp2_with (go_at_call 77;refine da h ?_;clear h;rintro e w' ⟨rfl,hw⟩;rw[hw];clear hw)
 go_loopg [5] n (fun g s5 W=> ∃i:Nat,i+g=n/\s5=.int .i64 i/\J i W)
 case atStart=>exact⟨0,by omega,rfl,hJ⟩
 case round=>
  obtain⟨i,hig,rfl,hI⟩:=hrel;clear hJ;cases gk with
  |succ g=>
   have hi:i<n:=by omega
   have zP:(i:Int)<(n:Int):=by omega
   have hw:wrap64 ((i:Int)+1)=((i+1:Nat):Int):=by rw[mZ,aD];omega
   obtain⟨pb,pc,ql,qc,QA,cl,inc,nd,⟨r0,r1,r2,r3,r4,r5⟩,hZ,hA⟩:=HR.out i wr hi hI;clear HL HR HE hI;by_cases hq:0<ql
   ·have Y5:(0:Int)<(ql:Int):=by omega
    obtain⟨OA,on,oc,vA,vB,AA,AB,la,ca,lb',Vp,w1,w2,w3,x1,x2,x3,o0,d0,o1,d1,zo,d2,d3,sM,d4,⟨f0,⟨y0,g0⟩,q0⟩,d5,hK1,afS,d6,afT,d7,⟨f1,⟨y1,g1⟩,q1⟩,d8,bq⟩:=hA hq;clear hZ hA;have o1':=o1 (.cells #[.int .i64 cl,.int .i64 inc,.int .i64 nd,.slice QA ql qc] 110);have aha:(wr.alloc (.cells #[.int .i64 cl,.int .i64 inc,.int .i64 nd,.slice QA ql qc] 110)).cell? ⟨f,4,none⟩=some (.slice OA on oc):=o1'
    go_wp2
    obtain⟨d00,d01,d02,d03,d04,d05⟩:=d0;obtain⟨d20,d21,d22,d23,d24,d25⟩:=d2;clear d1 d3 d4 d5 d6 d7 d8 o1 r0 r1 r2 r3 r4 r5
    go_region_law_o
     (first|(refine aH rfl (.const (.slice none 0 0)) (.tmp 40) 56 56 rfl (.slice none 0 0) (.slice OA on oc) (by simp[Act.eval,Act.put]) (by simp[Act.eval,Act.put]) (zo.out _) ?_)|(refine aH rfl (.const (.slice none 0 0)) (.tmp 40) 56 56 rfl (.slice none 0 0) (.slice OA on oc) (by simp[Act.eval,Act.put]) (by simp[Act.eval,Act.put]) (afS.out _) ?_)|
      (refine aH rfl (.tmp 41) (.tmp 52) 56 56 rfl _ _ (by simp[Act.eval,Act.put]) (by simp[Act.eval,Act.put]) (sM.out _) ?_)|(refine aH rfl (.tmp 41) (.tmp 52) 56 56 rfl _ _ (by simp[Act.eval,Act.put]) (by simp[Act.eval,Act.put]) (afT.out _) ?_))
    all_goals
     go_wp2
     go_roundg g
     case measure=>omega
     case rel=>first|exact⟨i+1,by omega,by first|rfl|rw[hw],hK1⟩|exact⟨i+1,by omega,by first|rfl|rw[hw],bq⟩
   ·have Y5:¬(0:Int)<(ql:Int):=by omega
    have hJ':=hZ (by omega);clear hZ hA
    go_wp2
    go_roundg g
    case measure=>omega
    case rel=>exact⟨i+1,by omega,by first|rfl|rw[hw],hJ'⟩
  |zero=>
   obtain rfl:i=n:=by omega
   obtain⟨l0,PA,pc,l1⟩:=HL.out _ _ hI;obtain⟨w1,w2,w3,w4,e0,⟨f0,⟨y0,g0⟩,q0⟩,⟨f1,⟨y1,g1⟩,q1⟩,⟨f2,⟨y2,g2⟩,q2⟩,⟨f3,⟨y3,g3⟩,q3⟩,hcall⟩:=HE.out _ hI;clear HL HR HE hI
   go_wp2_with (go_at_call 19;refine da hcall ?_;clear hcall;rintro e w' ⟨rfl,hK⟩)
   go_ret
   exact⟨rfl,hK⟩
end
section
variable{w0 W:World}{μ:Mu}{I J:Ky->Option ag}{t fb:Nat}{s:gm}
def qt(c:Nat)(inc:Int)(n:Nat):List dE:=(List.range n).map fun i=>⟨.slice none 0 0,⟨c,inc,i,[]⟩⟩
def iP(c:Nat)(inc:Int)(n:Nat):List eI:=(List.range n).map fun i=>⟨c,inc,i,[]⟩
theorem Xd(c:Nat)(inc:Int)(n:Nat):(qt c inc n).map dE.a=iP c inc n:=by unfold qt iP;rw[BE];rfl
theorem xz(c:Nat)(inc:Int)(n:Nat):(qt c inc n).length=n:=by unfold qt;grind
theorem Mf(c:Nat)(inc:Int)(n:Nat):qt c inc (n+1)=qt c inc n++[⟨.slice none 0 0,⟨c,inc,n,[]⟩⟩]:=by unfold qt;rw[S4,im];rfl
theorem Xe(c:Nat)(inc:Int)(n:Nat):∀p∈qt c inc n,LV μ p:=fun p hp=>by
 obtain⟨i,_,rfl⟩:=pw.1 hp;exact gM
def afU(t:Nat)(w0:World)(μ:Mu)(I:Ky->Option ag)(c:Nat)(inc:Int)(i:Nat)(A:Option Addr)(l cp:Nat)(W:World):Prop:=
 ∃I':Ky->Option ag,az w0 μ I' W/\Row I' (t,.tmp 6) (.slice A l cp) 110 4 ((qt c inc i).map dE.row)/\l=i/\∀k,k≠(t,.tmp 6)->I' k=I k
theorem Xf{ν:Mu}{c i:Nat}{inc:Int}:∀(jj:Nat) (u:AV) (x:Value),(dE.row ⟨.slice none 0 0,⟨c,inc,i,[]⟩⟩)[jj]?=some u->(#[.int .i64 (c:Int),.int .i64 inc,.int .i64 (i:Int),.slice none 0 0]:Array Value)[jj]?=some x->DR ν u x:=fun jj u x hu hx=>by
 match jj with
 |0=>cases hu;cases hx;exact .v rfl
 |1=>cases hu;cases hx;exact .v rfl
 |2=>cases hu;cases hx;exact .v rfl
 |3=>cases hu;cases hx;exact .v rfl
 |n+4=>cases hu
theorem vW(hK:az w0 μ I W)(hR:eM t I fb s)(hD:wz μ s){c:Nat}{x:lP}{l:mW}(hx:s.cl[c]?=some x)(hl:s.ln[c]?=some l)(hn:s.nd.length<=90000):
  Calls U' 19 #[ptr fb,.int .i64 (c:Int)] W fun e w'=>e=.returned (.tuple #[])/\mX t w0 μ I fb {s.a with ln:=s.a.ln.set c (iP c x.a.inc s.nd.length)} w':=by
 obtain⟨Inf,z,i1,i2,i3,i4,i5,i6⟩:=i110;obtain⟨lb,lc,hlv,Cb,_⟩:=zk hK hR hl;obtain⟨cb,cc,fI,lz⟩:=Row.at hR.cls hx;obtain⟨NA,Gy,lk⟩:=Row.len hR.gO;obtain⟨F,dF⟩:=hR.cM;have cf:∀{μ':Mu} {J:Ky->Option ag} {W':World},az w0 μ' J W'->J (t,.cM)=I (t,.cM)->W'.cell? ⟨fb,1,none⟩=some (.slice NA s.nd.length Gy)/\W'.cell? ⟨fb,2,none⟩=some (.slice (some ⟨cb,0,none⟩) s.cl.length cc)/\W'.cell? ⟨fb,3,none⟩=some (.slice (some ⟨lb,0,none⟩) s.ln.length lc):=fun{μ' J W'} hk e=>by
  have q1:=hk.cell (e.trans dF) (j:=1) rfl;have q2:=hk.cell (e.trans dF) (j:=2) rfl;have q3:=hk.cell (e.trans dF) (j:=3) rfl;grind
 refine Mc fb cb s.cl.length cc c s.nd.length lb s.ln.length lc x.a.inc W (afU t w0 μ I c x.a.inc) _ (by omega) (aV hx) (aV hl) ⟨I,hK,.inl ⟨rfl,rfl⟩,rfl,fun _ _=>rfl⟩ (fun i A ll cp W' hi hJ=>?_) fun A ll cp W' hJ=>?_
 ·obtain⟨I',hK',hr,rfl,ho⟩:=hJ;have e1:I' (t,.cM)=I (t,.cM):=ho _ (aa fun e=>by cases e);obtain⟨q1,q2,_⟩:=cf hK' e1;have q3:=(xx hK' ((ho _ (aa fun e=>by cases e)).trans lz) hx).inc;obtain⟨b',c',W2,hrun,bq,_,_⟩:=(hK'.bw (ar.alloc W' (.cells #[.int .i64 (c:Int),.int .i64 x.a.inc,.int .i64 (ll:Int),.slice none 0 0] 110))).ua (P:=U') (es:=dE.row ⟨.slice none 0 0,⟨c,x.a.inc,ll,[]⟩⟩) hr u56 i1 i2 i3 i4 i5 i6 (by rw[ab,xz];omega) (Ev.aZ W' _) rfl (fun v hv=>by
   simp only[ft,dt,re]at hv;rcases hv with rfl|rfl|rfl|rfl<;>rfl) rfl Xf
  rw[ab,xz]at hrun;refine⟨NA,Gy,b',c',W2,q1,q2,q3,hrun,_,bq,.inr ⟨b',c',?_,?_⟩,rfl,fun k hk=>(ae _ _ hk).trans (ho k hk)⟩
  ·rw[ab,xz]
  ·rw[af,Mf,im];rfl
 ·obtain⟨I',hK',hr,rfl,ho⟩:=hJ;obtain⟨q1,_,q3⟩:=cf hK' (ho _ (aa fun e=>by cases e));have afV:=(ho _ (aa (t:=t) (a:=.kC 0) (b:=.tmp 6) fun e=>by cases e)).trans Cb;obtain⟨W2,st,bq⟩:=hK'.Ku afV (get_map hl) (j:=0) rfl (by omega) (a:=.v (.slice A s.nd.length cp)) (v:=.slice A s.nd.length cp) (.v rfl);rw[oe,na]at st;rw[show(s.ln.map mW.row).set c (l.row.set 0 (.v (.slice A s.nd.length cp)))=(s.ln.set c ⟨.slice A s.nd.length cp,qt c x.a.inc s.nd.length⟩).map mW.row by rw[aF];rfl]at bq;have du:=bq.move (k1:=(t,.tmp 6)) (k2:=(t,.lu c)) (aa fun e=>by cases e);refine⟨NA,Gy,W2,q1,q3,st,μ,_,{s with ln:=s.ln.set c ⟨.slice A s.nd.length cp,qt c x.a.inc s.nd.length⟩},ak.refl _,du,hR.lvS (fun k g1 g2 g3=>?_) ?_ ?_,⟨fun d m hm p hp=>?_,hD.os⟩,?_,fun k hk=>?_⟩
  ·simp_all [ae,aa]
  ·refine .inr ⟨lb,lc,?_,?_⟩
   all_goals simp_all [ab,ff,ae,aa,af]
  ·rcases hr with h|⟨b,c',h1,h2⟩
   ·exact .inl h
   ·refine .inr ⟨b,c',h1,?_⟩;grind [ae,aa,af]
  ·rcases bQ hm with⟨rfl,rfl⟩|⟨ne,hm⟩
   ·exact Xe _ _ _ p hp
   ·exact hD.ln d m hm p hp
  ·unfold gm.a;simp only[aF];rw[show mW.a ⟨.slice A s.nd.length cp,qt c x.a.inc s.nd.length⟩=iP c x.a.inc s.nd.length from Xd _ _ _]
  ·rw[ae _ _ (fun e=>hk (by rw[e])),ae _ _ (fun e=>hk (by rw[e])),ae _ _ (fun e=>hk (by rw[e]))];grind
theorem il(hK:az w0 μ I W){c cb cc:Nat}{cl:List lP}{x x':lP}(hx:cl[c]?=some x)(hI:I (t,.cls)=some (aE cb cc 66 7 (cl.map lP.row)))(j:Nat)(hj:j<7){v:Value}(hv:DR μ (.v v) v)(he:x.row.set j (.v v)=x'.row):
  ∃W',St W cb (c*7+j) v W'/\az w0 μ (put I (t,.cls) (some (aE cb cc 66 7 ((cl.set c x').map lP.row)))) W':=by
 have hl:x.row.length=7:=rfl;obtain⟨W',st,hK'⟩:=hK.Ku hI (get_map hx) (j:=j) (ao (by omega)) hj hv;grind [aF]
theorem JN(hK:az w0 μ I W)(hR:eM t I fb s)(hD:wz μ s){c:Nat}{x:lP}{l:mW}(hx:s.cl[c]?=some x)(hl:s.ln[c]?=some l)(hn:s.nd.length<=90000)(hal:x.a.al=false){inc:Int}(h0:0<=inc)(h59:inc<=59):
  Calls U' 34 #[ptr fb,.int .i64 (c:Int),.int .i64 inc] W fun e w'=>e=.returned (.int .i64 0)/\mX t w0 μ I fb {s.a with cl:=s.a.cl.set c {x.a with al:=true,inc:=inc},ln:=s.a.ln.set c (iP c inc s.nd.length)} w':=by
 obtain⟨cb,cc,fI,lz⟩:=Row.at hR.cls hx;obtain⟨F,dF⟩:=hR.cM;have c2:∀{μ':Mu} {J:Ky->Option ag} {W':World},az w0 μ' J W'->J (t,.cM)=I (t,.cM)->W'.cell? ⟨fb,2,none⟩=some (.slice (some ⟨cb,0,none⟩) s.cl.length cc):=fun{μ' J W'} hk e=>by
  have q2:=hk.cell (e.trans dF) (j:=2) rfl;rwa [fI]at q2
 obtain⟨w1,P9,hK1⟩:=il hK.drew hx lz (x':={x with a:={x.a with al:=true}}) 0 (by omega) (v:=.bool true) (.v rfl) rfl;obtain⟨w2,TP,bq⟩:=il hK1 (bS hx) (af _ _ _) (x':={x with a:={x.a with al:=true,inc:=inc}}) 1 (by omega) (v:=.int .i64 inc) (.v rfl) rfl;rw[aK,bE]at bq;have ux:eM t (put I (t,.cls) (some (aE cb cc 66 7 ((s.cl.set c {x with a:={x.a with al:=true,inc:=inc}}).map lP.row)))) fb {s with cl:=s.cl.set c {x with a:={x.a with al:=true,inc:=inc}}}:=by
  refine hR.clS (fun k g1 _ _ _=>ae _ _ (aa g1)) (.inr ⟨cb,cc,?_,af _ _ _⟩) ((hR.mO c x hx).same (ae _ _ (aa fun e=>by cases e))) ((hR.Dx c x hx).same (ae _ _ (aa fun e=>by cases e)));grind
 have JO:=(xx hK lz hx).al;rw[hal]at JO;refine JM fb cb s.cl.length cc c inc W w1 w2 _ (c2 hK rfl) (aV hx) JO h0 h59 (c2 hK.drew rfl) P9 (c2 hK1 (ae _ _ (aa fun e=>by cases e))) TP (c2 bq (ae _ _ (aa fun e=>by cases e))) ?_;refine(vW bq ux ⟨hD.ln,hD.os⟩ (x:={x with a:={x.a with al:=true,inc:=inc}}) (bS hx) hl hn).mono fun e w' he=>⟨he.1,?_⟩;have:=he.2.from (μ:=μ) (I:=I) (ak.refl _) fun k g=>ae _ _ fun e=>g (by rw[e])
 rw[show({s with cl:=s.cl.set c {x with a:={x.a with al:=true,inc:=inc}}}:gm).a={s.a with cl:=s.a.cl.set c {x.a with al:=true,inc:=inc}} by unfold gm.a;simp only[aF]]at this;exact this
theorem Mg(hK:az w0 μ I W)(hR:eM t I fb s)(hD:wz μ s){c:Nat}{x:lP}{l:mW}(hx:s.cl[c]?=some x)(hl:s.ln[c]?=some l)(hn:s.nd.length<=90000)(hal:x.a.al=true)(nH:x.a.on=false){inc:Int}(h0:0<=inc)(h59:inc<=59):
  Calls U' 36 #[ptr fb,.int .i64 (c:Int),.int .i64 inc] W fun e w'=>e=.returned (.int .i64 0)/\mX t w0 μ I fb {s.a with cl:=s.a.cl.set c {x.a with inc:=inc},ln:=s.a.ln.set c (iP c inc s.nd.length)} w':=by
 obtain⟨cb,cc,fI,lz⟩:=Row.at hR.cls hx;have h2:=hR.c2 hK;rw[fI]at h2;obtain⟨w1,P9,hK1⟩:=il hK hx lz (x':={x with a:={x.a with inc:=inc}}) 1 (by omega) (v:=.int .i64 inc) (.v rfl) rfl;have Kv:eM t (put I (t,.cls) (some (aE cb cc 66 7 ((s.cl.set c {x with a:={x.a with inc:=inc}}).map lP.row)))) fb {s with cl:=s.cl.set c {x with a:={x.a with inc:=inc}}}:=by
  refine hR.clS (fun k g1 _ _ _=>ae _ _ (aa g1)) (.inr ⟨cb,cc,?_,af _ _ _⟩) ((hR.mO c x hx).same (ae _ _ (aa fun e=>by cases e))) ((hR.Dx c x hx).same (ae _ _ (aa fun e=>by cases e)));grind
 have JO:=(xx hK lz hx).al;rw[hal]at JO;have adC:=(xx hK lz hx).on;rw[nH]at adC;refine Md fb cb s.cl.length cc c inc W w1 _ h2 (aV hx) JO adC h0 h59 P9 ?_;refine(vW hK1 Kv ⟨hD.ln,hD.os⟩ (x:={x with a:={x.a with inc:=inc}}) (bS hx) hl hn).mono fun e w' he=>⟨he.1,?_⟩;have:=he.2.from (μ:=μ) (I:=I) (ak.refl _) fun k g=>ae _ _ fun e=>g (by rw[e])
 rw[show({s with cl:=s.cl.set c {x with a:={x.a with inc:=inc}}}:gm).a={s.a with cl:=s.a.cl.set c {x.a with inc:=inc}} by unfold gm.a;simp only[aF]]at this;exact this
end
section
attribute [local go_sem] Oper.semAt_some
set_option maxHeartbeats 2000000 in
set_option maxRecDepth 1000000 in
theorem yM(f:Nat)(c:Int)(L:Value)(W:World)(h:Calls U' 77 #[.pointer (some ⟨f,0,none⟩),.int .i64 c] W fun e w'=>e=.returned (.bool false)/\w'=W):
  Calls U' 26 #[.pointer (some ⟨f,0,none⟩),.int .i64 c,L] W fun e w'=>e=.returned (.int .i64 1)/\w'=W:=by
 have mixed:U'.follows .mixedOrders=true:=by kernel_rfl
 go_enter Tryz.func26,Tryz.ntmps26
 go_wp2_with (go_at_call 77;refine da h ?_;clear h;rintro e w' ⟨rfl,hw⟩;rw[hw];clear hw)
 go_ret
 exact⟨rfl,rfl⟩
set_option maxHeartbeats 2000000 in
set_option maxRecDepth 1000000 in
theorem JP(f cb dz cc ci:Nat)(L:Value)(W:World)(h1:W.cell? ⟨f,2,none⟩=some (.slice (some ⟨cb,0,none⟩) dz cc))(hc:ci<dz)(h2:W.cell? ⟨cb,ci*7,none⟩=some (.bool true))(h3:W.cell? ⟨cb,ci*7+2,none⟩=some (.bool true)):
  Calls U' 26 #[.pointer (some ⟨f,0,none⟩),.int .i64 (ci:Int),L] W fun e w'=>e=.returned (.int .i64 3)/\w'=W:=by
 have mixed:U'.follows .mixedOrders=true:=by kernel_rfl
 have h:=dX f cb ci dz cc true W h1 hc h2;have uu:(ci:Int)<(dz:Int):=by omega
 have hc0:(0:Int)<=(ci:Int):=by omega
 go_enter Tryz.func26,Tryz.ntmps26
 go_wp2_with (go_at_call 77;refine da h ?_;clear h;rintro e w' ⟨rfl,hw⟩;rw[hw];clear hw)
 go_ret
 exact⟨rfl,rfl⟩
set_option maxHeartbeats 2000000 in
set_option maxRecDepth 1000000 in
theorem JQ(f cb dz cc ci vc:Nat)(VA:Option Addr)(W:World)(h1:W.cell? ⟨f,2,none⟩=some (.slice (some ⟨cb,0,none⟩) dz cc))(hc:ci<dz)(h2:W.cell? ⟨cb,ci*7,none⟩=some (.bool true))(h3:W.cell? ⟨cb,ci*7+2,none⟩=some (.bool false)):
  Calls U' 26 #[.pointer (some ⟨f,0,none⟩),.int .i64 (ci:Int),.slice VA 0 vc] W fun e w'=>e=.returned (.int .i64 1)/\w'=W:=by
 have mixed:U'.follows .mixedOrders=true:=by kernel_rfl
 have h:=dX f cb ci dz cc true W h1 hc h2;have uu:(ci:Int)<(dz:Int):=by omega
 have hc0:(0:Int)<=(ci:Int):=by omega
 go_enter Tryz.func26,Tryz.ntmps26
 go_wp2_with (go_at_call 77;refine da h ?_;clear h;rintro e w' ⟨rfl,hw⟩;rw[hw];clear hw)
 go_ret
 exact⟨rfl,rfl⟩
def Cq(f:Nat)(NA:Option Addr)(nn nc:Nat)(lines:Int)(vb vo i:Nat)(W:World)(J:World->Prop)(K:Int->World->Prop):Prop:=
 ∃(kd nd at_ n old iO:Int) (WA:Option Addr) (wl wc:Nat) (key bt:Int),qp W.drew vb (vo+i*9) kd nd at_ n old iO WA wl wc key bt/\W.drew.cell? ⟨f,1,none⟩=some (.slice NA nn nc)/\W.drew.cell? ⟨f,0,none⟩=some (.int .i64 lines)/\
  Calls U' 78 #[.agg (aJ kd nd at_ n old iO WA wl wc key bt),.int .i64 (nn:Int),.int .i64 lines] W.drew fun e w'=> ∃z:Int,e=.returned (.int .i64 z)/\qp w' vb (vo+i*9) kd nd at_ n old iO WA wl wc key bt/\w'.cell? ⟨f,1,none⟩=some (.slice NA nn nc)/\w'.cell? ⟨f,0,none⟩=some (.int .i64 lines)/\(z≠0->K z w')/\(z=0->J w')
set_option maxHeartbeats 4000000 in
set_option maxRecDepth 1000000 in
theorem Mh(f cb dz cc ci vb vo m vc nn nc:Nat)(NA:Option Addr)(lines:Int)(W:World)(J:Nat->World->Prop)(K:Int->World->Prop)(h1:W.cell? ⟨f,2,none⟩=some (.slice (some ⟨cb,0,none⟩) dz cc))(hc:ci<dz)(h2:W.cell? ⟨cb,ci*7,none⟩=some (.bool true))(h3:W.cell? ⟨cb,ci*7+2,none⟩=some (.bool false))
  (hm0:0<m) (hm:m<=1024) (hJ:J 0 W) (hR:∀i W',i<m->J i W'->Cq f NA nn nc lines vb vo i W' (J (i+1)) K) (hE:∀W',¬J m W'):
  Calls U' 26 #[.pointer (some ⟨f,0,none⟩),.int .i64 (ci:Int),.slice (some ⟨vb,vo,none⟩) m vc] W fun e w'=> ∃z:Int,e=.returned (.int .i64 z)/\K z w':=by
 have mixed:U'.follows .mixedOrders=true:=by kernel_rfl
 have h:=dX f cb ci dz cc true W h1 hc h2;have uu:(ci:Int)<(dz:Int):=by omega
 have hc0:(0:Int)<=(ci:Int):=by omega
 have hmb:((m:Int)==0)=false:=oE.2 (by omega);have hmI:¬(1024:Int)<(m:Int):=by omega
 have HR:Hid (∀i W',i<m->J i W'->Cq f NA nn nc lines vb vo i W' (J (i+1)) K):=hR;have HE:Hid (∀W',¬J m W'):=hE;clear hR hE
 go_enter Tryz.func26,Tryz.ntmps26
 go_wp2_with (go_at_call 77;refine da h ?_;clear h;rintro e w' ⟨rfl,hw⟩;rw[hw];clear hw)
 go_loopg [7] m (fun g s7 W=> ∃i:Nat,i+g=m/\s7=.int .i64 i/\J i W)
 case atStart=>exact⟨0,by omega,rfl,hJ⟩
 case round=>
  obtain⟨i,hig,rfl,hI⟩:=hrel;clear hJ;cases gk with
  |succ g=>
   have hi:i<m:=by omega
   have zP:(i:Int)<(m:Int):=by omega
   have hw:wrap64 ((i:Int)+1)=((i+1:Nat):Int):=by rw[mZ,aD];omega
   obtain⟨kd,nd,at_,n,old,iO,WA,wl,wc,key,bt,⟨r0,r1,r2,r3,r4,r5,r6,r7,r8⟩,r9,BR,hcall⟩:=HR.out i wr hi hI;clear HR HE hI
   go_wp2
   go_region_held3 (fun w'=>w'.cell? ⟨vb,vo+i*9,none⟩=some (.int .i64 kd)/\w'.cell? ⟨vb,vo+i*9+1,none⟩=some (.int .i64 nd)/\w'.cell? ⟨vb,vo+i*9+2,none⟩=some (.int .i64 at_)/\w'.cell? ⟨vb,vo+i*9+3,none⟩=some (.int .i64 n)/\w'.cell? ⟨vb,vo+i*9+4,none⟩=some (.int .u64 old)/\w'.cell? ⟨vb,vo+i*9+5,none⟩=some (.int .u64 iO)/\w'.cell? ⟨vb,vo+i*9+6,none⟩=some (.slice WA wl wc)/\w'.cell? ⟨vb,vo+i*9+7,none⟩=some (.int .u64 key)/\w'.cell? ⟨vb,vo+i*9+8,none⟩=some (.int .i64 bt)/\w'.cell? ⟨f,1,none⟩=some (.slice NA nn nc)/\w'.cell? ⟨f,0,none⟩=some (.int .i64 lines))
    (first|exact⟨r0,r1,r2,r3,r4,r5,r6,r7,r8,r9,BR⟩|exact⟨t0,t1,t2,t3,t4,t5,t6,t7,t8,t9,t10⟩)
    (first|(go_at_call 78;refine da hcall ?_;clear hcall;rintro e w' ⟨z,rfl,⟨t0,t1,t2,t3,t4,t5,t6,t7,t8⟩,t9,t10,hz1,hz0⟩))
   by_cases hz:z=0
   ·subst hz;have hJ':=hz0 rfl;clear hz1 hz0
    go_wp2
    go_roundg g
    case measure=>omega
    case rel=>exact⟨i+1,by omega,by first|rfl|rw[hw],hJ'⟩
   ·have hzb:(z !=0)=true:=by simpa using hz
    have hK:=hz1 hz;clear hz1 hz0
    go_wp2
    go_ret
    exact⟨z,rfl,hK⟩
  |zero=>
   obtain rfl:i=m:=by omega
   exact absurd hI (HE.out _)
end
