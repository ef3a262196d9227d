/- The table of checksums,entry by entry. -/
import Derived.Test.YtnjccbnlmdajkaaGreatTab
import Derived.Test.YtnjccbnlmdajkaaGreatEv11
import Derived.Test.YtnjccbnlmdajkaaGreatEqC
import Derived.Test.YtnjccbnlmdajkaaGreatPiecesS
import Derived.Test.YtnjccbnlmdajkaaGreatEqB
import Derived.Test.YtnjccbnlmdajkaaGreatVld
import Derived.Test.YtnjccbnlmdajkaaGreatRkD
import Derived.Test.YtnjccbnlmdajkaaGreatRkD
import Derived.Test.YtnjccbnlmdajkaaGreatRkD
import Derived.Test.YtnjccbnlmdajkaaGreatStpW
import Derived.Test.YtnjccbnlmdajkaaGreatFbO
import Derived.Test.YtnjccbnlmdajkaaGreatFbO
import Derived.Test.YtnjccbnlmdajkaaGreatRows
import Derived.Test.YtnjccbnlmdajkaaGreatEv10
set_option linter.all false
namespace Go.Proofs.YtnjccbnlmdajkaaGreat.Tab
open Go.Proofs.Tryz renaming prog->U'
open Go.Ev
attribute [local congr] ek er
abbrev tr(n:Nat):List AV:=[Z' (n:Int)]
theorem aei(x1 x3:Int)(b0:List (List AV)):∀(k j r:Nat),j+k=8->r<2^64->
  lp 127 1 0 ⟨[(0,(.ptr 0 0 0)),(1,(Q' x1)),(2,(Z' (r:Int))),(3,(Q' x3)),(8,(Q' (j:Int)))],[⟨1,179,1,false,b0⟩]⟩=
   some ⟨some 2,⟨[(0,(.ptr 0 0 0)),(1,(Q' x1)),(2,(Z' (kW k r:Nat))),(3,(Q' x3))],[⟨1,179,1,false,b0⟩]⟩,[]⟩
 |0,j,r,hj,hr=>by rw[Ob,aO (by omega)];rfl
 |k+1,j,r,hj,hr=>by
  have ih:=aei x1 x3 b0 k (j+1) (tg r) (by omega) (BM hr);have e1:IntKind.i64.wrap ((j:Int)+1)=((j+1:Nat):Int):=by rw[aD];omega
  have e2:bits .and .u64 (r:Int) 1=((r % 2:Nat):Int):=by
   rw[Ns 1 (by decide) _ 1 (by decide) (by omega) (by omega)];omega
  have e3:Int.fdiv (r:Int) 2=((r/2:Nat):Int):=rD r 2;have e4:bits .xor .u64 ((r/2:Nat):Int) 14514072000185962306=((r/2^^^poly:Nat):Int):=nF (r/2) poly (by omega) Fz;rw[Ob,aT (by omega),e1,e2,e3,e4];simp only[kW];by_cases h:r % 2=1
  ·rw[kX,ee h]at ih⊢;rw[h];exact ih
  ·rw[kX,eg h]at ih⊢;rw[oE.2 (show((r % 2:Nat):Int)≠1 by omega)];exact ih
def rows(i:Nat):List (List AV):=((List.range i).map fun j=>tr (jw j))++List.replicate (256-i) (tr 0)
theorem Kk(i:Nat)(h:i<=256):(rows i).length=256:=by
 unfold rows;simp;omega
theorem UK(i:Nat)(h:i<256):(rows i).set i (tr (jw i))=rows (i+1):=by
 unfold rows;rw[Hi _ _ (by simp),ab,ahi,Hh,show 256-i=(256-(i+1))+1 by omega,IH,my,S4,im,fh];rfl
theorem ZF:∀(k i:Nat),i+k=256->
  lp 127 0 0 ⟨[(0,(.ptr 0 0 0)),(3,(Q' (i:Int)))],[⟨1,179,1,false,rows i⟩]⟩=
   some ⟨some 0,⟨[(0,(.ptr 0 0 0))],[⟨1,179,1,false,rows 256⟩]⟩,[]⟩
 |0,i,hi=>by
  obtain rfl:i=256:=by omega
  rw[Oa,aO (by omega)];rfl
 |k+1,i,hi=>by
  have ih:=ZF k (i+1) (by omega);have e1:IntKind.i64.wrap ((i:Int)+1)=((i+1:Nat):Int):=by rw[aD];omega
  have e2:IntKind.u64.wrap (i:Int)=(i:Int):=by rw[IM];omega
  have a:=aei (i:Int) (i:Int) (rows i) 8 0 i (by omega) (by omega);have hs:=UK i (by omega);have hl:=Kk i (by omega);rw[Oa,aT (by omega),e2,show(0:Int)=((0:Nat):Int)from rfl,a];generalize rows i=R at*;simp-implicitDefEqProofs only[iy,fV,fq,pH,tU,pI,mF,kH,jN,jd,mG,mH,mI,jM,fp,ki,rh,Nat.reduceAdd,gv,vI,BF,BG,gq,jc,pG,bL,eQ,jK,jL,jO,jP,jQ,jR,pJ,pK,jS,jT,jU,pL,iz,fW,iA,iB,iC,iD,fX,jV,jW,mK,pN,mJ,pM,iE,jX,jY,iF,jZ,ke,kf,kg,ko,kr,iG,ku,kv,kx,ky,kz,mL,tV,tW,iH,AD,xr,tw,xv,yW,me,jz,xi,AS,cd (show((0:Nat):Int)<=(i:Int) by omega),aT (show(i:Int)<256 by omega),kb,hl,BH (show i<256 by omega),e1];rw[<-ih,<-hs];rfl
theorem abu(i:Nat):(rows i).all Aa=true:=by
 unfold rows;simp only[List.all_append,List.all_map,dd,ka];refine⟨fun _ _=>rfl,fun x hx=>?_⟩;obtain⟨_,rfl⟩:=Lo.1 hx;rfl
theorem abv:(rows 256).map (fun e=>cellAt e 0)=(List.range 256).map fun i=>Z' (jw i:Nat):=by
 unfold rows;rw[Hh,UP,ir,BE];rfl
theorem aej(l:List Nat)(f:Nat->Nat):(l.map fun i=>Z' (f i:Nat)).all Kw=true:=by
 simp only[List.all_map,ka];exact fun _ _=>rfl
set_option maxRecDepth 100000 in
theorem XT:ev 127 []=some [.agg ((List.range 256).map fun i=>Z' (jw i:Nat))]:=by
 have h:=ZF 256 0 rfl;have hm:=abv;have hl:=Kk 256 (dk _);have ha:=abu 256;have hv:=aej (List.range 256) jw;have hm2:(List.map (fun c=>[c]) ((List.range 256).map fun i=>Z' (jw i:Nat)))=rows 256:=by
  unfold rows;rw[Hh,UP,ir,BE];rfl
 have hml:((List.range 256).map fun i=>Z' (jw i:Nat)).length=256:=by rw[ab,ahi]
 refine(aeh).trans ?_;refine fM h ?_;generalize rows 256=R at*;generalize(List.range 256).map (fun i=>Z' (jw i:Nat))=T at*;refine(show _=cond (YG R.length 256&&R.all Aa) (cond (YG R.length 256&&(YG (R.map fun e=>cellAt e 0).length 256&&(R.map fun e=>cellAt e 0).all Kw)) (cond (YG ((R.map fun e=>cellAt e 0).map fun c=>[c]).length 256&&((R.map fun e=>cellAt e 0).map fun c=>[c]).all Aa) (cond ((((R.map fun e=>cellAt e 0).map fun c=>[c]).map fun e=>cellAt e 0).all Kw) (some [AV.agg (((R.map fun e=>cellAt e 0).map fun c=>[c]).map fun e=>cellAt e 0)]) none) none) none) none from rfl).trans ?_;rw[hm,hm2,hm,hl,ha,hv,hml];rfl
end Go.Proofs.YtnjccbnlmdajkaaGreat.Tab
namespace Go.Proofs.YtnjccbnlmdajkaaGreat.B
open Go.Proofs.Tryz renaming prog->U'
open Go.Ev Go.RowKit
attribute [local congr] ek er
theorem mix:U'.follows .mixedOrders=true:=by kernel_rfl
theorem Oc:UH=(List.range 256).map fun i=>Z' (jw i:Nat):=rfl
theorem jx:nX U' cfg:=by
 refine V7 (C':=Tab.cfg) mix (wZ fun _=>rfl) fun f g xs rs hf hg=>?_;change LC f=some g at hf;unfold LC at hf;split at hf
 ·obtain rfl:=ss hf;simp only at hg;split at hg
  ·obtain rfl:=ss hg;rw[Oc];exact BL Tab.XT
  ·cases hg
 ·cases hf
theorem drop_cons(l:List Nat)(i:Nat)(h:i<l.length):l.drop i=l.getD i 0::l.drop (i+1):=by
 rw[C7 h];simp[h]
theorem XU(i:Nat)(h:i<256):cellAt UH i=Z' (jw i:Nat):=by
 rw[Oc,cellAt,kc,et,vt h];rfl
theorem QN(r x:Nat)(hx:x<256):r/256^^^jw (r % 256^^^x)=CM r x:=by
 unfold CM;rw[Jc (r^^^x)];have h1:(r^^^x)/256=r/256:=by
  have:(r^^^x)/2^8=r/2^8^^^x/2^8:=Nat.xor_div_two_pow;rw[show x/2^8=0 by omega,Nat.xor_zero]at this;exact this
 have h2:(r^^^x) % 256=r % 256^^^x:=by
  have:(r^^^x) % 2^8=r % 2^8^^^x % 2^8:=Nat.xor_mod_two_pow;rw[show x % 2^8=x by omega]at this;exact this
 rw[h1,h2]
theorem ZG(b:Bool)(l:List Nat)(hl:l.length<=1000000)(hb:∀x∈l,x<256):∀(k i r:Nat),i+k=l.length->r<2^64->
  lp 128 0 0 ⟨[(0,(Z' (r:Int))),(1,(.ep UH 0)),(9,(.aq b 1 (lq l))),(10,(Q' (l.length:Int))),(11,(Q' (i:Int)))],[]⟩=
   some ⟨some 0,⟨[(0,(Z' (FA r (l.drop i):Nat)))],[]⟩,[]⟩
 |0,i,r,hi,hr=>by rw[N9,aO (by omega),List.drop_of_length_le (by omega)];rfl
 |k+1,i,r,hi,hr=>by
  have hlt:i<l.length:=by omega
  have hx:=hb _ (rA l 0 i hlt);have ih:=ZG b l hl hb k (i+1) (CM r (l.getD i 0)) (by omega) (Lu hr hx);rw[N9,aT (by omega),cd (by omega),mf,aT (by omega),kb,Ny l i hlt,drop_cons l i hlt];generalize l.getD i 0=x at*;have e0:IntKind.u8.wrap (r:Int)=((r % 256:Nat):Int):=by rw[Lj];rfl
  have hx2:r % 256^^^x<2^8:=zd (by omega) (by omega);have e1:bits .xor .u8 ((r % 256:Nat):Int) (x:Int)=((r % 256^^^x:Nat):Int):=aam _ _ (by omega) hx;have e2:Int.fdiv (r:Int) 256=((r/256:Nat):Int):=rD r 256;have e3:IntKind.i64.wrap ((i:Int)+1)=((i+1:Nat):Int):=by rw[aD];omega
  have e4:bits .xor .u64 ((r/256:Nat):Int) ((jw (r % 256^^^x):Nat):Int)=((r/256^^^jw (r % 256^^^x):Nat):Int):=nF _ _ (by omega) (Je (zH hx2));have e5:0+(r % 256^^^x)*1=r % 256^^^x:=by omega
  simp only[bt,bL,vI,gq,me,e0,e1,e2,e3,kb,e5,XU _ hx2,cd (show(0:Int)<=((r % 256^^^x:Nat):Int) by omega),aT (show((r % 256^^^x:Nat):Int)<256 by omega),AD,e4];rw[QN r x hx];exact ih
set_option maxRecDepth 100000 in
theorem UL(b:Bool)(s:Nat)(l:List Nat)(hs:s<2^64)(hl:l.length<=1000000)(hb:∀x∈l,x<256):ev 113 [Z' (s:Int),.aq b 1 (lq l)]=some [Z' (vK s l:Nat)]:=by
 have qL:ones^^^s<2^64:=zd sm hs;have e:bits .xor .u64 18446744073709551615 (s:Int)=((ones^^^s:Nat):Int):=nF ones s sm hs;have h:=ZG b l hl hb l.length 0 (ones^^^s) (by omega) qL;have h2:ev 128 [Z' (ones^^^s:Nat),.ep UH 0,.aq b 1 (lq l)]=some [Z' (FA (ones^^^s) l:Nat)]:=by
  rw[aeg,mf];exact fM h rfl
 refine(aef _ _ _).trans ?_;rw[e];refine fM h2 ?_;have e2:bits .xor .u64 18446744073709551615 ((FA (ones^^^s) l:Nat):Int)=((vK s l:Nat):Int):=nF ones _ sm (FB qL hb);show some [Z' (bits .xor .u64 18446744073709551615 ((FA (ones^^^s) l:Nat):Int))]=_;rw[e2]
theorem XV(b:Bool)(l:List Nat)(hl:l.length<=1000000)(hb:∀x∈l,x<256):ev 92 [.aq b 1 (lq l)]=some [Z' (vK 0 l:Nat)]:=by
 rw[agu];exact fM (UL b 0 l (by decide) hl hb) rfl
end Go.Proofs.YtnjccbnlmdajkaaGreat.B
namespace Go.Proofs.YtnjccbnlmdajkaaGreat.B
open Go.Proofs.Tryz renaming prog->U'
open Go.Ev
set_option maxRecDepth 100000
end Go.Proofs.YtnjccbnlmdajkaaGreat.B
namespace Go.Proofs.YtnjccbnlmdajkaaGreat.B
open Go.Proofs.Tryz renaming prog->U'
open Go.Ev Go.RowKit
section
attribute [local congr] ek er
set_option maxRecDepth 10000
def byI:Nat->Int->List Nat
 |0,_=>[]
 |k+1,w=>(w % 256).toNat::byI k (Int.fdiv w 256)
def lit(w:Int):List Nat:=byI 8 w
def Gu(ws:List Int):List Nat:=ws.flatMap lit
theorem UM:∀(k:Nat) (w:Int),∀x∈byI k w,x<256
 |0,_,x,h=>by cases h
 |k+1,w,x,h=>by
  rcases ft.1 h with rfl|h
  ·omega
  ·exact UM k _ x h
theorem Gv(w:Int):(lit w).length=8:=rfl
theorem zW:∀ws:List Int,(Gu ws).length=8*ws.length
 |[]=>rfl
 |w::ws=>by
  have:=zW ws;unfold Gu at*;rw[Ax,ec,this,Gv,ki];omega
theorem Kl(ws:List Int)(w:Int):Gu (ws++[w])=Gu ws++lit w:=by unfold Gu;rw[List.flatMap_append];simp
theorem abw(ws:List Int):∀x∈Gu ws,x<256:=fun x hx=>by
 unfold Gu at hx;obtain⟨w,_,hw⟩:=vh.1 hx;exact UM _ _ x hw
theorem CG(ws:List Int)(i:Nat)(h:i<ws.length):ws.take (i+1)=ws.take i++[ws.getD i 0]:=by
 rw[List.take_succ_eq_append_getElem h];simp[h]
theorem Od(l:List Nat):(lq l).all Ev.isByte=true:=by
 unfold lq;simp only[List.all_map,ka];exact fun _ _=>rfl
theorem Oe(a b:List Nat):lq a++lq b=lq (a++b):=by unfold lq;rw[im]
def big:Nat:=10000000000
theorem u8m(n:Int):IntKind.u8.wrap n=(((n % 256).toNat:Nat):Int):=by rw[Lj];omega
theorem Og(b:Bool)(l:List Nat)(w:Int)(hl:l.length<=big):ev 91 [.ow b 5 1 (lq l),Z' w]=some [.ow false 5 1 (lq (l++lit w))]:=by
 unfold big at hl;have h:∀j:Nat,j<=9->CQ ((l.length+j)*1) 140737488355328=true:=fun j hj=>vJ (by omega);rw[agq];simp only[u8m,ec,ki,rh,mf,gv,vj,Nat.reduceAdd];rw[h 1 (by omega),h 2 (by omega),h 3 (by omega),h 4 (by omega),h 5 (by omega),h 6 (by omega),h 7 (by omega),h 8 (by omega)];simp only[me,fh];unfold lq;rw[im];rfl
end
section
attribute [local congr] ek er
set_option maxRecDepth 10000
theorem FJ(b:Bool)(xs:List (List AV))(dn:Bool)(h:xs.length<=100000):ev 90 [.ep [.aq b 1 xs,.v (.bool dn)] 0]=some [Q' (xs.length/8:Nat)]:=by
 have e:IntKind.i64.wrap (Int.tdiv (xs.length:Int) 8)=((xs.length/8:Nat):Int):=by rw[fU _ _ (by omega),aD];omega
 rw[aaz,e]
def CO(n:Nat)(up:Bool):List Nat:=[77,69,77,49,n % 256,n/256 % 256,bif up then 1 else 0]
theorem abx(n:Nat)(up:Bool):∀x∈CO n up,x<256:=by
 intro x hx;unfold CO at hx;simp only[ft,dt,re]at hx;cases up<;>simp only[me,jz]at hx<;>omega
def pre(ws:List Int)(up:Bool):List Nat:=CO (ws.length/8) up++Gu ws
def img(ws:List Int)(up:Bool):List Nat:=pre ws up++lit ((vK 0 (pre ws up):Nat):Int)
theorem UN(ws:List Int)(up:Bool):∀x∈pre ws up,x<256:=fun x hx=>by
 rcases gw.1 hx with h|h
 ·exact abx _ _ x h
 ·exact abw _ x h
theorem zX(ws:List Int)(up:Bool):(pre ws up).length=7+8*ws.length:=by
 unfold pre;rw[ec,zW];rfl
theorem Oh(b:Bool)(ws:List Int)(l:List Nat)(hl:ws.length<=100000)(hk:l.length<=100):∀(k i:Nat),i+k=ws.length->
  lp 60 0 0 ⟨[(3,(.sl false 0 0 none)),(26,(.aq b 1 (ws.map wr))),(27,(Q' (((ws.map wr).length:Nat):Int))),(28,(Q' (i:Int)))],[⟨1,5,1,false,lq (l++Gu (ws.take i))⟩]⟩=
   some ⟨some 0,⟨[(3,(.sl false 0 0 none))],[⟨1,5,1,false,lq (l++Gu ws)⟩]⟩,[]⟩
 |0,i,hi=>by
  rw[UI,ab,aO (by omega),yi (by omega)];rfl
 |k+1,i,hi=>by
  have ih:=Oh b ws l hl hk k (i+1) (by omega);have hlt:i<ws.length:=by omega
  have e1:IntKind.i64.wrap ((i:Int)+1)=((i+1:Nat):Int):=by rw[aD];omega
  have a:=Og false (l++Gu (ws.take i)) (ws.getD i 0) (by unfold big;rw[ec,zW,uv];omega);rw[fh,<-Kl,<-CG ws i hlt]at a;rw[UI,ab,aT (by omega),cd (by omega),kb,xq ws i hlt,e1];rw[ab]at ih;exact cT rfl (cT rfl (fM a (cT rfl ih)))
theorem XW(ws:List Int)(dn:Bool)(hl:ws.length<=100000):ev 60 [YS ws dn]=some [.ow false 5 1 (lq (img ws (!dn)))]:=by
 have a:=FJ false (ws.map wr) dn (by rw[ab];exact hl);rw[ab]at a;have e1:IntKind.u8.wrap ((ws.length/8:Nat):Int)=((ws.length/8 % 256:Nat):Int):=by rw[Lj];rfl
 have e2:Int.fdiv ((ws.length/8:Nat):Int) 256=((ws.length/8/256:Nat):Int):=rD _ 256;have e3:IntKind.u8.wrap ((ws.length/8/256:Nat):Int)=((ws.length/8/256 % 256:Nat):Int):=by rw[Lj];rfl
 have hb0:∀up:Bool,lq (CO (ws.length/8) up++Gu (ws.take 0))=[[.v (.int .u8 77)],[.v (.int .u8 69)],[.v (.int .u8 77)],[.v (.int .u8 49)],[.v (.int .u8 ((ws.length/8 % 256:Nat):Int))],[.v (.int .u8 ((ws.length/8/256 % 256:Nat):Int))],[.v (.int .u8 (bif up then 1 else 0))]]:=fun up=>by cases up<;>rfl
 have fin:∀up:Bool,ev 92 [.aq false 1 (lq (pre ws up))]=some [Z' (vK 0 (pre ws up):Nat)]:=fun up=>XV false _ (by rw[zX];omega) (UN ws up);have UO:∀up:Bool,ev 91 [.ow false 5 1 (lq (pre ws up)),Z' (vK 0 (pre ws up):Nat)]=some [.ow false 5 1 (lq (img ws up))]:=fun up=>Og false _ _ (by rw[zX];unfold big;omega);rw[agr];refine fM a (cT rfl (fM a (cT rfl ?_)));simp only[bL,gq,e1,e2,e3];have ZH:∀up:Bool,_:=fun up=>Oh false ws (CO (ws.length/8) up) hl (show 7<=100 by decide) ws.length 0 (by omega);cases dn with
 |true=>
  have h:=ZH false;rw[hb0]at h;exact cT rfl (fM h (cT rfl (cT rfl (fM (fin false) (cT rfl (fM (UO false) (cT rfl rfl)))))))
 |false=>
  have h:=ZH true;rw[hb0]at h;exact cF rfl (fM h (cT rfl (cT rfl (fM (fin true) (cT rfl (fM (UO true) (cT rfl rfl)))))))
theorem Oi(a b:Bool)(ws:List Int)(hl:ws.length<=100000):∀(k i:Nat),i+k=ws.length->lp 111 0 0 ⟨[(0,(.aq a 1 (ws.map wr))),(1,(.aq b 1 (ws.map wr))),(5,(Q' (i:Int)))],[]⟩=some ⟨some 0,⟨[],[]⟩,[]⟩
 |0,i,hi=>by rw[N7,ab,aO (by omega)];rfl
 |k+1,i,hi=>by
  have ih:=Oi a b ws hl k (i+1) (by omega);have hlt:i<ws.length:=by omega
  have e1:IntKind.i64.wrap ((i:Int)+1)=((i+1:Nat):Int):=by rw[aD];omega
  rw[N7,ab,aT (by omega),cd (by omega),kb,xq ws i hlt,e1];refine cT rfl (cT rfl (cT rfl (cT rfl (cT rfl (cF ?_ ih)))));show(!(ws.getD i 0==ws.getD i 0))=false;rw[AM];rfl
theorem XX(a b:Bool)(ws:List Int)(hl:ws.length<=100000):ev 111 [.aq a 1 (ws.map wr),.aq b 1 (ws.map wr)]=some [.v (.bool true)]:=by
 rw[aee];refine cF (by rw[AM];rfl) (fM (Oi a b ws hl ws.length 0 (by omega)) (cT rfl (cT rfl rfl)))
theorem UQ(ds:List gh)(i:Nat){d:gh}(h:ds[i]?=some d):aw (ds.map gh.row) i=d.row:=by
 unfold aw;rw[kc,et,h];rfl
end
end Go.Proofs.YtnjccbnlmdajkaaGreat.B
namespace Go.Proofs.YtnjccbnlmdajkaaGreat
open Go.Proofs.Tryz renaming prog->U'
open Go.RowKit Go.Shelf Go.Lib Go.Ev
set_option maxRecDepth 100000
section
variable{w0 W:World}{μ:Mu}{I:Ky->Option ag}{t fb:Nat}{s:gN}
structure LnE(l:th):Prop where
 q:l.p.q=[]
 w:l.p.w=[]
 pl:l.pl=[]
end
section
variable{w0 W:World}{μ:Mu}{I:Ky->Option ag}{t fb:Nat}{s:gN}
structure FbZ(a:mV):Prop where
 nd:1<=a.nd.length/\a.nd.length<=10
 ws:∀n∈a.nd,n.ws.length<=1000
 cl:1<=a.cl.length/\a.cl.length<=10
 ba:∀x∈a.cl,x.ba=[]/\(∀l∈x.ln,LnE l)/\1<=x.ln.length/\x.ln.length<=10
 os:a.os=[]
end
section
variable{w0 W:World}{μ:Mu}{I:Ky->Option ag}{t fb:Nat}{s:gN}{a:mV}
theorem XY(hK:az w0 μ I W)(hR:ji t I fb s){c:Nat}{x:dH}(hc:s.cl[c]?=some x)(hal:x.al=true)(tT:x.ba≠[])(hwt:x.wt=0):
  Calls U' 23 #[ptr fb,.int .i64 c] W fun e w'=> ∃(A:Option Addr) (cc:Nat) (μ':Mu) (n:Bool),e=.returned (.tuple #[.slice A x.ba.length cc,.bool true])/\ak μ μ'/\DR μ' (.aq n 2 (x.ba.map gh.row)) (.slice A x.ba.length cc)/\fu t w0 μ' I fb {s.a with cl:=s.a.cl.set c {x.a with ba:=[]}} w':=by
 obtain⟨bc,cc,fI,lz,ng⟩:=hR.jy hK hc;have kD:=hR.cl c x hc;have h2:=hR.c2 hK;rw[fI]at h2;obtain⟨bb,cb,vE,yJ⟩:=kD.bs.ne (by simpa using tT);rw[ab]at vE;have wi:=ng.al;rw[hal]at wi;have aek:=ng.wt;rw[hwt]at aek;have ael:=ng.bv;rw[vE]at ael;have hr0:(s.cl.map dH.row)[c]?=some x.row:=get_map hc;have hcm:c<(s.cl.map dH.row).length:=by rw[ab];exact aV hc
 have hfz:=hK.dN lz hcm (j:=3) (by omega);have bq:=hK.oF lz hr0 (j:=3) (by omega) (a:=.v (.slice none 0 0)) (v:=.slice none 0 0) (.v rfl);refine(PR fb bc c s.cl.length x.ba.length cb ⟨bb,0,none⟩ W (fun W'=>W'=W.setCell ⟨bc,c*7+3,none⟩ (.slice none 0 0)) (aV hc) h2 wi ael aek hfz rfl).mono fun e w' he=>?_;obtain⟨rfl,rfl⟩:=he;obtain⟨μ',n,hm,du,hd,_⟩:=bq.Lz (k:=(t,.mO c)) (v:=x.bv) ((kD.bs).put (aa fun e=>by cases e));rw[vE]at hd;refine⟨_,cb,μ',n,rfl,hm,hd,μ',_,{s with cl:=s.cl.set c {x with bv:=.slice none 0 0,ba:=[]}},ak.refl _,du,?_,?_,aP (aP fun _ _=>rfl)⟩
 ·have hx':x.row.set 3 (.v (.slice none 0 0))=dH.row {x with bv:=.slice none 0 0,ba:=[]}:=rfl;refine hR.di (x':={x with bv:=.slice none 0 0,ba:=[]}) (fun k h1 h2 h3=>?_) (.inr ⟨bc,cc,?_,?_⟩) ⟨?_,.inl ⟨rfl,rfl⟩,fun _=>rfl,fun i l hl=>?_,fun i l hl=>?_⟩
  ·rw[ae _ _ (aa fun e=>by subst e;simp[FK.mT]at h2),ae _ _ (aa h1)]
  ·rw[ff,ab];exact fI
  ·rw[ae _ _ (aa fun e=>by cases e),af,hx']
  ·exact(kD.ls.put (aa fun e=>by cases e)).put (aa fun e=>by cases e)
  ·rw[ae _ _ (aa fun e=>by cases e),ae _ _ (aa fun e=>by cases e)];exact kD.ps i l hl
  ·exact((kD.S5 i l hl).put (aa fun e=>by cases e)).put (aa fun e=>by cases e)
 ·unfold gN.a;rw[aF];rfl
theorem UR(h:fu t w0 μ I fb a W){c:Nat}{x:mU}(hc:a.cl[c]?=some x)(hal:x.al=true)(tT:x.ba≠[])(hwt:x.wt=0):
  Calls U' 23 #[ptr fb,.int .i64 c] W fun e w'=> ∃(A:Option Addr) (cc:Nat) (μ':Mu) (n:Bool),e=.returned (.tuple #[.slice A x.ba.length cc,.bool true])/\ak μ μ'/\DR μ' (.aq n 2 (x.ba.map gh.row)) (.slice A x.ba.length cc)/\fu t w0 μ' I fb {a with cl:=a.cl.set c {x with ba:=[]}} w':=by
 obtain⟨μ',I',s',hm',hK,hR,rfl,hf⟩:=h;obtain⟨xc,gp,rfl⟩:=bF hc;refine(XY hK hR gp hal tT hwt).mono fun e w' he=>?_;obtain⟨A,cc,μ2,n,rfl,hm,hd,hF⟩:=he;exact⟨A,cc,μ2,n,rfl,hm'.trans hm,hd,hF.from (ak.refl _) hf⟩
def F2(w0:World)(μ:Mu)(fb gb:Nat)(a b:mV)(W:World):Prop:=
 ∃(μ':Mu) (I:Ky->Option ag) (s u:gN),ak μ μ'/\az w0 μ' I W/\ji 0 I fb s/\s.a=a/\ji 1 I gb u/\u.a=b
end
end Go.Proofs.YtnjccbnlmdajkaaGreat
namespace Go.Proofs.YtnjccbnlmdajkaaGreat.B
open Go.Proofs.Tryz renaming prog->U'
open Go.Ev Go.RowKit
attribute [local congr] ek er
set_option maxRecDepth 10000
theorem US(d e:gh)(hc:d.code=e.code)(hw:d.w=e.w)(hl:e.w.length<=100000):ev 81 [.agg d.row,.agg e.row]=some [.v (.bool true)]:=by
 unfold gh.row;rw[ags,hc,hw];exact cT (AM _) (fM (XX d.wn e.wn e.w hl) (cT rfl rfl))
theorem EC(a b:Bool)(ds es:List gh)(hk:ds.map (fun d=>(d.code,d.w))=es.map fun d=>(d.code,d.w))(hl:es.length<=100000)(hw:∀d∈es,d.w.length<=100000):∀(k i:Nat),i+k=es.length->lp 30 0 0 ⟨[(0,(.aq a 2 (ds.map gh.row))),(1,(.aq b 2 (es.map gh.row))),(5,(Q' (i:Int)))],[]⟩=some ⟨some 0,⟨[],[]⟩,[]⟩
 |0,i,hi=>by
  have hlen:ds.length=es.length:=by have:=rj List.length hk;rwa [ab,ab]at this
  rw[UJ,ab,hlen,aO (by omega)];rfl
 |k+1,i,hi=>by
  have hlen:ds.length=es.length:=by have:=rj List.length hk;rwa [ab,ab]at this
  have ih:=EC a b ds es hk hl hw k (i+1) (by omega);have hlt:i<es.length:=by omega
  obtain⟨e,he⟩:∃e,es[i]?=some e:=⟨_,ao hlt⟩;obtain⟨d,hd⟩:∃d,ds[i]?=some d:=⟨_,ao (by omega)⟩;have hke:(d.code,d.w)=(e.code,e.w):=by
   have h1:=rj (fun l=>l[i]?) hk;rw[et,et,hd,he]at h1;exact ss h1
  have e1:IntKind.i64.wrap ((i:Int)+1)=((i+1:Nat):Int):=by rw[aD];omega
  have s:=US d e (rj Prod.fst hke) (rj Prod.snd hke) (hw e (dp he));rw[UJ,ab,hlen,ab,aT (by omega),cd (by omega),kb,UQ ds i hd,UQ es i he,e1];exact cT rfl (cT rfl (cT rfl (cT rfl (cT rfl (fM s (cT rfl (cF rfl ih)))))))
theorem QO(a b:Bool)(ds es:List gh)(hk:ds.map (fun d=>(d.code,d.w))=es.map fun d=>(d.code,d.w))(hl:es.length<=100000)(hw:∀d∈es,d.w.length<=100000):ev 30 [.aq a 2 (ds.map gh.row),.aq b 2 (es.map gh.row)]=some [.v (.bool true)]:=by
 have hlen:ds.length=es.length:=by have:=rj List.length hk;rwa [ab,ab]at this
 rw[agt];refine cF (by rw[ab,ab,hlen,AM];rfl) (fM (EC a b ds es hk hl hw es.length 0 (by omega)) (cT rfl (cT rfl rfl)))
end Go.Proofs.YtnjccbnlmdajkaaGreat.B
namespace Go.Proofs.YtnjccbnlmdajkaaGreat
open Go.Proofs.Tryz renaming prog->U'
open Go.RowKit Go.Shelf Go.Lib Go.Ev
set_option maxRecDepth 100000
section
variable{w0 W:World}{μ:Mu}{I:Ky->Option ag}{fb rb k:Nat}{a:mV}{r:gP}
theorem aby(h:JS w0 μ I fb rb k W)(c:Int){n:Bool}{vs:List Vb}{v:Value}(hd:DR μ (.aq n 9 (vs.map Vb.row)) v)(h8:vs.length<=8)(hwf:∀u∈vs,u.Wf):Jt w0 μ I fb rb k true 20 26 #[ptr fb,.int .i64 c,v] #[ptr rb,.int .i64 c,v] W:=by
 obtain⟨a,r,hB,hS,ho⟩:=h;have sY:=hS.c2;have CT:=hS.n2;obtain⟨VA,vc,hv,_⟩:=eZ hd;rw[ab]at hv;rcases Vu c with⟨m,rfl,hm⟩|hc
 ·obtain⟨x,y,l,hx,hy,hl,hs⟩:=hS.get hm;cases hal:y.al with
  |false=>
   refine Jt.of (r:=r) (v:=.int .i64 1) (a':=a) (r':=r) ?_ (fun w2 h2=>?_) hS ho
   ·obtain⟨μ',I',_,hF,_,_⟩:=hB.left;rw[hv];exact(My hF hx (hs.al.trans hal) VA _ vc).mono fun e w' he=>⟨he.1,he.2▸hB⟩
   ·obtain⟨μ',I',u,_,hK,hR,hD,hu,_,_⟩:=h2.right;obtain⟨q1,q2,q3⟩:=ez hS hu;obtain⟨xc,gp,rfl⟩:=jA hu hy;have:=(Dn hK hR q1 gp).alive hm;rw[hal]at this;exact(yM rb m v w2 this).mono fun e w' he=>⟨he.1,he.2▸h2⟩
  |true=>
   cases nH:y.on with
   |true=>
    have hne:x.ba≠[]:=fun e=>hs.onT.1 nH (hs.emp.1 e);refine Jt.of (r:=r) (v:=.int .i64 3) (a':=a) (r':=r) ?_ (fun w2 h2=>?_) hS ho
    ·obtain⟨μ',I',_,hF,_,_⟩:=hB.left;obtain⟨bc,cc,LA,BA,lc,bn,bk,p1,p2,p3,p4,p5,p6,_⟩:=hF.Vt hx;obtain⟨b,rfl⟩:=p6 hne;rw[hs.al.trans hal]at p2;exact(QF fb bc m _ b bn bk v W (by omega) p1 p2 p4).mono fun e w' he=>⟨he.1,he.2▸hB⟩
    ·obtain⟨μ',I',u,_,hK,hR,hD,hu,_,_⟩:=h2.right;obtain⟨q1,q2,q3⟩:=ez hS hu;obtain⟨xc,gp,rfl⟩:=jA hu hy;obtain⟨cb,cc,p1,p2,_,p3⟩:=(Dn hK hR q1 gp).w;rw[hal]at p2;rw[nH]at p3;exact(JP rb cb 2 cc m v w2 p1 hm p2 p3).mono fun e w' he=>⟨he.1,he.2▸h2⟩
   |false=>
    have Kt:=hs.onF.1 nH;have tT:=hs.emp.2 Kt;by_cases hv0:vs.length=0
    ·rw[hv0]at hv;refine Jt.of (r:=r) (v:=.int .i64 1) (a':=a) (r':=r) ?_ (fun w2 h2=>?_) hS ho
     ·obtain⟨μ',I',_,hF,_,_⟩:=hB.left;obtain⟨bc,cc,LA,BA,lc,bn,bk,p1,p2,p3,p4,p5,_⟩:=hF.Vt hx;obtain⟨rfl,rfl,rfl⟩:=p5 tT;rw[hs.al.trans hal]at p2;rw[hv];exact(QG fb bc m _ VA vc W (by omega) p1 p2 p4).mono fun e w' he=>⟨he.1,he.2▸hB⟩
     ·obtain⟨μ',I',u,_,hK,hR,hD,hu,_,_⟩:=h2.right;obtain⟨q1,q2,q3⟩:=ez hS hu;obtain⟨xc,gp,rfl⟩:=jA hu hy;obtain⟨cb,cc,p1,p2,_,p3⟩:=(Dn hK hR q1 gp).w;rw[hal]at p2;rw[nH]at p3;rw[hv];exact(JQ rb cb 2 cc m vc VA w2 p1 hm p2 p3).mono fun e w' he=>⟨he.1,he.2▸h2⟩
    ·have hv1:1<=vs.length:=by omega
     have VK:∀(j:Nat) (p:eI),l[j]?=some p->p.q=[]:=fun j p hp=>sE (hs.noS Kt) hp;rcases QM (vs:=vs) 2 12 with hg|⟨i,ui,hi,hg,hb⟩
     ·have hgg:∀u∈vs,u.Wf/\u.eT 2 12=0:=fun u hu=>⟨hwf u hu,hg u hu⟩;refine Jt.of (r:=r) (v:=.int .i64 0) (a':={a with cl:=a.cl.set m (x.post 12 vs)}) (r':=r.post m y l vs) ?_ (fun w2 h2=>?_) ?_ ho
      ·obtain⟨μ',I',hm',hF,_,hbk⟩:=hB.left;have:=Ul hF hx (hs.al.trans hal) tT (hd.mono hm') ⟨hv1,by omega⟩ (by rw[CT,hS.la];exact hgg) (by omega) (by rw[hs.xl hal,CT]) (fun e he=>by
        obtain⟨j,hj,rfl⟩:=D0.1 he;have hjl:j<2:=by rw[<-hs.xl hal];exact hj
        obtain⟨q,hq⟩:∃q,l[j]?=some q:=⟨_,ao (by rw[hs.ll];exact hjl)⟩;obtain⟨g1,g2⟩:=hs.ps j q _ hq (ao hj);rw[g1.nil.2 (VK j q hq),g2,VK j q hq];exact⟨by show 0+vs.length<=1024;omega,by show 0+vs.length<=1024;omega⟩)
       rw[show x.post a.lines vs=x.post 12 vs by rw[hS.la]]at this;exact this.mono fun e w' he=>⟨he.1,hbk μ' _ _ (ak.refl _) he.2⟩
      ·obtain⟨μ',I',u,hm',hK,hR,hD,hu,_,hbk⟩:=h2.right;obtain⟨q1,q2,q3⟩:=ez hS hu;obtain⟨xc,gp,rfl⟩:=jA hu hy;obtain⟨lc,hlc,rfl⟩:=uj hu hl;have e0:u.lines=12:=(rj gP.lines hu).trans hS.lr;have:=Uc hK hR hD gp hlc hal nH (fun j p hp=>⟨(hs.lc j p hp).1,by rw[VK j p hp];show 0+10<=1024;omega⟩) (hs.ll.trans q3.symm) (by omega) (hd.mono hm') ⟨hv1,by omega⟩ (by rw[q3,e0];exact hgg);rw[hu]at this;exact this.mono fun e w' he=>⟨he.1,hbk μ' _ _ (ak.refl _) he.2⟩
      ·exact hS.sI (os:=a.os) (os':=r.os) (hs.post hal Kt ⟨hv1,h8⟩ hgg) hS.os
     ·refine Jt.of (r:=r) (v:=.int .i64 (ui.eT 2 12)) (a':=a) (r':=r) ?_ (fun w2 h2=>?_) hS ho
      ·obtain⟨μ',I',hm',hF,_,hbk⟩:=hB.left;have e1:((a.nd.length:Nat):Int)=2:=by omega
       have:=adZ hF hx (hs.al.trans hal) tT (hd.mono hm') ⟨hv1,by omega⟩ (by omega) hi (by rw[e1,hS.la];exact hg) (by rw[e1,hS.la];exact hb);rw[e1,hS.la]at this;exact this.mono fun e w' he=>⟨he.1,hbk μ' _ _ (ak.refl _) he.2⟩
      ·obtain⟨μ',I',u,hm',hK,hR,hD,hu,_,hbk⟩:=h2.right;obtain⟨q1,q2,q3⟩:=ez hS hu;obtain⟨xc,gp,rfl⟩:=jA hu hy;have e0:u.lines=12:=(rj gP.lines hu).trans hS.lr;have e1:((u.nd.length:Nat):Int)=2:=by omega
       have:=Qn hK hR gp hal nH (by omega) (hd.mono hm') ⟨hv1,by omega⟩ hi (by rw[e1,e0];exact hg) (by rw[e1,e0];exact hb);rw[e1,e0]at this;refine this.mono fun e w' he=>⟨he.1,?_⟩;have hst:=mX.start he.2 hR hD;rw[hu]at hst;exact hbk μ' _ _ (ak.refl _) hst
 ·refine Jt.of (r:=r) (v:=.int .i64 1) (a':=a) (r':=r) ?_ (fun w2 h2=>?_) hS ho
  ·obtain⟨μ',I',_,hF,_,_⟩:=hB.left;exact(Uw fb c v W (uh hF sY hc)).mono fun e w' he=>⟨he.1,he.2▸hB⟩
  ·obtain⟨μ',I',u,_,hK,hR,hD,hu,_,_⟩:=h2.right;obtain⟨q1,q2,q3⟩:=ez hS hu;exact(yM rb c v w2 (XL hK hR q1 hc)).mono fun e w' he=>⟨he.1,he.2▸h2⟩
end
section
variable{w0 W:World}{μ:Mu}{I:Ky->Option ag}{fb rb k:Nat}{a:mV}{r:gP}
theorem B2.vals{P:Program}{C:gD}(h:B2 w0 μ I fb rb a r W)(dw:P.follows .mixedOrders=true)(hx:nX P C){f:FuncId}{bs:List AV}{xs:List Value}(hev:wq P C f bs=some (xs.map AV.v)){fn:Func}(hfn:P.funcs[f]?=some fn){vals:List Value}
  (hB:∀{μ':Mu} {hp:HF},ak μ μ'->ju μ' hp [] [] bs vals):Calls P f vals.toArray W fun e w'=>e=.returned (nV xs)/\B2 w0 μ I fb rb a r w':=by
 obtain⟨μ',I',s',u',hm,hK,q⟩:=h;exact(hK.vals dw hx hev hfn (hB hm)).mono fun e w' he=>⟨he.1,μ',I',s',u',hm,he.2.1,q⟩
theorem abz:U'.funcs[30]?=some Tryz.f30:=by kernel_rfl
theorem B2.aem(h:B2 w0 μ I fb rb a r W):∃(μ':Mu) (I':Ky->Option ag),ak μ μ'/\fu 1 w0 μ' I' fb a W/\∀μ2 a' w',ak μ' μ2->fu 1 w0 μ2 I' fb a' w'->B2 w0 μ2 I fb rb a' r w':=by
 obtain⟨μ',I',s,u,h1,h2,h3,h4,h5,h6,h7,h8⟩:=h;refine⟨μ',I',h1,⟨μ',I',s,ak.refl _,h2,h3,h4,fun _ _=>rfl⟩,fun μ2 a' w' hm h=>?_⟩;obtain⟨μ3,I3,s3,g1,g2,g3,g4,g5⟩:=h;exact⟨μ3,I3,s3,u,g1,g2,g3,g4,h5.of fun k _=>g5 (2,k) (by simp),h6.mono (hm.trans g1),h7,fun k k1 k2=>(g5 k k1).trans (h8 k k1 k2)⟩
theorem B2.abA(h:B2 w0 μ I fb rb a r W):∃(μ':Mu) (I':Ky->Option ag) (u:gm),ak μ μ'/\az w0 μ' I' W/\eM 2 I' rb u/\wz μ' u/\u.a=r/\∀μ2 r' w',ak μ' μ2->mX 2 w0 μ2 I' rb r' w'->B2 w0 μ2 I fb rb a r' w':=by
 obtain⟨μ',I',s,u,h1,h2,h3,h4,h5,h6,h7,h8⟩:=h;refine⟨μ',I',u,h1,h2,h5,h6,h7,fun μ2 r' w' hm h=>?_⟩;obtain⟨μ3,I3,u3,g1,g2,g3,g4,g5,g6⟩:=h;exact⟨μ3,I3,s,u3,g1,g2,h3.of fun k _=>g6 (1,k) (by simp),h4,g3,g4,g5,fun k k1 k2=>(g6 k k2).trans (h8 k k1 k2)⟩
theorem Oj{d d2:Value}{n n2:Bool}{ds es:List gh}(h:B2 w0 μ I fb rb a r W)(hd:DR μ (.aq n 2 (ds.map gh.row)) d)(he:DR μ (.aq n2 2 (es.map gh.row)) d2)(hk:ds.map gh.key=es.map gh.key)(hl:es.length<=8)(hw:∀d∈es,d.w.length<=100000):
  Calls U' 30 #[d,d2] W fun e w'=>e=.returned (.bool true)/\B2 w0 μ I fb rb a r w':=by
 have hev:=B.QO n n2 ds es hk (by omega) hw;exact h.vals (xs:=[.bool true]) B.mix B.jx hev abz (vals:=[d,d2]) fun{μ'} {hp} hm=>.cons (F:=[]) (F':=[]) (G:=[]) (G':=[]) (.o (.c (.d (hd.mono hm)))) (.cons (F:=[]) (F':=[]) (G:=[]) (G':=[]) (.o (.c (.d (he.mono hm)))) .nil)
def Tk(w0:World)(μ:Mu)(I:Ky->Option ag)(fb rb k:Nat)(c:Int)(W:World):Prop:=
 Calls U' 23 #[ptr fb,.int .i64 c] W fun e w'=> ∃(d:Value) (ok:Bool),e=.returned (.tuple #[d,.bool ok])/\Calls U' 29 #[ptr rb,.int .i64 c] w' fun e' w3=> ∃d2,e'=.returned (.tuple #[d2,.bool ok])/\
  Calls U' 30 #[d,d2] w3 fun e w5=>e=.returned (.bool true)/\JS w0 μ I fb rb k w5
theorem Ol{c:Int}(hB:B2 w0 μ I fb rb a r W)(hS:kU a r)(ho:a.os.length<=k)(hp:Calls U' 23 #[ptr fb,.int .i64 c] W fun e w'=>e=.returned (.tuple #[.slice none 0 0,.bool false])/\w'=W)(hr:Calls U' 29 #[ptr rb,.int .i64 c] W fun e w'=>e=.returned (.tuple #[.slice none 0 0,.bool false])/\w'=W):
  Tk w0 μ I fb rb k c W:=by
 refine hp.mono fun e w' he=>⟨_,false,he.1,?_⟩;rw[he.2];refine hr.mono fun e w' he=>⟨_,he.1,?_⟩;rw[he.2];exact(Oj hB (ds:=[]) (es:=[]) gM gM rfl (nt _) fun d hd=>by cases hd).mono fun e w' he=>⟨he.1,a,r,he.2,hS,ho⟩
theorem abB(h:JS w0 μ I fb rb k W)(c:Int):Tk w0 μ I fb rb k c W:=by
 obtain⟨a,r,hB,hS,ho⟩:=h;have sY:=hS.c2;obtain⟨μ1,I1,iT,hF,_,hbk⟩:=hB.left;rcases Vu c with⟨n,rfl,hn⟩|hc
 ·obtain⟨x,y,l,hx,hy,hl,hs⟩:=hS.get hn;obtain⟨bc,cc,LA,BA,lc,bn,bk,p1,p2,p3,p4,p5,p6,p7,_⟩:=hF.Vt hx;obtain⟨μ',I',u,hm,hK,hR,hD,hu,_,_⟩:=hB.right;obtain⟨q1,q2,q3⟩:=ez hS hu;obtain⟨xc,gp,rfl⟩:=jA hu hy;have hRc:=Dn hK hR q1 gp;have hRa:=hRc.alive hn;obtain⟨cb,cr,r1,r2,_,r3⟩:=hRc.w;cases hal:xc.a.al with
  |false=>
   rw[hs.al.trans hal]at p2;rw[hal]at hRa;exact Ol hB hS ho (QH fb bc n _ W (by omega) p1 p2) (Co rb n W hRa)
  |true=>
   rw[hs.al.trans hal]at p2;rw[hal]at r2;cases nH:xc.a.on with
   |false=>
    rw[nH]at r3;exact Ol hB hS ho (Xz hF hx (hs.al.trans hal) (hs.emp.2 (hs.onF.1 nH))) (P8 rb cb 2 cr n W r1 hn r2 r3)
   |true=>
    rw[nH]at r3;have Kt:=hs.onT.1 nH;have aen:x.ba≠[]:=fun e=>Kt (hs.emp.1 e);have hwe:=hs.wait;have hd8:=hs.h8;have hhl:=hs.hd;have hhv:xc.a.hv≠[]:=fun e=>Kt (dy (by rw[<-hhl,e];rfl));by_cases hw:xc.a.wait=0
    ·have hx0:x.wt=0:=by omega
     have hC:=hS.sI (os:=a.os) (os':=r.os) (hs.take hx0) hS.os;rw[gS hl]at hC;obtain⟨μ1,I1,iT,hF,hbk⟩:=hB.aem;refine(UR hF hx (hs.al.trans hal) aen hx0).mono fun e w' he=>?_;obtain⟨A,cA,μ2,nb,rfl,m2,hd,hF2⟩:=he;refine⟨_,true,rfl,?_⟩;obtain⟨μ3,I3,u3,hm3,du,hR3,hD3,hu3,agv⟩:=(hbk μ2 _ _ m2 hF2).abA;obtain⟨xd,hxd,exd⟩:=jA hu3 hy;have:=Uo du hR3 hD3 hxd (by rw[exd];exact hal) (by rw[exd];exact nH) (by rw[exd];exact hhv) (by rw[exd];omega) (by rw[exd];exact hw);rw[exd,hu3]at this;refine this.mono fun e w3 he=>?_;obtain⟨v,μ4,n4,rfl,m4,V0,Zo⟩:=he;refine⟨_,rfl,?_⟩;exact(Oj (agv μ4 _ _ m4 Zo) (hd.mono (hm3.trans m4)) V0 hs.ba (by omega) hs.dl).mono fun e w5 he=>⟨he.1,_,_,he.2.mono (iT.trans (m2.trans (hm3.trans m4))),hC,ho⟩
    ·have hB':=Cz hK hR gp (fun _=>hhv) (by omega);exact Ol hB hS ho (by
      obtain⟨b,rfl⟩:=p6 aen;exact QI fb bc n _ b bn bk x.wt W (by omega) p1 p2 p4 p7 (by omega)) (Me rb cb 2 cr n _ W r1 hn r2 r3 (by omega) hB')
 ·obtain⟨μ',I',u,hm,hK,hR,hD,hu,_,_⟩:=hB.right;obtain⟨q1,q2,q3⟩:=ez hS hu;exact Ol hB hS ho (Ux fb c W (uh hF sY hc)) (Co rb c W (XL hK hR q1 hc))
end
end Go.Proofs.YtnjccbnlmdajkaaGreat
namespace Go.Proofs.YtnjccbnlmdajkaaGreat.C
open Go.Proofs.Tryz renaming prog->U'
open Go.Ev
def rwF:FuncId->List Bool
 |40=>[true]|42=>[true]|_=>[]
def cfg:gD:={rw:=rwF,dat:=fun _=>false,inl:=fun _=>false,roll:=fun _=>8,join:=fun _=>false}
noncomputable def ev(f:FuncId)(args:List AV):Option (List AV):=wq U' cfg f args
noncomputable def lp(f k nr:Nat)(s:Ev.St):Option LR:=lpL U' cfg f k nr s
theorem bH(f:FuncId)(args:List AV):ev f args=fC cfg f args (ig U' cfg (jv U' cfg) (iR U' cfg (jv U' cfg) 5) (kV U' cfg f) f args):=Fy f args
theorem oH(f k nr:Nat)(s:Ev.St):lp f k nr s=je U' cfg (jv U' cfg) (iR U' cfg (jv U' cfg) 5) (kV U' cfg f) (cfg.roll f) (cfg.join f) (nR U' f k).1 (nR U' f k).2 (GQ U' cfg f nr) s:=xk f _ _ _ s
theorem jx:nX U' cfg:=wZ fun _=>rfl
theorem agw(aI:Bool)(aj:List (List AV))(aG:Bool):ev 84 [.ep [.aq aI 1 aj,.v (.bool aG)] 0]=
 cond (true&&(cq 1 (aj.length:Int))) (cond (eE .u64 (cellAt (aw aj 1) 0)) (some [Z' (ai (cellAt (aw aj 1) 0))]) none) none:=(bH _ _).trans (by kernel_rfl)
theorem agx(aI:Bool)(aj:List (List AV))(aG:Bool):ev 40 [.ob 112 [.ow aI 69 1 aj,.v (.bool aG)]]=
 cond (!aG) (some [.v (.bool false),.ob 112 [.ow aI 69 1 aj,.v (.bool aG)]]) ((ev 84 [.ep [.aq aI 1 aj,.v (.bool aG)] 0]).bind fun r1=>
 cond (eE .u64 (cellAt r1 0)) (cond (gr 31 (ai (cellAt r1 0))) (some [.v (.bool false),.ob 112 [.ow aI 69 1 aj,.v (.bool aG)]]) (cond (true&&(cq 1 ((((List.length aj)-0):Nat):Int))) (cond ((Lk 1 (List.length aj))&&(eE .u64 (cellAt (aw aj 1) 0))) (cond (true&&(cq 1 ((((List.length aj)-0):Nat):Int))) (cond (Lk 1 (List.length aj)) (some [.v (.bool true),.ob 112 [.ow aI 69 1 (List.set aj 1 [Z' (IntKind.wrap .u64 ((ai (cellAt (aw aj 1) 0))+1))]),.v (.bool false)]]) none) none) none) none)) none):=(bH _ _).trans (by kernel_rfl)
theorem agy(aI:Bool)(aj:List (List AV))(aG:Bool):ev 42 [.ob 112 [.ow aI 69 1 aj,.v (.bool aG)]]=
 some [.ob 112 [.ow aI 69 1 aj,.v (.bool true)]]:=(bH _ _).trans (by kernel_rfl)
end Go.Proofs.YtnjccbnlmdajkaaGreat.C
namespace Go.Proofs.YtnjccbnlmdajkaaGreat.B
open Go.Proofs.Tryz renaming prog->U'
open Go.Ev
theorem aeo(aB:Int)(rP:Bool)(ay:List (List AV)):ev 132 [Z' aB,.aq rP 1 ay]=(lp 132 0 0 ⟨[(1,.aq rP 1 ay),(5,Z' (bits .xor .u64 18446744073709551615 aB)),(6,Q' 0)],[]⟩).bind fun r1=>
 cond (nO 0 r1) (cond (dx ⟨[(5,Z' (bits .xor .u64 18446744073709551615 aB))],[]⟩ r1.st) (some [Z' (bits .xor .u64 18446744073709551615 (ai (gK r1.st.fr 0).2))]) none) (cond (sH r1) (some r1.outs) none):=(bH _ _).trans (by kernel_rfl)
theorem Om(N8:Bool)(x1:List (List AV))(x5:Int)(x6:Int):lp 132 0 0 ⟨[(1,.aq N8 1 x1),(5,Z' x5),(6,Q' x6)],[]⟩=
 cond (cq x6 (x1.length:Int)) (cond ((gr 0 x6)&&(cq x6 (x1.length:Int))) (cond (eE .u8 (cellAt (aw x1 x6.toNat) 0)) ((lp 132 1 0 ⟨[(1,.aq N8 1 x1),(5,Z' (bits .xor .u64 x5 (IntKind.wrap .u64 (ai (cellAt (aw x1 x6.toNat) 0))))),(6,Q' x6),(7,Q' 0)],[]⟩).bind fun r8=>
 cond (nO 2 r8) (cond (dx ⟨[(1,.aq N8 1 x1),(5,Z' (bits .xor .u64 x5 (IntKind.wrap .u64 (ai (cellAt (aw x1 x6.toNat) 0))))),(6,Q' x6)],[]⟩ r8.st) (lp 132 0 0 ⟨[(1,.aq (bM (gK r8.st.fr 0).2) 1 (bU (gK r8.st.fr 0).2)),(5,Z' (ai (gK r8.st.fr 1).2)),(6,Q' (IntKind.wrap .i64 ((ai (gK r8.st.fr 2).2)+1)))],[]⟩) none) (cond (sH r8) (some ⟨none,⟨[],[]⟩,r8.outs⟩) none)) none) none) (some ⟨some 0,⟨[(5,Z' x5)],[]⟩,[]⟩):=(oH _ _ _ _).trans (by kernel_rfl)
theorem Oo(N8:Bool)(x1:List (List AV))(x5:Int)(x6:Int)(x7:Int):lp 132 1 0 ⟨[(1,.aq N8 1 x1),(5,Z' x5),(6,Q' x6),(7,Q' x7)],[]⟩=
 cond (cq x7 8) (cond ((bits .and .u64 x5 1)==1) (lp 132 1 0 ⟨[(1,.aq N8 1 x1),(5,Z' (bits .xor .u64 (Int.fdiv x5 2) 14514072000185962306)),(6,Q' x6),(7,Q' (IntKind.wrap .i64 (x7+1)))],[]⟩) (lp 132 1 0 ⟨[(1,.aq N8 1 x1),(5,Z' (Int.fdiv x5 2)),(6,Q' x6),(7,Q' (IntKind.wrap .i64 (x7+1)))],[]⟩)) (some ⟨some 2,⟨[(1,.aq N8 1 x1),(5,Z' x5),(6,Q' x6)],[]⟩,[]⟩):=(oH _ _ _ _).trans (by kernel_rfl)
theorem aep(fN:Bool)(aB:List (List AV)):ev 126 [.aq fN 1 aB]=(ev 132 [Z' 0,.aq fN 1 aB]).bind fun r0=>
 cond (eE .u64 (cellAt r0 0)) (some [Z' (ai (cellAt r0 0))]) none:=(bH _ _).trans (by kernel_rfl)
theorem aeq(aI:Bool)(aj:List (List AV))(aG:Bool):ev 112 [.ep [.aq aI 1 aj,.v (.bool aG)] 0]=
 cond aG ((lp 112 0 0 ⟨[(0,.ep [.aq aI 1 aj,.v (.bool aG)] 0),(4,.sl false 0 0 none),(5,Q' 0)],[⟨1,5,1,false,[[.v (.int .u8 77)],[.v (.int .u8 69)],[.v (.int .u8 77)],[.v (.int .u8 49)],[.v (.int .u8 (IntKind.wrap .u8 (IntKind.wrap .i64 (Int.tdiv (aj.length:Int) 8))))],[.v (.int .u8 (IntKind.wrap .u8 (Int.fdiv (IntKind.wrap .i64 (Int.tdiv (aj.length:Int) 8)) 256)))],[.v (.int .u8 1)]]⟩]⟩).bind fun r7=>
 cond (nO 0 r7) (cond (dx ⟨[(4,.sl false 0 0 none)],[⟨1,5,1,false,[[.v (.int .u8 77)],[.v (.int .u8 69)],[.v (.int .u8 77)],[.v (.int .u8 49)],[.v (.int .u8 (IntKind.wrap .u8 (IntKind.wrap .i64 (Int.tdiv (aj.length:Int) 8))))],[.v (.int .u8 (IntKind.wrap .u8 (Int.fdiv (IntKind.wrap .i64 (Int.tdiv (aj.length:Int) 8)) 256)))],[.v (.int .u8 1)]]⟩]⟩ r7.st) ((ev 126 [.aq (bM (gK r7.st.fr 0).2) 1 (cR r7.st.bl 0).xs]).bind fun BR=>
 cond (eE .u64 (cellAt BR 0)) ((ev 96 [Z' (ai (cellAt BR 0))]).bind fun Vj=>
 cond (lT 5 1 (cellAt Vj 0)) (cond (CQ (((List.length (cR r7.st.bl 0).xs)+(List.length (bU (cellAt Vj 0))))*1) 140737488355328) (some [.ow ((List.isEmpty (bU (cellAt Vj 0)))&&(bM (gK r7.st.fr 0).2)) 5 1 ((cR r7.st.bl 0).xs++(bU (cellAt Vj 0)))]) none) none) none) none) (cond (sH r7) (some r7.outs) none)) ((lp 112 0 0 ⟨[(0,.ep [.aq aI 1 aj,.v (.bool aG)] 0),(4,.sl false 0 0 none),(5,Q' 0)],[⟨1,5,1,false,[[.v (.int .u8 77)],[.v (.int .u8 69)],[.v (.int .u8 77)],[.v (.int .u8 49)],[.v (.int .u8 (IntKind.wrap .u8 (IntKind.wrap .i64 (Int.tdiv (aj.length:Int) 8))))],[.v (.int .u8 (IntKind.wrap .u8 (Int.fdiv (IntKind.wrap .i64 (Int.tdiv (aj.length:Int) 8)) 256)))],[.v (.int .u8 0)]]⟩]⟩).bind fun XZ=>
 cond (nO 0 XZ) (cond (dx ⟨[(4,.sl false 0 0 none)],[⟨1,5,1,false,[[.v (.int .u8 77)],[.v (.int .u8 69)],[.v (.int .u8 77)],[.v (.int .u8 49)],[.v (.int .u8 (IntKind.wrap .u8 (IntKind.wrap .i64 (Int.tdiv (aj.length:Int) 8))))],[.v (.int .u8 (IntKind.wrap .u8 (Int.fdiv (IntKind.wrap .i64 (Int.tdiv (aj.length:Int) 8)) 256)))],[.v (.int .u8 0)]]⟩]⟩ XZ.st) ((ev 126 [.aq (bM (gK XZ.st.fr 0).2) 1 (cR XZ.st.bl 0).xs]).bind fun r21=>
 cond (eE .u64 (cellAt r21 0)) ((ev 96 [Z' (ai (cellAt r21 0))]).bind fun Ej=>
 cond (lT 5 1 (cellAt Ej 0)) (cond (CQ (((List.length (cR XZ.st.bl 0).xs)+(List.length (bU (cellAt Ej 0))))*1) 140737488355328) (some [.ow ((List.isEmpty (bU (cellAt Ej 0)))&&(bM (gK XZ.st.fr 0).2)) 5 1 ((cR XZ.st.bl 0).xs++(bU (cellAt Ej 0)))]) none) none) none) none) (cond (sH XZ) (some XZ.outs) none)):=(bH _ _).trans (by kernel_rfl)
theorem Oq(ZI:Bool)(QP:List (List AV))(aer:Bool)(x4n:Bool)(x5:Int)(b0:List (List AV)):lp 112 0 0 ⟨[(0,.ep [.aq ZI 1 QP,.v (.bool aer)] 0),(4,.sl x4n 0 0 none),(5,Q' x5)],[⟨1,5,1,false,b0⟩]⟩=
 cond (cq x5 (QP.length:Int)) (cond ((gr 0 x5)&&(cq x5 (QP.length:Int))) (cond (eE .u64 (cellAt (aw QP x5.toNat) 0)) ((ev 96 [Z' (ai (cellAt (aw QP x5.toNat) 0))]).bind fun YV=>
 cond (lT 5 1 (cellAt YV 0)) (cond (CQ (((List.length b0)+(List.length (bU (cellAt YV 0))))*1) 140737488355328) (lp 112 0 0 ⟨[(0,.ep [.aq ZI 1 QP,.v (.bool aer)] 0),(4,.sl ((List.isEmpty (bU (cellAt YV 0)))&&x4n) 0 0 none),(5,Q' (IntKind.wrap .i64 (x5+1)))],[⟨1,5,1,false,b0++(bU (cellAt YV 0))⟩]⟩) none) none) none) none) (some ⟨some 0,⟨[(4,.sl x4n 0 0 none)],[⟨1,5,1,false,b0⟩]⟩,[]⟩):=(oH _ _ _ _).trans (by kernel_rfl)
theorem agz(fN:Bool)(aB:List (List AV))(ij:Bool)(lL:List (List AV))(lM:Bool):ev 86 [.aq fN 1 aB,.ep [.aq ij 1 lL,.v (.bool lM)] 0]=
 cond (List.all aB Ev.isByte) ((ev 112 [.ep [.aq ij 1 lL,.v (.bool lM)] 0]).bind fun r1=>
 cond (lT 5 1 (cellAt r1 0)) (cond (List.all (bU (cellAt r1 0)) Ev.isByte) (some [.v (.bool ((ByteArray.toList ⟨(List.map Ev.byteOf aB).toArray⟩)==(ByteArray.toList ⟨(List.map Ev.byteOf (bU (cellAt r1 0))).toArray⟩)))]) none) none) none:=(bH _ _).trans (by kernel_rfl)
theorem agA(aI:Bool)(aj:List (List AV))(aG:Bool)(ij:Bool)(lL:List (List AV))(lM:Bool):ev 46 [.ep [.aq aI 1 aj,.v (.bool aG)] 0,.ep [.aq ij 1 lL,.v (.bool lM)] 0]=(ev 60 [.ep [.aq aI 1 aj,.v (.bool aG)] 0]).bind fun r0=>
 cond (lT 5 1 (cellAt r0 0)) ((ev 86 [.aq (bM (cellAt r0 0)) 1 (bU (cellAt r0 0)),.ep [.aq ij 1 lL,.v (.bool lM)] 0]).bind fun r3=>
 cond (Dp (cellAt r3 0)) (some [.v (.bool (eW (cellAt r3 0)))]) none) none:=(bH _ _).trans (by kernel_rfl)
end Go.Proofs.YtnjccbnlmdajkaaGreat.B
namespace Go.Proofs.YtnjccbnlmdajkaaGreat.B
open Go.Proofs.Tryz renaming prog->U'
open Go.Ev Go.RowKit
attribute [local congr] ek er
set_option maxRecDepth 10000
theorem CH(b:Bool)(xs:List (List AV))(x6:Int):∀(k j r:Nat),j+k=8->r<2^64->
  lp 132 1 0 ⟨[(1,(.aq b 1 xs)),(5,(Z' (r:Int))),(6,(Q' x6)),(7,(Q' (j:Int)))],[]⟩=
   some ⟨some 2,⟨[(1,(.aq b 1 xs)),(5,(Z' (kW k r:Nat))),(6,(Q' x6))],[]⟩,[]⟩
 |0,j,r,hj,hr=>by rw[Oo,aO (by omega)];rfl
 |k+1,j,r,hj,hr=>by
  have ih:=CH b xs x6 k (j+1) (tg r) (by omega) (BM hr);have e1:IntKind.i64.wrap ((j:Int)+1)=((j+1:Nat):Int):=by rw[aD];omega
  have e2:bits .and .u64 (r:Int) 1=((r % 2:Nat):Int):=by
   rw[Ns 1 (by decide) _ 1 (by decide) (by omega) (by omega)];omega
  have e3:Int.fdiv (r:Int) 2=((r/2:Nat):Int):=rD r 2;have e4:bits .xor .u64 ((r/2:Nat):Int) 14514072000185962306=((r/2^^^poly:Nat):Int):=nF (r/2) poly (by omega) Fz;rw[Oo,aT (by omega),e1,e2,e3,e4];simp only[kW];by_cases h:r % 2=1
  all_goals simp_all [kX,ee,eg,oE]
theorem CI(b:Bool)(l:List Nat)(hl:l.length<=1000000)(hb:∀x∈l,x<256):∀(k i r:Nat),i+k=l.length->r<2^64->
  lp 132 0 0 ⟨[(1,(.aq b 1 (lq l))),(5,(Z' (r:Int))),(6,(Q' (i:Int)))],[]⟩=
   some ⟨some 0,⟨[(5,(Z' (FA r (l.drop i):Nat)))],[]⟩,[]⟩
 |0,i,r,hi,hr=>by rw[Om,mf,aO (by omega),List.drop_of_length_le (by omega)];rfl
 |k+1,i,r,hi,hr=>by
  have hlt:i<l.length:=by omega
  have hx:=hb _ (rA l 0 i hlt);have ih:=CI b l hl hb k (i+1) (CM r (l.getD i 0)) (by omega) (Lu hr hx);rw[Om,mf,aT (by omega),cd (by omega),kb,Ny l i hlt,drop_cons l i hlt];generalize l.getD i 0=x at*;have e0:IntKind.u64.wrap (x:Int)=(x:Int):=by rw[IM];omega
  have e4:bits .xor .u64 (r:Int) (x:Int)=((r^^^x:Nat):Int):=nF _ _ hr (zH hx);have e3:IntKind.i64.wrap ((i:Int)+1)=((i+1:Nat):Int):=by rw[aD];omega
  have a:=CH b (lq l) (i:Int) 8 0 (r^^^x) (by omega) (zd hr (zH hx));simp only[bt,bL,vI,gq,me,AD,e0,e4];have e5:kW 8 (r^^^x)=CM r x:=rfl;refine fM a ?_;rw[<-e3]at ih;exact cT rfl (cT rfl ih)
theorem QQ(b:Bool)(s:Nat)(l:List Nat)(hs:s<2^64)(hl:l.length<=1000000)(hb:∀x∈l,x<256):ev 132 [Z' (s:Int),.aq b 1 (lq l)]=some [Z' (vK s l:Nat)]:=by
 have qL:ones^^^s<2^64:=zd sm hs;have e:bits .xor .u64 18446744073709551615 (s:Int)=((ones^^^s:Nat):Int):=nF ones s sm hs;have h:=CI b l hl hb l.length 0 (ones^^^s) (by omega) qL;rw[aeo,e];refine fM h ?_;have e2:bits .xor .u64 18446744073709551615 ((FA (ones^^^s) l:Nat):Int)=((vK s l:Nat):Int):=nF ones _ sm (FB qL hb);show some [Z' (bits .xor .u64 18446744073709551615 ((FA (ones^^^s) l:Nat):Int))]=_;rw[e2]
theorem UT(b:Bool)(l:List Nat)(hl:l.length<=1000000)(hb:∀x∈l,x<256):ev 126 [.aq b 1 (lq l)]=some [Z' (vK 0 l:Nat)]:=by
 rw[aep];exact fM (QQ b 0 l (by decide) hl hb) rfl
theorem Km(w:Int):ev 96 [Z' w]=some [.ow false 5 1 (lq (lit w))]:=by
 have h1:∀n:Int,IntKind.u8.wrap n=(((n % 256).toNat:Nat):Int):=u8m;have f1:Int.fdiv w 1=w:=by grind
 have d:∀(a b:Int),0<=a->0<=b->Int.fdiv (Int.fdiv w a) b=Int.fdiv w (a*b):=fun a b ha hb=>by
  simp_all [Int.fdiv_eq_ediv_of_nonneg,Int.mul_nonneg,Int.ediv_ediv_of_nonneg]
 have hl:lq (lit w)=[[.v (.int .u8 (((w % 256).toNat:Nat):Int))],[.v (.int .u8 (((Int.fdiv w 256 % 256).toNat:Nat):Int))],[.v (.int .u8 (((Int.fdiv w 65536 % 256).toNat:Nat):Int))],[.v (.int .u8 (((Int.fdiv w 16777216 % 256).toNat:Nat):Int))],[.v (.int .u8 (((Int.fdiv w 4294967296 % 256).toNat:Nat):Int))],[.v (.int .u8 (((Int.fdiv w 1099511627776 % 256).toNat:Nat):Int))],[.v (.int .u8 (((Int.fdiv w 281474976710656 % 256).toNat:Nat):Int))],[.v (.int .u8 (((Int.fdiv w 72057594037927936 % 256).toNat:Nat):Int))]]:=by
  show lq (byI 8 w)=_;simp only[byI,lq,bt,B5,List.map_nil];simp_all
 have h:ev 96 [Z' w]=some [.ow false 5 1 [[.v (.int .u8 (IntKind.u8.wrap (Int.fdiv w 1)))],[.v (.int .u8 (IntKind.u8.wrap (Int.fdiv w 256)))],[.v (.int .u8 (IntKind.u8.wrap (Int.fdiv w 65536)))],[.v (.int .u8 (IntKind.u8.wrap (Int.fdiv w 16777216)))],[.v (.int .u8 (IntKind.u8.wrap (Int.fdiv w 4294967296)))],[.v (.int .u8 (IntKind.u8.wrap (Int.fdiv w 1099511627776)))],[.v (.int .u8 (IntKind.u8.wrap (Int.fdiv w 281474976710656)))],[.v (.int .u8 (IntKind.u8.wrap (Int.fdiv w 72057594037927936)))]]]:=aal (n:=12) (by kernel_rfl);grind
theorem CJ(b up:Bool)(ws:List Int)(l:List Nat)(hl:ws.length<=100000)(hk:l.length<=100):∀(k i:Nat),i+k=ws.length->
  lp 112 0 0 ⟨[(0,(.ep [(.aq b 1 (ws.map wr)),(.v (.bool up))] 0)),(4,(.sl false 0 0 none)),(5,(Q' (i:Int)))],[⟨1,5,1,false,lq (l++Gu (ws.take i))⟩]⟩=
   some ⟨some 0,⟨[(4,(.sl false 0 0 none))],[⟨1,5,1,false,lq (l++Gu ws)⟩]⟩,[]⟩
 |0,i,hi=>by
  grind [Oq,List.length_map,aO,List.take_of_length_le]
 |k+1,i,hi=>by
  have ih:=CJ b up ws l hl hk k (i+1) (by omega);have hlt:i<ws.length:=by omega
  have e1:IntKind.i64.wrap ((i:Int)+1)=((i+1:Nat):Int):=by rw[aD];omega
  have a:=Km (ws.getD i 0);have e2:lq (l++Gu (ws.take i))++lq (lit (ws.getD i 0))=lq (l++Gu (ws.take (i+1))):=by
   rw[Oe,fh,<-Kl,<-CG ws i hlt]
  have e3:CQ (((lq (l++Gu (ws.take i))).length+(lq (lit (ws.getD i 0))).length)*1) 140737488355328=true:=vJ (by
   rw[mf,mf,ec,zW,uv,Gv];omega)
  rw[<-e2,<-e1]at ih;rw[Oq,ab,aT (by omega),cd (by omega),kb,xq ws i hlt];exact cT rfl (cT rfl (cT rfl (fM a (cT rfl (cT e3 ih)))))
theorem UU(b:Bool)(ws:List Int)(up:Bool)(hl:ws.length<=100000):ev 112 [.ep [.aq b 1 (ws.map wr),.v (.bool up)] 0]=some [.ow false 5 1 (lq (img ws up))]:=by
 have e0:IntKind.i64.wrap (Int.tdiv (ws.length:Int) 8)=((ws.length/8:Nat):Int):=by rw[fU _ _ (by omega),aD];omega
 have e1:IntKind.u8.wrap ((ws.length/8:Nat):Int)=((ws.length/8 % 256:Nat):Int):=by rw[Lj];rfl
 have e2:Int.fdiv ((ws.length/8:Nat):Int) 256=((ws.length/8/256:Nat):Int):=rD _ 256;have e3:IntKind.u8.wrap ((ws.length/8/256:Nat):Int)=((ws.length/8/256 % 256:Nat):Int):=by rw[Lj];rfl
 rw[aeq,ab,e0,e1,e2,e3];have fin:∀up:Bool,(ev 126 [.aq false 1 (lq (pre ws up))])=some [Z' (vK 0 (pre ws up):Nat)]:=fun up=>UT false _ (by rw[zX];omega) (UN ws up);have UO:∀up:Bool,ev 96 [Z' (vK 0 (pre ws up):Nat)]=some [.ow false 5 1 (lq (lit ((vK 0 (pre ws up):Nat):Int)))]:=fun up=>Km _;have aes:∀up:Bool,CQ (((lq (pre ws up)).length+(lq (lit ((vK 0 (pre ws up):Nat):Int))).length)*1) 140737488355328=true:=fun up=>vJ (by rw[mf,mf,zX,Gv];omega);have aet:∀up:Bool,lq (pre ws up)++lq (lit ((vK 0 (pre ws up):Nat):Int))=lq (img ws up):=fun up=>Oe _ _;cases up with
 |false=>
  have ZH:=CJ b false ws (CO (ws.length/8) false) hl (show 7<=100 by decide) ws.length 0 (by omega);rw[show lq (CO (ws.length/8) false++Gu (ws.take 0))=[[.v (.int .u8 77)],[.v (.int .u8 69)],[.v (.int .u8 77)],[.v (.int .u8 49)],[.v (.int .u8 ((ws.length/8 % 256:Nat):Int))],[.v (.int .u8 ((ws.length/8/256 % 256:Nat):Int))],[.v (.int .u8 0)]]from rfl]at ZH;rw[<-aet];refine cF rfl (fM (a:=⟨some 0,⟨[(4,(.sl false 0 0 none))],[⟨1,5,1,false,lq (pre ws false)⟩]⟩,[]⟩) ZH ?_);refine cT rfl (cT rfl ?_);refine fM (fin false) (cT rfl ?_);refine fM (UO false) (cT rfl ?_);exact cT (aes false) rfl
 |true=>
  have ZH:=CJ b true ws (CO (ws.length/8) true) hl (show 7<=100 by decide) ws.length 0 (by omega);rw[show lq (CO (ws.length/8) true++Gu (ws.take 0))=[[.v (.int .u8 77)],[.v (.int .u8 69)],[.v (.int .u8 77)],[.v (.int .u8 49)],[.v (.int .u8 ((ws.length/8 % 256:Nat):Int))],[.v (.int .u8 ((ws.length/8/256 % 256:Nat):Int))],[.v (.int .u8 1)]]from rfl]at ZH;rw[<-aet];refine cT rfl (fM (a:=⟨some 0,⟨[(4,(.sl false 0 0 none))],[⟨1,5,1,false,lq (pre ws true)⟩]⟩,[]⟩) ZH ?_);refine cT rfl (cT rfl ?_);refine fM (fin true) (cT rfl ?_);refine fM (UO true) (cT rfl ?_);exact cT (aes true) rfl
theorem CL(b:Bool)(ws:List Int)(dn:Bool)(hl:ws.length<=100000):ev 46 [YS ws dn,.ep [.aq b 1 (ws.map wr),.v (.bool (!dn))] 0]=some [.v (.bool true)]:=by
 have h86:ev 86 [.aq false 1 (lq (img ws (!dn))),.ep [.aq b 1 (ws.map wr),.v (.bool (!dn))] 0]=some [.v (.bool true)]:=by
  rw[agz];refine cT (Od _) (fM (UU b ws (!dn) hl) (cT rfl (cT (Od _) ?_)));show some [AV.v (Value.bool (ByteArray.toList ⟨(List.map Ev.byteOf (lq (img ws !dn))).toArray⟩==ByteArray.toList ⟨(List.map Ev.byteOf (lq (img ws !dn))).toArray⟩))]=_;rw[AM]
 unfold YS;rw[agA];exact fM (XW ws dn hl) (cT rfl (fM h86 (cT rfl rfl)))
end Go.Proofs.YtnjccbnlmdajkaaGreat.B
namespace Go.Proofs.YtnjccbnlmdajkaaGreat
open Go.Proofs.Tryz renaming prog->U'
open Go.RowKit Go.Shelf Go.Lib Go.Ev
set_option maxRecDepth 100000
theorem X0(n:qm)(hl:1<n.ws.length):C.ev 40 [.ob 112 (sL n)]=some [.v (.bool n.back.1),.ob 112 (sL n.back.2)]:=by
 have hg:aw (n.ws.map wr) 1=[Z' (n.ws.getD 1 0)]:=xq n.ws 1 hl;have h84:C.ev 84 [.ep [.aq false 1 (n.ws.map wr),.v (.bool n.dn)] 0]=some [Z' (n.ws.getD 1 0)]:=by
  rw[C.agw,ab,hg];exact cT (by rw[aT (by omega)];rfl) (cT rfl rfl)
 unfold sL qm.back;rw[C.agx];cases hd:n.dn with
 |false=>
  grind
 |true=>
  rw[hd]at h84;refine cF rfl (fM h84 (cT rfl ?_));by_cases hx:31<=n.ws.getD 1 0
  ·simp_all [ee,cT,cd]
  ·rw[eg (by grind)];have hL:cq 1 ((((n.ws.map wr).length-0:Nat)):Int)=true:=aT (by rw[ab];omega);have hN:Lk 1 (n.ws.map wr).length=true:=by rw[ab];exact BH hl
   refine cF (gE (show n.ws.getD 1 0<31 by omega)) (cT (by rw[hL];rfl) (cT ?_ (cT (by rw[hL];rfl) (cT hN ?_))))
   ·rw[hN,hg];rfl
   ·rw[hg];show some [AV.v (.bool true),AV.ob 112 [.ow false 69 1 ((n.ws.map wr).set 1 _),.v (.bool false)]]=some [_,AV.ob 112 [.ow false 69 1 ((n.ws.set 1 _).map wr),.v (.bool false)]];rw[ahl];rfl
theorem X1(n:qm):C.ev 42 [.ob 112 (sL n)]=some [.ob 112 (sL ⟨n.ws,true⟩)]:=by
 unfold sL;rw[C.agy]
theorem abC:U'.funcs[40]?=some Tryz.f40:=by kernel_rfl
theorem abD:U'.funcs[42]?=some Tryz.f42:=by kernel_rfl
theorem UW:U'.funcs[46]?=some Tryz.f46:=by kernel_rfl
theorem oz(n:qm):n.back.2.ws.length=n.ws.length:=by
 unfold qm.back;grind
variable{w0 W:World}{μ:Mu}{I:Ky->Option ag}{fb rb k:Nat}{a:mV}{r:gP}
structure Nd2(w0:World)(μ:Mu)(I:Ky->Option ag)(fb rb k i nb kE nc:Nat)(W:World):Prop where
 c:W.cell? ⟨rb,1,none⟩=some (.slice (some ⟨kE,0,none⟩) 2 nc)
 nd:Calls U' 39 #[ptr fb,.int .i64 (i:Int)] W fun e w'=>e=.returned (ptr nb)/\w'=W
 bk:Calls U' 40 #[ptr nb] W fun e w'=> ∃v:Bool,e=.returned (.bool v)/\∀w2,ar [] w' w2->w2.cell? ⟨rb,1,none⟩=some (.slice (some ⟨kE,0,none⟩) 2 nc)/\
  Calls U' 41 #[.pointer (some ⟨kE,i*2,none⟩)] w2 fun e w3=>e=.returned (.bool v)/\w3.cell? ⟨rb,1,none⟩=some (.slice (some ⟨kE,0,none⟩) 2 nc)/\JS w0 μ I fb rb k w3
 fl:Calls U' 42 #[ptr nb] W fun e w'=>e=.returned (.tuple #[])/\w'.cell? ⟨rb,1,none⟩=some (.slice (some ⟨kE,0,none⟩) 2 nc)/\∃w2,St w' kE (i*2+1) (.bool false) w2/\JS w0 μ I fb rb k w2
 same:Calls U' 46 #[ptr nb,.pointer (some ⟨kE,i*2,none⟩)] W fun e w'=>e=.returned (.bool true)/\JS w0 μ I fb rb k w'
theorem UX(h:JS w0 μ I fb rb k W){i:Nat}(hi:i<2):∃nb kE nc,∀w1,ar [] W w1->Nd2 w0 μ I fb rb k i nb kE nc w1:=by
 obtain⟨a,r,hB,hS,ho⟩:=h;obtain⟨nd,ha,hr,hw⟩:=hS.abn hi;obtain⟨μ',I',s,u,hm,hK0,hR,rfl,hQ,hD,rfl,hf⟩:=hB;obtain⟨n,hn,rfl⟩:=bF ha;obtain⟨rn,Jz,Vw⟩:=bF hr;obtain⟨F,hIn⟩:=hR.dG i n hn;obtain⟨kE,nc,lk,hIr⟩:=Row.at hQ.gO Jz;have hl2:u.nd.length=2:=nL ((rj List.length hS.nd).symm.trans hS.n2);have hl1:s.nd.length=2:=nL hS.n2;rw[hl2]at lk;refine⟨n.b,kE,nc,fun w1 hk=>?_⟩;have hK:=hK0.bw hk;have cS:∀{ν:Mu} {J:Ky->Option ag} {w:World},az w0 ν J w->J (2,.cM)=I' (2,.cM)->w.cell? ⟨rb,1,none⟩=some (.slice (some ⟨kE,0,none⟩) 2 nc):=fun{ν J w} hK e=>by
  obtain⟨G,hG⟩:=hQ.cM;have:=hK.cell (e.trans hG) (j:=1) rfl;rwa [lk]at this
 refine⟨cS hK rfl,?_,?_,?_,?_⟩
 ·obtain⟨bn,cn,e,_,hp⟩:=hR.PN hK hn;have:=hR.c1 hK;grind [EB]
 ·have hev:C.ev 40 (.ob 112 (sL n.a)::[])=some ([.v (.bool n.a.back.1)]++[.ob 112 (sL n.a.back.2)]):=X0 n.a (by omega);refine(hK.SN mix C.jx hIn (vs:=[]) .nil hev abC (by kernel_rfl)).mono fun e w' he=>?_;obtain⟨us,μ2,F1,G1,F',rfl,hb,m2,bq,_⟩:=he;obtain⟨rfl,_⟩:= @dM _ _ [] [] [.bool n.a.back.1] _ _ _ hb;refine⟨n.a.back.1,rfl,fun w2 hk2=>?_⟩;have du:=bq.bw hk2;refine⟨cS du (ae _ _ (by simp)),?_⟩;have hQ3:eM 2 (put I' (1,.dG i) (some (bG n.b F' 112 (sL n.a.back.2)))) rb u:=hQ.of fun k _=>ae _ _ (by simp);refine(Up du hQ3 (hD.mono m2) Jz lk (by rw[Vw];omega)).mono fun e w3 he=>?_;obtain⟨rfl,hst,hcl⟩:=he;rw[Vw]at hst⊢;refine⟨rfl,hcl,{s.a with nd:=s.a.nd.set i n.a.back.2},{u.a with nd:=u.a.nd.set i n.a.back.2},?_,hS.Uv (by rw[oz];exact hw),ho⟩;obtain⟨μ4,I4,u4,m4,eX,hQ4,hD4,e4,f4⟩:=hst;have ux:ji 1 (put I' (1,.dG i) (some (bG n.b F' 112 (sL n.a.back.2)))) fb {s with nd:=s.nd.set i ⟨n.b,n.a.back.2⟩}:=hR.node hn (fun k g1 g2=>ae _ _ (aa g1)) (af _ _ _);refine⟨μ4,I4,_,u4,hm.trans (m2.trans m4),eX,ux.of fun k _=>f4 (1,k) (by simp),?_,hQ4,hD4,e4,fun k k1 k2=>(f4 k k2).trans ((ae _ _ fun e=>k1 (by rw[e])).trans (hf k k1 k2))⟩;unfold gN.a;simp only[aF]
 ·have hev:C.ev 42 (.ob 112 (sL n.a)::[])=some ([]++[.ob 112 (sL ⟨n.a.ws,true⟩)]):=X1 n.a;refine(hK.SN mix C.jx hIn (vs:=[]) .nil hev abD (by kernel_rfl)).mono fun e w' he=>?_;obtain⟨us,μ2,F1,G1,F',rfl,hb,m2,bq,_⟩:=he;obtain⟨rfl,_⟩:= @dM _ _ [] [] [] _ _ _ hb;refine⟨rfl,cS bq (ae _ _ (by simp)),?_⟩;have agB:put I' (1,.dG i) (some (bG n.b F' 112 (sL ⟨n.a.ws,true⟩))) (2,.gO)=some (aE kE nc 61 2 (u.nd.map qE.row)):=(ae _ _ (by simp)).trans hIr;obtain⟨w2,st,du⟩:=bq.Ku agB (get_map Jz) (j:=1) rfl (by omega) (a:=.v (.bool false)) (v:=.bool false) (.v rfl);refine⟨w2,st,{s.a with nd:=s.a.nd.set i ⟨n.a.ws,true⟩},{u.a with nd:=u.a.nd.set i ⟨n.a.ws,true⟩},?_,hS.Uv hw,ho⟩;have ux:ji 1 (put (put I' (1,.dG i) (some (bG n.b F' 112 (sL ⟨n.a.ws,true⟩)))) (2,.gO) (some (aE kE nc 61 2 ((u.nd.map qE.row).set i (rn.row.set 1 (.v (.bool false))))))) fb {s with nd:=s.nd.set i ⟨n.b,⟨n.a.ws,true⟩⟩}:=hR.node hn (fun k g1 g2=>(ae _ _ (by simp)).trans (ae _ _ (aa g1))) ((ae _ _ (by simp)).trans (af _ _ _));have agC:(u.nd.map qE.row).set i (rn.row.set 1 (.v (.bool false)))=(u.nd.set i ⟨rn.wv,⟨n.a.ws,true⟩⟩).map qE.row:=by rw[aF];rfl
  rw[agC]at ux du;have hQ2:=hQ.ac5 (n':=⟨rn.wv,⟨n.a.ws,true⟩⟩) (J:=put (put I' (1,.dG i) (some (bG n.b F' 112 (sL ⟨n.a.ws,true⟩)))) (2,.gO) (some (aE kE nc 61 2 ((u.nd.set i ⟨rn.wv,⟨n.a.ws,true⟩⟩).map qE.row)))) Jz (fun k g1 g2 g3=>(ae _ _ (aa g1)).trans (ae _ _ (by simp)))
   (.inr ⟨kE,nc,by grind,af _ _ _⟩) ((by rw[<-Vw];exact hQ.dG i rn Jz:Row I' (2,.dG i) rn.wv 69 1 (n.a.ws.map wr)).same ((ae _ _ (by simp)).trans (ae _ _ (by simp))))
  refine⟨μ2,_,_,_,hm.trans m2,du,ux,?_,hQ2,⟨(hD.mono m2).ln,(hD.mono m2).os⟩,?_,fun k k1 k2=>(ae _ _ fun e=>k2 (by rw[e])).trans ((ae _ _ fun e=>k1 (by rw[e])).trans (hf k k1 k2))⟩
  ·unfold gN.a;simp only[aF]
  ·unfold gm.a;simp only[aF]
 ·have hd1:DR (Go.Ev.hf w1) (YS n.a.ws n.a.dn) (ptr n.b):=B1.Ab hK.gj (hK.ok _ _ hIn);obtain⟨wb,cw,Q4,PX⟩:=wh (hQ.dG i rn Jz) (i:=0) (by rw[Vw];omega);obtain⟨_,_,_,_,_,_,k5,_⟩:=hK.row PX;rw[ab]at k5;have q0:=hK.aL hIr (get_map Jz) (j:=0) rfl;have q1:=hK.aL hIr (get_map Jz) (j:=1) rfl;have qw:DR (Go.Ev.hf w1) (.aq false 1 (n.a.ws.map wr)) rn.wv:=by
   rw[Q4,show rn.a.ws.length=(n.a.ws.map wr).length by rw[Vw,ab]];refine .aq (fun k _=>.int .u64 (n.a.ws.getD k 0)) rfl (fun e=>by cases e) (by grind) (fun e he=>by obtain⟨x,_,rfl⟩:=pw.1 he;rfl) (fun a ha k j hk hj=>?_) fun k e j x he hx=>?_
   ·cases ha;obtain rfl:j=0:=by omega
    rw[ab]at hk;have hg:rn.a.ws[k]?=some (n.a.ws.getD k 0):=by grind
    have:=hK.aL PX (get_map hg) (j:=0) rfl;rw[vp,gv];exact this
   ·rw[et]at he;cases hg:n.a.ws[k]? with
    |none=>rw[hg]at he;cases he
    |some y=>
     rw[hg]at he;cases he;cases j with
     |zero=>cases hx;show DR _ _ (.int .u64 (n.a.ws.getD k 0));rw[kc,hg];exact .v rfl
     |succ j=>cases hx
  have hd3:DR (Go.Ev.hf w1) (.ep [.aq false 1 (n.a.ws.map wr),.v (.bool (!n.a.dn))] 0) (.pointer (some ⟨kE,i*2,none⟩)):=by
   refine .ep (o:=i*2) (fun j=>if j=0 then rn.wv else .bool (!n.a.dn)) (fun j hj=>?_) fun j x hx=>?_
   ·match j,hj with
    |0,_=>exact q0
    |1,_=>show w1.cell? ⟨kE,i*2+1,none⟩=some (.bool (!n.a.dn));rw[<-Vw];exact q1
   ·match j with
    |0=>cases hx;exact qw
    |1=>cases hx;exact .v rfl
    |j+2=>cases hx
  refine(hK.Ab mix B.jx (B.CL false n.a.ws n.a.dn (by omega)) UW (vals:=[ptr n.b,.pointer (some ⟨kE,i*2,none⟩)]) (.cons (F:=[]) (F':=[]) (G:=[]) (G':=[]) (.o (.c (.d hd1))) (.cons (F:=[]) (F':=[]) (G:=[]) (G':=[]) (.o (.c (.d hd3))) .nil))).mono fun e w' he=>?_;obtain⟨vs,μ2,F1,G1,rfl,bq,_,_,hb,_⟩:=he;obtain⟨rfl,_⟩:= @dM _ _ [] [] [.bool true] _ _ _ hb;exact⟨rfl,s.a,u.a,⟨μ',I',s,u,hm,bq,hR,rfl,hQ,hD,rfl,hf⟩,hS,ho⟩
