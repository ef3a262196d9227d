/- The reference's execute: the contract. -/
import Derived.Test.YtnjccbnlmdajkaaGreatRg
import Derived.Test.YtnjccbnlmdajkaaGreatExW
import Derived.Test.YtnjccbnlmdajkaaGreatEv13
set_option linter.all false
namespace Go.Proofs.YtnjccbnlmdajkaaGreat
open Go.Proofs.Tryz renaming prog->U'
open Go.RowKit Go.Shelf Go.Lib Go.Ev
set_option maxRecDepth 100000
variable{kp:Ky}{i:Nat}
section
variable{w0 W:World}{μ:Mu}{I:Ky->Option ag}{t fb:Nat}{s:gm}
theorem mP(W:World)(o:Obj):(W.alloc o).heap.size=W.heap.size+1:=Array.size_push ..
theorem Jy{ws ys:List Int}{a:Nat}{y:Int}(hy:ys[i]?=some y)(h:a+ys.length<=ws.length):(iI ws a (ys.take i)).set (a+i) y=iI ws a (ys.take (i+1)):=by
 have hi:=aV hy;have l1:(ws.take a).length=a:=by grind
 have l2:(ys.take i).length=i:=by grind
 have l3:(ys.take (i+1)).length=i+1:=by grind
 have hl:(ws.take a++ys.take i).length=a+i:=by grind
 have ha:a+i<ws.length:=by omega
 unfold iI;rw[l2,l3,Hi _ _ (by omega),hl,Hh,C7 ha,my,On,hy];grind
theorem LX(ws:List Int)(a:Nat):iI ws a []=ws:=by
 unfold iI;simp_all
theorem aaM{hp:HF}{v:Vb}{A:Option Addr}{c:Nat}(hd:DR μ (.aq v.wn 1 (v.ws.map wr)) (.slice A v.ws.length c)):nB μ hp [] v.row (aJ v.kind v.node v.at_ v.n v.old v.new A v.ws.length c v.key v.aS).toList:=
 .cons (F:=[]) (F':=[]) (.d (.v rfl)) (.cons (F:=[]) (F':=[]) (.d (.v rfl)) (.cons (F:=[]) (F':=[]) (.d (.v rfl)) (.cons (F:=[]) (F':=[]) (.d (.v rfl)) (.cons (F:=[]) (F':=[]) (.d (.v rfl)) (.cons (F:=[]) (F':=[]) (.d (.v rfl)) (.cons (F:=[]) (F':=[]) (.d hd) (.cons (F:=[]) (F':=[]) (.d (.v rfl)) (.cons (F:=[]) (F':=[]) (.d (.v rfl)) .nil))))))))
theorem i69:∃Inf:TypeInfo,U'.info? 69=some Inf/\Inf.zero=some (.int .u64 0)/\Inf.size=1/\Inf.bytes=8:=info_parts (by kernel_rfl)
theorem u59:U'.underlying 59=some (.slice 69):=by kernel_rfl
def ExK(t j:Nat)(w0:World)(μ:Mu)(I:Ky->Option ag)(wv:Value)(out mem:List Int)(r:Value)(w':World):Prop:=
 ∃(A:Option Addr) (c:Nat) (zn:Bool) (μ':Mu) (J:Ky->Option ag),r=.slice A out.length c/\ak μ μ'/\az w0 μ' J w'/\DR μ' (.aq zn 1 (out.map wr)) r/\(zn=true->out=[])/\Row J (t,.dG j) wv 69 1 (mem.map wr)/\
  ∀k,k≠(t,.dG j)->k≠(t,.tmp 10)->k≠(t,.tmp 11)->k≠(t,.tmp 12)->J k=I k
theorem Ti{ws:List Int}{x:Int}(h:ws[i]?=some x):(ws.map wr)[i]?=some [Z' x]:=get_map h
set_option maxHeartbeats 2000000 in
theorem WL(hK:az w0 μ I W)(hR:eM t I fb s){j:Nat}{n:qE}(hn:s.nd[j]?=some n){nb nn nc:Nat}(lk:s.nv=.slice (some ⟨nb,0,none⟩) nn nc){v:Vb}{pa pn:Nat}(hf:v.Fits ((pa:Int),(pn:Int)) n.a.ws.length)(hl:n.a.ws.length<=100000)
  {WA:Option Addr} {wc:Nat} (hd:DR μ (.aq v.wn 1 (v.ws.map wr)) (.slice WA v.ws.length wc)):
  Calls U' 110 #[.pointer (some ⟨nb,j*2,none⟩),.agg (aJ v.kind v.node v.at_ v.n v.old v.new WA v.ws.length wc v.key v.aS),.agg #[.int .i64 (pa:Int),.int .i64 (pn:Int)]] W
   fun e w'=> ∃r,e=.returned r/\ExK t j w0 μ I n.wv (v.out ((pa:Int),(pn:Int)) n.a.ws) (v.mem ((pa:Int),(pn:Int)) n.a.ws) r w':=by
 obtain⟨f1,f2,f3,f4,⟨f5,f6⟩,f7,f8⟩:=hf;simp only at f1 f2 f3 f4;obtain⟨qA,ac9⟩:∃m:Nat,v.at_=m:=⟨v.at_.toNat,by omega⟩;have Ei:(n.a.ws.map wr)≠[]:=fun e=>by
  have:=rj List.length e;grind
 obtain⟨wb,cw,Q4,PX⟩:=(hR.dG j n hn).ne Ei;rw[ab]at Q4;obtain⟨_,_,Ce,hIn⟩:=Row.at hR.gO hn;rw[lk]at Ce;cases Ce;obtain⟨Inf,i1,i2,i3,i4⟩:=i69;obtain⟨cur,fz,k1,k2,k3,k4,k5,k6⟩:=hK.row PX;have hnw:n.a.ws.length<=cw:=by grind
 obtain⟨W1,hW1⟩:∃W1,W.alloc (.cells (aJ v.kind v.node v.at_ v.n v.old v.new WA v.ws.length wc v.key v.aS) 71)=W1:=⟨_,rfl⟩;have hK1:=hK.alloc (t,.tmp 10) (ty:=71) (aaM hd);rw[hW1]at hK1;have hs1:W1.heap.size=W.heap.size+1:=by rw[<-hW1];exact mP _ _
 obtain⟨W2,Tj⟩:∃W2,W1.alloc (.cells #[.int .i64 (pa:Int),.int .i64 (pn:Int)] 165)=W2:=⟨_,rfl⟩;have bq:=hK1.alloc (t,.tmp 11) (cs:=[Q' (pa:Int),Q' (pn:Int)]) (cur:= #[.int .i64 (pa:Int),.int .i64 (pn:Int)]) (ty:=165) (.cons (F:=[]) (F':=[]) (.d (.v rfl)) (.cons (F:=[]) (F':=[]) (.d (.v rfl)) .nil));rw[Tj,hs1]at bq;obtain⟨I2,kJ⟩:∃I2,I2=put (put I (t,.tmp 10) (some (bG W.heap.size [W.heap.size] 71 v.row))) (t,.tmp 11) (some (bG (W.heap.size+1) [W.heap.size+1] 165 [.v (.int .i64 (pa:Int)),.v (.int .i64 (pn:Int))])):=⟨_,rfl⟩;rw[<-kJ]at bq;have Tl:I2 (t,.tmp 10)=some (bG W.heap.size [W.heap.size] 71 v.row):=by simp_all [ae,aa,af]
 have ada:I2 (t,.tmp 11)=some (bG (W.heap.size+1) [W.heap.size+1] 165 [Q' (pa:Int),Q' (pn:Int)]):=by rw[kJ,af]
 have hoth:∀k,k≠(t,.tmp 10)->k≠(t,.tmp 11)->I2 k=I k:=fun k g1 g2=>by rw[kJ,ae _ _ g2,ae _ _ g1]
 have WM:I2 (t,.gO)=_:=(hoth (t,.gO) (aa fun e=>by cases e) (aa fun e=>by cases e)).trans hIn;have WN:I2 (t,.dG j)=_:=(hoth (t,.dG j) (aa fun e=>by cases e) (aa fun e=>by cases e)).trans PX;have Jz:(s.nd.map qE.row)[j]?=some n.row:=get_map hn;have cB:∀{μ':Mu} {J:Ky->Option ag} {W':World},az w0 μ' J W'->J (t,.gO)=I2 (t,.gO)->W'.cell? ⟨nb,j*2,none⟩=some (.slice (some ⟨wb,0,none⟩) n.a.ws.length cw):=fun{μ' J W'} hk e=>by
  have:=hk.aL (e.trans WM) Jz (j:=0) rfl;rwa [Q4]at this
 have cP0:∀{μ':Mu} {J:Ky->Option ag} {W':World},az w0 μ' J W'->J (t,.tmp 11)=I2 (t,.tmp 11)->W'.cell? ⟨W.heap.size+1,0,none⟩=some (.int .i64 (pa:Int)):=fun hk e=>hk.cell (e.trans ada) rfl;have cP1:∀{μ':Mu} {J:Ky->Option ag} {W':World},az w0 μ' J W'->J (t,.tmp 11)=I2 (t,.tmp 11)->W'.cell? ⟨W.heap.size+1,1,none⟩=some (.int .i64 (pn:Int)):=fun hk e=>hk.cell (e.trans ada) rfl;obtain⟨es,hes⟩:∃es,es=((n.a.ws.drop pa).take pn):=⟨_,rfl⟩;have hel:es.length=pn:=by grind
 have hsrc:nY μ W2.drew 1 (es.map wr) (.slice (some ⟨wb,pa,none⟩) pn (cw-pa)):=by
  have:=bq.drew.Wu WN pa pn (cw-pa) (by rw[ab];omega);simp_all
 obtain⟨v',W3,y,D,hap,du,hrow,hkD,hD⟩:=bq.drew.YN (P:=U') (k:=(t,.tmp 12)) (v:=.slice none 0 0) (T:=69) (sz:=1) (xs:=[]) (.inl ⟨rfl,rfl⟩) u59 i1 i2 i3 (by omega) (by omega) rfl (by omega) (by simp) (by rw[ab];omega) hsrc;rw[ly]at hrow;obtain⟨xb,xc,hv',qC⟩:=hrow.ne (fun e=>by
  have:=rj List.length e;grind)
 rw[ab,hel]at hv';subst hv';obtain⟨I3,adb⟩:∃I3,I3=put I2 (t,.tmp 12) y:=⟨_,rfl⟩;rw[<-adb]at du hrow qC;have NF:∀k,k≠(t,.tmp 12)->I3 k=I2 k:=fun k g=>by rw[adb,ae _ _ g]
 have hoI:∀k,k≠(t,.tmp 10)->k≠(t,.tmp 11)->k≠(t,.tmp 12)->I3 k=I k:=fun k g1 g2 g3=>(NF k g3).trans (hoth k g1 g2);have ade:I3 (t,.dG j)=_:=(NF (t,.dG j) (aa fun e=>by cases e)).trans WN;have JA:I3 (t,.tmp 11)=I2 (t,.tmp 11):=NF _ (aa fun e=>by cases e);have Eo:I3 (t,.tmp 10)=I2 (t,.tmp 10):=NF _ (aa fun e=>by cases e);have end_:I3 (t,.gO)=I2 (t,.gO):=NF _ (aa fun e=>by cases e);have R7:∀{W':World} {mem:List Int} {J:Ky->Option ag},az w0 μ J W'->J (t,.tmp 12)=I3 (t,.tmp 12)->Row J (t,.dG j) n.wv 69 1 (mem.map wr)->(∀k,k≠(t,.dG j)->k≠(t,.tmp 10)->k≠(t,.tmp 11)->k≠(t,.tmp 12)->J k=I k)->ExK t j w0 μ I n.wv es mem (.slice (some ⟨xb,0,none⟩) pn xc) W':=fun{W' mem J} hk e hr ho=>by
  obtain⟨μ',zn,hm,hK',CO,hzn⟩:=hk.Lz (hrow.same e);refine⟨_,xc,zn,μ',_,by rw[hel],hm,hK',CO,fun h=>by
   grind,hr.same (ae _ _ (aa fun e=>by cases e)),fun k g1 g2 g3 g4=>(ae _ _ g4).trans (ho k g1 g2 g3 g4)⟩
 have hk:=Vb.kinds f5;have hvc:∀k:v.kind=3\/v.kind=4,v.cnt=1:=fun k=>by unfold Vb.cnt lK;grind
 have afz:Row I3 (t,.dG j) n.wv 69 1 (n.a.ws.map wr):=.inr ⟨wb,cw,by grind,ade⟩;have fst:∀k:v.kind=3\/v.kind=4,pa=qA/\pn=1:=fun k=>by
  have:=hvc k;omega
 have WO:∀k:v.kind=3\/v.kind=4,∀{J:Ky->Option ag} {W':World},az w0 μ J W'->J (t,.gO)=I2 (t,.gO)->J (t,.tmp 11)=I2 (t,.tmp 11)->J (t,.tmp 10)=I2 (t,.tmp 10)->J (t,.tmp 12)=I3 (t,.tmp 12)->Q3 nb (j*2) wb n.a.ws.length cw W.heap.size xb pa (n.a.ws.getD qA 0) v.old v.new W':=fun k {J W'} hk g1 g2 g3 g4=>by
  obtain⟨h1,h2⟩:=fst k;have hx:es[0]?=some (n.a.ws.getD qA 0):=by
   grind
  have:=hk.aL (g4.trans qC) (Ti hx) (j:=0) rfl;exact⟨cB hk g1,cP0 hk g2,this,hk.cell (g3.trans Tl) rfl,hk.cell (g3.trans Tl) rfl⟩
 have LY:∀k:v.kind=3\/v.kind=4,v.out ((pa:Int),(pn:Int)) n.a.ws=es:=fun k=>by
  obtain⟨h1,h2⟩:=fst k;unfold Vb.out;rw[eg (by omega),eg (by omega),hes,h1,h2,ac9,kb,C7 (by omega),kc,ao (by omega)];rfl
 have hat:∀k:v.kind=3\/v.kind=4,(n.a.ws.map wr)[pa]?=some (wr (n.a.ws.getD qA 0)):=fun k=>by
  grind
 have hput:∀k:v.kind=3\/v.kind=4,∀{W':World} {x:Int},az w0 μ I3 W'->∃W4,St W' wb pa (.int .u64 x) W4/\Q3 nb (j*2) wb n.a.ws.length cw W.heap.size xb pa (n.a.ws.getD qA 0) v.old v.new W4/\ExK t j w0 μ I n.wv es (n.a.ws.set qA x) (.slice (some ⟨xb,0,none⟩) pn xc) W4:=fun k {W' x} hk'=>by
  obtain⟨h1,h2⟩:=fst k;obtain⟨W4,hst,eX⟩:=hk'.Ku ade (hat k) (j:=0) (u:=Z' (n.a.ws.getD qA 0)) rfl (by omega) (a:=Z' x) (v:=.int .u64 x) (.v rfl);rw[oe,na]at hst;have hset:(n.a.ws.map wr).set pa ((wr (n.a.ws.getD qA 0)).set 0 (Z' x))=(n.a.ws.set qA x).map wr:=by
   rw[<-BQ,h1];rfl
  rw[hset]at eX;refine⟨W4,hst,WO k eX ((ae _ _ (aa fun e=>by cases e)).trans end_) ((ae _ _ (aa fun e=>by cases e)).trans JA) ((ae _ _ (aa fun e=>by cases e)).trans Eo) (ae _ _ (aa fun e=>by cases e)),?_⟩;refine R7 eX (ae _ _ (aa fun e=>by cases e)) (.inr ⟨wb,cw,by grind,af _ _ _⟩) fun k g1 g2 g3 g4=>(ae _ _ g1).trans (hoI k g2 g3 g4)
 have qw:W2=(W.alloc (.cells (aJ v.kind v.node v.at_ v.n v.old v.new WA v.ws.length wc v.key v.aS) 71)).alloc (.cells #[.int .i64 (pa:Int),.int .i64 (pn:Int)] 165):=by rw[<-Tj,<-hW1]
 refine PW nb (j*2) wb n.a.ws.length cw pa pn v.ws.length wc pn xc v.kind v.node v.at_ v.n v.old v.new v.key v.aS WA (some ⟨xb,0,none⟩) W W3
  (fun i W'=>az w0 μ (put I3 (t,.dG j) (some (aE wb cw 69 1 ((iI n.a.ws pa (((v.ws.drop (pa-qA)).take pn).take i)).map wr)))) W') _ ⟨by omega,hnw,hl,by omega⟩ ?_ ?_ ?_ ?_ ⟨cB du end_,cP0 du JA,cP1 du JA⟩ (du.cell (Eo.trans Tl) (j:=0) rfl) ⟨fun h1=>?_,fun h2=>⟨?_,fun i W' hJ=>?_,fun i W' hi hJ=>?_,fun W' hJ=>?_⟩,fun h3=>?_,fun h4=>?_⟩ hk
 ·rw[<-qw];exact cB bq.drew rfl
 ·rw[<-qw];exact cP0 bq.drew rfl
 ·rw[<-qw];exact cP1 bq.drew rfl
 ·rw[<-qw];exact hap
 ·rw[show v.out ((pa:Int),(pn:Int)) n.a.ws=es by unfold Vb.out;rw[ee h1,hes];rfl,show v.mem ((pa:Int),(pn:Int)) n.a.ws=n.a.ws by unfold Vb.mem;rw[ee h1]];grind
 ·grind [LX,oG]
 ·grind [ae,aa]
 ·--a word is written
  have hcw:v.cnt=v.ws.length:=by unfold Vb.cnt lK;grind
  have hne:v.ws.map wr≠[]:=fun e=>by
   have:=rj List.length e;grind
  obtain⟨sv,WQ,hd6⟩:=hJ.drew.YJ ((ae _ _ (aa fun e=>by cases e)).trans (Eo.trans Tl)) (j:=6) rfl;obtain⟨vb,vo,vc,e,hcl⟩:=cU hd6 hJ.drew.gj (by omega) hne;rw[ab]at e;subst e;have hyl:((v.ws.drop (pa-qA)).take pn).length=pn:=by rw[uv,xf];omega
  have Y8:pa-qA+i<v.ws.length:=by omega
  have hy:((v.ws.drop (pa-qA)).take pn)[i]?=some v.ws[pa-qA+i]:=by
   grind
  have hy':(v.ws.map wr)[pa-qA+i]?=some (wr v.ws[pa-qA+i]):=by grind
  have Pm:∀{J:Ky->Option ag} {W':World},az w0 μ J W'->J (t,.gO)=I2 (t,.gO)->J (t,.tmp 11)=I2 (t,.tmp 11)->J (t,.tmp 10)=I2 (t,.tmp 10)->W'.cell? ⟨W.heap.size,6,none⟩=some (.slice (some ⟨vb,vo,none⟩) v.ws.length vc)->ExS nb (j*2) wb n.a.ws.length cw W.heap.size pa v.at_ vb vo v.ws.length vc (pa-qA+i) v.ws[pa-qA+i] W':=fun{J W'} hk g1 g2 g3 g4=>by
   obtain⟨_,_,_,e,hcl⟩:=cU hd6 hk.gj (by omega) hne;rw[ab]at e;cases e;obtain⟨x,hx,hdx⟩:=hcl _ 0 _ _ hy' rfl;rw[jq hdx,oe,na]at hx;exact⟨cB hk g1,cP0 hk g2,g4,hk.cell (g3.trans Tl) rfl,hx⟩
  have hsl:(iI n.a.ws pa (((v.ws.drop (pa-qA)).take pn).take i)).length=n.a.ws.length:=ud _ _ _ (by grind);have hz:∃z,(iI n.a.ws pa (((v.ws.drop (pa-qA)).take pn).take i))[pa+i]?=some z:=⟨_,ao (by omega)⟩;obtain⟨z,hz⟩:=hz;obtain⟨W4,hst,eX⟩:=hJ.drew.Ku (af _ _ _) (Ti hz) (j:=0) rfl (by omega) (a:=.v (.int .u64 v.ws[pa-qA+i])) (v:=.int .u64 v.ws[pa-qA+i]) (.v rfl);rw[oe,na]at hst;have hset:((iI n.a.ws pa (((v.ws.drop (pa-qA)).take pn).take i)).map wr).set (pa+i) ([Z' z].set 0 (.v (.int .u64 v.ws[pa-qA+i])))=(iI n.a.ws pa (((v.ws.drop (pa-qA)).take pn).take (i+1))).map wr:=by
   rw[<-Jy hy (by rw[hyl];omega),<-BQ];rfl
  rw[hset,aK]at eX;have afA:W4.cell? ⟨W.heap.size,6,none⟩=some (.slice (some ⟨vb,vo,none⟩) v.ws.length vc):=by
   obtain⟨_,_,e⟩:=hst;grind [oD,kI]
  refine⟨vb,vo,v.ws.length,vc,pa-qA+i,v.ws[pa-qA+i],W4,Pm hJ.drew ((ae _ _ (aa fun e=>by cases e)).trans end_) ((ae _ _ (aa fun e=>by cases e)).trans JA) ((ae _ _ (aa fun e=>by cases e)).trans Eo) WQ,
   by omega,Y8,by omega,by omega,by omega,by omega,hst,Pm eX ((ae _ _ (aa fun e=>by cases e)).trans end_) ((ae _ _ (aa fun e=>by cases e)).trans JA) ((ae _ _ (aa fun e=>by cases e)).trans Eo) afA,eX⟩
 ·have hyl:((v.ws.drop (pa-qA)).take pn).length=pn:=by
   have hcw:v.cnt=v.ws.length:=by unfold Vb.cnt lK;grind
   grind
  rw[yi (by omega)]at hJ;rw[show v.out ((pa:Int),(pn:Int)) n.a.ws=[] by unfold Vb.out;grind,show v.mem ((pa:Int),(pn:Int)) n.a.ws=iI n.a.ws pa ((v.ws.drop (pa-qA)).take pn) by
   unfold Vb.mem;rw[eg (by omega),ee h2,ac9,kb,kb,show((pa:Int)-(qA:Int)).toNat=pa-qA by omega]]
  refine⟨none,0,true,μ,_,rfl,ak.refl _,hJ,gM,fun _=>rfl,.inr ⟨wb,cw,?_,af _ _ _⟩,fun k g1 g2 g3 g4=>(ae _ _ g1).trans (hoI k g2 g3 g4)⟩;grind [List.length_map,ud]
 ·obtain⟨h1,h2⟩:=fst (.inl h3);refine⟨xb,n.a.ws.getD qA 0,rfl,by omega,by omega,WO (.inl h3) du.drew end_ JA Eo rfl,WO (.inl h3) du.drew.drew end_ JA Eo rfl,fun hy=>?_,fun hy=>?_⟩
  ·obtain⟨W4,g1,g2,g3⟩:=hput (.inl h3) (x:=v.new) du.drew.drew;refine⟨W4,g1,g2,?_⟩;rw[LY (.inl h3),show v.mem ((pa:Int),(pn:Int)) n.a.ws=n.a.ws.set qA v.new by unfold Vb.mem;simp_all];exact g3
  ·rw[LY (.inl h3),show v.mem ((pa:Int),(pn:Int)) n.a.ws=n.a.ws by unfold Vb.mem;simp_all];exact R7 du.drew rfl afz fun k g1 g2 g3 g4=>hoI k g2 g3 g4
 ·obtain⟨h1,h2⟩:=fst (.inr h4);obtain⟨W4,g1,g2,g3⟩:=hput (.inr h4) (x:=IntKind.u64.wrap (n.a.ws.getD qA 0+v.new)) du.drew;refine⟨xb,n.a.ws.getD qA 0,W4,rfl,by omega,by omega,WO (.inr h4) du.drew end_ JA Eo rfl,g1,g2,?_⟩;rw[LY (.inr h4),show v.mem ((pa:Int),(pn:Int)) n.a.ws=n.a.ws.set qA (IntKind.u64.wrap (n.a.ws.getD qA 0+v.new)) by unfold Vb.mem;simp_all];exact g3
end
section
attribute [local go_sem] Oper.semAt_some
theorem NN:∃fs,U'.underlying 81=some (.struct fs):=by
 have h:(match U'.underlying 81 with|some (.struct _)=>true|_=>false)=true:=by kernel_rfl
 revert h;generalize U'.underlying 81=x;intro h
 match x,h with
 |some (.struct fs),_=>exact⟨fs,rfl⟩
theorem dU{P:Program}{fn:Func}{p u v x:Tmp}{ty:TypeId}(h:fn.results= #[.cell p ty,.tmp u,.tmp v,.tmp x])(tmps:Array Value)(w:World)(g:Nat)(t:TypeId)(cs:Array Value)(fr:Nat×Nat)(d:TypeDesc)
  (hp:tmps.getD p undef=.pointer (some ⟨g,0,none⟩)) (hg:w.heap[g]?=some (.cells cs t fr))
  (hu:P.underlying ty=some d) (hd:(match d with| .struct _| .array _ _=>true|_=>false)=true) (hi:(P.info? ty).map (·.size)=some cs.size):
  (results fn tmps).run P w=.ok (.tuple #[.agg cs,tmps.getD u undef,tmps.getD v undef,tmps.getD x undef]) w:=by
 have hp':tmps[p]?.getD undef=.pointer (some ⟨g,0,none⟩):=by simpa using hp
 simp[results,h,hp',asAddr,run_loadVar_row w g t ty cs fr d hg hu hd hi]
set_option maxHeartbeats 8000000 in
set_option maxRecDepth 1000000 in
theorem PY(b o nb no qc:Nat)(QA:Option Addr)(W:World)(h1:W.cell? ⟨b,o+3,none⟩=some (.slice QA 0 qc)):
  Calls U' 80 #[.pointer (some ⟨b,o,none⟩),.pointer (some ⟨nb,no,none⟩)] W fun e w'=>e=.returned (.tuple #[.agg #[.int .i64 0,.slice none 0 0],.int .i64 (-1),.bool false,.bool false])/\w'=W.alloc (.cells #[.int .i64 0,.slice none 0 0] 81):=by
 have mixed:U'.follows .mixedOrders=true:=by kernel_rfl
 have f1:(W.alloc (.cells #[.int .i64 0,.slice none 0 0] 81)).cell? ⟨b,o+3,none⟩=some (.slice QA 0 qc):=(ar.alloc W _).cell h1 (by simp);obtain⟨fs,hu⟩:=NN
 go_enter Tryz.func80,Tryz.ntmps80
 go_wp2
 exact pB (dU rfl _ _ W.heap.size 81 _ (0,0) _ rfl (Ev.aZ W _) hu rfl (by kernel_rfl)) rfl ⟨rfl,rfl⟩
set_option maxHeartbeats 8000000 in
set_option maxRecDepth 1000000 in
theorem Ep(b o wb nw cw i:Nat)(x:Int)(W:World)(h1:W.cell? ⟨b,o,none⟩=some (.slice (some ⟨wb,0,none⟩) nw cw))(hi:i<nw)(h2:W.cell? ⟨wb,i,none⟩=some (.int .u64 x)):
  Calls U' 107 #[.pointer (some ⟨b,o,none⟩),.int .i64 (i:Int)] W fun e w'=>e=.returned (.int .u64 x)/\w'=W:=by
 have mixed:U'.follows .mixedOrders=true:=by kernel_rfl
 have h3:¬((i:Int)<0):=by omega
 have h4:¬((nw:Int)<=(i:Int)):=by omega
 have h5:(i:Int)<(nw:Int):=by omega
 go_enter Tryz.func107,Tryz.ntmps107
 go_wp2
 go_ret
 exact⟨rfl,rfl⟩
set_option maxHeartbeats 8000000 in
set_option maxRecDepth 1000000 in
theorem NP(c:Int)(W:World)(hc:0<=c/\c<6):
  Calls U' 108 #[.int .i64 c] W fun e w'=>e=.returned (.int .i64 (24+c))/\w'=W:=by
 have mixed:U'.follows .mixedOrders=true:=by kernel_rfl
 obtain⟨h1,h2⟩:=hc;have h3:IntKind.i64.wrap (24+c)=24+c:=by rw[aD];omega
 go_enter Tryz.func108,Tryz.ntmps108
 go_wp2
 go_ret
 exact⟨by rw[<-h3];rfl,rfl⟩
end
section
attribute [local go_sem] Oper.semAt_some
abbrev rsV(code:Int)(RA:Option Addr)(rl rc:Nat)(slot:Int)(done ok:Bool):Value:=.tuple #[.agg #[.int .i64 code,.slice RA rl rc],.int .i64 slot,.bool done,.bool ok]
def FV(W:World)(b o:Nat)(kd nd at_ n old nw:Int)(A:Option Addr)(l c:Nat)(key bt ex:Int)(XA:Option Addr)(xl xc:Nat)(slot:Int):Prop:=
 W.cell? ⟨b,o,none⟩=some (.int .i64 kd)/\W.cell? ⟨b,o+1,none⟩=some (.int .i64 nd)/\W.cell? ⟨b,o+2,none⟩=some (.int .i64 at_)/\W.cell? ⟨b,o+3,none⟩=some (.int .i64 n)/\W.cell? ⟨b,o+4,none⟩=some (.int .u64 old)/\
 W.cell? ⟨b,o+5,none⟩=some (.int .u64 nw)/\W.cell? ⟨b,o+6,none⟩=some (.slice A l c)/\W.cell? ⟨b,o+7,none⟩=some (.int .u64 key)/\W.cell? ⟨b,o+8,none⟩=some (.int .i64 bt)/\W.cell? ⟨b,o+9,none⟩=some (.int .i64 ex)/\W.cell? ⟨b,o+10,none⟩=some (.slice XA xl xc)/\W.cell? ⟨b,o+11,none⟩=some (.int .i64 slot)
def Tm(b o n0 n1 qb qo ql qc:Nat)(code slot:Int)(w:World)(K:Value->World->Prop):Prop:=
 w.cell? ⟨b,o+3,none⟩=some (.slice (some ⟨qb,qo,none⟩) ql qc)/\∀so,(so=qo+12/\qc≠1\/so=qo/\qc=1)->∃(A:Option Addr) (l c:Nat) (w1 w2 w3 w4:World),
  Hid (∀ty,(Builtin.append_ #[108,108] ty #[.slice none 0 0,.slice (some ⟨qb,so,none⟩) (ql-1) (qc-1)]).run U' w=.ok (.slice A l c) w1)/\St w1 b (o+3) (.slice A l c) w2/\w2.drew.cell? ⟨n1,11,none⟩=some (.int .i64 slot)/\
  St w2.drew n0 0 (.int .i64 code) w3/\St w3 n0 1 (.slice none 0 0) w4/\w4.cell? ⟨n1,11,none⟩=some (.int .i64 slot)/\w4.heap[n0]?=some (.cells #[.int .i64 code,.slice none 0 0] 81 (0,0))/\K (rsV code none 0 0 slot true true) w4
abbrev Vn(W:World)(kd nd at_ n old nw:Int)(WA:Option Addr)(wl wc:Nat)(key bt ex:Int)(XA:Option Addr)(xl xc:Nat)(slot:Int):World:=(W.alloc (.cells #[.int .i64 0,.slice none 0 0] 81)).alloc (.cells (jl kd nd at_ n old nw WA wl wc key bt ex XA xl xc slot) 149)
set_option maxHeartbeats 8000000 in
set_option maxRecDepth 1000000 in
theorem LZ(b o nb no qb qo ql qc:Nat)(kd nd at_ n old nw key bt ex slot:Int)(WA XA:Option Addr)(wl wc xl xc:Nat)(W:World)(K:Value->World->Prop)(hq:0<ql)(hqc:ql<=qc)
  (h1:(W.alloc (.cells #[.int .i64 0,.slice none 0 0] 81)).cell? ⟨b,o+3,none⟩=some (.slice (some ⟨qb,qo,none⟩) ql qc))
  (hQ:FV (W.alloc (.cells #[.int .i64 0,.slice none 0 0] 81)) qb qo kd nd at_ n old nw WA wl wc key bt ex XA xl xc slot)
  (hup:(Vn W kd nd at_ n old nw WA wl wc key bt ex XA xl xc slot).cell? ⟨nb,no+1,none⟩=some (.bool false))
  (hE:Tm b o W.heap.size (W.heap.size+1) qb qo ql qc 4 slot (Vn W kd nd at_ n old nw WA wl wc key bt ex XA xl xc slot) K):
  Calls U' 80 #[.pointer (some ⟨b,o,none⟩),.pointer (some ⟨nb,no,none⟩)] W fun e w'=> ∃v,e=.returned v/\K v w':=by
 have mixed:U'.follows .mixedOrders=true:=by kernel_rfl
 have Y5:(0:Int)<(ql:Int):=by omega
 have adf:(1:Int)<=(ql:Int):=by omega
 have adg:(ql:Int)<=(qc:Int):=by omega
 have hb:((ql:Int)==0)=false:=oE.2 (by omega);obtain⟨c0,c1,c2,c3,c4,c5,c6,c7,c8,c9,V2,c11⟩:=hQ;obtain⟨fs,hu⟩:=NN;obtain⟨e1,hE⟩:=hE;by_cases RG:qc=1
 ·subst RG;obtain rfl:ql=1:=by omega
  obtain⟨A,l,c,w1,w2,w3,w4,hap,⟨f0,⟨y0,g0⟩,q0⟩,s0,⟨f1,⟨y1,g1⟩,q1⟩,⟨f2,⟨y2,g2⟩,q2⟩,s1,hH,hK⟩:=hE qo (.inr ⟨rfl,rfl⟩);have hap:Hid (∀ty,(Builtin.append_ #[108,108] ty #[.slice none 0 0,.slice (some ⟨qb,qo,none⟩) 0 0]).run U' (Vn W kd nd at_ n old nw WA wl wc key bt ex XA xl xc slot)=.ok (.slice A l c) w1):=hap;clear hE
  go_enter Tryz.func80,Tryz.ntmps80
  go_wp2_with (at_builtin;refine Lib.wpList_append_run _ rfl _ _ _ _ rfl _ _ rfl rfl _ _ (hap.out _) ?_)
  go_region_held3 (fun w'=>w'.cell? ⟨W.heap.size+1,11,none⟩=some (.int .i64 slot)) (first|exact s0|exact s1) (first|fail)
  go_wp2
  exact pB (dU (u:=5) (v:=6) (x:=7) rfl _ _ W.heap.size 81 _ (0,0) _ rfl hH hu rfl (by kernel_rfl)) rfl ⟨_,rfl,hK⟩
 ·obtain⟨A,l,c,w1,w2,w3,w4,hap,⟨f0,⟨y0,g0⟩,q0⟩,s0,⟨f1,⟨y1,g1⟩,q1⟩,⟨f2,⟨y2,g2⟩,q2⟩,s1,hH,hK⟩:=hE (qo+12) (.inl ⟨rfl,RG⟩);clear hE
  go_enter Tryz.func80,Tryz.ntmps80
  go_wp2_with (at_builtin;refine Lib.wpList_append_run _ rfl _ _ _ _ rfl _ _ rfl rfl _ _ (hap.out _) ?_)
  go_region_held3 (fun w'=>w'.cell? ⟨W.heap.size+1,11,none⟩=some (.int .i64 slot)) (first|exact s0|exact s1) (first|fail)
  go_wp2
  exact pB (dU (u:=5) (v:=6) (x:=7) rfl _ _ W.heap.size 81 _ (0,0) _ rfl hH hu rfl (by kernel_rfl)) rfl ⟨_,rfl,hK⟩
end
section
attribute [local go_sem] Oper.semAt_some
def Rs8(n1 nb no wb nw cw:Nat)(kd nd at_ n old iO:Int)(WA:Option Addr)(wl wc:Nat)(key bt:Int)(w:World):Prop:=Ju w n1 kd nd at_ n old iO WA wl wc key bt/\w.cell? ⟨nb,no,none⟩=some (.slice (some ⟨wb,0,none⟩) nw cw)
def Rs5(n1 b o:Nat)(kd nd at_ n old iO:Int)(WA:Option Addr)(wl wc:Nat)(key bt cl inc:Int)(w:World):Prop:=Ju w n1 kd nd at_ n old iO WA wl wc key bt/\w.cell? ⟨b,o+1,none⟩=some (.int .i64 inc)/\w.cell? ⟨b,o,none⟩=some (.int .i64 cl)
def Tn(n1 b o nb no wb nw cw:Nat)(kd nd at_ n old iO:Int)(WA:Option Addr)(wl wc:Nat)(key bt cl inc x1 x2 x3:Int)(w:World)(R:Int->World->Prop):Prop:=
 Rs8 n1 nb no wb nw cw kd nd at_ n old iO WA wl wc key bt w.drew/\
 Calls U' 78 #[.agg (aJ kd nd at_ n old iO WA wl wc key bt),.int .i64 5,.int .i64 (IntKind.i64.wrap ((nw:Int)/8))] w.drew fun e w2=>e=.returned (.int .i64 0)/\Rs8 n1 nb no wb nw cw kd nd at_ n old iO WA wl wc key bt w2/\
  Rs5 n1 b o kd nd at_ n old iO WA wl wc key bt cl inc w2.drew/\w2.drew.cell? ⟨nb,no,none⟩=some (.slice (some ⟨wb,0,none⟩) nw cw)/\w2.drew.cell? ⟨wb,(24+cl).toNat,none⟩=some (.int .u64 x1)/\w2.drew.cell? ⟨wb,0,none⟩=some (.int .u64 x2)/\w2.drew.cell? ⟨wb,1,none⟩=some (.int .u64 x3)/\
  Calls U' 106 #[.agg (aJ kd nd at_ n old iO WA wl wc key bt),.int .i64 inc,.int .u64 x1,.int .u64 x2,.int .u64 x3] w2.drew fun e w3=> ∃code,e=.returned (.int .i64 code)/\Rs5 n1 b o kd nd at_ n old iO WA wl wc key bt cl inc w3/\R code w3
set_option maxHeartbeats 2000000 in
set_option maxRecDepth 1000000 in
theorem PZ(b o nb no qb qo ql qc wb nw cw:Nat)(kd nd at_ n old iO key bt ex slot cl inc x1 x2 x3:Int)(WA XA:Option Addr)(wl wc xl xc:Nat)(W:World)(K:Value->World->Prop)(hq:0<ql)(hqc:ql<=qc)(hcl:0<=cl/\cl<6)(hnw:32<=nw)
  (h1:(W.alloc (.cells #[.int .i64 0,.slice none 0 0] 81)).cell? ⟨b,o+3,none⟩=some (.slice (some ⟨qb,qo,none⟩) ql qc))
  (hQ:FV (W.alloc (.cells #[.int .i64 0,.slice none 0 0] 81)) qb qo kd nd at_ n old iO WA wl wc key bt ex XA xl xc slot)
  (hup:(Vn W kd nd at_ n old iO WA wl wc key bt ex XA xl xc slot).cell? ⟨nb,no+1,none⟩=some (.bool true))
  (hE:Tn (W.heap.size+1) b o nb no wb nw cw kd nd at_ n old iO WA wl wc key bt cl inc x1 x2 x3 (Vn W kd nd at_ n old iO WA wl wc key bt ex XA xl xc slot) fun code w=>code≠0/\Tm b o W.heap.size (W.heap.size+1) qb qo ql qc code slot w K):
  Calls U' 80 #[.pointer (some ⟨b,o,none⟩),.pointer (some ⟨nb,no,none⟩)] W fun e w'=> ∃v,e=.returned v/\K v w':=by
 have mixed:U'.follows .mixedOrders=true:=by kernel_rfl
 have Y5:(0:Int)<(ql:Int):=by omega
 have adf:(1:Int)<=(ql:Int):=by omega
 have adg:(ql:Int)<=(qc:Int):=by omega
 have hb:((ql:Int)==0)=false:=oE.2 (by omega);obtain⟨c0,c1,c2,c3,c4,c5,c6,c7,c8,c9,V2,c11⟩:=hQ;obtain⟨fs,hu⟩:=NN;obtain⟨⟨⟨v0,v1,v2,v3,v4,v5,v6,v7,v8⟩,v9⟩,hcall⟩:=hE;have NQ:=fun w=>NP cl w hcl
 go_enter Tryz.func80,Tryz.ntmps80
 go_wp2
 have g8:Rs8 (W.heap.size+1) nb no wb nw cw kd nd at_ n old iO WA wl wc key bt (Vn W kd nd at_ n old iO WA wl wc key bt ex XA xl xc slot).drew:=⟨⟨v0,v1,v2,v3,v4,v5,v6,v7,v8⟩,v9⟩;obtain⟨⟨u0,u1,u2,u3,u4,u5,u6,u7,u8⟩,u9⟩:=g8
 go_region_held3 (fun w'=>w'.cell? ⟨W.heap.size+1,0,none⟩=some (.int .i64 kd)/\w'.cell? ⟨W.heap.size+1,1,none⟩=some (.int .i64 nd)/\w'.cell? ⟨W.heap.size+1,2,none⟩=some (.int .i64 at_)/\w'.cell? ⟨W.heap.size+1,3,none⟩=some (.int .i64 n)/\w'.cell? ⟨W.heap.size+1,4,none⟩=some (.int .u64 old)/\w'.cell? ⟨W.heap.size+1,5,none⟩=some (.int .u64 iO)/\w'.cell? ⟨W.heap.size+1,6,none⟩=some (.slice WA wl wc)/\w'.cell? ⟨W.heap.size+1,7,none⟩=some (.int .u64 key)/\w'.cell? ⟨W.heap.size+1,8,none⟩=some (.int .i64 bt)/\w'.cell? ⟨nb,no,none⟩=some (.slice (some ⟨wb,0,none⟩) nw cw))
  (first|exact⟨v0,v1,v2,v3,v4,v5,v6,v7,v8,v9⟩|exact⟨z0,z1,z2,z3,z4,z5,z6,z7,z8,z9⟩)
  (first|(go_at_call 78;refine da hcall ?_;clear hcall;rintro e w2 ⟨rfl,⟨⟨z0,z1,z2,z3,z4,z5,z6,z7,z8⟩,z9⟩,⟨⟨y0,y1,y2,y3,y4,y5,y6,y7,y8⟩,y9,y10⟩,a0,a1,a2,a3,rH⟩))
 clear v0 v1 v2 v3 v4 v5 v6 v7 v8 v9 u0 u1 u2 u3 u4 u5 u6 u7 u8 u9 z0 z1 z2 z3 z4 z5 z6 z7 z8 z9;have Tp:Calls U' 107 #[.pointer (some ⟨nb,no,none⟩),.int .i64 (24+cl)] w2.drew fun e w'=>e=.returned (.int .u64 x1)/\w'=w2.drew:=by
  have:=Ep nb no wb nw cw (24+cl).toNat x1 w2.drew a0 (by omega) a1;rwa [show(((24+cl).toNat:Nat):Int)=24+cl by omega]at this
 have Tq:Calls U' 107 #[.pointer (some ⟨nb,no,none⟩),.int .i64 0] w2.drew fun e w'=>e=.returned (.int .u64 x2)/\w'=w2.drew:=Ep nb no wb nw cw 0 x2 w2.drew a0 (by omega) a2;have Tr:Calls U' 107 #[.pointer (some ⟨nb,no,none⟩),.int .i64 1] w2.drew fun e w'=>e=.returned (.int .u64 x3)/\w'=w2.drew:=Ep nb no wb nw cw 1 x3 w2.drew a0 (by omega) a3;clear a0 a1 a2 a3 hnw
 go_wp2
 go_region_held3 (fun w'=>w'.cell? ⟨W.heap.size+1,0,none⟩=some (.int .i64 kd)/\w'.cell? ⟨W.heap.size+1,1,none⟩=some (.int .i64 nd)/\w'.cell? ⟨W.heap.size+1,2,none⟩=some (.int .i64 at_)/\w'.cell? ⟨W.heap.size+1,3,none⟩=some (.int .i64 n)/\w'.cell? ⟨W.heap.size+1,4,none⟩=some (.int .u64 old)/\w'.cell? ⟨W.heap.size+1,5,none⟩=some (.int .u64 iO)/\w'.cell? ⟨W.heap.size+1,6,none⟩=some (.slice WA wl wc)/\w'.cell? ⟨W.heap.size+1,7,none⟩=some (.int .u64 key)/\w'.cell? ⟨W.heap.size+1,8,none⟩=some (.int .i64 bt)/\w'.cell? ⟨b,o+1,none⟩=some (.int .i64 inc)/\w'.cell? ⟨b,o,none⟩=some (.int .i64 cl))
  (first|exact⟨y0,y1,y2,y3,y4,y5,y6,y7,y8,y9,y10⟩|exact⟨t0,t1,t2,t3,t4,t5,t6,t7,t8,t9,t10⟩)
  (first|(go_at_call 108;refine da (NQ _) ?_;rintro e w' ⟨rfl,hw⟩;rw[hw];clear hw)|(go_at_call 107;refine da Tp ?_;clear Tp;rintro e w' ⟨rfl,hw⟩;rw[hw];clear hw)|(go_at_call 107;refine da Tq ?_;clear Tq;rintro e w' ⟨rfl,hw⟩;rw[hw];clear hw)|(go_at_call 107;refine da Tr ?_;clear Tr;rintro e w' ⟨rfl,hw⟩;rw[hw];clear hw)|
   (go_at_call 106;refine da rH ?_;clear rH;rintro e w3 ⟨code,rfl,⟨⟨t0,t1,t2,t3,t4,t5,t6,t7,t8⟩,t9,t10⟩,hne,e1,hE⟩))
 clear y0 y1 y2 y3 y4 y5 y6 y7 y8 y9 y10 t0 t1 t2 t3 t4 t5 t6 t7 t8 t9 t10;have NI:(code !=0)=true:=by simpa using hne
 by_cases RG:qc=1
 ·subst RG;obtain rfl:ql=1:=by omega
  obtain⟨A,l,c,w1,w2,w3',w4,hap,⟨f0,⟨y0,g0⟩,q0⟩,s0,⟨f1,⟨y1,g1⟩,q1⟩,⟨f2,⟨y2,g2⟩,q2⟩,s1,hH,hK⟩:=hE qo (.inr ⟨rfl,rfl⟩);have hap:Hid (∀ty,(Builtin.append_ #[108,108] ty #[.slice none 0 0,.slice (some ⟨qb,qo,none⟩) 0 0]).run U' w3=.ok (.slice A l c) w1):=hap;clear hE
  go_wp2_with (at_builtin;refine Lib.wpList_append_run _ rfl _ _ _ _ rfl _ _ rfl rfl _ _ (hap.out _) ?_)
  go_region_held3 (fun w'=>w'.cell? ⟨W.heap.size+1,11,none⟩=some (.int .i64 slot)) (first|exact s0|exact s1) (first|fail)
  go_wp2
  exact pB (dU (u:=5) (v:=6) (x:=7) rfl _ _ W.heap.size 81 _ (0,0) _ rfl hH hu rfl (by kernel_rfl)) rfl ⟨_,rfl,hK⟩
 ·obtain⟨A,l,c,w1,w2,w3',w4,hap,⟨f0,⟨y0,g0⟩,q0⟩,s0,⟨f1,⟨y1,g1⟩,q1⟩,⟨f2,⟨y2,g2⟩,q2⟩,s1,hH,hK⟩:=hE (qo+12) (.inl ⟨rfl,RG⟩);clear hE
  go_wp2_with (at_builtin;refine Lib.wpList_append_run _ rfl _ _ _ _ rfl _ _ rfl rfl _ _ (hap.out _) ?_)
  go_region_held3 (fun w'=>w'.cell? ⟨W.heap.size+1,11,none⟩=some (.int .i64 slot)) (first|exact s0|exact s1) (first|fail)
  go_wp2
  exact pB (dU (u:=5) (v:=6) (x:=7) rfl _ _ W.heap.size 81 _ (0,0) _ rfl hH hu rfl (by kernel_rfl)) rfl ⟨_,rfl,hK⟩
end
section
attribute [local go_sem] Oper.semAt_some
theorem Cf{P:Program}{ops:Array Oper}{o:Oper}{a:Act}{w:World}{K:Act->World->Prop}{Q:Exit->Act->World->Prop}{E:Prop}
  (hg : o.guard = none) (f : FuncId) (xs : Array Operand) (ts : Array TypeId) (hop : o.op = Op.call { callee := Callee.value (.func f), args := xs, argTypes := ts }) (vals : Array Value) (hv : xs.map a.eval = vals) {R : Ending -> World -> Prop} (hc : Calls P f vals w R) {fn : Func} (hfn : P.funcs[f]? = some fn) (hn : (fn.name == "runtime.NumGoroutine") = false) (hb : fn.body.isSome = true)
  (hK:∀e w',R e w'->∃v,e=.returned v/\K (a.put o.dst v) w'):if Region.wanted o (yielded ops a.tmps)=true then Oper.wp P o a w K Q else E:=by
 have hw:Region.wanted o (yielded ops a.tmps)=true:=by simp[Region.wanted,hg]
 rw[ee hw];unfold Oper.wp;have he:(execOp a.eval o).run P w=.ok (.enter f vals) w:=by
  have hn' : ¬ fn.name = "runtime.NumGoroutine" := by simpa using hn
  have hb':¬fn.body=none:=fun e=>by rw[e]at hb;cases hb
  have he0:a.eval (.func f)=.func (.func f) #[] #[]:=rfl;simp[execOp,hop,resolve,invoke,<-hv,Deferred.ofValue,callFunc,Result.andThen,hfn,hn',hb',he0]
 rw[he,Oper.upon_enter];refine hc.mono fun e w' h=>?_;obtain⟨v,rfl,h2⟩:=hK e w' h;exact h2
def Sts(b:Nat):Nat->List Value->World->World->Prop
 |_,[],w,w'=>w=w'
 |o,v::vs,w,w'=> ∃w1,St w b o v w1/\Sts b (o+1) vs w1 w'
def L5(n1 pb po:Nat)(e:Nat)(pa pn:Nat)(kd nd at_ n old iO:Int)(WA:Option Addr)(wl wc:Nat)(key bt:Int)(w:World):Prop:=
 Ju w n1 kd nd at_ n old iO WA wl wc key bt/\w.cell? ⟨n1,9,none⟩=some (.int .i64 (e:Int))/\w.cell? ⟨pb,po+e*2,none⟩=some (.int .i64 (pa:Int))/\w.cell? ⟨pb,po+e*2+1,none⟩=some (.int .i64 (pn:Int))
def adh(b o n0 n1 qb qo ql qc:Nat)(TA:Option Addr)(tl tc:Nat)(slot:Int)(w:World)(K:Value->World->Prop):Prop:=
 ∀so,(so=qo+12/\qc≠1\/so=qo/\qc=1)->∃(A:Option Addr) (l c:Nat) (w1 w2 w3 w4:World),
  Hid (∀ty,(Builtin.append_ #[108,108] ty #[.slice none 0 0,.slice (some ⟨qb,so,none⟩) (ql-1) (qc-1)]).run U' w=.ok (.slice A l c) w1)/\St w1 b (o+3) (.slice A l c) w2/\(w2.drew.cell? ⟨n1,10,none⟩=some (.slice TA tl tc)/\w2.drew.cell? ⟨n1,11,none⟩=some (.int .i64 slot))/\
  St w2.drew n0 0 (.int .i64 0) w3/\St w3 n0 1 (.slice TA tl tc) w4/\(w4.cell? ⟨n1,10,none⟩=some (.slice TA tl tc)/\w4.cell? ⟨n1,11,none⟩=some (.int .i64 slot))/\w4.heap[n0]?=some (.cells #[.int .i64 0,.slice TA tl tc] 81 (0,0))/\K (rsV 0 TA tl tc slot true true) w4
def aaN(b o n0 n1 qb qo ql qc:Nat)(e:Nat)(kd nd at_ n old iO:Int)(WA:Option Addr)(wl wc:Nat)(key bt:Int)(TA:Option Addr)(tl tc:Nat)(slot:Int)(w:World)(K:Value->World->Prop):Prop:=
 ∃(xb xc:Nat) (w1 w2 w3 w4 w5:World),Hid (∀ty,(Builtin.append_ #[108,108] ty #[.slice none 0 0,.slice (some ⟨qb,qo,none⟩) ql qc]).run U' w=.ok (.slice (some ⟨xb,0,none⟩) ql xc) w1)/\FV w1 n1 0 kd nd at_ n old iO WA wl wc key bt ((e:Int)+1) TA tl tc slot/\
  Sts xb 0 (jl kd nd at_ n old iO WA wl wc key bt ((e:Int)+1) TA tl tc slot).toList w1 w2/\St w2 b (o+3) (.slice (some ⟨xb,0,none⟩) ql xc) w3/\St w3 n0 0 (.int .i64 0) w4/\St w4 n0 1 (.slice none 0 0) w5/\w5.heap[n0]?=some (.cells #[.int .i64 0,.slice none 0 0] 81 (0,0))/\K (rsV 0 none 0 0 (-1) false true) w5
def adi(b o n0 n1 nb no qb qo ql qc:Nat)(e:Nat)(kd nd at_ n old iO:Int)(WA:Option Addr)(wl wc:Nat)(key bt:Int)(XA:Option Addr)(xl xc:Nat)(slot:Int)(w3:World)(K:Value->World->Prop):Prop:=
 Ju w3 n1 kd nd at_ n old iO WA wl wc key bt/\
 Calls U' 109 #[.agg (aJ kd nd at_ n old iO WA wl wc key bt)] w3 fun r w4=> ∃(pb po pl pc pa pn:Nat) (YA:Option Addr) (yl yc:Nat) (wa:World),r=.returned (.slice (some ⟨pb,po,none⟩) pl pc)/\e<pl/\pl<=100000/\
  L5 n1 pb po e pa pn kd nd at_ n old iO WA wl wc key bt w4.drew/\w4.drew.cell? ⟨n1,10,none⟩=some (.slice XA xl xc)/\Hid (∀ty,(Builtin.append_ #[59,59] ty #[.slice none 0 0,.slice XA xl xc]).run U' w4.drew=.ok (.slice YA yl yc) wa)/\L5 n1 pb po e pa pn kd nd at_ n old iO WA wl wc key bt wa/\
  Calls U' 110 #[.pointer (some ⟨nb,no,none⟩),.agg (aJ kd nd at_ n old iO WA wl wc key bt),.agg #[.int .i64 (pa:Int),.int .i64 (pn:Int)]] wa fun r w5=> ∃(ZA:Option Addr) (zl zc:Nat) (TA:Option Addr) (tl tc:Nat) (w6 w7 w8:World),r=.returned (.slice ZA zl zc)/\
   Hid (∀ty,(Builtin.append_ #[59,59] ty #[.slice YA yl yc,.slice ZA zl zc]).run U' w5=.ok (.slice TA tl tc) w6)/\St w6 n1 10 (.slice TA tl tc) w7/\L5 n1 pb po e pa pn kd nd at_ n old iO WA wl wc key bt w5/\L5 n1 pb po e pa pn kd nd at_ n old iO WA wl wc key bt w6/\L5 n1 pb po e pa pn kd nd at_ n old iO WA wl wc key bt w7/\St w7 n1 9 (.int .i64 ((e:Int)+1)) w8/\
   w8.cell? ⟨n1,9,none⟩=some (.int .i64 ((e:Int)+1))/\w8.cell? ⟨b,o+3,none⟩=some (.slice (some ⟨qb,qo,none⟩) ql qc)/\(pl<=e+1->adh b o n0 n1 qb qo ql qc TA tl tc slot w8 K)/\(e+1<pl->aaN b o n0 n1 qb qo ql qc e kd nd at_ n old iO WA wl wc key bt TA tl tc slot w8 K)
set_option maxHeartbeats 2000000 in
set_option maxRecDepth 1000000 in
theorem P0(b o nb no qb qo ql qc wb nw cw:Nat)(e:Nat)(kd nd at_ n old iO key bt slot cl inc x1 x2 x3:Int)(WA XA:Option Addr)(wl wc xl xc:Nat)(W:World)(K:Value->World->Prop)(hq:0<ql)(hqc:ql<=qc)(hcl:0<=cl/\cl<6)(hnw:32<=nw)
  (h1:(W.alloc (.cells #[.int .i64 0,.slice none 0 0] 81)).cell? ⟨b,o+3,none⟩=some (.slice (some ⟨qb,qo,none⟩) ql qc))
  (hQ:FV (W.alloc (.cells #[.int .i64 0,.slice none 0 0] 81)) qb qo kd nd at_ n old iO WA wl wc key bt (e:Int) XA xl xc slot)
  (hup:(Vn W kd nd at_ n old iO WA wl wc key bt (e:Int) XA xl xc slot).cell? ⟨nb,no+1,none⟩=some (.bool true))
  (hE:Tn (W.heap.size+1) b o nb no wb nw cw kd nd at_ n old iO WA wl wc key bt cl inc x1 x2 x3 (Vn W kd nd at_ n old iO WA wl wc key bt (e:Int) XA xl xc slot) fun code w=>code=0/\adi b o W.heap.size (W.heap.size+1) nb no qb qo ql qc e kd nd at_ n old iO WA wl wc key bt XA xl xc slot w K):
  Calls U' 80 #[.pointer (some ⟨b,o,none⟩),.pointer (some ⟨nb,no,none⟩)] W fun e w'=> ∃v,e=.returned v/\K v w':=by
 have mixed:U'.follows .mixedOrders=true:=by kernel_rfl
 have Y5:(0:Int)<(ql:Int):=by omega
 have adf:(1:Int)<=(ql:Int):=by omega
 have adg:(ql:Int)<=(qc:Int):=by omega
 have hb:((ql:Int)==0)=false:=oE.2 (by omega);obtain⟨c0,c1,c2,c3,c4,c5,c6,c7,c8,c9,V2,c11⟩:=hQ;obtain⟨fs,hu⟩:=NN;obtain⟨⟨⟨v0,v1,v2,v3,v4,v5,v6,v7,v8⟩,v9⟩,hcall⟩:=hE;have NQ:=fun w=>NP cl w hcl
 go_enter Tryz.func80,Tryz.ntmps80
 go_wp2
 have g8:Rs8 (W.heap.size+1) nb no wb nw cw kd nd at_ n old iO WA wl wc key bt (Vn W kd nd at_ n old iO WA wl wc key bt (e:Int) XA xl xc slot).drew:=⟨⟨v0,v1,v2,v3,v4,v5,v6,v7,v8⟩,v9⟩;obtain⟨⟨u0,u1,u2,u3,u4,u5,u6,u7,u8⟩,u9⟩:=g8
 go_region_held3 (fun w'=>w'.cell? ⟨W.heap.size+1,0,none⟩=some (.int .i64 kd)/\w'.cell? ⟨W.heap.size+1,1,none⟩=some (.int .i64 nd)/\w'.cell? ⟨W.heap.size+1,2,none⟩=some (.int .i64 at_)/\w'.cell? ⟨W.heap.size+1,3,none⟩=some (.int .i64 n)/\w'.cell? ⟨W.heap.size+1,4,none⟩=some (.int .u64 old)/\w'.cell? ⟨W.heap.size+1,5,none⟩=some (.int .u64 iO)/\w'.cell? ⟨W.heap.size+1,6,none⟩=some (.slice WA wl wc)/\w'.cell? ⟨W.heap.size+1,7,none⟩=some (.int .u64 key)/\w'.cell? ⟨W.heap.size+1,8,none⟩=some (.int .i64 bt)/\w'.cell? ⟨nb,no,none⟩=some (.slice (some ⟨wb,0,none⟩) nw cw))
  (first|exact⟨v0,v1,v2,v3,v4,v5,v6,v7,v8,v9⟩|exact⟨z0,z1,z2,z3,z4,z5,z6,z7,z8,z9⟩)
  (first|(go_at_call 78;refine da hcall ?_;clear hcall;rintro r w2 ⟨rfl,⟨⟨z0,z1,z2,z3,z4,z5,z6,z7,z8⟩,z9⟩,⟨⟨y0,y1,y2,y3,y4,y5,y6,y7,y8⟩,y9,y10⟩,a0,a1,a2,a3,rH⟩))
 clear v0 v1 v2 v3 v4 v5 v6 v7 v8 v9 u0 u1 u2 u3 u4 u5 u6 u7 u8 u9 z0 z1 z2 z3 z4 z5 z6 z7 z8 z9;have Tp:Calls U' 107 #[.pointer (some ⟨nb,no,none⟩),.int .i64 (24+cl)] w2.drew fun e w'=>e=.returned (.int .u64 x1)/\w'=w2.drew:=by
  have:=Ep nb no wb nw cw (24+cl).toNat x1 w2.drew a0 (by omega) a1;rwa [show(((24+cl).toNat:Nat):Int)=24+cl by omega]at this
 have Tq:Calls U' 107 #[.pointer (some ⟨nb,no,none⟩),.int .i64 0] w2.drew fun e w'=>e=.returned (.int .u64 x2)/\w'=w2.drew:=Ep nb no wb nw cw 0 x2 w2.drew a0 (by omega) a2;have Tr:Calls U' 107 #[.pointer (some ⟨nb,no,none⟩),.int .i64 1] w2.drew fun e w'=>e=.returned (.int .u64 x3)/\w'=w2.drew:=Ep nb no wb nw cw 1 x3 w2.drew a0 (by omega) a3;clear a0 a1 a2 a3 hnw
 go_wp2
 go_region_held3 (fun w'=>w'.cell? ⟨W.heap.size+1,0,none⟩=some (.int .i64 kd)/\w'.cell? ⟨W.heap.size+1,1,none⟩=some (.int .i64 nd)/\w'.cell? ⟨W.heap.size+1,2,none⟩=some (.int .i64 at_)/\w'.cell? ⟨W.heap.size+1,3,none⟩=some (.int .i64 n)/\w'.cell? ⟨W.heap.size+1,4,none⟩=some (.int .u64 old)/\w'.cell? ⟨W.heap.size+1,5,none⟩=some (.int .u64 iO)/\w'.cell? ⟨W.heap.size+1,6,none⟩=some (.slice WA wl wc)/\w'.cell? ⟨W.heap.size+1,7,none⟩=some (.int .u64 key)/\w'.cell? ⟨W.heap.size+1,8,none⟩=some (.int .i64 bt)/\w'.cell? ⟨b,o+1,none⟩=some (.int .i64 inc)/\w'.cell? ⟨b,o,none⟩=some (.int .i64 cl))
  (first|exact⟨y0,y1,y2,y3,y4,y5,y6,y7,y8,y9,y10⟩|exact⟨t0,t1,t2,t3,t4,t5,t6,t7,t8,t9,t10⟩)
  (first|(go_at_call 108;refine da (NQ _) ?_;rintro r w' ⟨rfl,hw⟩;rw[hw];clear hw)|(go_at_call 107;refine da Tp ?_;clear Tp;rintro r w' ⟨rfl,hw⟩;rw[hw];clear hw)|(go_at_call 107;refine da Tq ?_;clear Tq;rintro r w' ⟨rfl,hw⟩;rw[hw];clear hw)|(go_at_call 107;refine da Tr ?_;clear Tr;rintro r w' ⟨rfl,hw⟩;rw[hw];clear hw)|
   (go_at_call 106;refine da rH ?_;clear rH;rintro r w3 ⟨code,rfl,⟨⟨t0,t1,t2,t3,t4,t5,t6,t7,t8⟩,t9,t10⟩,rfl,hR⟩))
 clear y0 y1 y2 y3 y4 y5 y6 y7 y8 y9 y10;obtain⟨-,Ts⟩:=hR
 go_wp2_with (go_at_call 109;refine da Ts ?_;clear Ts;rintro r w4 ⟨pb,po,pl,pc,pa,pn,YA,yl,yc,wa,rfl,hpl,ag7,⟨⟨a0,a1,a2,a3,a4,a5,a6,a7,a8⟩,a9,Y3,Y4⟩,a12,zo,⟨⟨b0,b1,b2,b3,b4,b5,b6,b7,b8⟩,b9,b10,b11⟩,Tt⟩)
 have adj:(e:Int)<(pl:Int):=by omega
 clear t0 t1 t2 t3 t4 t5 t6 t7 t8 t9 t10 c0 c1 c2 c3 c4 c5 c6 c7 c8 c9 V2 c11;refine wp_region_held_drew (S:=(fun w'=>w'.cell? ⟨W.heap.size+1,0,none⟩=some (.int .i64 kd)/\w'.cell? ⟨W.heap.size+1,1,none⟩=some (.int .i64 nd)/\w'.cell? ⟨W.heap.size+1,2,none⟩=some (.int .i64 at_)/\w'.cell? ⟨W.heap.size+1,3,none⟩=some (.int .i64 n)/\w'.cell? ⟨W.heap.size+1,4,none⟩=some (.int .u64 old)/\w'.cell? ⟨W.heap.size+1,5,none⟩=some (.int .u64 iO)/\w'.cell? ⟨W.heap.size+1,6,none⟩=some (.slice WA wl wc)/\w'.cell? ⟨W.heap.size+1,7,none⟩=some (.int .u64 key)/\w'.cell? ⟨W.heap.size+1,8,none⟩=some (.int .i64 bt)/\w'.cell? ⟨W.heap.size+1,9,none⟩=some (.int .i64 (e:Int))/\w'.cell? ⟨pb,po+e*2,none⟩=some (.int .i64 (pa:Int))/\w'.cell? ⟨pb,po+e*2+1,none⟩=some (.int .i64 (pn:Int)))) (by kernel_rfl) (by first|exact⟨a0,a1,a2,a3,a4,a5,a6,a7,a8,a9,Y3,Y4⟩|exact⟨b0,b1,b2,b3,b4,b5,b6,b7,b8,b9,b10,b11⟩|exact⟨d0,d1,d2,d3,d4,d5,d6,d7,d8,d9,d10,d11⟩|exact⟨e0,e1,e2,e3,e4,e5,e6,e7,e8,e9,Eo,JA⟩|exact⟨h0,h1,h2,h3,h4,h5,h6,h7,h8,h9,CP,WR⟩) (fun hHeld=>?_);refine wpAnyH_take (i:=0) (oi:=?_) (v:=?_) ?_ ?_ ?_ ?_ ?_ (Or.inl ⟨?_,?_⟩) hHeld ?_
 rotate_left 2
 rfl
 kernel_rfl
 kernel_rfl
 kernel_rfl
 exact fun _ _ _ h=>h;rfl
 focus
  intro w hSw
  try dsimp only at hSw
  go_simp
  try with_reducible rfl
 try simp only[Act.put,kh,my,pv]
 refine wpAnyH_take (i:=3) (oi:=?_) (v:=?_) ?_ ?_ ?_ ?_ ?_ (Or.inl ⟨?_,?_⟩) hHeld ?_
 rotate_left 2
 rfl
 kernel_rfl
 kernel_rfl
 kernel_rfl
 exact fun _ _ _ h=>h;rfl
 focus
  intro w hSw
  try dsimp only at hSw
  go_simp
  try with_reducible rfl
 try simp only[Act.put,kh,my,pv]
 refine wpAnyH_take (i:=4) (oi:=?_) (v:=?_) ?_ ?_ ?_ ?_ ?_ (Or.inl ⟨?_,?_⟩) hHeld ?_
 rotate_left 2
 rfl
 kernel_rfl
 kernel_rfl
 kernel_rfl
 exact fun _ _ _ h=>h;rfl
 focus
  intro w hSw
  try dsimp only at hSw
  go_simp
  try with_reducible rfl
 try simp only[Act.put,kh,my,pv]
 refine wpAnyH_take (i:=5) (oi:=?_) (v:=?_) ?_ ?_ ?_ ?_ ?_ (Or.inl ⟨?_,?_⟩) hHeld ?_
 rotate_left 2
 rfl
 kernel_rfl
 kernel_rfl
 kernel_rfl
 exact fun _ _ _ h=>h;rfl
 focus
  intro w hSw
  try dsimp only at hSw
  go_simp
  try with_reducible rfl
 try simp only[Act.put,kh,my,pv]
 refine wpAnyH_take (i:=6) (oi:=?_) (v:=?_) ?_ ?_ ?_ ?_ ?_ (Or.inl ⟨?_,?_⟩) hHeld ?_
 rotate_left 2
 rfl
 kernel_rfl
 kernel_rfl
 kernel_rfl
 exact fun _ _ _ h=>h;rfl
 focus
  intro w hSw
  try dsimp only at hSw
  go_simp
  try with_reducible rfl
 try simp only[Act.put,kh,my,pv]
 refine wpAnyH_take (i:=7) (oi:=?_) (v:=?_) ?_ ?_ ?_ ?_ ?_ (Or.inl ⟨?_,?_⟩) hHeld ?_
 rotate_left 2
 rfl
 kernel_rfl
 kernel_rfl
 kernel_rfl
 exact fun _ _ _ h=>h;rfl
 focus
  intro w hSw
  try dsimp only at hSw
  go_simp
  try with_reducible rfl
 try simp only[Act.put,kh,my,pv]
 refine wpAnyH_take (i:=8) (oi:=?_) (v:=?_) ?_ ?_ ?_ ?_ ?_ (Or.inl ⟨?_,?_⟩) hHeld ?_
 rotate_left 2
 rfl
 kernel_rfl
 kernel_rfl
 kernel_rfl
 exact fun _ _ _ h=>h;rfl
 focus
  intro w hSw
  try dsimp only at hSw
  go_simp
  try with_reducible rfl
 try simp only[Act.put,kh,my,pv]
 refine wpAnyH_take (i:=9) (oi:=?_) (v:=?_) ?_ ?_ ?_ ?_ ?_ (Or.inl ⟨?_,?_⟩) hHeld ?_
 rotate_left 2
 rfl
 kernel_rfl
 kernel_rfl
 kernel_rfl
 exact fun _ _ _ h=>h;rfl
 focus
  intro w hSw
  try dsimp only at hSw
  go_simp
  try with_reducible rfl
 try simp only[Act.put,kh,my,pv]
 refine wpAnyH_take (i:=10) (oi:=?_) (v:=?_) ?_ ?_ ?_ ?_ ?_ (Or.inl ⟨?_,?_⟩) hHeld ?_
 rotate_left 2
 rfl
 kernel_rfl
 kernel_rfl
 kernel_rfl
 exact fun _ _ _ h=>h;rfl
 focus
  intro w hSw
  try dsimp only at hSw
  go_simp
  try with_reducible rfl
 try simp only[Act.put,kh,my,pv]
 refine wpAnyH_ready (rs:=[1]) (by kernel_rfl) (by simp) ?_;refine AllReadyH.cons (o:=?_) ?_ (fun K hK=>?_) AllReadyH.nil
 rotate_left
 rfl
 go_simp
 refine hK.out _ _ (by first|exact⟨a0,a1,a2,a3,a4,a5,a6,a7,a8,a9,Y3,Y4⟩|exact⟨b0,b1,b2,b3,b4,b5,b6,b7,b8,b9,b10,b11⟩|exact⟨d0,d1,d2,d3,d4,d5,d6,d7,d8,d9,d10,d11⟩|exact⟨e0,e1,e2,e3,e4,e5,e6,e7,e8,e9,Eo,JA⟩|exact⟨h0,h1,h2,h3,h4,h5,h6,h7,h8,h9,CP,WR⟩) (fun hHeld=>?_);clear hK K
 try simp only[Act.put,kh,my,pv]
 refine wpAnyH_ready (rs:=[2]) (by kernel_rfl) (by simp) ?_;refine AllReadyH.cons (o:=?_) ?_ (fun K hK=>?_) AllReadyH.nil
 rotate_left
 rfl;refine aH rfl (.const (.slice none 0 0)) (.tmp 79) 59 59 rfl (.slice none 0 0) (.slice XA xl xc) (by simp[Act.eval,Act.put]) (by simp[Act.eval,Act.put]) (zo.out _) ?_;refine hK.out _ _ (by first|exact⟨a0,a1,a2,a3,a4,a5,a6,a7,a8,a9,Y3,Y4⟩|exact⟨b0,b1,b2,b3,b4,b5,b6,b7,b8,b9,b10,b11⟩|exact⟨d0,d1,d2,d3,d4,d5,d6,d7,d8,d9,d10,d11⟩|exact⟨e0,e1,e2,e3,e4,e5,e6,e7,e8,e9,Eo,JA⟩|exact⟨h0,h1,h2,h3,h4,h5,h6,h7,h8,h9,CP,WR⟩) (fun hHeld=>?_);clear hK K
 try simp only[Act.put,kh,my,pv]
 refine wpAnyH_ready (rs:=[11]) (by kernel_rfl) (by simp) ?_;refine AllReadyH.cons (o:=?_) ?_ (fun K hK=>?_) AllReadyH.nil
 rotate_left
 rfl;refine Cf rfl 110 _ _ rfl _ (by simp[Act.eval,Act.put]) Tt (fn:=Tryz.f110) (by kernel_rfl) (by kernel_rfl) (by kernel_rfl) ?_;clear Tt;rintro r w5 ⟨ZA,zl,zc,TA,tl,tc,w6,w7,w8,rfl,sM,⟨f0,⟨y0,g0⟩,q0⟩,⟨⟨d0,d1,d2,d3,d4,d5,d6,d7,d8⟩,d9,d10,d11⟩,⟨⟨e0,e1,e2,e3,e4,e5,e6,e7,e8⟩,e9,Eo,JA⟩,⟨⟨h0,h1,h2,h3,h4,h5,h6,h7,h8⟩,h9,CP,WR⟩,⟨f1,⟨y1,g1⟩,q1⟩,d12,d13,L6,JB⟩;refine⟨_,rfl,?_⟩;refine hK.out _ _ (by first|exact⟨a0,a1,a2,a3,a4,a5,a6,a7,a8,a9,Y3,Y4⟩|exact⟨b0,b1,b2,b3,b4,b5,b6,b7,b8,b9,b10,b11⟩|exact⟨d0,d1,d2,d3,d4,d5,d6,d7,d8,d9,d10,d11⟩|exact⟨e0,e1,e2,e3,e4,e5,e6,e7,e8,e9,Eo,JA⟩|exact⟨h0,h1,h2,h3,h4,h5,h6,h7,h8,h9,CP,WR⟩) (fun hHeld=>?_);clear hK K
 try simp only[Act.put,kh,my,pv]
 refine wpAnyH_ready (rs:=[12]) (by kernel_rfl) (by simp) ?_;refine AllReadyH.cons (o:=?_) ?_ (fun K hK=>?_) AllReadyH.nil
 rotate_left
 rfl;refine aH rfl (.tmp 80) (.tmp 89) 59 59 rfl _ _ (by simp[Act.eval,Act.put]) (by simp[Act.eval,Act.put]) (sM.out _) ?_;refine hK.out _ _ (by first|exact⟨a0,a1,a2,a3,a4,a5,a6,a7,a8,a9,Y3,Y4⟩|exact⟨b0,b1,b2,b3,b4,b5,b6,b7,b8,b9,b10,b11⟩|exact⟨d0,d1,d2,d3,d4,d5,d6,d7,d8,d9,d10,d11⟩|exact⟨e0,e1,e2,e3,e4,e5,e6,e7,e8,e9,Eo,JA⟩|exact⟨h0,h1,h2,h3,h4,h5,h6,h7,h8,h9,CP,WR⟩) (fun hHeld=>?_);clear hK K
 try simp only[Act.put,kh,my,pv]
 refine wpAnyH_take (i:=13) (oi:=?_) (v:=?_) ?_ ?_ ?_ ?_ ?_ (Or.inl ⟨?_,?_⟩) hHeld ?_
 rotate_left 2
 rfl
 kernel_rfl
 kernel_rfl
 kernel_rfl
 exact fun _ _ _ h=>h;rfl
 focus
  intro w hSw
  try dsimp only at hSw
  go_simp
  try with_reducible rfl
 try simp only[Act.put,kh,my,pv]
 refine wpAnyH_ready (rs:=[14]) (by kernel_rfl) (by simp) ?_;refine AllReadyH.cons (o:=?_) ?_ (fun K hK=>?_) AllReadyH.nil
 rotate_left
 rfl
 go_simp
 refine hK.out _ _ (by first|exact⟨a0,a1,a2,a3,a4,a5,a6,a7,a8,a9,Y3,Y4⟩|exact⟨b0,b1,b2,b3,b4,b5,b6,b7,b8,b9,b10,b11⟩|exact⟨d0,d1,d2,d3,d4,d5,d6,d7,d8,d9,d10,d11⟩|exact⟨e0,e1,e2,e3,e4,e5,e6,e7,e8,e9,Eo,JA⟩|exact⟨h0,h1,h2,h3,h4,h5,h6,h7,h8,h9,CP,WR⟩) (fun hHeld=>?_);clear hK K
 try simp only[Act.put,kh,my,pv]
 refine wpAnyH_done (by kernel_rfl) ?_ _;clear a0 a1 a2 a3 a4 a5 a6 a7 a8 a9 Y3 Y4 a12 b0 b1 b2 b3 b4 b5 b6 b7 b8 b9 b10 b11 d0 d1 d2 d3 d4 d5 d6 d7 d8 d9 d10 d11 e0 e1 e2 e3 e4 e5 e6 e7 e8 e9 Eo JA h0 h2 h3 h4 h5 h6 h7 h8 CP WR NQ;have hw:IntKind.i64.wrap ((e:Int)+1)=((e:Int)+1):=by rw[aD];omega
 by_cases hlt:e+1<pl
 ·have afB:((e:Int)+1)<(pl:Int):=by omega
  have JB:=JB hlt;clear L6;obtain⟨rb,rc,v1,v2,v3,v4,v5,hap,hPd,WS,⟨p0,⟨p1,p2⟩,p3⟩,⟨p4,⟨p5,p6⟩,p7⟩,⟨p8,⟨p9,p10⟩,p11⟩,hH,hK⟩:=JB;simp only[FV,gv]at hPd;obtain⟨n0,n1,n2,n3,n4,n5,n6,n7,n8,n9,n10,n11⟩:=hPd;have WS:Sts rb 0 [.int .i64 kd,.int .i64 nd,.int .i64 at_,.int .i64 n,.int .u64 old,.int .u64 iO,.slice WA wl wc,.int .u64 key,.int .i64 bt,.int .i64 ((e:Int)+1),.slice TA tl tc,.int .i64 slot] v1 v2:=WS;simp only[Sts,gv,Nat.reduceAdd]at WS;obtain⟨u1,⟨i1,⟨j1,k1⟩,l1⟩,u2,⟨i2,⟨j2,k2⟩,l2⟩,u3,⟨i3,⟨j3,k3⟩,l3⟩,u4,⟨i4,⟨j4,k4⟩,l4⟩,u5,⟨i5,⟨j5,k5⟩,l5⟩,u6,⟨i6,⟨j6,k6⟩,l6⟩,u7,⟨i7,⟨j7,k7⟩,l7⟩,u8,⟨i8,⟨j8,k8⟩,l8⟩,u9,⟨i9,⟨j9,k9⟩,l9⟩,u10,⟨i10,⟨j10,k10⟩,l10⟩,u11,⟨i11,⟨j11,k11⟩,l11⟩,u12,⟨i12,⟨j12,k12⟩,l12⟩,rfl⟩:=WS;clear JB
  go_wp2_with (at_builtin;refine Lib.wpList_append_run _ rfl _ _ _ _ rfl _ _ rfl rfl _ _ (hap.out _) ?_)
  exact pB (dU (u:=5) (v:=6) (x:=7) rfl _ _ W.heap.size 81 _ (0,0) _ rfl hH hu rfl (by kernel_rfl)) rfl ⟨_,rfl,hK⟩
 have afB:¬((e:Int)+1)<(pl:Int):=by omega
 have L6:=L6 (by omega);clear JB;by_cases RG:qc=1
 ·subst RG;obtain rfl:ql=1:=by omega
  obtain⟨A,l,c,v1,v2,v3,v4,hap,⟨p0,⟨p1,p2⟩,p3⟩,⟨s0,s1⟩,⟨p4,⟨p5,p6⟩,p7⟩,⟨p8,⟨p9,p10⟩,p11⟩,⟨s2,s3⟩,hH,hK⟩:=L6 qo (.inr ⟨rfl,rfl⟩);have hap:Hid (∀ty,(Builtin.append_ #[108,108] ty #[.slice none 0 0,.slice (some ⟨qb,qo,none⟩) 0 0]).run U' w8=.ok (.slice A l c) v1):=hap;clear L6
  go_wp2_with (at_builtin;refine Lib.wpList_append_run _ rfl _ _ _ _ rfl _ _ rfl rfl _ _ (hap.out _) ?_)
  go_region_held3 (fun w'=>w'.cell? ⟨W.heap.size+1,10,none⟩=some (.slice TA tl tc)/\w'.cell? ⟨W.heap.size+1,11,none⟩=some (.int .i64 slot)) (first|exact⟨s0,s1⟩|exact⟨s2,s3⟩) (first|fail)
  go_wp2
  exact pB (dU (u:=5) (v:=6) (x:=7) rfl _ _ W.heap.size 81 _ (0,0) _ rfl hH hu rfl (by kernel_rfl)) rfl ⟨_,rfl,hK⟩
 ·obtain⟨A,l,c,v1,v2,v3,v4,hap,⟨p0,⟨p1,p2⟩,p3⟩,⟨s0,s1⟩,⟨p4,⟨p5,p6⟩,p7⟩,⟨p8,⟨p9,p10⟩,p11⟩,⟨s2,s3⟩,hH,hK⟩:=L6 (qo+12) (.inl ⟨rfl,RG⟩);clear L6
  go_wp2_with (at_builtin;refine Lib.wpList_append_run _ rfl _ _ _ _ rfl _ _ rfl rfl _ _ (hap.out _) ?_)
  go_region_held3 (fun w'=>w'.cell? ⟨W.heap.size+1,10,none⟩=some (.slice TA tl tc)/\w'.cell? ⟨W.heap.size+1,11,none⟩=some (.int .i64 slot)) (first|exact⟨s0,s1⟩|exact⟨s2,s3⟩) (first|fail)
  go_wp2
  exact pB (dU (u:=5) (v:=6) (x:=7) rfl _ _ W.heap.size 81 _ (0,0) _ rfl hH hu rfl (by kernel_rfl)) rfl ⟨_,rfl,hK⟩
end
section
variable{w0 W:World}{μ:Mu}{I J:Ky->Option ag}{t fb:Nat}{s:gm}
theorem i149:∃(Inf:TypeInfo) (z:Value),U'.info? 149=some Inf/\Inf.zero=some z/\Inf.size=12/\0<Inf.bytes/\Inf.bytes<=1000/\z.cells.size=12:=by
 obtain⟨Inf,h1,h2,h3,h4⟩:=Go.Ev.info_parts (P:=U') (t:=149) (z:=.agg (jl 0 0 0 0 0 0 none 0 0 0 0 0 none 0 0 0)) (s:=12) (b:=128) (by kernel_rfl);exact⟨Inf,_,h1,h2,h3,by omega,by omega,rfl⟩
theorem Tu:U'.underlying 108=some (.slice 149):=by kernel_rfl
structure SpE(t:Nat)(J:Ky->Option ag)(kp:Ky)(n0 n1:Nat)(vals:List Value)(pb pc:Nat)(ps:List dE):Prop where
 t0:∃F x y,J (t,.tmp 0)=some (bG n0 F 81 [.v x,.v y])
 t1:∃F,J (t,.tmp 1)=some (bG n1 F 149 (vals.map AV.v))
 kp:J kp=some (aE pb pc 110 4 (ps.map dE.row))
def FW(t:Nat)(kp:Ky):Prop:=kp=(t,.lO)\/ ∃c,kp=(t,.lu c)
theorem FW.tmp(h:FW t kp)(m:Nat):kp≠(t,.tmp m):=fun e=>by
 rcases h with h|⟨c,h⟩<;>(rw[h]at e;cases e)
theorem FW.dG(h:FW t kp)(m:Nat):kp≠(t,.dG m):=fun e=>by
 rcases h with h|⟨c,h⟩<;>(rw[h]at e;cases e)
theorem zS{α β:Type}(f:α->β)(l:List α):(l.map f).isEmpty=l.isEmpty:=by cases l<;>rfl
def SpN(t:Nat)(w0:World)(μ:Mu)(J:Ky->Option ag)(kp:Ky)(pb pc:Nat)(ps:List dE)(i:Nat)(p':eI)(W:World):Prop:=
 ∃(μ':Mu) (J':Ky->Option ag) (qv:Value),ak μ μ'/\az w0 μ' J' W/\J' kp=some (aE pb pc 110 4 ((ps.set i ⟨qv,p'⟩).map dE.row))/\LV μ' ⟨qv,p'⟩/\∀k,k≠kp->k≠(t,.tmp 0)->k≠(t,.tmp 2)->J' k=J k
theorem Tv(hK:az w0 μ J W){n0 n1 pb pc:Nat}{vals:List Value}{ps:List dE}(hE:SpE t J kp n0 n1 vals pb pc ps)(hkp:FW t kp){p:dE}{x:jr}{r:List jr}(hp:ps[i]?=some p)(hq:p.a.q=x::r)(KI:p.a.q.length<=10000){qb qo qc:Nat}{qn:Bool}
  (hd:DR μ (.aq qn 12 (p.a.q.map jr.row)) (.slice (some ⟨qb,qo,none⟩) p.a.q.length qc)) (code:Int) (TA:Option Addr) (tl tc:Nat):
  ∀so,(so=qo+12/\qc≠1\/so=qo/\qc=1)->∃(A:Option Addr) (l c:Nat) (w1 w2 w3 w4:World),Hid (∀ty,(Builtin.append_ #[108,108] ty #[.slice none 0 0,.slice (some ⟨qb,so,none⟩) (p.a.q.length-1) (qc-1)]).run U' W=.ok (.slice A l c) w1)/\St w1 pb (i*4+3) (.slice A l c) w2/\
   (∀m u,vals[m]?=some u->w2.drew.cell? ⟨n1,m,none⟩=some u)/\St w2.drew n0 0 (.int .i64 code) w3/\St w3 n0 1 (.slice TA tl tc) w4/\(∀m u,vals[m]?=some u->w4.cell? ⟨n1,m,none⟩=some u)/\w4.heap[n0]?=some (.cells #[.int .i64 code,.slice TA tl tc] 81 (0,0))/\
   SpN t w0 μ J kp pb pc ps i {p.a with q:=r} w4:=by
 intro so hso;obtain⟨Inf,z,i1,i2,i3,i4,i5,i6⟩:=i149;obtain⟨⟨F0,x0,y0,WT⟩,⟨F1,ZX⟩,xy⟩:=hE;have hlen:p.a.q.length-1=(r.map jr.row).length:=by grind
 have hrl:r.length+1=p.a.q.length:=by rw[hq];rfl
 have hne:p.a.q.map jr.row≠[]:=by grind
 obtain⟨_,_,_,e,hcl⟩:=cU hd hK.gj (by omega) hne;rw[ab]at e;cases e;have hsz:=YM hd;have hS:nY μ W 12 (r.map jr.row) (.slice (some ⟨qb,so,none⟩) (p.a.q.length-1) (qc-1)):=by
  rw[hlen];rcases hso with⟨rfl,_⟩|⟨rfl,wF⟩
  ·refine⟨_,_,rfl,fun e he=>hsz e (by grind),fun _=>⟨qb,qo+12,rfl,fun k j e u he hu=>?_⟩⟩;have:=hcl (k+1) j e u (by rw[hq];exact he) hu;grind
  ·have:r=[]:=by
    have:=SU hd;grind
   subst this;exact .nil
 obtain⟨v',w1,y,hap,hK1,hrow⟩:=hK.qj (P:=U') (k:=(t,.tmp 2)) (v:=.slice none 0 0) (T:=149) (sz:=12) (xs:=[]) (.inl ⟨rfl,rfl⟩) Tu i1 i2 i3 i4 i5 i6 (by omega) (by simp) (by rw[ab];omega) hS;rw[ly]at hrow;obtain⟨A,c,rfl,_⟩:=hrow.val;obtain⟨μ',hm,bq,qw⟩:=hK1.Jm hrow;obtain⟨w2,zq,du⟩:=bq.Ku (k:=kp) ((ae _ _ (hkp.tmp 2)).trans ((ae _ _ (hkp.tmp 2)).trans xy)) (get_map hp) (j:=3) rfl (by omega) (a:=.v (.slice A (r.map jr.row).length c)) (v:=.slice A (r.map jr.row).length c) (.v rfl);have hset:(ps.map dE.row).set i (p.row.set 3 (.v (.slice A (r.map jr.row).length c)))=(ps.set i ⟨.slice A (r.map jr.row).length c,{p.a with q:=r}⟩).map dE.row:=by
  rw[aF];rfl
 rw[hset]at du;obtain⟨w3,F3,aaO,hF3,eX⟩:=du.drew.Jw ((ae _ _ fun e=>hkp.tmp 0 e.symm).trans ((ae _ _ (aa fun e=>by cases e)).trans ((ae _ _ (aa fun e=>by cases e)).trans WT))) (j:=0) rfl (a:=Q' code) (v:=.int .i64 code) (.v rfl);obtain⟨w4,F4,Tw,hF4,uw⟩:=eX.Jw (af _ _ _) (j:=1) rfl (a:=.v (.slice TA tl tc)) (v:=.slice TA tl tc) (.v rfl);have c1:∀{μ':Mu} {J':Ky->Option ag} {W':World},az w0 μ' J' W'->J' (t,.tmp 1)=J (t,.tmp 1)->∀m u,vals[m]?=some u->W'.cell? ⟨n1,m,none⟩=some u:=fun hk e m u hu=>hk.cell (e.trans ZX) (by grind);refine⟨A,_,c,w1,w2,w3,w4,hap,zq,c1 du.drew ?_,aaO,Tw,c1 uw ?_,uw.plain (vs:=[.int .i64 code,.slice TA tl tc]) (af _ _ _),μ',_,.slice A (r.map jr.row).length c,hm,uw,?_,by rw[zS]at qw;exact qw,fun k g1 g2 g3=>?_⟩
 ·rw[ae _ _ fun e=>hkp.tmp 1 e.symm,ae _ _ (aa fun e=>by cases e),ae _ _ (aa fun e=>by cases e)]
 ·rw[ae _ _ (aa fun e=>by cases e),ae _ _ (aa fun e=>by cases e),ae _ _ fun e=>hkp.tmp 1 e.symm,ae _ _ (aa fun e=>by cases e),ae _ _ (aa fun e=>by cases e)]
 ·rw[ae _ _ (hkp.tmp 0),ae _ _ (hkp.tmp 0),af]
 grind [ae]
theorem NR{k:Ky}{b c T sz:Nat}{rest:List (List AV)}:∀(vs:List Value) (al:List AV) (o:Nat) (e:List AV) {J:Ky->Option ag} {W:World},az w0 μ J W->J k=some (aE b c T sz (e::rest))->e.length=sz->o+vs.length<=sz->vs.length=al.length->(∀(j:Nat) (a:AV) (v:Value),al[j]?=some a->vs[j]?=some v->DR μ a v)->
  ∃W',Sts b o vs W W'/\az w0 μ (put J k (some (aE b c T sz ((e.take o++al++e.drop (o+al.length))::rest)))) W'
 |[],al,o,e,J,W,hK,hk,_,_,hl,_=>by
  obtain rfl:al=[]:=by grind
  refine⟨W,rfl,?_⟩;rw[ir,rh,na,Se,<-hk,oG];exact hK
 |v::vs,[],o,e,J,W,hK,hk,_,_,hl,_=>by cases hl
 |v::vs,a::al,o,e,J,W,hK,hk,he,ho,hl,hd=>by
  rw[ki]at ho;have hoe:o<e.length:=by omega
  obtain⟨W1,hst,hK1⟩:=hK.Ku hk (i:=0) (j:=o) rfl (ao hoe) (by omega) (hd 0 a v rfl rfl);rw[By,gv]at hst;obtain⟨W2,h2,bq⟩:=NR vs al (o+1) (e.set o a) hK1 (af _ _ _) (by grind) (by omega) (by simpa using hl) fun j a' v' h1 h2=>hd (j+1) a' v' h1 h2;refine⟨W2,⟨W1,hst,h2⟩,?_⟩;rw[aK]at bq;have e1:(e.set o a).take (o+1)=e.take o++[a]:=by
   rw[On,mj,ee rfl,ee hoe,List.take_set_of_le (dk _)];rfl
  grind [List.drop_set_of_lt,List.append_assoc,List.singleton_append,List.length_cons]
theorem WU(hK:az w0 μ J W){n0 n1 pb pc:Nat}{vals:List Value}{ps:List dE}(hE:SpE t J kp n0 n1 vals pb pc ps)(hkp:FW t kp){p:dE}{x x':jr}{r:List jr}(hp:ps[i]?=some p)(hq:p.a.q=x::r)(KI:p.a.q.length<=10000){qb qo qc:Nat}{qn:Bool}
  (hd:DR μ (.aq qn 12 (p.a.q.map jr.row)) (.slice (some ⟨qb,qo,none⟩) p.a.q.length qc)) (hvl:vals.length=12) (hv:∀(j:Nat) (a:AV) (v:Value),x'.row[j]?=some a->vals[j]?=some v->DR μ a v):
  ∃(xb xc:Nat) (w1 w2 w3 w4 w5:World),Hid (∀ty,(Builtin.append_ #[108,108] ty #[.slice none 0 0,.slice (some ⟨qb,qo,none⟩) p.a.q.length qc]).run U' W=.ok (.slice (some ⟨xb,0,none⟩) p.a.q.length xc) w1)/\(∀m u,vals[m]?=some u->w1.cell? ⟨n1,m,none⟩=some u)/\
   Sts xb 0 vals w1 w2/\St w2 pb (i*4+3) (.slice (some ⟨xb,0,none⟩) p.a.q.length xc) w3/\St w3 n0 0 (.int .i64 0) w4/\St w4 n0 1 (.slice none 0 0) w5/\w5.heap[n0]?=some (.cells #[.int .i64 0,.slice none 0 0] 81 (0,0))/\
   SpN t w0 μ J kp pb pc ps i {p.a with q:=x'::r} w5:=by
 obtain⟨Inf,z,i1,i2,i3,i4,i5,i6⟩:=i149;obtain⟨⟨F0,x0,y0,WT⟩,⟨F1,ZX⟩,xy⟩:=hE;have hS:=nY.data hd hK.gj (by omega);obtain⟨v',w1,y,hap,hK1,hrow⟩:=hK.qj (P:=U') (k:=(t,.tmp 2)) (v:=.slice none 0 0) (T:=149) (sz:=12) (xs:=[]) (.inl ⟨rfl,rfl⟩) Tu i1 i2 i3 i4 i5 i6 (by omega) (by simp) (by rw[ab];omega) hS;rw[ly]at hrow;obtain⟨xb,xc,rfl,kJ⟩:=hrow.row.ne (by grind);rw[ab]at hap;have afC:put J (t,.tmp 2) y (t,.tmp 2)=some (aE xb xc 149 12 (x.row::r.map jr.row)):=by rw[kJ,hq];rfl
 obtain⟨w2,afD,bq⟩:=NR vals x'.row 0 x.row hK1 afC rfl (by omega) hvl hv;rw[show List.take 0 x.row++x'.row++List.drop (0+x'.row.length) x.row=x'.row by show []++x'.row++[]=_;grind,aK]at bq;have AO:xo (put J (t,.tmp 2) (some (aE xb xc 149 12 (x'.row::r.map jr.row)))) (t,.tmp 2) (.slice (some ⟨xb,0,none⟩) p.a.q.length xc) 149 12 ((x'::r).map jr.row):=.inr ⟨It _ _,xb,xc,by grind,af _ _ _⟩;obtain⟨μ',hm,du,qw⟩:=bq.Jm AO;obtain⟨w3,aaO,eX⟩:=du.Ku (k:=kp) ((ae _ _ (hkp.tmp 2)).trans ((ae _ _ (hkp.tmp 2)).trans xy)) (get_map hp) (j:=3) rfl (by omega) (a:=.v (.slice (some ⟨xb,0,none⟩) p.a.q.length xc)) (v:=.slice (some ⟨xb,0,none⟩) p.a.q.length xc) (.v rfl);have hset:(ps.map dE.row).set i (p.row.set 3 (.v (.slice (some ⟨xb,0,none⟩) p.a.q.length xc)))=(ps.set i ⟨.slice (some ⟨xb,0,none⟩) p.a.q.length xc,{p.a with q:=x'::r}⟩).map dE.row:=by
  rw[aF];rfl
 rw[hset]at eX;obtain⟨w4,F3,Tw,hF3,uw⟩:=eX.Jw ((ae _ _ fun e=>hkp.tmp 0 e.symm).trans ((ae _ _ (aa fun e=>by cases e)).trans ((ae _ _ (aa fun e=>by cases e)).trans WT))) (j:=0) rfl (a:=Q' 0) (v:=.int .i64 0) (.v rfl);obtain⟨w5,F4,afE,hF4,Tx⟩:=uw.Jw (af _ _ _) (j:=1) rfl (a:=.v (.slice none 0 0)) (v:=.slice none 0 0) (.v rfl);refine⟨xb,xc,w1,w2,w3,w4,w5,hap,fun m u hu=>hK1.cell ((ae _ _ (aa fun e=>by cases e)).trans ZX) (by grind),afD,aaO,Tw,afE,Tx.plain (vs:=[.int .i64 0,.slice none 0 0]) (af _ _ _),μ',_,.slice (some ⟨xb,0,none⟩) p.a.q.length xc,hm,Tx,?_,qw,fun k g1 g2 g3=>?_⟩
 ·rw[ae _ _ (hkp.tmp 0),ae _ _ (hkp.tmp 0),af]
 simp_all [ae]
end
