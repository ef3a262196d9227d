/- Small functions of a fabric: the walks. -/
import Derived.Test.YtnjccbnlmdajkaaGreatStpW
import Derived.Test.YtnjccbnlmdajkaaGreatVld
set_option linter.all false
namespace Go.Proofs.YtnjccbnlmdajkaaGreat
open Go.Proofs.Tryz renaming prog->U'
open Go.RowKit Go.Shelf Go.Lib Go.Ev
variable{A:Option Addr}{c:Nat}{u:Vb}{l:Nat}{α:Type}
section
attribute [local go_sem] Oper.semAt_some
attribute [local go_sem] eU dm dq eV
theorem BZ(bf nc:Nat)(c:Int)(A:Option Addr)(cc:Nat)(W:World)(hc:c<0\/(nc:Int)<=c)(h:W.cell? ⟨bf,2,none⟩=some (.slice A nc cc)):Calls U' 67 #[.pointer (some ⟨bf,0,none⟩),.int .i64 c] W fun e w'=>e=.returned (.pointer none)/\w'=W:=by
 by_cases h1:c<0
 ·go_enter Tryz.func67,Tryz.ntmps67
  go_wp2
  go_ret
  exact⟨rfl,rfl⟩
 ·have h2:(nc:Int)<=c:=by omega
  go_enter Tryz.func67,Tryz.ntmps67
  go_wp2
  go_ret
  exact⟨rfl,rfl⟩
theorem B6{cc:Nat}(bf bc ci nc:Nat)(b:Bool)(W:World)(iN:ci<nc)(h:W.cell? ⟨bf,2,none⟩=some (.slice (some ⟨bc,0,none⟩) nc cc))(hal:W.cell? ⟨bc,ci*7,none⟩=some (.bool b)):Calls U' 47 #[.pointer (some ⟨bf,0,none⟩),.int .i64 ci] W fun e w'=>e=.returned (.bool b)/\w'=W:=by
 have hcw:=aW bf bc ci nc W iN h
 go_enter Tryz.func47,Tryz.ntmps47
 go_wp2_with (go_at_call 67;refine da hcw ?_;clear hcw;rintro e w' ⟨rfl,hw⟩;rw[hw];clear hw)
 go_ret
 exact⟨rfl,rfl⟩
theorem Em(bf nc:Nat)(c:Int)(A:Option Addr)(cc:Nat)(W:World)(hc:c<0\/(nc:Int)<=c)(h:W.cell? ⟨bf,2,none⟩=some (.slice A nc cc)):Calls U' 47 #[.pointer (some ⟨bf,0,none⟩),.int .i64 c] W fun e w'=>e=.returned (.bool false)/\w'=W:=by
 have hcw:=BZ bf nc c A cc W hc h
 go_enter Tryz.func47,Tryz.ntmps47
 go_wp2_with (go_at_call 67;refine da hcw ?_;clear hcw;rintro e w' ⟨rfl,hw⟩;rw[hw];clear hw)
 go_ret
 exact⟨rfl,rfl⟩
end
section
set_option maxRecDepth 100000
variable{w0 W:World}{μ:Mu}{I:Ky->Option ag}{t fb:Nat}{s:gN}
def fu(t:Nat)(w0:World)(μ:Mu)(I:Ky->Option ag)(fb:Nat)(a:mV)(W:World):Prop:=
 ∃(μ':Mu) (I':Ky->Option ag) (s':gN),ak μ μ'/\az w0 μ' I' W/\ji t I' fb s'/\s'.a=a/\∀k:Ky,k.1≠t->I' k=I k
def nZ(lines:Int)(ln:List th)(i:Nat)(v:Vb):List th:=
 match ln[v.node.toNat]? with
 |some l=>ln.set v.node.toNat ⟨l.p.post v lines,l.pl++[(i:Int)]⟩
 |none=>ln
def gy(lines:Int)(vs:List Vb)(ln:List th):Nat->List th
 |0=>ln
 |i+1=>
  match vs[i]? with
  |some v=>nZ lines (gy lines vs ln i) i v
  |none=>gy lines vs ln i
def mU.post(x:mU)(lines:Int)(vs:List Vb):mU:={x with ln:=gy lines vs x.ln vs.length,ba:=List.replicate vs.length ⟨0,true,[]⟩,wt:=vs.length,tr:=wrap64 (x.tr+1),po:=wrap64 (x.po+vs.length)}
theorem En{μ:Mu}{v:Vb}(h:DR μ (.aq v.wn 1 (v.ws.map wr)) (.slice A l c)):∀(j:Nat) (a:AV) (x:Value),v.row[j]?=some a->(aJ v.kind v.node v.at_ v.n v.old v.new A l c v.key v.aS).toList[j]?=some x->DR μ a x:=fun j a x ha hx=>by
 match j with
 |0=>cases ha;cases hx;exact .v rfl
 |1=>cases ha;cases hx;exact .v rfl
 |2=>cases ha;cases hx;exact .v rfl
 |3=>cases ha;cases hx;exact .v rfl
 |4=>cases ha;cases hx;exact .v rfl
 |5=>cases ha;cases hx;exact .v rfl
 |6=>cases ha;cases hx;exact h
 |7=>cases ha;cases hx;exact .v rfl
 |8=>cases ha;cases hx;exact .v rfl
 |n+9=>simp[Vb.row]at ha
theorem LQ{kd nd at_ n old nw:Int}{key bt:Int}:∀v∈(aJ kd nd at_ n old nw A l c key bt).toList,v.oneCell'=true:=fun v hv=>by
 simp only[ft,dt,re]at hv;rcases hv with rfl|rfl|rfl|rfl|rfl|rfl|rfl|rfl|rfl<;>rfl
theorem sy{hp:HF}(hd:DR μ (.aq u.wn 1 (u.ws.map wr)) (.slice A l c))(xs:List Value)(hx:∀v∈xs,oN (.v v)=true):ju μ hp [] [] (.agg u.row::xs.map AV.v) (.agg (aJ u.kind u.node u.at_ u.n u.old u.new A l c u.key u.aS)::xs):=
 .cons (F:=[]) (F':=[]) (G:=[]) (G':=[]) (.agg (NG (vs:=(aJ u.kind u.node u.at_ u.n u.old u.new A l c u.key u.aS).toList) rfl (En hd))) (vM xs hx)
theorem zQ(hK:az w0 μ I W){n:Bool}{vs:List Vb}{vb vo m:Nat}(hd:DR μ (.aq n 9 (vs.map Vb.row)) (.slice (some ⟨vb,vo,none⟩) m c)){i:Nat}(hi:vs[i]?=some u):
  ∃(A:Option Addr) (l cc:Nat),qp W vb (vo+i*9) u.kind u.node u.at_ u.n u.old u.new A l cc u.key u.aS/\DR μ (.aq u.wn 1 (u.ws.map wr)) (.slice A l cc):=by
 obtain⟨vb',vo',c',e,hcl⟩:=cU hd hK.gj (by omega) (by simpa using NL hi);cases e;have hrow:(vs.map Vb.row)[i]?=some u.row:=get_map hi;obtain⟨_,q0,d0⟩:=hcl i 0 _ _ hrow rfl;obtain rfl:=jq d0;obtain⟨_,q1,d1⟩:=hcl i 1 _ _ hrow rfl;obtain rfl:=jq d1;obtain⟨_,q2,d2⟩:=hcl i 2 _ _ hrow rfl;obtain rfl:=jq d2;obtain⟨_,q3,d3⟩:=hcl i 3 _ _ hrow rfl;obtain rfl:=jq d3;obtain⟨_,q4,d4⟩:=hcl i 4 _ _ hrow rfl;obtain rfl:=jq d4;obtain⟨_,q5,d5⟩:=hcl i 5 _ _ hrow rfl;obtain rfl:=jq d5;obtain⟨_,q6,d6⟩:=hcl i 6 _ _ hrow rfl;obtain⟨A6,c6,rfl,_⟩:=eZ d6;obtain⟨_,q7,d7⟩:=hcl i 7 _ _ hrow rfl;obtain rfl:=jq d7;obtain⟨_,q8,d8⟩:=hcl i 8 _ _ hrow rfl;obtain rfl:=jq d8;exact⟨A6,_,c6,⟨q0,q1,q2,q3,q4,q5,q6,q7,q8⟩,d6⟩
theorem ji.lane(h:ji t I fb s){J:Ky->Option ag}{i:Nat}{x:dH}{l l':ik}(hc:s.cl[c]?=some x)(hl:x.ln[i]?=some l)(hJ:∀k,k≠ .par c i->k≠ .BX c i->k≠ .lu c->(∀n,k≠ .tmp n)->J (t,k)=I (t,k))
  (aaH:Row J (t,.lu c) x.lv 118 2 ((x.ln.map ik.row).set i l'.row)) (WG:∃F,J (t,.par c i)=some (bG l'.b F 139 (yI l'.a.p))) (WH:Row J (t,.BX c i) l'.v 3 1 (l'.a.pl.map kY)):ji t J fb {s with cl:=s.cl.set c {x with ln:=x.ln.set i l'}}:=by
 refine h.di (fun k _ hk hn=>hJ k (fun e=>by subst e;simp[FK.mT]at hk) (fun e=>by subst e;simp[FK.mT]at hk) (fun e=>by subst e;simp[FK.mT]at hk) hn) ?_ ⟨?_,?_,(h.cl c x hc).bn,fun j y hy=>?_,fun j y hy=>?_⟩
 ·have:(s.cl.map dH.row).set c (dH.row {x with ln:=x.ln.set i l'})=s.cl.map dH.row:=by
   refine kj fun j=>?_;rw[mj];by_cases e:c=j
   ·subst e;rw[ee rfl,ee (by rw[ab];exact aV hc),get_map hc];rfl
   ·rw[eg e]
  rw[this];exact h.cls.same (hJ _ (fun e=>by cases e) (fun e=>by cases e) (fun e=>by cases e) fun n e=>by cases e)
 ·show Row J (t,.lu c) x.lv 118 2 ((x.ln.set i l').map ik.row);rw[aF];exact aaH
 ·exact(h.cl c x hc).bs.same (hJ _ (fun e=>by cases e) (fun e=>by cases e) (fun e=>by cases e) fun n e=>by cases e)
 ·rcases bQ hy with⟨rfl,rfl⟩|⟨ne,hy⟩
  ·exact WG
  ·rw[hJ _ (fun e=>by cases e;exact ne rfl) (fun e=>by cases e) (fun e=>by cases e) fun n e=>by cases e];exact(h.cl c x hc).ps j y hy
 ·rcases bQ hy with⟨rfl,rfl⟩|⟨ne,hy⟩
  ·exact WH
  ·exact((h.cl c x hc).S5 j y hy).same (hJ _ (fun e=>by cases e) (fun e=>by cases e;exact ne rfl) (fun e=>by cases e) fun n e=>by cases e)
theorem aaI:U'.funcs[68]?=some Tryz.f68:=by kernel_rfl
theorem aaJ:U'.funcs[69]?=some Tryz.f69:=by kernel_rfl
theorem ac0:U'.underlying 116=some (.slice 3):=by kernel_rfl
theorem afp:(U'.info? 3).map (fun i=>(i.zero,i.size,i.bytes))=some (some (.int .i64 0),1,8):=by kernel_rfl
theorem YY:(U'.info? 81).map (fun i=>(i.zero,i.size,i.bytes))=some (some (.agg #[.int .i64 0,.slice none 0 0]),2,32):=by kernel_rfl
theorem Ca(hK:az w0 μ I W)(hd:DR μ (.aq u.wn 1 (u.ws.map wr)) (.slice A l c))(n lines:Int)(hn:1<=n/\n<=5):
  Calls U' 68 #[.agg (aJ u.kind u.node u.at_ u.n u.old u.new A l c u.key u.aS),.int .i64 n,.int .i64 lines] W fun e w'=>e=.returned (.int .i64 (u.eT n lines))/\az w0 μ I w'/\ar [] W w':=
 hK.vals mix jx (xs:=[.int .i64 (u.eT n lines)]) (PM u n lines hn) aaI (sy hd [.int .i64 n,.int .i64 lines] fun v hv=>by
  simp only[ft,dt,re]at hv;rcases hv with rfl|rfl<;>rfl)
end
section
set_option maxRecDepth 100000
variable{w0 W:World}{μ:Mu}{I:Ky->Option ag}{t fb:Nat}{s:gN}
def WI(t:Nat)(w0:World)(μ:Mu)(I:Ky->Option ag)(fb:Nat)(s:gN)(c:Nat)(x:dH)(ln:List th)(W:World):Prop:=
 ∃(μ':Mu) (I':Ky->Option ag) (ln':List ik),ak μ μ'/\az w0 μ' I' W/\ji t I' fb {s with cl:=s.cl.set c {x with ln:=ln'}}/\ln'.map ik.a=ln/\∀k:Ky,k.1≠t->I' k=I k
theorem bE(l:List α)(c:Nat)(x y:α):(l.set c x).set c y=l.set c y:=List.set_set ..
theorem bS{l:List α}{x y:α}(h:l[c]?=some x):(l.set c y)[c]?=some y:=by rw[mj,ee rfl,ee (aV h)]
theorem aa{t:Nat}{a b:FK}(h:a≠b):((t,a):Ky)≠(t,b):=fun e=>h (OS e).2
theorem aP{I J:Ky->Option ag}{t:Nat}{k:FK}{x:Option ag}(h:∀k:Ky,k.1≠t->J k=I k):∀k':Ky,k'.1≠t->put J (t,k) x k'=I k':=fun k' hk=>by
 rw[ae _ _ (fun e=>hk (by rw[e]))];exact h k' hk
theorem Tb{vs:List Vb}{n:Bool}{vb vo m vc:Nat}{i bc cc:Nat}{x:dH}{ln:List th}(hd:DR μ (.aq n 9 (vs.map Vb.row)) (.slice (some ⟨vb,vo,none⟩) m vc))(hi:vs[i]?=some u)(hw:u.Wf)(hg:u.eT s.nd.length s.lines=0)(De:s.nd.length<=5)
  (hc:s.cl[c]?=some x) (fI:s.cv=.slice (some ⟨bc,0,none⟩) s.cl.length cc) (wH:ln.length=s.nd.length) (hq:∀l∈ln,l.p.q.length<=1024/\l.pl.length<=1024) (hL:WI t w0 μ I fb s c x ln W):
  FO fb bc c s.nd.length s.lines vb vo i W (WI t w0 μ I fb s c x (nZ s.lines ln i u)):=by
 obtain⟨μ1,I1,qq,iT,hK,hR,ha,hfr⟩:=hL;obtain⟨_,Ru,ag2⟩:=BW (by omega) hg;obtain⟨nd,hnd⟩:∃nd:Nat,u.node=nd:=⟨u.node.toNat,by omega⟩;have hlen:qq.length=ln.length:=by rw[<-ha,ab]
 have hlt:nd<qq.length:=by omega
 obtain⟨l,hl⟩:∃l,qq[nd]?=some l:=⟨_,ao hlt⟩;have hla:ln[nd]?=some l.a:=by rw[<-ha];exact get_map hl
 obtain⟨hq1,hq2⟩:=hq _ (dp hla);obtain⟨A,al,ac,hV,FU⟩:=zQ hK (hd.mono iT) hi;have hcx:=bS (y:={x with ln:=qq}) hc;obtain⟨bc',YZ,e1,lz,ng⟩:=hR.jy hK hcx;rw[show({s with cl:=s.cl.set c {x with ln:=qq}}:gN).cv=s.cv from rfl,fI]at e1;injection e1 with g1 g2 g3;injection g1 with g1;injection g1 with g1;subst g1 g3;have kD:=hR.cl c _ hcx;obtain⟨bl,lc,e2,Cb,VL,qK⟩:=kD.zk hK hl;obtain⟨F,zm⟩:=kD.ps nd l hl;have e2':x.lv=.slice (some ⟨bl,0,none⟩) qq.length lc:=e2;have hlv:=ng.lv;rw[show({x with ln:=qq}:dH).lv=x.lv from rfl,e2']at hlv;rw[hnd]at hV;refine⟨u.kind,nd,u.at_,u.n,u.old,u.new,A,al,ac,u.key,u.aS,bl,qq.length,lc,l.b,hV,fun o=>bp (hR.c0 hK),fun o=>bp hlv,hlt,fun o=>bp VL,?_⟩;rw[<-hnd];have wy:=((hK.bw (ar.alloc W (.cells (aJ u.kind u.node u.at_ u.n u.old u.new A al ac u.key u.aS) 71))).drew).drew;refine(wy.SN mix jx zm (sy FU [.int .i64 s.lines] fun v hv=>by
  simp only[ft,dt,re]at hv;subst hv;rfl) (ra:=[Q' (l.a.p.BV u s.lines)]) (aaD l.a.p u s.lines hw hq1) aaJ rfl).mono fun e w' he=>?_
 obtain⟨us,μ2,F1,G1,F',rfl,hb,hm2,bq,_,_,_⟩:=he;obtain⟨rfl,_⟩:=dM (F:=F1) (G:=G1) [.int .i64 (l.a.p.BV u s.lines)] hb;have ag3:(match pO (l.a.p.post u s.lines)with| .ob _ cs=>cs|_=>[])=yI (l.a.p.post u s.lines):=rfl;have WH:=((kD.S5 nd l hl).put (l:=(t,.par c nd)) (x:=some (bG l.b F' 139 (yI (l.a.p.post u s.lines)))) (aa fun e=>by cases e));have Tc:put I1 (t,.par c nd) (some (bG l.b F' 139 (yI (l.a.p.post u s.lines)))) (t,.lu c)=some (aE bl lc 118 2 (qq.map ik.row)):=aC Cb (aa fun e=>by cases e);have hKE:=bq.bw (ar.alloc w' (.cells #[.int .i64 i] 3));obtain⟨I3,qC,vR,qD,yJ⟩:=info_parts afp;obtain⟨b',c',W2,hrun,du,_,_⟩:=hKE.ua (P:=U') (es:=kY i) WH ac0 qC vR qD (by omega) (by omega) rfl (by rw[ab];omega) (Ev.aZ w' _) rfl (fun v hv=>by simp at hv;subst hv;rfl) rfl fun jj v x hv hx=>by
  cases jj with
  |zero=>cases hv;cases hx;exact .v rfl
  |succ j=>simp[kY]at hv
 obtain⟨PA,pc,epl,_⟩:=WH.val;rw[ab]at epl hrun;rw[epl]at hrun;have LS:put (put I1 (t,.par c nd) (some (bG l.b F' 139 (yI (l.a.p.post u s.lines))))) (t,.BX c nd) (some (aE b' c' 3 1 (l.a.pl.map kY++[kY i]))) (t,.lu c)=some (aE bl lc 118 2 (qq.map ik.row)):=aC Tc (aa fun e=>by cases e);have ac1:=bq.aL Tc (get_map (f:=ik.row) hl) (j:=1) rfl;rw[epl]at ac1;have hfz:=du.dN LS (i:=nd) (j:=1) (by rw[ab];exact hlt) (by omega);have YQ:=du.aL LS (get_map (f:=ik.row) hl) (j:=1) rfl;have eX:=du.oF LS (get_map (f:=ik.row) hl) (j:=1) (by omega) (a:=.v (.slice (some ⟨b',0,none⟩) (l.a.pl.length+1) c')) (v:=.slice (some ⟨b',0,none⟩) (l.a.pl.length+1) c') (.v rfl);refine⟨_,PA,_,pc,b',c',W2,rfl,ac1,fun ty=>hrun ty,hfz,⟨_,YQ⟩,μ2,_,qq.set nd ⟨l.b,.slice (some ⟨b',0,none⟩) (l.a.pl.length+1) c',⟨l.a.p.post u s.lines,l.a.pl++[(i:Int)]⟩⟩,iT.trans hm2,eX,?_,?_,?_⟩
 ·have:=hR.lane (J:=put (put (put I1 (t,.par c nd) (some (bG l.b F' 139 (yI (l.a.p.post u s.lines))))) (t,.BX c nd) (some (aE b' c' 3 1 (l.a.pl.map kY++[kY i])))) (t,.lu c) (some (aE bl lc 118 2 ((qq.map ik.row).set nd (l.row.set 1 (.v (.slice (some ⟨b',0,none⟩) (l.a.pl.length+1) c')))))))
   hcx hl (l':=⟨l.b,.slice (some ⟨b',0,none⟩) (l.a.pl.length+1) c',⟨l.a.p.post u s.lines,l.a.pl++[(i:Int)]⟩⟩) (fun k h1 h2 h3 _=>by
    rw[ae _ _ (aa h3),ae _ _ (aa h2),ae _ _ (aa h1)]) ?_ ?_ ?_
  ·rw[show({s with cl:=s.cl.set c {x with ln:=qq}}:gN).cl=s.cl.set c {x with ln:=qq}from rfl,bE]at this;exact this
  ·rw[show({x with ln:=qq}:dH).lv=x.lv from rfl,e2'];exact Row.af (by rw[ff,ab])
  ·exact⟨F',aC (aC (af _ _ _) (aa fun e=>by cases e)) (aa fun e=>by cases e)⟩
  ·refine .inr ⟨b',c',?_,?_⟩
   ·show _=Value.slice _ ((l.a.pl++[(i:Int)]).map kY).length c';rw[ab,ec];rfl
   ·rw[ae _ _ (aa fun e=>by cases e),af,im];rfl
 ·rw[aF,ha];unfold nZ;rw[hnd,kb,hla]
 ·exact aP (aP (aP hfr))
end
