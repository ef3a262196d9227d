/- What reading,writing,freezing and forgetting a block do to the relation between the evaluator's store and the model's world. -/
import Derived.Maps.AppendAt
import Derived.Laws.CopyRow
import Derived.Test.YtnjccbnlmdajkaaGreatEv01
set_option linter.all false
namespace Go.Ev
variable{cut:Option Nat}{xs:List (List AV)}{cur:Array Value}{α:Type}{v:Value}{off sz:Nat}{k:gC}{l:Nat}{rb:RB}{e:α}
section
theorem dK{σ:List α}{k kk:α}{m:Nat}(h:(σ.set l k)[m]?=some kk):(m=l/\kk=k)\/(m≠l/\σ[m]?=some kk):=by
 grind
theorem cE(P:Program)(g o:Nat)(t:TypeId)(b:Bool)(fz:Nat×Nat):∀(vs:List Value) (i:Nat) (cur:Array Value) (w:World),w.heap[g]?=some (.cells cur t fz)->sJ b cur.size fz->o+i+vs.length<=cur.size->(∀v∈vs,v.oneCell'=true)->
  (storeCells ⟨g,o,none⟩ vs i).run P w=.ok () (w.setRow g (cur.toList.take (o+i)++vs++cur.toList.drop (o+i+vs.length)).toArray)
 |[],i,cur,w,hg,_,_,_=>by
  simp only[storeCells,ir,rh,na,Se,Array.toArray_toList];rw[setRow_self w g cur t fz hg];rfl
 |v::rest,i,cur,w,hg,hfz,hl,h1=>by
  have hi:o+i<cur.size:=by simp at hl;omega
  have hadd:(⟨g,o,none⟩:Addr).add i=⟨g,o+i,none⟩:=by unfold Addr.add;split<;>simp_all
  have hcell:w.cell? ⟨g,o+i,none⟩=some cur[o+i]:=by simp[World.cell?,hg,hi]
  have hfro:w.frozen? ⟨g,o+i,none⟩=false:=by
   rcases hfz with hfz|⟨_,hfz⟩
   ·subst hfz;simp[World.frozen?,hg]
   ·obtain⟨lo,hi'⟩:=fz;simp only[World.frozen?,hg,Bool.and_eq_false_iff,decide_eq_false_iff_not];grind
  have hst:(store ((⟨g,o,none⟩:Addr).add i) v).run P w=.ok () (w.setRow g (cur.setIfInBounds (o+i) v)):=by
   grind [run_store,setCell_eq_setRow]
  have ih:=cE P g o t b fz rest (i+1) (cur.setIfInBounds (o+i) v) (w.setRow g (cur.setIfInBounds (o+i) v)) (GB w g cur _ t _ hg) (by simpa using hfz) (by simp at hl⊢;omega) (fun x hx=>h1 x (by simp[hx]));simp only[storeCells,fy,hst,eh,ih,setRow_setRow]
  congr 3
  have e:=list_seg_step cur.toList (o+i) v rest (by simp at hl⊢;omega);simpa [Iv,vj]using e
section
variable{E:Env}{μ:Mu}{ρ:bD}{σ:Store}{w:World}
theorem SR.kill(h:SR E μ ρ σ w)(l:Nat)(k':gC)(h0:k'.mode=0):SR E μ ρ (σ.set l k') w:=by
 refine⟨fun m rb k hl hk hm=>?_,fun m m' rb fc k k' hl hl' hk hk' iT hm2 hp hp' he=>?_,fun m rb k hl hk iT hp=>?_,h.gj,h.base⟩
 ·rcases dK hk with⟨_,e⟩|⟨_,hk⟩
  ·exact absurd (e▸h0) hm
  ·exact h.blk m rb k hl hk hm
 ·rcases dK hk with⟨_,e⟩|⟨_,hk⟩
  ·subst e;omega
  rcases dK hk' with⟨_,e⟩|⟨_,hk'⟩
  ·subst e;omega
  exact h.inj m m' rb fc k k' hl hl' hk hk' iT hm2 hp hp' he
 ·rcases dK hk with⟨_,e⟩|⟨_,hk⟩
  ·subst e;omega
  ·exact h.lW m rb k hl hk iT hp
theorem SR.moved(h:SR E μ ρ σ w){w':World}(ho:w'.os=w.os)(ht:w'.tape=w.tape)(hu:w'.output=w.output)(hz:w.heap.size<=w'.heap.size)
  (hk:∀b,b<w.heap.size->w'.heap[b]?=w.heap[b]?\/((E.D b\/E.w0.heap.size<=b)/\μ b=none/\∀l rb k,ρ l=some rb->σ[l]?=some k->k.mode=1->rb.ph=false->rb.b≠b)):SR E μ ρ σ w':=by
 refine⟨fun l rb k hl hk' hm=>?_,h.inj,h.lW,fun b o hb=>?_,⟨ho.trans h.base.os,ht.trans h.base.tape,hu.trans h.base.output,iS h.base.size hz,fun b hb hD=>?_,h.base.mu,h.base.sU⟩⟩
 ·have hb:=h.blk l rb k hl hk' hm;refine⟨hb.sz,hb.n,hb.fit,hb.ph,hb.one,fun hp=>?_⟩;obtain⟨cur,hc⟩:=hb.live hp;refine⟨cur,hc.size,hc.mq,hc.wD,?_⟩;rcases hc.at_ with⟨h1,h2,h3⟩|h2
  ·refine .inl ⟨h1,h2.imp fun fz h2=>⟨?_,h2.2⟩,h3⟩;grind
  ·exact .inr h2
 ·have h1:=h.gj b o hb;grind
 ·rcases hk b (wx hb h.base.size)with h4|⟨h4,_⟩
  ·rw[h4];exact h.base.keep b hb hD
  grind
theorem SR.EP(h:SR E μ ρ σ w)(l:Nat)(k':gC)(rb:RB)(hl:ρ l=some rb)(hb:yS μ ρ w k' rb)
  (hn:k'.mode=1->rb.ph=false->(E.D rb.b\/E.w0.heap.size<=rb.b)/\∀m fc k,m≠l->ρ m=some fc->σ[m]?=some k->k.mode=1->fc.ph=false->fc.b≠rb.b):SR E μ ρ (σ.set l k') w:=by
 refine⟨fun m r k hm hk hmm=>?_,fun m m' r r' k k'' hm hm' hk hk' iT hm2 hp hp' he=>?_,fun m r k hm hk iT hp=>?_,h.gj,h.base⟩
 ·rcases dK hk with⟨e,e2⟩|⟨_,hk⟩
  ·grind
  ·exact h.blk m r k hm hk hmm
 ·rcases dK hk with⟨e,e2⟩|⟨n1,hkk⟩<;>rcases dK hk' with⟨e',e2'⟩|⟨n2,aeF⟩
  ·rw[e,e']
  ·grind
  ·grind
  ·exact h.inj m m' r r' k k'' hm hm' hkk aeF iT hm2 hp hp' he
 ·rcases dK hk with⟨e,e2⟩|⟨_,hk⟩
  ·grind
  ·exact h.lW m r k hm hk iT hp
theorem SR.write(h:SR E μ ρ σ w)(hl:ρ l=some rb)(hk:σ[l]?=some k)(hm:k.mode=1)(hp:rb.ph=false)(xs:List (List AV))(cur cur':Array Value)
  (hg:Has w rb.b cur k.ty (uq k.obj k.sz)) (hs0:cur.size=rb.OB) (hs:cur'.size=rb.OB) (hx:xs.length=k.xs.length)
  (hD:k.obj=false->bJ μ rb.sz xs cur') (hO:k.obj=true->OC μ ρ rb.sz xs cur'):SR E μ ρ (σ.set l {k with xs:=xs}) (w.setRow rb.b cur'):=by
 have hb:=h.blk l rb k hl hk (by omega);obtain⟨c0,hc0⟩:=hb.live hp;have yT:μ rb.b=none:=by
  rcases hc0.at_ with⟨_,_,h3⟩|⟨h3,_⟩
  ·exact h3
  ·omega
 have h1:=(h.kill l {k with mode:=0} rfl);have hset:∀(k1 k2:gC),(σ.set l k1).set l k2=σ.set l k2:=fun k1 k2=>by simp
 have lH:∀m fc k1,m≠l->ρ m=some fc->(σ.set l {k with mode:=0})[m]?=some k1->k1.mode=1->fc.ph=false->fc.b≠rb.b:=fun m fc k1 hne hm' hk1 iT qK he=>by
  rcases dK hk1 with⟨e,_⟩|⟨_,hk1⟩
  ·exact hne e
  ·exact hne (h.inj m l fc rb k1 k hm' hl hk1 hk iT hm qK hp he)
 have h2:SR E μ ρ (σ.set l {k with mode:=0}) (w.setRow rb.b cur'):=by
  refine h1.moved rfl rfl rfl (by simp) fun b hb=>?_;by_cases e:b=rb.b
  ·refine .inr ⟨e▸h.lW l rb k hl hk hm hp,e▸yT,fun m fc k1 hm' hk1 iT qK he=>?_⟩;grind
  grind [setRow_other]
 have h3:=h2.EP l {k with xs:=xs} rb hl ⟨hb.sz,hb.n.trans hx.symm,hb.fit,fun e=>absurd e (by simp[hp]),fun ho=>⟨hx.trans (hb.one ho).1,(hb.one ho).2⟩,fun _=>⟨cur',hs,hD,hO,.inl ⟨hm,hg.imp fun fz hg=>⟨GB w rb.b cur cur' k.ty fz hg.1,by grind⟩,yT⟩⟩⟩
  fun _ _=>⟨h.lW l rb k hl hk hm hp,lH⟩
 rwa [hset]at h3
theorem SR.ER(h:SR E μ ρ σ w)(hl:ρ l=some rb)(hk:σ[l]?=some k)(hm:k.mode≠0):
  ∃μ',ak μ μ'/\SR E μ' ρ (σ.set l {k with mode:=2}) w/\∀b o,μ' b=some o->μ b=some o\/(k.mode=1/\rb.ph=false/\b=rb.b):=by
 have hb:=h.blk l rb k hl hk hm;by_cases hp:rb.ph=true
 ·refine⟨μ,ak.refl μ,h.EP l _ rb hl ⟨hb.sz,hb.n,hb.fit,hb.ph,hb.one,fun e=>absurd e (by simp[hp])⟩ (fun e=>by cases e),fun _ _ h=>.inl h⟩
 ·have hp:rb.ph=false:=by simpa using hp
  obtain⟨cur,hc⟩:=hb.live hp;rcases hc.at_ with⟨h1,h2,h3⟩|⟨h1,h2⟩
  ·obtain⟨fz0,h2,_⟩:=h2
   let μ':Mu:=fun b=>if b=rb.b then w.heap[rb.b]? else μ b
   have hle:ak μ μ':=fun b o hb=>by
    grind
   have h0:=h.kill l {k with mode:=0} rfl;have lH:∀m fc k1,m≠l->ρ m=some fc->σ[m]?=some k1->k1.mode=1->fc.ph=false->fc.b≠rb.b:=fun m fc k1 hne hm' hk1 iT qK he=>
    hne (h.inj m l fc rb k1 k hm' hl hk1 hk iT h1 qK hp he)
   refine⟨μ',hle,⟨fun m r k1 hm' hk1 hmm=>?_,fun m m' r r' k1 k2 iT hm2 hk1 hk2 ES Gw qK hp2 he=>?_,fun m r k1 hm' hk1 iT qK=>?_,fun b o hb'=>?_,⟨h.base.os,h.base.tape,h.base.output,h.base.size,h.base.keep,h.base.mu.trans hle,fun b o hb'=>?_⟩⟩,fun b o hb'=>?_⟩
   ·rcases dK hk1 with⟨e,e2⟩|⟨hne,hk1⟩
    ·subst e;rw[hl]at hm';injection hm' with hm';subst hm';subst e2;refine⟨hb.sz,hb.n,hb.fit,hb.ph,hb.one,fun _=>⟨cur,hc.size,fun e=>(hc.mq e).mono hle,fun e=>(hc.wD e).mono hle (bV.refl ρ),.inr ⟨rfl,k.ty,fz0,?_⟩⟩⟩;grind
    ·have hb1:=h.blk m r k1 hm' hk1 hmm;refine⟨hb1.sz,hb1.n,hb1.fit,hb1.ph,hb1.one,fun qK=>?_⟩;obtain⟨c1,wF⟩:=hb1.live qK;refine⟨c1,wF.size,fun e=>(wF.mq e).mono hle,fun e=>(wF.wD e).mono hle (bV.refl ρ),?_⟩;rcases wF.at_ with⟨a1,a2,a3⟩|⟨a1,ty,fz,a2⟩
     all_goals grind
   ·rcases dK hk1 with⟨_,e2⟩|⟨_,hk1⟩
    ·subst e2;cases ES
    rcases dK hk2 with⟨_,e2⟩|⟨_,hk2⟩
    ·subst e2;cases Gw
    exact h.inj m m' r r' k1 k2 iT hm2 hk1 hk2 ES Gw qK hp2 he
   ·rcases dK hk1 with⟨_,e2⟩|⟨_,hk1⟩
    ·subst e2;cases iT
    ·exact h.lW m r k1 hm' hk1 iT qK
   ·change(if b=rb.b then w.heap[rb.b]? else μ b)=some o at hb';split at hb'
    ·grind
    ·exact h.gj b o hb'
   ·change(if b=rb.b then w.heap[rb.b]? else μ b)=some o at hb';split at hb'
    ·rename_i e;exact .inr (e▸h.lW l rb k hl hk h1 hp)
    ·exact h.base.sU b o hb'
   grind
  ·have:σ.set l {k with mode:=2}=σ:=by
    have e:({k with mode:=2}:gC)=k:=by cases k;simp at h1;subst h1;rfl
    rw[e];apply kj;grind
   grind [ak.refl]
theorem SR.freeze(h:SR E μ ρ σ w)(hl:ρ l=some rb)(hk:σ[l]?=some k)(hm:k.mode≠0):
  ∃μ',ak μ μ'/\SR E μ' ρ (σ.set l {k with mode:=2}) w:=
 let⟨μ',h1,h2,_⟩:=h.ER hl hk hm
 ⟨μ',h1,h2⟩
end
end
section
theorem bZ(b o j:Nat):(⟨b,o,none⟩:Addr).add j=⟨b,o+j,none⟩:=by
 unfold Addr.add;split<;>simp_all
theorem rV{μ:Mu}{b:Nat}{ty:TypeId}{fz:Nat×Nat}(h:μ b=some (.cells cur ty fz))(j:Nat):gL μ ⟨b,j,none⟩=cur[j]?:=by
 simp[gL,h]
theorem xQ{μ:Mu}{w:World}(h:∀b o,μ b=some o->w.heap[b]?=some o){a:Addr}(hc:gL μ a=some v):w.cell? a=some v:=by
 unfold gL at hc;split at hc
 ·rename_i c t f hm;unfold World.cell?;rw[h _ _ hm];exact hc
 ·cases hc
theorem KE{j n:Nat}(h:j<n*sz):j/sz<n/\j % sz<sz/\j/sz*sz+j % sz=j:=by
 have hs:0<sz:=Nat.pos_of_ne_zero fun e=>by grind
 simp_all [Nat.div_lt_of_lt_mul,Hb,Nat.mod_lt,Nat.div_add_mod]
theorem bJ.at_{μ:Mu}(h:bJ μ sz xs cur){j:Nat}(hj:j<xs.length*sz):∃u,cur[j]?=some u/\u.oneCell'=true:=by
 obtain⟨h1,h2,h3⟩:=KE hj;have he:xs[j/sz]?=some xs[j/sz]:=ao h1;have hl:=h.1 _ (Pe h1);have hc:(xs[j/sz])[j % sz]?=some (xs[j/sz])[j % sz]:=ao (by rw[hl];exact h2);obtain⟨u,hu,hd⟩:=h.2 _ _ _ _ he hc;rw[h3]at hu;exact⟨u,hu,hd.one⟩
structure SV(μ:Mu)(w:World)(nil:Bool)(sz:Nat)(xs:List (List AV))(A:Option Addr)(c:Nat)(news:List Value):Prop where
 hnil:nil=A.isNone
 hA:A=none->xs=[]/\c=0
 cap:xs.length<=c
 len:news.length=xs.length*sz
 row:bJ μ sz xs news.toArray
 one:∀u∈news,u.oneCell'=true
 cell:∀a,A=some a->∀j u,news[j]?=some u->w.cell? (a.add j)=some u
theorem bJ.list{μ:Mu}{news:List Value}(h:bJ μ sz xs news.toArray)(hl:news.length=xs.length*sz):∀u∈news,u.oneCell'=true:=by
 intro u hu;obtain⟨j,hj,e⟩:=T2 hu;obtain⟨u',h1,h2⟩:=h.at_ (j:=j) (by omega);grind
theorem DR.view{μ:Mu}{w:World}{nil:Bool}(h:DR μ (.aq nil sz xs) v)(oT:∀b o,μ b=some o->w.heap[b]?=some o):
  ∃A c news,v=.slice A xs.length c/\SV μ w nil sz xs A c news:=by
 cases h with
 | @aq _ _ _ A c vals hnil hA hc hsz hcell hv=>
  have hrow:bJ μ sz xs ((List.range (xs.length*sz)).map fun j=>vals (j/sz) (j % sz)).toArray:=by
   refine⟨hsz,fun i e j c he hc=>⟨vals i j,?_,hv i e j c he hc⟩⟩;have hi:i<xs.length:=(eR.1 he).1;have hj:j<sz:=by grind
   have hs:0<sz:=by omega
   have hlt:i*sz+j<xs.length*sz:=by
    calc i*sz+j<i*sz+sz:=by omega
     _=(i+1)*sz:=by grind
     _<=xs.length*sz:=fi _ hi
   have h1:(i*sz+j)/sz=i:=by rw[Hb,Nat.mul_add_div hs,Nat.div_eq_of_lt hj,na]
   simp_all [Hb,Nat.mul_add_mod,Nat.mod_eq_of_lt,vt]
  have hlen:((List.range (xs.length*sz)).map fun j=>vals (j/sz) (j % sz)).length=xs.length*sz:=by simp
  refine⟨A,c,_,rfl,⟨hnil,hA,hc,hlen,hrow,hrow.list hlen,fun a ha j u hu=>?_⟩⟩;have hj:j<xs.length*sz:=by grind
  simp only[et,vt hj,yb]at hu;obtain⟨h1,h2,h3⟩:=KE hj;grind [xQ]
theorem Ap{xs:List α}{n:Nat}(hn:n=qJ xs.length off cut)(h:off+n<=xs.length):(mm xs off cut).length=n:=by
 cases cut with
 |none=>simp[mm,hn,qJ]
 |some m=>simp[mm,hn,qJ]at*;omega
theorem Aq{xs:List α}{i:Nat}(h:(mm xs off cut)[i]?=some e):xs[off+i]?=some e:=by
 cases cut with
 |none=>simpa [mm]using h
 |some m=>
  simp only[mm,oa]at h;grind
theorem uH{xs:List α}(h:e∈mm xs off cut):e∈xs:=by
 cases cut with
 |none=>exact zv h
 |some m=>exact zv (C1 h)
theorem GR(off:Nat)(cut:Option Nat):mm ([]:List α) off cut=[]:=by cases cut<;>simp[mm]
section
variable{E:Env}{μ:Mu}{ρ:bD}{σ:Store}{w:World}
theorem Live.heap(h:Live μ ρ w k rb cur)(oT:∀b o,μ b=some o->w.heap[b]?=some o):∃ty fz,w.heap[rb.b]?=some (.cells cur ty fz):=by
 rcases h.at_ with⟨_,⟨fz,h2,_⟩,_⟩|⟨_,ty,fz,h2⟩
 all_goals grind
theorem VF{n i j:Nat}{e:List AV}{c:AV}(hl:(mm xs off cut).length=n)(he:(mm xs off cut)[i]?=some e)(hc:e[j]?=some c)(hs:e.length=sz):i*sz+j<n*sz/\off*sz+(i*sz+j)=(off+i)*sz+j:=by
 have hi:i<n:=by grind
 have hj:j<sz:=by grind
 refine⟨?_,by rw[sh];omega⟩
 calc i*sz+j<i*sz+sz:=by omega
  _=(i+1)*sz:=by grind
  _<=n*sz:=fi _ hi
theorem CR.wG{nil:Bool}(h:CR μ ρ (.sl nil l off cut) v)(hs:SR E μ ρ σ w)(hk:σ[l]?=some k)(hm:k.mode≠0)(ho:k.obj=false):
  ∃A c news,v=.slice A (mm k.xs off cut).length c/\SV μ w nil k.sz (mm k.xs off cut) A c news/\(k.mode=2->DR μ (.aq nil k.sz (mm k.xs off cut)) v):=by
 cases h with
 |d hx=>cases hx
 | @sl _ _ _ rb a len cap hl hp ha hlen hoff hcap jE=>
  have hb:=hs.blk l rb k hl hk hm;obtain⟨cur,hc⟩:=hb.live hp;obtain⟨ty,fz,eY⟩:=hc.heap hs.gj;have hcl:(mm k.xs off cut).length=len:=Ap (by rw[hlen,hb.n]) (by rw[<-hb.n];exact hoff);have hrow:=hc.mq ho;rw[hb.sz]at hrow;have hfit:=hb.fit;rw[hb.sz]at hfit jE;have hsz:=hc.size;have hsub:(off+len)*k.sz<=cur.size:=by rw[hsz];exact iS (fi _ hoff) hfit
  rw[sh]at hsub
  let news:=(cur.toList.drop (off*k.sz)).take (len*k.sz)
  have wH:news.length=len*k.sz:=by simp[news];omega
  have hng:∀j,j<len*k.sz->news[j]?=cur[off*k.sz+j]?:=fun j hj=>by
   grind
  have hR:bJ μ k.sz (mm k.xs off cut) news.toArray:=by
   refine⟨fun e he=>hrow.1 e (uH he),fun i e j c he hc'=>?_⟩;obtain⟨h1,h2⟩:=VF hcl he hc' (hrow.1 e (uH (dp he)));obtain⟨u,h3,h4⟩:=hrow.2 _ _ _ _ (Aq he) hc';grind
  have hzero:cap=0->len=0:=fun e=>by omega
  refine⟨some a,cap,news,by rw[hcl],⟨rfl,fun e=>(by cases e),by rw[hcl];exact hcap,by rw[wH,hcl],hR,hR.list (by rw[wH,hcl]),fun a' ha' j u hu=>?_⟩,fun hm2=>?_⟩
  ·injection ha' with ha';subst ha';have hj:j<len*k.sz:=by grind
   rcases ha with ha|⟨ha,_⟩
   ·rw[ha,bZ,hb.sz,cell_of_row w rb.b _ cur ty fz eY,<-hng j hj];exact hu
   grind
  ·rcases hc.at_ with⟨h1,_⟩|⟨_,ty',MY,h2⟩
   ·omega
   have:(Value.slice (some a) len cap)=.slice (some a) (mm k.xs off cut).length cap:=by rw[hcl]
   rw[this];refine .aq (fun i j=>(cur[(off+i)*k.sz+j]?).getD undef) rfl (fun e=>(by cases e)) (by rw[hcl];exact hcap) (fun e he=>hrow.1 e (uH he)) (fun a' ha' i j hi hj=>?_) (fun i e j c he hc'=>?_)
   ·injection ha' with ha';subst ha';rw[hcl]at hi;rcases ha with ha|⟨ha,_⟩
    ·have hlt:(off+i)*k.sz+j<cur.size:=by
      have:(off+i+1)*k.sz<=(off+len)*k.sz:=fi _ (by omega);grind
     rw[ha,bZ,hb.sz,rV h2,show off*k.sz+(i*k.sz+j)=(off+i)*k.sz+j by rw[sh];omega,ri hlt];rfl
    grind
   ·obtain⟨u,h3,h4⟩:=hrow.2 _ _ _ _ (Aq he) hc';rw[h3];exact h4
 | @tB _ _ _ rb hl hn hoff Ao=>
  have hb:=hs.blk l rb k hl hk hm;have hx:k.xs=[]:=dy (by rw[<-hb.n];exact hn);rw[hx,GR];refine⟨none,0,[],rfl,⟨rfl,fun _=>⟨rfl,rfl⟩,by simp,by simp,⟨fun e he=>(by cases he),fun i e j c he=>(by simp at he)⟩,fun u hu=>(by cases hu),fun a ha=>(by cases ha)⟩,fun _=>?_⟩;exact .aq (fun _ _=>undef) rfl (fun _=>⟨rfl,rfl⟩) (by simp) (fun e he=>by cases he) (fun a ha=>by cases ha) (fun i e j u he=>by simp at he)
theorem OD(hs:SR E μ ρ σ w){c c':AV}{σ':Store}(hv:CR μ ρ c v)(h:zZ σ c=some (c',σ')):
  ∃μ',ak μ μ'/\SR E μ' ρ σ' w/\DR μ' c' v/\σ'.length=σ.length:=by
 unfold zZ at h;split at h
 ·injection h with h;injection h with h1 h2;subst h1;subst h2;cases hv with
  |d hx=>grind [ak.refl]
 ·injection h with h;injection h with h1 h2;subst h1;subst h2;cases hv with
  |d hx=>grind [ak.refl]
 ·rename_i n l off cut;split at h
  ·cases h
  ·rename_i b hb;cases hc:(Nat.beq b.mode 0||b.obj)with
   |true=>rw[hc]at h;cases h
   |false=>
    rw[hc]at h;simp only[cond]at h;injection h with h;injection h with h1 h2;subst h1;subst h2;simp only[km]at hc;have hm:b.mode≠0:=fun e=>by simp_all
    have Kr:∃rb,ρ l=some rb:=by
     cases hv with
     |d hx=>cases hx
     |sl hl=>exact⟨_,hl⟩
     |tB hl=>exact⟨_,hl⟩
    obtain⟨rb,hl⟩:=Kr;obtain⟨μ',hle,hs'⟩:=hs.freeze hl hb hm;have hlt:l<σ.length:=(eR.1 hb).1;obtain⟨_,_,_,_,_,hd⟩:=(hv.mono hle (bV.refl ρ)).wG hs' (k:={b with mode:=2}) (by grind) (by simp) hc.2;grind
 ·cases h
theorem tC:∀{cs:List AV} {vs:List Value} {cs':List AV} {σ σ':Store} {μ:Mu},SR E μ ρ σ w->fe μ ρ cs vs->gG σ cs=some (cs',σ')->
  ∃μ',ak μ μ'/\SR E μ' ρ σ' w/\qg μ' cs' vs/\σ'.length=σ.length/\cs'.length=cs.length
 |[],vs,cs',σ,σ',μ,hs,hv,h=>by
  simp only[gG,bj,de]at h;obtain⟨h1,h2⟩:=h;subst h1;subst h2;exact⟨μ,ak.refl μ,hs,⟨hv.1,fun k u v hu=>by simp at hu⟩,rfl,rfl⟩
 |c::cs,vs,cs',σ,σ',μ,hs,hv,h=>by
  cases vs with
  |nil=>exact absurd hv.1 (by simp)
  |cons v vs=>
  simp only[gG]at h;split at h
  ·cases h
  ·rename_i c1 σ1 h1;split at h
   ·cases h
   ·rename_i cs1 σ2 h2;simp only[bj,de]at h;obtain⟨e1,e2⟩:=h;subst e1;subst e2;obtain⟨μ1,VG,hs1,hd1,hn1⟩:=OD hs (hv.2 0 c v rfl rfl) h1;obtain⟨μ2,OE,qL,qw,CT,Yr⟩:=tC hs1 (cs:=cs) (vs:=vs) ⟨by have:=hv.1;simpa using this,fun k u v' hu hv'=>(hv.2 (k+1) u v' (by simpa using hu) (by simpa using hv')).mono VG (bV.refl ρ)⟩ h2;refine⟨μ2,VG.trans OE,qL,⟨by simp[qw.1],fun k u v' hu hv'=>?_⟩,CT.trans hn1,by simp[Yr]⟩;cases k with
    |zero=>simp at hu hv';subst hu;subst hv';exact hd1.mono OE
    |succ k=>exact qw.2 k u v' (by simpa using hu) (by simpa using hv')
end
end
