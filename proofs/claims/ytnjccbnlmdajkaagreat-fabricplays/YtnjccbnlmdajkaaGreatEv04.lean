/- Operations that read the store. -/
import Derived.Laws.BytesString
import Derived.Test.YtnjccbnlmdajkaaGreatEv03
set_option linter.all false
namespace Go.Ev
variable{t:TypeId}{cs:List AV}{a:AV}{R:Type}{j:Nat}{k:CK}{r:R}{K:AV->Store->Option R}
section
section
variable{P:Program}{E:Env}{μ:Mu}{ρ:bD}{σ:Store}{w:World}
def valOf(agg:Bool)(vs:List Value):Value:=bif agg then .agg vs.toArray else vs.headD undef
theorem xS(ht:Kq P t=true){a:Addr}{vs:List Value}(hl:vs.length=P.cellsOf t)(h:∀j v,vs[j]?=some v->w.cell? (a.add j)=some v):
  (loadVar t a).run P w=.ok (valOf (eO P t) vs) w:=by
 obtain⟨⟨d,hd⟩,_,h2,h3⟩:=gQ ht;simp only[loadVar,fy,Dv hd,eh];cases hc:eO P t with
 |true=>
  simp only[xt,fy,dg h3,eh];rw[<-hl,Kd w a vs h];simp only[eh,fv,valOf,cond]
 |false=>
  rcases h2 with e|e
  ·rw[hc]at e;cases e
  rw[e]at hl
  match vs,hl with
  |[v],_=>
   have:=h 0 v rfl;simp only[Addr.add,xt]at this;simp only[tx,tm,run_load,this,valOf,cond,List.headD]
theorem ET{c:AV}{u:Value}(h:(iq k c).1=true)(hd:CR μ ρ c u):CR μ ρ (iq k c).2 u:=by
 unfold iq at h⊢;split at h
 ·cases c with
  |v x=>cases x<;>simp_all [eE,ai]
  |_=>simp[eE]at h
 ·cases c with
  |v x=>cases x<;>simp_all [Dp,eW]
  |_=>simp[Dp]at h
 ·cases c with
  |v x=>cases x<;>simp_all [MP,xK]
  |_=>simp[MP]at h
 ·rename_i e sz;cases c with
  |aq n s xs=>
   simp only[GD,pC]at h;simp only[bM,bU];cases hd with
   |d hx=>
    cases hx with
    | @aq _ _ _ A c vals hnil hA hc hsz hcell hv=>
     rcases h with h|h
     ·have:=cj h;subst this;exact .d (.aq vals hnil hA hc hsz hcell hv)
     ·subst h;have hn:A=none:=by simp_all
      have hx:=(hA hn).1;subst hx;exact .d (.aq vals hnil hA hc (fun e he=>by cases he) (fun a ha=>by rw[hn]at ha;cases ha) (fun i e j u he=>by simp at he))
  |_=>simp[GD]at h
 ·cases h
theorem Dy:(iq k .un).1=false:=by
 cases k<;>rfl
theorem qM:∀(ks:List CK) (j:Nat) (cs:List AV),nM ks j cs=true->∀q k,ks[q]?=some k->(iq k (cellAt cs (j+q))).1=true
 |[],_,_,_,q,k,hq=>by simp at hq
 |[k0],j,cs,h,q,k,hq=>by
  cases q with
  |zero=>simp at hq;subst hq;exact h
  |succ q=>simp at hq
 |k0::k1::ks,j,cs,h,q,k,hq=>by
  simp only[nM,dd]at h;cases q with
  |zero=>grind
  |succ q=>
   have:=qM (k1::ks) (j+1) cs h.2 q k (by simpa using hq);grind
theorem kP:∀(ks:List CK) (j:Nat) (cs:List AV),(jB ks j cs).length=ks.length/\∀q,(jB ks j cs)[q]?=(ks[q]?).map fun k=>(iq k (cellAt cs (j+q))).2
 |[],_,_=>⟨rfl,fun q=>by simp[jB]⟩
 |k::ks,j,cs=>by
  have ih:=kP ks (j+1) cs;refine⟨by simp[jB,ih.1],fun q=>?_⟩;cases q with
  |zero=>simp[jB]
  |succ q=>
   simp only[jB,td,ih.2];rw[show j+1+q=j+(q+1) by omega]
theorem nu(h:cellAt cs j≠ .un):cs[j]?=some (cellAt cs j):=by
 unfold cellAt at*;grind
theorem qN{ks:List CK}(h:nM ks j cs=true){q:Nat}(hq:ks[q]?=some k):cs[j+q]?=some (cellAt cs (j+q)):=
 nu fun e=>by have:=qM ks j cs h q k hq;rw[e,Dy]at this;cases this
theorem xT{ks:List CK}(h:nM ks j cs=true){vs:List Value}(hl:vs.length=ks.length)
  (hv:∀q c u,q<ks.length->cs[j+q]?=some c->vs[q]?=some u->CR μ ρ c u):fe μ ρ (jB ks j cs) vs:=by
 refine⟨by rw[hl,(kP ks j cs).1],fun q u v hu hvq=>?_⟩;rw[(kP ks j cs).2]at hu;grind [Option.map_eq_some_iff,ET,qM,List.getElem?_eq_some_iff,qN]
theorem mw{b:gC}{x:Bool}(h:(Nat.beq b.mode 0||x)=false):b.mode≠0/\x=false:=by
 simp only[km]at h;exact⟨fun e=>by simp_all,h.2⟩
theorem rX{l:Nat}{rb:RB}{k:gC}(hs:SR E μ ρ σ w)(hl:ρ l=some rb)(hp:rb.ph=false)(hk:σ[l]?=some k)(hm:k.mode≠0)(ho:k.obj=true):
  ∃cur ty fz,w.heap[rb.b]?=some (.cells cur ty fz)/\cur.size=(aw k.xs 0).length/\fe μ ρ (aw k.xs 0) cur.toList/\(k.mode=1->ty=k.ty/\fz=(0,0)/\μ rb.b=none)/\rb.OB=rb.sz/\rb.sz=(aw k.xs 0).length:=by
 have hb:=hs.blk l rb k hl hk hm;obtain⟨cur,hc⟩:=hb.live hp;obtain⟨h1,h2⟩:=hb.one ho
 match hx:k.xs,h1 with
 |[e],_=>
  have hrow:=hc.wD ho;rw[hx]at hrow;have he:e.length=rb.sz:=hrow.1 e (by simp);have hsz:cur.size=e.length:=by rw[hc.size,h2,he]
  have ab6:fe μ ρ e cur.toList:=by
   refine⟨by simpa using hsz,fun q u v hu hv=>?_⟩;obtain⟨u',h3,h4⟩:=hrow.2 0 e q u rfl hu;grind
  rcases hc.at_ with⟨h3,⟨fz0,h4,hz⟩,h5⟩|⟨h3,ty,fz,h4⟩
  ·obtain rfl:fz0=(0,0):=hz.elim id fun e=>by rw[ho]at e;cases e.1
   exact⟨cur,_,_,h4,hsz,ab6,fun _=>⟨rfl,rfl,h5⟩,h2,he.symm⟩
  ·exact⟨cur,ty,fz,hs.gj _ _ h4,hsz,ab6,fun e=>by omega,h2,he.symm⟩
theorem oV(h:iu P σ K t a=some r):
  ∃av,K av σ=some r/\∀(E:Env) (μ:Mu) (ρ:bD) (va:Value) (w:World),VR μ ρ a va->SR E μ ρ σ w->∃v,(Instr.loadAt t va).run P w=.ok v w/\VR μ ρ av v:=by
 unfold iu at h;replace h:=aU h;obtain⟨ht,h⟩:=h;simp only[pt]at ht;obtain⟨⟨d,hd⟩,hlen,hsz,hI⟩:=gQ ht;have fin:∀(μ:Mu) (ρ:bD) (ad:Addr) (cs:List AV) (vs:List Value) (w:World),fe μ ρ cs vs->cs.length=P.cellsOf t->(∀j v,vs[j]?=some v->w.cell? (ad.add j)=some v)->
   ∃v,(Instr.loadAt t (.pointer (some ad))).run P w=.ok v w/\VR μ ρ (Ym (eO P t) cs) v:=fun μ ρ ad cs vs w h1 h2 h3=>by
  refine⟨valOf (eO P t) vs,?_,wI ht h1 h2⟩;simp only[Instr.loadAt,Instr.sureAddr,fy,fv,eh];exact xS ht (h1.1.trans h2) h3
 split at h
 ·rename_i l i j;split at h
  ·cases h
  ·rename_i b hb;replace h:=aU h;obtain⟨hm,h⟩:=h;have hm:b.mode≠0:=fun e=>by rw[e]at hm;cases hm
   cases ho:b.obj with
   |true=>
    rw[ho]at h;simp only[cond]at h;replace h:=ah h;obtain⟨hle,h⟩:=h;simp only[dd]at hle;have hj:=pe hle.1;have hi:=cj hle.2;refine⟨_,h,fun E μ ρ va w ha hs=>?_⟩;cases ha with
    |c hx=>cases hx with
     |d hd=>cases hd
     | @ptr _ _ _ rb hl hp=>
      obtain⟨cur,ty,fz,h1,h2,h3,_⟩:=rX hs hl hp hb hm ho;rw[hi,By,gv];refine fin μ ρ _ _ _ w (h3.sub j (P.cellsOf t)) (by simp;omega) fun q v hq=>?_;grind [bZ,cell_of_row]
   |false=>
    rw[ho]at h;simp only[jz]at h;rcases Bool.eq_false_or_eq_true (Ra P t b i j)with hbig|hbig
    ·rw[hbig]at h;simp only[me]at h;obtain⟨hg,h⟩:=ah h;simp only[dd,tp]at hg;simp only[Ra,dd]at hbig;obtain⟨⟨⟨⟨⟨g1,g2⟩,g3⟩,g4⟩,g5⟩,g6⟩:=hbig;have g2:=cj g2;have g4:=cj g4;have g5:=cj g5;subst g4;subst g5;refine⟨_,h,fun E μ ρ va w ha hs=>?_⟩;cases ha with
     |c hx=>cases hx with
      |d hd=>cases hd
      | @ptr _ _ _ rb hl hp=>
       have hbl:=hs.blk l rb b hl hb hm;obtain⟨cur,hc⟩:=hbl.live hp;obtain⟨ty,fz,eY⟩:=hc.heap hs.gj;have hrow:=hc.mq ho;have hs1:rb.sz=1:=hbl.sz.trans g2;have hfit:P.cellsOf t<=cur.size:=by
        have:=hbl.fit;rw[hs1,oe,hbl.n,hg.1,<-hc.size]at this;exact this
       have:=fin μ ρ ⟨rb.b,0*rb.sz+0,none⟩ (b.xs.map fun e=>cellAt e 0) (cur.toList.take (P.cellsOf t)) w ⟨by simp[hg.1,hfit],fun q c u hq hu=>?_⟩ (by simp[hg.1]) fun q v hq=>?_
       ·rw[g1]at this;exact this
       ·rw[et,kn]at hq;obtain⟨e,he,hce⟩:=hq;rw[oa]at hu;split at hu
        ·have h1:=ka.1 hg.2 e (dp he);unfold Aa at h1;split at h1
         ·rename_i x;obtain⟨u',h2,h3⟩:=hrow.2 q _ 0 (.v x) he rfl;rw[hs1,oe,na]at h2;rw[pD,h2]at hu;injection hu with hu;subst hu;have:c=.v x:=by rw[<-hce];rfl
          rw[this];exact .d h3
         ·cases h1
        ·cases hu
       grind [bZ,cell_of_row]
    ·rw[hbig]at h;simp only[jz]at h;replace h:=ah h;obtain⟨hg,h⟩:=h;simp only[dd,tp]at hg;refine⟨_,h,fun E μ ρ va w ha hs=>?_⟩;cases ha with
     |c hx=>cases hx with
      |d hd=>cases hd
      | @ptr _ _ _ rb hl hp=>
       have hbl:=hs.blk l rb b hl hb hm;obtain⟨cur,hc⟩:=hbl.live hp;obtain⟨ty,fz,eY⟩:=hc.heap hs.gj;have hrow:=hc.mq ho;have hxi:b.xs[i]?=some (aw b.xs i):=by simp[aw,kc,ao hg.1]
       let vs:=(cur.toList.drop (i*rb.sz+j)).take (P.cellsOf t)
       have hcell:∀q,q<P.cellsOf t->∃u,cur[i*rb.sz+j+q]?=some u/\CR μ ρ (cellAt (aw b.xs i) (j+q)) u:=fun q hq=>by
        have hkq:(uo P t)[q]?=some (uo P t)[q]:=ao (by omega);obtain⟨u,h1,h2⟩:=hrow.2 i _ (j+q) _ hxi (qN hg.2 hkq);rw[<-vj]at h1;exact⟨u,h1,.d h2⟩
       have hvs:∀q,q<P.cellsOf t->vs[q]?=cur[i*rb.sz+j+q]?:=fun q hq=>by
        grind
       have hvl:vs.length=P.cellsOf t:=by
        rcases Nat.eq_zero_or_pos (P.cellsOf t)with e|e
        ·simp[vs,e]
        ·obtain⟨u,h1,_⟩:=hcell (P.cellsOf t-1) (by omega);grind
       refine fin μ ρ _ _ vs w (xT hg.2 (by rw[hvl,hlen]) fun q c u hq hcq huq=>?_) (by rw[(kP _ _ _).1,hlen]) fun q v hq=>?_
       ·obtain⟨u',h1,h2⟩:=hcell q (by omega);rw[hvs q (by omega),h1]at huq;injection huq with huq;have hcc:cellAt (aw b.xs i) (j+q)=c:=by simp[cellAt,kc,hcq]
        grind
       grind [List.getElem?_eq_some_iff,bZ,cell_of_row]
 ·rename_i l j n i;split at h
  ·cases h
  ·rename_i b hb;replace h:=aU h;obtain⟨hm,h⟩:=h;simp only[km,pt]at hm;obtain⟨⟨⟨h1,ho⟩,jm⟩,hle⟩:=hm;have hm:b.mode≠0:=fun e=>by rw[e]at h1;cases h1
   have hle:=pe hle;refine⟨_,h,fun E μ ρ va w ha hs=>?_⟩;cases ha with
   |c hx=>cases hx with
    |d hd=>cases hd
    | @px _ _ _ _ rb hl hp hi=>
     obtain⟨cur,ty,fz,h1,h2,h3,_⟩:=rX hs hl hp hb hm ho;have hlt:j+i<(aw b.xs 0).length:=by omega
     have Rp:j+i<cur.toList.length:=by rw[h3.1];exact hlt
     rw[Au i _ 0 (nt _) (by simp;omega),ahk];have hc:(((aw b.xs 0).drop j).take n).getD i .un=(aw b.xs 0)[j+i]:=by
      grind
     rw[hc];refine⟨cur.toList[j+i],?_,.c (h3.2 _ _ _ (ao hlt) (ao Rp))⟩;have hone:P.cellsOf t=1:=by
      grind
     have:=xS (w:=w) ht (a:=⟨rb.b,j+i,none⟩) (vs:=[cur.toList[j+i]]) (by simp[hone]) (fun q v hq=>by
      cases q with
      |zero=>
       simp only[te,bj]at hq;rw[bZ,cell_of_row w _ _ cur ty fz h1,<-hq];simp at Rp⊢
      |succ q=>simp at hq)
     rw[jm]at this;simp only[Instr.loadAt,Instr.sureAddr,fy,fv,eh];exact this
 ·rename_i cs off;replace h:=ah h;obtain⟨hg,h⟩:=h;refine⟨_,h,fun E μ ρ va w ha hs=>?_⟩;cases ha with
  |c hx=>cases hx with
   |d hd=>cases hd with
    | @ep _ _ b o vals hcell hv=>
     have hq:∀q,q<P.cellsOf t->off+q<cs.length:=fun q hq=>by
      have hkq:(uo P t)[q]?=some (uo P t)[q]:=ao (by omega);exact(eR.1 (qN hg hkq)).1
     refine fin μ ρ _ _ ((List.range (P.cellsOf t)).map fun q=>vals (off+q)) w (xT hg (by simp[hlen]) fun q c u KI hcq huq=>?_) (by rw[(kP _ _ _).1,hlen]) fun q v hvq=>?_
     ·have hq':q<P.cellsOf t:=by omega
      simp only[et,vt hq',yb,bj]at huq;rw[<-huq];exact .d (hv _ _ hcq)
     ·have hq':q<P.cellsOf t:=by grind
      simp only[et,vt hq',yb,bj]at hvq;rw[bZ,vj,<-hvq];exact xQ hs.gj (hcell _ (hq q hq'))
 ·cases h
end
end
section
theorem Addr.Aw(a:Addr)(m n:Nat):(a.add m).add n=a.add (m+n):=by
 unfold Addr.add;grind
section
variable{P:Program}{E:Env}{μ:Mu}{ρ:bD}{σ:Store}{w:World}
theorem VI{xs:List (List AV)}{v:Value}(h:GG σ a=some xs)(hv:VR μ ρ a v)(hs:SR E μ ρ σ w):
  ∃nil sz A c news,v=.slice A xs.length c/\SV μ w nil sz xs A c news:=by
 unfold GG at h;split at h
 ·injection h with h;subst h;cases hv with
  |c hx=>cases hx with
   |d hd=>
    obtain⟨A,c,news,h1,h2⟩:=hd.view hs.gj;grind
 ·split at h
  ·cases h
  ·rename_i b hb;replace h:=aU h;obtain⟨hm,h⟩:=h;obtain⟨hm,ho⟩:=mw hm;injection h with h;subst h;cases hv with
   |c hx=>
    obtain⟨A,c,news,h1,h2,_⟩:=hx.wG hs hb hm ho;grind
 ·cases h
theorem oW{n:Nat}{v:Value}(h:kL σ a=some n)(hv:VR μ ρ a v)(hs:SR E μ ρ σ w):∃A c,v=.slice A n c:=by
 unfold kL at h;split at h
 ·injection h with h;subst h;cases hv with
  |c hx=>cases hx with
   |d hd=>cases hd;exact⟨_,_,rfl⟩
 ·rename_i l off cut;split at h
  ·cases h
  ·rename_i b hb;replace h:=aU h;obtain⟨hm,h⟩:=h;obtain⟨hm,ho⟩:=mw hm;injection h with h;cases hv with
   |c hx=>
    cases hx with
    |d hd=>cases hd
    | @sl _ _ _ rb a len cap hl hp ha hlen hoff hcap jE=>
     refine⟨some a,cap,?_⟩;rw[<-h,hlen,(hs.blk l rb b hl hb hm).n];cases cut<;>rfl
    | @tB _ _ _ rb hl hn hoff Ao=>
     refine⟨none,0,?_⟩;have hx:b.xs.length=0:=by rw[<-(hs.blk l rb b hl hb hm).n];exact hn
     grind
 ·cases h
theorem xU(h:qe P σ K t a=some r):
  ∃av,K av σ=some r/\∀(E:Env) (μ:Mu) (ρ:bD) (va:Value) (ty:TypeId) (w:World),VR μ ρ a va->SR E μ ρ σ w->∃v,(Builtin.len_ #[t] ty #[va]).run P w=.ok v w/\VR μ ρ av v:=by
 unfold qe at h;split at h
 ·rename_i s hu;refine⟨_,h,fun E μ ρ va ty w ha hs=>?_⟩;have:=ha.dB;subst this;exact⟨_,by simp[Builtin.len_,gg hu,goInt],.int _ _⟩
 ·rename_i n e hu;exact⟨_,h,fun E μ ρ va ty w ha hs=>⟨_,by simp[Builtin.len_,gg hu,goInt],.int _ _⟩⟩
 ·rename_i e hu;split at h
  ·rename_i n e' hu';exact⟨_,h,fun E μ ρ va ty w ha hs=>⟨_,by simp[Builtin.len_,gg hu,gg hu',goInt],.int _ _⟩⟩
  ·cases h
 ·rename_i e hu;split at h
  ·rename_i n hn;refine⟨_,h,fun E μ ρ va ty w ha hs=>?_⟩;obtain⟨A,c,Gx⟩:=oW hn ha hs;subst Gx;exact⟨_,by simp[Builtin.len_,gg hu,goInt],.int _ _⟩
  ·cases h
 ·cases h
theorem mh{o:Option AV}{x:Option Int}(h:Rb o=some x){vo:Option Value}(hv:∀a,o=some a->∃v,vo=some v/\VR μ ρ a v)(hn:o=none->vo=none):
  (x=none/\vo=none)\/ ∃k n,x=some n/\vo=some (.int k n):=by
 cases o with
 |none=>simp[Rb]at h;grind
 |some a=>
  obtain⟨v,h1,h2⟩:=hv a rfl;unfold Rb at h;split at h
  ·rename_i e;cases e
  ·rename_i k n e;injection e with e;subst e;injection h with h;have:=h2.dB;grind
  ·cases h
theorem qh{len cap:Nat}{MP:Bool}{lo hi:Option Int}{CN xV:Option Value}(h1:(lo=none/\CN=none)\/ ∃k n,lo=some n/\CN=some (.int k n))
  (h2:(hi=none/\xV=none)\/ ∃k n,hi=some n/\xV=some (.int k n)) (hc:len<=cap) (l0:0<=lo.getD 0) (lh:lo.getD 0<=hi.getD (len:Int)) (hl:hi.getD (len:Int)<=(len:Int)):
  (Instr.sliceBounds MP len cap CN xV none).run P w=.ok ((lo.getD 0).toNat,(hi.getD (len:Int)).toNat,cap) w:=by
 rcases h1 with⟨e,e'⟩|⟨k,n,e,e'⟩<;>rcases h2 with⟨f,f'⟩|⟨k',n',f,f'⟩<;>subst e<;>subst e'<;>subst f<;>subst f'<;>
  simp only[Hp,Option.getD_none]at l0 lh hl⊢
 ·simp only[Instr.sliceBounds,fy,fv,eh,Int.toNat_zero,kb]
 ·have c1:0<=n'/\n'<=(cap:Int):=⟨by omega,by omega⟩;simp only[Instr.sliceBounds,Instr.sliceBound,asIntOf,fy,fv,eh,Int.toNat_zero,Sem.run_ite,ee c1]
 ·have c1:0<=n/\n<=(len:Int):=⟨by omega,by omega⟩;simp only[Instr.sliceBounds,Instr.sliceBound,asIntOf,fy,fv,eh,kb,Sem.run_ite,ee c1]
 ·have c1:0<=n'/\n'<=(cap:Int):=⟨by omega,by omega⟩;have c2:0<=n/\n<=(n'.toNat:Int):=⟨by omega,by omega⟩;simp only[Instr.sliceBounds,Instr.sliceBound,asIntOf,fy,fv,eh,Sem.run_ite,ee c1,ee c2]
theorem DR.cut{nil:Bool}{sz:Nat}{xs:List (List AV)}{A:Option Addr}{n c l h:Nat}(hd:DR μ (.aq nil sz xs) (.slice A n c))(hl:l<=h)(hh:h<=xs.length):
  DR μ (.aq nil sz ((xs.drop l).take (h-l))) (.slice (if c=l then A else A.map (·.add (l*sz))) (h-l) (c-l)):=by
 cases hd with
 |aq vals hnil hA hc hsz hcell hv=>
  have hlen:((xs.drop l).take (h-l)).length=h-l:=by simp;omega
  have hmem:∀e∈(xs.drop l).take (h-l),e∈xs:=fun e he=>zv (C1 he);have hget:∀(k:Nat) e,((xs.drop l).take (h-l))[k]?=some e->xs[l+k]?=some e:=fun k e he=>by
   grind
  have:(Value.slice (if c=l then A else A.map (·.add (l*sz))) (h-l) (c-l))=.slice (if c=l then A else A.map (·.add (l*sz))) ((xs.drop l).take (h-l)).length (c-l):=by rw[hlen]
  rw[this];by_cases hcl:c=l
  ·have h0:h-l=0:=by omega
   have he:(xs.drop l).take (h-l)=[]:=by rw[h0];simp
   rw[he,ee hcl];exact .aq (xs:=[]) (fun _ _=>undef) hnil (fun e=>⟨rfl,by have:=(hA e).2;omega⟩) (nt _) (fun e he=>by cases he) (fun a ha k j hk=>absurd hk (B4 _)) (fun k e j u he=>by simp at he)
  ·rw[eg hcl];refine .aq (fun k j=>vals (l+k) j) ?_ (fun e=>?_) (by rw[hlen];omega) (fun e he=>hsz e (hmem e he)) (fun a ha k j hk hj=>?_) (fun k e j u he hu=>hv (l+k) e j u (hget k e he) hu)
   ·grind
   ·simp_all
   ·cases A with
    |none=>cases ha
    |some a0=>
     grind [Option.some.injEq,Addr.Aw,Nat.add_assoc,Nat.add_mul]
theorem CR.cut{nil:Bool}{b off:Nat}{cut cut':Option Nat}{A:Option Addr}{n c l h sz:Nat}{k:gC}(hd:CR μ ρ (.sl nil b off cut) (.slice A n c))(hs:SR E μ ρ σ w)(hk:σ[b]?=some k)(hm:k.mode≠0)(hsz:k.sz=sz)
  (hl:l<=h) (hh:h<=n) (Ao:cut'=some (h-l)\/(h=n/\cut'=Ow (n-l) cut)):
  CR μ ρ (.sl nil b (off+l) cut') (.slice (if c=l then A else A.map (·.add (l*sz))) (h-l) (c-l)):=by
 cases hd with
 |d hx=>cases hx
 | @sl _ _ _ rb a _ _ hb hp ha hlen hoff hcap jE=>
  have hbs:=(hs.blk b rb k hb hk hm).sz;have qO:h-l=qJ rb.n (off+l) cut':=by
   rcases Ao with e|⟨e1,e2⟩
   ·subst e;rfl
   ·subst e2;cases cut with
    |none=>simp only[qJ,Ow]at hlen⊢;omega
    |some m=>simp only[qJ,Ow];omega
  by_cases hcl:c=l
  ·rw[ee hcl];refine .sl hb hp ?_ qO (by omega) (by omega) (by grind);grind
  ·rw[eg hcl];refine .sl hb hp ?_ qO (by omega) (by omega) (by grind);grind [bZ,Nat.add_mul]
 | @tB _ _ _ rb hb hn ho agI=>
  have h1:l=0:=by omega
  have h2:h=0:=by omega
  subst h1;subst h2;simp only[Hh,xt,na];refine .tB hb hn ho fun m hm'=>?_;rcases Ao with e|⟨_,e⟩
  ·grind
  ·rw[e]at hm';cases cut with
   |none=>cases hm'
   |some x=>injection hm' with hm';exact hm'.symm
theorem run_sliceAt_slice{e:TypeId}(hu:P.underlying t=some (.slice e))(hI:(P.info? e).isSome=true){A:Option Addr}{n c:Nat}{lo hi:Option Int}{CN xV:Option Value}
  (h1:(lo=none/\CN=none)\/ ∃k n,lo=some n/\CN=some (.int k n)) (h2:(hi=none/\xV=none)\/ ∃k n,hi=some n/\xV=some (.int k n)) (hc:n<=c)
  (l0:0<=lo.getD 0) (lh:lo.getD 0<=hi.getD (n:Int)) (hl:hi.getD (n:Int)<=(n:Int)):
  (Instr.sliceAt t (.slice A n c) CN xV none).run P w=
   .ok (.slice (if c=(lo.getD 0).toNat then A else A.map (·.add ((lo.getD 0).toNat*P.cellsOf e))) ((hi.getD (n:Int)).toNat-(lo.getD 0).toNat) (c-(lo.getD 0).toNat)) w:=by
 simp only[Instr.sliceAt,fy,gg hu,eh,Instr.slice,qh h1 h2 hc l0 lh hl,dg hI,fv]
theorem sV{a:AV}{lo hi:Option AV}(h:gX P σ K t a lo hi=some r):
  ∃av,K av σ=some r/\∀(E:Env) (μ:Mu) (ρ:bD) (va:Value) (CN xV:Option Value) (w:World),VR μ ρ a va->(∀a,lo=some a->∃v,CN=some v/\VR μ ρ a v)->(lo=none->CN=none)->
   (∀a,hi=some a->∃v,xV=some v/\VR μ ρ a v)->(hi=none->xV=none)->SR E μ ρ σ w->∃v,(Instr.sliceAt t va CN xV none).run P w=.ok v w/\VR μ ρ av v:=by
 unfold gX at h;split at h
 ·rename_i s l h' hu hlo hhi;replace h:=ah h;obtain⟨hb,h⟩:=h;simp only[dd,tp]at hb;refine⟨_,h,fun E μ ρ va CN xV w ha h1 h2 h3 h4 hs=>?_⟩;have:=ha.dB;subst this;refine⟨_,?_,.str _⟩;simp only[Instr.sliceAt,fy,gg hu,eh,Instr.slice,Option.isSome_none,tx,tm,fv,
   qh (mh hlo h1 h2) (mh hhi h3 h4) (dk s.size) hb.1.1 hb.1.2 hb.2]
 ·rename_i e nil sz xs l h' hu hlo hhi;replace h:=aU h;obtain⟨hz,h⟩:=h;simp only[pt,dd]at hz;have hsz:=cj hz.1;have key:∀(ys:List (List AV)),K (.aq nil sz ys) σ=some r->0<=l.getD 0->l.getD 0<=h'.getD (xs.length:Int)->h'.getD (xs.length:Int)<=(xs.length:Int)->
    ys=(xs.drop (l.getD 0).toNat).take ((h'.getD (xs.length:Int)).toNat-(l.getD 0).toNat)->∃av,K av σ=some r/\∀(E:Env) (μ:Mu) (ρ:bD) (va:Value) (CN xV:Option Value) (w:World),VR μ ρ (.aq nil sz xs) va->(∀a,lo=some a->∃v,CN=some v/\VR μ ρ a v)->(lo=none->CN=none)->
   (∀a,hi=some a->∃v,xV=some v/\VR μ ρ a v)->(hi=none->xV=none)->SR E μ ρ σ w->∃v,(Instr.sliceAt t va CN xV none).run P w=.ok v w/\VR μ ρ av v:=fun ys hk l0 lh hl hys=>by
   refine⟨_,hk,fun E μ ρ va CN xV w ha h1 h2 h3 h4 hs=>?_⟩;cases ha with
   |c hx=>cases hx with
    |d hd=>
     have Ys:=hd;cases hd with
     | @aq _ _ _ A c vals hnil hA hc agP hcell hv=>
      refine⟨_,run_sliceAt_slice hu hz.2 (mh hlo h1 h2) (mh hhi h3 h4) hc l0 lh hl,?_⟩;rw[hys,<-hsz];exact .c (.d (Ys.cut (by omega) (by omega)))
  split at h
  ·exact key _ h (by simp) (by simp) (by simp) (by simp)
  ·replace h:=ah h;obtain⟨hb,h⟩:=h;simp only[dd,tp]at hb;grind [List.take_of_length_le]
  ·replace h:=ah h;obtain⟨hb,h⟩:=h;simp only[dd,tp]at hb;exact key _ h (by simp) hb.1 hb.2 (by simp)
  grind
 ·rename_i e nil i off cut l h' hu hlo hhi;split at h
  ·rename_i n b hn hb;replace h:=aU h;obtain⟨hz,h⟩:=h;simp only[pt,dd]at hz;have hsz:=cj hz.1;have hm:b.mode≠0:=by
    simp only[kL,hb]at hn;exact(mw (aU hn).1).1
   have key:∀(lo':Nat) (cut':Option Nat),K (.sl nil i lo' cut') σ=some r->0<=l.getD 0->l.getD 0<=h'.getD (n:Int)->h'.getD (n:Int)<=(n:Int)->lo'=off+(l.getD 0).toNat->
    (cut'=some ((h'.getD (n:Int)).toNat-(l.getD 0).toNat)\/((h'.getD (n:Int)).toNat=n/\cut'=Ow (n-(l.getD 0).toNat) cut))->
    ∃av,K av σ=some r/\∀(E:Env) (μ:Mu) (ρ:bD) (va:Value) (CN xV:Option Value) (w:World),VR μ ρ (.sl nil i off cut) va->(∀a,lo=some a->∃v,CN=some v/\VR μ ρ a v)->(lo=none->CN=none)->
   (∀a,hi=some a->∃v,xV=some v/\VR μ ρ a v)->(hi=none->xV=none)->SR E μ ρ σ w->∃v,(Instr.sliceAt t va CN xV none).run P w=.ok v w/\VR μ ρ av v:=fun lo' cut' hk l0 lh hl aeG ab7=>by
    refine⟨_,hk,fun E μ ρ va CN xV w ha h1 h2 h3 h4 hs=>?_⟩;obtain⟨A,c,Gx⟩:=oW hn ha hs;subst Gx;cases ha with
    |c hx=>
     have hc:n<=c:=by
      cases hx with
      |d hd=>cases hd
      |sl _ _ _ _ _ hcap=>exact hcap
      |tB=>exact dk _
     refine⟨_,run_sliceAt_slice hu hz.2 (mh hlo h1 h2) (mh hhi h3 h4) hc l0 lh hl,?_⟩;rw[aeG];exact .c (hx.cut hs hb hm hsz (by omega) (by omega) ab7)
   split at h
   ·refine key _ _ h (by simp) (by simp) (by simp) (by simp) (.inr ⟨by simp,?_⟩);cases cut with
    |none=>rfl
    |some m=>
     simp only[kL,hb]at hn;have:=(aU hn).2;simp at this;simp[this,Ow]
   all_goals grind
  ·cases h
 ·cases h
end
end
