/- Places of elements; conversions; new blocks. -/
import Derived.Laws.MakeOwn
import Derived.Test.YtnjccbnlmdajkaaGreatEv04
set_option linter.all false
namespace Go.Ev
variable{t:TypeId}{σ':Store}{xs:List (List AV)}{W:List Nat}{l:Nat}{a:AV}{e:TypeId}{cs:List AV}{q:Bool}{cur:Array Value}{sz:Nat}{vs:List Value}{n:Nat}{L:List Nat}{w':World}{f:FuncId}{s:Store}{news:List Value}{parts:List (Nat×AV)}{ys:List (List AV)}{μ':Mu}{x:Operand}{d:TypeDesc}{b:AV}{α:Type}{ρ':bD}{av:AV}{n':Nat}{c:Bool}{k:gC}
section
structure Grow(q:Bool)(μ:Mu)(ρ:bD)(n:Nat)(w:World)(μ':Mu)(ρ':bD)(n':Nat)(w':World):Prop where
 mu:ak μ μ'
 rU:bV ρ ρ'
 len:n<=n'
 dom:∀l rb,ρ' l=some rb->ρ l=some rb\/(n<=l/\l<n'/\(q=true->rb.ph=true\/w.heap.size<=rb.b))
 keep:q=true->∀b,b<w.heap.size->w'.heap[b]?=w.heap[b]?
 size:w.heap.size<=w'.heap.size
 muq:q=true->∀b o,μ' b=some o->μ b=some o\/w.heap.size<=b
def bu(ρ:bD)(n m:Nat):Prop:=∀l,n<=l->l<m->ρ l=none
theorem Grow.refl(q:Bool)(μ:Mu)(ρ:bD)(n:Nat)(w:World):Grow q μ ρ n w μ ρ n w:=
 ⟨ak.refl μ,bV.refl ρ,dk n,fun _ _ h=>.inl h,fun _ _ _=>rfl,dk _,fun _ _ _ h=>.inl h⟩
theorem Grow.trans{q:Bool}{μ μ' mz:Mu}{ρ ρ' OI:bD}{n n' n'':Nat}{w w' w'':World}(h:Grow q μ ρ n w μ' ρ' n' w')(k:Grow q μ' ρ' n' w' mz OI n'' w''):Grow q μ ρ n w mz OI n'' w'':=by
 refine⟨h.mu.trans k.mu,h.rU.trans k.rU,iS h.len k.len,fun l rb hl=>?_,fun hq b hb=>?_,iS h.size k.size,fun hq b o hb=>?_⟩
 ·rcases k.dom l rb hl with h1|⟨h1,h2,h3⟩
  ·rcases h.dom l rb h1 with h4|⟨h4,h5,h6⟩
   ·exact .inl h4
   ·exact .inr ⟨h4,wx h5 k.len,h6⟩
  ·exact .inr ⟨iS h.len h1,h2,fun hq=>(h3 hq).imp id (iS h.size)⟩
 ·rw[k.keep hq b (wx hb h.size),h.keep hq b hb]
 ·rcases k.muq hq b o hb with h1|h1
  ·exact h.muq hq b o h1
  ·exact .inr (iS h.size h1)
theorem Grow.loud{μ:Mu}{ρ:bD}{w:World}(h:Grow q μ ρ n w μ' ρ' n' w'):Grow false μ ρ n w μ' ρ' n' w':=
 ⟨h.mu,h.rU,h.len,fun l rb hl=>(h.dom l rb hl).imp id fun⟨a,b,_⟩=>⟨a,b,fun e=>by cases e⟩,fun e=>(by cases e),h.size,fun e=>(by cases e)⟩
theorem bu.grow{μ:Mu}{ρ:bD}{m:Nat}{w:World}(h:bu ρ n m)(g:Grow q μ ρ n w μ' ρ' n' w'):bu ρ' n' m:=fun l h1 h2=>by
 cases e:ρ' l with
 |none=>rfl
 |some rb=>
  rcases g.dom l rb e with h3|⟨_,h3,_⟩
  ·rw[h l (iS g.len h1) h2]at h3;cases h3
  ·omega
theorem bu.fresh{ρ:bD}{σ:Store}{m:Nat}(h:bu ρ σ.length m)(hm:σ.length<m):eF ρ σ:=h _ (dk _) hm
section
variable{P:Program}{E:Env}{μ:Mu}{ρ:bD}{σ:Store}{w:World}
theorem kQ(hf:eF ρ σ)(rb:RB)(k:gC)(w':World)(hq:q=true->rb.ph=true\/w.heap.size<=rb.b)(hk:q=true->∀b,b<w.heap.size->w'.heap[b]?=w.heap[b]?)(hz:w.heap.size<=w'.heap.size):
  Grow q μ ρ σ.length w μ (df ρ σ.length rb) (σ++[k]).length w':=by
 refine⟨ak.refl μ,rT (fun r e=>by rw[hf]at e;cases e),by simp,fun l r hl=>?_,hk,hz,fun _ _ _ h=>.inl h⟩;grind [cZ]
theorem Rq{R:Type}{a b:Option R}{r:R}(h:cond c a b=some r):(c=true/\a=some r)\/(c=false/\b=some r):=by
 grind
theorem ny{R:Type}{K:AV->Store->Option R}{r:R}{i:AV}{ct:Bool}(h:cH P σ K t a i ct=some r):
  ∃av,K av σ=some r/\∀(E:Env) (μ:Mu) (ρ:bD) (va vi:Value) (w:World),VR μ ρ a va->VR μ ρ i vi->SR E μ ρ σ w->∃v,(Instr.indexAt t va vi).run P w=.ok v w/\VR μ ρ av v:=by
 unfold cH at h;split at h
 ·rename_i e k n hu;replace h:=aU h;obtain⟨ht,h⟩:=h;simp only[pt,dd]at ht;have hI:=(gQ ht.1).2.2.2;have hpos:0<P.cellsOf e:=by simpa [AT]using ht.2
  have hrun:∀(ad:Addr) (len c:Nat) (w:World),0<=n->n<(len:Int)->(Instr.indexAt t (.slice (some ad) len c) (.int k n)).run P w=.ok (.pointer (some (ad.add (n.toNat*P.cellsOf e)))) w:=fun ad len c w h0 h1=>by
   simp only[Instr.indexAt,asIntOf,fy,fv,eh,gg hu,h0,h1,and_self,xt,dg hI]
  split at h
  ·rename_i nil sz xs;replace h:=ah h;obtain⟨hz,h⟩:=h;have hsz:=cj hz;replace h:=ah h;obtain⟨hr,h⟩:=h;obtain⟨h0,h1,h2⟩:=gR hr;refine⟨_,h,fun E μ ρ va vi w ha hi hs=>?_⟩;have:=hi.dB;subst this;cases ha with
   |c hx=>cases hx with
    |d hd=>cases hd with
     | @aq _ _ _ A c vals hnil hA hc aeH hcell hv=>
      cases A with
      |none=>grind
      |some ad=>
       refine⟨_,hrun ad _ _ w h0 h1,?_⟩;have hel:xs[n.toNat]?=some (aw xs n.toNat):=by simp[aw,kc,ao h2]
       have hlen:(aw xs n.toNat).length=sz:=aeH _ (dp hel);have hspot:∃b o,ad=⟨b,o,none⟩:=by
        have:=hcell ad rfl 0 0 (by omega) (by omega);rw[show(0*sz+0:Nat)=0 by omega]at this;obtain⟨b,o,s⟩:=ad;cases s with
        |none=>exact⟨b,o,rfl⟩
        |some s=>
         simp only[Addr.add,xt,gL]at this;grind
       obtain⟨b,o,e⟩:=hspot;subst e;have hp:=DR.ep (μ:=μ) (cs:=aw xs n.toNat) (off:=0) (b:=b) (o:=o+n.toNat*sz) (fun j=>vals n.toNat j) (fun j hj=>by
        grind [bZ]) (fun j u hu=>hv _ _ _ _ hel hu)
       rw[bZ,<-hsz];exact .c (.d hp)
  ·rename_i nil l off cut;split at h
   ·rename_i len b hlen hb;replace h:=ah h;obtain⟨hz,h⟩:=h;have hsz:=cj hz;replace h:=ah h;obtain⟨hr,h⟩:=h;obtain⟨h0,h1,h2⟩:=gR hr;have hm:b.mode≠0:=by
     simp only[kL,hb]at hlen;exact(mw (aU hlen).1).1
    refine⟨_,h,fun E μ ρ va vi w ha hi hs=>?_⟩;have:=hi.dB;subst this;obtain⟨A,c,Gx⟩:=oW hlen ha hs;subst Gx;cases ha with
    |c hx=>cases hx with
     |d hd=>cases hd
     | @sl _ _ _ rb a _ _ hl hp ha qO hoff hcap jE=>
      refine⟨_,hrun a _ _ w h0 h1,?_⟩;have hbs:=(hs.blk l rb b hl hb hm).sz;rcases ha with ha|⟨ha,_⟩
      ·rw[ha,bZ,<-hsz,<-hbs,<-sh];have:=CR.ptr (μ:=μ) (ρ:=ρ) (l:=l) (i:=off+n.toNat) (j:=0) hl hp;exact .c this
      ·omega
     |tB=>omega
   ·cases h
  ·cases h
 ·rename_i len e k n hu;replace h:=aU h;obtain⟨ht,h⟩:=h;simp only[pt]at ht;have hI:=(gQ ht).2.2.2;have hrun:∀(ad:Addr) (w:World),0<=n->n<(len:Int)->(Instr.indexAt t (.pointer (some ad)) (.int k n)).run P w=.ok (.pointer (some (ad.add (n.toNat*P.cellsOf e)))) w:=fun ad w h0 h1=>by
   simp only[Instr.indexAt,asIntOf,fy,fv,eh,gg hu,Instr.sureAddr,h0,h1,and_self,xt,dg hI]
  split at h
  ·rename_i l i j;split at h
   ·cases h
   ·rename_i b hb;cases ho:b.obj with
    |true=>
     rw[ho]at h;simp only[me]at h;cases ct with
     |true=>
      simp only[me]at h;replace h:=ah h;obtain⟨hr,h⟩:=h;obtain⟨h0,h1,h2⟩:=gR hr;refine⟨_,h,fun E μ ρ va vi w ha hi hs=>?_⟩;have:=hi.dB;subst this;cases ha with
      |c hx=>cases hx with
       |d hd=>cases hd
       | @ptr _ _ _ rb hl hp=>
        refine⟨_,hrun _ w h0 h1,?_⟩;rw[bZ,vj];exact .c (.ptr hl hp)
     |false=>
      simp only[jz]at h;replace h:=ah h;obtain⟨hc,h⟩:=h;simp only[dd]at hc;have hone:=cj hc.1;have hi0:=cj hc.2;replace h:=ah h;obtain⟨hr,h⟩:=h;obtain⟨h0,h1,h2⟩:=gR hr;refine⟨_,h,fun E μ ρ va vi w ha hi hs=>?_⟩;have:=hi.dB;subst this;cases ha with
      |c hx=>cases hx with
       |d hd=>cases hd
       | @ptr _ _ _ rb hl hp=>
        refine⟨_,hrun _ w h0 h1,?_⟩;rw[bZ,hone,oe,hi0,By,gv];exact .c (.px hl hp h2)
    |false=>
     rw[ho]at h;simp only[jz]at h;rcases Rq h with⟨hc,h⟩|⟨hc,h⟩
     case inr=>
      replace h:=ah h;obtain⟨hr,h⟩:=h;obtain⟨h0,h1,h2⟩:=gR hr;refine⟨_,h,fun E μ ρ va vi w ha hi hs=>?_⟩;have:=hi.dB;subst this;cases ha with
      |c hx=>cases hx with
       |d hd=>cases hd
       | @ptr _ _ _ rb hl hp=>
        refine⟨_,hrun _ w h0 h1,?_⟩;rw[bZ,vj];exact .c (.ptr hl hp)
     simp only[dd]at hc;obtain⟨⟨⟨⟨hm,KG⟩,hi0⟩,VJ⟩,hsz⟩:=hc;have hm:b.mode≠0:=fun e=>by rw[e]at hm;cases hm
     have hi0:=cj hi0;have VJ:=cj VJ;have hsz:=cj hsz;replace h:=ah h;obtain⟨hr,h⟩:=h;obtain⟨h0,h1,h2⟩:=gR hr;refine⟨_,h,fun E μ ρ va vi w ha hi hs=>?_⟩;have:=hi.dB;subst this;cases ha with
     |c hx=>cases hx with
      |d hd=>cases hd
      | @ptr _ _ _ rb hl hp=>
       refine⟨_,hrun _ w h0 h1,?_⟩;have hbs:=(hs.blk l rb b hl hb hm).sz;rw[bZ,hi0,VJ,By,gv,hsz,<-hbs];exact .c (.ptr (i:=n.toNat) (j:=0) hl hp)
  ·rename_i cs off;replace h:=ah h;obtain⟨hr,h⟩:=h;obtain⟨h0,h1,h2⟩:=gR hr;refine⟨_,h,fun E μ ρ va vi w ha hi hs=>?_⟩;have:=hi.dB;subst this;cases ha with
   |c hx=>cases hx with
    |d hd=>cases hd with
     |ep vals hcell hv=>
      refine⟨_,hrun _ w h0 h1,?_⟩;rw[bZ,vj];exact .c (.d (.ep vals hcell hv))
  ·cases h
 ·cases h
end
end
section
section
variable{P:Program}{E:Env}{μ:Mu}{ρ:bD}{σ:Store}{w:World}
theorem Rs(hr:bJ μ sz xs news.toArray)(hl:news.length=xs.length*sz)(hb:xs.all isByte=true):
  news=(xs.map fun c=>ai (cellAt c 0)).map (Value.int .u8)/\(xs≠[]->sz=1):=by
 have hone:∀e∈xs,∃n,e=[.v (.int .u8 n)]:=fun e he=>by
  have:=ka.1 hb e he;unfold isByte at this;grind
 have hsz:xs≠[]->sz=1:=fun hne=>by
  obtain⟨e,xs',hx⟩:=List.exists_cons_of_ne_nil hne;obtain⟨n,he⟩:=hone e (by rw[hx];simp);rw[<-hr.1 e (by rw[hx];simp),he];rfl
 refine⟨?_,hsz⟩;by_cases hne:xs=[]
 ·simp_all
 ·have h1:=hsz hne;subst h1;apply kj;intro i;by_cases hi:i<xs.length
  ·have he:xs[i]?=some xs[i]:=ao hi;obtain⟨n,hn⟩:=hone xs[i] (Pe hi);obtain⟨u,h2,h3⟩:=hr.2 i xs[i] 0 (.v (.int .u8 n)) he (by rw[hn];rfl);have hu:u=.int .u8 n:=by cases h3;rfl
   simp only[oe,na,vy]at h2;rw[h2,hu];simp[he,hn,cellAt,ai]
  grind
theorem foldl_push(ns:List Int):∀(s:ByteArray),ns.foldl (fun r n=>r.push (UInt8.ofNat n.toNat)) s=⟨s.data++(ns.map fun n=>UInt8.ofNat n.toNat).toArray⟩:=by
 induction ns with
 |nil=>intro s;simp
 |cons n ns ih=>
  simp_all
theorem EU{R:Type}{K:AV->Store->Option R}{r:R}{src dst:TypeId}(h:lD P σ K src dst a=some r):
  ∃av σ',K av σ'=some r/\σ.length<=σ'.length/\(∃τ,σ'=σ++τ)/\∀(E:Env) (μ:Mu) (ρ:bD) (va:Value) (w:World),VR μ ρ a va->SR E μ ρ σ w->bu ρ σ.length σ'.length->
   ∃v w' ρ',(convert src dst va).run P w=.ok v w'/\Grow true μ ρ σ.length w μ ρ' σ'.length w'/\VR μ ρ' av v/\SR E μ ρ' σ' w':=by
 unfold lD at h;split at h
 ·rename_i k1 k k2 n hs hd;refine⟨_,σ,h,dk _,⟨[],by simp⟩,fun E μ ρ va w ha iY _=>?_⟩;have:=ha.dB;subst this;exact⟨_,w,ρ,by simp only[convert,fy,gg hs,gg hd,eh,Conv.intToInt,fv],.refl _ _ _ _ _,.int _ _,iY⟩
 ·rename_i s hs hd;refine⟨_,σ,h,dk _,⟨[],by simp⟩,fun E μ ρ va w ha iY _=>?_⟩;have:=ha.dB;subst this;exact⟨_,w,ρ,by simp only[convert,fy,gg hs,gg hd,eh,fv],.refl _ _ _ _ _,.str _,iY⟩
 ·rename_i e s hs hd;split at h
  ·rename_i he;refine⟨_,_,h,by simp,⟨_,rfl⟩,fun E μ ρ va w ha iY eC=>?_⟩;have hfr:eF ρ σ:=eC.fresh (by simp);have:=ha.dB;subst this
   let C:Array Value:=(s.data.map fun b=>Value.int .u8 b.toNat)++Array.replicate (grownCap w s.size 0 e-s.size) (.int .u8 0)
   let w1:=w.drew.alloc (.cells C e)
   let w2:=w1.freeze {block:=w.heap.size,off:=C.size} 1
   have hw1:w1.heap[w.heap.size]?=some (.cells C e (0,0)):=aZ w.drew _;have hw2:w2.heap[w.heap.size]?=some (.cells C e (C.size,C.size+1)):=by
    show((if(1:Nat)=0 then w1 else _).heap)[w.heap.size]?=_;grind
   have hold:∀x,x<w.heap.size->w2.heap[x]?=w.heap[x]?:=fun x hx=>by
    show((if(1:Nat)=0 then w1 else _).heap)[x]?=_;rw[eg (by decide)];simp only[Array.getElem?_modify,eg (Nat.ne_of_gt hx)];exact alloc_old w.drew _ x hx
   have ab8:w.heap.size<=w2.heap.size:=by
    grind
   have hrun:(convert src dst (.string s)).run P w=.ok (.slice (some ⟨w.heap.size,0,none⟩) s.size (grownCap w s.size 0 e)) w2:=by
    simp only[convert,fy,gg hs,gg hd,gg he,eh,Conv.stringToBytes,run_choose,Question.forced,tx,tm,newRow,run_newObj,fv,markStringish,run_shape];have hsh:w1.shape? w.heap.size=some (e,C.size):=by simp only[World.shape?,hw1]
    change((match w1.shape? w.heap.size with|some (_,n)=>freeze {block:=w.heap.size,off:=n} 1|_=>pure ():Sem Unit).run P w1).andThen _=_;rw[hsh];rfl
   have hlen:(s.data.toList.map mn).length=s.size:=by simp
   have hcap:=ON w s.size 0 e;have hss:s.data.size=s.size:=rfl;have hCs:C.size=grownCap w s.size 0 e:=by
    grind
   have hrow:bJ μ 1 (s.data.toList.map mn) C:=by
    refine⟨fun x hx=>?_,fun i x j c hx hc=>?_⟩
    ·obtain⟨b,_,hb⟩:=pw.1 hx;rw[<-hb];rfl
    ·simp only[et,kn]at hx;obtain⟨b,hb,hx⟩:=hx;subst hx;have VJ:j=0:=by
      have:=(eR.1 hc).1;simp[mn]at this;exact this
     subst VJ;simp only[mn,te,bj]at hc;subst hc;rw[pD]at hb;obtain⟨h1,h2⟩:=gd.1 hb;refine⟨.int .u8 (b.toNat:Int),?_,.v rfl⟩;grind
   have hs':=iY.aeE (w':=w2) hfr ⟨1,e,1,false,s.data.toList.map mn⟩ C rfl rfl (by grind) hrow hold ab8 rfl rfl rfl ⟨_,hw2,.inr ⟨rfl,dk _⟩⟩;refine⟨_,w2,_,hrun,kQ hfr _ _ _ (fun _=>.inr (dk _)) (fun _=>hold) ab8,?_,hs'⟩;have:(Value.slice (some ⟨w.heap.size,0,none⟩) s.size (grownCap w s.size 0 e))=.slice (some ⟨w.heap.size,0,none⟩) (s.data.toList.map mn).length (grownCap w s.size 0 e):=by rw[hlen]
   rw[this];exact .c (.sl (bK ρ σ.length ⟨w.heap.size,C.size,1,(s.data.toList.map mn).length,false⟩) rfl (.inl (by simp)) (by simp[qJ]) (by simp) (by rw[hlen];exact hcap) (by rw[hCs];simp))
  ·cases h
 ·rename_i a0 e hs hd;split at h
  ·rename_i xs he hx;replace h:=ah h;obtain⟨hb,h⟩:=h;refine⟨_,σ,h,dk _,⟨[],by simp⟩,fun E μ ρ va w ha iY _=>?_⟩;obtain⟨nil,sz,A,c,news,Gx,hv⟩:=VI hx ha iY;subst Gx;obtain⟨hnews,hone⟩:=Rs hv.row hv.len hb;refine⟨.string ⟨(xs.map byteOf).toArray⟩,w,ρ,?_,.refl _ _ _ _ _,.str _,iY⟩;have hc:(convert src dst (.slice A xs.length c)).run P w=(Conv.bytesToString (.slice A xs.length c)).run P w:=run_convert_bytes_string w src dst e A xs.length c hs he hd;rw[hc];cases A with
   |none=>
    have:=(hv.hA rfl).1;subst this;simp only[Conv.bytesToString,fv];rfl
   |some ad=>
    have QX:xs.length*sz=xs.length:=by
     by_cases e:xs=[]
     all_goals grind
    have ab9:(loadCells ad xs.length).run P w=.ok ((xs.map fun c=>ai (cellAt c 0)).map (Value.int .u8)).toArray w:=by
     have:=Kd (P:=P) w ad news (hv.cell ad rfl);grind
    rw[run_bytesToString w ad xs.length c _ ab9,foldl_push]
    congr 2
    simp only[BE]
    congr 1
    apply Array.ext';simp only[Array.toList_append];rfl
  ·cases h
 ·cases h
theorem GX(w:World)(a:Addr):∃G:Obj->Obj,w.freeze a 1={w with heap:=w.heap.modify a.block G}/\∀c e lo hi,G (.cells c e (lo,hi))=.cells c e (if lo==hi then(a.off,a.off+1)else(min lo a.off,max hi (a.off+1))):=
 Exists.intro _ (And.intro (eg (by decide)) (fun _ _ _ _=>rfl))
theorem SR.marked{E:Env}{μ:Mu}{ρ:bD}{w:World}(h:SR E μ ρ σ w){rb:RB}(hl:ρ l=some rb)(hk:σ[l]?=some k)(hm:k.mode=1)(ho:k.obj=false)(hs1:k.sz=1)(hp:rb.ph=false):
  ∃w',(markStringish ⟨rb.b,0,none⟩).run P w=.ok () w'/\SR E μ ρ σ w'/\w.heap.size<=w'.heap.size:=by
 have hb:=h.blk l rb k hl hk (by omega);obtain⟨c0,hc0⟩:=hb.live hp;obtain⟨fz,hg,hfz,yT⟩:∃fz,w.heap[rb.b]?=some (.cells c0 k.ty fz)/\sJ (uq k.obj k.sz) c0.size fz/\μ rb.b=none:=by
  rcases hc0.at_ with⟨_,⟨fz,h1,h2⟩,h3⟩|⟨h3,_⟩
  all_goals grind
 let w':=w.freeze {block:=rb.b,off:=c0.size} 1
 have hrun:(markStringish ⟨rb.b,0,none⟩).run P w=.ok () w':=by
  simp only[markStringish,fy,run_shape,eh];have hsh:w.shape? rb.b=some (k.ty,c0.size):=by simp only[World.shape?,hg]
  rw[hsh];rfl
 obtain⟨G,hw,hG⟩:=GX w {block:=rb.b,off:=c0.size};replace hw:w'={w with heap:=w.heap.modify rb.b G}:=hw;have hsz:w'.heap.size=w.heap.size:=by rw[hw];simp
 have hne:∀b,b≠rb.b->w'.heap[b]?=w.heap[b]?:=fun b hb=>by
  grind
 have aeI:Has w' rb.b c0 k.ty (uq k.obj k.sz):=by
  obtain⟨lo,hi⟩:=fz;refine⟨if lo==hi then(c0.size,c0.size+1)else(min lo c0.size,max hi (c0.size+1)),?_,.inr ⟨by rw[uq,ho,hs1];rfl,?_⟩⟩
  ·grind
  ·rcases hfz with h0|⟨_,h1⟩
   all_goals grind
 have h1:=h.kill l {k with mode:=0} rfl;have lH:∀m fc k1,m≠l->ρ m=some fc->(σ.set l {k with mode:=0})[m]?=some k1->k1.mode=1->fc.ph=false->fc.b≠rb.b:=fun m fc k1 hne hm' hk1 iT qK he=>by
  rcases dK hk1 with⟨e,_⟩|⟨_,hk1⟩
  ·exact hne e
  ·exact hne (h.inj m l fc rb k1 k hm' hl hk1 hk iT hm qK hp he)
 have h2:SR E μ ρ (σ.set l {k with mode:=0}) w':=by
  refine h1.moved (by rw[hw]) (by rw[hw]) (by rw[hw]) (by grind) fun b hb=>?_;by_cases e:b=rb.b
  ·refine .inr ⟨e▸h.lW l rb k hl hk hm hp,e▸yT,fun m fc k1 hm' hk1 iT qK he=>?_⟩;grind
  ·exact .inl (hne b e)
 have h3:=h2.EP l k rb hl ⟨hb.sz,hb.n,hb.fit,hb.ph,hb.one,fun _=>⟨c0,hc0.size,hc0.mq,hc0.wD,.inl ⟨hm,aeI,yT⟩⟩⟩
  fun _ _=>⟨h.lW l rb k hl hk hm hp,lH⟩
 have hset:(σ.set l {k with mode:=0}).set l k=σ:=by
  rw[List.set_set];exact kj fun i=>by
   grind
 grind
theorem EV{R:Type}{K:AV->Store->Option R}{r:R}{src dst:TypeId}(h:lE P σ K src dst a=some r)(hsl:ZN P src dst=true):
  ∃av,K av σ=some r/\∀(E:Env) (μ:Mu) (ρ:bD) (va:Value) (w:World),VR μ ρ a va->SR E μ ρ σ w->
   ∃v w',(convert src dst va).run P w=.ok v w'/\VR μ ρ av v/\SR E μ ρ σ w'/\w.heap.size<=w'.heap.size:=by
 unfold lE at h;split at h
 ·rename_i e l off cut hd;split at h
  ·rename_i b he hb;obtain⟨hc,h⟩:=ah h;simp only[dd,pk]at hc;obtain⟨⟨⟨⟨h1,h2⟩,h3⟩,h4⟩,h5⟩:=hc;have e1:src=dst:=cj h1;have e2:=cj h2;have e3:off=0:=cj h4;subst e3;refine⟨_,h,fun E μ ρ va w ha iY=>?_⟩;subst e1;have ZU:=ha.cell rfl;cases ZU with
   |d hx=>cases hx
   | @sl _ _ _ rb ad len cap hl hp hA hlen hoff hcap jE=>
    have hA':ad=⟨rb.b,0,none⟩:=by
     grind
    subst hA';obtain⟨w',r1,r2,r3⟩:=iY.marked (P:=P) hl hb e2 h3 (cj h5) hp;refine⟨_,w',?_,ha,r2,r3⟩;simp only[convert,fy,gg hd,gg he,eh,AM,r1,fv]
  ·cases h
 ·cases h
end
end
section
theorem Ay(sz:Nat):∀(n:Nat) (cs:List AV) (i:Nat),i<n->(chunks sz n cs)[i]?=some ((cs.drop (i*sz)).take sz)
 |0,_,i,h=>absurd h (B4 i)
 |n+1,cs,0,_=>by simp[chunks]
 |n+1,cs,i+1,h=>by
  simp only[chunks,td];simp_all [Ay,yk,sh,Nat.one_mul,Nat.add_comm]
theorem oX(sz:Nat):∀(n:Nat) (cs:List AV),(chunks sz n cs).length=n
 |0,_=>rfl
 |n+1,cs=>by simp[chunks,oX sz n]
theorem GY{α:Type}(z:List α):∀(n i j:Nat),i<n->j<z.length->((List.replicate n z).flatten)[i*z.length+j]?=z[j]?
 |0,i,j,h,_=>absurd h (B4 i)
 |n+1,0,j,_,hj=>by
  grind
 |n+1,i+1,j,h,hj=>by
  simp only[IH,GC];rw[en (by grind),show(i+1)*z.length+j-z.length=i*z.length+j by grind];exact GY z n i j (by omega) hj
section
variable{P:Program}{E:Env}{μ:Mu}{ρ:bD}{σ:Store}{w:World}
theorem fe.append{ds:List AV}{us:List Value}(h:fe μ ρ cs vs)(k:fe μ ρ ds us):fe μ ρ (cs++ds) (vs++us):=by
 refine⟨by simp[h.1,k.1],fun q u v hu hv=>?_⟩;rcases od q cs.length with hq|hq
 ·rw[fj hq]at hu;rw[fj (by rw[h.1];exact hq)]at hv;exact h.2 q u v hu hv
 ·rw[en hq]at hu;rw[en (by rw[h.1];exact hq),h.1]at hv;exact k.2 _ u v hu hv
theorem fe.nil:fe μ ρ [] []:=⟨rfl,fun k u v hu=>by simp at hu⟩
theorem fe.flat{cs:List AV}{vs:List Value}(h:fe μ ρ cs vs):∀n,fe μ ρ (List.replicate n cs).flatten (List.replicate n vs).flatten
 |0=>.nil
 |n+1=>by simp only[IH,GC];exact h.append (fe.flat h n)
theorem fe.cons{c:AV}{v:Value}{cs:List AV}{vs:List Value}(h:CR μ ρ c v)(k:fe μ ρ cs vs):fe μ ρ (c::cs) (v::vs):=by
 refine⟨by simp[k.1],fun q u x hu hx=>?_⟩;cases q with
 |zero=>grind
 |succ q=>exact k.2 q u x (by simpa using hu) (by simpa using hx)
theorem fe.one{cs:List AV}{vs:List Value}(h:fe μ ρ cs vs):∀v∈vs,v.oneCell'=true:=by
 intro v hv;obtain⟨j,hj,e⟩:=T2 hv;have hj':j<cs.length:=by rw[<-h.1];exact hj
 exact e▸(h.2 j _ _ (ao hj') (ao hj)).one
theorem iM:∀(ks:List CK) (cs:List Value) {σ σ':Store} {r:List AV} {ρ:bD} {m:Nat},zeros P ks cs σ=some (r,σ')->SR E μ ρ σ w->bu ρ σ.length m->σ'.length<=m->
  ∃ρ',Grow true μ ρ σ.length w μ ρ' σ'.length w/\fe μ ρ' r cs/\SR E μ ρ' σ' w
 |[],[],σ,σ',r,ρ,m,h,hs,hf,hm=>by
  simp only[zeros,bj,de]at h;obtain⟨h1,h2⟩:=h;subst h1;subst h2;exact⟨ρ,.refl _ _ _ _ _,.nil,hs⟩
 |[],_::_,_,_,_,_,_,h,_,_,_=>by simp[zeros]at h
 |_::_,[],_,_,_,_,_,h,_,_,_=>by simp[zeros]at h
 |k::ks,c::cs,σ,σ',r,ρ,m,h,hs,hf,hm=>by
  simp only[zeros]at h;split at h
  ·rename_i e sz;split at h
   ·cases h
   ·rename_i r1 σ1 h1;simp only[bj,de]at h;obtain⟨e1,e2⟩:=h;subst e1;subst e2;have hlen:(cy P σ e).2.length=σ.length+1:=by simp[cy]
    have sW:∀(ks:List CK) (cs:List Value) (σ σ':Store) (r:List AV),zeros P ks cs σ=some (r,σ')->σ.length<=σ'.length:=by
     intro ks
     induction ks with
     |nil=>intro cs σ σ' r h;cases cs<;>simp[zeros]at h;grind
     |cons k ks ih=>
      intro cs σ σ' r h;cases cs with
      |nil=>simp[zeros]at h
      |cons c cs=>
       simp only[zeros]at h;split at h
       ·split at h
        ·cases h
        ·rename_i h1;simp only[bj,de]at h;have:=ih _ _ _ _ h1;simp[cy]at this;rw[<-h.2];omega
       all_goals grind
    have hle:=sW _ _ _ _ _ h1;have hfr:eF ρ σ:=hf.fresh (by omega);obtain⟨hr,hs1⟩:=hs.cy hfr e (P.cellsOf e);have g1:Grow true μ ρ σ.length w μ (df ρ σ.length ⟨0,0,P.cellsOf e,0,true⟩) (cy P σ e).2.length w:=kQ hfr _ _ w (fun _=>.inl rfl) (fun _ _ _=>rfl) (dk _);obtain⟨ρ',g2,hc,qL⟩:=iM ks cs h1 hs1 (hf.grow g1) hm;refine⟨ρ',g1.trans g2,.cons ?_ hc,qL⟩;have hl:=g2.rU _ _ (bK ρ σ.length ⟨0,0,P.cellsOf e,0,true⟩);exact .tB hl rfl rfl (fun n hn=>by cases hn)
  ·cases h
  ·cases h
  ·replace h:=aU h;obtain⟨hk,h⟩:=h;simp only[pt]at hk;split at h
   ·cases h
   ·rename_i r1 σ1 h1;simp only[bj,de]at h;obtain⟨e1,e2⟩:=h;subst e1;subst e2;obtain⟨ρ',g2,hc,qL⟩:=iM ks cs h1 hs hf hm;exact⟨ρ',g2,.cons (.d (.v hk)) hc,qL⟩
theorem jF:∀(ks:List CK) (cs:List Value) {σ σ':Store} {r:List AV},zeros P ks cs σ=some (r,σ')->∃τ,σ'=σ++τ
 |[],[],σ,σ',r,h=>by simp[zeros]at h;exact⟨[],by simp[h.2]⟩
 |[],_::_,_,_,_,h=>by simp[zeros]at h
 |_::_,[],_,_,_,h=>by simp[zeros]at h
 |k::ks,c::cs,σ,σ',r,h=>by
  simp only[zeros]at h;split at h
  ·split at h
   ·cases h
   ·rename_i h1;simp only[bj,de]at h;obtain⟨τ,ht⟩:=jF ks cs h1;rw[<-h.2,ht];exact⟨_,by simp only[cy,fh];rfl⟩
  ·cases h
  ·cases h
  ·have h:=(aU h).2;split at h
   ·cases h
   ·rename_i h1;simp only[bj,de]at h;rw[<-h.2];exact jF ks cs h1
theorem fQ{r:List AV}(h:zeroOf P t σ=some (r,σ')):∃i z,P.info? t=some i/\i.zero=some z/\zeros P (uo P t) z.cells.toList σ=some (r,σ'):=by
 unfold zeroOf at h;split at h
 ·cases h
 ·rename_i z hz;cases hi:P.info? t with
  |none=>simp[hi]at hz
  |some i=>
   grind
theorem VR.cells{a:AV}{v:Value}{cs:List AV}(h:VR μ ρ a v)(hc:cells a=some cs):fe μ ρ cs v.cells.toList:=by
 unfold Go.Ev.cells at hc;split at hc
 ·injection hc with hc;subst hc;cases h with
  |c hx=>cases hx with|d hd=>cases hd
  |agg hx=>exact hx
 ·replace hc:=ah hc;obtain⟨hk,hc⟩:=hc;injection hc with hc;subst hc;have hx:=h.cell hk;have:v.cells= #[v]:=by have:=hx.one;cases v<;>first|rfl|cases this
  rw[this];exact .cons hx .nil
theorem OJ(h:fe μ ρ cs vs)(hp:cs.all Kw=true):bJ μ 1 (cs.map fun c=>[c]) vs.toArray:=by
 refine⟨fun e he=>?_,fun i e j c he hc=>?_⟩
 ·grind
 ·simp only[et,kn]at he;obtain⟨c',hc',e1⟩:=he;subst e1;have hj:j=0:=by grind
  subst hj;simp at hc;subst hc;have hlt:i<vs.length:=by rw[h.1];grind
  refine⟨vs[i],by simp[hlt],?_⟩;have h1:=h.2 i c' _ hc' (ao hlt);have h2:=ka.1 hp c' (dp hc');cases c' with
  |v x=>cases h1 with|d hd=>exact hd
  |_=>cases h2
theorem uK{R:Type}{K:AV->Store->Option R}{r:R}(h:jD P σ K t cs=some r):
  ∃av k,K av (σ++[k])=some r/\∀(E:Env) (μ:Mu) (ρ:bD) (vs:List Value) (w:World),fe μ ρ cs vs->SR E μ ρ σ w->bu ρ σ.length (σ++[k]).length->
   ∃ρ',Grow true μ ρ σ.length w μ ρ' (σ++[k]).length (w.alloc (.cells vs.toArray t))/\VR μ ρ' av (.pointer (some ⟨w.heap.size,0,none⟩))/\SR E μ ρ' (σ++[k]) (w.alloc (.cells vs.toArray t)):=by
 have obj:K (.ptr σ.length 0 0) (σ++[⟨1,t,cs.length,true,[cs]⟩])=some r->∃av k,K av (σ++[k])=some r/\∀(E:Env) (μ:Mu) (ρ:bD) (vs:List Value) (w:World),fe μ ρ cs vs->SR E μ ρ σ w->bu ρ σ.length (σ++[k]).length->
   ∃ρ',Grow true μ ρ σ.length w μ ρ' (σ++[k]).length (w.alloc (.cells vs.toArray t))/\VR μ ρ' av (.pointer (some ⟨w.heap.size,0,none⟩))/\SR E μ ρ' (σ++[k]) (w.alloc (.cells vs.toArray t)):=fun hk=>by
  refine⟨_,_,hk,fun E μ ρ vs w hc hs hf=>?_⟩;have hfr:eF ρ σ:=hf.fresh (by simp);obtain⟨_,hs'⟩:=hs.new hfr ⟨1,t,cs.length,true,[cs]⟩ vs.toArray rfl (by simp[hc.1]) (fun _=>⟨rfl,by simp[hc.1]⟩) (fun e=>by cases e) (fun _=>⟨fun e he=>by simp at he;rw[he],fun i e j c he hc'=>by
   have hi:i=0:=by grind
   subst hi;simp at he;subst he;have hlt:j<vs.length:=by rw[hc.1];grind
   exact⟨vs[j],by simp[hlt],hc.2 j c _ hc' (ao hlt)⟩⟩)
  refine⟨_,kQ hfr _ _ _ (fun _=>.inr (dk _)) (fun _ b hb=>alloc_old w _ b hb) (by simp),?_,hs'⟩;have:=CR.ptr (μ:=μ) (l:=σ.length) (i:=0) (j:=0) (bK ρ σ.length ⟨w.heap.size,vs.toArray.size,cs.length,1,false⟩) rfl;simp only[By,na]at this;exact .c this
 unfold jD at h;split at h
 ·rename_i n e hu;cases hn:Nat.ble n 16 with
  |true=>rw[hn]at h;exact obj h
  |false=>
   rw[hn]at h;simp only[jz]at h;replace h:=ah h;obtain⟨hp,h⟩:=h;simp only[dd]at hp;refine⟨_,_,h,fun E μ ρ vs w hc hs hf=>?_⟩;have hfr:eF ρ σ:=hf.fresh (by simp);obtain⟨_,hs'⟩:=hs.new hfr ⟨1,t,1,false,cs.map fun c=>[c]⟩ vs.toArray rfl (by simp[hc.1]) (fun e=>by cases e) (fun _=>OJ hc hp.2) (fun e=>by cases e);refine⟨_,kQ hfr _ _ _ (fun _=>.inr (dk _)) (fun _ b hb=>alloc_old w _ b hb) (by simp),?_,hs'⟩;have:=CR.ptr (μ:=μ) (l:=σ.length) (i:=0) (j:=0) (bK ρ σ.length ⟨w.heap.size,vs.toArray.size,1,(cs.map fun c=>[c]).length,false⟩) rfl;simp only[By,na]at this;exact .c this
 ·exact obj h
theorem CW{R:Type}{K:AV->Store->Option R}{r:R}(h:gU P σ K t=some r):
  ∃av τ,K av (σ++τ)=some r/\∀(E:Env) (μ:Mu) (ρ:bD) (w:World),SR E μ ρ σ w->bu ρ σ.length (σ++τ).length->
   ∃v w' ρ',(Instr.alloc t true (.tuple #[])).run P w=.ok v w'/\Grow true μ ρ σ.length w μ ρ' (σ++τ).length w'/\VR μ ρ' av v/\SR E μ ρ' (σ++τ) w':=by
 unfold gU at h;split at h
 ·cases h
 ·rename_i cs σ1 hz;obtain⟨i,z,hi,hzz,hzs⟩:=fQ hz;obtain⟨τ,ht⟩:=jF _ _ hzs;obtain⟨av,k,hk,hb⟩:=uK h;subst ht;rw[fh]at hk;refine⟨av,τ++[k],hk,fun E μ ρ w hs hf=>?_⟩;obtain⟨ρ1,g1,hc,hs1⟩:=iM _ _ hzs hs hf (by simp);obtain⟨ρ2,g2,hv,qL⟩:=hb E μ ρ1 _ w hc hs1 (by rw[fh];exact hf.grow g1);rw[fh]at g2 qL;refine⟨_,_,ρ2,?_,g1.trans g2,hv,qL⟩;simp only[Instr.alloc,fy,zeroValue,typeInfo,run_program,eh,hi,fv,hzz,newVar,newRow,run_newObj];rfl
theorem GZ{R:Type}{K:AV->Store->Option R}{r:R}(h:qa P σ K t a=some r):
  ∃av τ,K av (σ++τ)=some r/\∀(E:Env) (μ:Mu) (ρ:bD) (va:Value) (w:World),VR μ ρ a va->SR E μ ρ σ w->bu ρ σ.length (σ++τ).length->
   ∃v w' ρ',(Instr.box t va).run P w=.ok v w'/\Grow true μ ρ σ.length w μ ρ' (σ++τ).length w'/\VR μ ρ' av v/\SR E μ ρ' (σ++τ) w':=by
 unfold qa at h;split at h
 ·cases h
 ·rename_i cs hcs;replace h:=ah h;obtain⟨_,h⟩:=h;obtain⟨av,k,hk,hb⟩:=uK h;refine⟨av,[k],hk,fun E μ ρ va w ha hs hf=>?_⟩;obtain⟨ρ2,g2,hv,qL⟩:=hb E μ ρ _ w (ha.cells hcs) hs hf;refine⟨_,_,ρ2,?_,g2,hv,qL⟩;simp only[Instr.box,fy,newVar,newRow,run_newObj,eh,fv];rfl
theorem Dz(off:Nat):∀(p:List Value) (k:Nat) (cells:Array Value),off+k+p.length<=cells.size->
  (p.zipIdx k).foldl (fun cs (x:Value×Nat)=>cs.setIfInBounds (off+x.2) x.1) cells=(cells.toList.take (off+k)++p++cells.toList.drop (off+k+p.length)).toArray
 |[],k,cells,h=>by simp
 |c::p,k,cells,h=>by
  simp only[List.zipIdx_cons,FG];rw[Dz off p (k+1) _ (by simp at h⊢;omega)]
  congr 1
  have e:=list_seg_step cells.toList (off+k) c p (by simp at h⊢;omega);simpa [Iv,vj]using e
theorem oY{place Az:Nat->Option (Nat×Nat)}(hp:∀i p,place i=some p->Az i=some p):∀(parts:List (Nat×AV)) (eH:List (Nat×Value)) (cs cs':List AV) (vs:List Value),
  parts.length=eH.length->(∀(q i:Nat) (a:AV),parts[q]?=some (i,a)->∃v:Value,eH[q]?=some (i,v)/\VR μ ρ a v)->fe μ ρ cs vs->lC place cs parts=some cs'->
  ∃vs',Instr.fill Az vs.toArray eH=some vs'.toArray/\fe μ ρ cs' vs'
 |[],[],cs,cs',vs,_,_,hc,h=>by
  simp only[lC,bj]at h;subst h;exact⟨vs,rfl,hc⟩
 |[],_::_,_,_,_,hl,_,_,_=>by simp at hl
 |_::_,[],_,_,_,hl,_,_,_=>by simp at hl
 |(i,a)::parts,(i',v)::eH,cs,cs',vs,hl,hv,hc,h=>by
  obtain⟨v0,h0,Gx⟩:=hv 0 i a rfl;simp only[te,bj,de]at h0;obtain⟨e1,e2⟩:=h0;subst e1;subst e2;simp only[lC]at h;split at h
  ·cases h
  ·rename_i off size hpl;split at h
   ·cases h
   ·rename_i p xW;replace h:=ah h;obtain⟨hb,h⟩:=h;simp only[dd]at hb;have h1:=cj hb.1;have h2:=pe hb.2;have wK:=Gx.cells xW;have hsz:v.cells.size=size:=by rw[<-h1,<-wK.1];simp
    have hvl:=hc.1;have hnew:fe μ ρ (cs.take off++p++cs.drop (off+size)) (vs.take off++v.cells.toList++vs.drop (off+size)):=by
     refine .append (.append ?_ wK) ?_
     ·have:=hc.sub 0 off;simpa using this
     ·have:=hc.sub (off+size) cs.length;simp_all [yi]
    obtain⟨vs',hf,hc'⟩:=oY hp parts eH _ cs' _ (by simpa using hl) (fun q i a hq=>hv (q+1) i a (by simpa using hq)) hnew h;refine⟨vs',?_,hc'⟩;simp only[Instr.fill,hp _ _ hpl];rw[eg (by grind)];have:v.cells.zipIdx.foldl (fun cs x=>cs.setIfInBounds (off+x.snd) x.fst) vs.toArray=(vs.take off++v.cells.toList++vs.drop (off+size)).toArray:=by
     rw[<-Array.foldl_toList,Array.toList_zipIdx];simp_all [Dz]
    rw[this];exact hf
theorem uL{i:Nat}{p:Nat×Nat}(h:placeOf P t i=some p):
  (∃fs fd,P.underlying t=some (.struct fs)/\fs[i]?=some fd/\p=(fd.offset,P.cellsOf fd.type))\/(∃n e,P.underlying t=some (.array n e)/\p=(i*P.cellsOf e,P.cellsOf e)):=by
 unfold placeOf at h;grind
theorem DB:∀(fs:List Field),(fs.all fun f=>(P.info? f.type).isSome)=true->fs.mapM (fun f=>(P.info? f.type).map fun i=>(f.offset,i.size))=some (fs.map fun f=>(f.offset,P.cellsOf f.type))
 |[],_=>rfl
 |f::fs,h=>by
  simp only[Ix,dd]at h;cases hi:P.info? f.type with
  |none=>rw[hi]at h;cases h.1
  |some i=>simp[yr,hi,DB fs h.2,Program.cellsOf]
theorem CX{R:Type}{K:AV->Store->Option R}{r:R}(h:gV P σ K t parts=some r):
  ∃av τ,K av (σ++τ)=some r/\∀(E:Env) (μ:Mu) (ρ:bD) (eH:Array (Nat×Value)) (w:World),parts.length=eH.size->(∀(q i:Nat) (a:AV),parts[q]?=some (i,a)->∃v:Value,eH.toList[q]?=some (i,v)/\VR μ ρ a v)->
   SR E μ ρ σ w->bu ρ σ.length (σ++τ).length->
   ∃v ρ',(Instr.build t eH).run P w=.ok v w/\Grow true μ ρ σ.length w μ ρ' (σ++τ).length w/\VR μ ρ' av v/\SR E μ ρ' (σ++τ) w:=by
 unfold gV at h;replace h:=aU h;obtain⟨hok,h⟩:=h;simp only[pt]at hok;split at h
 ·cases h
 ·rename_i cs σ1 hz;obtain⟨i,z,hi,hzz,hzs⟩:=fQ hz;obtain⟨τ,ht⟩:=jF _ _ hzs;subst ht;split at h
  ·cases h
  ·rename_i cs' AE;refine⟨_,τ,h,fun E μ ρ eH w hlen KJ hs hf=>?_⟩;obtain⟨ρ1,g1,hc,hs1⟩:=iM _ _ hzs hs hf (dk _);have zA:∀(q i:Nat) (a:AV),parts[q]?=some (i,a)->∃v:Value,eH.toList[q]?=some (i,v)/\VR μ ρ1 a v:=fun q i a hq=>let⟨v,h1,h2⟩:=KJ q i a hq;⟨v,h1,h2.mono (ak.refl μ) g1.rU⟩;unfold MR at hok;split at hok
   ·rename_i fs hu;have hpl:=DB fs.toList hok;obtain⟨vs',h1,h2⟩:=oY (Az:=((fs.toList.map fun f=>(f.offset,P.cellsOf f.type)).toArray[·]?)) (fun i p hp=>by
     grind [uL]) parts eH.toList cs cs' z.cells.toList (by simpa using hlen) zA hc AE
    refine⟨_,ρ1,run_build w t eH vs'.toArray ?_,g1,.agg h2,hs1⟩;simp only[Program.built,hi,hu,hzz,hpl];simpa using h1
   ·rename_i n e hu;cases hie:P.info? e with
    |none=>rw[hie]at hok;cases hok
    |some ie=>
     have hce:P.cellsOf e=ie.size:=by simp[Program.cellsOf,hie]
     obtain⟨vs',h1,h2⟩:=oY (Az:=fun i=>some (i*ie.size,ie.size)) (fun i p hp=>by
      grind [uL]) parts eH.toList cs cs' z.cells.toList (by simpa using hlen) zA hc AE
     refine⟨_,ρ1,run_build w t eH vs'.toArray ?_,g1,.agg h2,hs1⟩;simp only[Program.built,hi,hu,hzz,hie];simpa using h1
   ·cases hok
end
end
section
section
variable{P:Program}{E:Env}{μ:Mu}{ρ:bD}{σ:Store}{w:World}
theorem KK(h:fe μ ρ cs vs)(hp:cs.all Kw=true):qg μ cs vs:=by
 refine⟨h.1,fun k u v hu hv=>?_⟩;have h1:=h.2 k u v hu hv;have h2:=ka.1 hp u (dp hu);cases u with
 |v x=>cases h1 with|d hd=>exact hd
 |_=>cases h2
theorem AF{cs':List AV}(hs:SR E μ ρ σ w)(hv:fe μ ρ cs vs)(h:qu P e σ cs=some (cs',σ')):
  ∃μ',ak μ μ'/\SR E μ' ρ σ' w/\qg μ' cs' vs/\σ'.length=σ.length/\cs'.length=cs.length/\(jC P e=true->μ'=μ):=by
 unfold qu at h;cases hp:jC P e with
 |true=>
  rw[hp]at h;simp only[me]at h;obtain⟨ha,h⟩:=ah h;grind [ak.refl,KK]
 |false=>
  simp_all [tC]
theorem tF{cs':List AV}(hp:jC P e=true)(h:qu P e σ cs=some (cs',σ')):σ'=σ:=by
 unfold qu at h;grind
theorem G9:∀(cs:List AV) (σ σ':Store) (cs':List AV),gG σ cs=some (cs',σ')->σ'.length=σ.length:=by
 intro cs
 induction cs with
 |nil=>intro σ σ' cs' h;simp[gG]at h;rw[h.2]
 |cons c cs ih=>
  intro σ σ' cs' h;simp only[gG]at h;split at h
  ·cases h
  ·rename_i h1;split at h
   ·cases h
   ·rename_i h2;simp only[bj,de]at h;rw[<-h.2,ih _ _ _ h2];unfold zZ at h1;grind
theorem uM{cs':List AV}{σ:Store}(h:qu P e σ cs=some (cs',σ')):σ'.length=σ.length:=by
 cases hp:jC P e with
 |true=>rw[tF hp h]
 |false=>
  unfold qu at h;grind [G9]
def yU(P:Program)(t:TypeId):Bool:=match P.underlying t with|some (.slice e)=>jC P e|_=>false
theorem Grow.any{μ:Mu}{ρ:bD}{w:World}(h:Grow true μ ρ n w μ' ρ' n' w')(q:Bool):Grow q μ ρ n w μ' ρ' n' w':=by
 cases q with
 |true=>exact h
 |false=>exact h.loud
theorem M0(h:ak μ μ')(hq:q=true->μ'=μ)(n:Nat):Grow q μ ρ n w μ' ρ n w:=
 ⟨h,bV.refl ρ,dk n,fun _ _ h=>.inl h,fun _ _ _=>rfl,dk _,fun e b o hb=>.inl (by rw[hq e]at hb;exact hb)⟩
theorem sX{z:Array Value}{i:Nat}(hi:i<n):(madeCells z n)[i]?=some (z[i % z.size]!):=by
 simp[madeCells,hi]
theorem KL{i j:Nat}(hi:i<n)(hj:j<sz):i*sz+j<n*sz/\(i*sz+j) % sz=j:=by
 refine⟨?_,by rw[Hb,Nat.mul_add_mod,Nat.mod_eq_of_lt hj]⟩
 calc i*sz+j<i*sz+sz:=by omega
  _=(i+1)*sz:=by grind
  _<=n*sz:=fi _ hi
theorem oZ{cap:Nat}(hs:SR E μ ρ σ w)(hf:eF ρ σ)(hr:bJ μ sz xs cur)(hc:cur.size=cap*sz)(hle:xs.length<=cap):
  ∃ρ',Grow true μ ρ σ.length w μ ρ' (σ++[(⟨1,e,sz,false,xs⟩:gC)]).length (w.alloc (.cells cur e))/\VR μ ρ' (.sl false σ.length 0 none) (.slice (some ⟨w.heap.size,0,none⟩) xs.length cap)/\
   SR E μ ρ' (σ++[(⟨1,e,sz,false,xs⟩:gC)]) (w.alloc (.cells cur e)):=by
 obtain⟨_,hs'⟩:=hs.new hf ⟨1,e,sz,false,xs⟩ cur rfl (by rw[hc];exact fi _ hle) (fun e=>by cases e) (fun _=>hr) (fun e=>by cases e);refine⟨_,kQ hf _ _ _ (fun _=>.inr (dk _)) (fun _ b hb=>alloc_old w _ b hb) (by simp),?_,hs'⟩;exact .c (.sl (bK ρ σ.length ⟨w.heap.size,cur.size,sz,xs.length,false⟩) rfl (.inl (by simp)) (by simp[qJ]) (by simp) hle (by simp[hc]))
theorem uN{R:Type}{K:AV->Store->Option R}{r:R}(h:cI P σ K t a b=some r):
  ∃av σ',K av σ'=some r/\σ.length<=σ'.length/\(yU P t=true->∃τ,σ'=σ++τ)/\∀(E:Env) (μ:Mu) (ρ:bD) (va vb:Value) (w:World),VR μ ρ a va->VR μ ρ b vb->SR E μ ρ σ w->bu ρ σ.length σ'.length->
   ∃v w' μ' ρ',(Instr.makeSlice t va vb).run P w=.ok v w'/\Grow (yU P t) μ ρ σ.length w μ' ρ' σ'.length w'/\VR μ' ρ' av v/\SR E μ' ρ' σ' w':=by
 unfold cI at h;split at h
 ·rename_i e k n k' c hu;split at h
  ·cases h
  ·rename_i z σ1 hz;obtain⟨i,z0,hi,hzz,hzs⟩:=fQ hz;obtain⟨τ,ht⟩:=jF _ _ hzs;split at h
   ·cases h
   ·rename_i z' σ2 hfz;replace h:=ah h;obtain⟨hl,h⟩:=h;simp only[dd]at hl;have hlen:=cj hl.1;have hpos:0<P.cellsOf e:=by simpa [AT]using hl.2
    replace h:=ah h;obtain⟨hr,h⟩:=h;simp only[dd,tp]at hr;obtain⟨⟨⟨h0,hnc⟩,hby⟩,agQ⟩:=hr;refine⟨_,_,h,(by have:=uM hfz;grind),fun hp=>?_,fun E μ ρ va vb w ha hb hs hf=>?_⟩
    ·rw[yU,hu]at hp;grind [tF,List.append_assoc]
    ·have hrq:yU P t=jC P e:=by rw[yU,hu]
     rw[hrq];have:=ha.dB;subst this;have:=hb.dB;subst this;have qP:σ1.length<=(σ2++[(⟨1,e,P.cellsOf e,false,List.replicate n.toNat z'⟩:gC)]).length:=by
      grind [uM]
     obtain⟨ρ1,g1,hzc,hs1⟩:=iM _ _ hzs hs hf qP;obtain⟨μ2,OE,qL,qw,CT,Yr,hmq⟩:=AF hs1 hzc hfz;have g2:Grow (jC P e) μ ρ1 σ1.length w μ2 ρ1 σ2.length w:=by rw[CT];exact M0 OE hmq _
     have hfr:eF ρ1 σ2:=(hf.grow ((g1.any _).trans g2)).fresh (by simp);have iN:P.cellsOf e=i.size:=by simp[Program.cellsOf,hi]
     have hbi:P.bytesOf e=i.bytes:=by simp[Program.bytesOf,hi]
     have hzl:z0.cells.size=P.cellsOf e:=by have:=qw.1;grind
     have hrow:bJ μ2 (P.cellsOf e) (List.replicate n.toNat z') (madeCells z0.cells (c.toNat*i.size)):=by
      refine⟨fun x hx=>?_,fun p x q u hx hu'=>?_⟩
      ·grind
      ·have hp:p<n.toNat:=by grind
       have hxz:x=z':=by grind
       subst hxz;have hq:q<P.cellsOf e:=by grind
       obtain⟨h1,h2⟩:=KL (n:=c.toNat) (show p<c.toNat by omega) hq;rw[iN]at h1 h2;refine⟨z0.cells[q]!,?_,?_⟩
       ·rw[iN,sX h1,hzl,iN,h2]
       ·have hq':q<z0.cells.size:=by omega
        refine qw.2 q u _ hu' ?_;grind
     obtain⟨ρ3,g3,hv3,hs3⟩:=oZ (e:=e) (cap:=c.toNat) qL hfr hrow (by rw[yv,iN]) (by simp;omega);refine⟨_,_,μ2,ρ3,run_make w t e i z0 hu hi hzz k k' n c h0 hnc ?_ (by omega),((g1.any _).trans g2).trans (g3.any _),?_,hs3⟩
     all_goals grind
 ·cases h
theorem OK{z:Array Value}(hz:0<z.size):madeCells z (n*z.size)=(List.replicate n z.toList).flatten.toArray:=by
 apply Array.ext';apply kj;intro q;have hlen:(List.replicate n z.toList).flatten.length=n*z.size:=by simp[List.length_flatten]
 by_cases hq:q<n*z.size
 ·obtain⟨h1,h2,h3⟩:=KE hq;grind [sX,GY,Array.length_toList]
 simp_all [pD,Array.getElem?_eq_none,yv,we]
theorem AG{place:Nat->Option (Nat×Nat)}:∀(parts:List (Nat×AV)) (cs cs':List AV),lC place cs parts=some cs'->cs'.length=cs.length
 |[],cs,cs',h=>by simp only[lC,bj]at h;rw[h]
 |(i,a)::parts,cs,cs',h=>by
  simp only[lC]at h;split at h
  ·cases h
  ·rename_i off size _;split at h
   ·cases h
   ·rename_i p _;obtain⟨hb,h⟩:=ah h;simp only[dd]at hb;have h1:=cj hb.1;have h2:=pe hb.2;rw[AG parts _ _ h];simp;omega
theorem KM(h:qg μ cs vs)(hl:cs.length=n*sz):bJ μ sz (chunks sz n cs) vs.toArray:=by
 have hi:∀(i:Nat) (e:List AV),(chunks sz n cs)[i]?=some e->i<n/\e=(cs.drop (i*sz)).take sz:=fun i e he=>by
  grind [List.getElem?_eq_some_iff,oX,Ay]
 have hel:∀(i:Nat) (e:List AV),(chunks sz n cs)[i]?=some e->e.length=sz:=fun i e he=>by
  obtain⟨h1,h2⟩:=hi i e he;have:(i+1)*sz<=n*sz:=fi _ h1;grind
 refine⟨fun e he=>?_,fun i e j c he hc=>?_⟩
 ·obtain⟨i,hi',e1⟩:=T2 he;exact hel i e (by grind)
 ·obtain⟨h1,h2⟩:=hi i e he;have hj:j<sz:=by grind
  subst h2;rw[oa,ee hj,se]at hc;obtain⟨h3,_⟩:=KL h1 hj;have hlt:i*sz+j<vs.length:=by rw[h.1,hl];exact h3
  exact⟨vs[i*sz+j],by simp[hlt],h.2 _ c _ hc (ao hlt)⟩
theorem tG{R:Type}{K:AV->Store->Option R}{r:R}(h:cg P σ K t n parts=some r):
  ∃av σ',K av σ'=some r/\σ.length<=σ'.length/\(yU P t=true->∃τ,σ'=σ++τ)/\∀(E:Env) (μ:Mu) (ρ:bD) (eH:Array (Nat×Value)) (w:World),parts.length=eH.size->
   (∀(q i:Nat) (a:AV),parts[q]?=some (i,a)->∃v:Value,eH.toList[q]?=some (i,v)/\VR μ ρ a v)->SR E μ ρ σ w->bu ρ σ.length σ'.length->
   ∃v w' μ' ρ',(Instr.buildSlice t n eH).run P w=.ok v w'/\Grow (yU P t) μ ρ σ.length w μ' ρ' σ'.length w'/\VR μ' ρ' av v/\SR E μ' ρ' σ' w':=by
 unfold cg at h;split at h
 ·rename_i e hu;split at h
  ·cases h
  ·rename_i z σ1 hz;obtain⟨i,z0,hi,hzz,hzs⟩:=fQ hz;obtain⟨τ,ht⟩:=jF _ _ hzs;split at h
   ·cases h
   ·rename_i cs AE;split at h
    ·cases h
    ·rename_i cs' σ2 hfz;replace h:=ah h;obtain⟨hl,h⟩:=h;simp only[dd]at hl;have hlen:=cj hl.1.1;have h24:=pe hl.1.2;have hpos:0<P.cellsOf e:=by simpa [AT]using hl.2
     refine⟨_,_,h,(by have:=uM hfz;grind),fun hp=>?_,fun E μ ρ eH w hpl KJ hs hf=>?_⟩
     ·rw[yU,hu]at hp;grind [tF,List.append_assoc]
     ·have hrq:yU P t=jC P e:=by rw[yU,hu]
      rw[hrq];have qQ:=uM hfz;obtain⟨ρ1,g1,hzc,hs1⟩:=iM _ _ hzs hs hf (by simp;omega);have zA:∀(q i:Nat) (a:AV),parts[q]?=some (i,a)->∃v:Value,eH.toList[q]?=some (i,v)/\VR μ ρ1 a v:=fun q i a hq=>let⟨v,h1,h2⟩:=KJ q i a hq;⟨v,h1,h2.mono (ak.refl μ) g1.rU⟩;have iN:P.cellsOf e=i.size:=by simp[Program.cellsOf,hi]
      have hzl:z0.cells.size=P.cellsOf e:=by have:=hzc.1;grind
      obtain⟨vs',Rt,hc'⟩:=oY (Az:=fun j=>some (j*i.size,i.size)) (fun j p hp=>by
       grind) parts eH.toList _ cs _ (by simpa using hpl) zA (hzc.flat n) AE
      obtain⟨μ2,OE,qL,qw,CT,Yr,hmq⟩:=AF hs1 hc' hfz;have g2:Grow (jC P e) μ ρ1 σ1.length w μ2 ρ1 σ2.length w:=by rw[CT];exact M0 OE hmq _
      have hfr:eF ρ1 σ2:=(hf.grow ((g1.any _).trans g2)).fresh (by simp);have hcl:cs'.length=n*P.cellsOf e:=by rw[Yr,AG _ _ _ AE];simp_all
      obtain⟨ρ3,g3,hv3,hs3⟩:=oZ (e:=e) (cap:=n) qL hfr (KM qw hcl) (by simp[qw.1,hcl]) (by rw[oX];exact dk _);rw[oX]at hv3;refine⟨_,_,μ2,ρ3,?_,((g1.any _).trans g2).trans (g3.any _),hv3,hs3⟩;have aeJ:¬(n*i.size>2^24):=by rw[<-iN];omega
      have Ha:(Array.range (n*i.size)).map (z0.cells[· % z0.cells.size]!)=(List.replicate n z0.cells.toList).flatten.toArray:=by
       have:=OK (z:=z0.cells) (n:=n) (by rw[hzl];exact hpos);rw[hzl,iN]at this;exact this
      simp only[Instr.buildSlice,fy,gg hu,eh,sizeOf,typeInfo,run_program,hi,fv,eg aeJ];by_cases Ru:n*i.size=0
      ·have hnz:n=0:=by
        grind [Nat.mul_eq_zero]
       subst hnz;simp only[UP,List.flatten_nil]at Rt;have hr0:∀f:Nat->Value,(Array.range 0).map f=([]:List Value).toArray:=fun f=>by simp
       simp only[Ru,xt,fy,fv,eh,hr0];simp only[Rt,fy,newRow,run_newObj,eh,fv];rfl
      ·simp only[Ru,tm,zeroValue,typeInfo,fy,run_program,eh,hi,fv,hzz,Ha,Rt,newRow,run_newObj];rfl
 ·cases h
end
end
section
theorem bJ.nil{μ:Mu}:bJ μ sz [] cur:=⟨fun e he=>(by cases he),fun i e j c he=>(by simp at he)⟩
theorem bJ.app{μ:Mu}{L1 L2 L3:List Value}(h1:bJ μ sz xs L1.toArray)(l1:L1.length=xs.length*sz)(h2:bJ μ sz ys L2.toArray):bJ μ sz (xs++ys) (L1++L2++L3).toArray:=by
 refine⟨fun e he=>?_,fun i e j c he hc=>?_⟩
 ·rcases gw.1 he with h|h
  ·exact h1.1 e h
  ·exact h2.1 e h
 ·rcases od i xs.length with hi|hi
  ·rw[fj hi]at he;obtain⟨u,h3,h4⟩:=h1.2 i e j c he hc;grind
  ·rw[en hi]at he;obtain⟨u,h3,h4⟩:=h2.2 _ e j c he hc;refine⟨u,?_,h4⟩;rw[vy]at h3⊢;have hlt:=(eR.1 h3).1;have hij:L1.length<=i*sz+j:=by rw[l1];exact iS (fi _ hi) (ahj _ _)
   have e1:i*sz+j-L1.length=(i-xs.length)*sz+j:=by
    rw[l1,Nat.mul_sub_right_distrib];have:xs.length*sz<=i*sz:=fi _ hi;omega
   grind
theorem bJ.take{μ:Mu}(h:bJ μ sz xs cur)(n:Nat):bJ μ sz (xs.take n) (cur.toList.take (n*sz)).toArray:=by
 refine⟨fun e he=>h.1 e (C1 he),fun i e j c he hc=>?_⟩;rw[oa]at he;split at he
 ·rename_i hi;obtain⟨u,h1,h2⟩:=h.2 i e j c he hc;have hj:j<sz:=by rw[<-h.1 e (dp he)];grind
  simp_all [vy,oa,ee,KL,pD]
 ·cases he
theorem bJ.drop{μ:Mu}(h:bJ μ sz xs cur)(n:Nat):bJ μ sz (xs.drop n) (cur.toList.drop (n*sz)).toArray:=by
 refine⟨fun e he=>h.1 e (zv he),fun i e j c he hc=>?_⟩;rw[se]at he;obtain⟨u,h1,h2⟩:=h.2 _ e j c he hc;grind
theorem bJ.aca{μ:Mu}{L:List Value}(h:bJ μ sz xs L.toArray)(n:Nat):bJ μ sz (xs.take n) (L.take (n*sz)).toArray:=by
 have:=h.take n;simpa using this
section
variable{P:Program}{E:Env}{μ:Mu}{ρ:bD}{σ:Store}{w:World}
theorem AH{EE:Nat}{v:Value}(h:qf σ a=some (EE,ys))(hv:VR μ ρ a v)(hs:SR E μ ρ σ w):
  ∃news:List Value,(∀w':World,(Builtin.lenOf v).run P w'=.ok ys.length w')/\news.length=ys.length*EE/\bJ μ EE ys news.toArray/\
   ∀(size n:Nat) (w':World),(size=EE\/ys=[])->n<=ys.length->w'.heap=w.heap->(Builtin.firstCells size n v).run P w'=.ok (news.take (n*size)).toArray w':=by
 have slc:∀(nil:Bool) (A:Option Addr) (c:Nat) (news:List Value),v=.slice A ys.length c->SV μ w nil EE ys A c news->∃news:List Value,(∀w':World,(Builtin.lenOf v).run P w'=.ok ys.length w')/\news.length=ys.length*EE/\bJ μ EE ys news.toArray/\
   ∀(size n:Nat) (w':World),(size=EE\/ys=[])->n<=ys.length->w'.heap=w.heap->(Builtin.firstCells size n v).run P w'=.ok (news.take (n*size)).toArray w':=fun nil A c news Gx hsv=>by
  subst Gx;refine⟨news,fun w'=>rfl,hsv.len,hsv.row,fun size n w' hsz hn hw=>?_⟩;cases A with
  |none=>
   have hx:=(hsv.hA rfl).1;have:news=[]:=dy (by rw[hsv.len,hx];simp);subst this;simp[Builtin.firstCells]
  |some ad=>
   simp only[Builtin.firstCells];have hlen:(news.take (n*size)).length=n*size:=by
    rw[uv,hsv.len];grind [Nat.mul_le_mul_right]
   have:=Kd (P:=P) w' ad (news.take (n*size)) fun j u hu=>?_
   ·grind
   rw[oa]at hu;split at hu
   ·have:=hsv.cell ad rfl j u hu;unfold World.cell? at this⊢;rw[hw];exact this
   ·cases hu
 unfold qf at h;split at h
 ·rename_i s;injection h with h;injection h with h1 h2;subst h1;subst h2;have:=hv.dB;subst this;refine⟨s.data.toList.map fun b=>.int .u8 b.toNat,fun w'=>by simp[Builtin.lenOf],by simp,⟨fun e he=>?_,fun i e j c he hc=>?_⟩,fun size n w' hsz hn hw=>?_⟩
  ·obtain⟨b,_,hb⟩:=pw.1 he;rw[<-hb];rfl
  ·simp only[et,kn]at he;obtain⟨b,hb,e1⟩:=he;subst e1;have hj:j=0:=by have:=(eR.1 hc).1;simp[mn]at this;exact this
   subst hj;simp only[mn,te,bj]at hc;subst hc;refine⟨.int .u8 b.toNat,?_,.v rfl⟩;grind
  ·have Yt:n*size=n:=by
    grind
   rw[Yt];simp only[Builtin.firstCells,fv]
   congr 1
   apply Array.ext';simp_all
 ·injection h with h;injection h with h1 h2;subst h1;subst h2;cases hv with
  |c hx=>cases hx with
   |d hd=>
    obtain⟨A,c,news,h1,h2⟩:=hd.view hs.gj;exact slc _ A c news h1 h2
 ·split at h
  ·cases h
  ·rename_i b hb;replace h:=aU h;obtain⟨hm,h⟩:=h;obtain⟨hm,ho⟩:=mw hm;injection h with h;injection h with h1 h2;subst h1;subst h2;cases hv with
   |c hx=>
    obtain⟨A,c,news,h1,h2,_⟩:=hx.wG hs hb hm ho;exact slc _ A c news h1 h2
 ·cases h
theorem DC(h:Vz d=true):d=.string\/ ∃e,d=.slice e:=by
 cases d<;>first|exact .inl rfl|exact .inr ⟨_,rfl⟩|cases h
theorem fo{u ty:TypeId}{i:TypeInfo}(ht:P.underlying t=some (.slice e))(hu:P.underlying u=some d)(hd:Vz d=true)(hi:P.info? e=some i)
  {base:Option Addr} {sLen sCap:Nat} {x:Value}    (hlen:∀w:World,(Builtin.lenOf x).run P w=.ok n w) (lI:(Builtin.firstCells i.size n x).run P w=.ok news.toArray w) (hroom:sLen+n<=sCap)
  (hst:((match base with|some a=>storeCells (a.add (sLen*i.size)) news|none=>pure ()):Sem Unit).run P w=.ok () w'):
  (Builtin.append_ #[t,u] ty #[.slice base sLen sCap,x]).run P w=.ok (.slice base (sLen+n) sCap) w':=by
 rcases DC hd with rfl|⟨e',rfl⟩<;>cases base with
 |none=>
  simp only[fv,Result.ok.injEq,true_and]at hst;subst hst;simp[Builtin.append_,gg ht,gg hu,sizeOf,typeInfo,hi,hlen,hroom,lI]
 |some a=>
  simp only at hst;simp[Builtin.append_,gg ht,gg hu,sizeOf,typeInfo,hi,hlen,hroom,lI,hst]
theorem iZ{u ty:TypeId}{i:TypeInfo}{z:Value}(ht:P.underlying t=some (.slice e))(hu:P.underlying u=some d)(hd:Vz d=true)(hi:P.info? e=some i)(hz:i.zero=some z)(hby:0<i.bytes)
  {base:Option Addr} {sLen sCap:Nat} {x:Value}  {olds:List Value} (hlen:∀w:World,(Builtin.lenOf x).run P w=.ok n w) (lI:(Builtin.firstCells i.size n x).run P w.drew=.ok news.toArray w.drew)
  (hold:(Builtin.firstCells i.size sLen (.slice base sLen sCap)).run P w.drew=.ok olds.toArray w.drew) (hg:sCap<sLen+n) (hb:(sLen+n)*i.bytes<=140737488355328):
  (Builtin.append_ #[t,u] ty #[.slice base sLen sCap,x]).run P w=
   .ok (.slice (some ⟨w.heap.size,0,none⟩) (sLen+n) (grownCap w (sLen+n) sCap e)) (w.drew.alloc (.cells (olds++news++(Builtin.zeroCells z.cells (grownCap w (sLen+n) sCap e-(sLen+n))).toList).toArray e)):=by
 have hn:¬(sLen+n<=sCap):=by omega
 have h1:sLen+n<=(sLen+n)*i.bytes:=Nat.le_mul_of_pos_right _ hby;have h63':¬(9223372036854775807<((sLen:Int)+(n:Int))):=by omega
 have hfit:=growslice_fits hg hb;have h48':¬(281474976710656<Builtin.nextslicecap (sLen+n) sCap*i.bytes):=by omega
 rcases DC hd with rfl|⟨e',rfl⟩<;>simp[Builtin.append_,gg ht,gg hu,sizeOf,typeInfo,zeroValue,hi,hz,hlen,hn,h63',h48',Question.forced,lI,hold,newRow,grownCap]
 all_goals
  congr 2
  apply Array.ext';simp
end
end
section
section
variable{P:Program}{E:Env}{μ:Mu}{ρ:bD}{σ:Store}{w:World}
theorem qR{olds rest:List Value}{cap:Nat}(hs:SR E μ ρ σ w)(hf:eF ρ σ)(h1:bJ μ sz xs olds.toArray)(l1:olds.length=xs.length*sz)(h2:bJ μ sz ys news.toArray)
  (hc:(olds++news++rest).length=cap*sz) (hle:(xs++ys).length<=cap):
  ∃ρ',Grow true μ ρ σ.length w μ ρ' (σ++[(⟨1,e,sz,false,xs++ys⟩:gC)]).length (w.drew.alloc (.cells (olds++news++rest).toArray e))/\
   VR μ ρ' (.sl false σ.length 0 none) (.slice (some ⟨w.heap.size,0,none⟩) (xs++ys).length cap)/\SR E μ ρ' (σ++[(⟨1,e,sz,false,xs++ys⟩:gC)]) (w.drew.alloc (.cells (olds++news++rest).toArray e)):=by
 obtain⟨ρ',g,hv,hs'⟩:=oZ (e:=e) (cap:=cap) hs.drew hf (h1.app l1 h2 (L3:=rest)) (by simpa using hc) hle;exact⟨ρ',⟨g.mu,g.rU,g.len,g.dom,g.keep,g.size,g.muq⟩,hv,hs'⟩
theorem SR.M3{rb:RB}(h:SR E μ ρ σ w)(hf:eF ρ σ)(hl:ρ l=some rb)(hk:σ[l]?=some k)(hm:k.mode=1)(hp:rb.ph=false)(k':gC)(cur':Array Value)(h1:k'.mode=1)(KG:k'.ty=k.ty)
  (cur:Array Value) (hg:Has w rb.b cur k.ty (uq false k.sz)) (hzz:k'.sz=k.sz) (agR:cur'.size=cur.size) (Rn:k'.obj=false) (hr:bJ μ k'.sz k'.xs cur') (hfit:k'.xs.length*k'.sz<=cur'.size):
  SR E μ (df ρ σ.length ⟨rb.b,cur'.size,k'.sz,k'.xs.length,false⟩) (σ.set l {k with mode:=0}++[k']) (w.setRow rb.b cur'):=by
 have hb:=h.blk l rb k hl hk (by omega);obtain⟨c0,hc0⟩:=hb.live hp;have yT:μ rb.b=none:=by
  rcases hc0.at_ with⟨_,_,h3⟩|⟨h3,_⟩
  ·exact h3
  ·omega
 have h1':=(h.kill l {k with mode:=0} rfl);have lH:∀m fc k1,ρ m=some fc->(σ.set l {k with mode:=0})[m]?=some k1->k1.mode=1->fc.ph=false->fc.b≠rb.b:=fun m fc k1 hm' hk1 iT qK he=>by
  rcases dK hk1 with⟨_,e⟩|⟨hne,hk1⟩
  ·subst e;cases iT
  ·exact hne (h.inj m l fc rb k1 k hm' hl hk1 hk iT hm qK hp he)
 have h2:SR E μ ρ (σ.set l {k with mode:=0}) (w.setRow rb.b cur'):=by
  refine h1'.moved rfl rfl rfl (by simp) fun b hb=>?_;by_cases e:b=rb.b
  ·exact .inr ⟨e▸h.lW l rb k hl hk hm hp,e▸yT,fun m fc k1 hm' hk1 iT qK he=>lH m fc k1 hm' hk1 iT qK (he.trans e)⟩
  grind [setRow_other]
 have hlen:(σ.set l {k with mode:=0}).length=σ.length:=by simp
 have hf':eF ρ (σ.set l {k with mode:=0}):=by unfold eF;rw[hlen];exact hf
 have h3:=h2.add hf' k' ⟨rb.b,cur'.size,k'.sz,k'.xs.length,false⟩ ⟨rfl,rfl,hfit,fun e=>(by cases e),fun e=>absurd e (by simp[Rn]),fun _=>⟨cur',rfl,fun _=>hr,fun e=>absurd e (by simp[Rn]),.inl ⟨h1,hg.imp fun fz hg=>⟨KG▸GB w rb.b cur cur' k.ty fz hg.1,by grind⟩,yT⟩⟩⟩
  fun _ _=>⟨h.lW l rb k hl hk hm hp,lH⟩
 grind
theorem Rv(h:zOk P e=true):∃i z,P.info? e=some i/\i.zero=some z/\z.cells.size=i.size:=by
 unfold zOk at h;split at h
 ·cases h
 ·rename_i z hz;cases hi:P.info? e with
  |none=>simp[hi]at hz
  |some i=>
   rw[hi]at hz;have:=cj h;exact⟨i,z,rfl,hz,by rw[this];simp[Program.cellsOf,hi]⟩
theorem ot(hf:eF ρ σ)(k0 k:gC)(rb:RB)(w':World)(hq:q=true->rb.ph=true\/w.heap.size<=rb.b)(hk:q=true->∀b,b<w.heap.size->w'.heap[b]?=w.heap[b]?)(hz:w.heap.size<=w'.heap.size):
  Grow q μ ρ σ.length w μ (df ρ σ.length rb) (σ.set l k0++[k]).length w':=by
 have:=kQ (μ:=μ) (q:=q) hf rb k w' hq hk hz;simpa using this
theorem AJ{R:Type}{K:AV->Store->Option R}{r:R}{t2:TypeId}{s x:AV}(h:fw P σ K t t2 s x=some r):
  ∃av σ',K av σ'=some r/\σ.length<=σ'.length/\∀(E:Env) (μ:Mu) (ρ:bD) (vs vx:Value) (ty:TypeId) (w:World),VR μ ρ s vs->VR μ ρ x vx->SR E μ ρ σ w->bu ρ σ.length σ'.length->
   ∃v w' ρ',(Builtin.append_ #[t,t2] ty #[vs,vx]).run P w=.ok v w'/\Grow false μ ρ σ.length w μ ρ' σ'.length w'/\VR μ ρ' av v/\SR E μ ρ' σ' w':=by
 unfold fw at h;split at h
 ·rename_i e d hu Yu;replace h:=aU h;obtain⟨hc,h⟩:=h;simp only[km,pt,dd]at hc;obtain⟨hd,⟨hby,hpos⟩,hzo⟩:=hc;have hby:0<P.bytesOf e:=by simpa [AT]using hby
  have hpos:0<P.cellsOf e:=by simpa [AT]using hpos
  obtain⟨i,z,hi,hz,hzs⟩:=Rv hzo;have iN:P.cellsOf e=i.size:=by simp[Program.cellsOf,hi]
  have hbi:P.bytesOf e=i.bytes:=by simp[Program.bytesOf,hi]
  split at h
  ·cases h
  ·rename_i EE ys hx;replace h:=aU h;obtain⟨EW,h⟩:=h;simp only[pt,pC]at EW;have EW:i.size=EE\/ys=[]:=by
    grind [Nat.eq_of_beq_eq_true]
   have acb:∀(μ:Mu) (news:List Value),bJ μ EE ys news.toArray->bJ μ (P.cellsOf e) ys news.toArray:=fun μ news hr=>by
    rcases EW with e1|e1
    ·rw[iN,e1];exact hr
    ·subst e1;exact .nil
   have acd:∀(news:List Value),news.length=ys.length*EE->news.length=ys.length*P.cellsOf e:=fun news hr=>by
    grind
   split at h
   ·rename_i sz0 xs0;replace h:=ah h;obtain⟨hb,h⟩:=h;have hb:=tn hb;refine⟨_,_,h,by simp,fun E μ ρ vs vx ty w ha Hd hs hf=>?_⟩;have Gx:vs=.slice none 0 0:=by
     cases ha with
     |c hx=>cases hx with
      |d hd=>cases hd with
       | @aq _ _ _ A c vals hnil hA _ _ _ _=>
        simp_all
    subst Gx;obtain⟨news,hlen,wH,hrow,hfc⟩:=AH (P:=P) hx Hd hs;have hfr:eF ρ σ:=hf.fresh (by simp);cases ys with
    |nil=>
     obtain⟨_,hs'⟩:=hs.cy hfr e (P.cellsOf e);refine⟨.slice none 0 0,w,_,?_,kQ hfr _ _ w (fun _=>.inl rfl) (fun _ _ _=>rfl) (dk _),?_,hs'⟩
     ·simp_all [dy,fo,dk]
     ·exact .c (.tB (bK ρ σ.length ⟨0,0,P.cellsOf e,0,true⟩) rfl rfl (fun n hn=>by cases hn))
    |cons y ys=>
     have hY:=acb μ news hrow;have hL:=acd news wH;have hge:=ON w (0+(y::ys).length) 0 e;obtain⟨ρ',g,hv,hs'⟩:=qR (e:=e) (xs:=[]) (ys:=y::ys) (olds:=[]) (news:=news) (rest:=(Builtin.zeroCells z.cells (grownCap w (0+(y::ys).length) 0 e-(0+(y::ys).length))).toList) (cap:=grownCap w (0+(y::ys).length) 0 e) hs hfr
      .nil (by simp) hY (by
       simp only[ly,ec,hL,qs,NO,hzs,iN,<-sh]
       congr 1;omega) (by simpa using hge)
     refine⟨_,_,ρ',iZ hu Yu hd hi hz (by rw[<-hbi];exact hby) (base:=none) (sLen:=0) (sCap:=0) (olds:=[]) (news:=news) hlen (by
       have:=hfc i.size (y::ys).length w.drew EW (dk _) rfl;grind) (by simp[Builtin.firstCells]) (by simp) (by grind),g.loud,?_,hs'⟩
     grind
   ·rename_i nil l off cut;split at h
    ·cases h
    ·rename_i b hb;replace h:=ah h;obtain⟨hc,h⟩:=h;simp only[dd,pk]at hc;obtain⟨⟨⟨⟨hm,ho⟩,hoff⟩,hbt⟩,hbs⟩:=hc;have hm:=cj hm;have hoff:=cj hoff;have hbt:=cj hbt;have hbs:=cj hbs;replace h:=ah h;obtain⟨ZV,h⟩:=h;have ZV:=tn ZV;refine⟨_,_,h,by simp,fun E μ ρ vs vx ty w ha Hd hs hf=>?_⟩;subst hoff;obtain⟨news,hlen,wH,hrow,hfc⟩:=AH (P:=P) hx Hd hs;have hY:=acb μ news hrow;have hL:=acd news wH;have hfr:eF ρ σ:=hf.fresh (by simp);have ZW:∀w':World,w'.heap=w.heap->(Builtin.firstCells i.size ys.length vx).run P w'=.ok news.toArray w':=fun w' hw'=>by
      grind
     have hkl:SR E μ ρ (σ.set l {b with mode:=0}) w:=hs.kill l _ rfl;have qT:(σ.set l {b with mode:=0}).length=σ.length:=by simp
     have He:eF ρ (σ.set l {b with mode:=0}):=by unfold eF;rw[qT];exact hfr
     cases ha with
     |c hx=>cases hx with
      |d hd=>cases hd
      | @tB _ _ _ rb hl hn _ Ao=>
       have aeK:b.xs=[]:=dy (by rw[<-(hs.blk l rb b hl hb (by omega)).n];exact hn);have hxs:fJ b.xs cut=[]:=by rw[aeK];cases cut<;>simp[fJ]
       cases ys with
       |nil=>
        obtain⟨_,hs'⟩:=hkl.cy He e (P.cellsOf e);rw[qT]at hs';have e1:(fJ b.xs cut)++([]:List (List AV))=[]:=by rw[hxs];rfl
        rw[e1];refine⟨.slice none 0 0,w,_,?_,ot hfr _ _ _ w (fun _=>.inl rfl) (fun _ _ _=>rfl) (dk _),?_,hs'⟩
        ·have Ru:news=[]:=dy (by simpa using wH);simp_all [fo,dk]
        ·exact .c (.tB (bK ρ σ.length ⟨0,0,P.cellsOf e,0,true⟩) rfl rfl (fun n hn=>by cases hn))
       |cons y ys=>
        have hge:=ON w (0+(y::ys).length) 0 e;obtain⟨ρ',g,hv,hs'⟩:=qR (e:=e) (xs:=[]) (ys:=y::ys) (olds:=[]) (news:=news) (rest:=(Builtin.zeroCells z.cells (grownCap w (0+(y::ys).length) 0 e-(0+(y::ys).length))).toList) (cap:=grownCap w (0+(y::ys).length) 0 e) hkl He
         .nil (by simp) hY (by
          simp only[ly,ec,hL,qs,NO,hzs,iN,<-sh]
          congr 1;omega) (by simpa using hge)
        rw[qT]at g hv;have e1:(fJ b.xs cut)++(y::ys)=[]++(y::ys):=by rw[hxs]
        rw[e1];refine⟨_,_,ρ',iZ hu Yu hd hi hz (by rw[<-hbi];exact hby) (base:=none) (sLen:=0) (sCap:=0) (olds:=[]) (news:=news) hlen (ZW w.drew rfl) (by simp[Builtin.firstCells]) (by simp) (by
          grind),g.loud,?_,hs'⟩
        grind
      | @sl _ _ _ rb a len cap hl hp ha qO Yv hcap jE=>
       have hbl:=hs.blk l rb b hl hb (by omega);obtain⟨cur,hc⟩:=hbl.live hp;obtain⟨fz,eY⟩:∃fz,(w.heap[rb.b]?=some (.cells cur b.ty fz)/\sJ (uq false b.sz) cur.size fz):=by
        rcases hc.at_ with⟨_,h2,h3⟩|⟨h3,_⟩
        ·rw[ho]at h2;exact h2
        ·omega
       have ha':a=⟨rb.b,0,none⟩:=by
        grind
       subst ha';have hcl:len=(fJ b.xs cut).length:=by
        have hbn:=hbl.n;cases cut with
        |none=>rw[qO,hbn];simp[qJ,fJ]
        |some m=>simp only[qJ]at qO;simp only[fJ,uv];omega
       have hct:b.xs.take (fJ b.xs cut).length=fJ b.xs cut:=by
        cases cut with
        |none=>simp[fJ]
        |some m=>simp[fJ,List.take_eq_take_iff]
       have qQ:=hcl;subst qQ;have hsz:rb.sz=P.cellsOf e:=hbl.sz.trans hbs;have Rx:cur.size=cap*P.cellsOf e:=by rw[hc.size,<-jE,hsz];simp
       have DD:bJ μ (P.cellsOf e) (fJ b.xs cut) (cur.toList.take ((fJ b.xs cut).length*P.cellsOf e)).toArray:=by
        have:=(hc.mq ho).take (fJ b.xs cut).length;rwa [hct,hsz]at this
       have hfit:(fJ b.xs cut).length*P.cellsOf e<=cur.size:=by rw[Rx];exact fi _ hcap
       have hlX:(cur.toList.take ((fJ b.xs cut).length*P.cellsOf e)).length=(fJ b.xs cut).length*P.cellsOf e:=by grind
       by_cases hroom:(fJ b.xs cut).length+ys.length<=cap
       ·have Ry:(fJ b.xs cut).length*P.cellsOf e+news.length<=cur.size:=by
         rw[hL,<-sh,Rx];exact fi _ hroom
        have hone:∀u∈news,u.oneCell'=true:=hY.list hL;have hst:=cE P rb.b ((fJ b.xs cut).length*i.size) b.ty (uq false b.sz) fz news 0 cur w eY.1 eY.2 (by grind) hone;simp only[na]at hst
        let cur':Array Value:=(cur.toList.take ((fJ b.xs cut).length*i.size)++news++cur.toList.drop ((fJ b.xs cut).length*i.size+news.length)).toArray
        have hcs':cur'.size=cap*P.cellsOf e:=by
         grind
        have hs':=hs.M3 hfr hl hb hm hp ⟨1,e,P.cellsOf e,false,(fJ b.xs cut)++ys⟩ cur' rfl hbt.symm cur ⟨fz,eY⟩ hbs.symm (by rw[hcs',Rx]) rfl (by
         have:=DD.app hlX hY (L3:=cur.toList.drop ((fJ b.xs cut).length*i.size+news.length));grind) (by rw[hcs'];simp only[ec];grind)
        refine⟨.slice (some ⟨rb.b,0,none⟩) ((fJ b.xs cut).length+ys.length) cap,w.setRow rb.b cur',_,?_,ot hfr _ _ _ _ (fun e=>by cases e) (fun e=>by cases e) (by simp),?_,hs'⟩
        ·exact fo (P:=P) (w:=w) (ty:=ty) hu Yu hd hi hlen (ZW w rfl) hroom (by simp only[bZ,gv];exact hst)
        ·have:(ys.isEmpty&&false)=false:=by simp
         rw[this];exact .c (.sl (bK ρ σ.length ⟨rb.b,cur'.size,P.cellsOf e,((fJ b.xs cut)++ys).length,false⟩) rfl (.inl (by simp)) (by simp[qJ]) (by simp) (by simpa using hroom) (by simp[hcs']))
       ·have hge:=ON w ((fJ b.xs cut).length+ys.length) cap e;obtain⟨ρ',g,hv,hs'⟩:=qR (e:=e) (xs:=(fJ b.xs cut)) (ys:=ys) (olds:=cur.toList.take ((fJ b.xs cut).length*P.cellsOf e)) (news:=news) (rest:=(Builtin.zeroCells z.cells (grownCap w ((fJ b.xs cut).length+ys.length) cap e-((fJ b.xs cut).length+ys.length))).toList) (cap:=grownCap w ((fJ b.xs cut).length+ys.length) cap e) hkl He
         DD hlX hY (by
          simp only[ec];rw[hlX,hL,show∀n,(Builtin.zeroCells z.cells n).toList.length=n*P.cellsOf e from fun n=>by rw[qs,NO,hzs,iN],<-sh,<-sh]
          congr 1;omega) (by simpa using hge)
        rw[qT]at g hv;have:(ys.isEmpty&&false)=false:=by simp
        rw[this];refine⟨_,_,ρ',iZ hu Yu hd hi hz (by rw[<-hbi];exact hby) (base:=some ⟨rb.b,0,none⟩) (sLen:=(fJ b.xs cut).length) (sCap:=cap) (olds:=cur.toList.take ((fJ b.xs cut).length*P.cellsOf e)) (news:=news) hlen (ZW w.drew rfl) ?_ (by omega) (by rw[<-hbi];exact ZV),g.loud,?_,hs'⟩
        ·simp only[Builtin.firstCells];have:=Kd (P:=P) w.drew ⟨rb.b,0,none⟩ (cur.toList.take ((fJ b.xs cut).length*P.cellsOf e)) fun j u hu=>?_
         ·grind
         ·rw[oa]at hu;split at hu
          ·rw[bZ,gv,World.cell?_drew,cell_of_row w _ _ cur b.ty fz eY.1,<-pD];exact hu
          ·cases hu
        ·simpa using hv
   ·cases h
 ·cases h
end
end
section
section
variable{P:Program}{E:Env}{μ:Mu}{ρ:bD}{σ:Store}{w:World}
theorem jG(hk:q=true->∀b,b<w.heap.size->w'.heap[b]?=w.heap[b]?)(hz:w.heap.size<=w'.heap.size):Grow q μ ρ n w μ ρ n w':=
 ⟨ak.refl μ,bV.refl ρ,dk n,fun _ _ h=>.inl h,hk,hz,fun _ _ _ h=>.inl h⟩
theorem gS{σ:List α}{k:α}(h:σ[l]?=some k):σ.set l k=σ:=by
 apply kj;grind
theorem aM{b:Bool}{x y:Option α}{r:α}(h:cond b x y=some r):(b=true/\x=some r)\/(b=false/\y=some r):=by
 grind
def OL(A:Option Addr)(vs:List Value):Sem Unit:=
 match A with
 |some a=>storeCells a vs
 |none=>pure ()
theorem EX{R:Type}{K:AV->Store->Option R}{r:R}{t2:TypeId}{d s:AV}(h:lF P σ K t d s=some r):
  ∃av σ',K av σ'=some r/\σ.length<=σ'.length/\∀(E:Env) (μ:Mu) (ρ:bD) (vd vs:Value) (ty:TypeId) (w:World),VR μ ρ d vd->VR μ ρ s vs->SR E μ ρ σ w->
   ∃v w',(Builtin.copy_ #[t,t2] ty #[vd,vs]).run P w=.ok v w'/\Grow false μ ρ σ.length w μ ρ σ'.length w'/\VR μ ρ av v/\SR E μ ρ σ' w':=by
 unfold lF at h;split at h
 ·rename_i e hu;split at h
  ·rename_i EE ys nil l off cut hx;split at h
   ·rename_i b n hb hn;replace h:=ah h;obtain⟨hc,h⟩:=h;simp only[dd,pk]at hc;obtain⟨⟨⟨⟨hm,ho⟩,hbs⟩,EW⟩,hpos⟩:=hc;have hm:=cj hm;have hbs:=cj hbs;have hpos:0<P.cellsOf e:=by simpa [AT]using hpos
    simp only[pC]at EW;have EW:P.cellsOf e=EE\/ys=[]:=by
     grind [Nat.eq_of_beq_eq_true]
    have hI:(P.info? e).isSome=true:=by
     cases hi:P.info? e with
     |none=>simp[Program.cellsOf,hi]at hpos
     |some i=>rfl
    refine⟨_,_,h,by simp,fun E μ ρ vd vs ty w ha Hd hs=>?_⟩;obtain⟨news,hlen,wH,hrow,hfc⟩:=AH (P:=P) hx Hd hs;obtain⟨A,c,Gx⟩:=oW hn ha hs;subst Gx;have hm0:min ys.length n<=ys.length:=Nat.min_le_left _ _;have hmn:min ys.length n<=n:=Nat.min_le_right _ _;have hY:bJ μ (P.cellsOf e) (ys.take (min ys.length n)) (news.take (min ys.length n*P.cellsOf e)).toArray:=by
     rcases EW with e1|e1
     ·rw[e1];exact hrow.aca _
     ·subst e1;simpa using bJ.nil
    have hYl:(news.take (min ys.length n*P.cellsOf e)).length=(ys.take (min ys.length n)).length*P.cellsOf e:=by
     grind [List.length_take,Nat.min_eq_left,Nat.mul_le_mul_right]
    have aeL:(ys.take (min ys.length n)).length=min ys.length n:=by grind
    have hrun:∀w':World,(OL A (news.take (min ys.length n*P.cellsOf e))).run P w=.ok () w'->
      (Builtin.copy_ #[t,t2] ty #[.slice A n c,vs]).run P w=.ok (.int .i64 ((min ys.length n:Nat):Int)) w':=fun w' hst=>by
     have hf:=hfc (P.cellsOf e) (min ys.length n) w EW hm0 rfl;cases A with
     |none=>
      simp only[OL,fv,Result.ok.injEq,true_and]at hst;subst hst;simp[Builtin.copy_,gg hu,hlen,dg hI,hf,goInt]
     |some a=>
      simp only[OL]at hst;simp[Builtin.copy_,gg hu,hlen,dg hI,hf,goInt,hst]
    by_cases hz:min ys.length n=0
    ·have Ru:news.take (min ys.length n*P.cellsOf e)=[]:=by rw[hz];simp
     have hst:(OL A (news.take (min ys.length n*P.cellsOf e))).run P w=.ok () w:=by
      rw[Ru];cases A<;>simp[OL,storeCells]
     have hsame:({b with xs:=b.xs.take off++ys.take (min ys.length n)++b.xs.drop (off+min ys.length n)}:gC)=b:=by
      rw[hz];simp
     rw[hsame,gS hb];exact⟨_,w,hrun w hst,jG (fun _ _ _=>rfl) (dk _),.int _ _,hs⟩
    ·cases ha with
     |c hx=>cases hx with
      |d hd=>cases hd
      |tB=>omega
      | @sl _ _ _ rb a _ _ hl hp ha qO Yv hcap jE=>
       have hbl:=hs.blk l rb b hl hb (by omega);obtain⟨cur,hc⟩:=hbl.live hp;obtain⟨fz,eY,hfz⟩:Has w rb.b cur b.ty (uq b.obj b.sz):=by
        rcases hc.at_ with⟨_,h2,_⟩|⟨h3,_⟩
        ·exact h2
        ·omega
       have ha':a=⟨rb.b,off*rb.sz,none⟩:=by
        grind
       subst ha';have hsz:rb.sz=P.cellsOf e:=hbl.sz.trans hbs;have Kr:=hc.mq ho;rw[hsz]at Kr;have hnx:off+n<=b.xs.length:=by rw[<-hbl.n];exact Yv
       have hfit:b.xs.length*P.cellsOf e<=cur.size:=by rw[hc.size,<-hsz,<-hbl.n];exact hbl.fit
       have Ry:off*P.cellsOf e+min ys.length n*P.cellsOf e<=cur.size:=by
        rw[<-sh];exact iS (fi _ (by omega)) hfit
       have aeM:(news.take (min ys.length n*P.cellsOf e)).length=min ys.length n*P.cellsOf e:=by rw[hYl,aeL]
       have hst:=cE P rb.b (off*P.cellsOf e) b.ty (uq b.obj b.sz) fz (news.take (min ys.length n*P.cellsOf e)) 0 cur w eY hfz (by grind) (hY.list hYl);simp only[na,aeM]at hst;have ace:bJ μ (P.cellsOf e) (b.xs.take off++ys.take (min ys.length n)++b.xs.drop (off+min ys.length n))
         (cur.toList.take (off*P.cellsOf e)++news.take (min ys.length n*P.cellsOf e)++cur.toList.drop (off*P.cellsOf e+min ys.length n*P.cellsOf e)).toArray:=by
        have l1:(cur.toList.take (off*P.cellsOf e)).length=(b.xs.take off).length*P.cellsOf e:=by
         grind
        have M4:=(Kr.take off).app l1 hY (L3:=[]);rw[ir]at M4;have agS:=M4.app (by grind) (Kr.drop (off+min ys.length n)) (L3:=[]);grind
       have hs':=hs.write hl hb hm hp (b.xs.take off++ys.take (min ys.length n)++b.xs.drop (off+min ys.length n)) cur
        (cur.toList.take (off*P.cellsOf e)++news.take (min ys.length n*P.cellsOf e)++cur.toList.drop (off*P.cellsOf e+min ys.length n*P.cellsOf e)).toArray ⟨fz,eY,hfz⟩ hc.size
        (by rw[<-hc.size];grind)
        (by grind) (fun _=>by rw[hsz];exact ace) (fun e=>absurd e (by simp[ho]))
       refine⟨_,_,hrun _ (by simp only[OL,hsz];exact hst),by simp_all [ff,jG],.int _ _,hs'⟩
   ·cases h
  ·cases h
 ·cases h
theorem AK{m m':Nat}(g:Grow q μ ρ n w μ' ρ' n' w')(e:m=n)(e':m'=n'):Grow q μ ρ m w μ' ρ' m' w':=by subst e;subst e';exact g
theorem lX(ht:Kq P t=true){g o:Nat}{ty:TypeId}{v:Value}{ob:Bool}(hg:Has w g cur ty ob)(hl:v.cells.size=P.cellsOf t)(hfit:o+P.cellsOf t<=cur.size)(h1:∀u∈v.cells.toList,u.oneCell'=true):
  (Instr.storeAt t (.pointer (some ⟨g,o,none⟩)) v).run P w=.ok () (w.setRow g (cur.toList.take o++v.cells.toList++cur.toList.drop (o+P.cellsOf t)).toArray):=by
 have hI:=(gQ ht).2.2.2;obtain⟨fz,hg,hfz⟩:=hg;have hst:=cE P g o ty ob fz v.cells.toList 0 cur w hg hfz (by simpa [hl]using hfit) h1;simp only[na,qs,hl]at hst;simp only[Instr.storeAt,Instr.sureAddr,storeVar,fy,fv,eh,dg hI,hl,M1,not_true,tm,hst]
theorem CY{R:Type}{K:Store->Option R}{r:R}{x:AV}(h:gW P σ t a x K=some r):
  ∃σ',K σ'=some r/\σ.length<=σ'.length/\∀(E:Env) (μ:Mu) (ρ:bD) (va vx:Value) (w:World),VR μ ρ a va->VR μ ρ x vx->SR E μ ρ σ w->
   ∃w' μ',(Instr.storeAt t va vx).run P w=.ok () w'/\Grow false μ ρ σ.length w μ' ρ σ'.length w'/\SR E μ' ρ σ' w':=by
 unfold gW at h;replace h:=aU h;obtain⟨ht,h⟩:=h;simp only[pt]at ht;split at h
 ·rename_i l i j;split at h
  ·cases h
  ·rename_i b hb;split at h
   ·cases h
   ·rename_i xc gp;rcases aM h with⟨hbig,h1⟩|⟨_,h1⟩
    ·clear h;simp only[dd,pk]at hbig;obtain⟨hbt,ho⟩:=hbig;obtain⟨hm,h⟩:=ah h1;have hm:=cj hm;obtain⟨hg,h⟩:=ah h;simp only[dd,tp]at hg;obtain⟨g0,hxl,aeN⟩:=hg;simp only[Ra,dd]at hbt;obtain⟨⟨⟨⟨⟨g1,g2⟩,g3⟩,g4⟩,g5⟩,g6⟩:=hbt;have g2:=cj g2;have g4:=cj g4;have g5:=cj g5;subst g4;subst g5;refine⟨_,h,by simp,fun E μ ρ va vx w ha Hd hs=>?_⟩;cases ha with
     |c hx=>cases hx with
      |d hd=>cases hd
      | @ptr _ _ _ rb hl hp=>
       have hbl:=hs.blk l rb b hl hb (by omega);obtain⟨cur,hc⟩:=hbl.live hp;have eY:Has w rb.b cur b.ty (uq b.obj b.sz):=by
        rcases hc.at_ with⟨_,h2,_⟩|⟨h3,_⟩
        ·exact h2
        ·omega
       have QY:=Hd.cells gp;have hvl:vx.cells.size=P.cellsOf t:=by rw[<-hxl,<-QY.1];simp
       have hs1:rb.sz=1:=hbl.sz.trans g2;have hfit:P.cellsOf t<=cur.size:=by
        have:=hbl.fit;rw[hs1,oe,hbl.n,g0,<-hc.size]at this;exact this
       have hrun:=lX (P:=P) (w:=w) (t:=t) ht (o:=0*rb.sz+0) eY hvl (by omega) QY.one;simp only[By,na,gv,List.take_zero,ly]at hrun;have hs':=hs.write hl hb hm hp (xc.map fun c=>[c]) cur (vx.cells.toList++cur.toList.drop (P.cellsOf t)).toArray eY hc.size
        (by rw[<-hc.size];grind) (by grind) (fun _=>by
         refine⟨fun e he=>?_,fun p e q c he hc'=>?_⟩
         ·grind
         ·rw[et,kn]at he;obtain⟨c0,hc0,rfl⟩:=he;have VK:q=0:=by
           grind
          subst VK;simp only[te,bj]at hc';subst hc';have aeO:p<xc.length:=(eR.1 hc0).1;have wK:p<vx.cells.toList.length:=by rw[QY.1];exact aeO
          have ZU:=QY.2 p c0 _ hc0 (ao wK);refine⟨vx.cells.toList[p],?_,?_⟩
          ·grind
          ·have h4:=ka.1 aeN c0 (dp hc0);unfold Kw at h4;split at h4
           ·cases ZU with
            |d hd=>exact hd
           ·cases h4) (fun e=>absurd e (by simp[ho]))
       refine⟨_,μ,?_,AK (jG (fun e=>by cases e) (by simp)) rfl (by simp),hs'⟩;simpa using hrun
    ·clear h;have h:=h1;clear h1;replace h:=aU h;obtain⟨hc,h⟩:=h;simp only[km,pt]at hc;have hm:=cj hc.1;have hxl:=cj hc.2;rcases aM h with⟨ho,h1⟩|⟨ho,h1⟩
     ·clear h;obtain⟨hle,h⟩:=ah h1;simp only[dd]at hle;have hj:=pe hle.1;have hi:=cj hle.2;refine⟨_,h,by simp,fun E μ ρ va vx w ha Hd hs=>?_⟩;cases ha with
      |c hx=>cases hx with
       |d hd=>cases hd
       | @ptr _ _ _ rb hl hp=>
        obtain⟨cur,ty,fz,h1,h2,h3,h4,h5,h6⟩:=rX hs hl hp hb (by omega) ho;obtain⟨e1,e2,_⟩:=h4 hm;subst e1;subst e2;have QY:=Hd.cells gp;have hvl:vx.cells.size=P.cellsOf t:=by rw[<-hxl,<-QY.1];simp
        rw[hi,By,gv];have hrun:=lX (P:=P) (w:=w) (t:=t) ht (o:=j) (ob:=b.obj) ⟨_,h1,.inl rfl⟩ hvl (by omega) QY.one;have hnew:fe μ ρ ((aw b.xs 0).take j++xc++(aw b.xs 0).drop (j+P.cellsOf t)) (cur.toList.take j++vx.cells.toList++cur.toList.drop (j+P.cellsOf t)):=by
         refine .append (.append ?_ QY) ?_
         ·have:=h3.sub 0 j;simpa using this
         ·have:=h3.sub (j+P.cellsOf t) (aw b.xs 0).length;simp_all [yi,xf]
        have hlen:((aw b.xs 0).take j++xc++(aw b.xs 0).drop (j+P.cellsOf t)).length=(aw b.xs 0).length:=by simp[hxl];omega
        have hs':=hs.write hl hb hm hp [(aw b.xs 0).take j++xc++(aw b.xs 0).drop (j+P.cellsOf t)] cur (cur.toList.take j++vx.cells.toList++cur.toList.drop (j+P.cellsOf t)).toArray ⟨_,h1,.inl rfl⟩ (by rw[h5,h6,h2])
         (by grind) (by rw[((hs.blk l rb b hl hb (by omega)).one ho).1];rfl) (fun e=>absurd e (by simp[ho])) (fun _=>by
          refine⟨fun e he=>by grind,fun p e q c he hc=>?_⟩;have VL:p=0:=by grind
          subst VL;simp at he;subst he;rw[<-fh]at hc;have hlt:q<(cur.toList.take j++vx.cells.toList++cur.toList.drop (j+P.cellsOf t)).length:=by grind
          refine⟨_,?_,hnew.2 q c _ hc (ao hlt)⟩;grind)
        exact⟨_,μ,hrun,AK (jG (fun e=>by cases e) (by simp)) rfl (by simp),hs'⟩
     ·clear h;have h:=h1;clear h1;split at h
      ·cases h
      ·rename_i cs σ1 hfz;replace h:=ah h;obtain⟨hle,h⟩:=h;simp only[dd]at hle;have hj:=tn hle.1;have iT:∃b',σ1[l]?=some b'/\b'.mode=1:=by
        grind [Nat.eq_of_beq_eq_true]
       replace h:=ah h;obtain⟨hlt,h⟩:=h;have hlt:=tn hlt;have hsame:∀(cs:List AV) (σ σ1:Store) (cs':List AV) (b b':gC),gG σ cs=some (cs',σ1)->σ[l]?=some b->σ1[l]?=some b'->b'.mode=1->b'=b:=by
        intro cs
        induction cs with
        |nil=>intro σ σ1 cs' b b' h h1 h2 _;simp[gG]at h;grind
        |cons c cs ih=>
         intro σ σ1 cs' b b' h h1 h2 h3;simp only[gG]at h;split at h
         ·cases h
         ·rename_i c1 σ2 wF;split at h
          ·cases h
          ·rename_i cs1 σ3 sY;simp only[bj,de]at h;rw[<-h.2]at h2;unfold zZ at wF;split at wF
           ·grind
           ·grind
           ·rename_i nn ll oo cc;split at wF
            ·cases wF
            ·rename_i bb hbb;have wF:=(aU wF).2;grind [List.getElem?_eq_some_iff,List.getElem?_set_self,List.getElem?_set_ne]
           ·cases wF
       obtain⟨b',hb',hb1⟩:=iT;have hbb:=hsame _ _ _ _ _ _ hfz hb hb' hb1;subst hbb;have xX:=G9 _ _ _ _ hfz;have key:∀(row:List AV),K (σ1.set l {b' with xs:=b'.xs.set i row})=some r->(row=(aw b'.xs i).take j++cs++(aw b'.xs i).drop (j+P.cellsOf t)\/(row=cs/\P.cellsOf t=b'.sz))->
        ∃σ',K σ'=some r/\σ.length<=σ'.length/\∀(E:Env) (μ:Mu) (ρ:bD) (va vx:Value) (w:World),VR μ ρ (.ptr l i j) va->VR μ ρ x vx->SR E μ ρ σ w->
         ∃w' μ',(Instr.storeAt t va vx).run P w=.ok () w'/\Grow false μ ρ σ.length w μ' ρ σ'.length w'/\SR E μ' ρ σ' w':=fun row hk hrow=>by
        refine⟨_,hk,by simp[xX],fun E μ ρ va vx w ha Hd hs=>?_⟩;cases ha with
        |c hx=>cases hx with
         |d hd=>cases hd
         | @ptr _ _ _ rb hl hp=>
          have QY:=Hd.cells gp;have hvl:vx.cells.size=P.cellsOf t:=by rw[<-hxl,<-QY.1];simp
          obtain⟨μ1,VG,hs1,hd1,hn1,CT⟩:=tC hs QY hfz;have hbl:=hs1.blk l rb b' hl hb' (by omega);obtain⟨cur,hc⟩:=hbl.live hp;have eY:Has w rb.b cur b'.ty (uq b'.obj b'.sz):=by
           rcases hc.at_ with⟨_,h2,_⟩|⟨h3,_⟩
           all_goals grind
          have Kr:=hc.mq ho;have hsz:=hbl.sz;have hfit:b'.xs.length*rb.sz<=cur.size:=by rw[hc.size,<-hbl.n];exact hbl.fit
          have hir:(i+1)*rb.sz<=b'.xs.length*rb.sz:=fi _ hlt;rw[sh,Nat.one_mul]at hir;have Ry:i*rb.sz+j+P.cellsOf t<=cur.size:=by omega
          have hxi:b'.xs[i]?=some (aw b'.xs i):=by simp[aw,kc,ao hlt]
          have QZ:(aw b'.xs i).length=rb.sz:=Kr.1 _ (dp hxi);have hrow:row=(aw b'.xs i).take j++cs++(aw b'.xs i).drop (j+P.cellsOf t):=by
           rcases hrow with e|⟨e1,e2⟩
           ·exact e
           ·have VJ:j=0:=by omega
            simp_all
          subst hrow;have hrun:=lX (P:=P) (w:=w) (t:=t) ht (o:=i*rb.sz+j) eY hvl Ry QY.one;have hcl:cs.length=P.cellsOf t:=by rw[CT,hxl]
          have hs':=hs1.write hl hb' hb1 hp (b'.xs.set i ((aw b'.xs i).take j++cs++(aw b'.xs i).drop (j+P.cellsOf t))) cur
           (cur.toList.take (i*rb.sz+j)++vx.cells.toList++cur.toList.drop (i*rb.sz+j+P.cellsOf t)).toArray eY hc.size
           (by rw[<-hc.size];grind) (by simp) (fun _=>by
            refine⟨fun e he=>?_,fun p e q c he hc'=>?_⟩
            ·rcases zp he with h1|h1
             ·exact Kr.1 e h1
             grind
            ·rw[vy];by_cases hpi:p=i
             ·subst hpi;rw[vq hlt]at he;injection he with he;subst he;have hq:q<rb.sz:=by grind
              have htk:((aw b'.xs p).take j).length=j:=by simp[QZ];omega
              have VM:(cur.toList.take (p*rb.sz+j)).length=p*rb.sz+j:=by simp;omega
              rcases od q j with hqj|hqj
              ·rw[fh,fj (by omega),oa,ee hqj]at hc';obtain⟨u,h3,h4⟩:=Kr.2 p _ q c hxi hc';grind
              ·rw[fh,en (by omega),htk]at hc';rcases od (q-j) (P.cellsOf t)with hqt|hqt
               ·rw[fj (by omega)]at hc';have OH:q-j<vx.cells.toList.length:=by grind
                refine⟨_,?_,hd1.2 _ c _ hc' (ao OH)⟩;rw[fh,en (by omega),VM,fj (by omega),show p*rb.sz+q-(p*rb.sz+j)=q-j by omega];grind
               ·rw[en (by omega),hcl,se,show j+P.cellsOf t+(q-j-P.cellsOf t)=q by omega]at hc';obtain⟨u,h3,h4⟩:=Kr.2 p _ q c hxi hc';refine⟨u,?_,h4⟩;rw[fh,en (by omega),VM,en (by grind),qs,hvl,se,
                 show p*rb.sz+j+P.cellsOf t+(p*rb.sz+q-(p*rb.sz+j)-P.cellsOf t)=p*rb.sz+q by omega,pD]
                exact h3
             ·rw[sd (fun e=>hpi e.symm)]at he;obtain⟨u,h3,h4⟩:=Kr.2 p e q c he hc';refine⟨u,?_,h4⟩;have hq:q<rb.sz:=by rw[<-Kr.1 e (dp he)];grind
              have VM:(cur.toList.take (i*rb.sz+j)).length=i*rb.sz+j:=by simp;omega
              rcases od p i with OH|hgt
              ·have:(p+1)*rb.sz<=i*rb.sz:=fi _ OH;grind
              ·have:(i+1)*rb.sz<=p*rb.sz:=fi _ (by omega);rw[sh,Nat.one_mul]at this;rw[fh,en (by omega),VM,en (by grind),qs,hvl,se,
                show i*rb.sz+j+P.cellsOf t+(p*rb.sz+q-(i*rb.sz+j)-P.cellsOf t)=p*rb.sz+q by omega,pD]
               exact h3) (fun e=>absurd e (by simp[ho]))
          exact⟨_,μ1,hrun,⟨VG,bV.refl ρ,by simp[xX],fun _ _ h=>.inl h,fun e=>(by cases e),by simp,fun e=>(by cases e)⟩,hs'⟩
       rcases aM h with⟨hfull,h1⟩|⟨_,h1⟩
       all_goals grind [Nat.eq_of_beq_eq_true]
 ·rename_i l j n i;split at h
  ·rename_i b y hb;replace h:=aU h;obtain⟨hc,h⟩:=h;simp only[km,pt]at hc;obtain⟨⟨⟨⟨hy,hm⟩,ho⟩,jm⟩,hle⟩:=hc;have hm:=cj hm;have hle:=pe hle;have hone:P.cellsOf t=1:=by
    rcases(gQ ht).2.2.1 with e|e
    all_goals grind
   refine⟨_,h,by simp,fun E μ ρ va vx w ha Hd hs=>?_⟩;have:=Hd.dB;subst this;cases ha with
   |c hx=>cases hx with
    |d hd=>cases hd
    | @px _ _ _ _ rb hl hp hi=>
     obtain⟨cur,ty,fz,h1,h2,h3,h4,h5,h6⟩:=rX hs hl hp hb (by omega) ho;obtain⟨e1,e2,_⟩:=h4 hm;subst e1;subst e2;have hcell:vx.cells= #[vx]:=by have:=EO hy;cases vx<;>first|rfl|cases this
     have hrun:=lX (P:=P) (w:=w) (t:=t) ht (o:=j+i) (ob:=b.obj) ⟨_,h1,.inl rfl⟩ (by rw[hcell,hone];rfl) (by omega) (by simp_all [EO]);rw[hcell,hone]at hrun;have aeP:(aw b.xs 0).take j++zY i (.v vx) 0 (((aw b.xs 0).drop j).take n)++(aw b.xs 0).drop (j+n)=(aw b.xs 0).set (j+i) (.v vx):=by
      rw[GV i _ _ 0 (nt _) (by simp;omega),ahk];apply kj;intro q;have ZX:((aw b.xs 0).take j).length=j:=by simp;omega
      have ht2:((((aw b.xs 0).drop j).take n).set i (AV.v vx)).length=n:=by simp;omega
      rcases od q j with hq|hq
      ·grind
      ·rw[fh,en (by omega),ZX];rcases od (q-j) n with hq2|hq2
       ·rw[fj (by omega)];by_cases e:q=j+i
        ·grind
        ·rw[sd (by omega),sd (by omega),oa,ee hq2,se,show j+(q-j)=q by omega]
       ·rw[en (by omega),ht2,se,sd (by omega),show j+n+(q-j-n)=q by omega]
     have hval:cur.toList.take (j+i)++ #[vx].toList++cur.toList.drop (j+i+1)=cur.toList.set (j+i) vx:=by
      apply kj;intro q;have ZX:(cur.toList.take (j+i)).length=j+i:=by simp;omega
      rcases od q (j+i)with hq|hq
      ·grind
      ·rw[fh,en (by omega),ZX];by_cases e:q=j+i
       ·grind
       ·rw[en (by simp;omega),sd (by omega),se]
        congr 1;simp;omega
     have hnew:fe μ ρ ((aw b.xs 0).set (j+i) (.v vx)) (cur.toList.set (j+i) vx):=by
      refine⟨by simp[h2],fun q u v hu hv=>?_⟩;by_cases e:q=j+i
      ·subst e;rw[vq (by omega)]at hu;rw[vq (by simp;omega)]at hv;injection hu with hu;injection hv with hv;subst hu;subst hv;exact .d (.v hy)
      ·rw[sd (by omega)]at hu hv;exact h3.2 q u v hu hv
     rw[hval]at hrun;have hs':=hs.write hl hb hm hp [(aw b.xs 0).set (j+i) (.v vx)] cur (cur.toList.set (j+i) vx).toArray ⟨_,h1,.inl rfl⟩ (by rw[h5,h6,h2])
      (by rw[h5,h6];simp[h2]) (by rw[((hs.blk l rb b hl hb (by omega)).one ho).1];rfl) (fun e=>absurd e (by simp[ho])) (fun _=>by
       refine⟨fun e he=>by grind,fun p e q c he hc=>?_⟩;have VL:p=0:=by grind
       subst VL;simp at he;subst he;have hlt:q<(cur.toList.set (j+i) vx).length:=by grind
       refine⟨_,?_,hnew.2 q c _ hc (ao hlt)⟩;grind)
     exact⟨_,μ,hrun,AK (jG (fun e=>by cases e) (by simp)) rfl (by simp),by rw[aeP];exact hs'⟩
  ·cases h
 ·cases h
theorem Hf{R:Type}{K:AV->Store->Option R}{r:R}{a:AV}{hi:Option AV}(h:qd P σ K t a hi=some r):
  ∃av σ',K av σ'=some r/\σ.length<=σ'.length/\∀(E:Env) (μ:Mu) (ρ:bD) (va:Value) (xV:Option Value) (w:World),VR μ ρ a va->(∀a,hi=some a->∃v,xV=some v/\VR μ ρ a v)->SR E μ ρ σ w->bu ρ σ.length σ'.length->
   ∃v ρ',(Instr.sliceAt t va none xV none).run P w=.ok v w/\Grow false μ ρ σ.length w μ ρ' σ'.length w/\VR μ ρ' av v/\SR E μ ρ' σ' w:=by
 unfold qd at h;split at h
 ·rename_i e nil l k h' hu;split at h
  ·rename_i b hb;obtain⟨hc,h⟩:=ah h;obtain⟨hh,h⟩:=ah h;simp only[dd,pk,tp]at hc hh;obtain⟨⟨⟨hm,ho⟩,hbs⟩,hI⟩:=hc;have hm:=cj hm;have hbs:=cj hbs;obtain⟨h0,h1⟩:=hh;refine⟨_,_,h,by simp,fun E μ ρ va xV w ha hv hs hf=>?_⟩;have hfr:eF ρ σ:=hf.fresh (by simp);obtain⟨v',hv1,QW⟩:=hv _ rfl;have QW:=QW.dB;subst hv1;subst QW;obtain⟨H,rfl⟩:∃H:Nat,h'=(H:Int):=⟨h'.toNat,by omega⟩;have hH:H<=b.xs.length:=by omega
   simp only[kb];cases ha with
   |c hx=>cases hx with
    |d hd=>cases hd
    | @tB _ _ _ rb hl hn _ _=>
     have hbl:=hs.blk l rb b hl hb (by omega);have hx0:b.xs=[]:=dy (by rw[<-hbl.n];exact hn);have hH0:H=0:=by grind
     subst hH0;have hkl:=hs.kill l {b with mode:=0} rfl;have qT:(σ.set l {b with mode:=0}).length=σ.length:=by simp
     have He:eF ρ (σ.set l {b with mode:=0}):=by unfold eF;rw[qT];exact hfr
     obtain⟨_,hs'⟩:=hkl.cy He b.ty b.sz;rw[qT]at hs';rw[List.take_zero];refine⟨.slice none 0 0,_,?_,ot hfr _ _ _ w (fun e=>by cases e) (fun e=>by cases e) (dk _),.c (.tB (bK ρ σ.length ⟨0,0,b.sz,0,true⟩) rfl rfl (fun n hn=>by cases hn)),hs'⟩;simp_all [run_sliceAt_slice,dk]
    | @sl _ _ _ rb a len cap hl hp ha hlen hoff hcap jE=>
     have hbl:=hs.blk l rb b hl hb (by omega);obtain⟨cur,hc⟩:=hbl.live hp;obtain⟨fz,eY⟩:Has w rb.b cur b.ty (uq b.obj b.sz):=by
      rcases hc.at_ with⟨_,h2,_⟩|⟨h3,_⟩
      ·exact h2
      ·omega
     rw[ho]at eY;have ha':a=⟨rb.b,0,none⟩:=by
      grind
     subst ha';have DE:len=b.xs.length:=by rw[hlen,<-hbl.n];simp[qJ]
     subst DE;rw[gv]at jE;have hrow:=(hc.mq ho).take H;rw[hbl.sz]at hrow jE;have AL:cap*b.sz=cur.size:=by rw[jE,hc.size]
     have hfit:(b.xs.take H).length*b.sz<=cur.size:=by
      grind [Nat.mul_le_mul_right,List.length_take]
     have AO:bJ μ b.sz (b.xs.take H) cur:=by
      have:=hrow.app (L3:=cur.toList.drop (H*b.sz)) (L2:=[]) (ys:=[]) (by
       grind) bJ.nil
      simp_all
     have hs':=hs.M3 hfr hl hb hm hp ⟨1,b.ty,b.sz,false,b.xs.take H⟩ cur rfl rfl cur ⟨fz,eY⟩ rfl rfl rfl AO hfit;rw[setRow_self w rb.b cur b.ty fz eY.1]at hs';refine⟨.slice (some ⟨rb.b,0,none⟩) H cap,_,?_,ot hfr _ _ _ w (fun e=>by cases e) (fun e=>by cases e) (dk _),?_,hs'⟩
     ·simp_all [run_sliceAt_slice,bZ]
     ·exact .c (.sl (bK ρ σ.length ⟨rb.b,cur.size,b.sz,(b.xs.take H).length,false⟩) rfl (.inl (by simp)) (by simp[qJ];omega) (by simp;omega) (by omega) (by simpa using AL))
  ·cases h
 ·cases h
end
end
section
def CZ(ρ:bD)(n:Nat):Prop:=∀l rb,ρ l=some rb->l<n
def C0(μ:Mu)(ρ:bD)(fr:List (Nat×AV))(a:Act)(o:Oper):Prop:=∀x∈o.op.operands,VR μ ρ (fP fr x) (a.eval x)
def sK(C:gD)(o:Oper):Bool:=
 match o.op with
 | .call c=>match c.callee with| .value (.func f)=> !(Ai C f)| .value _=>true|_=>false
 |_=>false
def DG(P:Program)(C:gD)(q:Bool)(o:Oper)(fr:List (Nat×AV))(σ:Store)(av:AV)(σ':Store):Prop:=
 ∀(E:Env) (μ:Mu) (ρ:bD) (a:Act) (w:World) (next:Act->World->Prop) (Q:Exit->Act->World->Prop),C0 μ ρ fr a o->SR E μ ρ σ w->bu ρ σ.length σ'.length->(q=false->sK C o=true->CZ ρ σ.length)->
  (∀(v:Value) (w':World) (μ':Mu) (ρ':bD),Grow q μ ρ σ.length w μ' ρ' σ'.length w'->VR μ' ρ' av v->SR E μ' ρ' σ' w'->next (a.put o.dst v) w')->o.wp P a w next Q
def kR(P:Program)(C:gD)(f:FuncId):Bool:=
 match P.funcs[f]? with
 |some fn=> !(C.inl f||(C.rw f).any id||xM P C f fn)
 |none=>false
def PrS(P:Program)(C:gD):Prop:=∀f g,C.pr f=some g->∀xs,g.1 xs=true->(∀x∈g.2 xs,oN (.v x)=true)/\∀w,(callFunc f xs.toArray).run P w=.ok (.value (.tuple (g.2 xs).toArray)) w
def gZ(P:Program)(C:gD)(call:cK)(inl:iv):Prop:=
 PrS P C/\∀(R:Type) (σ:Store) (K:AV->Store->Option R) (r:R) (f:FuncId) (args:List AV),gJ P C call inl σ K f args=some r->
  ∃ av σ', K av σ' = some r /\ σ.length <= σ'.length /\ (kR P C f = true -> ∃ τ, σ' = σ ++ τ) /\ (∃ fn, P.funcs[f]? = some fn /\ fn.body.isNone = false /\ (fn.name == "runtime.NumGoroutine") = false) /\
   ∀(E:Env) (μ:Mu) (ρ:bD) (vals:List Value) (w:World),vals.length=args.length->(∀(k:Nat) (a:AV) (v:Value),args[k]?=some a->vals[k]?=some v->VR μ ρ a v)->SR E μ ρ σ w->bu ρ σ.length σ'.length->(kR P C f=false->Ai C f=false->CZ ρ σ.length)->
    Calls P f vals.toArray w fun e w'=> ∃v μ' ρ',e=.returned v/\Grow (kR P C f) μ ρ σ.length w μ' ρ' σ'.length w'/\VR μ' ρ' av v/\SR E μ' ρ' σ' w'
section
variable{P:Program}{C:gD}{call:cK}{inl:iv}{o:Oper}{fr:List (Nat×AV)}{σ:Store}{R:Type}{K:AV->Store->Option R}{r:R}
def bR(P:Program)(C:gD)(o:Oper):Bool:= !(Nat.beq (aY P C o) 2)
theorem eJ(h:∀(E:Env) (μ:Mu) (ρ:bD) (a:Act) (w:World),C0 μ ρ fr a o->SR E μ ρ σ w->bu ρ σ.length σ'.length->
  ∃v w' μ' ρ',(execOp a.eval o).run P w=.ok (.value v) w'/\Grow q μ ρ σ.length w μ' ρ' σ'.length w'/\VR μ' ρ' av v/\SR E μ' ρ' σ' w'):DG P C q o fr σ av σ':=by
 intro E μ ρ a w next Q hx hs hf _ hn;obtain⟨v,w',μ',ρ',h1,h2,h3,h4⟩:=h E μ ρ a w hx hs hf;unfold Oper.wp;rw[h1];exact hn v w' μ' ρ' h2 h3 h4
theorem Rz(h:∀(E:Env) (μ:Mu) (ρ:bD) (a:Act) (w:World),C0 μ ρ fr a o->SR E μ ρ σ w->bu ρ σ.length σ'.length->
  ∃w' μ' ρ',(execOp a.eval o).run P w=.ok .skip w'/\Grow q μ ρ σ.length w μ' ρ' σ'.length w'/\VR μ' ρ' av undef/\SR E μ' ρ' σ' w'):DG P C q o fr σ av σ':=by
 intro E μ ρ a w next Q hx hs hf _ hn;obtain⟨w',μ',ρ',h1,h2,h3,h4⟩:=h E μ ρ a w hx hs hf;unfold Oper.wp;rw[h1];exact hn undef w' μ' ρ' h2 h3 h4
theorem Hg(h:∀(E:Env) (μ:Mu) (ρ:bD) (a:Act) (w:World),C0 μ ρ fr a o->SR E μ ρ σ w->∃v,(execOp a.eval o).run P w=.ok (.value v) w/\VR μ ρ av v):DG P C q o fr σ av σ:=
 eJ fun E μ ρ a w hx hs _=>let⟨v,h1,h2⟩:=h E μ ρ a w hx hs;⟨v,w,μ,ρ,h1,.refl _ _ _ _ _,h2,hs⟩
def M5(P:Program)(C:gD)(o:Oper)(fr:List (Nat×AV))(σ:Store)(K:AV->Store->Option R)(r:R):Prop:=
 ∃av σ',K av σ'=some r/\σ.length<=σ'.length/\(bR P C o=true->∃τ,σ'=σ++τ)/\DG P C (bR P C o) o fr σ av σ'
theorem kS(hk:K av σ=some r)(h:∀(E:Env) (μ:Mu) (ρ:bD) (a:Act) (w:World),C0 μ ρ fr a o->SR E μ ρ σ w->∃v,(execOp a.eval o).run P w=.ok (.value v) w/\VR μ ρ av v):M5 P C o fr σ K r:=
 ⟨av,σ,hk,dk _,fun _=>⟨[],by simp⟩,Hg h⟩
theorem xY(ho:o.op=.move x\/o.op=.assign x)(hn:x=.const (.slice none 0 0))(hk:K (cy P σ e).1 (cy P σ e).2=some r):M5 P C o fr σ K r:=by
 refine⟨_,_,hk,by simp[cy],fun _=>⟨_,rfl⟩,eJ fun E μ ρ a w hxx hs hf=>?_⟩;have hfr:eF ρ σ:=hf.fresh (by simp[cy]);obtain⟨_,hs'⟩:=hs.cy hfr e (P.cellsOf e);refine⟨.slice none 0 0,w,μ,_,?_,kQ hfr _ _ w (fun _=>.inl rfl) (fun _ _ _=>rfl) (dk _),.c (.tB (bK ρ σ.length ⟨0,0,P.cellsOf e,0,true⟩) rfl rfl (fun n hn=>by cases hn)),hs'⟩;subst hn;rcases ho with ho|ho<;>simp[execOp,ho,Act.eval]
theorem RC{P:Program}{s:Sem Unit}{w:World}(h:s.run P w=.ok () w'):(do s;pure .skip:Sem Next).run P w=.ok .skip w':=by
 simp_all
theorem lY{parts:Array (Nat×Operand)}{μ:Mu}{ρ:bD}{a:Act}(h:∀x∈(parts.toList.map (·.2)).toArray,VR μ ρ (fP fr x) (a.eval x)):
  (parts.toList.map fun(i,x)=>(i,fP fr x)).length=(parts.map fun(i,x)=>(i,a.eval x)).size/\
   ∀(q i:Nat) (av:AV),(parts.toList.map fun(i,x)=>(i,fP fr x))[q]?=some (i,av)->∃v:Value,(parts.map fun(i,x)=>(i,a.eval x)).toList[q]?=some (i,v)/\VR μ ρ av v:=by
 refine⟨by simp,fun q i av hq=>?_⟩;grind
theorem OM{y z:Operand}(h:z=x\/z=y):z∈(#[x,y]:Array Operand):=by
 grind
theorem VN:x∈(#[x]:Array Operand):=by simp
theorem nz(ho:(∃n ps,o.op=.buildSlice t n ps)\/(∃x y,o.op=.makeSlice t x y))(hq:bR P C o=true):yU P t=true:=by
 rcases ho with⟨n,ps,ho⟩|⟨x,y,ho⟩<;>
 ·simp only[bR,aY,ho]at hq;split at hq
  ·rename_i e hu;rw[yU,hu];cases hp:jC P e with
   |true=>exact hp
   |false=>rw[hp]at hq;cases hq
  ·cases hq
theorem RD{q':Bool}{μ:Mu}{ρ:bD}{w:World}(hq:q=true->q'=true)(h:Grow q' μ ρ n w μ' ρ' n' w'):Grow q μ ρ n w μ' ρ' n' w':=by
 cases q with
 |true=>rw[hq rfl]at h;exact h
 |false=>
  cases q' with
  |true=>exact h.loud
  |false=>exact h
theorem DH:∀{l:List AV} {xs:List Value},l.mapM EJ=some xs->l=xs.map .v
 |[],xs,h=>by rw[List.mapM_nil]at h;cases h;rfl
 |a::l,xs,h=>by
  rw[yr]at h;cases a with
  |v x=>
   simp only[EJ]at h;cases hl:l.mapM EJ with
   |none=>rw[hl]at h;cases h
   |some ys=>
    rw[hl]at h;cases h;rw[DH hl];rfl
  |_=>cases h
theorem RE(HP:PrS P C){c:Call}{f:Operand}{fn:FuncId}{first cX:List AV}{pg:(List Value->Bool)×(List Value->List Value)}(ho:o.op=.call c)(fD:c.callee=.value f)(hg:fP fr f=.eN fn first cX)(hpg:C.pr fn=some pg)
  (h:EK pg σ K (first++c.args.toList.map (fP fr)++cX)=some r):M5 P C o fr σ K r:=by
 unfold EK at h;split at h
 ·cases h
 ·rename_i xs hxs;obtain⟨hc,h⟩:=ah h;obtain⟨hok,hrun⟩:=HP fn pg hpg xs hc;have hpl:=DH hxs;refine kS h fun E μ ρ a w hx iY=>?_;rw[C0,ho]at hx;have ZY:=hx f (by simp[Op.operands,Call.operands,fD]);rw[hg]at ZY;generalize hv:a.eval f=v at ZY;have ZZ:∃fs cs:List Value,v=.func (.func fn) fs.toArray cs.toArray/\fe μ ρ first fs/\fe μ ρ cX cs:=by
   cases ZY with
   |c hx=>cases hx with
    |d hd=>cases hd with
     |eN h1 h2 h3 h4=>exact⟨_,_,rfl,⟨h1,fun k u v hu hv=>.d (h3 k u v hu hv)⟩,⟨h2,fun k u v hu hv=>.d (h4 k u v hu hv)⟩⟩
    |eN h1 h2 h3 h4=>exact⟨_,_,rfl,⟨h1,h3⟩,⟨h2,h4⟩⟩
  obtain⟨fs,cs,hve,hfs,hcs⟩:=ZZ;subst hve;have hrel:∀(k:Nat) (u:AV) (v:Value),(first++c.args.toList.map (fP fr)++cX)[k]?=some u->(fs++c.args.toList.map a.eval++cs)[k]?=some v->VR μ ρ u v:=by
   intro k u v hu hv';rcases od k first.length with h1|h1
   ·rw[fh,fj h1]at hu;rw[fh,fj (by rw[hfs.1];exact h1)]at hv';exact .c (hfs.2 k u v hu hv')
   ·rw[fh,en h1]at hu;rw[fh,en (by rw[hfs.1];exact h1),hfs.1]at hv';rcases od (k-first.length) c.args.toList.length with h2|h2
    ·rw[fj (by simpa using h2)]at hu hv';simp only[et,kn]at hu hv';obtain⟨x,hx1,hx2⟩:=hu;obtain⟨y,hy1,ZT⟩:=hv';rw[hx1]at hy1;injection hy1 with hy1;subst hy1;subst hx2;subst ZT;refine hx x ?_;simp only[Op.operands,Call.operands,fD,PC];grind
    ·rw[en (by simpa using h2)]at hu hv';simp only[ab]at hu hv';exact .c (hcs.2 _ u v hu hv')
  have hlen:(fs++c.args.toList.map a.eval++cs).length=xs.length:=by
   have:=rj List.length hpl;simp only[ec,ab]at this⊢;rw[hfs.1,hcs.1];exact this
  have jt:fs++c.args.toList.map a.eval++cs=xs:=by
   refine List.ext_getElem hlen fun k h1 h2=>?_;have:=hrel k (.v xs[k]) _ (by rw[hpl];simp[h2]) (ao h1);exact this.dB
  refine⟨.tuple (pg.2 xs).toArray,?_,.kK (by simp) fun k u v hu hv'=>?_⟩
  ·simp only[execOp,ho,resolve,fD,hv,Deferred.ofValue,fy,fv,eh,invoke];refine(rj (fun z=>(callFunc fn z).run P w) ?_).trans (hrun w);grind
  ·rw[et,hv']at hu;simp only[yb,bj]at hu;subst hu;exact .c (.d (.v (hok v (dp hv'))))
theorem mA(HC:gZ P C call inl)(h:bC P C call inl o fr σ K=some r):M5 P C o fr σ K r:=by
 by_cases hc:aY P C o=0
 ·obtain⟨av,hk,hp⟩:=wJ h hc;exact kS hk fun E μ ρ a w hx _=>hp μ ρ a w hx
 cases ho:o.op with
 |move x=>
  simp only[bC,ho]at h;split at h
  ·grind [xY]
  ·exact kS h fun E μ ρ a w hx _=>rW (.inl ho) μ ρ a w hx
 |assign x=>
  simp only[bC,ho]at h;split at h
  ·split at h
   ·exact xY (.inr ho) rfl h
   ·cases h
  ·exact kS h fun E μ ρ a w hx _=>rW (.inr ho) μ ρ a w hx
 |alloc t=>
  simp only[bC,ho]at h;obtain⟨av,τ,hk,hs⟩:=CW h;have hq:bR P C o=true:=by simp only[bR,aY,ho];rfl
  refine⟨av,_,hk,by simp,fun _=>⟨τ,rfl⟩,eJ fun E μ ρ a w _ iY hf=>?_⟩;obtain⟨v,w',ρ',h1,h2,h3,h4⟩:=hs E μ ρ w iY hf;exact⟨v,w',μ,ρ',by simp only[execOp,ho];exact bz h1,by rw[hq];exact h2,h3,h4⟩
 |box t x=>
  simp only[bC,ho]at h;obtain⟨av,τ,hk,hs⟩:=GZ h;have hq:bR P C o=true:=by simp only[bR,aY,ho];rfl
  refine⟨av,_,hk,by simp,fun _=>⟨τ,rfl⟩,eJ fun E μ ρ a w hx iY hf=>?_⟩;obtain⟨v,w',ρ',h1,h2,h3,h4⟩:=hs E μ ρ _ w (hx x (by rw[ho];exact VN)) iY hf;exact⟨v,w',μ,ρ',by simp only[execOp,ho];exact bz h1,by rw[hq];exact h2,h3,h4⟩
 |build t parts=>
  simp only[bC,ho]at h;obtain⟨av,τ,hk,hs⟩:=CX h;have hq:bR P C o=true:=by simp only[bR,aY,ho];rfl
  refine⟨av,_,hk,by simp,fun _=>⟨τ,rfl⟩,eJ fun E μ ρ a w hx iY hf=>?_⟩;have hx':∀x∈(parts.toList.map (·.2)).toArray,VR μ ρ (fP fr x) (a.eval x):=fun x hm=>hx x (by rw[ho];exact hm);obtain⟨v,ρ',h1,h2,h3,h4⟩:=hs E μ ρ _ w (lY hx').1 (lY hx').2 iY hf;exact⟨v,w,μ,ρ',by simp only[execOp,ho];exact bz h1,by rw[hq];exact h2,h3,h4⟩
 |buildSlice t n parts=>
  simp only[bC,ho]at h;obtain⟨av,σ',hk,qQ,hpre,hs⟩:=tG h;refine⟨av,σ',hk,qQ,fun hq=>hpre (nz (.inl ⟨_,_,ho⟩) hq),eJ fun E μ ρ a w hx iY hf=>?_⟩;have hx':∀x∈(parts.toList.map (·.2)).toArray,VR μ ρ (fP fr x) (a.eval x):=fun x hm=>hx x (by rw[ho];exact hm);obtain⟨v,w',μ',ρ',h1,h2,h3,h4⟩:=hs E μ ρ _ w (lY hx').1 (lY hx').2 iY hf;exact⟨v,w',μ',ρ',by simp only[execOp,ho];exact bz h1,RD (fun hq=>nz (.inl ⟨_,_,ho⟩) hq) h2,h3,h4⟩
 |load t x=>
  simp only[bC,ho]at h;obtain⟨av,hk,hs⟩:=oV h;refine kS hk fun E μ ρ a w hx iY=>?_;obtain⟨v,h1,h2⟩:=hs E μ ρ _ w (hx x (by rw[ho];exact VN)) iY;exact⟨v,by simp only[execOp,ho];exact bz h1,h2⟩
 |store t x y=>
  simp only[bC,ho]at h;obtain⟨σ',hk,qQ,hs⟩:=CY h;have hq:bR P C o=false:=by simp only[bR,aY,ho];rfl
  refine⟨.un,σ',hk,qQ,fun e=>(by rw[hq]at e;cases e),Rz fun E μ ρ a w hx iY _=>?_⟩;obtain⟨w',μ',h1,h2,h3⟩:=hs E μ ρ _ _ w (hx x (by rw[ho];exact OM (.inl rfl))) (hx y (by rw[ho];exact OM (.inr rfl))) iY;exact⟨w',μ',ρ,by simp only[execOp,ho];exact RC h1,by rw[hq];exact h2,.un,h3⟩
 |convert src dst x=>
  simp only[bC,ho]at h;rcases aM h with⟨hsl,h⟩|⟨hsl,h⟩
  ·obtain⟨av,hk,hs⟩:=EV h hsl;have hq:bR P C o=false:=by simp only[bR,aY,ho,hsl];rfl
   refine⟨av,σ,hk,dk _,fun e=>(by rw[hq]at e;cases e),eJ fun E μ ρ a w hx iY hf=>?_⟩;obtain⟨v,w',h1,h2,h3,h4⟩:=hs E μ ρ _ w (hx x (by rw[ho];exact VN)) iY;refine⟨v,w',μ,ρ,by simp only[execOp,ho];exact bz h1,?_,h2,h3⟩;rw[hq];exact⟨ak.refl μ,bV.refl ρ,dk _,fun _ _ h=>.inl h,fun e=>(by cases e),h4,fun e=>(by cases e)⟩
  obtain⟨av,σ',hk,qQ,hpre,hs⟩:=EU h;have hq:bR P C o=true:=by simp only[bR,aY,ho,hsl];rfl
  refine⟨av,σ',hk,qQ,fun _=>hpre,eJ fun E μ ρ a w hx iY hf=>?_⟩;obtain⟨v,w',ρ',h1,h2,h3,h4⟩:=hs E μ ρ _ w (hx x (by rw[ho];exact VN)) iY hf;exact⟨v,w',μ,ρ',by simp only[execOp,ho];exact bz h1,by rw[hq];exact h2,h3,h4⟩
 |indexAddr t x i=>
  simp only[bC,ho]at h;obtain⟨av,hk,hs⟩:=ny h;refine kS hk fun E μ ρ a w hx iY=>?_;obtain⟨v,h1,h2⟩:=hs E μ ρ _ _ w (hx x (by rw[ho];exact OM (.inl rfl))) (hx i (by rw[ho];exact OM (.inr rfl))) iY;exact⟨v,by simp only[execOp,ho];exact bz h1,h2⟩
 |slice t x lo hi mx=>
  cases mx with
  |some m=>simp only[bC,ho]at h;cases h
  |none=>
   simp only[bC,ho]at h;rcases aM h with⟨Z0,h9⟩|⟨Z0,h9⟩
   ·have hlo:lo=none:=by
     cases lo with
     |none=>rfl
     |some y=>simp[VB,ho]at Z0
    subst hlo;obtain⟨av,σ',hk,qQ,hs⟩:=Hf h9;have hq:bR P C o=false:=by simp only[bR,aY,ho,Z0];rfl
    refine⟨av,σ',hk,qQ,fun e=>(by rw[hq]at e;cases e),eJ fun E μ ρ a w hx iY hf=>?_⟩;rw[C0,ho]at hx;have hx0:=hx x (by simp[Op.operands]);have hhi:∀y,hi=some y->VR μ ρ (fP fr y) (a.eval y):=fun y e=>hx y (by simp[Op.operands,e]);obtain⟨v,ρ',h1,h2,h3,h4⟩:=hs E μ ρ (a.eval x) (hi.map a.eval) w hx0 (fun b hb=>by
     cases hi with
     |none=>cases hb
     |some y=>grind) iY hf
    exact⟨v,w,μ,ρ',by simp only[execOp,ho];exact bz h1,by rw[hq];exact h2,h3,h4⟩
   obtain⟨av,hk,hs⟩:=sV h9;refine kS hk fun E μ ρ a w hx iY=>?_;rw[C0,ho]at hx;have hx0:=hx x (by simp[Op.operands]);have hlo:∀y,lo=some y->VR μ ρ (fP fr y) (a.eval y):=fun y e=>hx y (by simp[Op.operands,e]);have hhi:∀y,hi=some y->VR μ ρ (fP fr y) (a.eval y):=fun y e=>hx y (by simp[Op.operands,e]);obtain⟨v,h1,h2⟩:=hs E μ ρ (a.eval x) (lo.map a.eval) (hi.map a.eval) w hx0 (fun b hb=>by
    cases lo with
    |none=>cases hb
    |some y=>grind) (fun e=>by simp_all) (fun b hb=>by
    cases hi with
    |none=>cases hb
    |some y=>grind) (fun e=>by simp_all) iY
   exact⟨v,by simp only[execOp,ho,Option.map_none];exact bz h1,h2⟩
 |makeSlice t x y=>
  simp only[bC,ho]at h;obtain⟨av,σ',hk,qQ,hpre,hs⟩:=uN h;refine⟨av,σ',hk,qQ,fun hq=>hpre (nz (.inr ⟨_,_,ho⟩) hq),eJ fun E μ ρ a w hx iY hf=>?_⟩;obtain⟨v,w',μ',ρ',h1,h2,h3,h4⟩:=hs E μ ρ _ _ w (hx x (by rw[ho];exact OM (.inl rfl))) (hx y (by rw[ho];exact OM (.inr rfl))) iY hf;exact⟨v,w',μ',ρ',by simp only[execOp,ho];exact bz h1,RD (fun hq=>nz (.inr ⟨_,_,ho⟩) hq) h2,h3,h4⟩
 |call c=>
  simp only[bC,ho]at h;have hxa:∀(E:Prop) {x:Operand},x∈c.operands->x∈o.op.operands:=fun _ x hm=>by rw[ho];exact hm
  split at h
  ·rename_i fD;split at h
   ·rename_i x t hargs KG;obtain⟨av,hk,hs⟩:=xU h;refine kS hk fun E μ ρ a w hx iY=>?_;obtain⟨cs,hb⟩:=kO (P:=P) ho fD a;have fK:=iL hargs;have RF:=iL KG;obtain⟨v,h1,h2⟩:=hs E μ ρ _ o.type w (hx x (hxa True (by simp[Call.operands,fD,fK]))) iY;refine⟨v,?_,h2⟩;rw[hb,fK,RF];exact bz (by simpa using h1)
   ·cases h
  ·rename_i fD;split at h
   ·rename_i x y t u hargs KG;obtain⟨av,σ',hk,qQ,hs⟩:=AJ h;have hq:bR P C o=false:=by simp only[bR,aY,ho,fD];rfl
    refine⟨av,σ',hk,qQ,fun e=>(by rw[hq]at e;cases e),eJ fun E μ ρ a w hx iY hf=>?_⟩;obtain⟨cs,hb⟩:=kO (P:=P) ho fD a;have fK:=iL hargs;have RF:=iL KG;obtain⟨v,w',ρ',h1,h2,h3,h4⟩:=hs E μ ρ _ _ o.type w (hx x (hxa True (by simp[Call.operands,fD,fK]))) (hx y (hxa True (by simp[Call.operands,fD,fK]))) iY hf;refine⟨v,w',μ,ρ',?_,by rw[hq];exact h2,h3,h4⟩;rw[hb,fK,RF];exact bz (by simpa using h1)
   ·cases h
  ·rename_i fD;split at h
   ·rename_i x y t u hargs KG;obtain⟨av,σ',hk,qQ,hs⟩:=EX (t2:=u) h;have hq:bR P C o=false:=by simp only[bR,aY,ho,fD];rfl
    refine⟨av,σ',hk,qQ,fun e=>(by rw[hq]at e;cases e),eJ fun E μ ρ a w hx iY hf=>?_⟩;obtain⟨cs,hb⟩:=kO (P:=P) ho fD a;have fK:=iL hargs;have RF:=iL KG;obtain⟨v,w',h1,h2,h3,h4⟩:=hs E μ ρ _ _ o.type w (hx x (hxa True (by simp[Call.operands,fD,fK]))) (hx y (hxa True (by simp[Call.operands,fD,fK]))) iY;refine⟨v,w',μ,ρ,?_,by rw[hq];exact h2,h3,h4⟩;rw[hb,fK,RF];exact bz (by simpa using h1)
   ·cases h
  ·rename_i fD;exact absurd (by simp only[aY,ho,fD]) hc
  ·rename_i fD;exact absurd (by simp only[aY,ho,fD]) hc
  ·rename_i f fD;split at h
   ·rename_i fn first cX hg;split at h
    ·rename_i pg hpg;exact RE HC.1 ho fD hg hpg h
    rename_i h9;replace h9:=h;obtain⟨av,σ',hk,qQ,hpre,⟨fd,ZS,hbody,hname⟩,hs⟩:=HC.2 _ _ _ _ _ _ h9;have RG:bR P C o=true->kR P C fn=true:=fun hq=>by
     cases f with
     |func f'=>
      simp only[fP,AV.eN.injEq]at hg;obtain⟨e,_,_⟩:=hg;subst e;simp only[bR,aY,ho,fD,ZS]at hq;simp only[kR,ZS];cases hb:(C.inl f'||(C.rw f').any id||xM P C f' fd)with
      |true=>rw[hb]at hq;cases hq
      |false=>rfl
     |_=>simp only[bR,aY,ho,fD]at hq;cases hq
    refine⟨av,σ',hk,qQ,fun hq=>hpre (RG hq),?_⟩;intro E μ ρ a w next Q hx iY hf Yw hn;have ZY:=hx f (hxa True (by simp[Call.operands,fD]));rw[hg]at ZY;generalize hv:a.eval f=v at ZY;have ZZ:∃fs cs:List Value,v=.func (.func fn) fs.toArray cs.toArray/\fe μ ρ first fs/\fe μ ρ cX cs:=by
     cases ZY with
     |c hx=>cases hx with
      |d hd=>cases hd with
       |eN h1 h2 h3 h4=>exact⟨_,_,rfl,⟨h1,fun k u v hu hv=>.d (h3 k u v hu hv)⟩,⟨h2,fun k u v hu hv=>.d (h4 k u v hu hv)⟩⟩
      |eN h1 h2 h3 h4=>exact⟨_,_,rfl,⟨h1,h3⟩,⟨h2,h4⟩⟩
    obtain⟨fs,cs,hve,hfs,hcs⟩:=ZZ;subst hve;have hex:(execOp a.eval o).run P w=.ok (.enter fn (fs++c.args.toList.map a.eval++cs).toArray) w:=by
     have hb':fd.body.isNone=false:=hbody;simp only[execOp,ho,resolve,fD,hv,Deferred.ofValue,fy,fv,eh,invoke,callFunc,run_program,ZS,hname,hb',tx,tm];simp_all
    unfold Oper.wp;rw[hex,Oper.upon_enter];refine da (hs E μ ρ _ w ?_ ?_ iY hf fun e e2=>Yw (by
     grind) (by
      simp only[sK,ho,fD];split
      ·rename_i f' sY;obtain rfl:=Callee.value.inj sY;simp only[fP,AV.eN.injEq]at hg;grind
      all_goals grind)) fun e w' he=>?_
    ·simp[hfs.1,hcs.1]
    ·intro k u v hu hv';rcases od k first.length with h1|h1
     ·rw[fh,fj h1]at hu;rw[fh,fj (by rw[hfs.1];exact h1)]at hv';exact .c (hfs.2 k u v hu hv')
     ·rw[fh,en h1]at hu;rw[fh,en (by rw[hfs.1];exact h1),hfs.1]at hv';rcases od (k-first.length) c.args.toList.length with h2|h2
      ·rw[fj (by simpa using h2)]at hu hv';simp only[et,kn]at hu hv';obtain⟨x,hx1,hx2⟩:=hu;obtain⟨y,hy1,ZT⟩:=hv';rw[hx1]at hy1;injection hy1 with hy1;subst hy1;subst hx2;subst ZT;refine hx x (hxa True ?_);simp only[Call.operands,fD,PC];grind
      ·rw[en (by simpa using h2)]at hu hv';simp only[ab]at hu hv';exact .c (hcs.2 _ u v hu hv')
    ·obtain⟨v,μ',ρ',e1,e2,e3,e4⟩:=he;subst e1;refine hn v w' μ' ρ' ?_ e3 e4;cases hq:bR P C o with
     |true=>rw[RG hq]at e2;exact e2
     |false=>
      cases hcq:kR P C fn with
      |true=>rw[hcq]at e2;exact e2.loud
      |false=>rw[hcq]at e2;exact e2
   ·cases h
  ·cases h
 |_=>first|(simp only[bC,ho]at h;cases h;done)|(exact absurd (by simp only[aY,ho]) hc)
end
end
section
abbrev pr(a:AV)(s:Store):Option (AV×Store):=some (a,s)
theorem fR{R:Type}{x y:Option R}{x' y':Option α}{f:α->Option R}(h:x=x'.bind f)(h':y=y'.bind f):cond c x y=(cond c x' y').bind f:=by
 grind
theorem dI{x y z:α}(h:cond c x y=z):(c=true/\x=z)\/(c=false/\y=z):=by
 grind
section nat
variable{R:Type}{P:Program}{σ:Store}{K:AV->Store->Option R}
theorem AQ(t:TypeId)(cs:List AV):jD P σ K t cs=(jD P σ pr t cs).bind fun p=>K p.1 p.2:=by
 unfold jD;grind
theorem Hj(t:TypeId):gU P σ K t=(gU P σ pr t).bind fun p=>K p.1 p.2:=by
 unfold gU;repeat' first|rfl|exact AQ _ _|apply fR|split
theorem OO(t:TypeId)(a:AV):qa P σ K t a=(qa P σ pr t a).bind fun p=>K p.1 p.2:=by
 unfold qa;repeat' first|rfl|exact AQ _ _|apply fR|split
theorem Hk(t:TypeId)(ps:List (Nat×AV)):gV P σ K t ps=(gV P σ pr t ps).bind fun p=>K p.1 p.2:=by
 unfold gV;grind
theorem wL(t:TypeId)(m:Nat)(ps:List (Nat×AV)):cg P σ K t m ps=(cg P σ pr t m ps).bind fun p=>K p.1 p.2:=by
 unfold cg;repeat' first|rfl|apply fR|split
theorem tH(t:TypeId)(a:AV):iu P σ K t a=(iu P σ pr t a).bind fun p=>K p.1 p.2:=by
 unfold iu;grind
theorem Hl{L:Store->Option R}(t:TypeId)(a x:AV):gW P σ t a x L=(gW P σ t a x fun s=>pr .un s).bind fun p=>L p.2:=by
 unfold gW;repeat' first|rfl|apply fR|split
theorem OP(op:BinOp)(t:TypeId)(a b:AV):sP P σ K op t a b=(sP P σ pr op t a b).bind fun p=>K p.1 p.2:=by
 unfold sP;repeat' first|rfl|apply fR|split
theorem RH(op:UnOp)(a:AV):CS σ K op a=(CS σ pr op a).bind fun p=>K p.1 p.2:=by
 unfold CS;grind
theorem KN(s t:TypeId)(a:AV):lE P σ K s t a=(lE P σ pr s t a).bind fun p=>K p.1 p.2:=by
 unfold lE;grind
theorem KO(s t:TypeId)(a:AV):lD P σ K s t a=(lD P σ pr s t a).bind fun p=>K p.1 p.2:=by
 unfold lD;grind
theorem Hm(t:TypeId)(a:AV)(lo hi:Option AV):gX P σ K t a lo hi=(gX P σ pr t a lo hi).bind fun p=>K p.1 p.2:=by
 unfold gX;grind
theorem yV(t:TypeId)(a:AV)(f:Nat):dQ P σ K t a f=(dQ P σ pr t a f).bind fun p=>K p.1 p.2:=by
 unfold dQ;grind
theorem Ho(t:TypeId)(a:AV)(f:Nat):kF P σ K t a f=(kF P σ pr t a f).bind fun p=>K p.1 p.2:=by
 unfold kF;grind
theorem yX(t:TypeId)(a i:AV)(c:Bool):cH P σ K t a i c=(cH P σ pr t a i c).bind fun p=>K p.1 p.2:=by
 unfold cH;grind
theorem Hq(t:TypeId)(a i:AV)(c:Bool):kG P σ K t a i c=(kG P σ pr t a i c).bind fun p=>K p.1 p.2:=by
 unfold kG;grind
theorem yY(t:TypeId)(a b:AV):cI P σ K t a b=(cI P σ pr t a b).bind fun p=>K p.1 p.2:=by
 unfold cI;grind
theorem OQ(t:TypeId)(a:AV):qe P σ K t a=(qe P σ pr t a).bind fun p=>K p.1 p.2:=by
 unfold qe;grind
theorem EY(t u:TypeId)(a b:AV):fw P σ K t u a b=(fw P σ pr t u a b).bind fun p=>K p.1 p.2:=by
 unfold fw;repeat' first|rfl|apply fR|split
theorem KP(t:TypeId)(a b:AV):lF P σ K t a b=(lF P σ pr t a b).bind fun p=>K p.1 p.2:=by
 unfold lF;grind
theorem OT(t:TypeId)(a:AV)(hi:Option AV):qd P σ K t a hi=(qd P σ pr t a hi).bind fun p=>K p.1 p.2:=by
 unfold qd;grind
theorem RI(g:Nat->Nat->List (List AV)->List AV->Option (List (List AV)))(args:List AV):Ah g σ K args=(Ah g σ pr args).bind fun p=>K p.1 p.2:=by
 unfold Ah;repeat' first|rfl|apply fR|split
theorem DI{C:gD}(h:Ai C f=true):∃g,C.CM f=some (.mv g):=by
 unfold Ai at h;grind
theorem VO{C:gD}(h:Ai C f=true):C.pr f=none:=by
 unfold Ai at h;grind [Option.isNone_iff_eq_none]
theorem RJ(g:(List Value->Bool)×(List Value->List Value))(args:List AV):EK g σ K args=(EK g σ pr args).bind fun p=>K p.1 p.2:=by
 unfold EK;grind
theorem rY{C:gD}{call:cK}{inl:iv}{g:Nat->Nat->List (List AV)->List AV->Option (List (List AV))}(hg:C.CM f=some (.mv g))(args:List AV):gJ P C call inl σ K f args=
  match P.funcs[f]? with
  |none=>none
  | some fn => bif fn.body.isNone || fn.name == "runtime.NumGoroutine" then none else Ah g σ K args := by
 unfold gJ;rw[hg];rfl
theorem KQ{C:gD}{call:cK}{inl:iv}(hm:Ai C f=true)(args:List AV):gJ P C call inl σ K f args=(gJ P C call inl σ pr f args).bind fun p=>K p.1 p.2:=by
 obtain⟨g,hg⟩:=DI hm;rw[rY hg,rY hg];split
 ·rfl
 ·exact fR rfl (RI _ _)
theorem VP{C:gD}{call:cK}{inl:iv}{o:Oper}{fr:List (Nat×AV)}{c:Call}{first cX:List AV}(hf:sK C o=false)(ho:o.op=.call c)(hc:c.callee=.value x)(hg:fP fr x=.eN f first cX)(args:List AV):gJ P C call inl σ K f args=(gJ P C call inl σ pr f args).bind fun p=>K p.1 p.2:=by
 simp only[sK,ho,hc]at hf;split at hf
 ·rename_i f' he;obtain rfl:=Callee.value.inj he;simp only[fP,AV.eN.injEq]at hg;grind [KQ]
 all_goals simp_all
theorem Hr{C:gD}{call:cK}{inl:iv}{o:Oper}{fr:List (Nat×AV)}(hf:sK C o=false):bC P C call inl o fr σ K=(bC P C call inl o fr σ pr).bind fun p=>K p.1 p.2:=by
 unfold bC;dsimp only
 repeat' first
  |rfl|exact Hj _|exact OO _ _|exact Hk _ _|exact wL _ _ _|exact tH _ _|exact Hl _ _ _|exact OP _ _ _ _|exact RH _ _
  |exact KN _ _ _|exact KO _ _ _|exact Hm _ _ _ _|exact OT _ _ _|exact yV _ _ _|exact Ho _ _ _|exact yX _ _ _ _|exact Hq _ _ _ _|exact yY _ _ _
  |exact OQ _ _|exact EY _ _ _ _|exact KP _ _ _|apply fR|split
  |exact RJ _ _|grind [VP]
  |(simp_all [sK];done)
end nat
def Ht(s acc:Store)(l:Nat):Store:=match s[l]? with|some b=>acc.set l b|none=>acc
def dV(τ s:Store)(W:List Nat):Store:=W.foldl (Ht s) τ++s.drop τ.length
theorem EZ{j:Nat}:∀(l:List Nat),gY j l=true↔j∈l
 |[]=>by simp[gY]
 |m::r=>by
  rw[gY,pC,EZ r,ft];constructor
  ·rintro(h|h)
   ·exact .inl (cj h)
   ·exact .inr h
  ·rintro(h|h)
   ·exact .inl (by rw[h,Hc])
   ·exact .inr h
theorem uO(s:Store):∀(W:List Nat) (τ:Store),(W.foldl (Ht s) τ).length=τ.length
 |[],_=>rfl
 |x::W,τ=>by
  simp only[FG];rw[uO s W];unfold Ht;split<;>simp
theorem Hu(s:Store):∀(W:List Nat) (τ:Store) (l:Nat),l<τ.length->l<s.length->(W.foldl (Ht s) τ)[l]?=if gY l W=true then s[l]? else τ[l]?
 |[],_,_,_,_=>rfl
 |x::W,τ,l,h,hs=>by
  simp only[FG];rw[Hu s W _ l (by unfold Ht;grind) hs];unfold Ht;by_cases e:gY l W=true
  ·rw[ee e,ee (by rw[gY,e,KB])]
  ·rw[eg e];by_cases e2:x=l
   ·subst e2;rw[ee (by rw[gY,Hc];rfl),ao hs];simp[h]
   ·have:gY l (x::W)≠true:=by
     show¬((Nat.beq l x||gY l W)=true);rw[pC];grind [Nat.eq_of_beq_eq_true]
    grind
theorem uP{τ:Store}(h:τ.length<=s.length):(dV τ s W).length=s.length:=by
 simp only[dV,ec,uO,xf];omega
theorem nA{τ:Store}(hl:l<τ.length)(h:τ.length<=s.length):(dV τ s W)[l]?=if gY l W=true then s[l]? else τ[l]?:=by
 unfold dV;grind [List.getElem?_append_left,uO,Hu]
theorem wM{τ:Store}(hl:τ.length<=l):(dV τ s W)[l]?=s[l]?:=by
 unfold dV;simp_all [en,uO,se]
theorem RL{τ:Store}(h:τ.length<=s.length)(hl:τ.length<=l\/gY l W=true)(b:gC):dV τ (s.set l b) W=(dV τ s W).set l b:=by
 have hs:τ.length<=(s.set l b).length:=by simpa using h
 refine kj fun i=>?_;by_cases hi:i<τ.length
 ·rw[nA hi hs];by_cases e:i=l
  ·subst e;have hw:gY i W=true:=hl.elim (fun h1=>by omega) id;rw[ee hw,vq (by omega),vq (by rw[uP h];omega)]
  simp_all [sd,Ne.symm,nA]
 ·rw[wM (by omega)];by_cases e:i=l
  ·grind [List.getElem?_set_self,uP,List.getElem?_eq_none,List.length_set]
  simp_all [sd,Ne.symm,wM]
theorem RM{σ τ:Store}(h:τ.length=σ.length)(ν:Store)(jm:∀l∈W,τ[l]?=σ[l]?):dV τ (σ++ν) W=τ++ν:=by
 have hs:τ.length<=(σ++ν).length:=by simp_all
 refine kj fun i=>?_;grind [nA,List.getElem?_append_left,EZ,wM,List.getElem?_append_right]
theorem VQ{τ:Store}(h:τ.length<=s.length)(b:gC):dV τ (s++[b]) W=dV τ s W++[b]:=by
 have hs:τ.length<=(s++[b]).length:=by grind
 refine kj fun i=>?_;grind [List.getElem?_append_left,uP,nA,wM,List.getElem?_append_right]
section mix
variable{σ τ:Store}(h:τ.length=σ.length)
include h
theorem dL:dV τ σ []=τ:=by simp[dV,h]
theorem ia(ν:Store):dV τ (σ++ν) []=τ++ν:=by simp[dV,h]
theorem zB{b0:gC}(hl:σ[l]?=some b0)(b:gC):dV τ (σ.set l b) [l]=τ.set l b:=by
 have hlt:l<σ.length:=(eR.1 hl).1;simp[dV,Ht,h,hlt]
theorem qU{b0:gC}(hl:σ[l]?=some b0)(b:gC)(ν:Store):dV τ (σ.set l b++ν) [l]=τ.set l b++ν:=by
 have hlt:l<σ.length:=(eR.1 hl).1;have h1:(σ.set l b++ν)[l]?=some b:=by grind
 have h2:(σ.set l b++ν).drop σ.length=ν:=by
  simp_all
 simp only[dV,Ht,FG,List.foldl_nil,h1,h,h2]
end mix
section frame
variable{R:Type}{P:Program}{σ τ:Store}{K:AV->Store->Option R}(h:τ.length=σ.length)
include h
theorem uQ(ν:Store)(t:TypeId)(cs:List AV):jD P (τ++ν) K t cs=jD P (σ++ν) (fun a s=>K a (dV τ s [])) t cs:=by
 unfold jD;simp only[fh,ia h,ec,h]
theorem xZ:∀(ks:List CK) (cs:List Value) (ν:Store),zeros P ks cs (τ++ν)=(zeros P ks cs (σ++ν)).map fun p=>(p.1,dV τ p.2 [])
 |[],[],ν=>by simp[zeros,ia h]
 |[],_::_,ν=>rfl
 |k::ks,[],ν=>by cases k<;>rfl
 |k::ks,c::cs,ν=>by
  have ih:=fun ν=>xZ ks cs ν;have hl:(τ++ν).length=(σ++ν).length:=by simp[h]
  unfold zeros;split
  ·rename_i e sz;have:=ih (ν++[⟨1,e,P.cellsOf e,false,[]⟩]);simp only[cy,fh,hl]at this⊢;rw[this];cases zeros P ks cs (σ++(ν++[⟨1,e,P.cellsOf e,false,[]⟩]))<;>rfl
  ·rfl
  ·rfl
  ·rw[ih ν];cases oN (.v c)with
   |false=>rfl
   |true=>cases zeros P ks cs (σ++ν)<;>rfl
theorem lZ(t:TypeId):zeroOf P t τ=(zeroOf P t σ).map fun p=>(p.1,dV τ p.2 []):=by
 unfold zeroOf;split
 ·rfl
 ·rename_i z _;have:=xZ (P:=P) h (uo P t) z.cells.toList [];simpa using this
theorem o5{r:List AV}(hz:zeroOf P t σ=some (r,s)):∃ν,s=σ++ν:=by
 grind [fQ,jF]
theorem C2(t:TypeId):gU P τ K t=gU P σ (fun a s=>K a (dV τ s [])) t:=by
 unfold gU;grind [lZ,o5,ia,uQ]
theorem Hv(t:TypeId)(a:AV):qa P τ K t a=qa P σ (fun a s=>K a (dV τ s [])) t a:=by
 unfold qa;split
 ·rfl
 ·have:=uQ (P:=P) (K:=K) h [] t ‹List AV›;simp_all
theorem C3(t:TypeId)(ps:List (Nat×AV)):gV P τ K t ps=gV P σ (fun a s=>K a (dV τ s [])) t ps:=by
 unfold gV;grind [lZ,o5,ia]
def okF(n:Nat):AV->Prop
 | .sl _ l _ _=>n<=l
 |_=>True
omit h in
theorem RN{σ ν:Store}(hl:σ.length<=l):(σ++ν)[l]?=ν[l-σ.length]?:=en hl
omit h in
theorem RO{σ ν:Store}(hl:σ.length<=l)(b:gC):(σ++ν).set l b=σ++ν.set (l-σ.length) b:=Hi _ _ hl
theorem OU(ν:Store)(c:AV)(hc:okF σ.length c):(zZ (τ++ν) c=none/\zZ (σ++ν) c=none)\/ ∃r ν',zZ (σ++ν) c=some (r,σ++ν')/\zZ (τ++ν) c=some (r,τ++ν'):=by
 cases c with
 |v x=>exact .inr ⟨_,ν,rfl,rfl⟩
 |aq n sz xs=>exact .inr ⟨_,ν,rfl,rfl⟩
 |sl n l off cut=>
  have hl:σ.length<=l:=hc;have hl':τ.length<=l:=by omega
  simp only[zZ,RN hl,RN hl',RO hl,RO hl',h];cases ν[l-σ.length]? with
  |none=>simp_all
  |some b=>
   grind
 |_=>exact .inl ⟨rfl,rfl⟩
theorem AR:∀(cs:List AV) (ν:Store),(∀c∈cs,okF σ.length c)->(gG (τ++ν) cs=none/\gG (σ++ν) cs=none)\/ ∃r ν',gG (σ++ν) cs=some (r,σ++ν')/\gG (τ++ν) cs=some (r,τ++ν')
 |[],ν,_=>.inr ⟨_,ν,rfl,rfl⟩
 |c::cs,ν,hc=>by
  simp only[gG];rcases OU h ν c (hc c (by simp))with⟨h1,h2⟩|⟨r,ν',h1,h2⟩
  ·rw[h1,h2];exact .inl ⟨rfl,rfl⟩
  ·rw[h1,h2];simp only;rcases AR cs ν' (fun x hx=>hc x (by simp[hx]))with⟨h3,h4⟩|⟨r',agT,h3,h4⟩
   ·rw[h3,h4];exact .inl ⟨rfl,rfl⟩
   ·rw[h3,h4];exact .inr ⟨_,_,rfl,rfl⟩
theorem KR(e:TypeId)(cs:List AV)(ν:Store)(hc:∀c∈cs,okF σ.length c):(qu P e (τ++ν) cs=none/\qu P e (σ++ν) cs=none)\/ ∃r ν',qu P e (σ++ν) cs=some (r,σ++ν')/\qu P e (τ++ν) cs=some (r,τ++ν'):=by
 unfold qu;grind [AR]
omit h in
theorem uR:∀(ks:List CK) (cs:List Value) (σ:Store) (n:Nat) (r:List AV) (s:Store),n<=σ.length->zeros P ks cs σ=some (r,s)->∀c∈r,okF n c
 |[],[],σ,n,r,s,_,hz=>by simp[zeros]at hz;rw[hz.1];simp
 |[],_::_,_,_,_,_,_,hz=>by simp[zeros]at hz
 |k::ks,[],σ,n,r,s,_,hz=>by cases k<;>simp[zeros]at hz
 |k::ks,c::cs,σ,n,r,s,hn,hz=>by
  unfold zeros at hz;split at hz
  ·split at hz
   ·cases hz
   ·rename_i r' s' hz';simp only[bj,de]at hz;rw[<-hz.1];intro c hc;rcases ft.1 hc with hc|hc
    ·subst hc;exact hn
    ·exact uR ks cs _ n r' s' (by simp[cy];omega) hz' c hc
  ·cases hz
  ·cases hz
  ·cases ho:oN (.v c)with
   |false=>rw[ho]at hz;cases hz
   |true=>
    rw[ho]at hz;simp only[xi,jz]at hz;split at hz
    ·cases hz
    ·rename_i r' s' hz';simp only[bj,de]at hz;rw[<-hz.1];intro x hc;rcases ft.1 hc with hc|hc
     ·subst hc;trivial
     ·exact uR ks cs _ n r' s' hn hz' x hc
omit h in
omit h in
def okW(n:Nat)(W:List Nat):AV->Prop
 | .sl _ l _ _=>n<=l\/gY l W=true
 |_=>True
omit h in
theorem VS(c:AV)(hs:τ.length<=s.length)(hc:okW τ.length W c):zZ (dV τ s W) c=(zZ s c).map fun p=>(p.1,dV τ p.2 W):=by
 cases c with
 |sl n l off cut=>
  have e:(dV τ s W)[l]?=s[l]?:=by
   by_cases hl:l<τ.length
   ·rw[nA hl hs,ee (hc.elim (fun h1=>by omega) id)]
   grind [wM]
  simp only[zZ,e];cases s[l]? with
  |none=>rfl
  |some b=>
   simp only;cases(Nat.beq b.mode 0||b.obj)with
   |true=>rfl
   |false=>simp only[jz,yb,RL hs hc]
 |_=>rfl
omit h in
theorem Hw{s':Store}{c r:AV}(hf:zZ s c=some (r,s')):s'.length=s.length:=by
 unfold zZ at hf;grind
omit h in
theorem Hy{W:List Nat}:∀(cs:List AV) (s:Store),τ.length<=s.length->(∀c∈cs,okW τ.length W c)->gG (dV τ s W) cs=(gG s cs).map fun p=>(p.1,dV τ p.2 W)
 |[],s,_,_=>rfl
 |c::cs,s,hs,hc=>by
  simp only[gG];rw[VS c hs (hc c (by simp))];cases hf:zZ s c with
  |none=>rfl
  |some p=>
   obtain⟨r,s'⟩:=p;have hl:=Hw hf;simp only[yb];rw[Hy cs s' (by omega) (fun x hx=>hc x (by simp[hx]))];cases gG s' cs with
   |none=>rfl
   |some q=>rfl
omit h in
theorem DJ:∀{cs r:List AV} {s s':Store},gG s cs=some (r,s')->s'.length=s.length
 |[],r,s,s',hf=>by cases hf;rfl
 |c::cs,r,s,s',hf=>by
  simp only[gG]at hf;cases h1:zZ s c with
  |none=>rw[h1]at hf;cases hf
  |some p=>
   obtain⟨a,s1⟩:=p;rw[h1]at hf;simp only at hf;cases h2:gG s1 cs with
   |none=>rw[h2]at hf;cases hf
   |some q=>
    obtain⟨b,s2⟩:=q;rw[h2]at hf;cases hf;rw[DJ h2,Hw h1]
omit h in
theorem RP(e:TypeId)(cs:List AV)(s:Store)(hs:τ.length<=s.length)(hc:∀c∈cs,okW τ.length W c):qu P e (dV τ s W) cs=(qu P e s cs).map fun p=>(p.1,dV τ p.2 W):=by
 unfold qu;grind [Hy]
omit h in
theorem OV{r:List AV}{s':Store}(hf:qu P e s cs=some (r,s')):s'.length=s.length:=by
 unfold qu at hf;rcases dI hf with⟨_,hf⟩|⟨_,hf⟩
 ·grind
 ·exact DJ hf
omit h in
theorem Hz{n:Nat}{W:List Nat}{place:Nat->Option (Nat×Nat)}:∀(ps:List (Nat×AV)) (cs r:List AV),(∀c∈cs,okW n W c)->(∀p∈ps,∀l∈Rk p.2,gY l W=true)->lC place cs ps=some r->∀c∈r,okW n W c
 |[],cs,r,hc,_,hf=>by simp[lC]at hf;simp_all
 |(i,a)::ps,cs,r,hc,hp,hf=>by
  simp only[lC]at hf;split at hf
  ·cases hf
  ·split at hf
   ·cases hf
   ·rename_i pc xW;obtain⟨_,hf⟩:=ah hf;refine Hz ps _ r (fun c hcc=>?_) (fun p hpp=>hp p (by simp[hpp])) hf;have hno:=hp (i,a) (by simp);simp only[Rk,xW]at hno;rcases gw.1 hcc with h1|h1
    ·rcases gw.1 h1 with h1|h1
     ·grind
     ·cases c with
      |sl x l off cut=>exact .inr (hno l (vh.2 ⟨_,h1,by simp⟩))
      |_=>trivial
    grind
theorem tI(t:TypeId)(m:Nat)(ps:List (Nat×AV))(jm:∀l∈W,τ[l]?=σ[l]?)(hp:∀p∈ps,∀l∈Rk p.2,gY l W=true):cg P τ K t m ps=cg P σ (fun a s=>K a (dV τ s W)) t m ps:=by
 unfold cg;split
 ·rw[lZ h];cases hz:zeroOf P _ σ with
  |none=>rfl
  |some p=>
   obtain⟨z,s⟩:=p;obtain⟨ν,rfl⟩:=o5 h hz;have hs:τ.length<=(σ++ν).length:=by simp_all
   simp only[yb];rw[ia h,<-RM h ν jm];split
   ·rfl
   ·rename_i cs hcs;obtain⟨_,_,_,_,hz'⟩:=fQ hz;have hzo:=uR _ _ _ _ _ _ (dk σ.length) hz';have hok:=Hz (n:=τ.length) (W:=W) ps _ cs (fun c hc=>by
     obtain⟨l,hl,hc⟩:=List.mem_flatten.1 hc;rw[(Lo.1 hl).2]at hc;have:=hzo c hc;cases c with
     |sl x l off cut=>exact .inl (by rw[h];exact this)
     |_=>trivial) hp hcs
    grind [RP,OV,uP,VQ]
 ·rfl
theorem uS(t:TypeId)(a b:AV):cI P τ K t a b=cI P σ (fun a s=>K a (dV τ s [])) t a b:=by
 unfold cI;split
 ·rw[lZ h];cases hz:zeroOf P _ σ with
  |none=>rfl
  |some p=>
   obtain⟨z,s⟩:=p;obtain⟨ν,rfl⟩:=o5 h hz;simp only[yb,ia h];obtain⟨_,_,_,_,hz'⟩:=fQ hz;rcases KR (P:=P) h _ z ν (uR _ _ _ _ _ _ (dk σ.length) hz')with⟨h1,h2⟩|⟨r,ν',h1,h2⟩
   ·rw[h1,h2]
   simp_all [fh,ia,ec]
 ·rfl
theorem E9(t:TypeId)(a:AV)(jm:∀l∈bh a,τ[l]?=σ[l]?):iu P τ K t a=iu P σ (fun a s=>K a (dV τ s [])) t a:=by
 unfold iu;simp only[dL h];cases a with
 |ptr l i j=>simp only[jm l (by simp[bh])]
 |px l j n i=>simp only[jm l (by simp[bh])]
 |_=>rfl
omit h in
theorem qV(jm:∀l∈bh a,τ[l]?=σ[l]?):kL τ a=kL σ a:=by
 cases a with
 |sl n l o c=>simp only[kL,jm l (by simp[bh])]
 |_=>rfl
omit h in
theorem KS(jm:∀l∈bh a,τ[l]?=σ[l]?):GG τ a=GG σ a:=by
 cases a with
 |sl n l o c=>simp only[GG,jm l (by simp[bh])]
 |_=>rfl
omit h in
theorem yd(jm:∀l∈bh a,τ[l]?=σ[l]?):qf τ a=qf σ a:=by
 cases a with
 |sl n l o c=>simp only[qf,jm l (by simp[bh])]
 |v x=>cases x<;>rfl
 |_=>rfl
theorem HG(t:TypeId)(a:AV)(jm:∀l∈bh a,τ[l]?=σ[l]?):qe P τ K t a=qe P σ (fun a s=>K a (dV τ s [])) t a:=by
 have hs:kL τ a=kL σ a:=qV jm;unfold qe;grind [dL]
theorem uT(t:TypeId)(a i:AV)(c:Bool)(jm:∀l∈bh a,τ[l]?=σ[l]?):cH P τ K t a i c=cH P σ (fun a s=>K a (dV τ s [])) t a i c:=by
 unfold cH;simp only[dL h,qV jm];cases a with
 |ptr l i j=>simp only[jm l (by simp[bh])]
 |sl n l o c=>simp only[jm l (by simp[bh])]
 |_=>rfl
theorem C4(t:TypeId)(a:AV)(lo hi:Option AV)(jm:∀l∈bh a,τ[l]?=σ[l]?):gX P τ K t a lo hi=gX P σ (fun a s=>K a (dV τ s [])) t a lo hi:=by
 unfold gX;simp only[dL h];split<;>first|rfl|simp only[kL,jm _ (BT.2 rfl)]
theorem HJ(t:TypeId)(x:AV)(hi:Option AV)(jm:∀l∈bh x,τ[l]?=σ[l]?):qd P τ K t x hi=qd P σ (fun a s=>K a (dV τ s (bh x))) t x hi:=by
 unfold qd;cases x with
 |sl b l o c=>
  have hl:=jm l (by simp[bh]);split
  ·rename_i hu heq;simp only[AV.sl.injEq]at heq;obtain⟨rfl,rfl,rfl,rfl⟩:=heq;cases hb:σ[l]? with
   |none=>grind
   |some k=>simp only[bh,hl,hb,h,qU h hb]
  ·rfl
 |_=>simp_all
omit h in
theorem uU{l:Nat}:∀{rest:List AV},(∀m∈rest.flatMap bh,τ[m]?=σ[m]?)->rest.mapM (uA τ l)=rest.mapM (uA σ l)
 |[],_=>rfl
 |a::rest,jm=>by
  have h1:uA τ l a=uA σ l a:=by
   unfold uA;cases a with
   |sl n m o c=>
    have e:=jm m (by simp[bh]);cases o<;>cases c<;>first|rfl|simp only[e]
   |_=>rfl
  rw[yr,yr,h1,uU fun m hm=>jm m (by rw[Ax];exact Hn _ hm)]
def Yx:List AV->List Nat
 |x::_=>bh x
 |[]=>[]
theorem KT(g:Nat->Nat->List (List AV)->List AV->Option (List (List AV)))(args:List AV)(jm:∀l∈args.flatMap bh,τ[l]?=σ[l]?):
  Ah g τ K args=Ah g σ (fun a s=>K a (dV τ s (Yx args))) args:=by
 unfold Ah;cases args with
 |nil=>rfl
 |cons x rest=>
  cases x with
  |sl b l o c=>
   have hl:=jm l (by simp[bh]);have hr:rest.mapM (uA τ l)=rest.mapM (uA σ l):=uU fun m hm=>jm m (by simp_all);split
   ·rename_i heq;simp only[List.cons.injEq,AV.sl.injEq]at heq;obtain⟨⟨rfl,rfl,rfl,rfl⟩,rfl⟩:=heq;cases hb:σ[l]? with
    |none=>grind
    |some k=>
     simp only[Yx,bh,hl,hb,h,hr,qU h hb]
   ·rfl
  |_=>rfl
theorem Fe(s t:TypeId)(a:AV)(jm:∀l∈bh a,τ[l]?=σ[l]?):lD P τ K s t a=lD P σ (fun a s=>K a (dV τ s [])) s t a:=by
 have hs:GG τ a=GG σ a:=KS jm;unfold lD;grind [dL,ia]
theorem Ff(s t:TypeId)(a:AV)(jm:∀l∈bh a,τ[l]?=σ[l]?):lE P τ K s t a=lE P σ (fun a s=>K a (dV τ s [])) s t a:=by
 unfold lE;simp only[dL h];split
 ·rename_i hd;rw[jm _ (by simp[bh])]
 ·rfl
theorem AU(t u:TypeId)(s x:AV)(jm:∀l∈bh s++bh x,τ[l]?=σ[l]?):fw P τ K t u s x=fw P σ (fun a s'=>K a (dV τ s' (bh s))) t u s x:=by
 have hx:qf τ x=qf σ x:=yd fun l hl=>jm l (by simp[hl]);unfold fw;rw[hx];cases s with
 |aq b sz xs=>cases b<;>first|rfl|(simp only[bh,ia h,h];done)|(simp only[bh,ia h,h];rfl)
 |sl b l o c=>
  have hl:=jm l (by simp[bh]);cases hb:σ[l]? with
  |none=>simp only[hl,hb]
  |some k=>simp only[bh,hl,hb,h,qU h hb]
 |_=>rfl
theorem Fg(t:TypeId)(d x:AV)(jm:∀l∈bh d++bh x,τ[l]?=σ[l]?):lF P τ K t d x=lF P σ (fun a s'=>K a (dV τ s' (bh d))) t d x:=by
 have hx:qf τ x=qf σ x:=yd fun l hl=>jm l (by simp[hl]);have hd:kL τ d=kL σ d:=qV fun l hl=>jm l (by simp[hl]);unfold lF;rw[hx,hd];cases d with
 |sl b l o c=>
  have hl:=jm l (by simp[bh]);split
  ·cases hap:qf σ x with
   |none=>rfl
   |some p=>
    obtain⟨EE,ys⟩:=p;cases hb:σ[l]? with
    |none=>grind
    |some k=>
     simp only[hl,hb,bh];simp_all [zB]
  ·rfl
 |_=>simp_all
omit h in
theorem M6:∀(cs:List AV) (σ:Store),(∀c∈cs,Rj c=true)->gG σ cs=some (cs,σ)
 |[],σ,_=>rfl
 |c::cs,σ,hc=>by
  have h1:=hc c (by simp);have ih:=M6 cs σ fun x hx=>hc x (by simp[hx]);cases c with
  |v x=>simp only[gG,zZ,ih]
  |aq n sz xs=>simp only[gG,zZ,ih]
  |_=>cases h1
theorem sZ{L:Store->Option R}(t:TypeId)(a x:AV)(jm:∀l∈bh a,τ[l]?=σ[l]?)(hx:VC x=true\/ ∃l i j b,a=.ptr l i j/\σ[l]?=some b/\b.obj=true):
  gW P τ t a x L=gW P σ t a x fun s'=>L (dV τ s' (bh a)):=by
 unfold gW;cases a with
 |ptr l i j=>
  have hl:=jm l (by simp[bh]);cases hb:σ[l]? with
  |none=>grind
  |some b=>
   simp only[hl,hb,bh,zB h hb];cases hc:cells x with
   |none=>rfl
   |some xc=>
    cases ho:b.obj with
    |true=>simp_all
    |false=>
     have hno:∀c∈xc,Rj c=true:=by
      rcases hx with hx|⟨_,_,_,b',e1,e2,e3⟩
      ·simp only[VC,hc,ka]at hx;exact hx
      simp_all
     simp_all [M6,zB]
 |px l j n i=>
  have hl:=jm l (by simp[bh]);cases hb:σ[l]? with
  |none=>grind
  |some b=>simp only[hl,hb,bh,zB h hb]
 |_=>rfl
theorem KU{C:gD}{call:cK}{inl:iv}{o:Oper}{fr:List (Nat×AV)}{m:Bool}(eC:aR P C o fr σ=⟨some L,some W,m⟩)(jm:∀l∈L,τ[l]?=σ[l]?):
  bC P C call inl o fr τ K=bC P C call inl o fr σ (fun a s=>K a (dV τ s W)):=by
 have top:∀{p:Prop},cD.top=⟨some L,some W,m⟩->p:=fun e=>by simp[cD.top]at e
 cases ho:o.op with
 |move x=>
  have hW:W=[]:=by
   simp only[aR,ho]at eC;split at eC<;>simp_all [cD.no]
  subst hW;simp only[bC,ho,dL h,cy,ia h,h]
 |assign x=>
  have hW:W=[]:=by
   simp only[aR,ho]at eC;split at eC<;>simp_all [cD.no]
  subst hW;simp only[bC,ho,dL h,cy,ia h,h]
 |alloc t=>simp only[aR,ho,cD.mk.injEq,bj]at eC;obtain⟨rfl,rfl,_⟩:=eC;simp only[bC,ho];exact C2 h t
 |box t x=>simp only[aR,ho,cD.mk.injEq,bj]at eC;obtain⟨rfl,rfl,_⟩:=eC;simp only[bC,ho];exact Hv h t _
 |build t ps=>simp only[aR,ho,cD.mk.injEq,bj]at eC;obtain⟨rfl,rfl,_⟩:=eC;simp only[bC,ho];exact C3 h t _
 |makeSlice t x y=>simp only[aR,ho,cD.mk.injEq,bj]at eC;obtain⟨rfl,rfl,_⟩:=eC;simp only[bC,ho];exact uS h t _ _
 |load t x=>simp only[aR,ho,cD.mk.injEq,bj]at eC;obtain⟨rfl,rfl,_⟩:=eC;simp only[bC,ho];exact E9 h t _ jm
 |slice t x lo hi mx=>
  simp only[aR,ho]at eC;cases mx with
  |none=>
   simp only[bC,ho];rcases dI eC with⟨e,eC⟩|⟨e,eC⟩
   ·simp only[cD.mk.injEq,bj]at eC;obtain⟨rfl,rfl,_⟩:=eC;grind [HJ]
   ·simp only[cD.mk.injEq,bj]at eC;obtain⟨rfl,rfl,_⟩:=eC;grind [C4]
  |some y=>simp only[bC,ho]
 |indexAddr t x i=>simp only[aR,ho,cD.mk.injEq,bj]at eC;obtain⟨rfl,rfl,_⟩:=eC;simp only[bC,ho];grind [uT]
 |convert s t x=>simp only[aR,ho,cD.mk.injEq,bj]at eC;obtain⟨rfl,rfl,_⟩:=eC;simp only[bC,ho];grind [Ff,Fe]
 |buildSlice t n ps=>
  simp only[aR,ho,cD.mk.injEq,bj]at eC;obtain⟨rfl,rfl,_⟩:=eC;simp only[bC,ho];refine tI h t n _ jm fun p hp l hl=>?_;grind [EZ]
 |store t x y=>
  simp only[aR,ho]at eC;simp only[bC,ho];rcases dI eC with⟨e,eC⟩|⟨_,eC⟩
  ·simp only[cD.mk.injEq,bj]at eC;obtain⟨rfl,rfl,_⟩:=eC;grind [sZ]
  ·split at eC
   ·rename_i l i j hx;split at eC
    ·rename_i b hb;rcases dI eC with⟨e,eC⟩|⟨_,eC⟩
     ·simp only[cD.mk.injEq,bj]at eC;obtain⟨rfl,rfl,_⟩:=eC;rw[hx];exact sZ h t _ _ jm (.inr ⟨l,i,j,b,rfl,hb,e⟩)
     ·exact top eC
    ·exact top eC
   ·exact top eC
 |call c=>
  simp only[aR,ho]at eC;simp only[bC,ho];split at eC
  ·rename_i hc;split at eC
   ·rename_i x hx;simp only[cD.mk.injEq,bj]at eC;obtain⟨rfl,rfl,_⟩:=eC;grind [HG]
   ·exact top eC
  ·rename_i hc;split at eC
   ·rename_i x y hx;simp only[cD.mk.injEq,bj]at eC;obtain⟨rfl,rfl,_⟩:=eC;simp only[hc,hx];grind [AU]
   ·exact top eC
  ·rename_i hc;split at eC
   ·rename_i x y hx;simp only[cD.mk.injEq,bj]at eC;obtain⟨rfl,rfl,_⟩:=eC;simp only[hc,hx];grind [Fg]
   ·exact top eC
  ·rename_i hc;simp only[cD.no,cD.mk.injEq,bj]at eC;simp_all [dL]
  ·rename_i hc;simp only[cD.no,cD.mk.injEq,bj]at eC;simp_all [dL]
  ·rename_i f hc;split at eC
   ·rcases dI eC with⟨e,eC⟩|⟨_,eC⟩
    ·simp only[cD.mk.injEq,bj]at eC;obtain⟨rfl,rfl,_⟩:=eC;simp only[hc,fP,VO e];obtain⟨g,hg⟩:=DI e;rw[rY hg,rY hg];split
     ·rfl
     ·congr 1
      rw[ly,ir];have hm:=KT (K:=K) h g (c.args.toList.map (fP fr)) (by
       grind)
      rw[hm];cases c.args.toList<;>rfl
    ·rcases dI eC with⟨_,eC⟩|⟨_,eC⟩
     ·exact top eC
     grind
   ·exact top eC
  ·exact top eC
 |pick c a b=>simp only[aR,ho,cD.no,cD.mk.injEq,bj]at eC;obtain⟨rfl,rfl,_⟩:=eC;simp only[bC,ho,dL h]
 |nilCheck x=>simp only[aR,ho,cD.no,cD.mk.injEq,bj]at eC;obtain⟨rfl,rfl,_⟩:=eC;simp only[bC,ho,dL h]
 |binOp op t x y u=>simp only[aR,ho,cD.no,cD.mk.injEq,bj]at eC;obtain⟨rfl,rfl,_⟩:=eC;simp only[bC,ho,sP,dL h]
 |unOp op t x=>simp only[aR,ho,cD.no,cD.mk.injEq,bj]at eC;obtain⟨rfl,rfl,_⟩:=eC;simp only[bC,ho,CS,dL h]
 |fieldAddr t x f=>simp only[aR,ho,cD.no,cD.mk.injEq,bj]at eC;obtain⟨rfl,rfl,_⟩:=eC;simp only[bC,ho,dQ,dL h]
 |field t x f=>simp only[aR,ho,cD.no,cD.mk.injEq,bj]at eC;obtain⟨rfl,rfl,_⟩:=eC;simp only[bC,ho,kF,dL h]
 |index t x i=>simp only[aR,ho,cD.no,cD.mk.injEq,bj]at eC;obtain⟨rfl,rfl,_⟩:=eC;simp only[bC,ho,kG,dL h]
 |extract x i=>simp only[aR,ho,cD.no,cD.mk.injEq,bj]at eC;obtain⟨rfl,rfl,_⟩:=eC;simp only[bC,ho,dL h]
 |makeFunc f a b=>simp only[aR,ho,cD.no,cD.mk.injEq,bj]at eC;obtain⟨rfl,rfl,_⟩:=eC;cases f<;>simp only[bC,ho,dL h]
 |_=>simp only[aR,ho]at eC;exact top eC
end frame
end
section
def Mo(σ σ':Store):Prop:=σ'.length=σ.length/\∀(l:Nat) (k:gC),σ[l]?=some k->∃m,σ'[l]?=some {k with mode:=m}
theorem Mo.refl(σ:Store):Mo σ σ:=⟨rfl,fun _ k h=>⟨k.mode,h⟩⟩
theorem Mo.trans{a b c:Store}(h:Mo a b)(h2:Mo b c):Mo a c:=⟨h2.1.trans h.1,fun l k hk=>by
 obtain⟨m,h3⟩:=h.2 l k hk;obtain⟨m',h4⟩:=h2.2 l _ h3;exact⟨m',h4⟩⟩
theorem Mo.set{σ:Store}(h:σ[l]?=some k)(m:Nat):Mo σ (σ.set l {k with mode:=m}):=by
 refine⟨by simp,fun l' k' h'=>?_⟩;by_cases e:l=l'
 ·subst e;rw[h]at h';obtain rfl:=ss h';exact⟨m,by grind⟩
 ·exact⟨k'.mode,by simp_all⟩
def Only(σ σ':Store)(L:List Nat):Prop:=∀l,l∉L->σ'[l]?=σ[l]?
theorem Only.refl(σ:Store)(L:List Nat):Only σ σ L:=fun _ _=>rfl
theorem Only.trans{a b c:Store}{L:List Nat}(h:Only a b L)(h2:Only b c L):Only a c L:=fun l hl=>(h2 l hl).trans (h l hl)
theorem Only.mono{a b:Store}{L L':List Nat}(h:Only a b L)(hs:∀x∈L,x∈L'):Only a b L':=fun l hl=>h l fun hm=>hl (hs l hm)
theorem Only.set{σ:Store}(k:gC)(hl:l∈L):Only σ (σ.set l k) L:=fun l' h'=>sd fun e=>h' (by rw[<-e];exact hl)
theorem uV{σ σ':Store}(h:Mo σ σ'):∀(n:Nat) (a:AV),bI σ' n a=bI σ n a
 |0,_=>rfl
 |n+1,a=>by
  have ih:=uV h n;have fm:∀cs:List AV,cs.flatMap (bI σ' n)=cs.flatMap (bI σ n):=fun cs=>by
   simp_all [funext]
  cases a with
  |ptr l i j=>
   simp only[bI];cases hk:σ[l]? with
   |none=>
    have:σ'[l]?=none:=by rw[IS]at hk⊢;rw[h.1];exact hk
    rw[this]
   |some k=>
    obtain⟨m,hm⟩:=h.2 l k hk;grind
  |eN f a b=>simp only[bI,fm]
  |agg cs=>simp only[bI,fm]
  |kK cs=>simp only[bI,fm]
  |_=>rfl
theorem DK{σ:Store}{c:AV}(n:Nat)(h:qF σ c=some (a,σ')):Mo σ σ'/\Only σ σ' (bI σ (n+1) c):=by
 cases c with
 |v x=>
  simp only[qF]at h;cases hx:oN (.v x)with
  |false=>rw[hx]at h;cases h
  |true=>simp_all [me,bj,de,Mo.refl,Only.refl]
 |aq b sz xs=>simp only[qF,bj,de]at h;simp_all [Mo.refl,Only.refl]
 |sl b l off cut=>
  simp only[qF]at h;split at h
  ·cases h
  ·rename_i k hk;rcases dI h with⟨_,h⟩|⟨_,h⟩
   ·simp only[bj,de]at h;obtain⟨_,rfl⟩:=h;exact⟨Mo.set hk 0,Only.set _ (by simp[bI])⟩
   ·cases h
 |_=>cases h
theorem AW:∀{cs as:List AV} {σ σ':Store} (n:Nat),qG σ cs=some (as,σ')->Mo σ σ'/\Only σ σ' (cs.flatMap (bI σ (n+1)))
 |[],as,σ,σ',n,h=>by simp only[qG,bj,de]at h;simp_all [Mo.refl,Only.refl]
 |c::cs,as,σ,σ',n,h=>by
  simp only[qG]at h;split at h
  ·cases h
  ·rename_i c' σ1 h1;split at h
   ·cases h
   ·rename_i cs' σ2 h2;simp only[bj,de]at h;obtain⟨_,rfl⟩:=h;obtain⟨m1,o1⟩:=DK n h1;obtain⟨m2,o2⟩:=AW n h2;refine⟨m1.trans m2,(o1.mono fun x hx=>?_).trans (o2.mono fun x hx=>?_)⟩
    ·grind
    ·rw[Ax];rw[show bI σ1 (n+1)=bI σ (n+1)from funext (uV m1 (n+1))]at hx;grind
theorem KV{σ:Store}(n:Nat)(h:uz σ l=some (b,σ')):Mo σ σ'/\Only σ σ' (bI σ (n+2) (.ptr l 0 0))/\l∈bI σ (n+2) (.ptr l 0 0):=by
 simp only[uz]at h;split at h
 ·cases h
 ·rename_i k hk;rcases dI h with⟨hc,h⟩|⟨_,h⟩
  ·simp only[dd]at hc;split at h
   ·cases h
   ·rename_i cs σ1 h1;simp only[bj,de]at h;obtain⟨_,rfl⟩:=h;obtain⟨m1,o1⟩:=AW n h1;have m0:=Mo.set hk 0;have e:bI σ (n+2) (.ptr l 0 0)=l::(aw k.xs 0).flatMap (bI σ (n+1)):=by simp only[bI,hk,hc.2,me]
    rw[e];refine⟨m0.trans m1,(Only.set _ (BY ..)).trans (o1.mono fun x hx=>?_),BY ..⟩;rw[show bI (σ.set l {k with mode:=0}) (n+1)=bI σ (n+1)from funext (uV m0 (n+1))]at hx;grind
  ·cases h
theorem AX{σ:Store}{r:List Nat}(n:Nat)(h:nh σ a=some (b,σ',r)):Mo σ σ'/\Only σ σ' (bI σ (n+2) a)/\∀x∈r,x∈bI σ (n+2) a:=by
 have fin:∀{a:AV} {σ1:Store} {b':AV},qF σ a=some (b',σ1)->Mo σ σ1/\Only σ σ1 (bI σ (n+2) a)/\∀x∈([]:List Nat),x∈bI σ (n+2) a:=fun h1=>by
  grind [DK]
 have go:∀{a:AV},(nh σ a=match qF σ a with|none=>none|some (b,σ')=>some (b,σ',[]))->nh σ a=some (b,σ',r)->Mo σ σ'/\Only σ σ' (bI σ (n+2) a)/\∀x∈r,x∈bI σ (n+2) a:=fun{a} e h=>by
  grind
 cases a with
 |ptr l i j=>
  simp only[nh]at h;rcases dI h with⟨hc,h⟩|⟨_,h⟩
  ·simp only[dd]at hc;grind [Nat.eq_of_beq_eq_true,Option.some.injEq,Prod.mk.injEq,KV,List.mem_singleton]
  ·cases h
 |_=>exact go rfl h
theorem tJ:∀{cs as:List AV} {σ σ':Store} {r:List Nat} (n:Nat),oh σ cs=some (as,σ',r)->Mo σ σ'/\Only σ σ' (cs.flatMap (bI σ (n+2)))/\∀x∈r,x∈cs.flatMap (bI σ (n+2))
 |[],as,σ,σ',r,n,h=>by simp only[oh,bj,de]at h;simp_all [Mo.refl,Only.refl]
 |c::cs,as,σ,σ',r,n,h=>by
  simp only[oh]at h;split at h
  ·cases h
  ·rename_i c' σ1 r1 h1;split at h
   ·cases h
   ·rename_i cs' σ2 r2 h2;simp only[bj,de]at h;obtain⟨_,rfl,rfl⟩:=h;obtain⟨m1,o1,g1⟩:=AX n h1;obtain⟨m2,o2,g2⟩:=tJ n h2;rw[show bI σ1 (n+2)=bI σ (n+2)from funext (uV m1 (n+2))]at o2 g2;rw[Ax];refine⟨m1.trans m2,(o1.mono fun x hx=>gw.2 (.inl hx)).trans (o2.mono fun x hx=>gw.2 (.inr hx)),fun x hx=>?_⟩;grind
theorem OW{σ:Store}{r:List Nat}(n:Nat)(h:GI σ a=some (b,σ',r)):Mo σ σ'/\Only σ σ' (bI σ (n+3) a)/\∀x∈r,x∈bI σ (n+3) a:=by
 cases a with
 |agg cs=>
  simp only[GI]at h;split at h
  ·cases h
  ·rename_i bs σ1 r1 h1;simp only[bj,de]at h;obtain⟨_,rfl,rfl⟩:=h;exact tJ n h1
 |eN f first cX=>
  simp only[GI]at h;rcases dI h with⟨_,h⟩|⟨_,h⟩
  ·cases h
  ·split at h
   ·cases h
   ·rename_i bs σ1 r1 h1;simp only[bj,de]at h;obtain⟨_,rfl,rfl⟩:=h;obtain⟨m,o,g⟩:=tJ n h1;exact⟨m,o.mono fun x hx=>gw.2 (.inr hx),fun x hx=>gw.2 (.inr (g x hx))⟩
 |_=>exact AX (n+1) h
theorem mB{σ:Store}{r:List Nat}(h:wA σ a=some (b,σ',r)):∃c l k,a=.sl c l 0 none/\σ[l]?=some k/\k.mode=1/\k.obj=false/\b=.kK [.ow false k.ty k.sz k.xs]/\σ'=σ.set l {k with mode:=0}/\r=[l]:=by
 unfold wA at h;split at h
 ·rename_i c0 l;split at h
  ·cases h
  ·rename_i k hk;rcases dI h with⟨c,h⟩|⟨_,h⟩
   ·simp only[bj,de]at h;obtain⟨e1,e2,e3⟩:=h;simp only[dd,pk]at c;grind [Nat.eq_of_beq_eq_true]
   ·cases h
 ·cases h
theorem HQ{σ:Store}{r:List Nat}(n:Nat)(h:wA σ a=some (b,σ',r)):Mo σ σ'/\Only σ σ' (bI σ (n+1) a)/\∀x∈r,x∈bI σ (n+1) a:=by
 obtain⟨_,l,k,rfl,hk,_,_,rfl,rfl,rfl⟩:=mB h;exact⟨Mo.set hk 0,Only.set _ (by simp[bI]),fun x hx=>by simpa [bI]using hx⟩
theorem uW:∀{as bs:List AV} {σ σ':Store} {m q:List Bool} {r:List Nat},gn σ m q as=some (bs,σ',r)->Mo σ σ'/\Only σ σ' (as.flatMap (refs σ))/\∀x∈r,x∈as.flatMap (refs σ)
 |[],bs,σ,σ',m,q,r,h=>by simp only[gn,bj,de]at h;simp_all [Mo.refl,Only.refl]
 |a::as,bs,σ,σ',m,q,r,h=>by
  simp only[gn]at h;split at h
  ·cases h
  ·rename_i b σ1 r1 h1;split at h
   ·cases h
   ·rename_i bs' σ2 r2 h2;simp only[bj,de]at h;obtain⟨_,rfl,rfl⟩:=h;have key:Mo σ σ1/\Only σ σ1 (refs σ a)/\∀x∈r1,x∈refs σ a:=by
     split at h1
     ·split at h1
      ·exact HQ 4 h1
      ·exact OW 2 h1
     grind [Option.some.injEq,Prod.mk.injEq,Mo.refl,Only.refl]
    obtain⟨m1,o1,g1⟩:=key;obtain⟨m2,o2,g2⟩:=uW h2;rw[show refs σ1=refs σ from funext (uV m1 5)]at o2 g2;rw[Ax];refine⟨m1.trans m2,(o1.mono fun x hx=>gw.2 (.inl hx)).trans (o2.mono fun x hx=>gw.2 (.inr hx)),fun x hx=>?_⟩;grind
theorem HU(σ:Store):∀(as:List AV) (m:List Bool) (x:Nat),x∈cC σ m as->x∈as.flatMap (refs σ)
 |[],_,_,h=>by cases h
 |a::as,m,x,h=>by
  rw[Ax];simp only[cC]at h;rcases gw.1 h with h|h
  ·refine gw.2 (.inl ?_);cases hm:m.headD false with
   |true=>rw[hm]at h;cases h
   |false=>rw[hm]at h;exact h
  ·exact gw.2 (.inr (HU σ as m.tail x h))
theorem ja:∀(L:List Nat) (σ:Store),(bN σ L).length=σ.length/\Only σ (bN σ L) L
 |[],σ=>⟨rfl,Only.refl _ _⟩
 |l::L,σ=>by
  simp only[bN];split
  ·rename_i k hk;cases Nat.beq k.mode 0 with
   |true=>
    obtain⟨h1,h2⟩:=ja L σ;exact⟨h1,h2.mono fun x hx=>nm _ hx⟩
   |false=>
    obtain⟨h1,h2⟩:=ja L (σ.set l {k with mode:=2});exact⟨h1.trans (by simp),(Only.set _ (BY ..)).trans (h2.mono fun x hx=>nm _ hx)⟩
  ·obtain⟨h1,h2⟩:=ja L σ;exact⟨h1,h2.mono fun x hx=>nm _ hx⟩
def Kept(σ σ':Store)(L:List Nat):Prop:=σ.length<=σ'.length/\∀l,l<σ.length->l∉L->σ'[l]?=σ[l]?
theorem Kept.refl(σ:Store)(L:List Nat):Kept σ σ L:=⟨dk _,fun _ _ _=>rfl⟩
theorem Kept.trans{a b c:Store}{L:List Nat}(h:Kept a b L)(h2:Kept b c L):Kept a c L:=⟨iS h.1 h2.1,fun l hl hn=>(h2.2 l (wx hl h.1) hn).trans (h.2 l hl hn)⟩
theorem Kept.app(σ τ:Store)(L:List Nat):Kept σ (σ++τ) L:=⟨by simp,fun l hl _=>fj hl⟩
theorem Only.kept{σ:Store}(h:Only σ σ' L)(hl:σ'.length=σ.length):Kept σ σ' L:=⟨Nat.le_of_eq hl.symm,fun l _ hn=>h l hn⟩
theorem wN{σ:Store}{c:AV}(h:om σ c=some (a,σ')):Kept σ σ' L:=by
 cases c with
 |ow b ty sz xs=>simp only[om,bj,de]at h;grind [Kept.app]
 |v x=>simp only[om,bj,de]at h;simp_all [Kept.refl]
 |aq b sz xs=>simp only[om,bj,de]at h;simp_all [Kept.refl]
 |ep cs off=>simp only[om,bj,de]at h;simp_all [Kept.refl]
 |_=>cases h
theorem tK:∀{cs as:List AV} {σ σ':Store} {L:List Nat},oq σ cs=some (as,σ')->Kept σ σ' L
 |[],as,σ,σ',L,h=>by simp only[oq,bj,de]at h;obtain⟨_,rfl⟩:=h;exact Kept.refl _ _
 |c::cs,as,σ,σ',L,h=>by
  simp only[oq]at h;split at h
  ·cases h
  ·rename_i c' σ1 h1;split at h
   ·cases h
   ·rename_i cs' σ2 h2;simp only[bj,de]at h;obtain⟨_,rfl⟩:=h;exact(wN h1).trans (tK h2)
theorem DL{σ:Store}{r:List AV}(h:sF σ a=some (b,σ',r)):Kept σ σ' L:=by
 have go:∀{a:AV},(sF σ a=match om σ a with|none=>none|some (b,σ')=>some (b,σ',[]))->sF σ a=some (b,σ',r)->Kept σ σ' L:=fun{a} e h=>by
  grind [Option.some.injEq,Prod.mk.injEq,wN]
 cases a with
 |ob ty cs=>
  simp only[sF]at h;cases h1:oq σ cs with
  |none=>rw[h1]at h;cases h
  |some q=>
   obtain⟨cs',σ1⟩:=q;rw[h1]at h;simp only[bj,de]at h;obtain⟨_,rfl,rfl⟩:=h;exact(tK h1).trans (Kept.app _ _ _)
 |kK cs=>
  match cs,h with
  |[],h=>exact go rfl h
  |[c],h=>
   simp only[sF]at h;grind [Option.some.injEq,Prod.mk.injEq,wN]
  |_::_::_,h=>exact go rfl h
 |_=>exact go rfl h
theorem wO:∀{cs as:List AV} {σ σ':Store} {r:List AV} {L:List Nat},yQ σ cs=some (as,σ',r)->Kept σ σ' L
 |[],as,σ,σ',r,L,h=>by simp only[yQ,bj,de]at h;obtain⟨_,rfl,rfl⟩:=h;exact Kept.refl _ _
 |c::cs,as,σ,σ',r,L,h=>by
  simp only[yQ]at h;split at h
  ·cases h
  ·rename_i c' σ1 r1 h1;split at h
   ·cases h
   ·rename_i cs' σ2 r2 h2;simp only[bj,de]at h;obtain⟨_,rfl,rfl⟩:=h;exact(DL h1).trans (wO h2)
theorem RQ{σ:Store}{r:List AV}(h:imp σ a=some (b,σ',r)):Kept σ σ' L:=by
 have other:∀{a:AV},sF σ a=some (b,σ',r)->Kept σ σ' L:=fun h=>DL h;cases a with
 |agg cs=>
  simp only[imp]at h;grind [Option.some.injEq,Prod.mk.injEq,wO]
 |eN f first cX=>
  simp only[imp]at h;grind [Option.some.injEq,Prod.mk.injEq,wO]
 |_=>simp only[imp]at h;exact other h
theorem uX:∀{cs as:List AV} {σ σ':Store} {r:List AV} {L:List Nat},fk σ cs=some (as,σ',r)->Kept σ σ' L
 |[],as,σ,σ',r,L,h=>by simp only[fk,bj,de]at h;obtain⟨_,rfl,rfl⟩:=h;exact Kept.refl _ _
 |c::cs,as,σ,σ',r,L,h=>by
  simp only[fk]at h;split at h
  ·cases h
  ·rename_i c' σ1 r1 h1;split at h
   ·cases h
   ·rename_i cs' σ2 r2 h2;simp only[bj,de]at h;obtain⟨_,rfl,rfl⟩:=h;exact(RQ h1).trans (uX h2)
theorem tL:∀{ls:List Nat} {os:List (List AV)} {σ σ':Store} {L:List Nat},(∀x∈ls,x∈L)->kM σ ls os=some σ'->Kept σ σ' L
 |[],[],σ,σ',L,_,h=>by simp only[kM,bj]at h;subst h;exact Kept.refl _ _
 |[],_::_,σ,σ',L,_,h=>by simp[kM]at h
 |_::_,[],σ,σ',L,_,h=>by simp[kM]at h
 |l::ls,cs::os,σ,σ',L,hs,h=>by
  simp only[kM]at h;split at h
  ·cases h
  ·rename_i k hk;rcases dI h with⟨_,h⟩|⟨_,h⟩
   ·split at h
    ·rename_i cs' σ1 h1;have h2:Kept σ1 (σ1.set l {k with mode:=1,xs:=[cs']}) L:=(Only.set _ (hs l (BY ..))).kept (by simp);exact((tK h1).trans h2).trans (tL (fun x hx=>hs x (nm _ hx)) h)
    ·cases h
   ·split at h
    ·rename_i ty sz xs _;have h2:Kept σ (σ.set l {k with mode:=1,xs:=xs}) L:=(Only.set _ (hs l (BY ..))).kept (by simp);exact h2.trans (tL (fun x hx=>hs x (nm _ hx)) h)
    ·cases h
section
variable{R:Type}{P:Program}{C:gD}{call:cK}{inl:iv}
theorem M7(dat:Bool)(t:TypeId)(r:AV)(K:AV->Option R):Vd P dat t r K=(Vd P dat t r some).bind K:=by
 unfold Vd;grind
theorem AY(dat:Bool):∀{R:Type} (ts:List TypeId) (j:Nat) (rs:List AV) (K:List AV->Option R),tv P dat ts j rs K=(tv P dat ts j rs some).bind K
 |_,[],_,_,_=>rfl
 |_,t::ts,j,rs,K=>by
  simp only[tv];rw[M7 (K:=fun a=>tv P dat ts (j+1) rs fun as=>K (a::as)),M7 (K:=fun a=>tv P dat ts (j+1) rs fun as=>some (a::as))];cases Vd P dat t (cellAt rs j) some with
  |none=>rfl
  |some a=>
   simp only[Rr];rw[AY dat ts (j+1) rs (fun as=>K (a::as)),AY dat ts (j+1) rs (fun as=>some (a::as))];cases tv P dat ts (j+1) rs some<;>rfl
theorem mC:∀{R:Type} (ts:List (Nat×List AV)) (j:Nat) (rs:List AV) (K:List (List AV)->Option R),lG ts j rs K=(lG ts j rs some).bind K
 |_,[],_,_,_=>rfl
 |_,(ty,Rf)::ts,j,rs,K=>by
  simp only[lG];split
  ·rename_i t z _;refine fR ?_ rfl;rw[mC ts (j+1) rs (fun os=>K ([.kK [.ow false t z (bU (Re (cellAt rs j)))]]::os)),mC ts (j+1) rs (fun os=>some ([.kK [.ow false t z (bU (Re (cellAt rs j)))]]::os))];grind
  refine fR ?_ rfl;rw[mC ts (j+1) rs (fun os=>K (Ae Rf 0 (aA (cellAt rs j))::os)),mC ts (j+1) rs (fun os=>some (Ae Rf 0 (aA (cellAt rs j))::os))];grind
theorem OX(σ:Store)(t:TypeId)(a:AV):refs σ (Rh P t a)=refs σ a:=by
 cases a with
 |aq b s xs=>
  show refs σ (bif Nat.beq s 0 then _ else _)=_;cases Nat.beq s 0 with
  |false=>rfl
  |true=>
   simp only[me];split
   ·split<;>rfl
   ·rfl
 |_=>rfl
theorem DM(σ:Store):∀(ts:List TypeId) (as:List AV),(sG P ts as).flatMap (refs σ)=as.flatMap (refs σ)
 |[],[]=>rfl
 |[],_::_=>rfl
 |_::_,[]=>rfl
 |t::ts,a::as=>by
  show refs σ (Rh P t a)++(sG P ts as).flatMap (refs σ)=refs σ a++as.flatMap (refs σ);rw[OX,DM σ ts as]
theorem HY{σ:Store}{K:AV->Store->Option R}{args:List AV}{r:R}(hu:C.CM f=none)(hi:C.inl f=false)(h:gJ P C call inl σ K f args=some r):
  ∃av σ',gJ P C call inl σ pr f args=some (av,σ')/\K av σ'=some r/\Kept σ σ' (args.flatMap (refs σ)):=by
 unfold gJ at h⊢;cases hfn:P.funcs[f]? with
 |none=>rw[hfn]at h;cases h
 |some fn=>
  rw[hfn]at h;simp only[hu,hi]at h⊢;cases hb : (fn.body.isNone || fn.name == "runtime.NumGoroutine") with
  |true=>rw[hb]at h;cases h
  |false=>
   rw[hb]at h;simp only[jz]at h⊢;have hnr:=DM (P:=P) σ fn.params.toList args;rw[<-hnr];generalize sG P fn.params.toList args=args at h⊢;rcases dI h with⟨c0,h⟩|⟨_,h⟩
   rotate_left
   ·cases h
   rw[c0];simp only[me];cases he:gn σ (C.rw f) (C.bk f) args with
   |none=>rw[he]at h;cases h
   |some q=>
    obtain⟨bs,σ1,roots⟩:=q;rw[he]at h;simp only at h⊢;obtain⟨m1,o1,g1⟩:=uW he;rcases dI h with⟨_,h⟩|⟨c1,h⟩
    ·cases h
    rw[c1];simp only[jz];rcases dI h with⟨_,h⟩|⟨c2,h⟩
    ·cases h
    rw[c2];simp only[jz];obtain⟨rs,RR,h⟩:=kl.1 h;rw[RR];simp only[Rr];rw[AY]at h⊢;obtain⟨as,has,h⟩:=kl.1 h;rw[has];simp only[Rr];rw[mC]at h⊢;obtain⟨os,hos,h⟩:=kl.1 h;rw[hos];simp only[Rr];rcases dI h with⟨c3,h⟩|⟨_,h⟩
    ·rw[c3];simp only[me];have k1:Kept σ σ1 (args.flatMap (refs σ)):=o1.kept m1.1;have k2:∀b:Bool,Kept σ1 (bif b then bN σ1 (cC σ (C.rw f) args)else σ1) (args.flatMap (refs σ)):=fun b=>by
      cases b with
      |true=>
       obtain⟨z1,z2⟩:=ja (cC σ (C.rw f) args) σ1;exact(z2.mono (HU σ args (C.rw f))).kept z1
      |false=>exact Kept.refl _ _
     split at h
     ·cases h
     ·rename_i σ2 hbk;cases KW:fk σ2 as with
      |none=>rw[KW]at h;cases h
      |some q3=>
       obtain⟨vs,σ3,r3⟩:=q3;rw[KW]at h;exact⟨_,_,rfl,h,((k1.trans (k2 _)).trans (tL g1 hbk)).trans (uX KW)⟩
    ·cases h
end
end
