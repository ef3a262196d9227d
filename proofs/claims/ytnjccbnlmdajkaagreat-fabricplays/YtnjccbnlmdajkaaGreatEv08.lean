/- What the arguments of a law are,read out of memory. -/
import Derived.OpenShut
import Derived.ChangeReads
import Derived.Carry
import Derived.Test.YtnjccbnlmdajkaaGreatEv07
set_option linter.all false
namespace Go.Ev
variable{μ:Mu}
structure xa{H:Type}(f:DataW H->Nat):Prop where
 str:∀b:List UInt8,b.length<=f (.lit (.string b))
 len:∀e s:List (DataW H),e.length<=f (.slice e s)
 elem:∀(e s:List (DataW H)) (d:DataW H),d∈e->f d<=f (.slice e s)
 part:∀(ps:List (DataW H)) (d:DataW H),d∈ps->f d<=f (.agg ps)
def fT(P:Program)(N:Nat):Nat->TypeId->List AV->Prop
 |0,_,_=>False
 |n+1,t,cs=>
  match P.underlying t with
  |some .bool=> ∃b,cs=[.v (.bool b)]
  |some (.int k)=> ∃m,cs=[.v (.int k m)]/\k.min<=m/\m<=k.max
  |some .string=> ∃s:ByteArray,cs=[.v (.string s)]/\s.size<=N
  |some (.slice e)=> ∃nil xs,cs=[.aq nil (P.cellsOf e) xs]/\(nil=true->xs=[])/\xs.length<=N/\∀x∈xs,fT P N n e x
  |some (.struct fs)=> ∃parts:List (List AV),cs=parts.flatten/\parts.length=fs.size/\∀(i:Nat) (f:Field) (p:List AV),fs[i]?=some f->parts[i]?=some p->fT P N n f.type p
  |some (.array len e)=> ∃parts:List (List AV),cs=parts.flatten/\parts.length=len/\∀p∈parts,fT P N n e p
  |_=>False
def BC(P:Program):Nat->TypeId->Bool
 |0,_=>false
 |n+1,t=>
  match P.underlying t with
  |some .bool=>true
  |some (.int _)=>true
  |some .string=>true
  |some (.slice e)=>BC P n e
  |some (.struct fs)=>uy P (P.cellsOf t) 0 fs.toList&&fs.toList.all fun f=>BC P n f.type
  |some (.array len e)=>Nat.beq (len*P.cellsOf e) (P.cellsOf t)&&BC P n e
  |_=>false
theorem qg.app{as as':List AV}{vs vs':List Value}(h:qg μ as vs)(k:qg μ as' vs'):qg μ (as++as') (vs++vs'):=by
 refine⟨by simp[h.1,k.1],fun i u x hu hx=>?_⟩;rcases od i as.length with h1|h1
 ·rw[fj h1]at hu;rw[fj (by rw[h.1];exact h1)]at hx;exact h.2 i u x hu hx
 ·rw[en h1]at hu;rw[en (by rw[h.1];exact h1),h.1]at hx;exact k.2 _ u x hu hx
theorem qg.nil':qg μ [] []:=⟨rfl,fun k u v hu=>by simp at hu⟩
theorem qg.one{a:AV}{v:Value}(h:DR μ a v):qg μ [a] [v]:=⟨rfl,fun k u x hu hx=>by
 grind⟩
section
variable{H:Type}{enc:TypeId×Value->H}{P:Program}{w:World}{base:Nat}{spare:Nat->Bool}{held:Bool}{N:Nat}{bulk:DataW H->Nat}
theorem vG(a:Addr):gL (hf w) a=w.cell? a:=rfl
theorem Nr{α:Type}{Q:Nat->α->Prop}:∀(n:Nat),(∀i,i<n->∃a,Q i a)->∃xs:List α,xs.length=n/\∀(i:Nat) (a:α),xs[i]?=some a->Q i a
 |0,_=>⟨[],rfl,fun i a h=>by simp at h⟩
 |n+1,h=>by
  obtain⟨xs,h1,h2⟩:=Nr n fun i hi=>h i (by omega);obtain⟨a,ha⟩:=h n (by omega);refine⟨xs++[a],by simp[h1],fun i b hi=>?_⟩;rcases od i xs.length with hlt|hge
  ·rw[fj hlt]at hi;exact h2 i b hi
  ·rw[en hge]at hi;cases hz:i-xs.length with
   |zero=>
    rw[hz]at hi;simp at hi;subst hi;have:i=n:=by omega
    subst this;exact ha
   |succ q=>rw[hz]at hi;simp at hi
theorem tS{n:Nat}{g:TypeId->List Value->Option (DataW H×List MemPlace)}(hg:∀t cs x,g t cs=some x->BC P n t=true->(N=maxLen\/bulk x.1<=N)->∃as,fT P N n t as/\qg (hf w) as cs){cs:List Value}:
  ∀(l:List (TypeId×Nat)) (ys:List (DataW H×List MemPlace)) (o:Nat),ys.length=l.length->(∀(i:Nat) (q:TypeId×Nat),l[i]?=some q->g q.1 ((cs.drop q.2).take (P.cellsOf q.1))=ys[i]?)->(∀q∈l,BC P n q.1=true)->(∀y∈ys,N=maxLen\/bulk y.1<=N)->
   (∀(i:Nat) (q:TypeId×Nat),l[i]?=some q->q.2=o+((l.take i).map fun q=>P.cellsOf q.1).sum)->o+(l.map fun q=>P.cellsOf q.1).sum=cs.length->
   ∃parts:List (List AV),parts.length=l.length/\(∀(i:Nat) (q:TypeId×Nat) (p:List AV),l[i]?=some q->parts[i]?=some p->fT P N n q.1 p)/\qg (hf w) parts.flatten (cs.drop o)
 |[],ys,o,_,_,_,_,_,htot=>⟨[],rfl,fun i q p h=>by simp at h,by
   simp_all [OF,qg.nil']⟩
 |q::l,[],o,hl,_,_,_,_,_=>by simp at hl
 |q::l,y::ys,o,hl,hgi,Pm,hb,ho,htot=>by
  have h0:=hgi 0 q rfl;have ho0:=ho 0 q rfl;simp at ho0;obtain⟨as,h1,h2⟩:=hg _ _ y h0 (Pm q (by simp)) (hb y (by simp));obtain⟨parts,e1,e2,e3⟩:=tS hg l ys (o+P.cellsOf q.1) (by simpa using hl) (fun i q' hi=>by simpa using hgi (i+1) q' (by simpa using hi)) (fun q' hq=>Pm q' (by simp[hq])) (fun y' hy=>hb y' (by simp[hy]))
   (fun i q' hi=>by have:=ho (i+1) q' (by simpa using hi);grind) (by grind)
  refine⟨as::parts,by simp[e1],fun i q' p hi hp=>?_,?_⟩
  ·grind
  ·rw[GC];have:cs.drop o=(cs.drop q.2).take (P.cellsOf q.1)++cs.drop (o+P.cellsOf q.1):=by
    rw[ho0,<-yk,Se]
   rw[this];exact qg.app h2 e3
theorem BD{tot:Nat}:∀{l:List Field} {o:Nat},uy P tot o l=true->(∀(i:Nat) (f:Field),l[i]?=some f->f.offset=o+((l.take i).map fun f=>P.cellsOf f.type).sum)/\o+(l.map fun f=>P.cellsOf f.type).sum=tot
 |[],o,h=>⟨fun i f hi=>by simp at hi,by simpa using cj h⟩
 |f::l,o,h=>by
  simp only[uy,dd]at h;obtain⟨h1,h2⟩:=BD h.2;refine⟨fun i g hi=>?_,by grind⟩;cases i with
  |zero=>simp_all
  |succ i=>grind
theorem vH(hB:xa bulk):∀(n fuel:Nat) (t:TypeId) (cs:List Value) (x:DataW H×List MemPlace),DataW.trod enc P w base spare held fuel t cs=some x->BC P n t=true->(N=maxLen\/bulk x.1<=N)->∃as,fT P N n t as/\qg (hf w) as cs
 |0,_,_,_,_,_,h,_=>by cases h
 |n+1,fuel,t,cs,x,h,hr,hb=>by
  rw[BC]at hr;cases hu:P.underlying t with
  |none=>rw[hu]at hr;cases hr
  |some d=>
   rw[hu]at hr;cases d with
   |bool=>
    obtain⟨b,rfl,rfl⟩:=DataW.trod_bool hu h;exact⟨[.v (.bool b)],by rw[fT,hu];exact⟨b,rfl⟩,qg.one (.v rfl)⟩
   |int k=>
    obtain⟨m,rfl,rfl,hw⟩:=DataW.trod_int hu h;simp only[Lit.wf,dd,tp]at hw;exact⟨[.v (.int k m)],by rw[fT,hu];exact⟨m,rfl,hw⟩,qg.one (.v rfl)⟩
   |string=>
    obtain⟨s,rfl,rfl,hs⟩:=DataW.trod_string hu h;refine⟨[.v (.string s)],by
     rw[fT,hu];refine⟨s,rfl,?_⟩;rcases hb with hb|hb
     ·rw[hb];exact hs
     ·have:=iS (hB.str s.data.toList) hb;simp_all,qg.one (.v rfl)⟩
   |slice e=>
    simp only at hr;rcases DataW.trod_slice hu h with⟨rfl,rfl⟩|⟨a,len,cap,elems,rest,m,_,rfl,rfl,tT,hlc,hcm,hle,hel,_,_⟩
    ·refine⟨[.aq true (P.cellsOf e) []],by rw[fT,hu];grind,qg.one ?_⟩;exact .aq (fun _ _=>undef) rfl (fun _=>⟨rfl,rfl⟩) (dk _) (fun x hx=>by cases hx) (fun a ha=>by cases ha) (fun k e j u hk=>by simp at hk)
    ·have hlen:len<=N:=by
      rcases hb with hb|hb
      ·rw[hb];omega
      ·have:=iS (hB.len (elems.map (·.1)) (rest.map (·.1))) hb;grind
     have hget:∀i,i<len->∃cs' as,w.cells? base (a.add (i*P.cellsOf e)) (P.cellsOf e)=some cs'/\fT P N n e as/\qg (hf w) as cs':=fun i hi=>by
      have hk:=hel i hi;rw[ao (by omega)]at hk;obtain⟨cs',h1,h2⟩:=kl.1 hk;obtain⟨as,h3,h4⟩:=vH hB n m e cs' _ h2 hr (hb.imp id fun hb=>iS (hB.elem _ _ _ (by grind)) hb);grind
     obtain⟨xs,hxl,hxs⟩:=Nr (Q:=fun i as=> ∃cs',w.cells? base (a.add (i*P.cellsOf e)) (P.cellsOf e)=some cs'/\fT P N n e as/\qg (hf w) as cs') len fun i hi=>by
      grind
     have hmem:∀x∈xs,fT P N n e x/\x.length=P.cellsOf e:=fun x hx=>by
      obtain⟨i,hi⟩:=Hs hx;obtain⟨cs',h1,h2,h3⟩:=hxs i x hi;exact⟨h2,by rw[<-h3.1];exact(World.cells?_some h1).2.1⟩
     refine⟨[.aq false (P.cellsOf e) xs],by rw[fT,hu];grind,qg.one ?_⟩;rw[<-hxl];refine .aq (fun k j=>(w.cell? (a.add (k*P.cellsOf e+j))).getD undef) rfl (fun e=>by cases e) (by omega) (fun x hx=>(hmem x hx).2) (fun a' ha k j hk hj=>?_) (fun k x j u hk hj=>?_)
     ·injection ha with ha;subst ha;obtain⟨cs',h1,h2,h3⟩:=hxs k xs[k] (ao hk);obtain⟨_,h4,h5⟩:=World.cells?_some h1;simp_all [Addr.Aw,vG,ao]
     ·obtain⟨cs',h1,h2,h3⟩:=hxs k x hk;obtain⟨_,h4,h5⟩:=World.cells?_some h1;have hj':j<x.length:=(eR.1 hj).1;have hjn:j<P.cellsOf e:=by grind
      have h6:=h5 j hjn;rw[Addr.Aw]at h6;rw[h6,ao (show j<cs'.length by omega)];exact h3.2 j u _ hj (ao (by omega))
   |struct fs=>
    simp only[dd,ka]at hr;obtain⟨xs,m,_,rfl,hl,hxl,hf⟩:=DataW.trod_struct hu h;obtain⟨o1,o2⟩:=BD hr.1;obtain⟨parts,e1,e2,e3⟩:=tS (fun t cs x h1 h2 h3=>vH hB n m t cs x h1 h2 h3) (cs:=cs) (fs.toList.map fun f=>(f.type,f.offset)) xs 0 (by simp[hxl]) (fun i q hi=>by
      grind) (fun q hq=>by
      grind) (fun y hy=>hb.imp id fun hb=>iS (hB.part _ _ (by simp;exact⟨_,hy⟩)) hb)
     (fun i q hi=>by
      rw[et,kn]at hi;obtain⟨f,Vh,IL⟩:=hi;subst IL;rw[<-IF,BE];exact o1 i f Vh) (by rw[BE,hl];exact o2)
    refine⟨parts.flatten,by
     rw[fT,hu];refine⟨parts,rfl,by simpa using e1,fun i f p hi hp=>e2 i (f.type,f.offset) p ?_ hp⟩;grind,?_⟩
    simpa using e3
   |array len e=>
    simp only[dd]at hr;obtain⟨xs,m,_,rfl,hl,hxl,hf⟩:=DataW.trod_array hu h;have hsz:=cj hr.1;have ae9:∀k,k<=len->((((List.range len).map fun i=>(e,i*P.cellsOf e)).take k).map fun q=>P.cellsOf q.1).sum=k*P.cellsOf e:=fun k hk=>by
     rw[<-IF,BE,List.take_range,B3 hk]
     induction k with
     |zero=>simp
     |succ k ih=>
      grind [List.range_succ,Nat.succ_mul]
    obtain⟨parts,e1,e2,e3⟩:=tS (fun t cs x h1 h2 h3=>vH hB n m t cs x h1 h2 h3) (cs:=cs) ((List.range len).map fun i=>(e,i*P.cellsOf e)) xs 0 (by simp[hxl]) (fun i q hi=>by
      grind) (fun q hq=>by
      grind) (fun y hy=>hb.imp id fun hb=>iS (hB.part _ _ (by simp;exact⟨_,hy⟩)) hb)
     (fun i q hi=>by
      grind) (by
      have:=ae9 len (dk _);simp_all [yi])
    refine⟨parts.flatten,by
     rw[fT,hu];refine⟨parts,rfl,by simpa using e1,fun p hp=>?_⟩;obtain⟨i,hi⟩:=Hs hp;have hlt:i<len:=by
      grind
     exact e2 i (e,i*P.cellsOf e) p (by simp[hlt]) hi,?_⟩
    simpa using e3
   |_=>cases hr
end
end Go.Ev
namespace Go.Ev
open Go.ChangeShapes Go.RowKit
def aaj(P:Program)(N:Nat)(t:TypeId)(a:AV):Prop:=∃cs,fT P N 12 t cs/\a=Ym (eO P t) cs
def Sm(P:Program)(N:Nat):List TypeId->List AV->Prop
 |[],as=>as=[]
 |t::ts,as=> ∃a r,as=a::r/\aaj P N t a/\Sm P N ts r
theorem Sn{P:Program}{w:World}{r:Reach}{b:Nat}{t:TypeId}{v:Value}(ha:eO P t=true)(h:Value.okWide P w r b t v):∃cs,v=.agg cs:=by
 unfold eO at ha;unfold Value.okWide at h;grind
theorem Sq{P:Program}{w:World}{r:Reach}{b:Nat}{t:TypeId}{v:Value}(ha:eO P t=false)(h:Value.okWide P w r b t v):∀cs,v≠ .agg cs:=by
 intro cs e;subst e;unfold eO at ha;unfold Value.okWide at h;cases hu:P.underlying t with
 |none=>rw[hu]at h;simp[Cell.okWide,hu,Cell.ok]at h
 |some d=>
  rw[hu]at ha h;cases d with
  |struct fs=>cases ha
  |array n e=>cases ha
  |_=>simp[Cell.okWide,hu,Cell.ok]at h
theorem Pn{v:Value}(h:∀cs,v≠ .agg cs):v.cells= #[v]:=by
 cases v with
 |agg cs=>exact absurd rfl (h cs)
 |_=>rfl
section
variable{H:Type}{enc:TypeId×Value->H}{P:Program}{W:World}{N:Nat}{bulk:DataW H->Nat}
theorem Sr(hB:xa bulk){t:TypeId}{v:Value}{d:DataW H}{ps:List MemPlace}{base:Nat}{sp:Nat->Bool}{hd:Bool}(hr:BC P 12 t=true)(hval:Value.okWide P W .any base t v)(h:DataW.Trod enc P W 0 sp hd t v d ps)(hb:N=maxLen\/bulk d<=N):
  ∃a,aaj P N t a/\B2 (hf W) (hf W) [] [] a v:=by
 obtain⟨fuel,hf'⟩:=h;obtain⟨as,h1,h2⟩:=vH hB 12 fuel t _ _ hf' hr hb;refine⟨_,⟨as,h1,rfl⟩,?_⟩;cases ha:eO P t with
 |true=>
  obtain⟨cs,e⟩:=Sn ha hval;subst e;have:(Value.agg cs)=.agg cs.toList.toArray:=by simp
  rw[this];exact .agg (qg.Z6 h2)
 |false=>
  have e:=Pn (Sq ha hval);rw[e]at h2;have hl:as.length=1:=by rw[<-h2.1];rfl
  obtain⟨a,ha'⟩:=qS.1 hl;subst ha';exact .o (.c (.d (h2.2 0 a v rfl rfl)))
theorem Ea(hB:xa bulk):∀{ts:List TypeId} {vs:List Value} {ds:List (DataW H)} {ps:List MemPlace} {base:Nat} {sp:Nat->Bool} {hd:Bool},(∀t∈ts,BC P 12 t=true)->(∀(j:Nat) t v,ts[j]?=some t->vs[j]?=some v->Value.okWide P W .any base t v)->
  DataW.TrodAll enc P W 0 sp hd ts vs ds ps->(N=maxLen\/ ∀d∈ds,bulk d<=N)->∃as,Sm P N ts as/\ju (hf W) (hf W) [] [] as vs/\vs.length=ts.length/\ds.length=ts.length
 |[],vs,ds,ps,base,sp,hd,hr,hval,h,hb=>by
  obtain⟨rfl,rfl,rfl⟩:=trodAll_nil h;exact⟨[],rfl,.nil,rfl,rfl⟩
 |t::ts,vs,ds,ps,base,sp,hd,hr,hval,h,hb=>by
  obtain⟨v,vs1,d,ds1,p,q,rfl,rfl,rfl,h1,h2⟩:=trodAll_cons h;obtain⟨a,t1,b1⟩:=Sr hB (hr t (by simp)) (hval 0 t v rfl rfl) h1 (hb.imp id fun hb=>hb d (by simp));obtain⟨as,t2,b2,l1,l2⟩:=Ea hB (fun t ht=>hr t (by simp[ht])) (fun j t' v' h3 h4=>hval (j+1) t' v' (by simpa using h3) (by simpa using h4)) h2 (hb.imp id fun hb d' hd'=>hb d' (by simp[hd']));exact⟨a::as,⟨a,as,rfl,t1,t2⟩,.cons (F:=[]) (G:=[]) b1 b2,by simp[l1],by simp[l2]⟩
theorem Eb{W':World}(hl:laidOutB P=true)(hk:∀b,b<W.heap.size->W'.heap[b]?=W.heap[b]?){sp':Nat->Bool}(hsp:∀b,b<W.heap.size->sp' b=true):∀{ts:List TypeId} {vs:List Value} {ds:List (DataW H)} {ps:List MemPlace},(∀t∈ts,P.readableRec t=true/\t<P.types.size)->
  DataW.TrodAll enc P W 0 (fun _=>true) true ts vs ds ps->DataW.TrodAll enc P W' 0 sp' true ts vs ds ps
 |[],vs,ds,ps,hr,h=>by
  obtain⟨rfl,rfl,rfl⟩:=trodAll_nil h;exact trodAll_mk0
 |t::ts,vs,ds,ps,hr,h=>by
  have hlt:=h.lt;obtain⟨v,vs1,d,ds1,p,q,rfl,rfl,rfl,h1,h2⟩:=trodAll_cons h;refine trodAll_cons_mk (WideElems.Trod_stays hl (hr t (by simp)).1 (hr t (by simp)).2 h1 (fun x hx=>?_) (fun x hx=>hsp _ (hlt x (by simp[hx])))) (Eb hl hk hsp (fun t ht=>hr t (by simp[ht])) h2);have hx':=hk x.block (hlt x (by simp[hx]));cases x with
  |cell b off=>simp only[World.sameAt,World.cell?];rw[show W'.heap[b]?=W.heap[b]? from hx']
  |map b=>exact hx'
theorem Ss{W':World}{may:MemPlace->Prop}(h1:W'.os=W.os)(h2:W'.output=W.output)(hk:∀b,b<W.heap.size->W'.heap[b]?=W.heap[b]?):W.keptBut W' may:=by
 refine⟨h1,h2,fun i hi=>?_⟩;grind
theorem Su(hB:xa bulk)(dw:P.follows .mixedOrders=true)(C:gD)(hx:nX P C){f:FuncId}{fn:Func}(hfn:P.funcs[f]?=some fn){tb:TypeId}(hres:fn.resultTypes= #[tb])(htb:P.underlying tb=some .bool){s:ChangeSpec}(hvars:s.vars=[])
  (hs:∀ds:List (DataW H),ds.length=fn.params.toList.length->s.fn H (ds++[])={results:=[.lit (.bool true)],args:=ds}) (hl:laidOutB P=true) (Pm:∀t∈fn.params.toList,BC P 12 t=true/\P.readableRec t=true/\t<P.types.size)
  (hev:∀as,Sm P N fn.params.toList as->∃n,uF P C n f as=some [.v (.bool true)]) (base:Nat) (args:Array Value) (ds gs:List (DataW H)) (before:List MemPlace)
  (hval:∀(j:Nat) t v,fn.params[j]?=some t->args[j]?=some v->Value.okWide P W .any base t v) (hW:DataW.Whole enc P fn.params.toList s.vars false W args.toList ds gs before) (hb:N=maxLen\/ ∀d∈ds,bulk d<=N):
  Calls P f args W fun e W'=> ∃v,e=.returned v/\s.post enc P fn false true false false W args v W':=by
 have hW':=hW;obtain⟨p,q,hA,hV,hpq,hfz,hnd⟩:=hW;rw[hvars]at hV;obtain⟨rfl,rfl⟩:=trodVars_none hV;obtain⟨as,t1,b1,l1,l2⟩:=Ea hB (fun t ht=>(Pm t ht).1) (fun j t v h1 h2=>hval j t v (by grind) (by grind)) hA hb;obtain⟨n,hn⟩:=hev as t1;obtain⟨fn',hfn',Sh⟩:=oA dw hx n f as _ hn;rw[hfn]at hfn';injection hfn' with hfn';subst hfn';have hc:=Sh W (hf W) [] [] args.toList (fun b o h=>h) b1 sq;rw[Array.toArray_toList]at hc;refine hc.mono fun e W' he=>?_;obtain⟨ra,ro,vs,μ',F1,F2,G1,h1,h2,h3,h4,h5,h6,_⟩:=he;rw[hres]at h2;have hra:ra=[.v (.bool true)]:=by
  grind [List.length_eq_one_iff]
 subst hra;have hvs:vs=[.bool true]:=by
  cases h6 with
  |cons a b=>
   cases b;cases a with
   |o a=>cases a with
    |c a=>cases a with
     |d a=>cases a with
      |v=>rfl
 subst hvs;have hk:∀b,b<W.heap.size->W'.heap[b]?=W.heap[b]?:=fun b hb=>h4.keep b hb (by simp);refine⟨.bool true,h3,?_⟩;have hsp:=hs ds (by rw[l2]);refine⟨ds,[],before,[],before,[],hW',?_,?_,?_,?_,fun e=>by cases e⟩
 ·rw[hsp,hres];exact trodAll_cons_mk (shut_bool htb true) trodAll_mk0
 ·rw[hsp,hpq,ir];exact Eb hl hk (fun b hb=>by simpa using hb) (fun t ht=>(Pm t ht).2) hA
 ·rw[hsp,hvars];exact rfl
 ·exact Ss h4.os h4.output hk
end
