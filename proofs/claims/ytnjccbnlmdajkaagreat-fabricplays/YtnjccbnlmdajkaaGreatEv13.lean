/- Objects by name,with what is frozen: for walks by hand. -/
import Derived.RegionTactic
import Derived.Test.YtnjccbnlmdajkaaGreatEv12
set_option linter.all false
namespace Go.Ev
open Go Go.Proofs
variable{xs:List (List AV)}{v:Value}{F:List Nat}{sz:Nat}{cs:List AV}{cur:Array Value}{T b:Nat}{G:List Value}{n:Bool}{A:Option Addr}{j:Nat}{bs:List AV}{vs:List Value}{f:FuncId}{ty:Nat}{fn:Func}{fz:Nat×Nat}{es:List (List AV)}{c:Nat}{e:List AV}{a:AV}{Inf:TypeInfo}{t:Nat}{x:Option ag}{D:List Nat}{ra:List AV}{y:ag}{i:Nat}
section
section
variable{ι:Type}
structure az(w:World)(μ:Mu)(I:ι->Option ag)(W:World):Prop where
 kept:ar [] w W
 gj:ak μ (hf W)
 ok:∀i x,I i=some x->B1 μ (hf W) x.F [x.p] x.a x.p
 nd:∀i x,I i=some x->x.F.Nodup
 new:∀i x,I i=some x->∀b∈x.F,w.heap.size<=b
 dj:∀i j x y,I i=some x->I j=some y->i≠j->∀b∈x.F,b∉y.F
variable{w W W':World}{μ μ':Mu}{I J:ι->Option ag}
theorem az.start(w:World):az w (hf w) (fun _:ι=>none) w:=⟨ar.refl _ _,ak.refl _,fun i x (h:none=some x)=>(by cases h),fun i x (h:none=some x)=>(by cases h),fun i x (h:none=some x)=>(by cases h),fun i j x y (h:none=some x)=>(by cases h)⟩
theorem az.own(h:az w μ I W){i:ι}{x:ag}(hi:I i=some x):∀b∈x.F,μ b=none/\b<W.heap.size:=fun b hb=>by
 obtain⟨h1,o,h2⟩:=(h.ok i x hi).Jg b hb;exact⟨h1,(gd.1 h2).1⟩
theorem az.acz(h:az w μ I W)(k:ar D W W')(hm:ak μ μ')(hnew:∀b o,μ' b=some o->μ b=some o\/b∈D\/W.heap.size<=b){i:ι}{x:ag}(hi:I i=some x)(hd:∀b∈x.F,b∉D):B1 μ' (hf W') x.F [x.p] x.a x.p:=by
 refine((h.ok i x hi).mono hm fun b hb=>?_).heap fun b hb=>k.keep b (h.own hi b hb).2 (hd b hb);obtain⟨h1,h2⟩:=h.own hi b hb;cases e:μ' b with
 |none=>rfl
 |some o=>
  grind
theorem az.step(h:az w μ I W)(k:ar D W W')(hm:ak μ μ')(KW:ak μ' (hf W'))(hnew:∀b o,μ' b=some o->μ b=some o\/b∈D\/W.heap.size<=b)(hD:∀b∈D,w.heap.size<=b)(N:ι->Prop)
  (hold:∀i x,J i=some x->¬N i->I i=some x/\∀b∈x.F,b∉D)
  (hN:∀i x,J i=some x->N i->B1 μ' (hf W') x.F [x.p] x.a x.p/\x.F.Nodup/\∀b∈x.F,b∈D\/W.heap.size<=b)
  (hNN:∀i j x y,J i=some x->J j=some y->N i->N j->i≠j->∀b∈x.F,b∉y.F):az w μ' J W':=by
 have hs:=h.kept.size;refine⟨h.kept.trans k fun x hx=>.inr (hD x hx),KW,fun i x hi=>?_,fun i x hi=>?_,fun i x hi b hb=>?_,fun i j x y hi hj hij b hb=>?_⟩
 ·by_cases n:N i
  ·exact(hN i x hi n).1
  ·exact h.acz k hm hnew (hold i x hi n).1 (hold i x hi n).2
 ·by_cases n:N i
  ·exact(hN i x hi n).2.1
  ·exact h.nd i x (hold i x hi n).1
 ·by_cases n:N i
  ·grind
  ·exact h.new i x (hold i x hi n).1 b hb
 ·by_cases n:N i<;>by_cases n':N j
  ·grind
  ·intro hc;obtain⟨g1,g2⟩:=hold j y hj n';rcases(hN i x hi n).2.2 b hb with g|g
   ·exact g2 b hc g
   ·have:=(h.own g1 b hc).2;omega
  ·intro hc;obtain⟨g1,g2⟩:=hold i x hi n;rcases(hN j y hj n').2.2 b hc with g|g
   ·exact g2 b hb g
   ·have:=(h.own g1 b hb).2;omega
  ·exact h.dj i j x y (hold i x hi n).1 (hold j y hj n').1 hij b hb
theorem az.bw(h:az w μ I W)(k:ar [] W W'):az w μ I W':=
 h.step k (ak.refl _) (fun b o hb=>k.get (h.gj b o hb) dt) (fun b o hb=>.inl hb) (fun b hb=>by cases hb) (fun _=>False) (fun i x hi _=>⟨hi,fun _ _ h=>by cases h⟩) (fun _ _ _ n=>n.elim) (fun _ _ _ _ _ _ n=>n.elim)
theorem az.drew(h:az w μ I W):az w μ I W.drew:=h.bw ⟨rfl,rfl,rfl,dk _,fun _ _ _=>rfl⟩
theorem az.ren{κ:Type}{J:κ->Option ag}(h:az w μ I W)(g:κ->ι)(hg:∀k x,J k=some x->I (g k)=some x)(afc:∀k l x y,J k=some x->J l=some y->g k=g l->k=l):az w μ J W:=
 ⟨h.kept,h.gj,fun i x hi=>h.ok _ x (hg i x hi),fun i x hi=>h.nd _ x (hg i x hi),fun i x hi=>h.new _ x (hg i x hi),fun i j x y hi hj hij=>h.dj _ _ x y (hg i x hi) (hg j y hj) fun e=>hij (afc i j x y hi hj e)⟩
variable[DecidableEq ι]
def put(I:ι->Option ag)(k:ι)(x:Option ag):ι->Option ag:=fun i=>if i=k then x else I i
theorem af(I:ι->Option ag)(k:ι)(x:Option ag):put I k x k=x:=ee rfl
theorem ae(I:ι->Option ag){k i:ι}(x:Option ag)(h:i≠k):put I k x i=I i:=eg h
theorem oB{I:ι->Option ag}{k i:ι}(h:put I k x i=some y):(i=k/\x=some y)\/(i≠k/\I i=some y):=by
 unfold put at h;grind
theorem az.drop(h:az w μ I W)(k:ι):az w μ (put I k none) W:=
 h.ren id (fun i x hi=>(oB hi).elim (fun h=>by cases h.2) fun h=>h.2) (fun _ _ _ _ _ _ e=>e)
theorem az.Pz(h:az w μ I W)(k:ar D W W')(hm:ak μ μ')(KW:ak μ' (hf W'))(hnew:∀b o,μ' b=some o->μ b=some o\/b∈D\/W.heap.size<=b)(hD:∀b∈D,w.heap.size<=b){n:ι}
  (hd:∀i x,I i=some x->i≠n->∀b∈x.F,b∉D) (hb:B1 μ' (hf W') y.F [y.p] y.a y.p) (hn:y.F.Nodup) (hF:∀b∈y.F,b∈D\/W.heap.size<=b):az w μ' (put I n (some y)) W':=
 h.step k hm KW hnew hD (fun i=>i=n) (fun i x hi ne=>by
   grind [oB]) (fun i x hi e=>by
   simp_all [af]) (fun i j x y hi hj e e' ne=>absurd (e.trans e'.symm) ne)
abbrev bG(b:Nat)(F:List Nat)(ty:Nat)(cs:List AV):ag:=⟨.pointer (some ⟨b,0,none⟩),F,.ob ty cs⟩
theorem acA{hp:HF}(h:B1 μ hp F G (.ob ty cs) (.pointer (some ⟨b,0,none⟩))):∃(F':List Nat) (cur:Array Value),F=b::F'/\hp b=some (.cells cur ty (0,0))/\μ b=none/\nB μ hp F' cs cur.toList:=by
 cases h with
 |c h=>cases h with|d h=>cases h
 |ob h1 h2 h3=>grind
theorem az.ob(h:az w μ I W){i:ι}{b ty:Nat}{F:List Nat}{cs:List AV}(hi:I i=some (bG b F ty cs)):∃(F':List Nat) (cur:Array Value),F=b::F'/\W.heap[b]?=some (.cells cur ty (0,0))/\μ b=none/\nB μ (hf W) F' cs cur.toList:=acA (h.ok i _ hi)
theorem az.frozen(h:az w μ I W){i:ι}(hi:I i=some (bG b F ty cs))(j:Nat):W.frozen? ⟨b,j,none⟩=false:=by
 obtain⟨_,cur,_,h2,_⟩:=h.ob hi;exact Py h2 j
theorem az.at(h:az w μ I W){i:ι}{b ty:Nat}{F:List Nat}{cs:List AV}(hi:I i=some (bG b F ty cs)){j:Nat}{a:AV}(hj:cs[j]?=some a):∃(F':List Nat) (v:Value),W.cell? ⟨b,j,none⟩=some v/\B0 μ (hf W) F' a v:=by
 obtain⟨_,cur,_,h2,_,h4⟩:=h.ob hi;obtain⟨F',v,g1,g2⟩:=h4.at j a hj;grind [cell_of]
theorem aap{hp:HF}{x:Value}(h:B0 μ hp F (.v x) v):v=x/\F=[]:=by
 cases h with|d h=>cases h;exact⟨rfl,rfl⟩
theorem SH{hp:HF}(h:B0 μ hp F (.aq n sz xs) v):DR μ (.aq n sz xs) v/\F=[]:=by
 cases h with|d h=>exact⟨h,rfl⟩
theorem az.cell(h:az w μ I W){i:ι}(hi:I i=some (bG b F ty cs)){x:Value}(hj:cs[j]?=some (.v x)):W.cell? ⟨b,j,none⟩=some x:=by
 obtain⟨_,v,h1,h2⟩:=h.at hi hj;grind [aap]
theorem az.YJ(h:az w μ I W){i:ι}(hi:I i=some (bG b F ty cs))(hj:cs[j]?=some (.aq n sz xs)):∃v,W.cell? ⟨b,j,none⟩=some v/\DR μ (.aq n sz xs) v:=by
 obtain⟨_,v,h1,h2⟩:=h.at hi hj;exact⟨v,h1,(SH h2).1⟩
theorem Wm{hp:HF}{Fa:List Nat}(h:nB μ hp F cs vs)(ha:B0 μ hp Fa a v):∀j,∃F',nB μ hp F' (cs.set j a) (vs.set j v)/\(∀b∈F',b∈F\/b∈Fa)/\(F.Nodup->Fa.Nodup->(∀b∈Fa,b∉F)->F'.Nodup):=by
 induction h with
 |nil=>exact fun j=>⟨[],.nil,fun b hb=>.inl hb,fun h _ _=>h⟩
 | @cons F1 F2 a0 cs0 v0 vs0 h k ih=>
  intro j;cases j with
  |zero=>
   refine⟨Fa++F2,.cons ha k,fun b hb=>(gw.1 hb).elim .inr fun h=>.inl (Hn _ h),fun h1 h2 h3=>?_⟩;grind
  |succ j=>
   obtain⟨F',g1,g2,g3⟩:=ih j;refine⟨F1++F',.cons h g1,fun b hb=>?_,fun h1 h2 h3=>?_⟩
   all_goals grind
theorem az.mod(h:az w μ I W){n:ι}{x:ag}(hx:I n=some x)(k:ar x.F W W')(hm:ak μ μ')(KW:ak μ' (hf W'))(hnew:∀b o,μ' b=some o->μ b=some o\/b∈x.F\/W.heap.size<=b)
  (hb:B1 μ' (hf W') y.F [y.p] y.a y.p) (hn:y.F.Nodup) (hF:∀b∈y.F,b∈x.F\/W.heap.size<=b):az w μ' (put I n (some y)) W':=
 h.Pz k hm KW hnew (h.new n x hx) (fun i z hi ne b hb=>h.dj i n z x hi hx ne b hb) hb hn hF
theorem az.set(h:az w μ I W){i:ι}{b ty:Nat}{F:List Nat}{cs:List AV}(hi:I i=some (bG b F ty cs))(j:Nat){a:AV}{v:Value}(ha:DR μ a v):
  ∃F',(∀x∈F',x∈F)/\az w μ (put I i (some (bG b F' ty (cs.set j a)))) (W.setCell ⟨b,j,none⟩ v):=by
 obtain⟨F0,cur,rfl,h2,h3,h4⟩:=h.ob hi;obtain⟨k,hb⟩:=ar.set (j:=j) (v:=v) h2;have hnd:=h.nd i _ hi;simp only[As]at hnd;obtain⟨F',g1,g2,g3⟩:=Wm h4 (B0.d (hp:=hf W) ha) j;have YK:∀x∈F',x∈F0:=fun x hx=>(g2 x hx).resolve_right dt;have oT:ak μ (hf (W.setCell ⟨b,j,none⟩ v)):=fun x o hx=>by
  have hne:x≠b:=fun e=>by grind
  exact k.get (h.gj x o hx) (by simpa using hne)
 have hB:B1 μ (hf (W.setCell ⟨b,j,none⟩ v)) (b::F') [.pointer (some ⟨b,0,none⟩)] (.ob ty (cs.set j a)) (.pointer (some ⟨b,0,none⟩)):=by
  refine .ob hb h3 ?_;rw[Iv];refine g1.heap fun x hx=>k.keep x (h.own hi x (nm _ (YK x hx))).2 fun hm=>?_;grind
 have hn':(b::F').Nodup:=As.2 ⟨fun hm=>hnd.1 (YK b hm),g3 hnd.2 sq (fun _ hb=>by cases hb)⟩;have hsub:∀x∈b::F',x∈b::F0:=fun x hx=>by
  grind
 exact⟨b::F',hsub,h.mod (y:=bG b (b::F') ty (cs.set j a)) hi (k.mono fun x hx=>by grind) (ak.refl _) oT (fun b o hb=>.inl hb) hB hn' fun x hx=>.inl (hsub x hx)⟩
theorem az.alloc(h:az w μ I W)(i:ι){cs:List AV}{cur:Array Value}{ty:Nat}(hc:nB μ (hf W) [] cs cur.toList):az w μ (put I i (some (bG W.heap.size [W.heap.size] ty cs))) (W.alloc (.cells cur ty (0,0))):=by
 have k:ar [] W (W.alloc (.cells cur ty (0,0))):=ar.alloc W _;have hn:μ W.heap.size=none:=by
  cases e:μ W.heap.size with
  |none=>rfl
  |some o=>have:=(gd.1 (h.gj _ _ e)).1;omega
 refine h.Pz k (ak.refl _) (fun b o hb=>k.get (h.gj b o hb) dt) (fun b o hb=>.inl hb) (fun b hb=>by cases hb) (fun _ _ _ _ _ _ hb=>by cases hb) ?_ (by simp) fun b hb=>.inr (by simp at hb;omega);exact .ob (F:=[]) (Ev.aZ W _) hn (hc.heap fun b hb=>by cases hb)
theorem fE{μ:Mu}{hp:HF}:∀vs:List Value,(∀v∈vs,oN (.v v)=true)->nB μ hp [] (vs.map AV.v) vs
 |[],_=>.nil
 |v::vs,h=>.cons (F:=[]) (F':=[]) (.d (.v (h v (by simp)))) (fE vs fun x hx=>h x (nm _ hx))
theorem az.Wn(h:az w μ I W)(hb:B0 μ (hf W) F (.ow n T sz xs) v)(hd:∀i x,I i=some x->∀b∈F,b∉x.F)(hn:∀b∈F,w.heap.size<=b):
  ∃μ',ak μ μ'/\az w μ' I W/\DR μ' (.aq n sz xs) v/\∀b o,μ' b=some o->μ b=some o\/b∈F:=by
 cases hb with
 |d h=>cases h
 |own=>grind [ak.refl,gM]
 | @ow B cap _ _ _ cr hB hmB hcB hsB hrB=>
  obtain⟨fz,hcell,_⟩:=hB
  let μ':Mu:=fun x=>if x=B then some (.cells cr T fz)else μ x
  have hle:ak μ μ':=fun x o hx=>by
   grind
  have hnew:∀b o,μ' b=some o->μ b=some o\/b∈[B]:=fun x o hx=>by
   grind
  refine⟨μ',hle,?_,SF hle (ee rfl) hcB hrB,hnew⟩;refine h.step (D:=[B]) ((ar.refl [] W).mono fun x hx=>by cases hx) hle (fun x o hx=>?_) (fun b o hx=>(hnew b o hx).imp id .inl) hn (fun _=>False) (fun n x hx _=>⟨hx,fun b hb hm=>hd n x hx b hm hb⟩) (fun _ _ _ n=>n.elim) (fun _ _ _ _ _ _ n=>n.elim);have hx:(if x=B then some (.cells cr T fz)else μ x)=some o:=hx;by_cases e:x=B
  ·grind
  ·rw[eg e]at hx;exact h.gj x o hx
theorem az.SI(h:az w μ I W)(i:ι)(hb:B1 μ (hf W) y.F [y.p] y.a y.p)(hn:y.F.Nodup)(hd:∀j x,I j=some x->j≠i->∀b∈x.F,b∉y.F)(hw:∀b∈y.F,w.heap.size<=b):az w μ (put I i (some y)) W:=
 h.Pz (D:=y.F) ((ar.refl [] W).mono fun x hx=>by cases hx) (ak.refl _) h.gj (fun b o hb=>.inl hb) hw hd hb hn fun b hb=>.inl hb
end
section
variable{ι:Type}[DecidableEq ι]
def SJ(I:ι->Option ag):List ι->List ag->ι->Option ag
 |k::ks,x::xs=>put (SJ I ks xs) k (some x)
 |_,_=>I
theorem oC{I:ι->Option ag}{i:ι}{y:ag}:∀{ks:List ι} {xs:List ag},SJ I ks xs i=some y->ks.length=xs.length->(∃n:Nat,ks[n]?=some i/\xs[n]?=some y)\/(i∉ks/\I i=some y)
 |[],[],h,_=>.inr ⟨dt,h⟩
 |[],_::_,_,e=>by cases e
 |_::_,[],_,e=>by cases e
 |k::ks,x::xs,h,e=>by
  rcases oB h with⟨h1,h2⟩|⟨h1,h2⟩
  ·exact .inl ⟨0,by rw[h1];rfl,h2⟩
  ·rcases oC h2 (by simpa using e)with⟨n,g1,g2⟩|⟨g1,g2⟩
   ·exact .inl ⟨n+1,g1,g2⟩
   ·exact .inr ⟨fun hm=>(ft.1 hm).elim h1 g1,g2⟩
def gets(I:ι->Option ag)(ks:List ι)(xs:List ag):Prop:=List.map I ks=List.map some xs
theorem SK{I:ι->Option ag}{ks:List ι}{xs:List ag}(h:gets I ks xs):ks.length=xs.length:=by
 have:=rj List.length h;simpa using this
theorem Wo{I:ι->Option ag}{ks:List ι}{xs:List ag}(h:gets I ks xs){n:Nat}{k:ι}(hk:ks[n]?=some k):∃x,xs[n]?=some x/\I k=some x:=by
 have h1:(List.map I ks)[n]?=(List.map some xs)[n]?:=by rw[h]
 grind
theorem zK{xs:List ag}(h:b∈foot xs):∃(n:Nat) (x:ag),xs[n]?=some x/\b∈x.F:=by
 obtain⟨x,hx,hb⟩:=vh.1 h;grind [List.mem_iff_getElem?]
theorem ND:∀{xs:List ag},(∀x∈xs,x.F.Nodup)->(∀(n m:Nat) (x y:ag),xs[n]?=some x->xs[m]?=some y->n≠m->∀b∈x.F,b∉y.F)->(foot xs).Nodup
 |[],_,_=>sq
 |x::xs,h,hd=>by
  rw[su];refine rk.2 ⟨h x (by simp),ND (fun y hy=>h y (nm _ hy)) fun n m a b ha hb ne=>hd (n+1) (m+1) a b ha hb (by omega),fun a ha b hb e=>?_⟩;subst e;obtain⟨m,y,hy,hb⟩:=zK hb;exact hd 0 (m+1) x y rfl hy (by omega) a ha hb
theorem Ji:∀{xs:List ag},(foot xs).Nodup->∀(n m:Nat) (x y:ag),xs[n]?=some x->xs[m]?=some y->n≠m->∀b∈x.F,b∉y.F
 |[],_,n,m,x,y,hx,_,_,_,_,_=>by simp at hx
 |z::xs,h,n,m,x,y,hx,hy,ne,b,hb,hc=>by
  rw[su]at h;obtain⟨_,h2,h3⟩:=rk.1 h;cases n with
  |zero=>
   cases m with
   |zero=>exact ne rfl
   |succ m=>cases hx;exact h3 b hb b (vh.2 ⟨y,dp hy,hc⟩) rfl
  |succ n=>
   cases m with
   |zero=>cases hy;exact h3 b hc b (vh.2 ⟨x,dp hx,hb⟩) rfl
   |succ m=>exact Ji h2 n m x y hx hy (by omega) b hb hc
theorem BO{α:Type}:∀{l:List α},l.Nodup->∀{n m:Nat} {a:α},l[n]?=some a->l[m]?=some a->n=m
 |[],_,n,m,a,h,_=>by simp at h
 |x::l,h,n,m,a,h1,h2=>by
  obtain⟨g1,g2⟩:=As.1 h;cases n with
  |zero=>
   cases m with
   |zero=>rfl
   |succ m=>cases h1;exact absurd (dp (l:=l) h2) g1
  |succ n=>
   cases m with
   |zero=>cases h2;exact absurd (dp (l:=l) h1) g1
   |succ m=>rw[BO g2 (n:=n) (m:=m) h1 h2]
variable{P:Program}{C:gD}{w W:World}{μ:Mu}{I:ι->Option ag}
theorem az.call(h:az w μ I W)(dw:P.follows .mixedOrders=true)(hx:nX P C)(ks:List ι)(hks:ks.Nodup){xs:List ag}(hg:gets I ks xs){ro:List AV}{vals:List Value}
  (hev:wq P C f bs=some (ra++ro)) (hfn:P.funcs[f]?=some fn) (hsz:fn.resultTypes.size=ra.length) (hB:ju μ (hf W) (foot xs) (xs.map ag.p) bs vals) (hro:∀a∈ro,∃ty cs,a=.ob ty cs):
  Calls P f vals.toArray W fun e w'=> ∃(vs:List Value) (μ':Mu) (F1:List Nat) (G1:List Value) (xs':List ag),e=.returned (nV vs)/\ju μ' (hf w') F1 G1 ra vs/\ak μ μ'/\xs'.map ag.p=xs.map ag.p/\xs'.map ag.a=ro/\az w μ' (SJ I ks xs') w'/\
   F1.Nodup/\(∀b∈F1,(b∈foot xs\/W.heap.size<=b)/\w.heap.size<=b/\∀i x,SJ I ks xs' i=some x->b∉x.F)/\ar (foot xs) W w':=by
 have hlen:=SK hg;have hat:∀(n:Nat) (x:ag),xs[n]?=some x->∃k,ks[n]?=some k/\I k=some x:=fun n x hn=>by
  have hlt:n<ks.length:=by grind
  obtain⟨y,h1,h2⟩:=Wo hg (ao hlt);grind
 have afd:∀(n m:Nat) (x y:ag),xs[n]?=some x->xs[m]?=some y->n≠m->∀b∈x.F,b∉y.F:=fun n m x y hx hy ne=>by
  obtain⟨k,k1,k2⟩:=hat n x hx;obtain⟨l,l1,l2⟩:=hat m y hy;exact h.dj k l x y k2 l2 fun e=>ne (BO hks k1 (e▸l1))
 have nd1:(foot xs).Nodup:=ND (fun x hx=>by
  obtain⟨n,hn⟩:=List.mem_iff_getElem?.1 hx;obtain⟨k,_,hk⟩:=hat n x hn;exact h.nd k x hk) afd
 refine(xm dw hx hev hfn h.gj hB nd1 (vL.nil μ W) (fun b _ hb=>by cases hb)).mono fun e w' he=>?_;obtain⟨ra',Lf,vs,μ',F1,F2,G1,RR,hra,he,hk,yT,hi,hb1,hb2,afe,hnew,_,_,hmn⟩:=he;obtain⟨e1,e2⟩:=List.append_inj RR (by omega);subst e1 e2;obtain⟨xs',q1,q2,q3,q5,q4⟩:=NC hb2 hro;obtain⟨nF1,nF2,nF3⟩:=rk.1 afe;have qO:ks.length=xs'.length:=by
  have:=rj List.length q1;grind
 have hW:∀b∈foot xs,w.heap.size<=b:=fun b hb=>by
  obtain⟨n,x,hn,hb⟩:=zK hb;obtain⟨k,_,hk⟩:=hat n x hn;exact h.new k x hk b hb
 have agY:=h.kept.size;have agL:=Ji (xs:=xs') (q3▸nF2);have hK:az w μ' (SJ I ks xs') w':=by
  refine h.step hk yT hi hmn hW (fun i=>i∈ks) (fun i x hi n=>?_) (fun i x hi n=>?_) fun i j x y hi hj n n' ne=>?_
  ·rcases oC hi qO with⟨m,g1,_⟩|⟨_,g⟩
   ·grind
   ·refine⟨g,fun b hb hm=>?_⟩;obtain⟨m,y,hm,hy⟩:=zK hm;obtain⟨k,hk1,hk⟩:=hat m y hm;exact h.dj i k x y g hk (fun e=>n (e▸dp hk1)) b hb hy
  ·rcases oC hi qO with⟨m,g1,g2⟩|⟨g,_⟩
   ·have hmem:=dp g2;have hsub:∀b∈x.F,b∈F2:=fun b hb=>q3▸vh.2 ⟨x,hmem,hb⟩;refine⟨q4 x hmem,?_,fun b hb=>hnew b (Hn _ (hsub b hb))⟩;have h2:=q3▸nF2;obtain⟨l1,l2,e⟩:=List.append_of_mem hmem;grind [SB,su,List.nodup_append]
   ·exact absurd n g
  grind [oC,Option.some.inj]
 refine⟨vs,μ',F1,G1,xs',he,hb1,yT,q1,q2,hK,nF1,fun b hb=>⟨hnew b (DO _ hb),?_,fun i x hi hm=>?_⟩,hk⟩
 ·rcases hnew b (DO _ hb)with g|g
  ·exact hW b g
  ·omega
 ·rcases oC hi qO with⟨m,g1,g2⟩|⟨g,gi⟩
  ·exact nF3 b hb b (q3▸vh.2 ⟨x,dp g2,hm⟩) rfl
  ·rcases hnew b (DO _ hb)with g'|g'
   ·obtain⟨m,y,hm',hy⟩:=zK g';obtain⟨k,hk1,hk⟩:=hat m y hm';exact h.dj i k x y gi hk (fun e=>g (e▸dp hk1)) b hm hy
   ·have:=(h.own gi b hm).2;omega
theorem az.Ab(h:az w μ I W)(dw:P.follows .mixedOrders=true)(hx:nX P C){rs:List AV}(hev:wq P C f bs=some rs)(hfn:P.funcs[f]?=some fn){vals:List Value}
  (hB:ju (hf W) (hf W) [] [] bs vals):Calls P f vals.toArray W fun e w'=> ∃(vs:List Value) (μ':Mu) (F1:List Nat) (G1:List Value),e=.returned (nV vs)/\az w μ I w'/\ar [] W w'/\ak μ' (hf w')/\ju μ' (hf w') F1 G1 rs vs/\∀b∈F1,W.heap.size<=b:=
 (Lw dw hx hev hfn hB).mono fun e w' he=>by
  obtain⟨vs,μ',F1,G1,rfl,hk,hi,hb,hn⟩:=he;exact⟨vs,μ',F1,G1,rfl,h.bw hk,hk,hi,hb,hn⟩
end
end
section
section
variable{P:Program}
open Go.Shelf Go.Lib Go.RowKit
theorem SL{FC:Nat}{ob:Bool}{z:Value}{I:TypeInfo}(ht:P.underlying t=some (.slice FC))(hI:P.info? FC=some I)(hz:I.zero=some z)(hs:I.size=sz)(hb1:0<I.bytes)(hb2:I.bytes<=1000)(hzs:z.cells.size=sz)
  {W:World}  {l E:Nat} {els:Array Value} (hl:l<=100000) (hA:(A=none/\l=0/\c=0)\/ ∃b,A=some ⟨b,0,none⟩/\l<=c/\W.heap[b]?=some (.cells cur FC fz)/\sJ ob cur.size fz/\cur.size=c*sz)
  (hE:W.heap[E]?=some (.cells els FC (0,0))) (hEs:els.size=sz) (hone:∀v∈els.toList,v.oneCell'=true):
  ∃(b c':Nat) (W2:World) (cur':Array Value) (MY:Nat×Nat),(∀ty,(Builtin.append_ #[t,t] ty #[.slice A l c,.slice (some ⟨E,0,none⟩) 1 1]).run P W=.ok (.slice (some ⟨b,0,none⟩) (l+1) c') W2)/\ar [b] W W2/\W2.heap[b]?=some (.cells cur' FC MY)/\sJ ob cur'.size MY/\
   cur'.size=c'*sz/\l+1<=c'/\(A=some ⟨b,0,none⟩\/W.heap.size<=b)/\(∀j,j<l*sz->cur'[j]?=cur[j]?)/\∀j,j<sz->cur'[l*sz+j]?=els[j]?:=by
 have hlen:∀w:World,(Builtin.lenOf (.slice (some ⟨E,0,none⟩) 1 1)).run P w=.ok 1 w:=fun _=>rfl;have lI:∀W':World,W'.heap=W.heap->(Builtin.firstCells I.size 1 (.slice (some ⟨E,0,none⟩) 1 1)).run P W'=.ok els.toList.toArray W':=fun W' hW'=>by
  refine AI _ I.size 1 ⟨E,0,none⟩ 1 1 els.toList (by grind) fun j v hj=>?_;rw[vp,gv];simp only[World.cell?,hW',hE];simpa using hj
 by_cases hroom:l+1<=c
 ·rcases hA with⟨_,_,hc⟩|⟨b,rfl,hlc,AL,hfz,hcs⟩
  ·omega
  ·have hm:(l+1)*sz<=c*sz:=fi _ hroom;rw[SO]at hm;have hst:=cE P b (l*sz) FC ob fz els.toList 0 cur W AL hfz (by grind) hone;obtain⟨cur',SM⟩:∃cur',(cur.toList.take (l*sz+0)++els.toList++cur.toList.drop (l*sz+0+els.toList.length)).toArray=cur':=⟨_,rfl⟩;rw[SM]at hst;have acC:(cur.toList.take (l*sz+0)).length=l*sz:=by grind
   have hsz:cur'.size=cur.size:=by
    grind
   refine⟨b,c,W.setRow b cur',cur',fz,fun ty=>?_,⟨rfl,rfl,rfl,by simp_all,fun x hx hn=>setRow_other _ _ _ _ (by simpa using hn)⟩,GB _ _ _ _ _ _ AL,by rw[hsz];exact hfz,by rw[hsz,hcs],hroom,.inl rfl,fun j hj=>?_,fun j hj=>?_⟩
   ·refine fo ht ht rfl hI hlen (by rw[lI W rfl]) hroom ?_;simp_all [vp,gv]
   all_goals grind
 ·have hold:∃olds:List Value,olds.length=l*sz/\(∀j,j<l*sz->olds[j]?=cur[j]?)/\(Builtin.firstCells I.size l (.slice A l c)).run P W.drew=.ok olds.toArray W.drew:=by
   rcases hA with⟨rfl,rfl,rfl⟩|⟨b,rfl,hlc,AL,hfz,hcs⟩
   ·exact⟨[],by simp,fun j hj=>by omega,rfl⟩
   ·have hm:l*sz<=c*sz:=fi _ hlc;refine⟨cur.toList.take (l*sz),by grind,fun j hj=>by grind,?_⟩;refine AI _ I.size l ⟨b,0,none⟩ l c (cur.toList.take (l*sz)) (by grind) fun j v hj=>?_;rw[vp,gv];rw[oa]at hj;split at hj
    ·show W.cell? _=_;simp only[World.cell?,AL];simpa using hj
    ·cases hj
  obtain⟨olds,ES,Gw,NF⟩:=hold;have hm:(l+1)*I.bytes<=100001*1000:=Nat.mul_le_mul (by omega) hb2;have hrun:=fun ty=>iZ (P:=P) (ty:=ty) ht ht rfl hI hz hb1 (base:=A) (sLen:=l) (sCap:=c) (olds:=olds) (news:=els.toList) hlen (lI W.drew rfl) NF (by omega) (by omega);have hge:l+1<=grownCap W (l+1) c FC:=ON _ _ _ _;obtain⟨G,hG⟩:∃G,grownCap W (l+1) c FC=G:=⟨_,rfl⟩;rw[hG]at hrun hge;obtain⟨R,hR⟩:∃R,(olds++els.toList++(Builtin.zeroCells z.cells (G-(l+1))).toList).toArray=R:=⟨_,rfl⟩;rw[hR]at hrun;have hRs:R.size=G*sz:=by
   rw[<-hR];rw[B9,ec,ec,ES,qs,qs,NO,hEs,hzs,<-SO,<-sh,show l.succ+(G-(l+1))=G by omega]
  refine⟨W.heap.size,G,_,R,(0,0),hrun,⟨rfl,rfl,rfl,?_,fun b hb _=>Ev.alloc_old W.drew _ b hb⟩,Ev.aZ W.drew _,.inl rfl,hRs,hge,.inr (dk _),fun j hj=>?_,fun j hj=>?_⟩
  ·simp_all
  all_goals grind
end
section
variable{ι:Type}{w W W':World}{μ μ':Mu}{I J:ι->Option ag}
theorem Lx(h:B0 μ (hf W) F (.ow n T sz xs) v):∃(A:Option Addr) (c:Nat),v=.slice A xs.length c/\n=A.isNone/\(A=none->xs=[]/\c=0/\F=[])/\xs.length<=c/\
  ∀a,A=some a->∃(vb:Nat) (cur:Array Value) (fz:Nat×Nat),a=⟨vb,0,none⟩/\F=[vb]/\W.heap[vb]?=some (.cells cur T fz)/\sJ (uq false sz) cur.size fz/\cur.size=c*sz/\bJ μ sz xs cur:=by
 cases h with
 |d h=>cases h
 |own=>exact⟨none,0,rfl,rfl,fun _=>⟨rfl,rfl,rfl⟩,dk _,fun a h=>(by cases h)⟩
 | @ow b cap _ _ _ cur hb hm hc hs hr=>
  obtain⟨fz,h1,h2⟩:=hb;exact⟨some ⟨b,0,none⟩,cap,rfl,rfl,fun h=>(by cases h),hc,fun a h=>by cases h;exact⟨b,cur,fz,rfl,rfl,h1,h2,hs.symm,hr⟩⟩
variable[DecidableEq ι]
theorem az.rowAt(h:az w μ I W){i:ι}(hi:I i=some (bG b F ty cs))(hj:cs[j]?=some (.ow n T sz xs)):
  ∃(A:Option Addr) (c:Nat),W.cell? ⟨b,j,none⟩=some (.slice A xs.length c)/\n=A.isNone/\(A=none->xs=[]/\c=0)/\xs.length<=c/\
   ∀a,A=some a->∃vb,a=⟨vb,0,none⟩/\∀(k jj:Nat) (e:List AV) (u:AV),xs[k]?=some e->e[jj]?=some u->∃x,W.cell? ⟨vb,k*sz+jj,none⟩=some x/\DR μ u x:=by
 obtain⟨F',v,h1,h2⟩:=h.at hi hj;obtain⟨A,c,rfl,g1,g2,g3,g4⟩:=Lx h2;refine⟨A,c,h1,g1,fun e=>⟨(g2 e).1,(g2 e).2.1⟩,g3,fun a ha=>?_⟩;obtain⟨vb,cur,fz,rfl,_,k1,_,_,k2⟩:=g4 a ha;refine⟨vb,rfl,fun k jj e u he hu=>?_⟩;obtain⟨x,x1,x2⟩:=k2.2 k e jj u he hu;exact⟨x,cell_of k1 x1,x2⟩
theorem Jj{es:List AV}{cur' els:Array Value}(h:bJ μ sz xs cur)(hes:es.length=sz)(hd:∀(jj:Nat) (u:AV) (x:Value),es[jj]?=some u->els[jj]?=some x->DR μ u x)(hs:els.size=sz)
  (h1:∀j,j<xs.length*sz->cur'[j]?=cur[j]?) (h2:∀j,j<sz->cur'[xs.length*sz+j]?=els[j]?):bJ μ sz (xs++[es]) cur':=by
 refine⟨fun e he=>?_,fun i e j c he hc=>?_⟩
 ·rcases gw.1 he with he|he
  ·exact h.1 e he
  grind
 ·rcases pS he with he|⟨rfl,rfl⟩
  ·obtain⟨u,g1,g2⟩:=h.2 i e j c he hc;have hi:=(eR.1 he).1;have hj:=(eR.1 hc).1;rw[h.1 e (dp he)]at hj;have:(i+1)*sz<=xs.length*sz:=fi _ hi;grind
  grind
end
end
section
theorem info_parts{P:Program}{z:Value}{s:Nat}(h:(P.info? t).map (fun i=>(i.zero,i.size,i.bytes))=some (some z,s,b)):∃I:TypeInfo,P.info? t=some I/\I.zero=some z/\I.size=s/\I.bytes=b:=by
 simp_all
theorem oD{w w':World}(h:w'.heap[b]?=w.heap[b]?)(j:Nat):w'.cell? ⟨b,j,none⟩=w.cell? ⟨b,j,none⟩:=by
 simp only[World.cell?,h]
theorem bp{W:World}{o:Obj}(h:W.cell? ⟨b,j,none⟩=some v):(W.alloc o).cell? ⟨b,j,none⟩=some v:=by
 have hb:b<W.heap.size:=by
  unfold World.cell? at h;grind
 grind [oD,Ev.alloc_old]
theorem kI(w:World)(b j:Nat)(v:Value)(x:Nat)(h:x≠b):(w.setCell ⟨b,j,none⟩ v).heap[x]?=w.heap[x]?:=by
 unfold World.setCell;grind
section
variable{μ:Mu}{hp:HF}
theorem YL(h:B2 μ hp F G (.ow n T sz xs) v):B0 μ hp F (.ow n T sz xs) v:=by
 cases h with|o h=>cases h with|c h=>exact h
theorem acD(h:B2 μ hp F G (.ob ty cs) v):∃b,v=.pointer (some ⟨b,0,none⟩)/\G=[.pointer (some ⟨b,0,none⟩)]/\B1 μ hp F [.pointer (some ⟨b,0,none⟩)] (.ob ty cs) (.pointer (some ⟨b,0,none⟩)):=by
 cases h with
 |o h=>cases h with
  |c h=>cases h with|d h=>cases h
  |ob h1 h2 h3=>exact⟨_,rfl,rfl,.ob h1 h2 h3⟩
theorem eZ(h:DR μ (.aq n sz xs) v):∃(A:Option Addr) (c:Nat),v=.slice A xs.length c/\n=A.isNone:=by
 cases h with|aq vals h1=>exact⟨_,_,rfl,h1⟩
theorem jq{x:Value}(h:DR μ (.v x) v):v=x:=by cases h;rfl
def isD:AV->Bool
 | .v x=>oN (.v x)
 | .aq _ _ _=>true
 |_=>false
theorem aaq(h:B0 μ hp F a v)(hd:isD a=true):DR μ a v/\F=[]:=by
 cases h with
 |d h=>exact⟨h,rfl⟩
 |ow=>cases hd
 |own=>cases hd
theorem aar(h:B1 μ hp F G a v)(hd:isD a=true):DR μ a v/\F=[]/\G=[]:=by
 cases h with
 |c h=>grind [aaq]
 |ob=>cases hd
 |row=>cases hd
theorem Wp(h:pq μ hp F G cs vs):cs.all isD=true->F=[]/\G=[]/\vs.length=cs.length/\∀(j:Nat) (a:AV) (v:Value),cs[j]?=some a->vs[j]?=some v->DR μ a v:=by
 induction h with
 |nil=>grind
 |cons h _ ih=>
  intro hd;rw[Ix,dd]at hd;obtain⟨g1,rfl,rfl⟩:=aar h hd.1;grind
theorem Wq(h:B2 μ hp F G (.agg cs) v)(hd:cs.all isD=true):∃vs:List Value,v=.agg vs.toArray/\F=[]/\vs.length=cs.length/\∀(j:Nat) (a:AV) (x:Value),cs[j]?=some a->vs[j]?=some x->DR μ a x:=by
 cases h with
 |o h=>cases h with|c h=>cases h with|d h=>cases h
 |agg h=>
  grind [Wp]
theorem NG:∀{cs:List AV} {vs:List Value},vs.length=cs.length->(∀(j:Nat) (a:AV) (v:Value),cs[j]?=some a->vs[j]?=some v->DR μ a v)->pq μ hp [] [] cs vs
 |[],[],_,_=>.nil
 |[],_::_,h,_=>by simp at h
 |_::_,[],h,_=>by simp at h
 |a::cs,v::vs,h,hd=>.cons (F:=[]) (G:=[]) (.c (.d (hd 0 a v rfl rfl))) (NG (by simpa using h) fun j a v ha hv=>hd (j+1) a v (by simpa using ha) (by simpa using hv))
theorem NH{μ':Mu}(h:B0 μ hp F a v)(hf:BN a=true)(hn:∀b∈F,μ' b=none):B0 μ' hp F a v:=
 (Jh hf h).mono (fun b o h=>by cases h) hn
end
section
variable{ι:Type}{w W W':World}{μ μ':Mu}{I J:ι->Option ag}[DecidableEq ι]
theorem aK(I:ι->Option ag)(k:ι)(x y:Option ag):put (put I k x) k y=put I k y:=by
 funext i
 by_cases e:i=k
 all_goals simp_all [af,ae]
theorem az.Jk(h:az w μ I W)(hb:W.heap.size<=b):μ b=none:=by
 cases e:μ b with
 |none=>rfl
 |some o=>have:=(gd.1 (h.gj _ _ e)).1;omega
theorem az.lt(h:az w μ I W){i:ι}{x:ag}(hi:I i=some x)(hb:b∈x.F):b<W.heap.size:=(h.own hi b hb).2
variable{P:Program}{C:gD}
theorem az.acE(h:az w μ I W)(dw:P.follows .mixedOrders=true)(hx:nX P C)(k':ι){cs:List AV}{xs:List Value}(hev:wq P C f bs=some (.ob ty cs::xs.map AV.v))(Rt:SC (.ob ty cs)=true)(hfn:P.funcs[f]?=some fn){vals:List Value}
  (hB:ju (hf W) (hf W) [] [] bs vals):Calls P f vals.toArray W fun e w'=> ∃(b:Nat) (F:List Nat),e=.returned (nV (.pointer (some ⟨b,0,none⟩)::xs))/\az w μ (put I k' (some (bG b F ty cs))) w'/\ar [] W w'/\∀x∈F,W.heap.size<=x:=by
 refine(xm dw hx hev hfn (fun b o hb=>hb) hB sq (vL.nil _ _) (fun b hb=>by cases hb)).mono fun e w' he=>?_;obtain⟨ra,ro,vs,μ',F1,F2,G1,RR,_,rfl,hk,_,hi,hb,h2,hnd,hnew,_⟩:=he;obtain⟨rfl,rfl⟩:=zJ h2 rfl;rw[ir]at RR hnd hnew;subst RR;have hK:=h.bw hk;have hn:∀b∈F1,W.heap.size<=b:=fun b hb=>(hnew b hb).resolve_left dt;cases hb with
 | @cons Fa Fb Ga Gb _ _ v vs' hb hr=>
 obtain⟨rfl,rfl⟩:=dM (F:=Fb) (G:=Gb) xs hr;obtain⟨b,rfl,rfl,hbo⟩:=acD hb;rw[ir]at hn hnd;have hb0:=SD Rt hbo;have yT:∀x∈Fa,μ x=none:=fun x hx=>h.Jk (hn x hx);have hb1:B1 μ (hf w') Fa [.pointer (some ⟨b,0,none⟩)] (.ob ty cs) (.pointer (some ⟨b,0,none⟩)):=hb0.mono (fun b o h=>by cases h) yT;refine⟨b,Fa,rfl,hK.SI (y:=bG b Fa ty cs) k' hb1 hnd (fun j x hj ne y hy hm=>?_) (fun x hx=>?_),hk,hn⟩
 ·have:=(h.own hj y hy).2;have:=hn y hm;omega
 ·have:=hn x hx;have:=h.kept.size;omega
theorem aC{I:ι->Option ag}{k i:ι}(h:I i=some y)(hne:i≠k):put I k x i=some y:=(ae _ _ hne).trans h
theorem FD{x:ag}(hp:x.p=.pointer (some ⟨b,0,none⟩))(ha:x.a=.ob ty cs):x=bG b x.F ty cs:=by
 cases x;grind
theorem az.SN(h:az w μ I W)(dw:P.follows .mixedOrders=true)(hx:nX P C){k:ι}{ty':Nat}{cs cs':List AV}(hk:I k=some (bG b F ty cs))(hB:ju μ (hf W) [] [] bs vs)
  (hev:wq P C f (.ob ty cs::bs)=some (ra++[.ob ty' cs']))  (hfn:P.funcs[f]?=some fn) (hsz:fn.resultTypes.size=ra.length):
  Calls P f (.pointer (some ⟨b,0,none⟩)::vs).toArray W fun e w'=> ∃(us:List Value) (μ':Mu) (F1:List Nat) (G1:List Value) (F':List Nat),e=.returned (nV us)/\ju μ' (hf w') F1 G1 ra us/\ak μ μ'/\az w μ' (put I k (some (bG b F' ty' cs'))) w'/\F1.Nodup/\
   (∀x∈F1,(x∈F\/W.heap.size<=x)/\w.heap.size<=x/\∀i y,put I k (some (bG b F' ty' cs')) i=some y->x∉y.F)/\ar F W w':=by
 have hB':ju μ (hf W) (foot [bG b F ty cs]) ([bG b F ty cs].map ag.p) (.ob ty cs::bs) (.pointer (some ⟨b,0,none⟩)::vs):=by
  have:=ju.cons (.o (h.ok k _ hk)) hB;simpa [foot]using this
 refine(h.call dw hx [k] (by simp) (xs:=[bG b F ty cs]) (by unfold gets;simp[hk]) hev hfn hsz hB' (fun a ha=>by grind)).mono fun e w' he=>?_;obtain⟨us,μ',F1,G1,xs',rfl,hb,hm,hp,ha,hK,hn,hF,hk'⟩:=he;obtain⟨x,rfl⟩:=qS.1 (show xs'.length=1 by simpa using rj List.length hp);have hx:=FD (B7 hp).1 (B7 ha).1;rw[hx]at hK hF;refine⟨us,μ',F1,G1,x.F,rfl,hb,hm,hK,hn,fun y hy=>?_,hk'.mono fun z hz=>.inl (by simpa [foot]using hz)⟩;obtain⟨q1,q2,q3⟩:=hF y hy;exact⟨q1.imp (fun q=>by simpa [foot]using q) id,q2,q3⟩
theorem az.call2(h:az w μ I W)(dw:P.follows .mixedOrders=true)(hx:nX P C){k l:ι}(hkl:k≠l){ty' tz tz':Nat}{E:List Nat}{cs cs' ds ds':List AV}(hk:I k=some (bG b F ty cs))(hl:I l=some (bG c E tz ds))(hB:ju μ (hf W) [] [] bs vs)
  (hev:wq P C f (.ob ty cs:: .ob tz ds::bs)=some (ra++[.ob ty' cs',.ob tz' ds']))  (hfn:P.funcs[f]?=some fn) (hsz:fn.resultTypes.size=ra.length):
  Calls P f (.pointer (some ⟨b,0,none⟩):: .pointer (some ⟨c,0,none⟩)::vs).toArray W fun e w'=> ∃(us:List Value) (μ':Mu) (F1:List Nat) (G1:List Value) (F' E':List Nat),e=.returned (nV us)/\ju μ' (hf w') F1 G1 ra us/\ak μ μ'/\az w μ' (put (put I l (some (bG c E' tz' ds'))) k (some (bG b F' ty' cs'))) w'/\F1.Nodup/\
   (∀x∈F1,(x∈F\/x∈E\/W.heap.size<=x)/\w.heap.size<=x/\∀i y,put (put I l (some (bG c E' tz' ds'))) k (some (bG b F' ty' cs')) i=some y->x∉y.F)/\ar (F++E) W w':=by
 have hB':ju μ (hf W) (foot [bG b F ty cs,bG c E tz ds]) ([bG b F ty cs,bG c E tz ds].map ag.p) (.ob ty cs:: .ob tz ds::bs) (.pointer (some ⟨b,0,none⟩):: .pointer (some ⟨c,0,none⟩)::vs):=by
  have:=ju.cons (.o (h.ok k _ hk)) (ju.cons (.o (h.ok l _ hl)) hB);simpa [foot]using this
 refine(h.call dw hx [k,l] (by simp[hkl]) (xs:=[bG b F ty cs,bG c E tz ds]) (by unfold gets;simp[hk,hl]) hev hfn hsz hB' (fun a ha=>by grind)).mono fun e w' he=>?_;obtain⟨us,μ',F1,G1,xs',rfl,hb,hm,hp,ha,hK,hn,hF,hk'⟩:=he;have h2:∃x y,xs'=[x,y]:=by
  have hl:xs'.length=2:=by simpa using rj List.length hp
  match xs',hl with
  |[x,y],_=>exact⟨x,y,rfl⟩
 obtain⟨x,y,rfl⟩:=h2;have hx:=FD (B7 hp).1 (B7 ha).1;have hy:=FD (B7 (B7 hp).2).1 (B7 (B7 ha).2).1;rw[hx,hy]at hK hF;refine⟨us,μ',F1,G1,x.F,y.F,rfl,hb,hm,hK,hn,fun z hz=>?_,hk'.mono fun z hz=>.inl (by simpa [foot]using hz)⟩;obtain⟨q1,q2,q3⟩:=hF z hz;refine⟨?_,q2,q3⟩;rcases q1 with q1|q1
 ·have:z∈F\/z∈E:=by simpa [foot]using q1
  exact this.imp id .inl
 ·exact .inr (.inr q1)
theorem az.aas(h:az w μ I W){i:ι}{x:ag}(hi:I i=some x)(hb:B1 μ (hf W) x.F [x.p] a x.p):az w μ (put I i (some ⟨x.p,x.F,a⟩)) W:=
 h.SI (y:=⟨x.p,x.F,a⟩) i hb (h.nd i x hi) (fun j y hj ne b hb hm=>h.dj j i y x hj hi ne b hb hm) (h.new i x hi)
end
end
section
section
variable{P:Program}{ops:Array Oper}{Q:Exit->Act->World->Prop}{md:Region.Mode}
end
end
section
section
open Go.Shelf Go.Lib Go.RowKit
end
end
section
abbrev aE(b c T sz:Nat)(xs:List (List AV)):ag:=⟨.slice (some ⟨b,0,none⟩) xs.length c,[b],.kK [.ow false T sz xs]⟩
section
variable{ι:Type}{w W W':World}{μ μ':Mu}{I J:ι->Option ag}
theorem SP{hp:HF}(h:B1 μ hp F G (.kK [.ow false T sz xs]) v):B0 μ hp F (.ow false T sz xs) v:=by
 cases h with
 |c h=>cases h with|d h=>cases h
 |row h=>exact h
theorem az.row(h:az w μ I W){k:ι}(hk:I k=some (aE b c T sz xs)):∃(cur:Array Value) (fz:Nat×Nat),W.heap[b]?=some (.cells cur T fz)/\sJ (uq false sz) cur.size fz/\cur.size=c*sz/\bJ μ sz xs cur/\xs.length<=c/\μ b=none:=by
 have hb:=SP (h.ok k _ hk);simp only at hb;have hm:=(h.own hk b (by simp)).1;grind [Lx]
theorem az.FE(h:az w μ I W){k:ι}(hk:I k=some (aE b c T sz xs)){u:AV}(he:xs[i]?=some e)(hu:e[j]?=some u):∃x,W.cell? ⟨b,i*sz+j,none⟩=some x/\DR μ u x:=by
 obtain⟨cur,fz,h1,_,_,h4,_⟩:=h.row hk;obtain⟨x,g1,g2⟩:=h4.2 i e j u he hu;exact⟨x,cell_of h1 g1,g2⟩
theorem az.aL(h:az w μ I W){k:ι}(hk:I k=some (aE b c T sz xs)){x:Value}(he:xs[i]?=some e)(hu:e[j]?=some (.v x)):W.cell? ⟨b,i*sz+j,none⟩=some x:=by
 obtain⟨y,h1,h2⟩:=h.FE hk he hu;rw[h1,jq h2]
theorem BP{ob:Bool}{n:Nat}{w:World}(h:sJ ob n fz)(hj:j<n)(hb:w.heap[b]?=some (.cells cur t fz)):w.frozen? ⟨b,j,none⟩=false:=by
 obtain⟨lo,hi⟩:=fz;rcases h with h|⟨_,h⟩
 ·cases h;simp[World.frozen?,hb]
 ·simp only at h;simp[World.frozen?,hb];omega
theorem Ly{n:Nat}(hi:i<n)(hj:j<sz):i*sz+j<n*sz:=by
 have:(i+1)*sz<=n*sz:=fi _ hi;grind
theorem az.dN(h:az w μ I W){k:ι}(hk:I k=some (aE b c T sz xs))(hi:i<xs.length)(hj:j<sz):W.frozen? ⟨b,i*sz+j,none⟩=false:=by
 obtain⟨cur,fz,h1,h2,h3,_,h5,_⟩:=h.row hk;grind [BP,Ly]
theorem pT(w:World)(b j:Nat)(v:Value)(h:w.heap[b]?=some (.cells cur t fz)):(w.setCell ⟨b,j,none⟩ v).heap[b]?=some (.cells (cur.setIfInBounds j v) t fz):=by
 unfold World.setCell;grind
theorem ar.sI{w:World}:ar [b] w (w.setCell ⟨b,j,none⟩ v):=
 ⟨rfl,rfl,rfl,by unfold World.setCell;simp,fun x _ hn=>kI w b j v x (by simpa using hn)⟩
theorem Ws{i' j':Nat}(hj:j<sz)(hj':j'<sz)(h:i*sz+j=i'*sz+j'):i=i'/\j=j':=by
 rcases Nat.lt_trichotomy i i' with g|g|g
 ·have:(i+1)*sz<=i'*sz:=fi _ g;grind
 ·grind
 ·have:(i'+1)*sz<=i*sz:=fi _ g;grind
theorem SQ(h:bJ μ sz xs cur)(he:xs[i]?=some e)(hj:j<sz)(hs:xs.length*sz<=cur.size)(ha:DR μ a v):bJ μ sz (xs.set i (e.set j a)) (cur.setIfInBounds (i*sz+j) v):=by
 have hi:=(eR.1 he).1;have hel:=h.1 e (dp he);have hlt:=Ly hi hj;refine⟨fun x hx=>?_,fun i' e' j' c he' hc=>?_⟩
 ·rcases zp hx with hx|rfl
  ·exact h.1 x hx
  grind
 ·rw[mj]at he';rw[Array.getElem?_setIfInBounds];by_cases ei:i=i'
  ·subst ei;rw[ee rfl,ee hi]at he';cases he';rw[mj]at hc;by_cases ej:j=j'
   ·grind
   ·rw[eg ej]at hc;rw[eg (by omega)];exact h.2 i e j' c he hc
  ·rw[eg ei]at he';have hj':=(eR.1 hc).1;rw[h.1 e' (dp he')]at hj';rw[eg fun q=>ei (Ws hj hj' q).1];exact h.2 i' e' j' c he' hc
variable[DecidableEq ι]
theorem az.oF(h:az w μ I W){k:ι}(hk:I k=some (aE b c T sz xs))(he:xs[i]?=some e)(hj:j<sz)(ha:DR μ a v):az w μ (put I k (some (aE b c T sz (xs.set i (e.set j a))))) (W.setCell ⟨b,i*sz+j,none⟩ v):=by
 obtain⟨cur,fz,h1,h2,h3,h4,h5,h6⟩:=h.row hk;have hb:=pT W b (i*sz+j) v h1;have hm:xs.length*sz<=c*sz:=fi _ h5;have hl:(xs.set i (e.set j a)).length=xs.length:=ff ..;refine h.mod (x:=aE b c T sz xs) (y:=aE b c T sz (xs.set i (e.set j a))) hk ar.sI (ak.refl _) (fun x o hx=>?_) (fun b o hb=>.inl hb) ?_ (by simp) (fun x hx=>.inl hx)
 ·have hne:x≠b:=fun e=>by grind
  exact ar.sI.get (h.gj x o hx) (by simpa using hne)
 ·refine .row (.ow ⟨fz,hb,by grind⟩ h6 (by omega) (by grind) (SQ h4 he hj (by omega) ha)) ?_;intro e;cases e
def Row(I:ι->Option ag)(k:ι)(v:Value)(T sz:Nat)(xs:List (List AV)):Prop:=(v=.slice none 0 0/\xs=[])\/ ∃b c,v=.slice (some ⟨b,0,none⟩) xs.length c/\I k=some (aE b c T sz xs)
theorem Row.ne{I:ι->Option ag}{k:ι}(h:Row I k v T sz xs)(hx:xs≠[]):∃b c,v=.slice (some ⟨b,0,none⟩) xs.length c/\I k=some (aE b c T sz xs):=h.resolve_left fun h=>hx h.2
theorem Row.put{I:ι->Option ag}{k l:ι}(h:Row I k v T sz xs)(hne:k≠l):Row (Go.Ev.put I l x) k v T sz xs:=by
 rcases h with h|⟨b,c,h1,h2⟩
 ·exact .inl h
 ·exact .inr ⟨b,c,h1,aC h2 hne⟩
theorem Row.same{I J:ι->Option ag}{k:ι}(h:Row I k v T sz xs)(hJ:J k=I k):Row J k v T sz xs:=by
 rcases h with h|⟨b,c,h1,h2⟩
 ·exact .inl h
 ·exact .inr ⟨b,c,h1,hJ.trans h2⟩
theorem Row.val{I:ι->Option ag}{k:ι}(h:Row I k v T sz xs):∃A c,v=.slice A xs.length c/\(A=none->xs=[]/\c=0):=by
 rcases h with⟨rfl,rfl⟩|⟨b,c,rfl,_⟩
 ·exact⟨none,0,rfl,fun _=>⟨rfl,rfl⟩⟩
 grind
theorem az.ua{P:Program}(h:az w μ I W){k:ι}{v:Value}{E:Nat}(hr:Row I k v T sz xs){z:Value}{els:Array Value}{es:List AV}(ht:P.underlying t=some (.slice T))(hI:P.info? T=some Inf)(hz:Inf.zero=some z)(hs:Inf.size=sz)(hb1:0<Inf.bytes)(hb2:Inf.bytes<=1000)(hzs:z.cells.size=sz)(hl:xs.length<=100000)
  (hE:W.heap[E]?=some (.cells els T (0,0))) (hEs:els.size=sz) (hone:∀v∈els.toList,v.oneCell'=true) (hes:es.length=sz) (hd:∀(jj:Nat) (u:AV) (x:Value),es[jj]?=some u->els[jj]?=some x->DR μ u x):
  ∃(b' c':Nat) (W2:World),(∀tt,(Builtin.append_ #[t,t] tt #[v,.slice (some ⟨E,0,none⟩) 1 1]).run P W=.ok (.slice (some ⟨b',0,none⟩) (xs.length+1) c') W2)/\az w μ (put I k (some (aE b' c' T sz (xs++[es])))) W2/\((I k).isSome=true\/W.heap.size<=b')/\∀x,x<W.heap.size->(∀y,I k=some y->x∉y.F)->W2.heap[x]?=W.heap[x]?:=by
 rcases hr with⟨rfl,rfl⟩|⟨b,c,rfl,hk⟩
 ·obtain⟨b',c',W2,cur',MY,a1,a2,a3,Wt,a4,a5,a6,a7,a8⟩:=SL (P:=P) (ob:=uq false sz) (fz:=(0,0)) (cur:= #[]) (A:=none) (l:=0) (c:=0) ht hI hz hs hb1 hb2 hzs (by omega) (.inl ⟨rfl,rfl,rfl⟩) hE hEs hone;have hb':W.heap.size<=b':=a6.resolve_left fun e=>by cases e
  have k0:ar [] W W2:=a2.mono fun x hx=>by grind
  refine⟨b',c',W2,a1,?_,.inr hb',fun x hx _=>k0.keep x hx dt⟩;refine h.Pz (D:=[]) (n:=k) (y:=aE b' c' T sz ([]++[es])) k0 (ak.refl _) (fun x o hx=>k0.get (h.gj x o hx) dt) (fun b o hb=>.inl hb) (fun b hb=>by cases hb) (fun _ _ _ _ _ _ hb=>by cases hb) ?_ (by simp) fun x hx=>.inr (by grind);refine .row (.ow ⟨MY,a3,Wt⟩ (h.Jk hb') a5 a4.symm (Jj (cur:= #[]) ⟨fun e he=>(by cases he),fun i e j c he=>(by simp at he)⟩ hes hd hEs (fun j hj=>by simp at hj) a8)) (fun e=>by cases e)
 ·obtain⟨cur,fz,h1,h2,h3,h4,h5,h6⟩:=h.row hk;obtain⟨b',c',W2,cur',MY,a1,a2,a3,Wt,a4,a5,a6,a7,a8⟩:=SL (P:=P) (ob:=uq false sz) (fz:=fz) (cur:=cur) ht hI hz hs hb1 hb2 hzs hl (.inr ⟨b,rfl,h5,h1,h2,h3⟩) hE hEs hone;have hb':b'=b\/W.heap.size<=b':=a6.imp (fun e=>by cases e;rfl) id;have hbs:b<W.heap.size:=(gd.1 h1).1;have k0:ar [b] W W2:=a2.mono fun x hx=>by
   grind
  have hmb:μ b'=none:=by
   rcases hb' with e|e
   ·rw[e];exact h6
   ·exact h.Jk e
  refine⟨b',c',W2,a1,?_,.inl (by rw[hk];rfl),fun x hx hn=>k0.keep x hx (by grind)⟩;refine h.mod (x:=aE b c T sz xs) (y:=aE b' c' T sz (xs++[es])) hk k0 (ak.refl _) (fun x o hx=>?_) (fun b o hb=>.inl hb) ?_ (by simp) fun x hx=>?_
  ·have hne:x≠b:=fun e=>by grind
   exact k0.get (h.gj x o hx) (by simpa using hne)
  ·refine .row (.ow ⟨MY,a3,Wt⟩ hmb (by grind) a4.symm (Jj h4 hes hd hEs a7 a8)) (fun e=>by cases e)
  grind
end
theorem cU{μ:Mu}{W:World}(h:DR μ (.aq n sz xs) v)(KW:ak μ (hf W))(hs:0<sz)(hx:xs≠[]):
  ∃vb vo c,v=.slice (some ⟨vb,vo,none⟩) xs.length c/\∀(k j:Nat) (e:List AV) (u:AV),xs[k]?=some e->e[j]?=some u->∃x,W.cell? ⟨vb,vo+k*sz+j,none⟩=some x/\DR μ u x:=by
 cases h with
 | @aq _ _ _ A c vals hnil hA hc hsz hcell hv=>
  cases A with
  |none=>exact absurd (hA rfl).1 hx
  |some a=>
   obtain⟨vb,vo,s⟩:=a;have h0:=hcell _ rfl 0 0 (Fi.2 hx) hs;cases s with
   |some s=>
    unfold gL at h0;split at h0
    ·rw[ee (by unfold Addr.add;rw[ee (by omega)];rfl)]at h0;cases h0
    ·cases h0
   |none=>
    refine⟨vb,vo,c,rfl,fun k j e u he hu=>?_⟩;have hk:=(eR.1 he).1;have hj:=(eR.1 hu).1;rw[hsz e (dp he)]at hj;have h1:=hcell _ rfl k j hk hj;rw[vp]at h1;unfold gL at h1;simp only at h1;split at h1
    ·rename_i cc ty fz hm;refine⟨vals k j,cell_of (KW _ _ hm) ?_,hv k e j u he hu⟩;grind
    ·cases h1
section
variable{ι:Type}{w W:World}{μ:Mu}{I:ι->Option ag}[DecidableEq ι]{P:Program}{C:gD}
theorem az.vals(h:az w μ I W)(dw:P.follows .mixedOrders=true)(hx:nX P C){xs:List Value}(hev:wq P C f bs=some (xs.map AV.v))(hfn:P.funcs[f]?=some fn){vals:List Value}
  (hB:ju μ (hf W) [] [] bs vals):Calls P f vals.toArray W fun e w'=>e=.returned (nV xs)/\az w μ I w'/\ar [] W w':=
 (h.Ab dw hx hev hfn (hB.mono h.gj fun b hb=>by cases hb)).mono fun e w' he=>by
  obtain⟨vs,μ',F1,G1,rfl,hK,hk,_,hb,_⟩:=he;obtain⟨rfl,_⟩:=dM (F:=F1) (G:=G1) xs hb;exact⟨rfl,hK,hk⟩
theorem ar.cell{w w':World}{D:List Nat}(k:ar D w w'){b j:Nat}{v:Value}(h:w.cell? ⟨b,j,none⟩=some v)(hd:b∉D):w'.cell? ⟨b,j,none⟩=some v:=by
 have hb:b<w.heap.size:=by
  unfold World.cell? at h;grind
 rw[oD (k.keep b hb hd)];exact h
theorem az.rE(h:az w μ I W)(k:ι)(hs:cur.size=c*sz)(hl:xs.length<=c)(hr:bJ μ sz xs cur):az w μ (put I k (some (aE W.heap.size c T sz xs))) (W.alloc (.cells cur T (0,0))):=by
 have k0:ar [] W (W.alloc (.cells cur T (0,0))):=ar.alloc W _;refine h.Pz (y:=aE W.heap.size c T sz xs) k0 (ak.refl _) (fun b o hb=>k0.get (h.gj b o hb) dt) (fun b o hb=>.inl hb) (fun b hb=>by cases hb) (fun _ _ _ _ _ _ hb=>by cases hb) ?_ (by simp) fun b hb=>.inr (by simp at hb;omega);exact .row (.ow ⟨(0,0),Ev.aZ W _,.inl rfl⟩ (h.Jk (dk _)) hl hs.symm hr) (fun e=>by cases e)
theorem az.SS(h:az w μ I W)(k:ι)(hb:B0 μ (hf W) F (.ow n T sz xs) v)(hnew:∀b∈F,w.heap.size<=b)(hd:∀j x,I j=some x->∀b∈x.F,b∉F):
  ∃y,az w μ (put I k y) W/\Row (put I k y) k v T sz xs:=by
 cases hb with
 |d h=>cases h
 |own=>exact⟨none,h.drop k,.inl ⟨rfl,rfl⟩⟩
 | @ow b cap _ _ _ cur hb hm hc hs hr=>
  refine⟨some (aE b cap T sz xs),h.SI (y:=aE b cap T sz xs) k (.row (.ow hb hm hc hs hr) (fun e=>by cases e)) (by simp) (fun j x hj _ b hb=>hd j x hj b hb) hnew,.inr ⟨b,cap,rfl,af _ _ _⟩⟩
theorem az.Lz(h:az w μ I W){k:ι}(hr:Row I k v T sz xs):∃(μ':Mu) (n:Bool),ak μ μ'/\az w μ' (put I k none) W/\DR μ' (.aq n sz xs) v/\(n=true->xs=[]):=by
 rcases hr with⟨rfl,rfl⟩|⟨b,c,rfl,hk⟩
 ·exact⟨μ,true,ak.refl _,h.drop k,gM,fun _=>rfl⟩
 ·have hb:=SP (h.ok k _ hk);simp only at hb;obtain⟨μ',hm,hK,hd,_⟩:=(h.drop k).Wn hb (fun i x hi y hy hx=>by
   rcases oB hi with⟨_,e⟩|⟨ne,e⟩
   ·cases e
   ·exact h.dj i k x _ e hk ne y hx hy) (h.new k _ hk)
  grind
end
end
section
section
open Go.Shelf Go.Lib Go.RowKit
theorem Jl{P:Program}{FC:Nat}{ob:Bool}{z:Value}{I:TypeInfo}(ht:P.underlying t=some (.slice FC))(hI:P.info? FC=some I)(hz:I.zero=some z)(hs:I.size=sz)(hb1:0<I.bytes)(hb2:I.bytes<=1000)(hzs:z.cells.size=sz)
  {W:World}  {l m sc:Nat}  {S:Addr} {news:List Value} (hl:l<=100000) (iT:m<=100000) (hm0:0<m)
  (hA:(A=none/\l=0/\c=0)\/ ∃b,A=some ⟨b,0,none⟩/\l<=c/\W.heap[b]?=some (.cells cur FC fz)/\sJ ob cur.size fz/\cur.size=c*sz)
  (hn:news.length=m*sz) (hnew:∀j v,news[j]?=some v->W.cell? (S.add j)=some v) (hone:∀v∈news,v.oneCell'=true):
  ∃(b c':Nat) (W2:World) (cur':Array Value) (MY:Nat×Nat),(∀ty,(Builtin.append_ #[t,t] ty #[.slice A l c,.slice (some S) m sc]).run P W=.ok (.slice (some ⟨b,0,none⟩) (l+m) c') W2)/\ar [b] W W2/\W2.heap[b]?=some (.cells cur' FC MY)/\sJ ob cur'.size MY/\
   cur'.size=c'*sz/\l+m<=c'/\(A=some ⟨b,0,none⟩\/W.heap.size<=b)/\(∀j,j<l*sz->cur'[j]?=cur[j]?)/\∀j,j<m*sz->cur'[l*sz+j]?=news[j]?:=by
 have hlen:∀w:World,(Builtin.lenOf (.slice (some S) m sc)).run P w=.ok m w:=fun _=>rfl;have lI:∀W':World,W'.heap=W.heap->(Builtin.firstCells I.size m (.slice (some S) m sc)).run P W'=.ok news.toArray W':=fun W' hW'=>by
  refine AI _ I.size m S m sc news (by rw[hs];exact hn) fun j v hj=>?_;have:=hnew j v hj;unfold World.cell? at this⊢;rw[hW'];exact this
 by_cases hroom:l+m<=c
 ·rcases hA with⟨_,_,hc⟩|⟨b,rfl,hlc,AL,hfz,hcs⟩
  ·omega
  ·have hm:(l+m)*sz<=c*sz:=fi _ hroom;rw[sh]at hm;have hst:=cE P b (l*sz) FC ob fz news 0 cur W AL hfz (by rw[hn,hcs];omega) hone;obtain⟨cur',SM⟩:∃cur',(cur.toList.take (l*sz+0)++news++cur.toList.drop (l*sz+0+news.length)).toArray=cur':=⟨_,rfl⟩;rw[SM]at hst;have acC:(cur.toList.take (l*sz+0)).length=l*sz:=by grind
   have hsz:cur'.size=cur.size:=by
    grind
   refine⟨b,c,W.setRow b cur',cur',fz,fun ty=>?_,⟨rfl,rfl,rfl,by simp_all,fun x hx hn=>setRow_other _ _ _ _ (by simpa using hn)⟩,GB _ _ _ _ _ _ AL,by rw[hsz];exact hfz,by rw[hsz,hcs],hroom,.inl rfl,fun j hj=>?_,fun j hj=>?_⟩
   ·refine fo ht ht rfl hI hlen (by rw[lI W rfl]) hroom ?_;simp_all [vp,gv]
   all_goals grind
 ·have hold:∃olds:List Value,olds.length=l*sz/\(∀j,j<l*sz->olds[j]?=cur[j]?)/\(Builtin.firstCells I.size l (.slice A l c)).run P W.drew=.ok olds.toArray W.drew:=by
   rcases hA with⟨rfl,rfl,rfl⟩|⟨b,rfl,hlc,AL,hfz,hcs⟩
   ·exact⟨[],by simp,fun j hj=>by omega,rfl⟩
   ·have hm:l*sz<=c*sz:=fi _ hlc;refine⟨cur.toList.take (l*sz),by grind,fun j hj=>by grind,?_⟩;refine AI _ I.size l ⟨b,0,none⟩ l c (cur.toList.take (l*sz)) (by grind) fun j v hj=>?_;rw[vp,gv];rw[oa]at hj;split at hj
    ·show W.cell? _=_;simp only[World.cell?,AL];simpa using hj
    ·cases hj
  obtain⟨olds,ES,Gw,NF⟩:=hold;have hm:(l+m)*I.bytes<=200000*1000:=Nat.mul_le_mul (by omega) hb2;have hrun:=fun ty=>iZ (P:=P) (ty:=ty) ht ht rfl hI hz hb1 (base:=A) (sLen:=l) (sCap:=c) (olds:=olds) (news:=news) hlen (lI W.drew rfl) NF (by omega) (by omega);have hge:l+m<=grownCap W (l+m) c FC:=ON _ _ _ _;obtain⟨G,hG⟩:∃G,grownCap W (l+m) c FC=G:=⟨_,rfl⟩;rw[hG]at hrun hge;obtain⟨R,hR⟩:∃R,(olds++news++(Builtin.zeroCells z.cells (G-(l+m))).toList).toArray=R:=⟨_,rfl⟩;rw[hR]at hrun;have hRs:R.size=G*sz:=by
   rw[<-hR];have hz2:(Builtin.zeroCells z.cells (G-(l+m))).toList.length=(G-(l+m))*sz:=by rw[qs,NO,hzs]
   rw[B9,ec,ec,ES,hz2,hn,<-sh,<-sh,show l+m+(G-(l+m))=G by omega]
  refine⟨W.heap.size,G,_,R,(0,0),hrun,⟨rfl,rfl,rfl,?_,fun b hb _=>Ev.alloc_old W.drew _ b hb⟩,Ev.aZ W.drew _,.inl rfl,hRs,hge,.inr (dk _),fun j hj=>?_,fun j hj=>?_⟩
  ·simp_all
  all_goals grind
theorem nG{P:Program}{FC:Nat}{I:TypeInfo}(ht:P.underlying t=some (.slice FC))(hI:P.info? FC=some I){W:World}{S:Option Addr}{l sc:Nat}(hlc:l<=c)(ty:TypeId):
  (Builtin.append_ #[t,t] ty #[.slice A l c,.slice S 0 sc]).run P W=.ok (.slice A l c) W:=by
 have hlen:∀w:World,(Builtin.lenOf (.slice S 0 sc)).run P w=.ok 0 w:=fun _=>rfl;have lI:(Builtin.firstCells I.size 0 (.slice S 0 sc)).run P W=.ok ([]:List Value).toArray W:=by
  cases S with
  |none=>rfl
  |some S=>simp_all [AI]
 refine fo ht ht rfl hI hlen lI (by omega) ?_;cases A<;>rfl
end
section
variable{ι:Type}{w W:World}{μ μ':Mu}{I:ι->Option ag}
theorem Eg{cur':Array Value}{news:List Value}(h:bJ μ sz xs cur)(hes:bJ μ sz es news.toArray)
  (h1:∀j,j<xs.length*sz->cur'[j]?=cur[j]?) (h2:∀j,j<es.length*sz->cur'[xs.length*sz+j]?=news[j]?):bJ μ sz (xs++es) cur':=by
 refine⟨fun e he=>?_,fun i e j c he hc=>?_⟩
 ·rcases gw.1 he with he|he
  ·exact h.1 e he
  ·exact hes.1 e he
 ·by_cases hi:i<xs.length
  ·rw[fj hi]at he;obtain⟨u,g1,g2⟩:=h.2 i e j c he hc;have hj:=(eR.1 hc).1;rw[h.1 e (dp he)]at hj;have:(i+1)*sz<=xs.length*sz:=fi _ hi;grind
  ·rw[en (by omega)]at he;obtain⟨u,g1,g2⟩:=hes.2 _ e j c he hc;have hj:=(eR.1 hc).1;have hk:=(eR.1 he).1;rw[hes.1 e (dp he)]at hj;have:(i-xs.length+1)*sz<=es.length*sz:=fi _ hk;rw[SO]at this;refine⟨u,?_,g2⟩;have e1:i*sz=xs.length*sz+(i-xs.length)*sz:=by rw[<-sh,show xs.length+(i-xs.length)=i by omega]
   grind
def nY(μ:Mu)(W:World)(sz:Nat)(es:List (List AV))(v:Value):Prop:=
 ∃(A:Option Addr) (c:Nat),v=.slice A es.length c/\(∀e∈es,e.length=sz)/\(es≠[]->∃b o,A=some ⟨b,o,none⟩/\∀(k j:Nat) (e:List AV) (u:AV),es[k]?=some e->e[j]?=some u->∃x,W.cell? ⟨b,o+k*sz+j,none⟩=some x/\DR μ u x)
theorem nY.nil:nY μ W sz [] (.slice A 0 c):=⟨A,c,rfl,fun _ h=>(by cases h),fun h=>absurd rfl h⟩
theorem YM(h:DR μ (.aq n sz xs) v):∀e∈xs,e.length=sz:=by
 cases h with
 |aq vals hnil hA hc hsz hcell hv=>exact hsz
theorem nY.data(h:DR μ (.aq n sz xs) v)(KW:ak μ (hf W))(hs:0<sz):nY μ W sz xs v:=by
 by_cases hx:xs=[]
 ·grind [eZ,nil]
 ·obtain⟨vb,vo,c,rfl,hc⟩:=cU h KW hs hx;exact⟨_,c,rfl,YM h,fun _=>⟨vb,vo,rfl,hc⟩⟩
theorem az.Wu(h:az w μ I W){k:ι}(hk:I k=some (aE b c T sz xs))(i m cc:Nat)(hm:i+m<=xs.length):nY μ W sz ((xs.drop i).take m) (.slice (some ⟨b,i*sz,none⟩) m cc):=by
 obtain⟨cur,fz,h1,h2,h3,h4,h5,h6⟩:=h.row hk;have hl:((xs.drop i).take m).length=m:=by grind
 refine⟨_,cc,by rw[hl],fun e he=>h4.1 e (zv (C1 he)),fun _=>⟨b,i*sz,rfl,fun k' j e u he hu=>?_⟩⟩;have hk':=(eR.1 he).1;rw[hl]at hk';rw[oa,ee hk',se]at he;rw[show i*sz+k'*sz+j=(i+k')*sz+j by rw[sh]];exact h.FE hk he hu
theorem nY.cells{o:Nat}(hs:0<sz)(h:nY μ W sz es (.slice (some ⟨b,o,none⟩) es.length c))(hne:es≠[]):
  ∃news:List Value,news.length=es.length*sz/\(∀j v,news[j]?=some v->W.cell? ((⟨b,o,none⟩:Addr).add j)=some v)/\bJ μ sz es news.toArray:=by
 obtain⟨A,c',e,hsz,hc⟩:=h;cases e;obtain⟨b',o',e,hc⟩:=hc hne;cases e;have hat:∀i,i<es.length*sz->∃x,W.cell? ⟨b,o+i,none⟩=some x:=fun i hi=>by
  have h1:i/sz<es.length:=Nat.div_lt_of_lt_mul (by rw[Hb];exact hi);have h2:i % sz<sz:=Nat.mod_lt _ hs;have he:=ao h1;have hu:∃u,(es[i/sz])[i % sz]?=some u:=⟨_,ao (by grind)⟩;grind [Nat.div_add_mod,Nat.mul_comm]
 refine⟨(List.range (es.length*sz)).map fun i=>(W.cell? ⟨b,o+i,none⟩).getD undef,by simp,fun j v hj=>?_,hsz,fun i e j u he hu=>?_⟩
 ·rw[et]at hj;by_cases hl:j<es.length*sz
  ·grind [List.getElem?_range,Option.some.injEq,Addr.add_lit]
  grind
 ·obtain⟨x,hx,hd⟩:=hc i j e u he hu;have hi:=(eR.1 he).1;have hj:=(eR.1 hu).1;rw[hsz e (dp he)]at hj;refine⟨x,?_,hd⟩;rw[vy,et,vt (Ly hi hj)];grind
variable[DecidableEq ι]
theorem oG(I:ι->Option ag)(k:ι):put I k (I k)=I:=by
 funext i
 unfold put;grind
theorem az.YN{P:Program}(h:az w μ I W){k:ι}{sv:Value}(hr:Row I k v T sz xs){z:Value}(ht:P.underlying t=some (.slice T))(hI:P.info? T=some Inf)(hz:Inf.zero=some z)(hs:Inf.size=sz)(hb1:0<Inf.bytes)(hb2:Inf.bytes<=1000)(hzs:z.cells.size=sz)(hs0:0<sz)
  (hl:xs.length<=100000) (hm:es.length<=100000) (hS:nY μ W sz es sv):
  ∃(v':Value) (W2:World) (y:Option ag) (D:List Nat),(∀tt,(Builtin.append_ #[t,t] tt #[v,sv]).run P W=.ok v' W2)/\az w μ (put I k y) W2/\Row (put I k y) k v' T sz (xs++es)/\ar D W W2/\∀b∈D,∃y,I k=some y/\b∈y.F:=by
 by_cases hne:es=[]
 ·subst hne;obtain⟨A,c,rfl,_⟩:=hS;refine⟨v,W,I k,[],fun tt=>?_,by rw[oG];exact h,by rw[oG,ir];exact hr,ar.refl _ _,fun b hb=>by cases hb⟩;rcases hr with⟨rfl,rfl⟩|⟨b,c',rfl,hk⟩
  ·exact nG ht hI (dk _) tt
  ·obtain⟨cur,fz,h1,h2,h3,h4,h5,h6⟩:=h.row hk;exact nG ht hI h5 tt
 ·obtain⟨A,sc,rfl,hsz,hc⟩:=hS;obtain⟨sb,so,rfl,hc'⟩:=hc hne;obtain⟨news,n1,n2,n3⟩:=nY.cells hs0 ⟨_,sc,rfl,hsz,fun _=>⟨sb,so,rfl,hc'⟩⟩ hne;have hm0:0<es.length:=Fi.2 hne;have hone:=bJ.list n3 n1;rcases hr with⟨rfl,rfl⟩|⟨b,c,rfl,hk⟩
  ·obtain⟨b',c',W2,cur',MY,a1,a2,a3,Wt,a4,a5,a6,a7,a8⟩:=Jl (P:=P) (ob:=uq false sz) (fz:=(0,0)) (cur:= #[]) (A:=none) (l:=0) (c:=0) (sc:=sc) ht hI hz hs hb1 hb2 hzs (by omega) hm hm0 (.inl ⟨rfl,rfl,rfl⟩) n1 n2 hone;have hb':W.heap.size<=b':=a6.resolve_left fun e=>by cases e
   have k0:ar [] W W2:=a2.mono fun x hx=>by grind
   rw[gv]at a1 a5;have ha5:([]++es:List (List AV)).length<=c':=by grind
   refine⟨_,W2,some (aE b' c' T sz ([]++es)),[],a1,?_,.inr ⟨b',c',by rw[ly],af _ _ _⟩,k0,fun b hb=>by cases hb⟩;refine h.Pz (D:=[]) (n:=k) (y:=aE b' c' T sz ([]++es)) k0 (ak.refl _) (fun x o hx=>k0.get (h.gj x o hx) dt) (fun b o hb=>.inl hb) (fun b hb=>by cases hb) (fun _ _ _ _ _ _ hb=>by cases hb) ?_ (by simp) fun x hx=>.inr (by grind);refine .row (.ow ⟨MY,a3,Wt⟩ (h.Jk hb') ha5 a4.symm (Eg (cur:= #[]) ⟨fun e he=>(by cases he),fun i e j c he=>(by simp at he)⟩ n3 (fun j hj=>by simp at hj) a8)) (fun e=>by cases e)
  ·obtain⟨cur,fz,h1,h2,h3,h4,h5,h6⟩:=h.row hk;obtain⟨b',c',W2,cur',MY,a1,a2,a3,Wt,a4,a5,a6,a7,a8⟩:=Jl (P:=P) (ob:=uq false sz) (fz:=fz) (cur:=cur) (sc:=sc) ht hI hz hs hb1 hb2 hzs hl hm hm0 (.inr ⟨b,rfl,h5,h1,h2,h3⟩) n1 n2 hone;have hb':b'=b\/W.heap.size<=b':=a6.imp (fun e=>by cases e;rfl) id;have hbs:b<W.heap.size:=(gd.1 h1).1;have k0:ar [b] W W2:=a2.mono fun x hx=>by
    grind
   have hmb:μ b'=none:=by
    rcases hb' with e|e
    ·rw[e];exact h6
    ·exact h.Jk e
   have ha5:(xs++es).length<=c':=by grind
   refine⟨_,W2,some (aE b' c' T sz (xs++es)),[b],a1,?_,.inr ⟨b',c',by rw[ec],af _ _ _⟩,k0,fun x hx=>⟨_,hk,by simpa using hx⟩⟩;refine h.mod (x:=aE b c T sz xs) (y:=aE b' c' T sz (xs++es)) hk k0 (ak.refl _) (fun x o hx=>?_) (fun b o hb=>.inl hb) ?_ (by simp) fun x hx=>?_
   ·have hne:x≠b:=fun e=>by grind
    exact k0.get (h.gj x o hx) (by simpa using hne)
   ·refine .row (.ow ⟨MY,a3,Wt⟩ hmb ha5 a4.symm (Eg h4 n3 a7 a8)) (fun e=>by cases e)
   grind
def xo(I:ι->Option ag)(k:ι)(v:Value)(T sz:Nat)(xs:List (List AV)):Prop:=(v=.slice none 0 0/\xs=[])\/(xs≠[]/\∃b c,v=.slice (some ⟨b,0,none⟩) xs.length c/\I k=some (aE b c T sz xs))
omit [DecidableEq ι] in
theorem xo.row{k:ι}(h:xo I k v T sz xs):Row I k v T sz xs:=h.imp id fun h=>h.2
theorem Row.z{k:ι}(h:Row I k v T sz xs)(hx:xs≠[]):xo I k v T sz xs:=.inr ⟨hx,h.ne hx⟩
omit [DecidableEq ι] in
theorem xo.same{J:ι->Option ag}{k:ι}(h:xo I k v T sz xs)(hJ:J k=I k):xo J k v T sz xs:=h.imp id fun⟨h1,b,c,h2,h3⟩=>⟨h1,b,c,h2,hJ.trans h3⟩
omit [DecidableEq ι] in
theorem xo.val{k:ι}(h:xo I k v T sz xs):∃A c,v=.slice A xs.length c/\(A=none↔xs=[]):=by
 rcases h with⟨rfl,rfl⟩|⟨h1,b,c,rfl,_⟩
 all_goals simp_all
theorem az.qj{P:Program}(h:az w μ I W){k:ι}{sv:Value}(hr:xo I k v T sz xs){z:Value}(ht:P.underlying t=some (.slice T))(hI:P.info? T=some Inf)(hz:Inf.zero=some z)(hs:Inf.size=sz)(hb1:0<Inf.bytes)(hb2:Inf.bytes<=1000)(hzs:z.cells.size=sz)(hs0:0<sz)
  (hl:xs.length<=100000) (hm:es.length<=100000) (hS:nY μ W sz es sv):
  ∃(v':Value) (W2:World) (y:Option ag),(∀tt,(Builtin.append_ #[t,t] tt #[v,sv]).run P W=.ok v' W2)/\az w μ (put I k y) W2/\xo (put I k y) k v' T sz (xs++es):=by
 by_cases hne:es=[]
 ·subst hne;obtain⟨A,c,rfl,_⟩:=hS;refine⟨v,W,I k,fun tt=>?_,by rw[oG];exact h,by rw[oG,ir];exact hr⟩;rcases hr with⟨rfl,rfl⟩|⟨_,b,c',rfl,hk⟩
  ·exact nG ht hI (dk _) tt
  ·obtain⟨cur,fz,h1,h2,h3,h4,h5,h6⟩:=h.row hk;exact nG ht hI h5 tt
 ·obtain⟨v',W2,y,D,h1,h2,h3,_⟩:=h.YN hr.row ht hI hz hs hb1 hb2 hzs hs0 hl hm hS;exact⟨v',W2,y,h1,h2,h3.z (by simp[hne])⟩
theorem az.Jm(h:az w μ I W){k:ι}(hr:xo I k v T sz xs):∃(μ':Mu),ak μ μ'/\az w μ' (put I k none) W/\DR μ' (.aq xs.isEmpty sz xs) v:=by
 obtain⟨μ',n,h1,h2,h3,h4⟩:=h.Lz hr.row;refine⟨μ',h1,h2,?_⟩;obtain⟨A,c,e,hn⟩:=eZ h3;rcases hr with⟨rfl,rfl⟩|⟨hx,b,c',rfl,_⟩
 all_goals grind
theorem SU{l:Nat}(h:DR μ (.aq n sz xs) (.slice A l c)):l<=c:=by
 cases h with
 |aq vals hnil hA hc hsz hcell hv=>exact hc
end
end
