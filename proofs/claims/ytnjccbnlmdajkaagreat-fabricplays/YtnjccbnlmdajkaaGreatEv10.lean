/- Arguments by their types; the two forms of a law's statement. -/
import Derived.ProofKit
import Derived.JoinedCond
import Derived.Test.YtnjccbnlmdajkaaGreatEv09
set_option linter.all false
namespace Go.Ev
variable{cs:List AV}{t:TypeId}{n:Nat}
section
variable{P:Program}{N:Nat}
theorem gT{k:IntKind}(hu:P.underlying t=some (.int k))(h:fT P N (n+1) t cs):∃m,cs=[.v (.int k m)]/\k.min<=m/\m<=k.max:=by
 rw[fT,hu]at h;exact h
theorem BI{e:TypeId}(hu:P.underlying t=some (.slice e))(h:fT P N (n+1) t cs):
  ∃nil xs,cs=[.aq nil (P.cellsOf e) xs]/\(nil=true->xs=[])/\xs.length<=N/\∀x∈xs,fT P N n e x:=by
 rw[fT,hu]at h;exact h
def We(P:Program)(N n:Nat):List TypeId->List AV->Prop
 |[],cs=>cs=[]
 |t::ts,cs=> ∃p r,cs=p++r/\fT P N n t p/\We P N n ts r
theorem Nt{n:Nat}:∀(ts:List TypeId) (parts:List (List AV)),parts.length=ts.length->(∀(i:Nat) (t:TypeId) (p:List AV),ts[i]?=some t->parts[i]?=some p->fT P N n t p)->We P N n ts parts.flatten
 |[],parts,hl,_=>by
  have:parts=[]:=dy hl;subst this;rfl
 |t::ts,[],hl,_=>by simp at hl
 |t::ts,p::parts,hl,h=>⟨p,parts.flatten,rfl,h 0 t p rfl rfl,Nt ts parts (by simpa using hl) fun i t' p' h1 h2=>h (i+1) t' p' (by simpa using h1) (by simpa using h2)⟩
theorem IP{fs:Array Field}(hu:P.underlying t=some (.struct fs))(h:fT P N (n+1) t cs):We P N n (fs.toList.map (·.type)) cs:=by
 rw[fT,hu]at h;grind [Nt,Option.map_eq_some_iff]
end
section
open Go.ChangeShapes
variable{H:Type}{enc:TypeId×Value->H}{N:Nat}{bulk:DataW H->Nat}
def YH(P:Program)(ts:List TypeId):Bool:=ts.all fun t=>BC P 12 t&&P.readableRec t&&Nat.blt t P.types.size
theorem Pp{P:Program}{W:World}(hB:xa bulk)(dw:P.follows .mixedOrders=true)(C:gD)(hx:nX P C){f:FuncId}{fn:Func}(hfn:P.funcs[f]?=some fn){tb:TypeId}(hres:fn.resultTypes= #[tb])(htb:P.underlying tb=some .bool){s:ChangeSpec}(hvars:s.vars=[])
  {ts:List TypeId} (hts:fn.params.toList=ts) (hs:∀ds:List (DataW H),ds.length=ts.length->s.fn H (ds++[])={results:=[.lit (.bool true)],args:=ds}) (hl:laidOutB P=true) (Pm:YH P ts=true)
  (hev:∀as,Sm P N ts as->∃n,uF P C n f as=some [.v (.bool true)]) (base:Nat) (args:Array Value) (ds gs:List (DataW H)) (before:List MemPlace)
  (hval:∀(j:Nat) t v,fn.params[j]?=some t->args[j]?=some v->Value.okWide P W .any base t v) (hW:DataW.Whole enc P fn.params.toList s.vars false W args.toList ds gs before) (hb:N=maxLen\/ ∀d∈ds,bulk d<=N):
  Calls P f args W fun e W'=> ∃v,e=.returned v/\s.post enc P fn false true false false W args v W':=by
 refine Su hB dw C hx hfn hres htb hvars (by rw[hts];exact hs) hl (fun t ht=>?_) (by rw[hts];exact hev) base args ds gs before hval hW hb;rw[hts]at ht;have:=ka.1 Pm t ht;simp_all
end
end Go.Ev
namespace Go.Ev
open Go
section
theorem jM(n:Nat)(cs:List AV):isAgg n (.agg cs)=Nat.beq cs.length n:=rfl
theorem fp(n:Nat):Nat.beq n n=true:=by simp
theorem ek{α β:Type}{x x':Option α}{f:α->Option β}(h:x=x'):x.bind f=x'.bind f:=by rw[h]
theorem er{α:Type}{c c':Bool}{x y:α}(h:c=c'):cond c x y=cond c' x y:=by rw[h]
theorem fM{α β:Type}{x:Option α}{a:α}{f:α->Option β}{r:Option β}(h:x=some a)(h2:f a=r):x.bind f=r:=by rw[h];exact h2
theorem fV(cs:List AV):aA (.agg cs)=cs:=rfl
theorem fq(t:Nat)(cs:List AV):aA (.ob t cs)=cs:=rfl
theorem pH(t:Nat)(cs:List AV):GJ t (.ob t cs)=true:=by simp[GJ]
theorem tU(b:Bool)(sz:Nat)(xs:List (List AV)):GD sz (.aq b sz xs)=true:=by simp[GD]
theorem pI(b:Bool)(t sz:Nat)(xs:List (List AV)):lT t sz (.ow b t sz xs)=true:=by simp[lT]
theorem mF(b:Bool)(sz:Nat)(xs:List (List AV)):bU (.aq b sz xs)=xs:=rfl
theorem kH(b:Bool)(t sz:Nat)(xs:List (List AV)):bU (.ow b t sz xs)=xs:=rfl
theorem jN(b:Bool)(sz:Nat)(xs:List (List AV)):bM (.aq b sz xs)=b:=rfl
theorem jd(b:Bool)(t sz:Nat)(xs:List (List AV)):bM (.ow b t sz xs)=b:=rfl
theorem mG(b:Bool)(l o:Nat)(c:Option Nat):bM (.sl b l o c)=b:=rfl
theorem mH(b:Bool)(l o:Nat)(c:Option Nat):uC (.sl b l o c)=o:=rfl
theorem mI(b:Bool)(l o c:Nat):Yo (.sl b l o (some c))=c:=rfl
theorem jO(a:Nat×AV)(l:List (Nat×AV)):gK (a::l) 0=a:=rfl
theorem jP(a:Nat×AV)(l:List (Nat×AV))(i:Nat):gK (a::l) (i+1)=gK l i:=rfl
theorem jQ(a:gC)(l:Store):cR (a::l) 0=a:=rfl
theorem jR(a:gC)(l:Store)(i:Nat):cR (a::l) (i+1)=cR l i:=rfl
theorem pJ(i:Nat)(s:St)(o:List AV):nO i ⟨some i,s,o⟩=true:=by simp[nO]
theorem pK{i j:Nat}(s:St)(o:List AV)(h:Nat.beq j i=false):nO i ⟨some j,s,o⟩=false:=h
theorem jS(i:Nat)(s:St)(o:List AV):nO i ⟨none,s,o⟩=false:=rfl
theorem jT(i:Nat)(s:St)(o:List AV):sH ⟨some i,s,o⟩=false:=rfl
theorem jU(s:St)(o:List AV):sH ⟨none,s,o⟩=true:=rfl
theorem pL(f g:List (Nat×AV))(b c:Store):dx ⟨f,b⟩ ⟨g,c⟩=(Nat.beq f.length g.length&&qI f 0 g&&(Nat.beq b.length c.length&&nP b 0 c)):=rfl
theorem iz(j:Nat)(g:List (Nat×AV)):qI [] j g=true:=rfl
theorem fW(t:Nat)(a:AV)(r:List (Nat×AV))(j:Nat)(g:List (Nat×AV)):qI ((t,a)::r) j g=(Nat.beq t (gK g j).1&&(lR a (gK g j).2).1&&qI r (j+1) g):=rfl
theorem iA(j:Nat)(c:Store):nP [] j c=true:=rfl
theorem iB(m t s:Nat)(xs:List (List AV))(r:Store)(j:Nat)(c:Store):nP (⟨m,t,s,true,xs⟩::r) j c=
  ((Nat.beq m (cR c j).mode&&Nat.beq t (cR c j).ty&&Nat.beq s (cR c j).sz&&(true==(cR c j).obj)&&
    (Nat.beq (cR c j).xs.length 1&&Nat.beq (aw (cR c j).xs 0).length (aw xs 0).length&&iU (aw xs 0) 0 (aw (cR c j).xs 0)))&&nP r (j+1) c):=rfl
theorem iC(m t s:Nat)(xs:List (List AV))(r:Store)(j:Nat)(c:Store):nP (⟨m,t,s,false,xs⟩::r) j c=
  ((Nat.beq m (cR c j).mode&&Nat.beq t (cR c j).ty&&Nat.beq s (cR c j).sz&&(false==(cR c j).obj)&&true)&&nP r (j+1) c):=rfl
theorem iD(j:Nat)(c:List AV):iU [] j c=true:=rfl
theorem fX(a:AV)(r:List AV)(j:Nat)(c:List AV):iU (a::r) j c=((iK a (cellAt c j)).1&&iU r (j+1) c):=by
 cases r with
 |nil=>simp[iU]
 |cons b r=>rfl
theorem mJ(ts:List AV)(o:Nat)(c:AV):(lR (.ep ts o) c).1=(Rl ts.length o c&&iU ts 0 (uD c)):=rfl
theorem pM(n o:Nat)(cs:List AV):Rl n o (.ep cs o)=Nat.beq cs.length n:=by simp[Rl]
theorem iE(cs:List AV)(o:Nat):uD (.ep cs o)=cs:=rfl
theorem jV(c:AV):(lR (.v (.pointer none)) c).1=ED c:=rfl
theorem jW(c:AV):(iK (.v (.pointer none)) c).1=ED c:=rfl
theorem mK:ED (.v (.pointer none))=true:=rfl
theorem pN(t:Nat)(cs:List AV):ED (.ob t cs)=false:=rfl
theorem jX(ts:List AV)(c:AV):(lR (.agg ts) c).1=(isAgg ts.length c&&iU ts 0 (aA c)):=rfl
theorem jY(k:IntKind)(n:Int)(c:AV):(lR (.v (.int k n)) c).1=eE k c:=rfl
theorem iF(b:Bool)(c:AV):(lR (.v (.bool b)) c).1=Dp c:=rfl
theorem jZ(b:ByteArray)(c:AV):(lR (.v (.string b)) c).1=MP c:=rfl
theorem ke(b:Bool)(s:Nat)(xs:List (List AV))(c:AV):(lR (.aq b s xs) c).1=GD s c:=rfl
theorem kf(b:Bool)(l o:Nat)(c:AV):(lR (.sl b l o none) c).1=(yR l true c&&Nat.beq (uC c) o):=rfl
theorem kg(b:Bool)(l o k:Nat)(c:AV):(lR (.sl b l o (some k)) c).1=(yR l false c&&Nat.beq (uC c) o):=rfl
theorem ko(l i j:Nat)(c:AV):(lR (.ptr l i j) c).1=Ds l i j c:=rfl
theorem kr(k:IntKind)(n:Int)(c:AV):(iK (.v (.int k n)) c).1=eE k c:=rfl
theorem iG(b:Bool)(c:AV):(iK (.v (.bool b)) c).1=Dp c:=rfl
theorem ku(b:ByteArray)(c:AV):(iK (.v (.string b)) c).1=MP c:=rfl
theorem kv(b:Bool)(s:Nat)(xs:List (List AV))(c:AV):(iK (.aq b s xs) c).1=GD s c:=rfl
theorem kx(b:Bool)(l o:Nat)(c:AV):(iK (.sl b l o none) c).1=(yR l true c&&Nat.beq (uC c) o):=rfl
theorem ky(b:Bool)(l o k:Nat)(c:AV):(iK (.sl b l o (some k)) c).1=(yR l false c&&Nat.beq (uC c) o):=rfl
theorem kz(l i j:Nat)(c:AV):(iK (.ptr l i j) c).1=Ds l i j c:=rfl
theorem mL(l i j:Nat):Ds l i j (.ptr l i j)=true:=by simp[Ds]
theorem tV(b:Bool)(l o:Nat):yR l true (.sl b l o none)=true:=by simp[yR]
theorem tW(b:Bool)(l o k:Nat):yR l false (.sl b l o (some k))=true:=by simp[yR]
theorem iH(b:Bool):(b==b)=true:=by cases b<;>rfl
theorem pQ(b:Int):(b==b)=true:=by simp
/-! ## ab1 by their types-/
section
variable{P:Program}{N:Nat}
def Nu(P:Program)(t:TypeId):Option (List TypeId):=match P.underlying t with|some (.struct fs)=>some (fs.toList.map (·.type))|_=>none
theorem Nv{n:Nat}{t:TypeId}{ts:List TypeId}{cs:List AV}(hu:Nu P t=some ts)(h:fT P N (n+1) t cs):We P N n ts cs:=by
 unfold Nu at hu;grind [Option.some.inj,IP]
theorem nE{m:Int}(h:IntKind.i64.min<=m/\m<=IntKind.i64.max): -9223372036854775808<=m/\m<=9223372036854775807:=by rw[V8,max_i64]at h;exact h
theorem Nw{m:Int}(h:IntKind.u64.min<=m/\m<=IntKind.u64.max):0<=m/\m<=18446744073709551615:=by rw[V9,Wc]at h;exact h
end
end
section
structure Pg where
 l:Int
 h:Int
 d0:Int
 d1:Int
 d2:Int
 d3:Int
 d4:Int
 d5:Int
 d6:Int
def IQ(x:Int):Prop:= -9223372036854775808<=x/\x<=9223372036854775807
theorem Sw{α:Type}(f:α->List AV)(ps:List α)(i:Nat)(h:i<ps.length):aw (ps.map f) i=f ps[i]:=by
 unfold aw;simp[h]
theorem xe{α:Type}(f:α->List AV)(ps:List α)(d:α)(i:Nat)(h:i<ps.length):aw (ps.map f) i=f (ps.getD i d):=by
 rw[Sw f ps i h];simp[h]
theorem rA{α:Type}(ps:List α)(d:α)(i:Nat)(h:i<ps.length):ps.getD i d∈ps:=by simp[h]
end
section
structure br{α:Type}(a:Nat->Option α)(b:Option α):Prop where
 mono:∀n m r,n<=m->a n=some r->a m=some r
 up:∀n r,a n=some r->b=some r
 down:∀r,b=some r->∃n,a n=some r
section qy
variable{α β:Type}
theorem br.const(b:Option α):br (fun _=>b) b:=⟨fun _ _ _ _ h=>h,fun _ _ h=>h,fun _ h=>⟨0,h⟩⟩
theorem br.cond{c:Bool}{a a':Nat->Option α}{b b':Option α}(h:br a b)(h':br a' b'):br (fun n=>bif c then a n else a' n) (bif c then b else b'):=by
 cases c
 ·exact h'
 ·exact h
theorem br.bind{a:Nat->Option α}{b:Option α}{f:Nat->α->Option β}{g:α->Option β}(h:br a b)(hf:∀x,br (fun n=>f n x) (g x)):br (fun n=>(a n).bind (f n)) (b.bind g):=by
 refine⟨fun n m r hl h1=>?_,fun n r h1=>?_,fun r h1=>?_⟩
 ·obtain⟨x,h2,h3⟩:=kl.1 h1;rw[h.mono n m x hl h2];exact(hf x).mono n m r hl h3
 ·obtain⟨x,h2,h3⟩:=kl.1 h1;rw[h.up n x h2];exact(hf x).up n r h3
 ·obtain⟨x,h2,h3⟩:=kl.1 h1;obtain⟨n,h4⟩:=h.down x h2;obtain⟨m,h5⟩:=(hf x).down r h3;refine⟨max n m,?_⟩;show(a (max n m)).bind (f (max n m))=some r;grind [Nat.le_max_left,mono,Nat.le_max_right]
theorem br.unique{a:Nat->Option α}{b c:Option α}(h:br a b)(h':br a c):b=c:=by
 cases hb:b with
 |some r=>obtain⟨n,h1⟩:=h.down r hb;exact(h'.up n r h1).symm
 |none=>
  cases hc:c with
  |none=>rfl
  |some r=>obtain⟨n,h1⟩:=h'.down r hc;rw[h.up n r h1]at hb;cases hb
theorem br.shift{a:Nat->Option α}{b:Option α}(h:br a b):br (fun n=>a (n+1)) b:=
 ⟨fun n m r hl h1=>h.mono _ _ r (Nat.succ_le_succ hl) h1,fun n r h1=>h.up _ r h1,fun r h1=>let⟨n,h2⟩:=h.down r h1;⟨n,h.mono n _ r (Nat.le_succ n) h2⟩⟩
theorem br.Wg{a c:Nat->Option α}{b:Option α}(h:br a b)(hm:∀n m r,n<=m->c n=some r->c m=some r)(h1:∀n r,a n=some r->c n=some r)(h2:∀n r,c n=some r->a (n+1)=some r):br c b:=
 ⟨hm,fun n r e=>h.up _ r (h2 n r e),fun r e=>let⟨n,h3⟩:=h.down r e;⟨n,h1 n r h3⟩⟩
open Classical in
noncomputable def qy(a:Nat->Option α):Option α:=if h:∃r,∃n,a n=some r then some (Classical.choose h)else none
theorem Nx{a:Nat->Option α}(hm:∀n m r,n<=m->a n=some r->a m=some r):br a (qy a):=by
 refine⟨hm,fun n r h=>?_,fun r h=>?_⟩
 ·have hx:∃r,∃n,a n=some r:=⟨r,n,h⟩;unfold qy;grind
 ·unfold qy at h;split at h
  all_goals grind
def Le(x y:Option α):Prop:=∀r,x=some r->y=some r
def two(x y:Option α):Nat->Option α:=fun n=>match n with|0=>x|_+1=>y
theorem zG{x y:Option α}(h:Le x y):br (two x y) y:=by
 refine⟨fun n m r hl h1=>?_,fun n r h1=>?_,fun r h1=>⟨1,h1⟩⟩
 ·cases n with
  |zero=>cases m with
   |zero=>exact h1
   |succ m=>exact h r h1
  |succ n=>cases m with
   |zero=>omega
   |succ m=>exact h1
 ·cases n with
  |zero=>exact h r h1
  |succ n=>exact h1
end qy
abbrev mM{R:Type}(K:Nat->AV->Store->Option R)(K':AV->Store->Option R):Prop:=∀a σ,br (fun n=>K n a σ) (K' a σ)
section ops
variable{R:Type}{P:Program}{σ:Store}{K:Nat->AV->Store->Option R}{K':AV->Store->Option R}
theorem BJ(h:mM K K')(t:TypeId)(cs:List AV):br (fun n=>jD P σ (K n) t cs) (jD P σ K' t cs):=by
 unfold jD;repeat' first|exact br.const _|exact h _ _|apply br.cond|split
theorem IU(h:mM K K')(t:TypeId):br (fun n=>gU P σ (K n) t) (gU P σ K' t):=by
 unfold gU;repeat' first|exact br.const _|exact BJ h _ _|apply br.cond|split
theorem Pq(h:mM K K')(t:TypeId)(a:AV):br (fun n=>qa P σ (K n) t a) (qa P σ K' t a):=by
 unfold qa;repeat' first|exact br.const _|exact BJ h _ _|apply br.cond|split
theorem IV(h:mM K K')(t:TypeId)(ps:List (Nat×AV)):br (fun n=>gV P σ (K n) t ps) (gV P σ K' t ps):=by
 unfold gV;repeat' first|exact br.const _|exact h _ _|apply br.cond|split
theorem xg(h:mM K K')(t:TypeId)(m:Nat)(ps:List (Nat×AV)):br (fun n=>cg P σ (K n) t m ps) (cg P σ K' t m ps):=by
 unfold cg;repeat' first|exact br.const _|exact h _ _|apply br.cond|split
theorem Ll(h:mM K K')(t:TypeId)(a:AV):br (fun n=>iu P σ (K n) t a) (iu P σ K' t a):=by
 unfold iu;repeat' first|exact br.const _|exact h _ _|apply br.cond|split
theorem IW{L:Nat->Store->Option R}{L':Store->Option R}(h:∀σ,br (fun n=>L n σ) (L' σ))(t:TypeId)(a x:AV):br (fun n=>gW P σ t a x (L n)) (gW P σ t a x L'):=by
 unfold gW;repeat' first|exact br.const _|exact h _|apply br.cond|split
theorem Ps(h:mM K K')(op:BinOp)(t:TypeId)(a b:AV):br (fun n=>sP P σ (K n) op t a b) (sP P σ K' op t a b):=by
 unfold sP;repeat' first|exact br.const _|exact h _ _|apply br.cond|split
theorem Sx(h:mM K K')(op:UnOp)(a:AV):br (fun n=>CS σ (K n) op a) (CS σ K' op a):=by
 unfold CS;repeat' first|exact br.const _|exact h _ _|apply br.cond|split
theorem Lm(h:mM K K')(s t:TypeId)(a:AV):br (fun n=>lE P σ (K n) s t a) (lE P σ K' s t a):=by
 unfold lE;repeat' first|exact br.const _|exact h _ _|apply br.cond|split
theorem Lp(h:mM K K')(s t:TypeId)(a:AV):br (fun n=>lD P σ (K n) s t a) (lD P σ K' s t a):=by
 unfold lD;repeat' first|exact br.const _|exact h _ _|apply br.cond|split
theorem Pt(h:mM K K')(t:TypeId)(a:AV)(hi:Option AV):br (fun n=>qd P σ (K n) t a hi) (qd P σ K' t a hi):=by
 unfold qd;repeat' first|exact br.const _|exact h _ _|apply br.cond|split
theorem IX(h:mM K K')(t:TypeId)(a:AV)(lo hi:Option AV):br (fun n=>gX P σ (K n) t a lo hi) (gX P σ K' t a lo hi):=by
 unfold gX;repeat' first|exact br.const _|exact h _ _|apply br.cond|split
theorem zf(h:mM K K')(t:TypeId)(a:AV)(f:Nat):br (fun n=>dQ P σ (K n) t a f) (dQ P σ K' t a f):=by
 unfold dQ;repeat' first|exact br.const _|exact h _ _|apply br.cond|split
theorem IY(h:mM K K')(t:TypeId)(a:AV)(f:Nat):br (fun n=>kF P σ (K n) t a f) (kF P σ K' t a f):=by
 unfold kF;repeat' first|exact br.const _|exact h _ _|apply br.cond|split
theorem zg(h:mM K K')(t:TypeId)(a i:AV)(c:Bool):br (fun n=>cH P σ (K n) t a i c) (cH P σ K' t a i c):=by
 unfold cH;repeat' first|exact br.const _|exact h _ _|apply br.cond|split
theorem IZ(h:mM K K')(t:TypeId)(a i:AV)(c:Bool):br (fun n=>kG P σ (K n) t a i c) (kG P σ K' t a i c):=by
 unfold kG;repeat' first|exact br.const _|exact h _ _|apply br.cond|split
theorem zh(h:mM K K')(t:TypeId)(a b:AV):br (fun n=>cI P σ (K n) t a b) (cI P σ K' t a b):=by
 unfold cI;repeat' first|exact br.const _|exact h _ _|apply br.cond|split
theorem Pu(h:mM K K')(t:TypeId)(a:AV):br (fun n=>qe P σ (K n) t a) (qe P σ K' t a):=by
 unfold qe;repeat' first|exact br.const _|exact h _ _|apply br.cond|split
theorem Fw(h:mM K K')(t u:TypeId)(a b:AV):br (fun n=>fw P σ (K n) t u a b) (fw P σ K' t u a b):=by
 unfold fw;repeat' first|exact br.const _|exact h _ _|apply br.cond|split
theorem Lq(h:mM K K')(t:TypeId)(a b:AV):br (fun n=>lF P σ (K n) t a b) (lF P σ K' t a b):=by
 unfold lF;repeat' first|exact br.const _|exact h _ _|apply br.cond|split
end ops
section shape
variable{R:Type}{P:Program}
theorem Wh{K:Nat->AV->Option R}{K':AV->Option R}(h:∀a,br (fun n=>K n a) (K' a))(dat:Bool)(t:TypeId)(r:AV):br (fun n=>Vd P dat t r (K n)) (Vd P dat t r K'):=by
 unfold Vd;repeat' first|exact br.const _|exact h _|apply br.cond|split
theorem I6(dat:Bool):∀(ts:List TypeId) (j:Nat) (rs:List AV) (K:Nat->List AV->Option R) (K':List AV->Option R),(∀a,br (fun n=>K n a) (K' a))->br (fun n=>tv P dat ts j rs (K n)) (tv P dat ts j rs K')
 |[],j,rs,K,K',h=>h []
 |t::ts,j,rs,K,K',h=>by
  simp only[tv];exact Wh (K:=fun n a=>tv P dat ts (j+1) rs fun as=>K n (a::as)) (fun a=>I6 dat ts (j+1) rs (fun n as=>K n (a::as)) _ fun as=>h _) dat t _
theorem tX:∀(ts:List (Nat×List AV)) (j:Nat) (rs:List AV) (K:Nat->List (List AV)->Option R) (K':List (List AV)->Option R),(∀a,br (fun n=>K n a) (K' a))->br (fun n=>lG ts j rs (K n)) (lG ts j rs K')
 |[],j,rs,K,K',h=>h []
 |(ty,Rf)::ts,j,rs,K,K',h=>by
  simp only[lG];split
  ·rename_i t z _;exact br.cond (tX ts (j+1) rs (fun n os=>K n ([.kK [.ow false t z (bU (Re (cellAt rs j)))]]::os)) _ fun os=>h _) (br.const _)
  exact br.cond (tX ts (j+1) rs (fun n os=>K n (Ae Rf 0 (aA (cellAt rs j))::os)) _ fun os=>h _) (br.const _)
end shape
abbrev zi(call:Nat->cK)(call':cK):Prop:=∀f as,br (fun n=>call n f as) (call' f as)
abbrev Da(inl:Nat->iv)(inl':iv):Prop:=∀(R:Type) f as σ (K:Nat->List AV->Store->Option R) (K':List AV->Store->Option R),(∀a σ,br (fun n=>K n a σ) (K' a σ))->br (fun n=>inl n R f as σ (K n)) (inl' R f as σ K')
abbrev Pv(loop:Nat->mo)(yE:mo):Prop:=∀c E bg s,br (fun n=>loop n c E bg s) (yE c E bg s)
section call
variable{R:Type}{P:Program}{C:gD}{call:Nat->cK}{call':cK}{inl:Nat->iv}{inl':iv}{K:Nat->AV->Store->Option R}{K':AV->Store->Option R}
theorem Lr(hc:zi call call')(hi:Da inl inl')(h:mM K K')(σ:Store)(f:FuncId)(args:List AV):br (fun n=>gJ P C (call n) (inl n) σ (K n) f args) (gJ P C call' inl' σ K' f args):=by
 unfold gJ;split
 ·exact br.const _
 ·refine br.cond (br.const _) ?_;split
  ·unfold Rg MT Ah
   repeat' first|exact br.const _|exact h _ _|apply br.cond|split
  refine(br.cond (hi _ _ _ _ _ _ fun a σ=>h _ _) (br.cond ?_ (br.const _)));split
  ·exact br.const _
  ·refine br.cond (br.const _)<|br.cond (br.const _) (br.bind (hc _ _) fun rs=>I6 _ _ _ _ _ _ fun as=>tX _ _ _ _ _ fun os=>br.cond ?_ (br.const _))
   split
   all_goals grind [br.const]
theorem Sy{σ:Store}(h:mM K K')(g:(List Value->Bool)×(List Value->List Value))(args:List AV):br (fun n=>EK g σ (K n) args) (EK g σ K' args):=by
 unfold EK;repeat' first|exact br.const _|exact h _ _|apply br.cond|split
theorem I7(hc:zi call call')(hi:Da inl inl')(h:mM K K')(o:Oper)(fr:List (Nat×AV))(σ:Store):br (fun n=>bC P C (call n) (inl n) o fr σ (K n)) (bC P C call' inl' o fr σ K'):=by
 unfold bC;dsimp only
 repeat' first
  |exact br.const _|exact h _ _|exact IU h _|exact Pq h _ _|exact IV h _ _|exact xg h _ _ _|exact Ll h _ _
  |exact IW (L:=fun n σ'=>K n .un σ') (fun σ=>h _ _) _ _ _|exact Ps h _ _ _ _|exact Sx h _ _|exact Lm h _ _ _|exact Lp h _ _ _|exact IX h _ _ _ _|exact Pt h _ _ _
  |exact zf h _ _ _|exact IY h _ _ _|exact zg h _ _ _ _|exact IZ h _ _ _ _|exact zh h _ _ _|exact Pu h _ _
  |exact Fw h _ _ _ _|exact Lq h _ _ _|exact Lr hc hi h _ _ _|exact Sy h _ _
  |apply br.cond|split
theorem xh(hc:zi call call')(hi:Da inl inl')(ops:Array Oper):∀(l:List Oper) (s:St) (K:Nat->St->Option R) (K':St->Option R),(∀s,br (fun n=>K n s) (K' s))->br (fun n=>lQ P C (call n) (inl n) ops l s (K n)) (lQ P C call' inl' ops l s K')
 |[],s,K,K',h=>h s
 |o::rest,s,K,K',h=>by
  have op:∀fr σ dst fr',br (fun n=>bC P C (call n) (inl n) o fr σ fun a σ=>lQ P C (call n) (inl n) ops rest ⟨iQ fr' dst a,σ⟩ (K n)) (bC P C call' inl' o fr σ fun a σ=>lQ P C call' inl' ops rest ⟨iQ fr' dst a,σ⟩ K'):=fun fr σ dst fr'=>
   I7 (K:=fun n a σ=>lQ P C (call n) (inl n) ops rest ⟨iQ fr' dst a,σ⟩ (K n)) hc hi (fun a σ=>xh hc hi ops rest _ K K' h) o fr σ
  simp only[lQ]
  repeat' first|exact br.const _|exact op _ _ _ _|exact xh hc hi ops rest _ K K' h|apply br.cond|split
theorem tY(hc:zi call call')(hi:Da inl inl')(ops:Array Oper):∀(l:List Oper) (cls:List (List Nat)) (acc:List Trace) (s:St) (K:Nat->St->Option R) (K':St->Option R),(∀s,br (fun n=>K n s) (K' s))->br (fun n=>iw P C (call n) (inl n) ops l cls acc s (K n)) (iw P C call' inl' ops l cls acc s K')
 |[],cls,acc,s,K,K',h=>h s
 |o::rest,cls,acc,s,K,K',h=>by
  have op:∀fr σ dst fr' f lo ld,br (fun n=>bC P C (call n) (inl n) o fr σ fun a σ'=>iw P C (call n) (inl n) ops rest cls.tail (acc++[⟨f,lo,σ'.length,ld⟩]) ⟨iQ fr' dst a,σ'⟩ (K n)) (bC P C call' inl' o fr σ fun a σ'=>iw P C call' inl' ops rest cls.tail (acc++[⟨f,lo,σ'.length,ld⟩]) ⟨iQ fr' dst a,σ'⟩ K'):=fun fr σ dst fr' f lo ld=>
   I7 (K:=fun n a σ'=>iw P C (call n) (inl n) ops rest cls.tail (acc++[⟨f,lo,σ'.length,ld⟩]) ⟨iQ fr' dst a,σ'⟩ (K n)) hc hi (fun a σ=>tY hc hi ops rest _ _ _ K K' h) o fr σ
  simp only[iw]
  repeat' first|exact br.const _|exact op _ _ _ _ _ _ _|exact tY hc hi ops rest _ _ _ K K' h|apply br.cond|split
end call
section code
variable{P:Program}{C:gD}{call:Nat->cK}{call':cK}{inl:Nat->iv}{inl':iv}{loop:Nat->mo}{yE:mo}
theorem rB{R:Type}(T:List Nat->St)(E:LE){K:Nat->Ex->St->Option R}{K':Ex->St->Option R}(h:∀e s,br (fun n=>K n e s) (K' e s))(fin:List AV->Option R)(r:LR):∀ids,br (fun n=>lV T E (K n) fin r ids) (lV T E K' fin r ids)
 |[]=>br.const _
 |id::ids=>by
  simp only[lV];exact br.cond (br.cond (h _ _) (br.const _)) (rB T E h fin r ids)
theorem Ec{R:Type}{step:Nat->St->(Ex->St->Option R)->Option R}{YI:St->(Ex->St->Option R)->Option R}(hs:∀s (K:Nat->Ex->St->Option R) (K':Ex->St->Option R),(∀e s,br (fun n=>K n e s) (K' e s))->br (fun n=>step n s (K n)) (YI s K')):
  ∀(k:Nat) (s:St) (K:Nat->Ex->St->Option R) (K':Ex->St->Option R),(∀e s,br (fun n=>K n e s) (K' e s))->br (fun n=>xO (step n) k s (K n)) (xO YI k s K')
 |0,s,K,K',h=>br.const _
 |k+1,s,K,K',h=>by
  simp only[xO];refine hs s (fun n e s'=>match e with| .normal=>xO (step n) k s' (K n)|e=>K n e s') _ fun e s'=>?_;cases e with
  |normal=>exact Ec hs k s' K K' h
  |exit i=>exact h _ _
  |ret=>exact h _ _
theorem tZ(hc:zi call call')(hi:Da inl inl')(hl:Pv loop yE)(iV:Nat)(jn:Bool)(bg:St->Option (List AV)):∀(c:Code) (R:Type) (fin:List AV->Option R) (out:List Nat) (E:LE) (s:St) (K:Nat->Ex->St->Option R) (K':Ex->St->Option R),(∀e s,br (fun n=>K n e s) (K' e s))->
  br (fun n=>ck P C (call n) (inl n) (loop n) iV jn bg c R fin out E s (K n)) (ck P C call' inl' yE iV jn bg c R fin out E s K'):=by
 intro c
 induction c with
 |skip=>intro R fin out E s K K' h;exact h _ _
 |region id ops d=>
  intro R fin out E s K K' h;simp only[ck];exact br.cond (br.cond (tY hc hi ops _ _ _ s (fun n=>K n .normal) _ fun s=>h _ _) (br.const _)) (xh hc hi ops _ s (fun n=>K n .normal) _ fun s=>h _ _)
 |seq a b iha ihb=>
  intro R fin out E s K K' h;simp only[ck];refine br.cond (br.bind (iha _ _ _ _ _ (fun _=>GP bg (live b out E) E) _ fun e s=>br.const _) fun r=>br.cond (br.cond (ihb _ _ _ _ _ K K' h) (br.const _)) (rB _ _ h _ _ _)) ?_;refine iha R fin _ E s (fun n e s'=>match e with| .normal=>ck P C (call n) (inl n) (loop n) iV jn bg b R fin out E s' (K n)|e=>K n e s') _ fun e s'=>?_;cases e with
  |normal=>exact ihb _ _ _ _ _ K K' h
  |exit i=>exact h _ _
  |ret=>exact h _ _
 |cond c a b iha ihb=>
  intro R fin out E s K K' h;simp only[ck];split
  all_goals simp_all [br.cond,br.const]
 |block id c ih=>
  intro R fin out E s K K' h;simp only[ck];refine ih R fin _ _ s (fun n e s'=>match e with| .exit i=>bif Nat.beq i id then K n .normal s' else K n (.exit i) s'|e=>K n e s') _ fun e s'=>?_;grind
 |loop c ih=>
  intro R fin out E s K K' h;simp only[ck];refine br.cond (Ec (step:=fun n s K=>ck P C (call n) (inl n) (loop n) iV jn bg c R fin (sS c E) E s K) (fun s K K' h=>ih _ _ _ _ s K K' h) _ s K K' h) (br.bind (hl _ _ _ _) fun r=>rB _ _ h _ _ _)
 |exit id=>intro R fin out E s K K' h;exact h _ _
 |ret=>intro R fin out E s K K' h;exact h _ _
 |_=>intro R fin out E s K K' h;exact br.const _
theorem I8(hc:zi call call')(hi:Da inl inl'):Da (fun n R f as σ K=>rS P C (call n) (inl n) R f as σ K) (fun R f as σ K=>rS P C call' inl' R f as σ K):=by
 intro R f as σ K K' h;simp only[rS];split
 ·exact br.const _
 ·rename_i fn hfn;split
  ·refine br.cond (br.const _) (tZ (loop:=fun _ _ _ _ _=>none) hc hi (fun _ _ _ _=>br.const _) 0 false _ _ R _ _ _ _ (fun n e s=>match e with| .exit _=>none|_=>match eP P s fn.results.toList with|none=>none|some vs=>K n vs s.bl) _ fun e s=>?_);grind [br.const]
  ·exact br.const _
theorem rC(hc:zi call call'):∀k,Da (fun n=>iR P C (call n) k) (iR P C call' k)
 |0=>fun R f as σ K K' h=>br.const _
 |k+1=>fun R f as σ K K' h=>I8 (inl:=fun n=>iR P C (call n) k) hc (rC hc k) R f as σ K K' h
def ig(P:Program)(C:gD)(call:cK)(inl:iv)(loop:mo)(f:FuncId)(args:List AV):Option (List AV):=
 match P.funcs[f]? with
 |none=>none
 |some fn=>
  match fn.body,fk [] args with
  |some c,some (vs,σ,roots)=>
   bif !(dR fn.ntmps c&&Nat.ble args.length fn.ntmps&&Nat.ble fn.ntmps 1000000&&Nat.beq fn.results.size fn.resultTypes.size)then none else
   let bg:=nj P C f fn roots.length
   ck P C call inl loop (C.roll f) (C.join f) bg c (List AV) some (nk fn) ⟨[],nk fn⟩
    ⟨cQ 0 vs++cQ 1000000 roots,σ⟩ fun e s=>
     match e with
     | .exit _=>none
     |_=>bg s
  |_,_=>none
theorem yF(hc:zi call call')(hi:Da inl inl')(hl:Pv loop yE)(f:FuncId)(args:List AV):br (fun n=>ig P C (call n) (inl n) (loop n) f args) (ig P C call' inl' yE f args):=by
 unfold ig;split
 ·exact br.const _
 ·split
  ·exact br.cond (br.const _) (tZ hc hi hl _ _ _ _ _ _ _ _ _ (fun _ e s=>match e with| .exit _=>none|_=>nj P C f _ _ s) _ fun e s=>br.const _)
  ·exact br.const _
def je(P:Program)(C:gD)(call:cK)(inl:iv)(loop:mo)(iV:Nat)(jn:Bool):mo:=fun c E bg s=>
 ck P C call inl loop iV jn bg c LR (fun outs=>some ⟨none,⟨[],[]⟩,outs⟩) (sS c E) E s fun e s'=>
  match e with
  | .normal=>loop c E bg (canon (sS c E) s')
  | .exit id=>some ⟨some id,canon (sR E.blk id) s',[]⟩
  | .ret=>(bg s').bind fun outs=>some ⟨none,⟨[],[]⟩,outs⟩
theorem yG(hc:zi call call')(hi:Da inl inl')(hl:Pv loop yE)(iV:Nat)(jn:Bool):Pv (fun n=>je P C (call n) (inl n) (loop n) iV jn) (je P C call' inl' yE iV jn):=by
 intro c E bg s;unfold je;refine tZ hc hi hl iV jn bg c LR _ _ E s (fun n e s'=>match e with
  | .normal=>loop n c E bg (canon (sS c E) s')
  | .exit id=>some ⟨some id,canon (sR E.blk id) s',[]⟩
  | .ret=>(bg s').bind fun outs=>some ⟨none,⟨[],[]⟩,outs⟩) _ fun e s'=>?_
 grind [br.const]
end code
section whole
variable(P:Program)(C:gD)
def LeC(c d:cK):Prop:=∀f as,Le (c f as) (d f as)
def LeL(c d:mo):Prop:=∀a b e s,Le (c a b e s) (d a b e s)
variable{P C}
theorem Ed{α:Type}{x y:Option α}{a:Nat->Option α}(h:br a y)(e:a 0=x):Le x y:=fun r hr=>h.up 0 r (e.trans hr)
theorem Sz{c d:cK}(h:LeC c d){l k:mo}(hl:LeL l k)(iV:Nat)(jn:Bool):LeL (je P C c (iR P C c 5) l iV jn) (je P C d (iR P C d 5) k iV jn):=fun a b e s=>by
 have hc:zi (fun n f as=>two (c f as) (d f as) n) d:=fun f as=>zG (h f as);have:=yG (P:=P) (C:=C) (loop:=fun n a b e s=>two (l a b e s) (k a b e s) n) hc (rC (P:=P) (C:=C) hc 5) (fun a b e s=>zG (hl a b e s)) iV jn a b e s;exact Ed this rfl
theorem Wi{c d:cK}(h:LeC c d){l k:mo}(hl:LeL l k):LeC (ig P C c (iR P C c 5) l) (ig P C d (iR P C d 5) k):=fun f as=>by
 have hc:zi (fun n f as=>two (c f as) (d f as) n) d:=fun f as=>zG (h f as);have:=yF (P:=P) (C:=C) (loop:=fun n a b e s=>two (l a b e s) (k a b e s) n) hc (rC (P:=P) (C:=C) hc 5) (fun a b e s=>zG (hl a b e s)) f as;exact Ed this rfl
theorem sj{c d:cK}(h:LeC c d)(iV:Nat)(jn:Bool):∀n m,n<=m->LeL (iW P C c (iR P C c 5) iV jn n) (iW P C d (iR P C d 5) iV jn m)
 |0,_,_=>fun _ _ _ _ _ e=>by cases e
 |n+1,0,hl=>by omega
 |n+1,m+1,hl=>Sz h (sj h iV jn n m (by omega)) iV jn
theorem aak{f:FuncId}{as:List AV}{x y:Option (List AV)}(h:Le x y):Le (fC C f as x) (fC C f as y):=by
 unfold fC;split
 ·exact fun r hr=>hr
 ·exact h
theorem Wj{f:FuncId}{as:List AV}{x:Nat->Option (List AV)}{y:Option (List AV)}(h:br x y):br (fun n=>fC C f as (x n)) (fC C f as y):=by
 unfold fC;split
 ·exact br.const _
 ·exact h
theorem I9(n:Nat)(f:FuncId)(as:List AV):uF P C (n+1) f as=fC C f as (ig P C (uF P C n) (iR P C (uF P C n) 5) (iW P C (uF P C n) (iR P C (uF P C n) 5) (C.roll f) (C.join f) n) f as):=rfl
theorem Fx:∀n,LeC (uF P C n) (uF P C (n+1))
 |0=>fun _ _ _ e=>by cases e
 |n+1=>fun f as=>by
  rw[I9 n,I9 (n+1)];exact aak (Wi (Fx n) (sj (Fx n) _ _ n (n+1) (by omega)) f as)
theorem BK{n m:Nat}(h:n<=m):LeC (uF P C n) (uF P C m):=by
 induction m with
 | zero => obtain rfl : n = 0 := by omega
           exact fun _ _ _ h=>h
 |succ m ih=>
  by_cases e:n=m+1
  ·subst e;exact fun _ _ _ h=>h
  ·exact fun f as r hr=>Fx m f as r (ih (by omega) f as r hr)
variable(P C)
noncomputable def wq:cK:=fun f as=>qy fun n=>uF P C n f as
noncomputable def kV(f:FuncId):mo:=fun c E bg s=>qy fun n=>iW P C (uF P C n) (iR P C (uF P C n) 5) (C.roll f) (C.join f) n c E bg s
noncomputable def lpL(f k nr:Nat)(s:St):Option LR:=kV P C f (nR P f k).1 (nR P f k).2 (GQ P C f nr) s
variable{P C}
theorem pR:zi (uF P C) (wq P C):=fun f as=>Nx fun _ _ r h e=>BK h f as r e
theorem xj(f:FuncId):Pv (fun n=>iW P C (uF P C n) (iR P C (uF P C n) 5) (C.roll f) (C.join f) n) (kV P C f):=fun c E bg s=>
 Nx fun n m r h e=>sj (BK h) _ _ n m h c E bg s r e
theorem Ls(f:FuncId):Pv (fun n=>iW P C (uF P C (n+1)) (iR P C (uF P C (n+1)) 5) (C.roll f) (C.join f) n) (kV P C f):=fun c E bg s=>
 (xj f c E bg s).Wg (fun n m r h e=>sj (BK (by omega)) _ _ n m h c E bg s r e) (fun n r e=>sj (Fx n) _ _ n n (dk n) c E bg s r e)
  (fun n r e=>sj (fun _ _ _ h=>h) _ _ n (n+1) (by omega) c E bg s r e)
theorem Lt(f:FuncId)(as:List AV):wq P C f as=fC C f as (ig P C (wq P C) (iR P C (wq P C) 5) (kV P C f) f as):=
 ((pR f as).shift).unique (Wj (yF pR (rC pR 5) (xj f) f as))
theorem Ja(f:FuncId)(c:Code)(E:LE)(bg:St->Option (List AV))(s:St):kV P C f c E bg s=je P C (wq P C) (iR P C (wq P C) 5) (kV P C f) (C.roll f) (C.join f) c E bg s:=
 ((xj f c E bg s).shift).unique (yG (call:=fun n=>uF P C (n+1)) (loop:=fun n=>iW P C (uF P C (n+1)) (iR P C (uF P C (n+1)) 5) (C.roll f) (C.join f) n)
   (fun f as=>(pR f as).shift) (rC (fun f as=>(pR f as).shift) 5) (Ls f) (C.roll f) (C.join f) c E bg s)
theorem BL{f:FuncId}{as r:List AV}(h:wq P C f as=some r):∃n,uF P C n f as=some r:=(pR f as).down r h
theorem aal{n:Nat}{f:FuncId}{as r:List AV}(h:uF P C n f as=some r):wq P C f as=some r:=(pR f as).up n r h
variable(P C)
noncomputable def jv:cK:=fun f as=>fC C f as (wq P C f as)
variable{P C}
theorem Jb:jv P C=wq P C:=by
 funext f as
 unfold jv;rw[Lt];unfold fC;split<;>rfl
theorem Fy(f:FuncId)(as:List AV):wq P C f as=fC C f as (ig P C (jv P C) (iR P C (jv P C) 5) (kV P C f) f as):=by
 rw[Jb];exact Lt f as
theorem xk(f:FuncId)(c:Code)(E:LE)(bg:St->Option (List AV))(s:St):kV P C f c E bg s=je P C (jv P C) (iR P C (jv P C) 5) (kV P C f) (C.roll f) (C.join f) c E bg s:=by
 rw[Jb];exact Ja f c E bg s
end whole
end
