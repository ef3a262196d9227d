/- Regions,in the order of the text. -/
import Derived.Orders
import Derived.Test.YtnjccbnlmdajkaaGreatEv05
set_option linter.all false
namespace Go.Ev
variable{fr:List (Nat×AV)}{L:Array Bool}{a:Act}{dst:Option Nat}{o:Oper}{v:Value}{c:AV}{j i:Nat}{R:Type}{l:Nat}{q:Bool}{s:St}{rb:RB}{k:Nat}{r:R}
section
abbrev FM:=Nat->AV
def qx(F:FM)(dst:Option Nat)(a:AV):FM:=fun t=>if dst=some t then a else F t
theorem KX(fr:List (Nat×AV))(d t:Nat)(h:t≠d):ax (GH fr d) t=ax fr t:=by
 induction fr with
 |nil=>rfl
 |cons p fr ih=>
  obtain⟨i,a⟩:=p;simp only[GH,ax];by_cases e:i=d
  ·grind [Nat.beq_refl,dY]
  ·rw[dY e];simp only[jz,ax];grind
theorem jH(fr:List (Nat×AV))(dst:Option Nat)(a:AV):ax (iQ fr dst a)=qx (ax fr) dst a:=by
 funext t
 cases dst with
 |none=>simp[iQ,qx]
 |some d=>
  simp only[iQ,qx,ax];by_cases e:d=t
  ·simp_all
  ·rw[dY e,eg (fun h=>e (by injection h))];grind [KX]
theorem wP{F:FM}{d:Nat}{a:AV}(h:F d=a):qx F (some d) a=F:=by
 funext t
 unfold qx;grind
def kT(G:Nat->Value)(a:Act)(t:Nat):Value:=if t<1000000 then a.tmps.getD t undef else G t
def FR(μ:Mu)(ρ:bD)(G:Nat->Value)(F:FM)(a:Act):Prop:=∀t,VR μ ρ (F t) (kT G a t)
theorem uY{μ:Mu}{ρ:bD}{G:Nat->Value}{x:Operand}(h:∀t,x=.tmp t->VR μ ρ (ax fr t) (kT G a t)):VR μ ρ (fP fr x) (a.eval x):=by
 cases x with
 |tmp t=>
  simp only[fP,EF,Act.eval];cases hb:Nat.blt t 1000000 with
  |false=>exact .un
  |true=>
   have hlt:t<1000000:=by simpa [AT]using hb
   have:=h t rfl;unfold kT at this;grind
 |const v=>exact OG v
 |func f=>exact .c (.d (.eN (fs:=[]) (cs:=[]) rfl rfl (fun k u v hu=>by simp at hu) (fun k u v hu=>by simp at hu)))
 |global g=>exact .un
theorem FR.ops{μ:Mu}{ρ:bD}{G:Nat->Value}(h:FR μ ρ G (ax fr) a)(o:Oper):C0 μ ρ fr a o:=fun _ _=>uY fun t _=>h t
theorem FR.mono{μ μ':Mu}{ρ ρ':bD}{G:Nat->Value}{F:FM}{a:Act}(h:FR μ ρ G F a)(h1:ak μ μ')(h2:bV ρ ρ'):FR μ' ρ' G F a:=fun t=>(h t).mono h1 h2
theorem OY{G:Nat->Value}(hd:∀d,dst=some d->d<a.tmps.size/\d<1000000)(t:Nat):kT G (a.put dst v) t=if dst=some t then v else kT G a t:=by
 cases dst with
 |none=>rfl
 |some d=>
  obtain⟨h1,h2⟩:=hd d rfl;by_cases e:d=t
  ·subst e;rw[ee rfl];simp[kT,h2,Act.put,h1]
  ·rw[eg (fun h=>e (by injection h))];simp[kT,Act.put,e]
theorem FR.put{μ:Mu}{ρ:bD}{G:Nat->Value}{F:FM}(h:FR μ ρ G F a){av:AV}(hd:∀d,dst=some d->d<a.tmps.size/\d<1000000)(hv:VR μ ρ av v):FR μ ρ G (qx F dst av) (a.put dst v):=fun t=>by
 rw[OY hd];unfold qx;split
 ·exact hv
 ·exact h t
structure qW where
 m:Mu
 r:bD
 n:Nat
 z:Nat
def qW.zero:qW:=⟨fun _=>none,fun _=>none,0,0⟩
structure Since(B:qW)(μ:Mu)(ρ:bD)(w:World):Prop where
 mu:ak B.m μ
 rU:bV B.r ρ
 dom:∀l rb,l<B.n->ρ l=some rb->B.r l=some rb
 size:B.z<=w.heap.size
theorem Since.zero(μ:Mu)(ρ:bD)(w:World):Since .zero μ ρ w:=⟨fun _ _ h=>(by cases h),fun _ _ h=>(by cases h),fun l _ h=>absurd h (B4 l),nt _⟩
theorem Since.on{B:qW}{μ μ':Mu}{ρ ρ':bD}{w w':World}{p q:Nat}(h:Since B μ ρ w)(h1:ak μ μ')(h2:bV ρ ρ')(hp:B.n<=p)(hd:∀l rb,ρ' l=some rb->ρ l=some rb\/(p<=l/\l<q))(hz:w.heap.size<=w'.heap.size):Since B μ' ρ' w':=
 ⟨h.mu.trans h1,h.rU.trans h2,fun l rb hl hr=>(hd l rb hr).elim (h.dom l rb hl) (fun h3=>absurd (iS hp h3.1) (Nat.not_le_of_lt hl)),iS h.size hz⟩
theorem Since.grow{B:qW}{μ μ':Mu}{ρ ρ':bD}{n n':Nat}{w w':World}(h:Since B μ ρ w)(g:Grow q μ ρ n w μ' ρ' n' w')(hn:B.n<=n):Since B μ' ρ' w':=
 h.on g.mu g.rU hn (fun l rb hl=>(g.dom l rb hl).imp id fun⟨a,b,_⟩=>⟨a,b⟩) g.size
structure Rel(E:Env)(B:qW)(G:Nat->Value)(n:Nat)(F:FM)(σ:Store)(a:Act)(w:World):Prop where
 ex:∃μ ρ,FR μ ρ G F a/\SR E μ ρ σ w/\CZ ρ σ.length/\Since B μ ρ w
 base:B.n<=σ.length
 size:a.tmps.size=n
 defers:a.defers=[]
theorem CZ.fresh{ρ:bD}{n m:Nat}(h:CZ ρ n):bu ρ n m:=fun l h1 _=>by
 cases e:ρ l with
 |none=>rfl
 |some rb=>have:=h l rb e;omega
theorem CZ.grow{μ μ':Mu}{ρ ρ':bD}{n n':Nat}{w w':World}(h:CZ ρ n)(g:Grow q μ ρ n w μ' ρ' n' w'):CZ ρ' n':=fun l rb hl=>by
 rcases g.dom l rb hl with h1|⟨_,h1,_⟩
 ·exact wx (h l rb h1) g.len
 ·exact h1
theorem AZ:(a.put dst v).tmps.size=a.tmps.size:=by cases dst<;>simp[Act.put]
theorem put_defers:(a.put dst v).defers=a.defers:=by cases dst<;>rfl
def ou(ops:Array Oper)(o:Oper)(F:FM):Prop:=
 o.guard=none\/ ∃j want oj d,o.guard=some (j,want)/\ops[j]?=some oj/\oj.dst=some d/\F d=.v (.bool want)
def uZ(ops:Array Oper)(o:Oper)(F:FM):Prop:=
 ∃j want oj d,o.guard=some (j,want)/\ops[j]?=some oj/\oj.dst=some d/\(F d=.v (.bool (!want))\/ ∃u,F d=.v (.tuple u))
def Yy(P:Program)(C:gD)(ops:Array Oper)(o:Oper)(s s':FM×Store):Prop:=
 (ou ops o s.1/\∃fr av σ',ax fr=s.1/\s'=(qx s.1 o.dst av,σ')/\s.2.length<=σ'.length/\(bR P C o=true->∃τ,σ'=s.2++τ)/\(aY P C o=0->σ'=s.2/\MZ P o fr av)/\DG P C (bR P C o) o fr s.2 av σ')\/
 (uZ ops o s.1/\s'=(qx s.1 o.dst (.v (.tuple #[])),s.2))
inductive ye(P:Program)(C:gD)(ops:Array Oper):List Oper->FM×Store->FM×Store->Prop
 |nil (s:FM×Store):ye P C ops [] s s
 |cons {o:Oper} {l:List Oper} {s s1 s2:FM×Store} (h:Yy P C ops o s s1) (k:ye P C ops l s1 s2):ye P C ops (o::l) s s2
section
variable{P:Program}{C:gD}{call:cK}{inl:iv}
theorem OZ(HC:gZ P C call inl){ops:Array Oper}{σ:Store}{K:AV->Store->Option R}(h:bC P C call inl o fr σ K=some r)(F:FM)(hF:ax fr=F)(hg:ou ops o F):
  ∃av σ',K av σ'=some r/\Yy P C ops o (F,σ) (qx F o.dst av,σ'):=by
 by_cases hc:aY P C o=0
 ·obtain⟨av,hk,hp⟩:=wJ h hc;exact⟨av,σ,hk,.inl ⟨hg,fr,av,σ,hF,rfl,dk _,fun _=>⟨[],by simp⟩,fun _=>⟨rfl,hp⟩,Hg fun E μ ρ a w hx _=>hp μ ρ a w hx⟩⟩
 ·obtain⟨av,σ',hk,qQ,hpre,hs⟩:=mA HC h;exact⟨av,σ',hk,.inl ⟨hg,fr,av,σ',hF,rfl,qQ,hpre,fun e=>absurd e hc,hs⟩⟩
theorem qX(HC:gZ P C call inl){R:Type}{ops:Array Oper}{K:St->Option R}{r:R}:∀(l:List Oper) (s:St),lQ P C call inl ops l s K=some r->
  ∃s':St,K s'=some r/\ye P C ops l (ax s.fr,s.bl) (ax s'.fr,s'.bl)
 |[],s,h=>⟨s,h,.nil _⟩
 |o::rest,s,h=>by
  simp only[lQ]at h;have yes:∀(fr:List (Nat×AV)),ax fr=ax s.fr->ou ops o (ax s.fr)->bC P C call inl o fr s.bl (fun a σ=>lQ P C call inl ops rest ⟨iQ fr o.dst a,σ⟩ K)=some r->
    ∃s':St,K s'=some r/\ye P C ops (o::rest) (ax s.fr,s.bl) (ax s'.fr,s'.bl):=fun fr hF hg h=>by
   obtain⟨av,σ',hk,hs⟩:=OZ HC h _ hF hg;obtain⟨s',h1,h2⟩:=qX HC rest _ hk;refine⟨s',h1,.cons hs ?_⟩;simp_all [jH]
  have no:∀(fr:List (Nat×AV)),ax fr=ax s.fr->uZ ops o (ax s.fr)->lQ P C call inl ops rest ⟨iQ fr o.dst (.v (.tuple #[])),s.bl⟩ K=some r->
    ∃s':St,K s'=some r/\ye P C ops (o::rest) (ax s.fr,s.bl) (ax s'.fr,s'.bl):=fun fr hF hg h=>by
   obtain⟨s',h1,h2⟩:=qX HC rest _ h;refine⟨s',h1,.cons (.inr ⟨hg,rfl⟩) ?_⟩;simp_all [jH]
  split at h
  ·rename_i hg;exact yes s.fr rfl (.inl hg) h
  ·rename_i j want hg;split at h
   ·cases h
   ·rename_i oj hoj;split at h
    ·cases h
    ·rename_i d hd;split at h
     ·rename_i b hb;have hput:∀c:Bool,b=c->ax (iQ s.fr (some d) (.v (.bool c)))=ax s.fr:=fun c e=>by
       rw[jH];exact wP (by rw[hb,e])
      cases want with
      |true=>
       rcases aM h with⟨e,h⟩|⟨e,h⟩
       ·exact yes _ (hput _ e) (.inr ⟨j,true,oj,d,hg,hoj,hd,by rw[hb,e]⟩) h
       ·exact no _ (hput _ e) ⟨j,true,oj,d,hg,hoj,hd,.inl (by rw[hb,e];rfl)⟩ h
      |false=>
       rcases aM h with⟨e,h⟩|⟨e,h⟩
       ·exact no _ (hput _ e) ⟨j,false,oj,d,hg,hoj,hd,.inl (by rw[hb,e];rfl)⟩ h
       ·exact yes _ (hput _ e) (.inr ⟨j,false,oj,d,hg,hoj,hd,by rw[hb,e]⟩) h
     ·rename_i u hu;exact no s.fr rfl ⟨j,want,oj,d,hg,hoj,hd,.inr ⟨u,hu⟩⟩ h
     ·cases h
theorem A3{μ:Mu}{ρ:bD}{G:Nat->Value}{F:FM}{ops:Array Oper}(hg:ou ops o F)(hd:∀(j:Nat) (oj:Oper) (d:Nat),ops[j]?=some oj->oj.dst=some d->d<a.tmps.size/\d<1000000)
  (h:∀(j:Nat) (want:Bool) (oj:Oper) (d:Nat),o.guard=some (j,want)->ops[j]?=some oj->oj.dst=some d->VR μ ρ (F d) (kT G a d)):Region.wanted o (yielded ops a.tmps)=true:=by
 rcases hg with hg|⟨j,want,oj,d,hg,hoj,ma,hF⟩
 ·simp[Region.wanted,hg]
 ·obtain⟨h1,h2⟩:=hd j oj d hoj ma;have:=h j want oj d hg hoj ma;rw[hF]at this;have hv:=this.dB;simp only[kT,ee h2]at hv;have hg':a.tmps[d]?=some (.bool want):=by
   simp_all
  simp[Region.wanted,hg,yielded,hoj,ma,hg']
theorem DN{μ:Mu}{ρ:bD}{G:Nat->Value}{F:FM}{ops:Array Oper}(hg:uZ ops o F)(hd:∀(j:Nat) (oj:Oper) (d:Nat),ops[j]?=some oj->oj.dst=some d->d<a.tmps.size/\d<1000000)
  (h:∀(j:Nat) (want:Bool) (oj:Oper) (d:Nat),o.guard=some (j,want)->ops[j]?=some oj->oj.dst=some d->VR μ ρ (F d) (kT G a d)):Region.wanted o (yielded ops a.tmps)=false:=by
 obtain⟨j,want,oj,d,hg,hoj,ma,hF⟩:=hg;obtain⟨h1,h2⟩:=hd j oj d hoj ma;have:=h j want oj d hg hoj ma;rcases hF with hF|⟨u,hF⟩
 ·rw[hF]at this;have hv:=this.dB;simp only[kT,ee h2]at hv;have hg':a.tmps[d]?=some (.bool (!want)):=by
   simp_all
  cases want<;>simp[Region.wanted,hg,yielded,hoj,ma,hg']
 ·rw[hF]at this;have hv:=this.dB;simp only[kT,ee h2]at hv;have hg':a.tmps[d]?=some (.tuple u):=by
   simp_all
  simp[Region.wanted,hg,yielded,hoj,ma,hg']
def DP(ops:Array Oper)(n:Nat):Prop:=∀(j:Nat) (oj:Oper) (d:Nat),ops[j]?=some oj->oj.dst=some d->d<n/\d<1000000
theorem tM{E:Env}{B:qW}{G:Nat->Value}{n:Nat}{ops:Array Oper}{Q:Exit->Act->World->Prop}(hd:DP ops n):∀(l:List Oper) (k:Nat) (s s':FM×Store),ops.toList.drop k=l->ye P C ops l s s'->∀(a:Act) (w:World),Rel E B G n s.1 s.2 a w->
  (∀a w,Rel E B G n s'.1 s'.2 a w->Q .normal a w)->wpOps P ops Q (List.range' k l.length) a w
 |[],k,s,s',_,hc,a,w,hr,hQ=>by
  cases hc;exact hQ a w hr
 |o::l,k,s,s',hl,hc,a,w,hr,hQ=>by
  cases hc with
  |cons hstep hrest=>
   have hok:ops[k]?=some o:=by
    rw[<-pD];have:(ops.toList.drop k)[0]?=some o:=by rw[hl];rfl
    simpa using this
   have hl':ops.toList.drop (k+1)=l:=by rw[<-yk,hl];rfl
   obtain⟨⟨μ,ρ,hfr,iY,ve,tN⟩,hbase,hsz,M8⟩:=hr;have hd':∀(j:Nat) (oj:Oper) (d:Nat),ops[j]?=some oj->oj.dst=some d->d<a.tmps.size/\d<1000000:=fun j oj d h1 h2=>by rw[hsz];exact hd j oj d h1 h2
   have VT:∀d,o.dst=some d->d<a.tmps.size/\d<1000000:=fun d e=>hd' k o d hok e;simp only[ki,List.range'_succ,wpOps,hok];rcases hstep with⟨hg,fr,av,σ',hF,hs1,hlen,_,_,hs⟩|⟨hg,hs1⟩
   ·rw[A3 hg hd' (fun j want oj d _ _ _=>hfr d)];simp only[xt];left;refine hs E μ ρ a w _ Q (FR.ops (by rw[hF];exact hfr) o) iY ve.fresh (fun _ _=>ve) fun v w' μ' ρ' hgr hv Z1=>?_;refine tM hd l (k+1) _ s' hl' hrest _ w' ?_ hQ;rw[hs1];exact⟨⟨μ',ρ',(hfr.mono hgr.mu hgr.rU).put VT hv,Z1,ve.grow hgr,tN.grow hgr hbase⟩,iS hbase hlen,AZ.trans hsz,put_defers.trans M8⟩
   ·rw[DN hg hd' (fun j want oj d _ _ _=>hfr d)];simp only[tx,tm];refine tM hd l (k+1) _ s' hl' hrest _ w ?_ hQ;rw[hs1];exact⟨⟨μ,ρ,hfr.put VT .sk,iY,ve,tN⟩,hbase,AZ.trans hsz,put_defers.trans M8⟩
end
end
section
theorem A4{n j:Nat}:∀(l:List Nat),gY j (Kz n l)=true->j=n\/gY j l=true
 |[],h=>by
  simp only[Kz,gY,Bool.or_false]at h;simp_all
 |m::r,h=>by
  simp only[Kz]at h;cases h1:Nat.beq n m with
  |true=>rw[h1]at h;exact .inr h
  |false=>
   rw[h1]at h;simp only[jz]at h;cases h2:Nat.blt n m with
   |true=>
    rw[h2]at h;simp only[me]at h;rw[gY,pC]at h;simp_all
   |false=>
    rw[h2]at h;simp only[jz]at h;rw[gY,pC]at h;rcases h with h|h
    ·exact .inr (by rw[gY,h];rfl)
    ·rcases A4 r h with h|h
     ·exact .inl h
     ·exact .inr (by rw[gY,h,KB])
theorem HZ{j:Nat}:∀(a b:List Nat),gY j (Ri a b)=true->gY j a=true\/gY j b=true
 |[],b,h=>.inr h
 |x::a,b,h=>by
  simp only[Ri]at h;rcases HZ a _ h with h|h
  ·exact .inl (by rw[gY,h,KB])
  ·rcases A4 b h with h|h
   ·exact .inl (by rw[gY,h,Hc];rfl)
   ·exact .inr h
theorem vf{j:Nat}:∀(l:List Nat),gY j l=true↔j∈l
 |[]=>by simp[gY]
 |m::r=>by
  rw[gY,pC,vf r,ft];constructor
  ·rintro(h|h)
   ·exact .inl (cj h)
   ·exact .inr h
  ·rintro(h|h)
   ·exact .inl (by rw[h,Hc])
   ·exact .inr h
theorem RS(ops:List Oper):xN ops=ops.foldl (fun acc o=>acc++[Oz acc o]) []:=rfl
theorem RT{acc:List (List Nat)}(h:gY j (Oz acc o)=true):∃e∈o.after,Region.binds .any e=true/\(j=e.on\/gY j (acc.getD e.on [])=true):=by
 have key:∀(l:List Edge) (s:List Nat),gY j (l.foldl (fun s e=>bif Region.binds .any e then Ri (Kz e.on (acc.getD e.on [])) s else s) s)=true->
   gY j s=true\/ ∃e∈l,Region.binds .any e=true/\(j=e.on\/gY j (acc.getD e.on [])=true):=by
  intro l
  induction l with
  |nil=>intro s h;exact .inl h
  |cons e l ih=>
   intro s h;simp only[FG]at h;rcases ih _ h with h|⟨e',h1,h2⟩
   ·cases hb:Region.binds .any e with
    |true=>
     rw[hb]at h;rcases HZ _ _ h with h|h
     all_goals simp_all [A4]
    |false=>rw[hb]at h;exact .inl h
   grind
 rcases key _ _ h with h|⟨e,h1,h2⟩
 ·cases h
 grind
theorem A5:∀(l:List Oper) (acc:List (List Nat)),let res:=l.foldl (fun acc o=>acc++[Oz acc o]) acc
  res.length=acc.length+l.length/\(∀i,i<acc.length->res.getD i []=acc.getD i [])/\
   ∀k o,l[k]?=some o->∃acc':List (List Nat),acc'.length=acc.length+k/\(∀i,i<acc.length+k->acc'.getD i []=res.getD i [])/\res.getD (acc.length+k) []=Oz acc' o
 |[],acc=>⟨rfl,fun _ _=>rfl,fun k o h=>by simp at h⟩
 |o::l,acc=>by
  obtain⟨h1,h2,h3⟩:=A5 l (acc++[Oz acc o]);simp only[FG];simp only[ec,List.length_singleton]at h1 h2 h3;refine⟨by rw[h1];simp;omega,fun i hi=>?_,fun k o' hk=>?_⟩
  all_goals grind
theorem O0{ops:List Oper}(ho:ops[i]?=some o)(hlt:∀e∈o.after,Region.binds .any e=true->e.on<i)(h:gY j ((xN ops).getD i [])=true):
  ∃e∈o.after,Region.binds .any e=true/\(j=e.on\/gY j ((xN ops).getD e.on [])=true):=by
 obtain⟨_,_,h3⟩:=A5 ops [];obtain⟨acc',e1,e2,e3⟩:=h3 i o ho;simp only[rh,gv]at e1 e2 e3;grind [RS,RT]
section
structure jI(ops:Array Oper)(cl:Nat->Nat->Prop):Prop where
 lt:∀(i:Nat) (o:Oper),ops[i]?=some o->∀e∈o.after,Region.binds .any e=true->e.on<i
 mem:∀(i:Nat) (o:Oper) (j:Nat),ops[i]?=some o->cl i j->∃e∈o.after,Region.binds .any e=true/\(j=e.on\/cl e.on j)
 apart:∀(i j:Nat) (a b:Oper),i<j->ops[i]?=some a->ops[j]?=some b->cl j i\/Aj ops a b=true
theorem vg{ops:Array Oper}{b:Oper}{cl:List Nat}:∀(l:List Oper) (i:Nat),uB ops b cl i l=true->∀q a,l[q]?=some a->gY (i+q) cl=true\/Aj ops a b=true
 |[],_,_,q,a,hq=>by simp at hq
 |x::l,i,h,q,a,hq=>by
  simp only[uB,dd,pC]at h;cases q with
  |zero=>grind
  |succ q=>
   have:=vg l (i+1) h.2 q a (by simpa using hq);grind
theorem vk{ops:Array Oper}{all:List Oper}:∀(bs:List Oper) (j:Nat) (cls:List (List Nat)),zy ops all j bs cls=true->∀k b,bs[k]?=some b->
  (∀e∈b.after,Region.binds .any e=true->e.on<j+k)/\uB ops b (cls.getD k []) 0 (all.take (j+k))=true
 |[],_,_,_,k,b,hk=>by simp at hk
 |x::bs,j,cls,h,k,b,hk=>by
  simp only[zy,dd]at h;obtain⟨⟨h1,h2⟩,h3⟩:=h;cases k with
  |zero=>
   simp at hk;subst hk;refine⟨fun e he hb=>?_,?_⟩
   ·grind [Array.all_eq_true_iff_forall_mem,Nat.blt_eq]
   ·rw[na];cases cls with
    |nil=>exact h2
    |cons c cls=>exact h2
  |succ k=>
   obtain⟨h4,h5⟩:=vk bs (j+1) cls.tail h3 k b (by simpa using hk);grind
theorem O1{ops:Array Oper}(h:EL ops=true):jI ops fun i j=>gY j ((xN ops.toList).getD i [])=true:=by
 simp only[EL,dd]at h;have hs:=vk _ _ _ h.2;have hlt:∀(i:Nat) (o:Oper),ops[i]?=some o->∀e∈o.after,Region.binds .any e=true->e.on<i:=fun i o ho e he hb=>by
  simp_all
 refine⟨hlt,fun i o j ho hc=>O0 (by grind) (hlt i o ho) hc,fun i j a b hij ha hb=>?_⟩;have:=(hs j b (by grind)).2;have:=vg _ _ this i a (by grind);simpa using this
theorem H9{ops:Array Oper}{a b:Oper}(h:Aj ops a b=true):
  (∀d,a.dst=some d->d∉nN ops b)/\(∀d,a.dst=some d->b.dst≠some d)/\(∀d,b.dst=some d->d∉nN ops a):=by
 simp only[Aj,dd]at h;obtain⟨h1,h2⟩:=h;refine⟨fun d hd=>?_,fun d hd e=>?_,fun d hd=>?_⟩
 ·rw[hd]at h1;simp only[dd,pk]at h1;grind [vf]
 ·simp_all
 grind [Bool.not_eq_true',vf]
/-! ## aeQ-/
def zC(p:Option (List Nat))(l:Nat):Bool:=match p with|none=>true|some L=>gY l L
theorem KY{a b:List Nat}(h:MU a b=false)(l:Nat)(h1:gY l a=true)(h2:gY l b=true):False:=by
 induction a with
 |nil=>cases h1
 |cons x a ih=>
  simp only[MU,km]at h;rw[gY,pC]at h1;simp_all
theorem wQ{p q:Option (List Nat)}(h:meet p q=false)(l:Nat)(h1:zC p l=true)(h2:zC q l=true):False:=by
 cases p with
 |none=>
  cases q with
  |none=>cases h
  |some b=>
   cases b with
   |nil=>cases h2
   |cons x b=>cases h
 |some a=>
  cases q with
  |none=>
   cases a with
   |nil=>cases h1
   |cons x a=>cases h
  |some b=>exact KY h l h1 h2
theorem KZ{lo hi:Nat}{L:List Nat}(h:MV lo hi L=false)(l:Nat)(hl:gY l L=true)(h1:lo<=l)(h2:l<hi):False:=by
 induction L with
 |nil=>cases hl
 |cons x L ih=>
  simp only[MV,km]at h;rw[gY,pC]at hl;grind [Nat.eq_of_beq_eq_true,Nat.ble_eq_true_of_le,Nat.blt_eq]
structure mb(a:Trace)(g:cD):Prop where
 pl:∀l,zC a.f.put l=true->zC g.look l=true->False
 lp:∀l,zC a.f.look l=true->zC g.put l=true->False
 pp:∀l,zC a.f.put l=true->zC g.put l=true->False
 mks:∀l,a.lo<=l->l<a.hi->zC g.put l=true->False
 top:a.f.put=none->g.nw=false
 agU:g.put=none->a.f.nw=false
 ld:a.ld=true->g.nw=false
theorem K1{a:Trace}{g:cD}(h:clash a g=false):mb a g:=by
 simp only[clash,km]at h;obtain⟨⟨⟨⟨⟨⟨h0,h1⟩,h2⟩,h3⟩,h4⟩,h5⟩,h6⟩:=h;refine⟨fun l=>wQ h3 l,fun l=>wQ h4 l,fun l=>wQ h5 l,fun l e1 e2 e3=>?_,fun e=>?_,fun e=>?_,fun e=>by rw[e]at h0;exact h0⟩
 ·cases hp:g.put with
  |none=>
   rw[hp]at h2;simp only[ago,tw,km]at h2;grind [Nat.blt_eq]
  |some L=>
   rw[hp]at h6 e3;exact KZ h6 l e3 e1 e2
 ·rw[e]at h1;simp only[ago,tw,cD.touch,km]at h1;exact h1.1.1
 ·rw[e]at h2;simp only[ago,tw,cD.touch,km]at h2;exact h2.1.1.1
theorem K2(a:Trace):mb a .no:=
 ⟨fun _ _ h=>(by cases h),fun _ _ h=>(by cases h),fun _ _ h=>(by cases h),fun _ _ _ h=>(by cases h),fun _=>rfl,fun h=>(by cases h),fun _=>rfl⟩
theorem yf{cl:List Nat}{f:cD}:∀(l:List Trace) (i:Nat),Ak cl f i l=true->∀q a,l[q]?=some a->gY (i+q) cl=true\/mb a f
 |[],_,_,q,a,hq=>by simp at hq
 |x::l,i,h,q,a,hq=>by
  simp only[Ak,dd,pC,pk]at h;cases q with
  |zero=>grind [K1]
  |succ q=>
   have:=yf l (i+1) h.2 q a (by simpa using hq);grind
end
end
section
/-! ## aeR over-/
section
variable{P:Program}{C:gD}{call:cK}{inl:iv}
structure RU(P:Program)(C:gD)(o:Oper)(f:cD)(fr:List (Nat×AV))(σ:Store)(av:AV)(σ':Store):Prop where
 len:σ.length<=σ'.length
 keep:∀l,l<σ.length->zC f.put l=false->σ'[l]?=σ[l]?
 nw:f.nw=false->σ'.length=σ.length
 snd:∀τ:Store,τ.length=σ.length->(∀l,zC f.look l=true->τ[l]?=σ[l]?)->∃τ':Store,τ'.length=σ'.length/\(∀l,l<σ.length->zC f.put l=false->τ'[l]?=τ[l]?)/\
  (∀l,(σ.length<=l\/zC f.put l=true)->τ'[l]?=σ'[l]?)/\DG P C (bR P C o) o fr τ av τ'
theorem K3{σ:Store}:aR P C o fr σ=.top\/(∃L W m,aR P C o fr σ=⟨some L,some W,m⟩/\sK C o=false)\/(aR P C o fr σ=⟨none,some [],true⟩/\sK C o=true/\bR P C o=true)\/
  (∃f c,o.op=.call c/\c.callee=.value (.func f)/\C.inl f=false/\C.CM f=none/\C.pr f=none/\aR P C o fr σ=⟨none,some (c.args.toList.flatMap fun x=>refs σ (fP fr x)),true⟩):=by
 cases ho:o.op with
 |call c=>
  simp only[aR,sK,ho];split
  ·grind
  ·grind
  ·grind
  ·rename_i hc;exact .inr (.inl ⟨_,_,_,rfl,by simp only[hc]⟩)
  ·rename_i hc;exact .inr (.inl ⟨_,_,_,rfl,by simp only[hc]⟩)
  ·rename_i f hc;split
   ·rename_i fn hfn;cases hmv:Ai C f with
    |true=>grind
    |false=>
    simp only[jz];cases hiu:(C.inl f||(C.CM f).isSome||(C.pr f).isSome)with
    |true=>exact .inl rfl
    |false=>
     rw[km,km]at hiu;obtain⟨hiu,Ks⟩:=hiu;have Ks:C.pr f=none:=by simp_all
     cases hb:((C.rw f).any id||xM P C f fn)with
     |true=>simp_all
     |false=>exact .inr (.inr (.inl ⟨rfl,by simp only[hc,hmv];rfl,by simp only[bR,aY,ho,hc,hfn,hiu.1,ID,hb];rfl⟩))
   ·exact .inl rfl
  ·exact .inl rfl
 |slice t x lo hi mx=>
  simp only[aR,sK,ho];grind
 |buildSlice t n ps=>
  simp only[aR,sK,ho];grind
 |store t x y=>
  simp only[aR,sK,ho];grind
 |move x=>
  refine .inr (.inl ?_);simp only[aR,sK,ho];split
  ·grind
  ·simp_all
  ·exact⟨_,_,_,rfl,trivial⟩
  all_goals simp_all
 |assign x=>
  refine .inr (.inl ?_);simp only[aR,sK,ho];split
  all_goals first|exact⟨_,_,_,rfl,trivial⟩|simp_all
 |_=>first|(refine .inr (.inl ?_);simp only[aR,sK,ho];exact⟨_,_,_,rfl,trivial⟩)|(left;simp only[aR,ho];done)
theorem Fh(c:Bool){f g:cD}(hf:f.nw=true)(hg:g.nw=true):(cond c f g).nw=true:=by cases c<;>assumption
theorem O2{σ σ':Store}{av:AV}(hn:(aR P C o fr σ).nw=false)(h:bC P C call inl o fr σ pr=some (av,σ')):σ'=σ:=by
 by_cases hc:aY P C o=0
 ·grind [wJ,Option.some.injEq,Prod.mk.injEq]
 have fin:∀{av':AV},pr av' σ=some (av,σ')->σ'=σ:=fun hk=>by
  grind
 cases ho:o.op with
 |load t x=>
  simp only[bC,ho]at h;grind [oV]
 |indexAddr t x i=>
  simp only[bC,ho]at h;grind [ny]
 |slice t x lo hi mx=>
  cases mx with
  |some m=>simp only[bC,ho]at h;cases h
  |none=>
   simp only[bC,ho]at h;simp only[aR,ho]at hn;grind [sV]
 |call c=>
  simp only[aR,ho]at hn;simp only[bC,ho]at h;split at hn
  ·grind [xU]
  ·split at hn<;>cases hn
  ·split at hn<;>cases hn
  ·grind
  ·grind
  ·split at hn
   ·rw[Fh _ rfl (Fh _ rfl (Fh _ rfl rfl))]at hn;cases hn
   ·cases hn
  ·cases hn
 |store t x y=>
  simp only[aR,ho]at hn;cases hy:VC (fP fr y)with
  |true=>rw[hy]at hn;cases hn
  |false=>
   rw[hy]at hn;simp only[jz]at hn;split at hn
   ·split at hn
    ·rename_i b _;cases hb:b.obj<;>rw[hb]at hn<;>cases hn
    ·cases hn
   ·cases hn
 |buildSlice t n ps=>
  simp only[aR,ho]at hn;cases hn
 |move x=>
  cases x with
  |const v=>
   cases v with
   |slice a l c=>simp only[aR,ho]at hn;cases hn
   |_=>exact absurd (by simp only[aY,ho]) hc
  |_=>exact absurd (by simp only[aY,ho]) hc
 |assign x=>
  cases x with
  |const v=>
   cases v with
   |slice a l c=>simp only[aR,ho]at hn;cases hn
   |_=>exact absurd (by simp only[aY,ho]) hc
  |_=>exact absurd (by simp only[aY,ho]) hc
 |_=>first|(simp only[aR,ho]at hn;cases hn;done)|(exact absurd (by simp only[aY,ho]) hc)
theorem A7{τ σ:Store}(h:∀l:Nat,τ[l]?=σ[l]?):τ=σ:=kj h
theorem K4(HC:gZ P C call inl){σ:Store}{K:AV->Store->Option R}(h:bC P C call inl o fr σ K=some r):
  ∃av σ',K av σ'=some r/\RU P C o (aR P C o fr σ) fr σ av σ':=by
 have strict:aR P C o fr σ=.top\/aR P C o fr σ=⟨none,some [],true⟩/\bR P C o=true->∃av σ',K av σ'=some r/\RU P C o (aR P C o fr σ) fr σ av σ':=fun hf=>by
  obtain⟨av,σ',hk,qQ,hpre,hs⟩:=mA HC h;have hput:∀l,zC (aR P C o fr σ).put l=false->bR P C o=true:=fun l hl=>by
   rcases hf with hf|⟨_,hq⟩
   ·rw[hf]at hl;cases hl
   ·exact hq
  have hnw:(aR P C o fr σ).nw=true:=by rcases hf with hf|⟨hf,_⟩<;>rw[hf]<;>rfl
  have yg:(aR P C o fr σ).look=none:=by rcases hf with hf|⟨hf,_⟩<;>rw[hf]<;>rfl
  have hkeep:∀l,l<σ.length->zC (aR P C o fr σ).put l=false->σ'[l]?=σ[l]?:=fun l hl hp=>by
   grind
  refine⟨av,σ',hk,qQ,hkeep,fun e=>(by rw[hnw]at e;cases e),fun τ hτ jm=>?_⟩
  ·have:τ=σ:=A7 fun l=>jm l (by rw[yg];rfl);grind
 rcases K3 (P:=P) (C:=C) (o:=o) (fr:=fr) (σ:=σ)with hf|⟨L,W,m,hf,hfn⟩|⟨hf,_,hq⟩|⟨f,c,ho,hc,hi,hu,Ks,hf⟩
 ·exact strict (.inl hf)
 ·rw[Hr hfn]at h;obtain⟨⟨av,σ'⟩,h1,hk⟩:=kl.1 h;have hfr:∀τ:Store,τ.length=σ.length->(∀l,gY l L=true->τ[l]?=σ[l]?)->bC P C call inl o fr τ pr=some (av,dV τ σ' W):=fun τ hτ jm=>by
   have:=KU (K:=pr) hτ (call:=call) (inl:=inl) hf (fun l hl=>jm l ((vf _).2 hl));rw[this,Hr hfn,h1];rfl
  have A8:=hfr σ rfl fun _ _=>rfl;rw[h1]at A8;simp only[bj,de,true_and]at A8;obtain⟨av0,σ0,hk0,VU,_⟩:=mA HC h1;simp only[pr,bj,de]at hk0;obtain⟨rfl,rfl⟩:=hk0;rw[hf];refine⟨_,_,hk,VU,fun l hl hp=>?_,fun e=>?_,fun τ hτ jm=>?_⟩
  ·rw[A8,nA hl VU];have:gY l W=false:=hp;rw[this];rfl
  ·grind [O2]
  ·have h2:=hfr τ hτ jm;have hle:τ.length<=σ0.length:=by omega
   refine⟨dV τ σ0 W,uP hle,fun l hl hp=>?_,fun l hl=>?_,?_⟩
   ·rw[nA (by omega) hle];have:gY l W=false:=hp;rw[this];rfl
   ·rcases od l τ.length with h3|h3
    ·rcases hl with hl|hl
     ·omega
     ·rw[nA h3 hle];have:gY l W=true:=hl;rw[this];rfl
    ·exact wM h3
   ·obtain⟨av1,σ1,hk1,_,_,hs1⟩:=mA HC h2;grind
 ·grind
 ·have e0:∀{R:Type} (K:AV->Store->Option R),bC P C call inl o fr σ K=gJ P C call inl σ K f (c.args.toList.map (fP fr)):=fun K=>by
   simp only[bC,ho,hc,fP,Ks,ly,ir]
  rw[e0]at h;obtain⟨av,σ',h1,hk,hkp⟩:=HY hu hi h;obtain⟨av0,σ0,hk0,VU,_,hs⟩:=mA HC ((e0 pr).trans h1);simp only[pr,bj,de]at hk0;obtain⟨rfl,rfl⟩:=hk0;have hkeep:∀l,l<σ.length->zC (aR P C o fr σ).put l=false->σ0[l]?=σ[l]?:=fun l hl hp=>by
   rw[hf]at hp;refine hkp.2 l hl fun hm=>?_;have:gY l (c.args.toList.flatMap fun x=>refs σ (fP fr x))=true:=(vf _).2 (by
    grind)
   exact absurd (show gY l (c.args.toList.flatMap fun x=>refs σ (fP fr x))=false from hp) (by rw[this];decide)
  refine⟨av0,σ0,hk,VU,hkeep,fun e=>(by rw[hf]at e;cases e),fun τ hτ jm=>?_⟩;have:τ=σ:=A7 fun l=>jm l (by rw[hf];rfl);grind
def jb(P:Program)(C:gD)(ops:Array Oper)(o:Oper)(t:Trace)(s s':FM×Store):Prop:=
 ((ou ops o s.1/\t.ld=ldB P C o)/\∃fr av σ',ax fr=s.1/\s'=(qx s.1 o.dst av,σ')/\t.lo=s.2.length/\t.hi=σ'.length/\RU P C o t.f fr s.2 av σ')\/
 (uZ ops o s.1/\s'=(qx s.1 o.dst (.v (.tuple #[])),s.2)/\t=.no)
theorem vm(HC:gZ P C call inl){R:Type}{ops:Array Oper}{K:St->Option R}{r:R}:∀(l:List Oper) (cls:List (List Nat)) (acc:List Trace) (s:St),iw P C call inl ops l cls acc s K=some r->
  ∃(s':St) (ts:List Trace) (S:Nat->FM×Store),K s'=some r/\ts.length=l.length/\S 0=(ax s.fr,s.bl)/\S l.length=(ax s'.fr,s'.bl)/\
   ∀(i:Nat) (o:Oper) (t:Trace),l[i]?=some o->ts[i]?=some t->jb P C ops o t (S i) (S (i+1))/\∀(q:Nat) (g:Trace),q<acc.length+i->(acc++ts)[q]?=some g->gY q (cls.getD i [])=true\/mb g t.f
 |[],cls,acc,s,h=>⟨s,[],fun _=>(ax s.fr,s.bl),h,rfl,rfl,rfl,fun i o t hi=>by simp at hi⟩
 |o::rest,cls,acc,s,h=>by
  have next:∀(t:Trace) (s1:St),iw P C call inl ops rest cls.tail (acc++[t]) s1 K=some r->jb P C ops o t (ax s.fr,s.bl) (ax s1.fr,s1.bl)->
    (∀(q:Nat) (g:Trace),acc[q]?=some g->gY q (cls.headD [])=true\/mb g t.f)->
    ∃(s':St) (ts:List Trace) (S:Nat->FM×Store),K s'=some r/\ts.length=(o::rest).length/\S 0=(ax s.fr,s.bl)/\S (o::rest).length=(ax s'.fr,s'.bl)/\
     ∀(i:Nat) (o':Oper) (t:Trace),(o::rest)[i]?=some o'->ts[i]?=some t->jb P C ops o' t (S i) (S (i+1))/\∀(q:Nat) (g:Trace),q<acc.length+i->(acc++ts)[q]?=some g->gY q (cls.getD i [])=true\/mb g t.f:=fun t s1 h1 hst hnc=>by
   obtain⟨s',ts,S,e1,e2,e3,e4,e5⟩:=vm HC rest _ _ s1 h1;refine⟨s',t::ts,fun i=>match i with|0=>(ax s.fr,s.bl)|i+1=>S i,e1,by simp[e2],rfl,e4,fun i o' t' hi ht=>?_⟩;cases i with
   |zero=>
    simp only[te,bj]at hi ht;subst hi;subst ht;refine⟨?_,fun q g hq hg=>?_⟩
    ·grind
    ·rw[fj (by omega)]at hg;have:=hnc q g hg;cases cls<;>exact this
   |succ i=>
    simp only[td]at hi ht;obtain⟨h2,h3⟩:=e5 i o' t' hi ht;grind
  simp only[iw]at h;have yes:∀(fr:List (Nat×AV)),ax fr=ax s.fr->ou ops o (ax s.fr)->cond (Ak (cls.headD []) (aR P C o fr s.bl) 0 acc) (bC P C call inl o fr s.bl fun a σ=>iw P C call inl ops rest cls.tail (acc++[⟨aR P C o fr s.bl,s.bl.length,σ.length,ldB P C o⟩]) ⟨iQ fr o.dst a,σ⟩ K) none=some r->
    ∃(s':St) (ts:List Trace) (S:Nat->FM×Store),K s'=some r/\ts.length=(o::rest).length/\S 0=(ax s.fr,s.bl)/\S (o::rest).length=(ax s'.fr,s'.bl)/\
     ∀(i:Nat) (o':Oper) (t:Trace),(o::rest)[i]?=some o'->ts[i]?=some t->jb P C ops o' t (S i) (S (i+1))/\∀(q:Nat) (g:Trace),q<acc.length+i->(acc++ts)[q]?=some g->gY q (cls.getD i [])=true\/mb g t.f:=fun fr hF hg h=>by
   obtain⟨hok,h⟩:=ah h;obtain⟨av,σ',hk,hs⟩:=K4 HC h;refine next _ _ hk (.inl ⟨⟨hg,rfl⟩,fr,av,σ',hF,?_,rfl,rfl,hs⟩) fun q g hq=>?_
   ·simp_all [jH]
   ·have:=yf acc 0 hok q g hq;rwa [gv]at this
  have no:∀(fr:List (Nat×AV)),ax fr=ax s.fr->uZ ops o (ax s.fr)->iw P C call inl ops rest cls.tail (acc++[.no]) ⟨iQ fr o.dst (.v (.tuple #[])),s.bl⟩ K=some r->
    ∃(s':St) (ts:List Trace) (S:Nat->FM×Store),K s'=some r/\ts.length=(o::rest).length/\S 0=(ax s.fr,s.bl)/\S (o::rest).length=(ax s'.fr,s'.bl)/\
     ∀(i:Nat) (o':Oper) (t:Trace),(o::rest)[i]?=some o'->ts[i]?=some t->jb P C ops o' t (S i) (S (i+1))/\∀(q:Nat) (g:Trace),q<acc.length+i->(acc++ts)[q]?=some g->gY q (cls.getD i [])=true\/mb g t.f:=fun fr hF hg h=>by
   refine next _ _ h (.inr ⟨hg,?_,rfl⟩) fun q g _=>.inr (K2 g);grind [jH]
  split at h
  ·rename_i hg;exact yes s.fr rfl (.inl hg) h
  ·rename_i j want hg;split at h
   ·cases h
   ·rename_i oj hoj;split at h
    ·cases h
    ·rename_i d hd;split at h
     ·rename_i b hb;have hput:∀c:Bool,b=c->ax (iQ s.fr (some d) (.v (.bool c)))=ax s.fr:=fun c e=>by
       rw[jH];exact wP (by rw[hb,e])
      cases want with
      |true=>
       rcases aM h with⟨e,h⟩|⟨e,h⟩
       ·exact yes _ (hput _ e) (.inr ⟨j,true,oj,d,hg,hoj,hd,by rw[hb,e]⟩) h
       ·exact no _ (hput _ e) ⟨j,true,oj,d,hg,hoj,hd,.inl (by rw[hb,e];rfl)⟩ h
      |false=>
       rcases aM h with⟨e,h⟩|⟨e,h⟩
       ·exact no _ (hput _ e) ⟨j,false,oj,d,hg,hoj,hd,.inl (by rw[hb,e];rfl)⟩ h
       ·exact yes _ (hput _ e) (.inr ⟨j,false,oj,d,hg,hoj,hd,by rw[hb,e]⟩) h
     ·rename_i u hu;exact no s.fr rfl ⟨j,want,oj,d,hg,hoj,hd,.inr ⟨u,hu⟩⟩ h
     ·cases h
end
end
section
theorem RV{a b:Nat}(h:b<=a):Nat.blt a b=false:=by
 grind [Nat.blt_eq]
theorem M9{a b:Nat}(h:a<b):Nat.blt a b=true:=by simp_all
def lJ(L:Array Bool)(i:Nat):Bool:=L.getD i false
def qY(ops:Array Oper)(k:Nat):Option Nat:=(ops[k]?).bind (·.dst)
theorem rZ(hi:i<L.size):lJ (L.setIfInBounds i true) j=(decide (i=j)||lJ L j):=by
 unfold lJ;by_cases e:i=j
 all_goals simp_all
def lS(ops:Array Oper)(S:Nat->FM×Store)(L:Array Bool):Nat->FM
 |0=>(S 0).1
 |k+1=>fun t=>if lJ L k=true/\qY ops k=some t then(S (k+1)).1 t else lS ops S L k t
section
variable{P:Program}{C:gD}{ops:Array Oper}{cl:Nat->Nat->Prop}{S:Nat->FM×Store}{T:Nat->Trace}
theorem DQ(hS:∀(i:Nat) (o:Oper),ops[i]?=some o->jb P C ops o (T i) (S i) (S (i+1))){t:Nat}(hk:k<ops.size)(h:qY ops k≠some t):(S (k+1)).1 t=(S k).1 t:=by
 have hok:ops[k]?=some ops[k]:=ri hk;have hd:ops[k].dst≠some t:=by simpa [qY,hok]using h
 rcases hS k _ hok with⟨_,fr,av,σ',_,h1,_⟩|⟨_,h1,_⟩
 ·rw[h1];simp[qx,hd]
 ·rw[h1];simp[qx,hd]
theorem A9{L:Array Bool}(h:∀i,lJ L i=false):∀k,lS ops S L k=(S 0).1
 |0=>rfl
 |k+1=>by
  funext t
  simp only[lS,h k,tx,false_and,tm,A9 h k]
theorem DS(hS:∀(i:Nat) (o:Oper),ops[i]?=some o->jb P C ops o (T i) (S i) (S (i+1))){L:Array Bool}(h:∀i,i<ops.size->lJ L i=true):∀k,k<=ops.size->lS ops S L k=(S k).1
 |0,_=>rfl
 |k+1,hk=>by
  funext t
  simp only[lS,h k (by omega),true_and,DS hS h k (by omega)];split
  ·rfl
  ·rename_i hd;exact(DQ hS (by omega) hd).symm
theorem qZ(DF:jI ops cl){a b:Oper}(hij:i<j)(ha:ops[i]?=some a)(hb:ops[j]?=some b)(h:¬cl j i):
  (∀d,qY ops i=some d->d∉nN ops b)/\(∀d,qY ops i=some d->qY ops j≠some d)/\(∀d,qY ops j=some d->d∉nN ops a):=by
 have:=H9 ((DF.apart i j a b hij ha hb).resolve_left h);simpa [qY,ha,hb]using this
theorem Ba(DF:jI ops cl)(hS:∀(i:Nat) (o:Oper),ops[i]?=some o->jb P C ops o (T i) (S i) (S (i+1))){L:Array Bool}(hcl:∀i j,lJ L i=true->cl i j->lJ L j=true){i:Nat}{o:Oper}(ho:ops[i]?=some o)
  (hi:lJ L i=false) (hr:∀j,cl i j->lJ L j=true) {t:Nat} (ht:t∈nN ops o):∀k,k<=ops.size->lS ops S L k t=(S (min k i)).1 t
 |0,_=>by simp[lS]
 |k+1,hk=>by
  have ih:=Ba DF hS hcl ho hi hr ht k (by omega);have hok:ops[k]?=some ops[k]:=ri (by omega);simp only[lS];rcases od k i with hki|hki
  ·rw[B3 (show k+1<=i by omega)];rw[B3 (by omega)]at ih;split
   ·rfl
   ·rename_i hn;rw[ih];refine(DQ hS (by omega) fun hd=>?_).symm;grind [qZ]
  ·rw[R0 (show i<=k+1 by omega)];rw[R0 hki]at ih;split
   ·rename_i hn;obtain⟨hl,hd⟩:=hn;have hne:i≠k:=fun e=>by grind
    have:=qZ DF (show i<k by omega) ho hok (fun e=>by grind);grind
   ·exact ih
theorem DT(DF:jI ops cl){L:Array Bool}(hcl:∀i j,lJ L i=true->cl i j->lJ L j=true){i:Nat}{o:Oper}(ho:ops[i]?=some o)(hi:lJ L i=false)(hsz:L.size=ops.size):
  ∀k,k<=ops.size->lS ops S (L.setIfInBounds i true) k=fun t=>if i<k/\o.dst=some t then(S (i+1)).1 t else lS ops S L k t
 |0,_=>by funext t;simp[lS]
 |k+1,hk=>by
  have ih:=DT DF hcl ho hi hsz k (by omega);have QZ:i<ops.size:=(gd.1 ho).1;have hok:ops[k]?=some ops[k]:=ri (by omega);have hdi:qY ops i=o.dst:=by simp[qY,ho]
  funext t
  simp only[lS,ih,rZ (show i<L.size by omega)];by_cases e:i=k
  ·grind
  ·simp only[e,decide_false,ID];by_cases hl:lJ L k=true/\qY ops k=some t
   ·rw[ee hl,ee hl];split
    ·rename_i hn;have:=qZ DF (show i<k by omega) ho hok (fun e=>by grind);grind
    ·rfl
   grind
theorem Na(hS:∀(i:Nat) (o:Oper),ops[i]?=some o->jb P C ops o (T i) (S i) (S (i+1))):∀(d p:Nat),p+d<=ops.size->(S p).2.length<=(S (p+d)).2.length
 |0,p,_=>dk _
 |d+1,p,h=>by
  have hok:ops[p+d]?=some ops[p+d]:=ri (by omega);refine iS (Na hS d p (by omega)) ?_;rw[<-vj];rcases hS _ _ hok with⟨_,fr,av,σ',_,h1,_,_,h2⟩|⟨_,h1,_⟩
  ·rw[h1];exact h2.len
  ·rw[h1];exact dk _
theorem o6(hS:∀(i:Nat) (o:Oper),ops[i]?=some o->jb P C ops o (T i) (S i) (S (i+1))){p q:Nat}(h1:p<=q)(h2:q<=ops.size):(S p).2.length<=(S q).2.length:=by
 have:=Na hS (q-p) p (by omega);grind
/-! ## The store when the listed operations have been carried out-/
def dead:gC:=⟨0,0,0,false,[]⟩
def wrote(S:Nat->FM×Store)(T:Nat->Trace)(k l:Nat):Bool:=Nat.blt l (S (k+1)).2.length&&(Nat.ble (S k).2.length l||zC (T k).f.put l)
def o7(S:Nat->FM×Store)(T:Nat->Trace)(L:Array Bool):Nat->Nat->gC
 |0,l=>bif Nat.blt l (S 0).2.length then(S 0).2.getD l dead else dead
 |k+1,l=>bif lJ L k&&wrote S T k l then(S (k+1)).2.getD l dead else o7 S T L k l
def Q0(S:Nat->FM×Store)(T:Nat->Trace)(L:Array Bool)(n:Nat):Store:=(List.range (S n).2.length).map fun l=>o7 S T L n l
theorem Nb{n:Nat}:(Q0 S T L n).length=(S n).2.length:=by simp[Q0]
theorem sg{n:Nat}(h:l<(S n).2.length):(Q0 S T L n)[l]?=some (o7 S T L n l):=by
 simp[Q0,h]
def Ia(ops:Array Oper)(cl:Nat->Nat->Prop)(T:Nat->Trace):Prop:=∀i j,i<j->j<ops.size->cl j i\/mb (T i) (T j).f
theorem eK:wrote S T k l=true↔l<(S (k+1)).2.length/\((S k).2.length<=l\/zC (T k).f.put l=true):=by
 simp[wrote,AT,Nat.ble_eq]
theorem Nc(hS:∀(i:Nat) (o:Oper),ops[i]?=some o->jb P C ops o (T i) (S i) (S (i+1)))(hk:k<ops.size):
  ((T k).lo=(S k).2.length/\(T k).hi=(S (k+1)).2.length\/(T k).f.nw=false/\(S (k+1)).2.length=(S k).2.length)/\((T k).f.nw=false->(S (k+1)).2.length=(S k).2.length):=by
 rcases hS k _ (ri hk)with⟨_,fr,av,σ',_,h1,h2,h3,h4⟩|⟨_,h1,h2⟩
 ·rw[h1];exact⟨.inl ⟨h2,h3⟩,h4.nw⟩
 ·rw[h1,h2];exact⟨.inr ⟨rfl,rfl⟩,fun _=>rfl⟩
theorem Bb(hS:∀(i:Nat) (o:Oper),ops[i]?=some o->jb P C ops o (T i) (S i) (S (i+1)))(hk:k<ops.size)(hl:l<(S k).2.length)(h:zC (T k).f.put l=false):(S (k+1)).2.getD l dead=(S k).2.getD l dead:=by
 rcases hS k _ (ri hk)with⟨_,fr,av,σ',_,h1,_,_,h4⟩|⟨_,h1,_⟩
 ·rw[h1];simp only[kc];rw[h4.keep l hl h]
 ·rw[h1]
theorem K5(h:lJ L j=true):j<L.size:=by
 unfold lJ at h;grind
theorem wR(AP:Ia ops cl T)(hS:∀(i:Nat) (o:Oper),ops[i]?=some o->jb P C ops o (T i) (S i) (S (i+1))){L:Array Bool}(hcl:∀i j,lJ L i=true->cl i j->lJ L j=true)(hsz:L.size=ops.size){i:Nat}(hin:i<ops.size)
  (hi:lJ L i=false) (hr:∀j,cl i j->lJ L j=true) {l:Nat} (hl:zC (T i).f.look l=true) (Ha:l<(S 0).2.length\/ ∃j,lJ L j=true/\(S j).2.length<=l/\l<(S (j+1)).2.length):
  ∀k,k<=ops.size->l<(S (min k i)).2.length->o7 S T L k l=(S (min k i)).2.getD l dead
 |0,_,h=>by
  have:Nat.blt l (S 0).2.length=true:=by simpa [AT]using h
  simp[o7,this]
 |k+1,hk,h=>by
  simp only[o7];rcases od k i with hki|hki
  ·rw[B3 (show k+1<=i by omega)]at h⊢;cases hw:(lJ L k&&wrote S T k l)with
   |true=>rfl
   |false=>
    have hlk:l<(S k).2.length:=by
     rcases od l (S k).2.length with h1|h1
     ·exact h1
     ·exfalso;have hwr:wrote S T k l=true:=eK.2 ⟨h,.inl h1⟩;rw[hwr,xr]at hw;rcases Ha with h2|⟨j,h2,h3,h4⟩
      ·have:=o6 hS (nt k) (by omega);omega
      ·rcases Nat.lt_trichotomy j k with h5|h5|h5
       ·have:=o6 hS (show j+1<=k by omega) (by omega);omega
       ·grind
       ·have hj:=K5 h2;have:=o6 hS (show k+1<=j by omega) (by omega);omega
    have ih:=wR AP hS hcl hsz hin hi hr hl Ha k (by omega) (by grind);rw[B3 (show k<=i by omega)]at ih;rw[jz,ih];refine(Bb hS (by omega) hlk ?_).symm;cases hp:zC (T k).f.put l with
    |false=>rfl
    |true=>
     have hwr:wrote S T k l=true:=eK.2 ⟨h,.inr hp⟩;rw[hwr,xr]at hw;rcases AP k i hki hin with h1|h1
     ·grind
     ·exact(h1.pl l hp hl).elim
  ·rw[R0 (show i<=k+1 by omega)]at h⊢;have ih:=wR AP hS hcl hsz hin hi hr hl Ha k (by omega) (by grind);rw[R0 hki]at ih;cases hw:(lJ L k&&wrote S T k l)with
   |false=>rw[jz];exact ih
   |true=>
    exfalso;simp only[dd]at hw;obtain⟨h1,h2⟩:=hw;have hne:i≠k:=fun e=>by rw[e,h1]at hi;cases hi
    have hik:i<k:=by omega
    have hle:=o6 hS hki (by omega);rcases(eK.1 h2).2 with h3|h3
    ·omega
    ·rcases AP i k hik (by omega)with h4|h4
     ·grind
     ·exact h4.lp l hl h3
theorem Ib(AP:Ia ops cl T)(hS:∀(i:Nat) (o:Oper),ops[i]?=some o->jb P C ops o (T i) (S i) (S (i+1))){L:Array Bool}(hcl:∀i j,lJ L i=true->cl i j->lJ L j=true){i:Nat}(hin:i<ops.size)(hi:lJ L i=false)(hsz:L.size=ops.size)(l:Nat):
  ∀k,k<=ops.size->o7 S T (L.setIfInBounds i true) k l=bif Nat.blt i k&&wrote S T i l then(S (i+1)).2.getD l dead else o7 S T L k l
 |0,_=>by simp only[o7,RV (nt i),yW,jz]
 |k+1,hk=>by
  have ih:=Ib AP hS hcl hin hi hsz l k (by omega);simp only[o7,ih,rZ (show i<L.size by omega)];by_cases e:i=k
  ·simp_all [RV,dk,M9,Nat.lt_succ_self]
  ·have h1:Nat.blt i (k+1)=Nat.blt i k:=by
    grind [Nat.lt_or_ge,M9,RV]
   rw[h1];simp only[e,decide_false,ID];cases hw:(lJ L k&&wrote S T k l)with
   |false=>rfl
   |true=>
    simp only[me];cases hv:(Nat.blt i k&&wrote S T i l)with
    |false=>rfl
    |true=>
     exfalso;simp only[dd,AT]at hw hv;obtain⟨hk1,hk2⟩:=hw;obtain⟨hik,QW⟩:=hv;obtain⟨a1,a2⟩:=eK.1 hk2;obtain⟨b1,b2⟩:=eK.1 QW;have hle:=o6 hS (show i+1<=k by omega) (by omega);have hp:zC (T k).f.put l=true:=a2.resolve_left (by omega);rcases AP i k hik (by omega)with h4|h4
     ·grind
     ·rcases b2 with b2|b2
      ·rcases(Nc hS hin).1 with⟨c1,c2⟩|⟨c1,c2⟩
       ·exact h4.mks l (by omega) (by omega) hp
       ·omega
      ·exact h4.pp l b2 hp
theorem DU{L:Array Bool}(h:∀i,lJ L i=false)(l:Nat):∀k,o7 S T L k l=bif Nat.blt l (S 0).2.length then(S 0).2.getD l dead else dead
 |0=>rfl
 |k+1=>by simp only[o7,h k,yW,jz,DU h l k]
theorem Ic(hS:∀(i:Nat) (o:Oper),ops[i]?=some o->jb P C ops o (T i) (S i) (S (i+1))){L:Array Bool}(h:∀i,i<ops.size->lJ L i=true)(l:Nat):∀k,k<=ops.size->l<(S k).2.length->o7 S T L k l=(S k).2.getD l dead
 |0,_,hl=>by
  have:Nat.blt l (S 0).2.length=true:=by simpa [AT]using hl
  simp[o7,this]
 |k+1,hk,hl=>by
  simp only[o7,h k (by omega),tw];cases hw:wrote S T k l with
  |true=>rfl
  |false=>
   have hlk:l<(S k).2.length:=by
    grind [Nat.lt_or_ge,eK]
   rw[jz,Ic hS h l k (by omega) hlk];refine(Bb hS (by omega) hlk ?_).symm;grind [eK]
end
/-! ## An operation that works on a part of the store-/
section
variable{E:Env}{μ μ':Mu}{ρ ρ':bD}{σ σ' V V':Store}{w w':World}
def Bc(μ:Mu)(ρ:bD)(σ:Store)(w:World):Env:=⟨w,fun b=> ∃l rb k,ρ l=some rb/\σ[l]?=some k/\k.mode=1/\rb.ph=false/\rb.b=b,μ⟩
theorem SR.cut(hs:SR E μ ρ V w)(h:∀l rb,l<σ.length->ρ l=some rb->σ[l]?=V[l]?):SR (Bc μ ρ σ w) μ ρ σ w:=by
 have hv:∀l rb k,ρ l=some rb->σ[l]?=some k->V[l]?=some k:=fun l rb k hl hk=>by
  grind
 exact⟨fun l rb k hl hk hm=>hs.blk l rb k hl (hv l rb k hl hk) hm,fun l l' rb fc k k' hl hl' hk hk'=>hs.inj l l' rb fc k k' hl hl' (hv _ _ _ hl hk) (hv _ _ _ hl' hk'),
  fun l rb k hl hk hm hp=>.inl ⟨l,rb,k,hl,hk,hm,hp,rfl⟩,hs.gj,⟨rfl,rfl,rfl,dk _,fun _ _ _=>rfl,ak.refl _,fun _ _ h=>.inl h⟩⟩
theorem SR.lay(hs:SR E μ ρ V w)(h:∀l rb,l<σ.length->ρ l=some rb->σ[l]?=V[l]?)(hs':SR (Bc μ ρ σ w) μ' ρ' σ' w')(g:Grow q μ ρ σ.length w μ' ρ' σ'.length w')
  (h1:∀l rb,l<σ'.length->ρ' l=some rb->V'[l]?=σ'[l]?) (h2:∀l,σ'.length<=l->V'[l]?=V[l]?):SR E μ' ρ' V' w':=by
 have hD:∀b,(Bc μ ρ σ w).D b->∃l rb k,l<σ.length/\ρ l=some rb/\V[l]?=some k/\k.mode=1/\rb.ph=false/\rb.b=b:=fun b ⟨l,rb,k,e1,e2,e3,e4,e5⟩=>by
  grind
 have hDE:∀b,(Bc μ ρ σ w).D b->E.D b\/E.w0.heap.size<=b:=fun b hb=>by
  obtain⟨l,rb,k,_,e1,e2,e3,e4,e5⟩:=hD b hb;exact e5▸hs.lW l rb k e1 e2 e3 e4
 have old:∀l rb,σ'.length<=l->ρ' l=some rb->ρ l=some rb:=fun l rb hl hr=>by
  rcases g.dom l rb hr with h3|⟨_,h3,_⟩
  ·exact h3
  ·omega
 have split:∀l rb k,ρ' l=some rb->V'[l]?=some k->(l<σ'.length/\σ'[l]?=some k)\/(σ'.length<=l/\ρ l=some rb/\V[l]?=some k):=fun l rb k hr hk=>by
  grind
 have aeS:∀l rb k,σ'.length<=l->ρ l=some rb->V[l]?=some k->k.mode=1->rb.ph=false->¬(Bc μ ρ σ w).D rb.b:=fun l rb k hl hr hk hm hp hd=>by
  obtain⟨l2,rb2,k2,e0,e1,e2,e3,e4,e5⟩:=hD _ hd;have:=hs.inj l2 l rb2 rb k2 k e1 hr e2 hk e3 hm e4 hp e5;have:=g.len;omega
 have aeT:∀l rb k l' fc k',l<σ'.length->ρ' l=some rb->σ'[l]?=some k->k.mode=1->rb.ph=false->σ'.length<=l'->ρ l'=some fc->V[l']?=some k'->k'.mode=1->fc.ph=false->rb.b≠fc.b:=fun l rb k l' fc k' _ e1 e2 e3 e4 e5 e6 e7 e8 e9 he=>by
  rcases hs'.lW l rb k e1 e2 e3 e4 with h3|h3
  ·grind
  ·have:=hs.wE e6 e7 e8 e9;change w.heap.size<=rb.b at h3;omega
 refine⟨fun l rb k hl hk hm=>?_,fun l l' rb fc k k' hl hl' hk hk' iT hm2 hp hp' he=>?_,fun l rb k hl hk hm hp=>?_,hs'.gj,⟨hs'.base.os.trans hs.base.os,hs'.base.tape.trans hs.base.tape,hs'.base.output.trans hs.base.output,iS hs.base.size hs'.base.size,fun b hb hd=>?_,hs.base.mu.trans g.mu,fun b o hb=>?_⟩⟩
 ·rcases split l rb k hl hk with⟨_,h3⟩|⟨h3,h4,h5⟩
  ·exact hs'.blk l rb k hl h3 hm
  ·have hb:=hs.blk l rb k h4 h5 hm;refine⟨hb.sz,hb.n,hb.fit,hb.ph,hb.one,fun hp=>?_⟩;obtain⟨cur,hc⟩:=hb.live hp;refine⟨cur,hc.size,fun e=>(hc.mq e).mono g.mu,fun e=>(hc.wD e).mono g.mu g.rU,?_⟩;rcases hc.at_ with⟨a1,a2,a3⟩|⟨a1,ty,fz,a2⟩
   ·have hlt:=hs.wE h4 h5 a1 hp;have hnd:=aeS l rb k h3 h4 h5 a1 hp;refine .inl ⟨a1,a2.imp fun fz a2=>⟨by rw[hs'.base.keep rb.b hlt hnd];exact a2.1,a2.2⟩,?_⟩;cases e:μ' rb.b with
    |none=>rfl
    |some o=>
     rcases hs'.base.sU _ _ e with e1|e1|e1
     ·change μ rb.b=some o at e1;rw[a3]at e1;cases e1
     ·exact absurd e1 hnd
     ·change w.heap.size<=rb.b at e1;omega
   ·exact .inr ⟨a1,ty,fz,g.mu _ _ a2⟩
 ·rcases split l rb k hl hk with⟨h3,h4⟩|⟨h3,h4,h5⟩<;>rcases split l' fc k' hl' hk' with⟨h3',h4'⟩|⟨h3',h4',h5'⟩
  ·exact hs'.inj l l' rb fc k k' hl hl' h4 h4' iT hm2 hp hp' he
  ·grind
  ·grind
  ·exact hs.inj l l' rb fc k k' h4 h4' h5 h5' iT hm2 hp hp' he
 ·rcases split l rb k hl hk with⟨_,h3⟩|⟨_,h4,h5⟩
  ·rcases hs'.lW l rb k hl h3 hm hp with h6|h6
   ·exact hDE _ h6
   ·exact .inr (iS hs.base.size h6)
  ·exact hs.lW l rb k h4 h5 hm hp
 ·rw[hs'.base.keep b (wx hb hs.base.size) fun h3=>by
   grind]
  exact hs.base.keep b hb hd
 ·rcases hs'.base.sU b o hb with h3|h3|h3
  ·exact hs.base.sU b o h3
  ·exact .inr (hDE b h3)
  ·exact .inr (.inr (iS hs.base.size h3))
end
end
section
section
variable{P:Program}{C:gD}{ops:Array Oper}{cl:Nat->Nat->Prop}{S:Nat->FM×Store}{T:Nat->Trace}{E:Env}{B:qW}{G:Nat->Value}{n:Nat}{Q:Exit->Act->World->Prop}
structure Inv(ops:Array Oper)(cl:Nat->Nat->Prop)(S:Nat->FM×Store)(T:Nat->Trace)(E:Env)(B:qW)(G:Nat->Value)(n:Nat)(L:Array Bool)(a:Act)(w:World):Prop where
 qi:L.size=ops.size
 closed:∀i j,lJ L i=true->cl i j->lJ L j=true
 st:∃μ ρ,FR μ ρ G (lS ops S L ops.size) a/\SR E μ ρ (Q0 S T L ops.size) w/\(∀l rb,ρ l=some rb->l<(S 0).2.length\/ ∃j,lJ L j=true/\(S j).2.length<=l/\l<(S (j+1)).2.length)/\Since B μ ρ w
 base:B.n<=(S 0).2.length
 size:a.tmps.size=n
 defers:a.defers=[]
theorem wS(hL:L.size=ops.size)(h:i∈Region.ready .any ops L):∃o,ops[i]?=some o/\lJ L i=false/\∀e∈o.after,Region.binds .any e=true->lJ L e.on=true:=by
 obtain⟨h0,o,ho,hall⟩:=mem_ready.1 h;refine⟨o,ho,?_,fun e he hb=>hall e he hb⟩;have hlt:i<L.size:=by grind
 simpa [lJ,hlt]using h0
theorem K6(DF:jI ops cl)(hL:L.size=ops.size)(h:Region.ready .any ops L=[]):∀i,i<ops.size->lJ L i=true:=by
 intro i
 induction i using Nat.strongRecOn with
 |_ i ih=>
  intro hi;cases e:lJ L i with
  |true=>rfl
  |false=>
   have hok:ops[i]?=some ops[i]:=ri hi;have:i∈Region.ready .any ops L:=mem_ready.2 ⟨by simpa [lJ,show i<L.size by omega]using e,_,hok,fun ed he hb=>ih ed.on (DF.lt i _ hok ed he hb) (by have:=DF.lt i _ hok ed he hb;omega)⟩;rw[h]at this;cases this
theorem RW(DF:jI ops cl)(AP:Ia ops cl T)(hS:∀(i:Nat) (o:Oper),ops[i]?=some o->jb P C ops o (T i) (S i) (S (i+1)))(hd:DP ops n){w:World}(inv:Inv ops cl S T E B G n L a w){i:Nat}
  (hi:i∈Region.ready .any ops L) {K:Act->World->Prop} (hK:∀a' w',Inv ops cl S T E B G n (L.setIfInBounds i true) a' w'->K a' w'):wpOp P ops Q i K a w:=by
 obtain⟨o,ho,QZ,acf⟩:=wS inv.qi hi;have hin:i<ops.size:=(gd.1 ho).1;have hiL:i<L.size:=by rw[inv.qi];exact hin
 have hcl':∀j,cl i j->lJ L j=true:=fun j hj=>by
  obtain⟨e,h1,h2,h3⟩:=DF.mem i o j ho hj;rcases h3 with h3|h3
  ·grind
  ·exact inv.closed _ _ (acf e h1 h2) h3
 have hclosed:∀i' j,lJ (L.setIfInBounds i true) i'=true->cl i' j->lJ (L.setIfInBounds i true) j=true:=fun i' j h1 h2=>by
  rw[rZ hiL]at h1⊢;simp only[pC,tp]at h1⊢;rcases h1 with h1|h1
  ·grind
  ·exact .inr (inv.closed i' j h1 h2)
 obtain⟨μ,ρ,hfr,iY,ve,tN⟩:=inv.st;have yg:∀t,t∈nN ops o->lS ops S L ops.size t=(S i).1 t:=fun t ht=>by
  have:=Ba DF hS inv.closed ho QZ hcl' ht ops.size (dk _);grind
 have ma:∀(j:Nat) (oj:Oper) (d:Nat),ops[j]?=some oj->oj.dst=some d->d<a.tmps.size/\d<1000000:=fun j oj d h1 h2=>by rw[inv.size];exact hd j oj d h1 h2
 have VT:∀d,o.dst=some d->d<a.tmps.size/\d<1000000:=fun d e=>ma i o d ho e;have RX:∀(j:Nat) (want:Bool) (oj:Oper) (d:Nat),o.guard=some (j,want)->ops[j]?=some oj->oj.dst=some d->VR μ ρ ((S i).1 d) (kT G a d):=fun j want oj d h1 h2 h3=>by
  rw[<-yg d (by simp[nN,h1,h2,h3])];exact hfr d
 have aeU:∀fr,ax fr=(S i).1->C0 μ ρ fr a o:=fun fr hF x hx=>uY fun t ht=>by
  rw[hF,<-yg t (by
   simp only[nN,gw,List.mem_filterMap];exact .inl ⟨x,Array.mem_toList_iff.2 hx,by rw[ht]⟩)]
  exact hfr t
 have sW:∀p q,p<=q->q<=ops.size->(S p).2.length<=(S q).2.length:=fun p q h1 h2=>o6 hS h1 h2;have hjn:∀j,lJ L j=true->j<ops.size:=fun j h=>by have:=K5 h;rw[inv.qi]at this;exact this
 have Z2:(S 0).2.length<=(S i).2.length:=sW 0 i (nt _) (by omega);have fin:∀(av:AV) (v:Value) (w':World) (μ':Mu) (ρ':bD),(∀t,o.dst=some t->(S (i+1)).1 t=av)->ak μ μ'->bV ρ ρ'->VR μ' ρ' av v->SR E μ' ρ' (Q0 S T (L.setIfInBounds i true) ops.size) w'->
   (∀l rb,ρ' l=some rb->ρ l=some rb\/((S i).2.length<=l/\l<(S (i+1)).2.length))->w.heap.size<=w'.heap.size->K (a.put o.dst v) w':=fun av v w' μ' ρ' Dx hm hr hv hs Yw hz=>by
  refine hK _ _ ⟨by simp[inv.qi],hclosed,⟨μ',ρ',?_,hs,fun l rb hl=>?_,tN.on hm hr (iS inv.base Z2) Yw hz⟩,inv.base,AZ.trans inv.size,put_defers.trans inv.defers⟩
  ·have hW:lS ops S (L.setIfInBounds i true) ops.size=qx (lS ops S L ops.size) o.dst av:=by
    rw[DT DF inv.closed ho QZ inv.qi ops.size (dk _)]
    funext t
    simp only[hin,true_and,qx];grind
   rw[hW];exact(hfr.mono hm hr).put VT hv
  ·rcases Yw l rb hl with h|⟨h3,h4⟩
   ·rcases ve l rb h with h|⟨j,h3,h4,h5⟩
    ·exact .inl h
    ·exact .inr ⟨j,by rw[rZ hiL,h3,KB],h4,h5⟩
   simp_all [rZ]
 have hput:∀l,o7 S T (L.setIfInBounds i true) ops.size l=bif wrote S T i l then(S (i+1)).2.getD l dead else o7 S T L ops.size l:=fun l=>by
  rw[Ib AP hS inv.closed hin QZ inv.qi l ops.size (dk _),M9 hin,tw]
 unfold wpOp;simp only[ho];rcases hS i o ho with⟨⟨hg,hld⟩,fr,av,σ',hF,hs1,hlo,hhi,hY⟩|⟨hg,hs1,hT⟩
 ·rw[ee (A3 hg ma RX)];left;have Dx:∀t,o.dst=some t->(S (i+1)).1 t=av:=fun t e=>by rw[hs1];simp[qx,e]
  have hσ:(S (i+1)).2=σ':=by rw[hs1]
  let τ:Store:=(List.range (S i).2.length).map fun l=>match ρ l with|some _=>o7 S T L ops.size l|none=>(S i).2.getD l dead
  have Z3:τ.length=(S i).2.length:=by simp[τ]
  have hiN:(S i).2.length<=(S ops.size).2.length:=sW i ops.size (by omega) (dk _);have agV:(S (i+1)).2.length<=(S ops.size).2.length:=sW (i+1) ops.size (by omega) (dk _);have aeV:∀l,l<(S i).2.length->τ[l]?=some (match ρ l with|some _=>o7 S T L ops.size l|none=>(S i).2.getD l dead):=fun l hl=>by simp[τ,hl]
  have VV:∀l rb,ρ l=some rb->l<(S 0).2.length\/ ∃j,lJ L j=true/\(S j).2.length<=l/\l<(S (j+1)).2.length:=ve;have jm:∀l,zC (T i).f.look l=true->τ[l]?=(S i).2[l]?:=fun l hl=>by
   rcases od l (S i).2.length with h1|h1
   ·have hgd:(S i).2[l]?=some ((S i).2.getD l dead):=by simp[h1]
    rw[aeV l h1,hgd]
    congr 1
    cases hr:ρ l with
    |none=>rfl
    |some rb=>
     have:=wR AP hS inv.closed inv.qi hin QZ hcl' hl (VV l rb hr) ops.size (dk _) (by grind);grind
   grind
  obtain⟨τ',RY,hkeep,hnew,aeW⟩:=hY.snd τ Z3 jm;have Ao:∀l rb,l<τ.length->ρ l=some rb->τ[l]?=(Q0 S T L ops.size)[l]?:=fun l rb hl hr=>by
   grind [sg]
  have acg:SR (Bc μ ρ τ w) μ ρ τ w:=iY.cut Ao;have Z4:bu ρ τ.length τ'.length:=fun l h1 h2=>by
   rw[Z3]at h1;rw[RY,<-hσ]at h2;cases e:ρ l with
   |none=>rfl
   |some rb=>
    rcases ve l rb e with h|⟨j,h3,h4,h5⟩
    ·omega
    ·have hne:j≠i:=fun e=>by rw[e,QZ]at h3;cases h3
     have:=hjn j h3;rcases od j i with h|h
     all_goals grind
  have Yw:bR P C o=false->sK C o=true->CZ ρ τ.length:=fun hq hfn l rb hl=>by
   rw[Z3];have Ie:(T i).ld=true:=by
    rw[hld];have h1:Nat.beq (aY P C o) 2=true:=by
     cases hb:Nat.beq (aY P C o) 2 with
     |true=>rfl
     |false=>simp only[bR,hb]at hq;cases hq
    unfold ldB;rw[h1,xr];exact hfn
   rcases ve l rb hl with h|⟨j,h3,h4,h5⟩
   ·omega
   ·have hj:=hjn j h3;have hne:j≠i:=fun e=>by rw[e,QZ]at h3;cases h3
    rcases od j i with h|h
    ·grind
    ·rcases AP i j (by omega) hj with h6|h6
     ·rw[inv.closed j i h3 h6]at QZ;cases QZ
     ·have:=(Nc hS hj).2 (h6.ld Ie);omega
  refine aeW (Bc μ ρ τ w) μ ρ a w K Q (aeU fr hF) acg Z4 Yw fun v w' μ' ρ' g hv Z1=>?_;refine fin av v w' μ' ρ' Dx g.mu g.rU hv (iY.lay Ao Z1 g (fun l rb hl hr=>?_) fun l hl=>?_) (fun l rb hl=>(g.dom l rb hl).imp id fun⟨x,y,_⟩=>⟨by omega,by rw[hσ];omega⟩) g.size
  ·rw[RY,<-hσ]at hl;rw[sg (by omega),hput];cases hw:wrote S T i l with
   |true=>
    obtain⟨h1,h2⟩:=eK.1 hw;grind
   |false=>
    have Z5:l<(S i).2.length:=by
     grind [Nat.lt_or_ge,eK]
    have hp:zC (T i).f.put l=false:=by
     grind [eK]
    have hρ:ρ l=some rb:=by
     rcases g.dom l rb hr with h1|⟨h1,_,_⟩
     ·exact h1
     ·omega
    grind
  ·rw[RY,<-hσ]at hl;rcases od l (S ops.size).2.length with h1|h1
   ·rw[sg h1,sg h1,hput];have:wrote S T i l=false:=by
     grind [eK]
    rw[this,jz]
   simp_all [we,Nb]
 ·rw[eg (by rw[DN hg ma RX];decide)];have Dx:∀t,o.dst=some t->(S (i+1)).1 t=.v (.tuple #[]):=fun t e=>by rw[hs1];simp[qx,e]
  have hσ:(S (i+1)).2=(S i).2:=by rw[hs1]
  refine fin _ undef w μ ρ Dx (ak.refl μ) (bV.refl ρ) .sk ?_ (fun _ _ h=>.inl h) (dk _);have:Q0 S T (L.setIfInBounds i true) ops.size=Q0 S T L ops.size:=by
   unfold Q0
   congr 1
   funext l
   rw[hput];have:wrote S T i l=false:=by
    cases hw:wrote S T i l with
    |false=>rfl
    |true=>
     obtain⟨h1,h2⟩:=eK.1 hw;rw[hσ]at h1;rw[hT]at h2;rcases h2 with h2|h2
     ·omega
     ·cases h2
   rw[this,jz]
  rw[this];exact iY
end
end
section
def Ve(L:Array Bool):Nat->Nat
 |0=>0
 |k+1=>Ve L k+(if lJ L k=true then 0 else 1)
theorem Nd{L:Array Bool}{i:Nat}(hi:i<L.size)(hl:lJ L i=false):∀k,Ve (L.setIfInBounds i true) k+(if i<k then 1 else 0)=Ve L k
 |0=>by simp[Ve]
 |k+1=>by
  have ih:=Nd hi hl k;simp only[Ve,rZ hi];grind
theorem Ig{L:Array Bool}:∀k,Ve L k=0->∀i,i<k->lJ L i=true
 |0,_,i,h=>absurd h (B4 i)
 |k+1,h,i,hi=>by
  simp only[Ve]at h;by_cases e:i=k
  ·subst e;cases hl:lJ L i with
   |true=>rfl
   |false=>rw[hl]at h;simp at h
  ·exact Ig k (by omega) i (by omega)
theorem RZ{L:Array Bool}:∀k,Ve L k<=k
 |0=>dk 0
 |k+1=>by
  have:=RZ (L:=L) k;simp only[Ve];split<;>omega
section
variable{P:Program}{C:gD}{ops:Array Oper}{cl:Nat->Nat->Prop}{S:Nat->FM×Store}{T:Nat->Trace}{E:Env}{B:qW}{G:Nat->Value}{n:Nat}{Q:Exit->Act->World->Prop}
theorem Ih(hS:∀(i:Nat) (o:Oper),ops[i]?=some o->jb P C ops o (T i) (S i) (S (i+1))){w:World}(inv:Inv ops cl S T E B G n L a w)(hall:∀i,i<ops.size->lJ L i=true):
  Rel E B G n (S ops.size).1 (S ops.size).2 a w:=by
 obtain⟨μ,ρ,hfr,iY,ve,tN⟩:=inv.st;rw[DS hS hall _ (dk _)]at hfr;have sW:∀p,p<=ops.size->(S p).2.length<=(S ops.size).2.length:=fun p h1=>o6 hS h1 (dk _);have hst:Q0 S T L ops.size=(S ops.size).2:=by
  apply kj;intro l;rcases od l (S ops.size).2.length with h|h
  ·rw[sg h,Ic hS hall l _ (dk _) h];simp[h]
  simp_all [we,Nb]
 rw[hst]at iY;refine⟨⟨μ,ρ,hfr,iY,fun l rb hl=>?_,tN⟩,iS inv.base (sW 0 (nt _)),inv.size,inv.defers⟩;rcases ve l rb hl with h|⟨j,h1,h2,h3⟩
 ·grind
 ·have hjn:j<ops.size:=by have:=K5 h1;rw[inv.qi]at this;exact this
  grind
theorem Nf(DF:jI ops cl)(AP:Ia ops cl T)(hS:∀(i:Nat) (o:Oper),ops[i]?=some o->jb P C ops o (T i) (S i) (S (i+1)))(hd:DP ops n)(hQ:∀a w,Rel E B G n (S ops.size).1 (S ops.size).2 a w->Q .normal a w):
  ∀(fuel:Nat) (L:Array Bool) (a:Act) (w:World),Ve L ops.size<=fuel->Inv ops cl S T E B G n L a w->wpAny P .any ops Q fuel L a w
 |0,L,a,w,hu,inv=>by
  have hall:=Ig _ (Nat.le_zero.1 hu);refine⟨?_,hQ a w (Ih hS inv hall)⟩;refine List.eq_nil_iff_forall_not_mem.2 fun i hi=>?_;obtain⟨o,ho,hl,_⟩:=wS inv.qi hi;grind
 |fuel+1,L,a,w,hu,inv=>by
  refine⟨fun h=>hQ a w (Ih hS inv (K6 DF inv.qi h)),fun i hi=>RW DF AP hS hd inv hi fun a' w' aeX=>Nf DF AP hS hd hQ fuel _ a' w' ?_ aeX⟩;obtain⟨o,ho,hl,_⟩:=wS inv.qi hi;have hin:i<ops.size:=(gd.1 ho).1;have:=Nd (by rw[inv.qi];exact hin) hl ops.size;grind
theorem DV:∀{l:List Oper} {s s':FM×Store},ye P C ops l s s'->s.2.length<=s'.2.length
 |[],_,_,.nil s=>dk _
 |o::l,s,s',.cons h k=>by
  refine iS ?_ (DV k);rcases h with⟨_,fr,av,σ',_,h1,h2,_⟩|⟨_,h1⟩
  all_goals grind
theorem Rel.drew{F:FM}{σ:Store}{a:Act}{w:World}(h:Rel E B G n F σ a w):Rel E B G n F σ a {w with drawn:=w.drawn+1}:=
 let⟨⟨μ,ρ,h1,h2,h3,h6⟩,h7,h4,h5⟩:=h
 ⟨⟨μ,ρ,h1,h2.drew,h3,⟨h6.mu,h6.rU,h6.dom,h6.size⟩⟩,h7,h4,h5⟩
theorem Fj{call:cK}{inl:iv}(HC:gZ P C call inl){id:Nat}{K:St->Option R}
  (h:lQ P C call inl ops ops.toList s K=some r):∃s':St,K s'=some r/\s.bl.length<=s'.bl.length/\∀(E:Env) (B:qW) (G:Nat->Value) (n:Nat) (Q:Exit->Act->World->Prop) (a:Act) (w:World),DP ops n->Rel E B G n (ax s.fr) s.bl a w->
   (∀(a:Act) (w:World),Rel E B G n (ax s'.fr) s'.bl a w->Q .normal a w)->(Code.region id ops false).wp P Q a w:=by
 obtain⟨s',hk,hch⟩:=qX HC _ _ h;refine⟨s',hk,DV hch,fun E B G n Q a w hd hr hQ=>?_⟩;refine wp_region ?_;have:=tM hd ops.toList 0 _ _ rfl hch a w hr (fun a w hr'=>hQ a w hr');rwa [qs,<-List.range_eq_range']at this
theorem K7(dw:P.follows .mixedOrders=true){call:cK}{inl:iv}(HC:gZ P C call inl){id:Nat}{K:St->Option R}(CO:EL ops=true)
  (h:iw P C call inl ops ops.toList (xN ops.toList) [] s K=some r):∃s':St,K s'=some r/\s.bl.length<=s'.bl.length/\∀(E:Env) (B:qW) (G:Nat->Value) (n:Nat) (Q:Exit->Act->World->Prop) (a:Act) (w:World),DP ops n->Rel E B G n (ax s.fr) s.bl a w->
   (∀(a:Act) (w:World),Rel E B G n (ax s'.fr) s'.bl a w->Q .normal a w)->(Code.region id ops true).wp P Q a w:=by
 obtain⟨s',ts,S,hk,htl,h1,h2,h3⟩:=vm HC _ _ _ _ h;have htl:ts.length=ops.size:=by rw[htl];simp
 rw[qs]at h2
 let T:Nat->Trace:=fun i=>ts.getD i .no
 have hT:∀i,i<ops.size->ts[i]?=some (T i):=fun i hi=>by simp[T,htl,hi]
 have hS:∀(i:Nat) (o:Oper),ops[i]?=some o->jb P C ops o (T i) (S i) (S (i+1)):=fun i o ho=>
  (h3 i o (T i) (by grind) (hT i (gd.1 ho).1)).1
 have DF:=O1 CO;have AP:Ia ops (fun i j=>gY j ((xN ops.toList).getD i [])=true) T:=fun i j hij hj=>
  (h3 j ops[j] (T j) (by grind) (hT j hj)).2 i (T i) (by simpa using hij) (by simpa using hT i (by omega))
 refine⟨s',hk,?_,fun E B G n Q a w hd hr hQ=>?_⟩
 ·have:=o6 hS (nt ops.size) (dk _);rwa [h1,h2]at this
 refine wp_region_any dw ?_;have hL0:∀i,lJ (Array.replicate ops.size false) i=false:=fun i=>by
  simp only[lJ,Array.getD_eq_getD_getElem?,Array.getElem?_replicate];split<;>rfl
 refine Nf DF AP hS hd (fun a w hr'=>hQ a w (by rw[h2]at hr';exact hr')) ops.size _ a _ (RZ _) ?_;obtain⟨⟨μ,ρ,hf,iY,ve,tN⟩,hbase,hsz,M8⟩:=hr.drew;have hle:=o6 hS (nt ops.size) (dk _);refine⟨by simp,fun i j hi=>(by rw[hL0]at hi;cases hi),⟨μ,ρ,?_,?_,fun l rb hl=>.inl ?_,tN⟩,by rw[h1];exact hbase,hsz,M8⟩
 ·rw[A9 hL0,h1];exact hf
 ·have hget:∀l rb,ρ l=some rb->(Q0 S T (Array.replicate ops.size false) ops.size)[l]?=s.bl[l]?:=fun l rb hl=>by
   have hlt:=ve l rb hl;rw[sg (by grind),DU hL0,h1];simp_all [M9,me]
  exact⟨fun l rb k hl hk=>iY.blk l rb k hl (by grind),fun l l' rb fc k k' hl hl' hk hk'=>iY.inj l l' rb fc k k' hl hl' (by grind) (by grind),
   fun l rb k hl hk=>iY.lW l rb k hl (by grind),iY.gj,iY.base⟩
 ·rw[h1];exact ve l rb hl
end
end
section
theorem Ii{l:Nat}:∀(vs:List Nat),mY l vs=true↔l∈vs
 |[]=>by simp[mY]
 |m::r=>by
  rw[mY,pC,Ii r,ft];constructor
  ·rintro(h|h)
   ·exact .inl (cj h)
   ·exact .inr h
  ·rintro(h|h)
   ·exact .inl (by rw[h,Hc])
   ·exact .inr h
theorem Ij{l:Nat}:∀(vs:List Nat),mY l vs=true->vs[KC l vs]?=some l
 |[],h=>by cases h
 |m::r,h=>by
  simp only[KC];cases e:Nat.beq l m with
  |true=>have:=cj e;subst this;rfl
  |false=>
   simp only[jz,td];refine Ij r ?_;rw[mY,e]at h;exact h
theorem tO{vs:List Nat}(h:vs.Nodup)(hl:mY l vs=false):(vs++[l]).Nodup:=by
 grind [List.nodup_append,Ii]
theorem fg{α:Type}{f:List Nat->α->List Nat}(hf:∀vs a,vs.Nodup->(f vs a).Nodup):∀(l:List α) (vs:List Nat),vs.Nodup->(l.foldl f vs).Nodup
 |[],_,h=>h
 |a::l,vs,h=>fg hf l _ (hf vs a h)
theorem vn(σ:Store):∀(n:Nat) (vs:List Nat) (a:AV),vs.Nodup->(oQ σ n vs a).Nodup
 |0,vs,a,h=>h
 |n+1,vs,a,h=>by
  have ih:=fun vs a h=>vn σ n vs a h;have snoc:∀l,(bif mY l vs then vs else vs++[l]).Nodup:=fun l=>by
   grind [tO]
  have grow:∀l (x:List Nat),(mY l vs=false->x.Nodup)->(bif mY l vs then vs else x).Nodup:=fun l x hx=>by
   grind
  cases a with
  |sl b l off cut=>exact snoc l
  |px l j m i=>
   refine grow l _ fun e=>?_;grind [fg,tO]
  |ptr l i j=>
   refine grow l _ fun e=>?_;grind [fg,tO]
  |eN f first cX=>exact fg ih _ _ (fg ih _ _ h)
  |agg cs=>exact fg ih _ _ h
  |kK cs=>exact fg ih _ _ h
  |_=>exact h
def C5(vs:List Nat)(ρ:bD):bD:=fun i=>(vs[i]?).bind ρ
theorem ox{vs:List Nat}{ρ:bD}(h:C5 vs ρ i=some rb):∃l,vs[i]?=some l/\ρ l=some rb:=by
 unfold C5 at h;grind
theorem vr{vs:List Nat}{ρ:bD}(hm:mY l vs=true)(h:ρ l=some rb):C5 vs ρ (KC l vs)=some rb:=by
 unfold C5;rw[Ij vs hm];exact h
section
variable{μ:Mu}{ρ:bD}{vs:List Nat}
theorem Fk:∀(n:Nat) {a:AV} {v:Value},CR μ ρ a v->CR μ (C5 vs ρ) (qH vs n a) v
 |0,a,v,h=>.un h.one
 |n+1,a,v,h=>by
  have hlist:∀(l:List AV) (ws:List Value),ws.length=l.length->(∀(k:Nat) (u:AV) (v:Value),l[k]?=some u->ws[k]?=some v->CR μ ρ u v)->
    ws.length=(l.map (qH vs n)).length/\∀(k:Nat) (u:AV) (v:Value),(l.map (qH vs n))[k]?=some u->ws[k]?=some v->CR μ (C5 vs ρ) u v:=fun l ws h1 h2=>by
   refine⟨by simpa using h1,fun k u v hu hv=>?_⟩;simp only[et,kn]at hu;obtain⟨x,hx,e⟩:=hu;subst e;exact Fk n (h2 k x v hx hv)
  cases h with
  |d hd=>
   cases hd with
   |v hx=>exact .d (.v hx)
   |aq vals h1 h2 h3 h4 h5 h6=>exact .d (.aq vals h1 h2 h3 h4 h5 h6)
   |ep vals h1 h2=>exact .d (.ep vals h1 h2)
   |eN h1 h2 h3 h4=>
    obtain⟨a1,a2⟩:=hlist _ _ h1 (fun k u v hu hv=>.d (h3 k u v hu hv));obtain⟨b1,b2⟩:=hlist _ _ h2 (fun k u v hu hv=>.d (h4 k u v hu hv));exact .eN a1 b1 a2 b2
  | @ptr l i j rb h1 h2=>
   simp only[qH];cases e:mY l vs with
   |false=>exact .un rfl
   |true=>exact .ptr (vr e h1) h2
  | @px l j m i rb h1 h2 h3=>
   simp only[qH];cases e:mY l vs with
   |false=>exact .un rfl
   |true=>exact .px (vr e h1) h2 h3
  | @sl l off cut rb x len cap h1 h2 h3 h4 h5 h6 h7=>
   simp only[qH];cases e:mY l vs with
   |false=>exact .un rfl
   |true=>exact .sl (vr e h1) h2 h3 h4 h5 h6 h7
  | @tB l off cut rb h1 h2 h3 h4=>
   simp only[qH];cases e:mY l vs with
   |false=>exact .un rfl
   |true=>exact .tB (vr e h1) h2 h3 h4
  |eN h1 h2 h3 h4=>
   obtain⟨a1,a2⟩:=hlist _ _ h1 h3;obtain⟨b1,b2⟩:=hlist _ _ h2 h4;exact .eN a1 b1 a2 b2
  |un h=>exact .un h
theorem R1:∀(n:Nat) {a:AV} {v:Value},VR μ ρ a v->VR μ (C5 vs ρ) (qH vs n a) v
 |0,a,v,h=>.un
 |n+1,a,v,h=>by
  cases h with
  |c hx=>exact .c (Fk (n+1) hx)
  |agg hx=>
   refine .agg ⟨by simpa using hx.1,fun k u v hu hv=>?_⟩;simp only[et,kn]at hu;obtain⟨x,h1,e⟩:=hu;subst e;exact Fk n (hx.2 k x v h1 hv)
  |kK hl hx=>
   refine .kK (by simpa using hl) fun k u v hu hv=>?_;simp only[et,kn]at hu;obtain⟨x,h1,e⟩:=hu;subst e;exact R1 n (hx k x v h1 hv)
  |un=>exact .un
  |sk=>exact .sk
theorem VW{w:World}{k:gC}(h:yS μ ρ w k rb):yS μ (C5 vs ρ) w (GM vs k) rb:=by
 unfold GM;cases ho:k.obj with
 |false=>
  simp only[jz];exact⟨h.sz,h.n,h.fit,h.ph,h.one,fun hp=>let⟨cur,hc⟩:=h.live hp;⟨cur,hc.size,hc.mq,fun e=>(by rw[ho]at e;cases e),hc.at_⟩⟩
 |true=>
  simp only[me];obtain⟨h1,h2⟩:=h.one ho;refine⟨h.sz,by rw[h.n,h1];rfl,h.fit,fun hp=>(by have:=(h.ph hp).2;rw[ho]at this;cases this),fun _=>⟨rfl,h2⟩,fun hp=>?_⟩;obtain⟨cur,hc⟩:=h.live hp;refine⟨cur,hc.size,fun e=>(by cases e),fun _=>?_,ho▸hc.at_⟩;obtain⟨r1,r2⟩:=hc.wD ho;obtain⟨x,hx⟩:∃x,k.xs=[x]:=qS.1 h1;have hl:aw k.xs 0=x:=by rw[hx];rfl
  refine⟨fun e he=>?_,fun i e j c he hc'=>?_⟩
  ·grind
  ·cases i with
   |succ i=>simp at he
   |zero=>
    simp at he;subst he;rw[hl,et,kn]at hc';obtain⟨y,hy,e⟩:=hc';subst e;obtain⟨u,hu1,Yu⟩:=r2 0 x j y (by rw[hx];rfl) hy;exact⟨u,hu1,Fk 6 Yu⟩
end
theorem O3(A B:List (Nat×AV))(g:Nat->AV)(hA:∀p∈A,p.2=g p.1)(t:Nat):ax (A++B) t=g t\/ax (A++B) t=ax B t:=by
 induction A with
 |nil=>exact .inr rfl
 |cons p A ih=>
  obtain⟨i,a⟩:=p;simp only[AN,ax];cases e:Nat.beq i t with
  |true=>
   simp_all
  |false=>grind
theorem vu(p:Nat->Bool)(t:Nat):∀(fr:List (Nat×AV)),ax (fr.filter fun q=>p q.1) t=if p t=true then ax fr t else .un
 |[]=>by simp[ax]
 |(i,a)::fr=>by
  have ih:=vu p t fr;simp only[List.filter_cons,ax];by_cases hi:p i=true
  ·rw[ee hi];simp only[ax];cases e:Nat.beq i t with
   |true=>simp_all
   |false=>exact ih
  ·rw[eg hi,ih];cases e:Nat.beq i t with
   |true=>simp_all
   |false=>rfl
theorem DW(g:AV->AV)(hg:g .un=.un)(t:Nat):∀(fr:List (Nat×AV)),ax (fr.map fun p=>(p.1,g p.2)) t=g (ax fr t)
 |[]=>hg.symm
 |(i,a)::fr=>by
  simp only[B5,ax,DW g hg t fr];cases Nat.beq i t<;>rfl
theorem fS{E:Env}{G:Nat->Value}{n:Nat}(keep:List Nat){w:World}(h:Rel E .zero G n (ax s.fr) s.bl a w):Rel E .zero G n (ax (canon keep s).fr) (canon keep s).bl a w:=by
 obtain⟨⟨μ,ρ,hf,hs,hd,_⟩,_,hsz,M8⟩:=h;generalize hfr:(keep.filterMap fun t=>match ax s.fr t with| .un=>none|a=>some (t,a))++(s.fr.filter fun p=>Nat.ble 1000000 p.1)=fr;generalize hvs:fr.foldl (fun vs p=>oQ s.bl 6 vs p.2) []=vs;have hnd:vs.Nodup:=by
  grind [fg,vn,List.nodup_nil]
 have aeY:canon keep s=⟨fr.map fun p=>(p.1,qH vs 6 p.2),vs.map fun l=>match s.bl[l]? with|some k=>GM vs k|none=>⟨0,0,0,false,[]⟩⟩:=by
  subst hvs;subst hfr;rfl
 rw[aeY];have yg:∀t,ax fr t=.un\/ax fr t=ax s.fr t:=fun t=>by
  rw[<-hfr];have hA:∀p∈(keep.filterMap fun t=>match ax s.fr t with| .un=>none|a=>some (t,a)),p.2=ax s.fr p.1:=fun p hp=>by
   grind
  rcases O3 _ (s.fr.filter fun p=>Nat.ble 1000000 p.1) (ax s.fr) hA t with h|h
  ·exact .inr h
  ·rw[h,vu (fun i=>Nat.ble 1000000 i)];grind
 have hget:∀i k,(vs.map fun l=>match s.bl[l]? with|some k=>GM vs k|none=>⟨0,0,0,false,[]⟩)[i]?=some k->k.mode≠0->∃l k0,vs[i]?=some l/\s.bl[l]?=some k0/\k=GM vs k0:=fun i k hk hm=>by
  rw[et,kn]at hk;obtain⟨l,h1,h2⟩:=hk;split at h2
  ·rename_i k0 h3;exact⟨l,k0,h1,h3,h2.symm⟩
  grind
 have hmode:∀k,(GM vs k).mode=k.mode:=fun k=>by unfold GM;cases k.obj<;>rfl
 refine⟨⟨μ,C5 vs ρ,fun t=>?_,⟨fun i rb k hi hk hm=>?_,fun i i' rb fc k k' hi hi' hk hk' hm hm' hp hp' he=>?_,fun i rb k hi hk hm hp=>?_,hs.gj,hs.base⟩,fun i rb hi=>?_,.zero _ _ _⟩,nt _,hsz,M8⟩
 ·show VR μ (C5 vs ρ) (ax (fr.map fun p=>(p.1,qH vs 6 p.2)) t) _;rw[DW (qH vs 6) rfl];rcases yg t with h|h
  ·rw[h];exact .un
  ·rw[h];exact R1 6 (hf t)
 ·obtain⟨l,k0,h1,h2,h3⟩:=hget i k hk hm;obtain⟨l',h4,h5⟩:=ox hi;rw[h1]at h4;injection h4 with h4;subst h4;subst h3;rw[hmode]at hm;exact VW (hs.blk l rb k0 h5 h2 hm)
 ·obtain⟨l,k0,h1,h2,h3⟩:=hget i k hk (by omega);obtain⟨l2,h4,h5⟩:=ox hi;rw[h1]at h4;injection h4 with h4;subst h4;obtain⟨l',k0',h1',h2',h3'⟩:=hget i' k' hk' (by omega);obtain⟨l2',h4',h5'⟩:=ox hi';rw[h1']at h4';injection h4' with h4';subst h4';subst h3;subst h3';rw[hmode]at hm hm';have:=hs.inj l l' rb fc k0 k0' h5 h5' h2 h2' hm hm' hp hp' he;grind [List.getElem?_inj,List.getElem?_eq_some_iff]
 ·obtain⟨l,k0,h1,h2,h3⟩:=hget i k hk (by omega);obtain⟨l2,h4,h5⟩:=ox hi;rw[h1]at h4;injection h4 with h4;subst h4;subst h3;rw[hmode]at hm;exact hs.lW l rb k0 h5 h2 hm hp
 grind [ox,List.getElem?_eq_some_iff]
end
section
section gen
variable{T:Type}(f:T->AV->Bool×AV)
def wT:List T->Nat->List AV->Bool
 |[],_,_=>true
 |[t],j,cs=>(f t (cellAt cs j)).1
 |t::ts,j,cs=>(f t (cellAt cs j)).1&&wT ts (j+1) cs
def rf:List T->Nat->List AV->List AV
 |[],_,_=>[]
 |t::ts,j,cs=>(f t (cellAt cs j)).2::rf ts (j+1) cs
variable{f}
theorem DX:∀(ts:List T) (j:Nat) (cs:List AV),wT f ts j cs=true->∀q t,ts[q]?=some t->(f t (cellAt cs (j+q))).1=true
 |[],_,_,_,q,k,hq=>by simp at hq
 |[t0],j,cs,h,q,t,hq=>by
  cases q with
  |zero=>simp at hq;subst hq;exact h
  |succ q=>simp at hq
 |t0::t1::ts,j,cs,h,q,t,hq=>by
  simp only[wT,dd]at h;cases q with
  |zero=>grind
  |succ q=>
   have:=DX (t1::ts) (j+1) cs h.2 q t (by simpa using hq);grind
theorem mi:∀(ts:List T) (j:Nat) (cs:List AV),(rf f ts j cs).length=ts.length/\∀q,(rf f ts j cs)[q]?=(ts[q]?).map fun t=>(f t (cellAt cs (j+q))).2
 |[],_,_=>⟨rfl,fun q=>by simp[rf]⟩
 |t::ts,j,cs=>by
  have ih:=mi ts (j+1) cs;refine⟨by simp[rf,ih.1],fun q=>?_⟩;cases q with
  |zero=>simp[rf]
  |succ q=>
   simp only[rf,td,ih.2];rw[show j+1+q=j+(q+1) by omega]
theorem vw(hun:∀t,(f t .un).1=false){ts:List T}{cs:List AV}(h:wT f ts j cs=true){q:Nat}{u:AV}(hu:(rf f ts j cs)[q]?=some u):
  ∃t c,ts[q]?=some t/\cs[j+q]?=some c/\(f t c).1=true/\u=(f t c).2:=by
 grind [mi,Option.map_eq_some_iff,DX,nu]
end gen
def kU(c c':AV):Prop:=c'=c\/ ∃s s' xs,c=.aq true s xs/\c'=.aq true s' xs
theorem kU.dr{μ:Mu}{c':AV}(h:kU c c')(hd:DR μ c v):DR μ c' v:=by
 rcases h with h|⟨s,s',xs,h1,h2⟩
 ·subst h;exact hd
 ·subst h1;subst h2;cases hd with
  | @aq _ _ _ A c vals hnil hA hc hsz hcell hv=>
   have hn:A=none:=by simp_all
   have hx:=(hA hn).1;subst hx;exact .aq vals hnil hA hc (fun e he=>by cases he) (fun a ha=>by rw[hn]at ha;cases ha) (fun i e j u he=>by simp at he)
theorem kU.cr{μ:Mu}{ρ:bD}{c':AV}(h:kU c c')(hd:CR μ ρ c v):CR μ ρ c' v:=by
 rcases h with h|⟨s,s',xs,h1,h2⟩
 ·subst h;exact hd
 ·subst h1;cases hd with
  |d hx=>exact .d (kU.dr (.inr ⟨s,s',xs,rfl,h2⟩) hx)
theorem Fl{k:IntKind}(h:eE k c=true):c=.v (.int k (ai c)):=by
 cases c with
 |v x=>cases x<;>simp_all [eE,ai]
 |_=>simp[eE]at h
theorem Fm(h:Dp c=true):c=.v (.bool (eW c)):=by
 cases c with
 |v x=>cases x<;>simp_all [Dp,eW]
 |_=>simp[Dp]at h
theorem Fo(h:MP c=true):c=.v (.string (xK c)):=by
 cases c with
 |v x=>cases x<;>simp_all [MP,xK]
 |_=>simp[MP]at h
theorem zD{sz:Nat}(h:GD sz c=true):kU c (.aq (bM c) sz (bU c)):=by
 cases c with
 |aq n s xs=>
  simp only[GD,pC]at h;simp only[bM,bU];rcases h with h|h
  ·have:=cj h;subst this;exact .inl rfl
  ·subst h;exact .inr ⟨s,sz,xs,rfl,rfl⟩
 |_=>simp[GD]at h
theorem Fp(h:ED c=true):c=.v (.pointer none):=by
 unfold ED at h;grind
theorem si{t:AV}(h:(iK t c).1=true):kU c (iK t c).2:=by
 unfold iK at h⊢;split at h
 ·exact .inl (Fl h).symm
 ·exact .inl (Fm h).symm
 ·exact .inl (Fo h).symm
 ·exact .inl (Fp h).symm
 ·exact zD h
 ·simp only[dd]at h;obtain⟨h1,h2⟩:=h;unfold yR at h1;split at h1
  ·simp only[dd]at h1;obtain⟨h3,h4⟩:=h1;have e1:=cj h3;have e2:=cj h2;split at h4
   ·simp only[uC]at e2;subst e1;subst e2;exact .inl rfl
   ·cases h4
  ·cases h1
 ·simp only[dd]at h;obtain⟨h1,h2⟩:=h;unfold yR at h1;split at h1
  ·simp only[dd]at h1;obtain⟨h3,h4⟩:=h1;have e1:=cj h3;have e2:=cj h2;split at h4
   ·cases h4
   ·simp only[uC]at e2;subst e1;subst e2;exact .inl rfl
  ·cases h1
 ·unfold Ds at h;split at h
  ·simp only[dd]at h;obtain⟨⟨h1,h2⟩,h3⟩:=h;have e1:=cj h1;have e2:=cj h2;have e3:=cj h3;subst e1;subst e2;subst e3;exact .inl rfl
  ·cases h
 ·unfold Rm at h;split at h
  ·have e1:=cj h;subst e1;exact .inl rfl
  ·cases h
 ·cases h
theorem Bd(t:AV):(iK t .un).1=false:=by
 unfold iK;split<;>rfl
theorem o8:∀(ts:List AV) (j:Nat) (cs:List AV),iU ts j cs=wT iK ts j cs
 |[],_,_=>rfl
 |[_],_,_=>rfl
 |t::t'::ts,j,cs=>by simp only[iU,wT,o8 (t'::ts)]
theorem mD:∀(ts:List AV) (j:Nat) (cs:List AV),tA ts j cs=rf iK ts j cs
 |[],_,_=>rfl
 |t::ts,j,cs=>by simp only[tA,rf,mD ts]
theorem R2{μ:Mu}{ρ:bD}{t:AV}(h:(lR t c).1=true)(hv:VR μ ρ c v):VR μ ρ (lR t c).2 v:=by
 unfold lR at h⊢;split at h
 ·rename_i ts o;simp only[dd]at h;obtain⟨h1,h2⟩:=h;cases c with
  |ep cs o'=>
   simp only[Rl,dd]at h1;have hlen:=cj h1.1;have ho:=cj h1.2;subst ho;simp only[uD]at h2⊢;rw[o8]at h2;rw[mD];cases hv with
   |c hx=>
    cases hx with
    |d hd=>
     cases hd with
     |ep vals hcell hvs=>
      refine .c (.d (.ep vals (fun j hj=>hcell j (by grind [mi])) fun j u hu=>?_));obtain⟨t,c,_,h3,h4,e⟩:=vw Bd h2 hu;subst e;rw[gv]at h3;exact(si h4).dr (hvs j c h3)
  |_=>cases h1
 ·rename_i ts;simp only[dd]at h;obtain⟨h1,h2⟩:=h;cases c with
  |agg cs=>
   have hlen:=cj h1;simp only[aA]at h2⊢;cases hv with
   |c hx=>cases hx with|d hd=>cases hd
   |agg hx=>
    rw[o8]at h2;rw[mD];refine .agg ⟨by rw[(mi ts 0 cs).1,hx.1,hlen],fun q u v hu hvq=>?_⟩;obtain⟨t,c,_,h3,h4,e⟩:=vw Bd h2 hu;subst e;rw[gv]at h3;exact(si h4).cr (hx.2 q c v h3 hvq)
  |_=>cases h1
 ·have hs:=si h;rcases hs with e|⟨s,s',xs,e1,e2⟩
  ·rw[e];exact hv
  ·rw[e2];rw[e1]at hv;cases hv with
   |c hx=>exact .c (kU.cr (.inr ⟨s,s',xs,rfl,rfl⟩) hx)
theorem yZ(h:j<fr.length)(t:Nat):ax (fr.drop j) t=bif Nat.beq (gK fr j).1 t then(gK fr j).2 else ax (fr.drop (j+1)) t:=by
 rw[C7 h];have:gK fr j=fr[j]:=by simp[gK,kc,h]
 rw[this];rfl
theorem Ng{μ:Mu}{ρ:bD}{t:Nat}{v:Value}:∀(T:List (Nat×AV)) (j:Nat) (fr:List (Nat×AV)),qI T j fr=true->T.length+j=fr.length->VR μ ρ (ax (fr.drop j) t) v->VR μ ρ (ax (EM T j fr) t) v
 |[],_,_,_,_,_=>.un
 |(i,a)::r,j,fr,h,hl,hv=>by
  simp only[qI,dd]at h;obtain⟨⟨h1,h2⟩,h3⟩:=h;have e:=cj h1;rw[yZ (by simp at hl;omega),<-e]at hv;simp only[EM,ax];cases hb:Nat.beq i t with
  |true=>
   rw[hb]at hv;exact R2 h2 hv
  |false=>
   rw[hb]at hv;exact Ng r (j+1) fr h3 (by simp at hl;omega) hv
theorem Nh:∀(T:Store) (j:Nat) (bl:Store),nP T j bl=true->∀i k',(nQ T j bl)[i]?=some k'->∃k,T[i]?=some k/\
  k.mode=(cR bl (j+i)).mode/\k.ty=(cR bl (j+i)).ty/\k.sz=(cR bl (j+i)).sz/\k.obj=(cR bl (j+i)).obj/\
  k'={k with xs:=match k.obj with|true=>[tA (aw k.xs 0) 0 (aw (cR bl (j+i)).xs 0)]|false=>(cR bl (j+i)).xs}/\
  (k.obj=true->(cR bl (j+i)).xs.length=1/\(aw (cR bl (j+i)).xs 0).length=(aw k.xs 0).length/\iU (aw k.xs 0) 0 (aw (cR bl (j+i)).xs 0)=true)
 |[],_,_,_,i,k',hk=>by simp[nQ]at hk
 |k0::r,j,bl,h,i,k',hk=>by
  simp only[nP,dd]at h;obtain⟨⟨⟨⟨⟨h1,h2⟩,h3⟩,h4⟩,h5⟩,h6⟩:=h;cases i with
  |zero=>
   simp only[nQ,te,bj]at hk;refine⟨k0,rfl,cj h1,cj h2,cj h3,by simpa using h4,hk.symm,fun ho=>?_⟩;rw[ho]at h5;simp only[dd]at h5;exact⟨cj h5.1.1,cj h5.1.2,h5.2⟩
  |succ i=>
   simp only[nQ,td]at hk;have:=Nh r (j+1) bl h6 i k' hk;rw[show j+1+i=j+(i+1) by omega]at this;obtain⟨k,hk,rest⟩:=this;exact⟨k,by simpa using hk,rest⟩
theorem tP:∀(T:Store) (j:Nat) (bl:Store),(nQ T j bl).length=T.length
 |[],_,_=>rfl
 |_::r,j,bl=>by simp[nQ,tP r]
theorem o9{E:Env}{B:qW}{G:Nat->Value}{n:Nat}{T:St}{w:World}(hl:dx T s=true)(h:Rel E B G n (ax s.fr) s.bl a w):Rel E B G n (ax (ni T s).fr) (ni T s).bl a w:=by
 simp only[dx,dd]at hl;obtain⟨⟨h1,h2⟩,h3,h4⟩:=hl;obtain⟨⟨μ,ρ,hf,hs,hd,tN⟩,hb,hsz,M8⟩:=h;have hlen:T.bl.length=s.bl.length:=cj h3;have hget:∀(i:Nat) (k':gC),(ni T s).bl[i]?=some k'->∃k0:gC,s.bl[i]?=some k0/\k'.mode=k0.mode/\k'.ty=k0.ty/\k'.sz=k0.sz/\k'.obj=k0.obj/\
   (k0.obj=false->k'.xs=k0.xs)/\(k0.obj=true->∃x x':List AV,k0.xs=[x]/\k'.xs=[x']/\x'.length=x.length/\∀(q:Nat) (u:AV),x'[q]?=some u->∃c,x[q]?=some c/\kU c u):=fun i k' hk=>by
  obtain⟨k,e0,e1,e2,e3,e4,e5,e6⟩:=Nh T.bl 0 s.bl h4 i k' hk;rw[gv]at e1 e2 e3 e4 e5 e6;have hi:i<s.bl.length:=by grind
  have hat:cR s.bl i=s.bl[i]:=by simp[cR,kc,hi]
  rw[hat]at e1 e2 e3 e4 e5 e6;subst e5;refine⟨s.bl[i],ao hi,e1,e2,e3,e4,fun ho=>?_,fun ho=>?_⟩
  ·grind
  ·rw[<-e4]at ho;obtain⟨f1,f2,f3⟩:=e6 ho;obtain⟨x,hx⟩:=qS.1 f1;have DE:aw s.bl[i].xs 0=x:=by rw[hx];rfl
   rw[DE]at f2 f3;rw[o8]at f3;refine⟨x,_,hx,by rw[ho],?_,fun q u hu=>?_⟩
   ·rw[DE,mD,(mi _ _ _).1,f2]
   ·rw[DE,mD]at hu;obtain⟨t,c,_,g2,g3,g4⟩:=vw Bd f3 hu;simp_all [gv,si]
 refine⟨⟨μ,ρ,fun t=>?_,⟨fun l rb k' hl hk hm=>?_,fun l l' rb fc k k' hl hl' hk hk' hm hm' hp hp' he=>?_,fun l rb k hl hk hm hp=>?_,hs.gj,hs.base⟩,fun l rb hl=>?_,tN⟩,?_,hsz,M8⟩
 ·exact Ng T.fr 0 s.fr h2 (cj h1) (hf t)
 ·obtain⟨k0,g0,g1,g2,g3,g4,g5,g6⟩:=hget l k' hk;have hb0:=hs.blk l rb k0 hl g0 (by omega);have hxl:k'.xs.length=k0.xs.length:=by
   cases ho:k0.obj with
   |false=>rw[g5 ho]
   |true=>grind
  refine⟨hb0.sz.trans g3.symm,hb0.n.trans hxl.symm,hb0.fit,fun hp=>?_,fun ho=>?_,fun hp=>?_⟩
  ·obtain⟨f1,f2⟩:=hb0.ph hp;grind
  ·rw[g4]at ho;rw[hxl];exact hb0.one ho
  ·obtain⟨cur,hc⟩:=hb0.live hp;refine⟨cur,hc.size,fun ho=>?_,fun ho=>?_,?_⟩
   ·rw[g4]at ho;rw[g5 ho];exact hc.mq ho
   ·rw[g4]at ho;obtain⟨x,x',f1,f2,f3,f4⟩:=g6 ho;have hr:=hc.wD ho;rw[f1]at hr;rw[f2];refine⟨fun e he=>?_,fun i e j c he hc'=>?_⟩
    ·simp only[BT]at he;subst he;rw[f3];exact hr.1 x (by simp)
    ·cases i with
     |succ i=>simp at he
     |zero=>
      simp at he;subst he;obtain⟨c0,q1,q2⟩:=f4 j c hc';obtain⟨u,q3,q4⟩:=hr.2 0 x j c0 rfl q1;exact⟨u,q3,q2.cr q4⟩
   ·rw[g1,g2,g3,g4];exact hc.at_
 ·obtain⟨k0,g0,g1,_⟩:=hget l k hk;obtain⟨k0',g0',g1',_⟩:=hget l' k' hk';exact hs.inj l l' rb fc k0 k0' hl hl' g0 g0' (by omega) (by omega) hp hp' he
 ·obtain⟨k0,g0,g1,_⟩:=hget l k hk;exact hs.lW l rb k0 hl g0 (by omega) hp
 ·show l<(nQ T.bl 0 s.bl).length;rw[tP,hlen];exact hd l rb hl
 ·show B.n<=(nQ T.bl 0 s.bl).length;rw[tP,hlen];exact hb
end
