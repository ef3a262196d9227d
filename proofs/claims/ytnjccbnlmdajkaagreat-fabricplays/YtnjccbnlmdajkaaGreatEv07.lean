/- Code and loops. -/
import Derived.LoopN
import Derived.Test.YtnjccbnlmdajkaaGreatEv06
set_option linter.all false
namespace Go.Ev
variable{v:Value}{a:AV}{gs:List Value}{c:AV}{os:List (Nat×List AV)}{cs:List AV}{r:List Nat}{f:FuncId}{ls:List Nat}{args:List AV}{l:Nat}{R:Type}{fn:Func}{o:Nat×List AV}{rs:List AV}{m:Nat}{k:gC}{n:Nat}{c':AV}{s:St}{σ1:Store}{rb:RB}{t:Nat}{K:AV->Store->Option R}
section
def Fq:Ex->Exit
 | .normal=>.normal
 | .exit id=>.exit id
 | .ret=>.ret
def AtS(E:Env)(B:qW)(G:Nat->Value)(n:Nat)(e:Ex)(s:St):Exit->Act->World->Prop:=fun x a w=>x=Fq e/\Rel E B G n (ax s.fr) s.bl a w
def AtR(E:Env)(G:Nat->Value)(n:Nat)(bg:St->Option (List AV))(outs:List AV):Exit->Act->World->Prop:=fun x a w=>x=.ret/\∃s,bg s=some outs/\Rel E .zero G n (ax s.fr) s.bl a w
def Out{R:Type}(P:Program)(lf:Bool)(bg:St->Option (List AV))(c:Code)(s:St)(K:Ex->St->Option R)(fin:List AV->Option R)(r:R):Prop:=
 (∃e s',K e s'=some r/\(lf=true->s.bl.length<=s'.bl.length)/\∀(E:Env) (B:qW) (G:Nat->Value) (n:Nat) (a:Act) (w:World),(lf=true\/B=.zero)->dR n c=true->n<=1000000->
   Rel E B G n (ax s.fr) s.bl a w->c.wp P (AtS E B G n e s') a w)\/
 (lf=false/\∃outs,fin outs=some r/\∀(E:Env) (G:Nat->Value) (n:Nat) (a:Act) (w:World),dR n c=true->n<=1000000->Rel E .zero G n (ax s.fr) s.bl a w->c.wp P (AtR E G n bg outs) a w)
def ach(P:Program)(bg:St->Option (List AV))(c:Code)(s:St)(r:LR)(m:Nat):Prop:=
 ∀(E:Env) (G:Nat->Value) (n:Nat) (a:Act) (w:World),dR n c=true->n<=1000000->Rel E .zero G n (ax s.fr) s.bl a w->
  Code.rounds P c (match r.ex with|some id=>AtS E .zero G n (.exit id) r.st|none=>AtR E G n bg r.outs) m a w
def zE(P:Program)(lf:Bool)(loop:mo):Prop:=
 ∀(c:Code) (LE:LE) (bg:St->Option (List AV)) (s:St) (r:LR),loop c LE bg s=some r->lf=false/\∃m,ach P bg c s r m
section
variable{P:Program}{C:gD}{call:cK}{inl:iv}{loop:mo}{iV:Nat}{lf jn:Bool}
theorem nS{R:Type}{T:List Nat->St}{E:LE}{K:Ex->St->Option R}{fin:List AV->Option R}{r':LR}{r:R}:∀(ids:List Nat),lV T E K fin r' ids=some r->
  (r'.ex=none/\fin r'.outs=some r)\/ ∃id T',r'.ex=some id/\dx T' r'.st=true/\K (.exit id) (ni T' r'.st)=some r
 |[],h=>by
  simp only[lV]at h;obtain⟨h1,h2⟩:=ah h;exact .inl ⟨by simpa [sH]using h1,h2⟩
 |id::ids,h=>by
  simp only[lV]at h;rcases aM h with⟨h1,h2⟩|⟨_,h2⟩
  ·obtain⟨h3,h4⟩:=ah h2;refine .inr ⟨id,_,?_,h3,h4⟩;unfold nO at h1;grind [Nat.eq_of_beq_eq_true]
  ·exact nS ids h2
theorem Ni{id:Nat}{ops:Array Oper}{d:Bool}(h:dR n (.region id ops d)=true)(hn:n<=1000000):DP ops n:=fun j oj d h1 h2=>by
 simp only[dR,ka]at h;grind [List.mem_of_getElem?,Nat.blt_eq]
theorem pd{Q:Exit->Act->World->Prop}{next:Act->World->Prop}{x:Exit}{a:Act}{w:World}(hn:x≠ .normal)(h:Q x a w):Exit.then next Q x a w:=by
 cases x with
 |normal=>exact absurd rfl hn
 |_=>exact h
theorem wU{e:Ex}(h:e≠ .normal):Fq e≠ .normal:=by
 cases e with
 |normal=>exact absurd rfl h
 |exit id=>intro e;cases e
 |ret=>intro e;cases e
def aeZ{R:Type}(P:Program)(lf:Bool)(bg:St->Option (List AV))(c:Code)(m:Nat)(s:St)(K:Ex->St->Option R)(fin:List AV->Option R)(r:R):Prop:=
 (∃e s',K e s'=some r/\(lf=true->s.bl.length<=s'.bl.length)/\∀(E:Env) (B:qW) (G:Nat->Value) (n:Nat) (a:Act) (w:World),(lf=true\/B=.zero)->dR n c=true->n<=1000000->
   Rel E B G n (ax s.fr) s.bl a w->Code.rounds P c (AtS E B G n e s') m a w)\/
 (lf=false/\∃outs,fin outs=some r/\∀(E:Env) (G:Nat->Value) (n:Nat) (a:Act) (w:World),dR n c=true->n<=1000000->Rel E .zero G n (ax s.fr) s.bl a w->Code.rounds P c (AtR E G n bg outs) m a w)
theorem yh{R:Type}{bg:St->Option (List AV)}{fin:List AV->Option R}{c:Code}{step:St->(Ex->St->Option R)->Option R}
  (hstep:∀(s:St) (K:Ex->St->Option R) (r:R),step s K=some r->Out P lf bg c s K fin r) {K:Ex->St->Option R} {r:R}:∀(m:Nat) (s:St),xO step m s K=some r->aeZ P lf bg c m s K fin r
 |0,s,h=>by cases h
 |m+1,s,h=>by
  rw[xO]at h;rcases hstep _ _ _ h with⟨e,s1,hk,hlen,hw⟩|⟨hlf,outs,hk,hw⟩
  ·cases e with
   |normal=>
    rcases yh hstep m s1 hk with⟨e2,s2,hk2,qP,hw2⟩|⟨hlf,outs,hk2,hw2⟩
    ·refine .inl ⟨e2,s2,hk2,fun e=>iS (hlen e) (qP e),fun E B G n a w hB hd hn hr=>?_⟩;rw[OR];refine ti (hw E B G n a w hB hd hn hr) fun x a' w' hq=>?_;obtain⟨hx,hr'⟩:=hq;subst hx;exact hw2 E B G n a' w' hB hd hn hr'
    ·refine .inr ⟨hlf,outs,hk2,fun E G n a w hd hn hr=>?_⟩;rw[OR];refine ti (hw E .zero G n a w (.inr rfl) hd hn hr) fun x a' w' hq=>?_;obtain⟨hx,hr'⟩:=hq;subst hx;exact hw2 E G n a' w' hd hn hr'
   |exit id=>
    refine .inl ⟨.exit id,s1,hk,hlen,fun E B G n a w hB hd hn hr=>?_⟩;rw[OR];refine ti (hw E B G n a w hB hd hn hr) fun x a' w' hq=>pd (by rw[hq.1];exact wU (fun e=>by cases e)) hq
   |ret=>
    refine .inl ⟨.ret,s1,hk,hlen,fun E B G n a w hB hd hn hr=>?_⟩;rw[OR];refine ti (hw E B G n a w hB hd hn hr) fun x a' w' hq=>pd (by rw[hq.1];exact wU (fun e=>by cases e)) hq
  ·refine .inr ⟨hlf,outs,hk,fun E G n a w hd hn hr=>?_⟩;rw[OR];refine ti (hw E G n a w hd hn hr) fun x a' w' hq=>pd (by rw[hq.1];intro e;cases e) hq
theorem Nj(s:St)(c:Operand)(v:Bool):(sI s c v).bl=s.bl:=by
 unfold sI;split<;>rfl
theorem DY{c:Operand}{t v:Bool}(h:fP s.fr c=.v (.bool t))(e:t=v):ax (sI s c v).fr=ax s.fr:=by
 unfold sI;split
 ·rename_i q;show ax (iQ s.fr (some q) _)=_;rw[jH];refine wP ?_;simp only[fP,EF]at h;grind
 ·rfl
theorem cG(dw:P.follows .mixedOrders=true)(HC:gZ P C call inl)(HL:zE P lf loop)(hj:lf=true->jn=false){bg:St->Option (List AV)}:
  ∀(c:Code) {R:Type} {fin:List AV->Option R} (out:List Nat) (LE:LE) (s:St) (K:Ex->St->Option R) (r:R),ck P C call inl loop iV jn bg c R fin out LE s K=some r->Out P lf bg c s K fin r
 | .skip,R,fin,out,LE,s,K,r,h=>by
  rw[ck]at h;exact .inl ⟨.normal,s,h,fun _=>dk _,fun E B G n a w _ _ _ hr=>wp_skip ⟨rfl,hr⟩⟩
 | .region id ops d,R,fin,out,LE,s,K,r,h=>by
  rw[ck]at h;rcases aM h with⟨h1,h2⟩|⟨h1,h2⟩
  ·subst h1;obtain⟨CO,h2⟩:=ah h2;obtain⟨s',hk,hlen,hw⟩:=K7 dw HC (id:=id) CO h2;exact .inl ⟨.normal,s',hk,fun _=>hlen,fun E B G n a w _ hd hn hr=>hw E B G n _ a w (Ni hd hn) hr fun a w hr=>⟨rfl,hr⟩⟩
  ·subst h1;obtain⟨s',hk,hlen,hw⟩:=Fj HC (id:=id) h2;exact .inl ⟨.normal,s',hk,fun _=>hlen,fun E B G n a w _ hd hn hr=>hw E B G n _ a w (Ni hd hn) hr fun a w hr=>⟨rfl,hr⟩⟩
 | .seq x y,R,fin,out,LE,s,K,r,h=>by
  rw[ck]at h;have ma:∀n,dR n (.seq x y)=true->dR n x=true/\dR n y=true:=fun n hd=>by
   simpa [dR]using hd
  rcases aM h with⟨hjn,h⟩|⟨_,h⟩
  ·--the ways are brought together
   have hlf:lf=false:=by
    grind
   rw[kl]at h;obtain⟨r',h3,h4⟩:=h;have hback:∀{T':St} {id:Nat} {s1:St},(∀(E:Env) (G:Nat->Value) (n:Nat) (a:Act) (w:World),dR n x=true->n<=1000000->Rel E .zero G n (ax s.fr) s.bl a w->x.wp P (AtS E .zero G n (.exit id) s1) a w)->
     dx T' s1=true->K (.exit id) (ni T' s1)=some r->Out P lf bg (.seq x y) s K fin r:=fun{T' id s1} hw hl hk=>by
    refine .inl ⟨.exit id,_,hk,fun e=>(by rw[hlf]at e;cases e),fun E B G n a w hB hd hn hr=>wp_seq ?_⟩;have hB':B=.zero:=hB.resolve_left (by rw[hlf];decide);subst hB';refine ti (hw E G n a w (ma n hd).1 hn hr) fun x a' w' hq=>?_;obtain⟨hx,hr'⟩:=hq;subst hx;exact⟨rfl,o9 hl hr'⟩
   have hfin:∀{outs:List AV},(∀(E:Env) (G:Nat->Value) (n:Nat) (a:Act) (w:World),dR n x=true->n<=1000000->Rel E .zero G n (ax s.fr) s.bl a w->x.wp P (AtR E G n bg outs) a w)->fin outs=some r->Out P lf bg (.seq x y) s K fin r:=fun{outs} hw hf=>by
    refine .inr ⟨hlf,outs,hf,fun E G n a w hd hn hr=>wp_seq ?_⟩;exact ti (hw E G n a w (ma n hd).1 hn hr) fun x a' w' hq=>pd (by rw[hq.1];intro e;cases e) hq
   have gone:∀{e:Option Nat} {s1:St} {outs:List AV},r'=⟨e,s1,outs⟩->nO wC r'=false->(e=none->fin outs=some r->Out P lf bg (.seq x y) s K fin r)->(∀id T',e=some id->dx T' s1=true->K (.exit id) (ni T' s1)=some r->Out P lf bg (.seq x y) s K fin r)->Out P lf bg (.seq x y) s K fin r:=fun{e s1 outs} he hno h1 h2=>by
    rw[hno,jz]at h4;rcases nS _ h4 with⟨q1,q2⟩|⟨id,T',q1,q2,q3⟩
    all_goals grind
   rcases cG dw HC HL hj x _ _ _ _ _ h3 with⟨e,s1,hk,_,hw⟩|⟨_,outs,hk,hw⟩
   ·cases e with
    |normal=>
     simp only[GP,bj]at hk;subst hk;have he:nO wC ⟨some wC,canon (live y out LE) s1,[]⟩=true:=rfl;rw[he,me]at h4;obtain⟨hl,h5⟩:=ah h4;rcases cG dw HC HL hj y _ _ _ _ _ h5 with⟨e2,s2,hk2,_,hw2⟩|⟨_,outs,hk2,hw2⟩
     ·refine .inl ⟨e2,s2,hk2,fun e=>(by rw[hlf]at e;cases e),fun E B G n a w hB hd hn hr=>wp_seq ?_⟩;have hB':B=.zero:=hB.resolve_left (by rw[hlf];decide);subst hB';refine ti (hw E .zero G n a w (.inr rfl) (ma n hd).1 hn hr) fun x a' w' hq=>?_;obtain⟨hx,hr'⟩:=hq;subst hx;exact hw2 E .zero G n a' w' (.inr rfl) (ma n hd).2 hn (o9 hl (fS _ hr'))
     ·refine .inr ⟨hlf,outs,hk2,fun E G n a w hd hn hr=>wp_seq ?_⟩;refine ti (hw E .zero G n a w (.inr rfl) (ma n hd).1 hn hr) fun x a' w' hq=>?_;obtain⟨hx,hr'⟩:=hq;subst hx;exact hw2 E G n a' w' (ma n hd).2 hn (o9 hl (fS _ hr'))
    |exit id=>
     simp only[GP]at hk;rcases aM hk with⟨_,hk⟩|⟨hid,hk⟩
     ·cases hk
     ·injection hk with hk;refine gone hk.symm (by rw[<-hk];exact hid) (fun e=>by cases e) fun id' T' e hl hkk=>?_;injection e with e;subst e;refine hback (s1:=canon (sR LE.blk id) s1) (fun E G n a w hd hn hr=>?_) hl hkk;exact ti (hw E .zero G n a w (.inr rfl) hd hn hr) fun x a' w' hq=>⟨hq.1,fS _ hq.2⟩
    |ret=>
     simp only[GP]at hk;obtain⟨outs,h5,h6⟩:=kl.1 hk;injection h6 with h6;refine gone h6.symm (by rw[<-h6];rfl) (fun _ hf=>?_) (fun id T' e=>by cases e);refine hfin (fun E G n a w hd hn hr=>?_) hf;exact ti (hw E .zero G n a w (.inr rfl) hd hn hr) fun x a' w' hq=>⟨hq.1,s1,h5,hq.2⟩
   ·injection hk with hk;exact gone hk.symm (by rw[<-hk];rfl) (fun _ hf=>hfin (fun E G n a w hd hn hr=>hw E G n a w hd hn hr) hf) (fun id T' e=>by cases e)
  ·rcases cG dw HC HL hj x _ _ _ _ _ h with⟨e,s1,hk,hlen,hw⟩|⟨hlf,outs,hk,hw⟩
   ·have other:e≠ .normal->K e s1=some r->Out P lf bg (.seq x y) s K fin r:=fun hne hk=>by
     refine .inl ⟨e,s1,hk,hlen,fun E B G n a w hB hd hn hr=>wp_seq ?_⟩;exact ti (hw E B G n a w hB (ma n hd).1 hn hr) fun x a' w' hq=>pd (by rw[hq.1];exact wU hne) hq
    cases e with
    |normal=>
     rcases cG dw HC HL hj y _ _ _ _ _ hk with⟨e2,s2,hk2,qP,hw2⟩|⟨hlf,outs,hk2,hw2⟩
     ·refine .inl ⟨e2,s2,hk2,fun e=>iS (hlen e) (qP e),fun E B G n a w hB hd hn hr=>wp_seq ?_⟩;refine ti (hw E B G n a w hB (ma n hd).1 hn hr) fun x a' w' hq=>?_;obtain⟨hx,hr'⟩:=hq;subst hx;exact hw2 E B G n a' w' hB (ma n hd).2 hn hr'
     ·refine .inr ⟨hlf,outs,hk2,fun E G n a w hd hn hr=>wp_seq ?_⟩;refine ti (hw E .zero G n a w (.inr rfl) (ma n hd).1 hn hr) fun x a' w' hq=>?_;obtain⟨hx,hr'⟩:=hq;subst hx;exact hw2 E G n a' w' (ma n hd).2 hn hr'
    |exit id=>grind
    |ret=>grind
   ·refine .inr ⟨hlf,outs,hk,fun E G n a w hd hn hr=>wp_seq ?_⟩;exact ti (hw E G n a w (ma n hd).1 hn hr) fun x a' w' hq=>pd (by rw[hq.1];intro e;cases e) hq
 | .cond c x y,R,fin,out,LE,s,K,r,h=>by
  rw[ck]at h;have ma:∀n,dR n (.cond c x y)=true->dR n x=true/\dR n y=true:=fun n hd=>by
   simpa [dR]using hd
  split at h
  ·rename_i t ht;have hev:∀{E:Env} {B:qW} {G:Nat->Value} {n:Nat} {a:Act} {w:World},Rel E B G n (ax s.fr) s.bl a w->a.eval c=.bool t:=fun{E B G n a w} hr=>by
    obtain⟨⟨μ,ρ,hf,_⟩,_⟩:=hr;have:=uY (x:=c) (fun t _=>hf t);rw[ht]at this;exact this.dB
   rcases aM h with⟨h1,h2⟩|⟨h1,h2⟩
   ·have hl:=DY ht h1;rcases cG dw HC HL hj x _ _ _ _ _ h2 with⟨e,s1,hk,hlen,hw⟩|⟨hlf,outs,hk,hw⟩<;>rw[Nj]at* <;>rw[hl]at hw
    ·exact .inl ⟨e,s1,hk,hlen,fun E B G n a w hB hd hn hr=>wp_cond_true (by rw[hev hr,h1]) (hw E B G n a w hB (ma n hd).1 hn hr)⟩
    ·exact .inr ⟨hlf,outs,hk,fun E G n a w hd hn hr=>wp_cond_true (by rw[hev hr,h1]) (hw E G n a w (ma n hd).1 hn hr)⟩
   ·have hl:=DY ht h1;rcases cG dw HC HL hj y _ _ _ _ _ h2 with⟨e,s1,hk,hlen,hw⟩|⟨hlf,outs,hk,hw⟩<;>rw[Nj]at* <;>rw[hl]at hw
    ·exact .inl ⟨e,s1,hk,hlen,fun E B G n a w hB hd hn hr=>wp_cond_false (by rw[hev hr,h1]) (hw E B G n a w hB (ma n hd).2 hn hr)⟩
    ·exact .inr ⟨hlf,outs,hk,fun E G n a w hd hn hr=>wp_cond_false (by rw[hev hr,h1]) (hw E G n a w (ma n hd).2 hn hr)⟩
  ·cases h
 | .block id c,R,fin,out,LE,s,K,r,h=>by
  rw[ck]at h;have ma:∀n,dR n (.block id c)=true->dR n c=true:=fun n hd=>by
   simpa [dR]using hd
  rcases cG dw HC HL hj c _ _ _ _ _ h with⟨e,s1,hk,hlen,hw⟩|⟨hlf,outs,hk,hw⟩
  ·cases e with
   |normal=>
    refine .inl ⟨.normal,s1,hk,hlen,fun E B G n a w hB hd hn hr=>wp_block ?_⟩;refine ti (hw E B G n a w hB (ma n hd) hn hr) fun x a' w' hq=>?_;have hx:=hq.1;subst hx;exact hq
   |exit i=>
    rcases aM hk with⟨h1,h2⟩|⟨h1,h2⟩
    ·have e:=cj h1;refine .inl ⟨.normal,s1,h2,hlen,fun E B G n a w hB hd hn hr=>wp_block ?_⟩;refine ti (hw E B G n a w hB (ma n hd) hn hr) fun x a' w' hq=>?_;have hx:=hq.1;subst hx;show if i=id then _ else _
     rw[ee e];exact⟨rfl,hq.2⟩
    ·have e:i≠id:=fun e=>by simp_all
     refine .inl ⟨.exit i,s1,h2,hlen,fun E B G n a w hB hd hn hr=>wp_block ?_⟩;refine ti (hw E B G n a w hB (ma n hd) hn hr) fun x a' w' hq=>?_;have hx:=hq.1;subst hx;show if i=id then _ else _
     rw[eg e];exact hq
   |ret=>
    refine .inl ⟨.ret,s1,hk,hlen,fun E B G n a w hB hd hn hr=>wp_block ?_⟩;refine ti (hw E B G n a w hB (ma n hd) hn hr) fun x a' w' hq=>?_;have hx:=hq.1;subst hx;exact hq
  ·refine .inr ⟨hlf,outs,hk,fun E G n a w hd hn hr=>wp_block ?_⟩;refine ti (hw E G n a w (ma n hd) hn hr) fun x a' w' hq=>?_;have hx:=hq.1;subst hx;exact hq
 | .loop c,R,fin,out,LE,s,K,r,h=>by
  rw[ck]at h;have ma:∀n,dR n (.loop c)=true->dR n c=true:=fun n hd=>by
   simpa [dR]using hd
  rcases aM h with⟨_,h2⟩|⟨_,h2⟩
  ·rcases yh (P:=P) (lf:=lf) (bg:=bg) (fin:=fin) (c:=c) (fun s K r h=>cG dw HC HL hj c _ _ s K r h) _ s h2 with⟨e,s1,hk,hlen,hw⟩|⟨hlf,outs,hk,hw⟩
   ·exact .inl ⟨e,s1,hk,hlen,fun E B G n a w hB hd hn hr=>abi _ (hw E B G n a w hB (ma n hd) hn hr)⟩
   ·exact .inr ⟨hlf,outs,hk,fun E G n a w hd hn hr=>abi _ (hw E G n a w (ma n hd) hn hr)⟩
  ·rw[kl]at h2;obtain⟨r',h3,h4⟩:=h2;obtain⟨hlf,m,hL⟩:=HL _ _ _ _ _ h3;rcases nS _ h4 with⟨hex,hf⟩|⟨id,T',hex,hl,hk⟩
   ·refine .inr ⟨hlf,_,hf,fun E G n a w hd hn hr=>abi m ?_⟩;have:=hL E G n a w (ma n hd) hn (fS _ hr);grind
   ·refine .inl ⟨.exit id,_,hk,fun e=>(by rw[hlf]at e;cases e),fun E B G n a w hB hd hn hr=>?_⟩;have hB':B=.zero:=hB.resolve_left (by rw[hlf];decide);subst hB';have:=hL E G n a w (ma n hd) hn (fS _ hr);rw[hex]at this;exact ti (abi m this) fun x a' w' hq=>⟨hq.1,o9 hl hq.2⟩
 | .exit id,R,fin,out,LE,s,K,r,h=>by
  rw[ck]at h;exact .inl ⟨.exit id,s,h,fun _=>dk _,fun E B G n a w _ _ _ hr=>wp_exit ⟨rfl,hr⟩⟩
 | .ret,R,fin,out,LE,s,K,r,h=>by
  rw[ck]at h;exact .inl ⟨.ret,s,h,fun _=>dk _,fun E B G n a w _ _ _ hr=>wp_ret ⟨rfl,hr⟩⟩
 | .goto _,_,_,_,_,_,_,_,h=>by cases h
 | .label _,_,_,_,_,_,_,_,h=>by cases h
 | .scope _,_,_,_,_,_,_,_,h=>by cases h
 | .rangeFunc _ _ _ _,_,_,_,_,_,_,_,h=>by cases h
theorem pj(dw:P.follows .mixedOrders=true)(HC:gZ P C call inl):∀(m:Nat) (c:Code) (LE:LE) (bg:St->Option (List AV)) (s:St) (r:LR),iW P C call inl iV jn m c LE bg s=some r->ach P bg c s r m
 |0,c,LE,bg,s,r,h=>by cases h
 |m+1,c,LE,bg,s,r,h=>by
  rw[iW]at h;have HL:zE P false (iW P C call inl iV jn m):=fun c LE bg s r h=>⟨rfl,m,pj dw HC m c LE bg s r h⟩;intro E G n a w hd hn hr;rw[OR];rcases cG dw HC HL (fun e=>by cases e) c _ _ _ _ _ h with⟨e,s1,hk,_,hw⟩|⟨_,outs,hk,hw⟩
  ·refine ti (hw E .zero G n a w (.inr rfl) hd hn hr) fun x a' w' hq=>?_;obtain⟨hx,hr'⟩:=hq;subst hx;cases e with
   |normal=>exact pj dw HC m c LE bg _ r hk E G n a' w' hd hn (fS _ hr')
   |exit id=>
    injection hk with hk;subst hk;exact⟨rfl,fS _ hr'⟩
   |ret=>
    obtain⟨outs,h1,h2⟩:=kl.1 hk;injection h2 with h2;subst h2;exact⟨rfl,s1,h1,hr'⟩
  ·refine ti (hw E G n a w hd hn hr) fun x a' w' hq=>?_;injection hk with hk;subst hk;refine pd (by rw[hq.1];intro e;cases e) hq
end
end
section
abbrev HF:=Nat->Option Obj
def hf(w:World):HF:=fun b=>w.heap[b]?
inductive B0(μ:Mu)(hp:HF):List Nat->AV->Value->Prop
 |d {a:AV} {v:Value} (h:DR μ a v):B0 μ hp [] a v
 |ow {b cap ty sz:Nat} {xs:List (List AV)} {cur:Array Value} (h:∃fz,hp b=some (.cells cur ty fz)/\sJ (uq false sz) cur.size fz) (hm:μ b=none) (hc:xs.length<=cap) (hs:cap*sz=cur.size) (hr:bJ μ sz xs cur):
   B0 μ hp [b] (.ow false ty sz xs) (.slice (some ⟨b,0,none⟩) xs.length cap)
 |own {ty sz:Nat}:B0 μ hp [] (.ow true ty sz []) (.slice none 0 0)
inductive nB(μ:Mu)(hp:HF):List Nat->List AV->List Value->Prop
 |nil:nB μ hp [] [] []
 |cons {F F':List Nat} {a:AV} {as:List AV} {v:Value} {vs:List Value} (h:B0 μ hp F a v) (k:nB μ hp F' as vs):nB μ hp (F++F') (a::as) (v::vs)
inductive B1(μ:Mu)(hp:HF):List Nat->List Value->AV->Value->Prop
 |c {F:List Nat} {a:AV} {v:Value} (h:B0 μ hp F a v):B1 μ hp F [] a v
 |ob {b ty:Nat} {F:List Nat} {cs:List AV} {cur:Array Value} (h:hp b=some (.cells cur ty (0,0))) (hm:μ b=none) (hc:nB μ hp F cs cur.toList):
   B1 μ hp (b::F) [.pointer (some ⟨b,0,none⟩)] (.ob ty cs) (.pointer (some ⟨b,0,none⟩))
 |row {F:List Nat} {a:AV} {v:Value} (h:B0 μ hp F a v) (hn:v≠ .slice none 0 0):B1 μ hp F [v] (.kK [a]) v
inductive pq(μ:Mu)(hp:HF):List Nat->List Value->List AV->List Value->Prop
 |nil:pq μ hp [] [] [] []
 |cons {F F':List Nat} {G G':List Value} {a:AV} {as:List AV} {v:Value} {vs:List Value} (h:B1 μ hp F G a v) (k:pq μ hp F' G' as vs):pq μ hp (F++F') (G++G') (a::as) (v::vs)
inductive B2(μ:Mu)(hp:HF):List Nat->List Value->AV->Value->Prop
 |o {F:List Nat} {G:List Value} {a:AV} {v:Value} (h:B1 μ hp F G a v):B2 μ hp F G a v
 |agg {F:List Nat} {G:List Value} {cs:List AV} {vs:List Value} (h:pq μ hp F G cs vs):B2 μ hp F G (.agg cs) (.agg vs.toArray)
 |eN {F:List Nat} {G:List Value} {f:FuncId} {first cX:List AV} {fs cs:List Value} (h1:qg μ first fs) (h:pq μ hp F G cX cs):B2 μ hp F G (.eN f first cX) (.func (.func f) fs.toArray cs.toArray)
inductive ju(μ:Mu)(hp:HF):List Nat->List Value->List AV->List Value->Prop
 |nil:ju μ hp [] [] [] []
 |cons {F F':List Nat} {G G':List Value} {a:AV} {as:List AV} {v:Value} {vs:List Value} (h:B2 μ hp F G a v) (k:ju μ hp F' G' as vs):ju μ hp (F++F') (G++G') (a::as) (v::vs)
section len
variable{μ:Mu}{hp:HF}{F:List Nat}{G:List Value}{as:List AV}{vs:List Value}
theorem nB.len(h:nB μ hp F as vs):vs.length=as.length:=by
 induction h with
 |nil=>rfl
 |cons _ _ ih=>simp[ih]
theorem pq.len(h:pq μ hp F G as vs):vs.length=as.length:=by
 induction h with
 |nil=>rfl
 |cons _ _ ih=>simp[ih]
theorem ju.len(h:ju μ hp F G as vs):vs.length=as.length:=by
 induction h with
 |nil=>rfl
 |cons _ _ ih=>simp[ih]
end len
def Own(σ:Store)(ρ:bD)(b:Nat):Prop:=∃l rb k,ρ l=some rb/\σ[l]?=some k/\k.mode=1/\rb.ph=false/\rb.b=b
structure zb(E:Env)(μ:Mu)(ρ:bD)(σ:Store)(w:World)(F:List Nat)(ρ':bD)(σ':Store):Prop where
 rU:bV ρ ρ'
 app:∃τ,σ'=σ++τ
 dom:∀l rb,ρ' l=some rb->ρ l=some rb\/(σ.length<=l/\l<σ'.length/\(rb.ph=true\/rb.b∈F))
 sr:SR E μ ρ' σ' w
 own:∀b,Own σ' ρ' b->Own σ ρ b\/b∈F
structure mE(E:Env)(ρ:bD)(σ:Store)(F:List Nat):Prop where
 nodup:F.Nodup
 not:∀b∈F,¬Own σ ρ b
 may:∀b∈F,E.D b\/E.w0.heap.size<=b
section
variable{E:Env}{μ:Mu}{ρ ρ' OI:bD}{σ σ' gH:Store}{w:World}{F F':List Nat}
theorem zb.refl(h:SR E μ ρ σ w):zb E μ ρ σ w [] ρ σ:=⟨bV.refl ρ,⟨[],by simp⟩,fun _ _ h=>.inl h,h,fun _ h=>.inl h⟩
theorem zb.len(h:zb E μ ρ σ w F ρ' σ'):σ.length<=σ'.length:=by
 obtain⟨τ,e⟩:=h.app;rw[e];simp
theorem zb.trans(h:zb E μ ρ σ w F ρ' σ')(k:zb E μ ρ' σ' w F' OI gH):zb E μ ρ σ w (F++F') OI gH:=by
 have hl:=h.len;have hl':=k.len;refine⟨h.rU.trans k.rU,?_,fun l rb hr=>?_,k.sr,fun b hb=>?_⟩
 ·obtain⟨τ,e⟩:=h.app;obtain⟨τ',e'⟩:=k.app;grind
 ·rcases k.dom l rb hr with h1|⟨h1,h2,h3⟩
  ·rcases h.dom l rb h1 with h4|⟨h4,h5,h6⟩
   all_goals grind
  grind
 ·rcases k.own b hb with h1|h1
  ·rcases h.own b h1 with h2|h2
   all_goals grind
  grind
theorem zb.fresh(h:zb E μ ρ σ w F ρ' σ')(hf:bu ρ σ.length m):bu ρ' σ'.length m:=fun l h1 h2=>by
 cases e:ρ' l with
 |none=>rfl
 |some rb=>
  rcases h.dom l rb e with h3|⟨_,h3,_⟩
  ·rw[hf l (iS h.len h1) h2]at h3;cases h3
  ·omega
theorem mE.left(h:mE E ρ σ (F++F')):mE E ρ σ F:=
 ⟨(rk.1 h.nodup).1,fun b hb=>h.not b (by simp[hb]),fun b hb=>h.may b (by simp[hb])⟩
theorem mE.right(h:mE E ρ σ (F++F'))(k:zb E μ ρ σ w F ρ' σ'):mE E ρ' σ' F':=by
 obtain⟨_,h2,h3⟩:=rk.1 h.nodup;refine⟨h2,fun b hb ho=>?_,fun b hb=>h.may b (by simp[hb])⟩;rcases k.own b ho with h4|h4
 ·exact h.not b (by simp[hb]) h4
 ·exact h3 b h4 b hb rfl
theorem zb.add(hs:SR E μ ρ σ w)(hf:eF ρ σ)(k:gC)(rb:RB)(hb:yS μ (df ρ σ.length rb) w k rb)(hm:k.mode=1)(hF:mE E ρ σ F)(hp:rb.ph=true\/rb.b∈F):zb E μ ρ σ w F (df ρ σ.length rb) (σ++[k]):=by
 obtain⟨h1,h2⟩:=hs.add hf k rb hb fun _ hph=>⟨hF.may _ (hp.resolve_left (by rw[hph];decide)),fun l fc k' hl hk iT qK he=>hF.not _ (hp.resolve_left (by rw[hph];decide)) ⟨l,fc,k',hl,hk,iT,qK,he⟩⟩;refine⟨h1,⟨_,rfl⟩,fun l r hl=>?_,h2,fun b hb=>?_⟩
 ·grind [cZ]
 ·obtain⟨l,r,kk,e1,e2,e3,e4,e5⟩:=hb;rcases cZ e1 with⟨h3,h4⟩|⟨h3,h4⟩
  ·grind
  ·rcases uG e2 with⟨h5,h6⟩|⟨h5,_⟩
   ·exact .inl ⟨l,r,kk,h4,h6,e3,e4,e5⟩
   ·exact absurd h5 h3
theorem Ik(h:om σ c=some (a,σ')):∃τ,σ'=σ++τ:=by
 unfold om at h;split at h
 all_goals first|(cases h;done)|(simp only[bj,de]at h;first|exact⟨[],by rw[ir,h.2]⟩|exact⟨_,h.2.symm⟩)
theorem oy:∀{cs as:List AV} {σ σ':Store},oq σ cs=some (as,σ')->∃τ,σ'=σ++τ
 |[],as,σ,σ',h=>by
  simp only[oq,bj,de]at h;exact⟨[],by rw[ir,h.2]⟩
 |c::cs,as,σ,σ',h=>by
  rw[oq]at h;split at h
  ·cases h
  ·rename_i x y hx;split at h
   ·cases h
   ·rename_i z t hz;simp only[bj,de]at h;obtain⟨τ1,e1⟩:=Ik hx;obtain⟨τ2,e2⟩:=oy hz;exact⟨τ1++τ2,by rw[<-h.2,e2,e1,fh]⟩
theorem py{σ σ':Store}(h:∃τ,σ'=σ++τ):σ.length<=σ'.length:=by
 grind
theorem tQ(hs:SR E μ ρ σ w)(hb:B0 μ (hf w) F c v)(hF:mE E ρ σ F)(hfr:bu ρ σ.length m)(h:om σ c=some (a,σ'))(hm:σ'.length<=m):
  ∃ρ',zb E μ ρ σ w F ρ' σ'/\CR μ ρ' a v:=by
 cases hb with
 |d hd=>
  have:a=c/\σ'=σ:=by
   cases hd with
   |v hx=>simp only[om,bj,de]at h;grind
   |aq=>simp only[om,bj,de]at h;grind
   |ep=>simp only[om,bj,de]at h;grind
   |eN=>cases h
  obtain⟨e1,e2⟩:=this;subst e1;subst e2;exact⟨ρ,.refl hs,.d hd⟩
 | @ow b cap ty sz xs cur h1 h2 h3 h4 h5=>
  simp only[om,bj,de]at h;obtain⟨e1,e2⟩:=h;subst e1;subst e2;refine⟨df ρ σ.length ⟨b,cur.size,sz,xs.length,false⟩,zb.add hs (hfr _ (dk _) (by simp at hm;omega)) _ _ ⟨rfl,rfl,?_,fun e=>(by cases e),fun e=>(by cases e),fun _=>⟨cur,rfl,fun _=>h5,fun e=>(by cases e),.inl ⟨rfl,h1,h2⟩⟩⟩ rfl hF (.inr (by simp)),?_⟩
  ·show xs.length*sz<=cur.size;rw[<-h4];exact fi _ h3
  ·exact .sl (bK _ _ _) rfl (.inl (by simp)) rfl (by simp) h3 (by simpa using h4)
 | @own ty sz=>
  simp only[om,bj,de]at h;obtain⟨e1,e2⟩:=h;subst e1;subst e2;exact⟨df ρ σ.length ⟨0,0,sz,0,true⟩,zb.add hs (hfr _ (dk _) (by simp at hm;omega)) _ _ ⟨rfl,rfl,by simp,fun _=>⟨rfl,rfl⟩,fun e=>(by cases e),fun e=>(by cases e)⟩ rfl hF (.inl rfl),
   .tB (bK _ _ _) rfl rfl (fun n e=>by cases e)⟩
theorem rm:∀{cs as:List AV} {vs:List Value} {F:List Nat} {ρ:bD} {σ σ':Store} {m:Nat},SR E μ ρ σ w->nB μ (hf w) F cs vs->mE E ρ σ F->bu ρ σ.length m->oq σ cs=some (as,σ')->σ'.length<=m->
  ∃ρ',zb E μ ρ σ w F ρ' σ'/\fe μ ρ' as vs
 |[],as,vs,F,ρ,σ,σ',m,hs,hb,hF,hfr,h,hm=>by
  cases hb;simp only[oq,bj,de]at h;obtain⟨e1,e2⟩:=h;subst e1;subst e2;exact⟨ρ,.refl hs,fe.nil⟩
 |c::cs,as,vs,F,ρ,σ,σ',m,hs,hb,hF,hfr,h,hm=>by
  cases hb with
  |cons hb1 hb2=>
   rw[oq]at h;split at h
   ·cases h
   ·rename_i c' σ1 h1;split at h
    ·cases h
    ·rename_i cs' σ2 h2;simp only[bj,de]at h;obtain⟨e1,e2⟩:=h;subst e1;subst e2;have hle:σ1.length<=σ2.length:=py (oy h2);obtain⟨ρ1,i1,r1⟩:=tQ hs hb1 hF.left hfr h1 (iS hle hm);obtain⟨ρ2,i2,r2⟩:=rm i1.sr hb2 (hF.right i1) (i1.fresh hfr) h2 hm;exact⟨ρ2,i1.trans i2,fe.cons (r1.mono (ak.refl μ) i2.rU) r2⟩
end
end
section
def wV(μ:Mu)(ρ:bD)(as:List AV)(vs:List Value):Prop:=vs.length=as.length/\∀(k:Nat) (u:AV) (v:Value),as[k]?=some u->vs[k]?=some v->VR μ ρ u v
theorem wV.nil(μ:Mu)(ρ:bD):wV μ ρ [] []:=⟨rfl,fun k u v hu=>by simp at hu⟩
theorem wV.cons{μ:Mu}{ρ:bD}{a:AV}{v:Value}{as:List AV}{vs:List Value}(h:VR μ ρ a v)(k:wV μ ρ as vs):wV μ ρ (a::as) (v::vs):=by
 refine⟨by simp[k.1],fun i u x hu hx=>?_⟩;cases i with
 |zero=>grind
 |succ i=>exact k.2 i u x (by simpa using hu) (by simpa using hx)
theorem wV.mono{μ μ':Mu}{ρ ρ':bD}(h:ak μ μ')(hr:bV ρ ρ'){as:List AV}{vs:List Value}(k:wV μ ρ as vs):wV μ' ρ' as vs:=
 ⟨k.1,fun i u x hu hx=>(k.2 i u x hu hx).mono h hr⟩
theorem qg.tail{μ:Mu}{as:List AV}{vs:List Value}(h:qg μ (a::as) (v::vs)):DR μ a v/\qg μ as vs:=
 ⟨h.2 0 a v rfl rfl,by simpa using h.1,fun k u x hu hx=>h.2 (k+1) u x (by simpa using hu) (by simpa using hx)⟩
theorem qg.Z6{μ:Mu}{hp:HF}:∀{as:List AV} {vs:List Value},qg μ as vs->pq μ hp [] [] as vs
 |[],vs,h=>by
  have:vs=[]:=dy (by rw[h.1];rfl);subst this;exact .nil
 |a::as,[],h=>by have:=h.1;simp at this
 |a::as,v::vs,h=>.cons (F:=[]) (G:=[]) (.c (.d h.tail.1)) (qg.Z6 h.tail.2)
section
variable{E:Env}{μ:Mu}{ρ ρ' OI:bD}{σ σ' gH:Store}{w:World}{F F':List Nat}{G G':List Value}
theorem Il{r:List AV}(h:sF σ c=some (a,σ',r)):∃τ,σ'=σ++τ:=by
 unfold sF at h;grind [Option.some.injEq,Prod.mk.injEq,oy,List.append_assoc,Ik]
theorem Be:∀{cs as:List AV} {σ σ':Store} {r:List AV},yQ σ cs=some (as,σ',r)->∃τ,σ'=σ++τ
 |[],as,σ,σ',r,h=>by
  simp only[yQ,bj,de]at h;exact⟨[],by rw[ir,h.2.1]⟩
 |c::cs,as,σ,σ',r,h=>by
  rw[yQ]at h;split at h
  ·cases h
  ·rename_i x y r1 hx;split at h
   ·cases h
   ·rename_i z t r2 hz;simp only[bj,de]at h;obtain⟨τ1,e1⟩:=Il hx;obtain⟨τ2,e2⟩:=Be hz;exact⟨τ1++τ2,by rw[<-h.2.1,e2,e1,fh]⟩
theorem VX{r:List AV}(h:imp σ c=some (a,σ',r)):∃τ,σ'=σ++τ:=by
 unfold imp at h;grind [Option.some.injEq,Prod.mk.injEq,Be,Il]
theorem nC:∀{cs as:List AV} {σ σ':Store} {r:List AV},fk σ cs=some (as,σ',r)->∃τ,σ'=σ++τ
 |[],as,σ,σ',r,h=>by
  simp only[fk,bj,de]at h;exact⟨[],by rw[ir,h.2.1]⟩
 |c::cs,as,σ,σ',r,h=>by
  rw[fk]at h;split at h
  ·cases h
  ·rename_i x y r1 hx;split at h
   ·cases h
   ·rename_i z t r2 hz;simp only[bj,de]at h;obtain⟨τ1,e1⟩:=VX hx;obtain⟨τ2,e2⟩:=nC hz;exact⟨τ1++τ2,by rw[<-h.2.1,e2,e1,fh]⟩
theorem Bf{r:List AV}(hs:SR E μ ρ σ w)(hb:B1 μ (hf w) F G c v)(hF:mE E ρ σ F)(hfr:bu ρ σ.length m)(h:sF σ c=some (a,σ',r))(hm:σ'.length<=m):
  ∃ρ',zb E μ ρ σ w F ρ' σ'/\CR μ ρ' a v/\fe μ ρ' (r) G:=by
 cases hb with
 |c h0=>
  have:∃b,om σ c=some (b,σ')/\a=b/\r=[]:=by
   cases h0 with
   |d hd=>
    cases hd with
    |eN=>cases h
    |_=>simp only[sF,om,bj,de]at h⊢;grind
   |_=>simp only[sF,om,bj,de]at h⊢;grind
  grind [tQ,fe.nil]
 |row h0 _=>
  simp only[sF]at h;grind [Option.some.injEq,Prod.mk.injEq,tQ,fe.cons,fe.nil]
 | @ob b ty F cs cur h1 h2 h3=>
  simp only[sF]at h;split at h
  ·cases h
  ·rename_i cs' σ1 hx;simp only[bj,de]at h;obtain⟨e1,e2,e3⟩:=h;subst e1;subst e2;subst e3;have hF':mE E ρ σ F:=mE.right (F:=[b]) (μ:=μ) (w:=w) (ρ:=ρ) (σ:=σ) hF ⟨bV.refl ρ,⟨[],by simp⟩,fun _ _ h=>.inl h,hs,fun _ h=>.inl h⟩;have hl1:σ1.length<m:=by simp at hm;omega
   obtain⟨ρ1,i1,r1⟩:=rm hs h3 hF' hfr hx (by omega);have hlen:=h3.len;have hFb:mE E ρ1 σ1 [b]:=by
    refine⟨by simp,fun x hx ho=>?_,fun x hx=>?_⟩
    ·simp at hx;subst hx;rcases i1.own x ho with h4|h4
     ·exact hF.not x (by simp) h4
     ·exact(As.1 hF.nodup).1 h4
    ·simp at hx;subst hx;exact hF.may x (by simp)
   have i2:=zb.add (F:=[b]) i1.sr (i1.fresh hfr σ1.length (dk _) hl1) ⟨1,ty,cs.length,true,[cs']⟩ ⟨b,cur.size,cs.length,1,false⟩ ⟨rfl,rfl,?_,fun e=>(by cases e),fun _=>⟨rfl,?_⟩,fun _=>⟨cur,rfl,fun e=>(by cases e),fun _=>?_,.inl ⟨rfl,⟨_,h1,.inl rfl⟩,h2⟩⟩⟩ rfl hFb (.inr (by simp))
   ·have hp:CR μ (df ρ1 σ1.length ⟨b,cur.size,cs.length,1,false⟩) (.ptr σ1.length 0 0) (.pointer (some ⟨b,0,none⟩)):=by
     have:CR μ (df ρ1 σ1.length ⟨b,cur.size,cs.length,1,false⟩) (.ptr σ1.length 0 0) (.pointer (some ⟨b,0*cs.length+0,none⟩)):=.ptr (bK _ _ _) rfl;simpa using this
    refine⟨_,?_,hp,fe.cons hp fe.nil⟩;have:=i1.trans i2;refine⟨this.rU,this.app,fun l rb hl=>(this.dom l rb hl).imp id fun⟨x,y,z⟩=>⟨x,y,z.imp id fun h=>?_⟩,this.sr,fun x hx=>(this.own x hx).imp id fun h=>?_⟩
    all_goals grind
   ·grind
   ·simpa using hlen
   ·have hcs':cs'.length=cs.length:=by rw[<-r1.1,hlen]
    refine⟨fun e he=>by grind,fun i e j c he hc=>?_⟩;cases i with
    |succ i=>simp at he
    |zero=>
     simp at he;subst he;have hj:j<cs'.length:=(eR.1 hc).1;have hj':j<cur.size:=by grind
     refine⟨cur[j],by simp[hj'],(r1.2 j c _ hc (by simp[hj'])).mono (ak.refl μ) ?_⟩;exact rT (fun r e=>by rw[i1.fresh hfr σ1.length (dk _) hl1]at e;cases e)
theorem pz:∀{cs as:List AV} {vs:List Value} {r:List AV} {F:List Nat} {G:List Value} {ρ:bD} {σ σ':Store} {m:Nat},SR E μ ρ σ w->pq μ (hf w) F G cs vs->mE E ρ σ F->bu ρ σ.length m->yQ σ cs=some (as,σ',r)->σ'.length<=m->
  ∃ρ',zb E μ ρ σ w F ρ' σ'/\fe μ ρ' as vs/\fe μ ρ' (r) G
 |[],as,vs,r,F,G,ρ,σ,σ',m,hs,hb,hF,hfr,h,hm=>by
  cases hb;simp only[yQ,bj,de]at h;obtain⟨e1,e2,e3⟩:=h;subst e1;subst e2;subst e3;exact⟨ρ,.refl hs,fe.nil,fe.nil⟩
 |c::cs,as,vs,r,F,G,ρ,σ,σ',m,hs,hb,hF,hfr,h,hm=>by
  cases hb with
  |cons hb1 hb2=>
   rw[yQ]at h;split at h
   ·cases h
   ·rename_i c' σ1 r1 h1;split at h
    ·cases h
    ·rename_i cs' σ2 r2 h2;simp only[bj,de]at h;obtain⟨e1,e2,e3⟩:=h;subst e1;subst e2;subst e3;have hle:σ1.length<=σ2.length:=py (Be h2);obtain⟨ρ1,i1,a1,b1⟩:=Bf hs hb1 hF.left hfr h1 (iS hle hm);obtain⟨ρ2,i2,a2,b2⟩:=pz i1.sr hb2 (hF.right i1) (i1.fresh hfr) h2 hm;refine⟨ρ2,i1.trans i2,fe.cons (a1.mono (ak.refl μ) i2.rU) a2,?_⟩;exact(b1.mono (ak.refl μ) i2.rU).append b2
theorem O4{r:List AV}(hs:SR E μ ρ σ w)(hb:B2 μ (hf w) F G c v)(hF:mE E ρ σ F)(hfr:bu ρ σ.length m)(h:imp σ c=some (a,σ',r))(hm:σ'.length<=m):
  ∃ρ',zb E μ ρ σ w F ρ' σ'/\VR μ ρ' a v/\fe μ ρ' (r) G:=by
 cases hb with
 |o h1=>
  have one:sF σ c=some (a,σ',r)->∃ρ',zb E μ ρ σ w F ρ' σ'/\VR μ ρ' a v/\fe μ ρ' (r) G:=fun h=>by
   obtain⟨ρ',i,x,y⟩:=Bf hs h1 hF hfr h hm;exact⟨ρ',i,.c x,y⟩
  cases h1 with
  |ob h2 h3 h4=>exact one h
  |row h2 _=>exact one h
  |c h2=>
   cases h2 with
   |ow h3 h4 h5 h6 h7=>exact one h
   |own=>exact one h
   |d hd=>
    cases hd with
    |eN e1 e2 e3 e4=>
     simp only[imp]at h;split at h
     ·cases h
     ·rename_i bs σ1 r1 hx;simp only[bj,de]at h;obtain⟨x1,x2,x3⟩:=h;subst x1;subst x2;subst x3;obtain⟨ρ',i,x,y⟩:=pz hs (qg.Z6 ⟨e2,e4⟩) hF hfr hx hm;exact⟨ρ',i,.c (.eN e1 x.1 (fun k u v hu hv=>.d (e3 k u v hu hv)) x.2),y⟩
    |_=>exact one h
 |agg h1=>
  simp only[imp]at h;split at h
  ·cases h
  ·rename_i bs σ1 r1 hx;simp only[bj,de]at h;obtain⟨x1,x2,x3⟩:=h;subst x1;subst x2;subst x3;obtain⟨ρ',i,x,y⟩:=pz hs h1 hF hfr hx hm;exact⟨ρ',i,.agg x,y⟩
 |eN e1 h1=>
  simp only[imp]at h;split at h
  ·cases h
  ·rename_i bs σ1 r1 hx;simp only[bj,de]at h;obtain⟨x1,x2,x3⟩:=h;subst x1;subst x2;subst x3;obtain⟨ρ',i,x,y⟩:=pz hs h1 hF hfr hx hm;exact⟨ρ',i,.c (.eN e1.1 x.1 (fun k u v hu hv=>.d (e1.2 k u v hu hv)) x.2),y⟩
theorem nT:∀{cs as:List AV} {vs:List Value} {r:List AV} {F:List Nat} {G:List Value} {ρ:bD} {σ σ':Store} {m:Nat},SR E μ ρ σ w->ju μ (hf w) F G cs vs->mE E ρ σ F->bu ρ σ.length m->fk σ cs=some (as,σ',r)->σ'.length<=m->
  ∃ρ',zb E μ ρ σ w F ρ' σ'/\wV μ ρ' as vs/\fe μ ρ' (r) G
 |[],as,vs,r,F,G,ρ,σ,σ',m,hs,hb,hF,hfr,h,hm=>by
  cases hb;simp only[fk,bj,de]at h;obtain⟨e1,e2,e3⟩:=h;subst e1;subst e2;subst e3;exact⟨ρ,.refl hs,wV.nil _ _,fe.nil⟩
 |c::cs,as,vs,r,F,G,ρ,σ,σ',m,hs,hb,hF,hfr,h,hm=>by
  cases hb with
  |cons hb1 hb2=>
   rw[fk]at h;split at h
   ·cases h
   ·rename_i c' σ1 r1 h1;split at h
    ·cases h
    ·rename_i cs' σ2 r2 h2;simp only[bj,de]at h;obtain⟨e1,e2,e3⟩:=h;subst e1;subst e2;subst e3;have hle:σ1.length<=σ2.length:=py (nC h2);obtain⟨ρ1,i1,a1,b1⟩:=O4 hs hb1 hF.left hfr h1 (iS hle hm);obtain⟨ρ2,i2,a2,b2⟩:=nT i1.sr hb2 (hF.right i1) (i1.fresh hfr) h2 hm;refine⟨ρ2,i1.trans i2,wV.cons (a1.mono (ak.refl μ) i2.rU) a2,?_⟩;exact(b1.mono (ak.refl μ) i2.rU).append b2
end
end
section
section
variable{E:Env}{μ:Mu}{ρ:bD}{σ:Store}{w:World}
theorem zF{k':gC}(hk:σ[l]?=some k)(h:k'.mode=1->k.mode=1){b:Nat}(ho:Own (σ.set l k') ρ b):Own σ ρ b:=by
 obtain⟨m,rb,k1,h1,h2,h3,h4,h5⟩:=ho;rcases dK h2 with⟨e1,e2⟩|⟨_,h2⟩
 ·subst e1;subst e2;exact⟨m,rb,k,h1,hk,h h3,h4,h5⟩
 ·exact⟨m,rb,k1,h1,h2,h3,h4,h5⟩
theorem Bg(hs:SR E μ ρ σ w){σ':Store}(hv:CR μ ρ c v)(h:zZ σ c=some (c',σ')):
  ∃μ',ak μ μ'/\SR E μ' ρ σ' w/\DR μ' c' v/\σ'.length=σ.length/\(∀b o,μ' b=some o->μ b=some o\/Own σ ρ b)/\∀b,Own σ' ρ b->Own σ ρ b:=by
 have same:∀{x:AV},CR μ ρ x v->(c',σ')=(x,σ)->DR μ x v->∃μ',ak μ μ'/\SR E μ' ρ σ' w/\DR μ' c' v/\σ'.length=σ.length/\(∀b o,μ' b=some o->μ b=some o\/Own σ ρ b)/\∀b,Own σ' ρ b->Own σ ρ b:=fun _ e hd=>by
  grind [Prod.mk.injEq,ak.refl]
 unfold zZ at h;split at h
 ·injection h with h;cases hv with
  |d hx=>exact same (.d hx) h.symm hx
 ·injection h with h;cases hv with
  |d hx=>exact same (.d hx) h.symm hx
 ·rename_i n l off cut;split at h
  ·cases h
  ·rename_i b hb;cases hc:(Nat.beq b.mode 0||b.obj)with
   |true=>rw[hc]at h;cases h
   |false=>
    rw[hc]at h;simp only[cond]at h;injection h with h;injection h with h1 h2;subst h1;subst h2;simp only[km]at hc;have hm:b.mode≠0:=fun e=>by simp_all
    have Kr:∃rb,ρ l=some rb:=by
     cases hv with
     |d hx=>cases hx
     |sl hl=>exact⟨_,hl⟩
     |tB hl=>exact⟨_,hl⟩
    obtain⟨rb,hl⟩:=Kr;obtain⟨μ',hle,hs',hinfo⟩:=hs.ER hl hb hm;have hlt:l<σ.length:=(eR.1 hb).1;obtain⟨_,_,_,_,_,hd⟩:=(hv.mono hle (bV.refl ρ)).wG hs' (k:={b with mode:=2}) (by grind) (by simp) hc.2;exact⟨μ',hle,hs',hd rfl,by simp,fun x o hx=>(hinfo x o hx).imp id fun⟨e1,e2,e3⟩=>⟨l,rb,b,hl,hb,e1,e2,e3.symm⟩,fun x hx=>zF hb (fun e=>by cases e) hx⟩
 ·cases h
theorem yj:∀{cs:List AV} {vs:List Value} {cs':List AV} {σ σ':Store} {μ:Mu},SR E μ ρ σ w->fe μ ρ cs vs->gG σ cs=some (cs',σ')->
  ∃μ',ak μ μ'/\SR E μ' ρ σ' w/\qg μ' cs' vs/\σ'.length=σ.length/\(∀b o,μ' b=some o->μ b=some o\/Own σ ρ b)/\∀b,Own σ' ρ b->Own σ ρ b
 |[],vs,cs',σ,σ',μ,hs,hv,h=>by
  simp only[gG,bj,de]at h;obtain⟨h1,h2⟩:=h;subst h1;subst h2;exact⟨μ,ak.refl μ,hs,⟨hv.1,fun k u v hu=>by simp at hu⟩,rfl,fun _ _ h=>.inl h,fun _ h=>h⟩
 |c::cs,[],cs',σ,σ',μ,hs,hv,h=>by have:=hv.1;simp at this
 |c::cs,v::vs,cs',σ,σ',μ,hs,hv,h=>by
  rw[gG]at h;split at h
  ·cases h
  ·rename_i c1 σ1 h1;split at h
   ·cases h
   ·rename_i cs1 σ2 h2;simp only[bj,de]at h;obtain⟨e1,e2⟩:=h;subst e1;subst e2;obtain⟨μ1,a1,a2,a3,a4,a5,a6⟩:=Bg hs (hv.2 0 c v rfl rfl) h1;have hvt:fe μ ρ cs vs:=⟨by simpa using hv.1,fun k u x hu hx=>hv.2 (k+1) u x (by simpa using hu) (by simpa using hx)⟩;obtain⟨μ2,b1,b2,b3,b4,b5,b6⟩:=yj a2 (hvt.mono a1 (bV.refl ρ)) h2;refine⟨μ2,a1.trans b1,b2,⟨by simp[b3.1],fun k u x hu hx=>?_⟩,b4.trans a4,fun b o hb=>?_,fun b hb=>a6 b (b6 b hb)⟩
    ·cases k with
     |zero=>simp at hu hx;subst hu;subst hx;exact a3.mono b1
     |succ k=>exact b3.2 k u x (by simpa using hu) (by simpa using hx)
    grind
theorem SR.nowhere(h:SR E μ ρ σ w)(k':gC)(hl:ρ l=none):SR E μ ρ (σ.set l k') w:=by
 have hg:∀m rb k,ρ m=some rb->(σ.set l k')[m]?=some k->σ[m]?=some k:=fun m rb k hm hk=>by
  grind
 exact⟨fun m rb k hm hk=>h.blk m rb k hm (hg m rb k hm hk),fun m m' rb fc k k2 hm hm' hk hk'=>h.inj m m' rb fc k k2 hm hm' (hg _ _ _ hm hk) (hg _ _ _ hm' hk'),fun m rb k hm hk=>h.lW m rb k hm (hg _ _ _ hm hk),h.gj,h.base⟩
theorem fH:∀(L:List Nat) (σ:Store) (l:Nat),(bN σ L).length=σ.length/\((bN σ L)[l]?=σ[l]?\/ ∃k,σ[l]?=some k/\k.mode≠0/\(bN σ L)[l]?=some {k with mode:=2})
 |[],σ,l=>⟨rfl,.inl rfl⟩
 |m::L,σ,l=>by
  rw[bN];cases hm:σ[m]? with
  |none=>exact fH L σ l
  |some k=>
   simp only;cases h0:Nat.beq k.mode 0 with
   |true=>exact fH L σ l
   |false=>
    simp only[jz];obtain⟨h1,h2⟩:=fH L (σ.set m {k with mode:=2}) l;refine⟨by rw[h1];simp,?_⟩;have hk0:k.mode≠0:=fun e=>by rw[e]at h0;cases h0
    grind
theorem mc:∀(L:List Nat) (σ:Store) (l:Nat) (k:gC),l∈L->σ[l]?=some k->k.mode≠0->(bN σ L)[l]?=some {k with mode:=2}
 |[],_,_,_,h,_,_=>by cases h
 |m::L,σ,l,k,h,hk,hm=>by
  rw[bN];by_cases e:m=l
  ·subst e;simp only[hk,dY hm,jz];grind [List.getElem?_eq_some_iff,fH,List.getElem?_set_self]
  ·have hl:l∈L:=by
    grind
   cases hm':σ[m]? with
   |none=>exact mc L σ l k hl hk hm
   |some k1=>
    simp only;cases h0:Nat.beq k1.mode 0 with
    |true=>exact mc L σ l k hl hk hm
    |false=>simp_all [mc,jz,sd]
theorem ib:∀(L:List Nat) {σ:Store} {μ:Mu},SR E μ ρ σ w->∃μ',ak μ μ'/\SR E μ' ρ (bN σ L) w/\(∀b o,μ' b=some o->μ b=some o\/ ∃l∈L,∃rb k,ρ l=some rb/\σ[l]?=some k/\k.mode=1/\rb.ph=false/\rb.b=b)/\∀b,Own (bN σ L) ρ b->Own σ ρ b
 |[],σ,μ,h=>⟨μ,ak.refl μ,h,fun _ _ h=>.inl h,fun _ h=>h⟩
 |m::L,σ,μ,h=>by
  rw[bN];cases hm:σ[m]? with
  |none=>
   obtain⟨μ',h1,h2,h3,h4⟩:=ib L h;grind
  |some k=>
   simp only;cases h0:Nat.beq k.mode 0 with
   |true=>
    obtain⟨μ',h1,h2,h3,h4⟩:=ib L h;grind
   |false=>
    simp only[jz];have hk0:k.mode≠0:=fun e=>by rw[e]at h0;cases h0
    have hstep:∃μ1,ak μ μ1/\SR E μ1 ρ (σ.set m {k with mode:=2}) w/\∀b o,μ1 b=some o->μ b=some o\/ ∃rb,ρ m=some rb/\k.mode=1/\rb.ph=false/\b=rb.b:=by
     cases hr:ρ m with
     |none=>exact⟨μ,ak.refl μ,h.nowhere _ hr,fun _ _ h=>.inl h⟩
     |some rb=>
      obtain⟨μ1,a1,a2,a3⟩:=h.ER hr hm hk0;grind
    obtain⟨μ1,a1,a2,a3⟩:=hstep;obtain⟨μ',h1,h2,h3,h4⟩:=ib L a2;refine⟨μ',a1.trans h1,h2,fun b o hb=>?_,fun b hb=>zF hm (fun e=>by cases e) (h4 b hb)⟩;grind
end
theorem mapM_some{α β:Type}{f:α->Option β}:∀{l:List α} {r:List β},l.mapM f=some r->r.length=l.length/\∀(k:Nat) (y:β),r[k]?=some y->∃x,l[k]?=some x/\f x=some y
 |[],r,h=>by
  simp at h;subst h;exact⟨rfl,fun k y hy=>by simp at hy⟩
 |x::l,r,h=>by
  rw[yr]at h;simp only[Option.bind_eq_bind,kl,Option.pure_def,bj]at h;obtain⟨y,h1,ys,h2,h3⟩:=h;subst h3;obtain⟨h4,h5⟩:=mapM_some h2;refine⟨by simp[h4],fun k z hz=>?_⟩;cases k with
  |zero=>simp at hz;subst hz;exact⟨x,rfl,h1⟩
  |succ k=>simpa using h5 k z (by simpa using hz)
theorem Im{L:List Nat}{f:AV->List Nat}(h:∀l∈cs.flatMap f,l∈L){k:Nat}(hc:cs[k]?=some c):∀l∈f c,l∈L:=by grind
section
variable{E:Env}{μ:Mu}{ρ:bD}{σ σf:Store}{w:World}{L:List Nat}
theorem Fs(hs:SR E μ ρ σf w)(hL:∀l∈L,∀k,σ[l]?=some k->k.mode≠0->σf[l]?=some {k with mode:=2}):∀(n m:Nat) {a b:AV} {v:Value},n<=m->CR μ ρ a v->gI σ n a=some b->(∀l∈bI σ m a,l∈L)->DR μ b v
 |0,_,_,_,_,_,_,h,_=>by cases h
 |n+1,0,_,_,_,hnm,_,_,_=>by omega
 |n+1,m+1,a,b,v,hnm,hv,h,hr=>by
  have hlist:∀(l r:List AV) (ws:List Value),l.mapM (gI σ n)=some r->ws.length=l.length->(∀(k:Nat) (u:AV) (v:Value),l[k]?=some u->ws[k]?=some v->CR μ ρ u v)->(∀x∈l.flatMap (bI σ m),x∈L)->
    r.length=l.length/\∀(k:Nat) (u:AV) (v:Value),r[k]?=some u->ws[k]?=some v->DR μ u v:=fun l r ws hm h1 h2 h3=>by
   obtain⟨e1,e2⟩:=mapM_some hm;refine⟨e1,fun k u v hu hv=>?_⟩;obtain⟨x,hx,hf⟩:=e2 k u hu;exact Fs hs hL n m (by omega) (h2 k x v hx hv) hf (Im h3 hx)
  cases hv with
  |d hd=>
   cases hd with
   |v hx=>
    simp only[gI,hx,me,bj]at h;subst h;exact .v hx
   |aq vals h1 h2 h3 h4 h5 h6=>
    simp only[gI,bj]at h;subst h;exact .aq vals h1 h2 h3 h4 h5 h6
   |ep vals h1 h2=>
    simp only[gI,bj]at h;subst h;exact .ep vals h1 h2
   |eN h1 h2 h3 h4=>
    simp only[gI]at h;split at h
    ·rename_i x y hx hy;injection h with h;subst h;simp only[bI,gw]at hr;obtain⟨a1,a2⟩:=hlist _ _ _ hx h1 (fun k u v hu hv=>.d (h3 k u v hu hv)) (fun l hl=>hr l (.inl hl));obtain⟨b1,b2⟩:=hlist _ _ _ hy h2 (fun k u v hu hv=>.d (h4 k u v hu hv)) (fun l hl=>hr l (.inr hl));exact .eN (h1.trans a1.symm) (h2.trans b1.symm) a2 b2
    ·cases h
  | @ptr l i j rb h1 h2=>
   simp only[gI]at h;split at h
   ·cases h
   ·rename_i k hk;cases h0:Nat.beq k.mode 0 with
    |true=>rw[h0]at h;cases h
    |false=>
     have hm0:k.mode≠0:=fun e=>by rw[e]at h0;cases h0
     rw[h0]at h;simp only[jz]at h;have hlL:l∈L:=hr l (by simp only[bI,hk];cases k.obj<;>simp);have hf:=hL l hlL k hk hm0;have hb:=hs.blk l rb _ h1 hf (by simp);obtain⟨cur,hc⟩:=hb.live h2;obtain⟨ty,fz,yT⟩:∃ty fz,μ rb.b=some (.cells cur ty fz):=by
      rcases hc.at_ with⟨e,_⟩|⟨_,h⟩
      ·simp at e
      ·exact h
     cases ho:k.obj with
     |true=>
      rw[ho]at h;simp only[me]at h;rcases aM h with⟨hi,h⟩|⟨_,h⟩
      ·have hi:=cj hi;subst hi;split at h
       ·cases h
       ·rename_i cs hcs;injection h with h;subst h;obtain⟨x,hx⟩:=qS.1 (hb.one ho).1;have DE:aw k.xs 0=x:=by
         have:k.xs=[x]:=hx;rw[this];rfl
        rw[DE]at hcs;have hrow:=hc.wD ho;have hx':k.xs=[x]:=hx;simp only[hx']at hrow;have hxl:x.length=cur.size:=by rw[hrow.1 x (by simp),hc.size,(hb.one ho).2]
        obtain⟨a1,a2⟩:=hlist x cs cur.toList hcs (by simp[hxl]) (fun j u v hu hv=>by
         obtain⟨y,h3,h4⟩:=hrow.2 0 x j u rfl hu;grind) (fun y hy=>hr y (by simp only[bI,hk,ho,me,DE];grind))
        have:DR μ (.ep cs j) (.pointer (some ⟨rb.b,0+j,none⟩)):=by
         refine .ep (fun q=>(cur[q]?).getD undef) (fun q hq=>?_) (fun q u hu=>?_)
         ·have hq':q<cur.size:=by grind
          rw[rV yT,gv,ri hq'];rfl
         grind
        simpa using this
      ·cases h
     |false=>
      rw[ho]at h;simp only[jz]at h;rcases aM h with⟨h1,h⟩|⟨_,h⟩
      ·simp only[bj]at h;subst h;have hrow:=hc.mq ho;have hsz:rb.sz=1:=hb.sz.trans (cj h1);rw[hsz]at hrow;have Rt:∀(xs:List (List AV)),(∀e∈xs,e.length=1)->∀(q:Nat) (u:AV),xs.flatten[q]?=some u->∃e:List AV,xs[q]?=some e/\e[0]?=some u:=by
        intro xs
        induction xs with
        |nil=>intro _ q u hu;simp at hu
        |cons e xs ih=>
         intro he q u hu;rw[GC]at hu;have h1:=he e (by simp);cases q with
         |zero=>
          grind
         |succ q=>
          grind
       have:DR μ (.ep k.xs.flatten (i+j)) (.pointer (some ⟨rb.b,0+(i+j),none⟩)):=by
        refine .ep (fun q=>(cur[q]?).getD undef) (fun q hq=>?_) (fun q u hu=>?_)
        ·obtain⟨e,he,hu⟩:=Rt _ hrow.1 q _ (ao hq);obtain⟨y,h3,h4⟩:=hrow.2 q e 0 _ he hu;rw[oe,na]at h3;rw[rV yT,gv,h3];rfl
        ·obtain⟨e,he,hu'⟩:=Rt _ hrow.1 q _ hu;obtain⟨y,h3,h4⟩:=hrow.2 q e 0 _ he hu';grind
       grind
      simp only[bj]at h;subst h;have hrow:=hc.mq ho;refine .ep (fun q=>(cur[i*rb.sz+q]?).getD undef) (fun q hq=>?_) (fun q u hu=>?_)
      ·have hi:k.xs[i]?=some (aw k.xs i):=by
        unfold aw at hq⊢;grind
       obtain⟨y,h3,h4⟩:=hrow.2 i _ q _ hi (ao hq);rw[rV yT,h3];rfl
      ·have hq:q<(aw k.xs i).length:=(eR.1 hu).1;have hi:k.xs[i]?=some (aw k.xs i):=by
        unfold aw at hq⊢;grind
       obtain⟨y,h3,h4⟩:=hrow.2 i _ q _ hi hu;rw[h3];exact h4
  |px=>simp only[gI]at h;cases h
  |un=>simp only[gI]at h;cases h
  |eN h1 h2 h3 h4=>
   simp only[gI]at h;split at h
   ·rename_i x y hx hy;injection h with h;subst h;simp only[bI,gw]at hr;obtain⟨a1,a2⟩:=hlist _ _ _ hx h1 h3 (fun l hl=>hr l (.inl hl));obtain⟨b1,b2⟩:=hlist _ _ _ hy h2 h4 (fun l hl=>hr l (.inr hl));exact .eN (h1.trans a1.symm) (h2.trans b1.symm) a2 b2
   ·cases h
  | @sl l off cut rb x len cap e1 e2 e3 e4 e5 e6 e7=>
   have hvv:CR μ ρ (.sl false l off cut) (.slice (some x) len cap):=.sl e1 e2 e3 e4 e5 e6 e7;simp only[gI]at h;split at h
   ·cases h
   ·rename_i k hk;cases h0:(Nat.beq k.mode 0||k.obj)with
    |true=>rw[h0]at h;cases h
    |false=>
     rw[h0]at h;simp only[jz,bj]at h;subst h;obtain⟨hm0,ho⟩:=mw h0;have hf:=hL l (hr l (by simp[bI])) k hk hm0;obtain⟨_,_,_,_,_,hd⟩:=hvv.wG hs hf (by simp) ho;exact hd rfl
  | @tB l off cut rb e1 e2 e3 e4=>
   have hvv:CR μ ρ (.sl true l off cut) (.slice none 0 0):=.tB e1 e2 e3 e4;simp only[gI]at h;split at h
   ·cases h
   ·rename_i k hk;cases h0:(Nat.beq k.mode 0||k.obj)with
    |true=>rw[h0]at h;cases h
    |false=>
     rw[h0]at h;simp only[jz,bj]at h;subst h;obtain⟨hm0,ho⟩:=mw h0;have hf:=hL l (hr l (by simp[bI])) k hk hm0;obtain⟨_,_,_,_,_,hd⟩:=hvv.wG hs hf (by simp) ho;exact hd rfl
theorem VY(hs:SR E μ ρ σf w)(hL:∀l∈L,∀k,σ[l]?=some k->k.mode≠0->σf[l]?=some {k with mode:=2}){b:AV}(hv:VR μ ρ a v)(h:Ox σ a=some b)(hr:∀l∈refs σ a,l∈L)(hp:HF):B2 μ hp [] [] b v:=by
 unfold Ox at h;unfold refs at hr;cases hv with
 |c hx=>exact .o (.c (.d (Fs hs hL 4 5 (by omega) hx h hr)))
 | @agg cs vs hx=>
  simp only[gI]at h;split at h
  ·cases h
  ·rename_i cs' hm;injection h with h;subst h;obtain⟨e1,e2⟩:=mapM_some hm;refine .agg (qg.Z6 ⟨by rw[hx.1,e1],fun k u v hu hv=>?_⟩);obtain⟨x,hx1,hf⟩:=e2 k u hu;exact Fs hs hL 3 4 (by omega) (hx.2 k x v hx1 hv) hf (Im (by simpa only[bI]using hr) hx1)
 |kK=>simp only[gI]at h;cases h
 |un=>simp only[gI]at h;cases h
 |sk=>simp only[gI,oN,jz]at h;cases h
end
end
section
structure wW(E:Env)(μ:Mu)(ρ:bD)(σ:Store)(w:World)(F:List Nat)(σ':Store):Prop where
 sr:SR E μ ρ σ' w
 nodup:F.Nodup
 own:∀b∈F,Own σ ρ b/\¬Own σ' ρ b
 sub:∀b,Own σ' ρ b->Own σ ρ b
 len:σ'.length=σ.length
 blk:∀(l:Nat) (k':gC),σ'[l]?=some k'->∃k:gC,σ[l]?=some k/\(k'=k\/k'={k with mode:=0})
def R3(rb:RB)(k:gC)(g:Value)(o:Nat×List AV):Prop:=
 (k.obj=true/\rb.sz=k.sz/\rb.n=1/\rb.OB=rb.sz/\g=.pointer (some ⟨rb.b,0,none⟩)/\k.ty=o.1/\o.2.length=rb.sz/\Af o.2=none)\/
 (k.obj=false/\rb.sz=k.sz/\rb.n=k.xs.length/\rb.n*rb.sz<=rb.OB/\(∃cap,rb.n<=cap/\cap*rb.sz=rb.OB/\g=.slice (some ⟨rb.b,0,none⟩) rb.n cap)/\Af o.2=some (k.ty,k.sz)/\rowLen o.2=k.xs.length)
def ym(σ:Store)(ρ:bD)(F:List Nat)(l:Nat)(g:Value)(o:Nat×List AV):Prop:=
 ∃rb k,ρ l=some rb/\rb.ph=false/\σ[l]?=some k/\k.mode=0/\rb.b∈F/\R3 rb k g o
inductive dZ(σ:Store)(ρ:bD)(F:List Nat):List Nat->List Value->List (Nat×List AV)->Prop
 |nil:dZ σ ρ F [] [] []
 |cons {l:Nat} {g:Value} {o:Nat×List AV} {ls:List Nat} {gs:List Value} {os:List (Nat×List AV)} (h:ym σ ρ F l g o) (k:dZ σ ρ F ls gs os):dZ σ ρ F (l::ls) (g::gs) (o::os)
def O5:AV->Option (Nat×List AV)
 | .ob ty cs=>some (ty,cs)
 |_=>none
section
variable{E:Env}{μ:Mu}{ρ:bD}{σ σ' gH:Store}{w:World}{F F':List Nat}{G:List Value}
theorem wW.refl(h:SR E μ ρ σ w):wW E μ ρ σ w [] σ:=⟨h,sq,fun b hb=>(by cases hb),fun _ h=>h,rfl,fun l k' hk=>⟨k',hk,.inl rfl⟩⟩
theorem wW.trans(h:wW E μ ρ σ w F σ')(k:wW E μ ρ σ' w F' gH):wW E μ ρ σ w (F++F') gH:=by
 refine⟨k.sr,rk.2 ⟨h.nodup,k.nodup,fun a ha b hb e=>?_⟩,fun b hb=>?_,fun b hb=>h.sub b (k.sub b hb),k.len.trans h.len,fun l k' hk=>?_⟩
 ·subst e;exact(h.own a ha).2 (k.own a hb).1
 ·rcases gw.1 hb with hb|hb
  ·exact⟨(h.own b hb).1,fun ho=>(h.own b hb).2 (k.sub b ho)⟩
  ·exact⟨h.sub b (k.own b hb).1,(k.own b hb).2⟩
 ·obtain⟨k1,h1,h2⟩:=k.blk l k' hk;obtain⟨k0,h3,h4⟩:=h.blk l k1 h1;grind
theorem ym.mono{l:Nat}{g:Value}{o:Nat×List AV}(h:ym σ ρ F l g o)(k:wW E μ ρ σ w F' σ'){Vf:List Nat}(hF:∀b∈F,b∈Vf):ym σ' ρ Vf l g o:=by
 obtain⟨rb,kk,h1,h2,h3,h4,h9,CP⟩:=h;have hlt:l<σ'.length:=by rw[k.len];grind
 obtain⟨k0,e1,e2⟩:=k.blk l _ (ao hlt);rw[h3]at e1;injection e1 with e1;subst e1;have hk:σ'[l]?=some kk:=by
  rw[ao hlt];rcases e2 with e2|e2
  ·rw[e2]
  ·rw[e2];cases kk;simp at h4;subst h4;rfl
 exact⟨rb,kk,h1,h2,hk,h4,hF _ h9,CP⟩
theorem dZ.mono{ls:List Nat}{gs:List Value}{os:List (Nat×List AV)}(h:dZ σ ρ F ls gs os)(k:wW E μ ρ σ w F' σ'){Vf:List Nat}(hF:∀b∈F,b∈Vf):dZ σ' ρ Vf ls gs os:=by
 induction h with
 |nil=>exact .nil
 |cons h _ ih=>exact .cons (h.mono k hF) ih
theorem dZ.wide(h:dZ σ ρ F ls gs os){Vf:List Nat}(hF:∀b∈F,b∈Vf):dZ σ ρ Vf ls gs os:=by
 induction h with
 |nil=>exact .nil
 |cons h _ ih=>
  obtain⟨rb,kk,h1,h2,h3,h4,h9,CP⟩:=h;exact .cons ⟨rb,kk,h1,h2,h3,h4,hF _ h9,CP⟩ ih
theorem dZ.append{ls':List Nat}{gs':List Value}{os':List (Nat×List AV)}(h:dZ σ ρ F ls gs os)(k:dZ σ ρ F ls' gs' os'):dZ σ ρ F (ls++ls') (gs++gs') (os++os'):=by
 induction h with
 |nil=>exact k
 |cons h _ ih=>exact .cons h ih
theorem Bh(hs:SR E μ ρ σ w)(hl:ρ l=some rb)(hk:σ[l]?=some k)(hm:k.mode=1)(hp:rb.ph=false):wW E μ ρ σ w [rb.b] (σ.set l {k with mode:=0}):=by
 refine⟨hs.kill l _ rfl,by simp,fun b hb=>?_,fun b hb=>zF hk (fun e=>by cases e) hb,by simp,fun m k' hm'=>?_⟩
 ·simp at hb;subst hb;refine⟨⟨l,rb,k,hl,hk,hm,hp,rfl⟩,?_⟩;rintro⟨l',fc,k',h1,h2,h3,h4,h5⟩;rcases dK h2 with⟨e1,e2⟩|⟨e1,h2⟩
  ·subst e2;cases h3
  ·exact e1 (hs.inj l' l fc rb k' k h1 hl h2 hk h3 hm h4 hp h5)
 grind
theorem O6(hs:SR E μ ρ σ w)(hk:σ[l]?=some k):wW E μ ρ σ w [] (σ.set l {k with mode:=0}):=by
 refine⟨hs.kill l _ rfl,by simp,fun b hb=>(by cases hb),fun b hb=>zF hk (fun e=>by cases e) hb,by simp,fun m k' hm'=>?_⟩;grind
theorem tR(hs:SR E μ ρ σ w)(hv:CR μ ρ c v)(h:qF σ c=some (a,σ')):∃F,B0 μ (hf w) F a v/\wW E μ ρ σ w F σ':=by
 unfold qF at h;split at h
 ·rcases aM h with⟨_,h⟩|⟨_,h⟩
  ·simp only[bj,de]at h;obtain⟨e1,e2⟩:=h;subst e1;subst e2;cases hv with|d hd=>exact⟨[],.d hd,.refl hs⟩
  ·cases h
 ·simp only[bj,de]at h;obtain⟨e1,e2⟩:=h;subst e1;subst e2;cases hv with|d hd=>exact⟨[],.d hd,.refl hs⟩
 ·rename_i b l off cut;split at h
  ·cases h
  ·rename_i k hk;rcases aM h with⟨h0,h⟩|⟨_,h⟩
   ·simp only[bj,de]at h;obtain⟨e1,e2⟩:=h;subst e1;subst e2;simp only[dd,pk]at h0;obtain⟨⟨h1,h2⟩,h3⟩:=h0;have hm:=cj h1;have ho:=cj h3;subst ho;cases hv with
    |d hd=>cases hd
    | @sl _ _ _ rb x len cap e1 e2 e3 e4 e5 e6 e7=>
     have hb:=hs.blk l rb k e1 hk (by omega);obtain⟨cur,hc⟩:=hb.live e2;have hat:Has w rb.b cur k.ty (uq false k.sz)/\μ rb.b=none:=by
      rcases hc.at_ with⟨_,a,b⟩|⟨a,_⟩
      all_goals grind
     refine⟨[rb.b],?_,Bh hs e1 hk hm e2⟩;have hx:x=⟨rb.b,0,none⟩:=by
      grind
     subst hx;have hrow:=hc.mq h2;rw[hb.sz]at hrow e7;have hlen:(mm k.xs 0 cut).length=len:=Ap (by rw[e4,hb.n]) (by rw[<-hb.n];exact e5);rw[<-hlen];refine .ow hat.1 hat.2 (by rw[hlen];exact e6) (by rw[hc.size,<-e7,gv]) ⟨fun e he=>hrow.1 e (uH he),fun i e j c he hc'=>?_⟩;have:=hrow.2 _ e j c (Aq he) hc';rwa [gv]at this
    | @tB _ _ _ rb e1 e2 e3 e4=>
     have hb:=hs.blk l rb k e1 hk (by omega);have hx:k.xs=[]:=dy (by rw[<-hb.n];exact e2);refine⟨[],?_,O6 hs hk⟩;rw[hx,GR];exact .own
   ·cases h
 ·cases h
theorem fe.tail{as:List AV}{vs:List Value}(h:fe μ ρ (a::as) (v::vs)):CR μ ρ a v/\fe μ ρ as vs:=
 ⟨h.2 0 a v rfl rfl,by simpa using h.1,fun k u x hu hx=>h.2 (k+1) u x (by simpa using hu) (by simpa using hx)⟩
theorem yn:∀{cs as:List AV} {vs:List Value} {σ σ':Store},SR E μ ρ σ w->fe μ ρ cs vs->qG σ cs=some (as,σ')->∃F,nB μ (hf w) F as vs/\wW E μ ρ σ w F σ'/\as.length=cs.length
 |[],as,vs,σ,σ',hs,hv,h=>by
  simp only[qG,bj,de]at h;obtain⟨e1,e2⟩:=h;subst e1;subst e2;have:vs=[]:=dy (by rw[hv.1];rfl);subst this;exact⟨[],.nil,.refl hs,rfl⟩
 |c::cs,as,[],σ,σ',hs,hv,h=>by have:=hv.1;simp at this
 |c::cs,as,v::vs,σ,σ',hs,hv,h=>by
  rw[qG]at h;split at h
  ·cases h
  ·rename_i c1 σ1 h1;split at h
   ·cases h
   ·rename_i cs1 σ2 h2;simp only[bj,de]at h;obtain⟨e1,e2⟩:=h;subst e1;subst e2;obtain⟨F1,b1,x1⟩:=tR hs hv.tail.1 h1;obtain⟨F2,b2,x2,hl⟩:=yn x1.sr hv.tail.2 h2;exact⟨F1++F2,.cons b1 b2,x1.trans x2,by simp[hl]⟩
theorem nB.Af{hp:HF}{vs:List Value}(h:nB μ hp F cs vs):Af cs=none:=by
 cases h with
 |nil=>rfl
 |cons h k=>
  cases h with
  |d hd=>cases hd<;>rfl
  |ow=>rfl
  |own=>rfl
theorem rp{b:AV}(hs:SR E μ ρ σ w)(hv:CR μ ρ (.ptr l 0 0) v)(h:uz σ l=some (b,σ')):
  ∃F ty cs,b=.ob ty cs/\B1 μ (hf w) F [v] b v/\wW E μ ρ σ w F σ'/\ym σ' ρ F l v (ty,cs):=by
 unfold uz at h;split at h
 ·cases h
 ·rename_i k hk;rcases aM h with⟨h0,h⟩|⟨_,h⟩
  ·simp only[dd]at h0;obtain⟨h1,ho⟩:=h0;have hm:=cj h1;split at h
   ·cases h
   ·rename_i cs σ1 hx;simp only[bj,de]at h;obtain⟨e1,e2⟩:=h;subst e1;subst e2;cases hv with
    |d hd=>cases hd
    | @ptr _ _ _ rb e1 e2=>
     have hb:=hs.blk l rb k e1 hk (by omega);obtain⟨cur,hc⟩:=hb.live e2;have hat:w.heap[rb.b]?=some (.cells cur k.ty (0,0))/\μ rb.b=none:=by
      rcases hc.at_ with⟨_,⟨fz,a,hz⟩,b⟩|⟨a,_⟩
      ·obtain rfl:fz=(0,0):=hz.elim id fun e=>by rw[ho]at e;cases e.1
       exact⟨a,b⟩
      ·omega
     have hone:=hb.one ho;obtain⟨x,hxx⟩:=qS.1 hone.1;have DE:aw k.xs 0=x:=by rw[hxx];rfl
     rw[DE]at hx;have hrow:=hc.wD ho;rw[hxx]at hrow;have hxl:x.length=cur.size:=by rw[hrow.1 x (by simp),hc.size,hone.2]
     have x0:=Bh hs e1 hk hm e2;have ZU:fe μ ρ x cur.toList:=by
      refine⟨by simp[hxl],fun j u v hu hv=>?_⟩;obtain⟨y,h3,h4⟩:=hrow.2 0 x j u rfl hu;grind
     obtain⟨F,b1,x1,hl⟩:=yn x0.sr ZU hx;have hlt:=(eR.1 hk).1;have hp:(Value.pointer (some ⟨rb.b,0*rb.sz+0,none⟩))=.pointer (some ⟨rb.b,0,none⟩):=by simp
     rw[hp];refine⟨rb.b::F,k.ty,cs,rfl,.ob hat.1 hat.2 b1,x0.trans x1,?_⟩;have r0:ym (σ.set l {k with mode:=0}) ρ [rb.b] l (.pointer (some ⟨rb.b,0,none⟩)) (k.ty,cs):=
      ⟨rb,_,e1,e2,vq hlt,rfl,by simp,.inl ⟨ho,hb.sz,by rw[hb.n,hone.1],hone.2,rfl,rfl,by rw[hl,hxl,hc.size,hone.2],b1.Af⟩⟩
     exact r0.mono x1 fun b hb=>by simp at hb;simp[hb]
  ·cases h
theorem B0.O5{hp:HF}(h:B0 μ hp F a v):O5 a=none:=by
 cases h with
 |d hd=>cases hd<;>rfl
 |ow=>rfl
 |own=>rfl
theorem yo{b:AV}(hs:SR E μ ρ σ w)(hv:CR μ ρ a v)(h:nh σ a=some (b,σ',r)):
  ∃F G,B1 μ (hf w) F G b v/\wW E μ ρ σ w F σ'/\dZ σ' ρ F r G (O5 b).toList:=by
 have other:(match qF σ a with|none=>none|some (b,σ')=>some (b,σ',([]:List Nat)))=some (b,σ',r)->∃F G,B1 μ (hf w) F G b v/\wW E μ ρ σ w F σ'/\dZ σ' ρ F r G (O5 b).toList:=fun h=>by
  split at h
  ·cases h
  ·rename_i b1 σ1 hx;simp only[bj,de]at h;obtain⟨e1,e2,e3⟩:=h;subst e1;subst e2;subst e3;obtain⟨F,b1,x1⟩:=tR hs hv hx;exact⟨F,[],.c b1,x1,by rw[b1.O5];exact .nil⟩
 unfold nh at h;split at h
 ·rename_i l i j;obtain⟨h0,h2⟩|⟨_,h2⟩:=aM h
  ·simp only[dd]at h0;have e1:=cj h0.1;have e2:=cj h0.2;clear h;have h:=h2;clear h2;subst e1;subst e2;split at h
   ·cases h
   ·rename_i b1 σ1 hx;simp only[bj,de]at h;obtain⟨e1,e2,e3⟩:=h;subst e1;subst e2;subst e3;obtain⟨F,ty,cs,e,b1,x1,r1⟩:=rp hs hv hx;subst e;exact⟨F,[v],b1,x1,.cons r1 .nil⟩
  ·cases h2
 ·exact other h
theorem nD:∀{cs as:List AV} {vs:List Value} {σ σ':Store} {r:List Nat},SR E μ ρ σ w->fe μ ρ cs vs->oh σ cs=some (as,σ',r)->
  ∃F G,pq μ (hf w) F G as vs/\wW E μ ρ σ w F σ'/\dZ σ' ρ F r G (as.filterMap O5)
 |[],as,vs,σ,σ',r,hs,hv,h=>by
  simp only[oh,bj,de]at h;obtain⟨e1,e2,e3⟩:=h;subst e1;subst e2;subst e3;have:vs=[]:=dy (by rw[hv.1];rfl);subst this;exact⟨[],[],.nil,.refl hs,.nil⟩
 |c::cs,as,[],σ,σ',r,hs,hv,h=>by have:=hv.1;simp at this
 |c::cs,as,v::vs,σ,σ',r,hs,hv,h=>by
  rw[oh]at h;split at h
  ·cases h
  ·rename_i c1 σ1 r1 h1;split at h
   ·cases h
   ·rename_i cs1 σ2 r2 h2;simp only[bj,de]at h;obtain⟨e1,e2,e3⟩:=h;subst e1;subst e2;subst e3;obtain⟨F1,G1,b1,x1,o1⟩:=yo hs hv.tail.1 h1;obtain⟨F2,G2,b2,x2,o2⟩:=nD x1.sr hv.tail.2 h2;refine⟨F1++F2,G1++G2,.cons b1 b2,x1.trans x2,?_⟩;have:=(o1.mono x2 (Vf:=F1++F2) fun b hb=>by simp[hb]).append (o2.wide (Vf:=F1++F2) fun b hb=>by simp[hb]);grind
theorem DZ(cs:List AV):cJ [.agg cs]=cs.filterMap O5:=by
 show cs.filterMap _++[]=_;rw[ir];rfl
theorem D1(f:FuncId)(x cX:List AV):cJ [.eN f x cX]=cX.filterMap O5:=by
 show cX.filterMap _++[]=_;rw[ir];rfl
theorem jJ{b:AV}(h:∀cs,b≠ .agg cs)(h':∀f x y,b≠ .eN f x y)(h2:∀cs,b≠ .kK cs):cJ [b]=(O5 b).toList:=by
 cases b with
 |agg cs=>exact absurd rfl (h cs)
 |eN f x y=>exact absurd rfl (h' f x y)
 |kK cs=>exact absurd rfl (h2 cs)
 |_=>rfl
theorem Bi(b:AV)(bs:List AV):cJ (b::bs)=cJ [b]++cJ bs:=by
 cases b with
 |kK cs=>
  match cs with
  |[]=>simp[cJ]
  |[c]=>simp[cJ]
  |_::_::_=>simp[cJ]
 |_=>simp[cJ]
theorem O7(h:qF σ c=some (a,σ')):(∀cs,a≠ .agg cs)/\(∀f x y,a≠ .eN f x y)/\∀cs,a≠ .kK cs:=by
 unfold qF at h;split at h
 all_goals grind
theorem K8{b:AV}(h:nh σ a=some (b,σ',r)):(∀cs,b≠ .agg cs)/\(∀f x y,b≠ .eN f x y)/\∀cs,b≠ .kK cs:=by
 unfold nh at h;split at h
 ·rcases aM h with⟨_,h⟩|⟨_,h⟩
  ·split at h
   ·cases h
   ·rename_i q _ hq;unfold uz at hq;grind
  ·cases h
 grind [Option.some.injEq,Prod.mk.injEq,O7]
theorem vz{b:AV}(hs:SR E μ ρ σ w)(hv:CR μ ρ a v)(lk:v≠ .slice none 0 0)(h:wA σ a=some (b,σ',r)):
  ∃F,B1 μ (hf w) F [v] b v/\wW E μ ρ σ w F σ'/\dZ σ' ρ F r [v] (cJ [b]):=by
 obtain⟨c0,l,k,rfl,hk,hm,h2,rfl,rfl,rfl⟩:=mB h;cases hv with
 |d hd=>cases hd
 |tB=>exact absurd rfl lk
 | @sl _ _ _ rb x len cap e1 e2 e3 e4 e5 e6 e7=>
  have hb:=hs.blk l rb k e1 hk (by omega);obtain⟨cur,hc⟩:=hb.live e2;have hat:Has w rb.b cur k.ty (uq false k.sz)/\μ rb.b=none:=by
   rcases hc.at_ with⟨_,a,b⟩|⟨a,_⟩
   all_goals grind
  have hx:x=⟨rb.b,0,none⟩:=by
   grind
  subst hx;have hrow:=hc.mq h2;have hlen:k.xs.length=len:=Ap (xs:=k.xs) (off:=0) (cut:=none) (by rw[e4,hb.n]) (by rw[<-hb.n];exact e5);have hcp:cap*rb.sz=rb.OB:=by rw[<-e7,gv]
  have hn:=hb.n;have hfit:=hb.fit;have hsz:=hb.sz;have hlt:=(eR.1 hk).1;refine⟨[rb.b],.row ?_ (fun e=>by cases e),Bh hs e1 hk hm e2,.cons ⟨rb,_,e1,e2,vq hlt,rfl,by simp,.inr ⟨h2,hsz,hn,hfit,⟨cap,by omega,hcp,by rw[hn,hlen]⟩,rfl,rfl⟩⟩ .nil⟩;rw[<-hlen];refine .ow hat.1 hat.2 (by omega) (by rw[hc.size,<-hsz,hcp]) ?_;rw[<-hsz];exact hrow
theorem K9{b:AV}(hs:SR E μ ρ σ w)(hv:VR μ ρ a v)(h:GI σ a=some (b,σ',r)):
  ∃F G,B2 μ (hf w) F G b v/\wW E μ ρ σ w F σ'/\dZ σ' ρ F r G (cJ [b]):=by
 have one:CR μ ρ a v->nh σ a=some (b,σ',r)->∃F G,B2 μ (hf w) F G b v/\wW E μ ρ σ w F σ'/\dZ σ' ρ F r G (cJ [b]):=fun hc h=>by
  obtain⟨F,G,b1,x1,o1⟩:=yo hs hc h;refine⟨F,G,.o b1,x1,?_⟩;grind [K8,jJ]
 unfold GI at h;split at h
 ·split at h
  ·cases h
  ·rename_i cs _ bs σ1 r1 hx;simp only[bj,de]at h;obtain⟨e1,e2,e3⟩:=h;subst e1;subst e2;subst e3;cases hv with
   |c hc=>cases hc with|d hd=>cases hd
   |agg hc=>
    obtain⟨F,G,b1,x1,o1⟩:=nD hs hc hx;exact⟨F,G,.agg b1,x1,by rw[DZ];exact o1⟩
 ·rename_i f first cX;rcases aM h with⟨_,h⟩|⟨he,h⟩
  ·cases h
  ·split at h
   ·cases h
   ·rename_i bs σ1 r1 hx;simp only[bj,de]at h;obtain⟨e1,e2,e3⟩:=h;subst e1;subst e2;subst e3;have hfe:first=[]:=by simpa using he
    subst hfe;have key:∀{fs cs:List Value},fs.length=([]:List AV).length->fe μ ρ cX cs->∃F G,B2 μ (hf w) F G (.eN f [] bs) (.func (.func f) fs.toArray cs.toArray)/\wW E μ ρ σ w F σ1/\dZ σ1 ρ F r1 G (cJ [.eN f [] bs]):=fun{fs cs} hl hc=>by
     obtain⟨F,G,b1,x1,o1⟩:=nD hs hc hx;rw[D1];exact⟨F,G,.eN ⟨hl,fun k u v hu=>by simp at hu⟩ b1,x1,o1⟩
    cases hv with
    |c hc=>
     cases hc with
     |d hd=>cases hd with|eN h1 h2 h3 h4=>exact key h1 ⟨h2,fun k u v hu hv=>.d (h4 k u v hu hv)⟩
     |eN h1 h2 h3 h4=>exact key h1 ⟨h2,h4⟩
 ·rename_i a' hna hnc;cases hv with
  |c hc=>exact one hc h
  |agg=>exact absurd rfl (hna _)
  |kK=>cases h
  |un=>cases h
  |sk=>simp[nh,qF,oN]at h
theorem Nk(hb:∀(l:Nat) (k':gC),σ'[l]?=some k'->∃k:gC,σ[l]?=some k/\(k'=k\/k'={k with mode:=0})):∀(n:Nat) {a b:AV},gI σ' n a=some b->gI σ n a=some b
 |0,_,_,h=>by cases h
 |n+1,a,b,h=>by
  have hm:∀{l r:List AV},l.mapM (gI σ' n)=some r->l.mapM (gI σ n)=some r:=fun{l}=>by
   induction l with
   |nil=>intro r h;exact h
   |cons x l ih=>
    intro r h;rw[yr]at h⊢;simp only[Option.bind_eq_bind,kl,Option.pure_def,bj]at h⊢;obtain⟨y,h1,ys,h2,h3⟩:=h;exact⟨y,Nk hb n h1,ys,ih h2,h3⟩
  cases a with
  |sl c l off cut=>
   simp only[gI]at h⊢;split at h
   ·cases h
   ·rename_i k' hk';obtain⟨k,h1,h2⟩:=hb l k' hk';rw[h1];rcases h2 with h2|h2
    ·subst h2;exact h
    ·subst h2;simp at h
  |ptr l i j=>
   simp only[gI]at h⊢;split at h
   ·cases h
   ·rename_i k' hk';obtain⟨k,h1,h2⟩:=hb l k' hk';rw[h1];rcases h2 with h2|h2
    ·subst h2;simp only;rcases aM h with⟨e,h⟩|⟨e,h⟩
     ·cases h
     ·rw[e,jz];rcases aM h with⟨e,h⟩|⟨e,h⟩
      ·rw[e,me];rcases aM h with⟨e,h⟩|⟨e,h⟩
       ·rw[e,me];split at h
        ·cases h
        ·rename_i cs hcs;rw[hm hcs];exact h
       ·cases h
      ·rw[e,jz];exact h
    ·subst h2;simp at h
  |eN f x y=>
   simp only[gI]at h⊢;split at h
   ·rename_i p q hp hq;rw[hm hp,hm hq];exact h
   ·cases h
  |agg cs=>
   simp only[gI]at h⊢;split at h
   ·cases h
   ·rename_i p hp;rw[hm hp];exact h
  |_=>exact h
theorem Io:∀(n:Nat) {a b:AV},gI σ n a=some b->O5 b=none
 |0,_,_,h=>by cases h
 |n+1,a,b,h=>by
  cases a<;>simp only[gI]at h
  all_goals try (cases h;done)
  all_goals try (injection h with h;subst h;rfl)
  ·rcases aM h with⟨_,h⟩|⟨_,h⟩
   ·injection h with h;subst h;rfl
   ·cases h
  ·split at h
   ·cases h
   ·injection h with h;subst h;rfl
  ·split at h
   ·cases h
   ·rcases aM h with⟨_,h⟩|⟨_,h⟩
    ·cases h
    ·rcases aM h with⟨_,h⟩|⟨_,h⟩
     ·rcases aM h with⟨_,h⟩|⟨_,h⟩
      ·split at h
       ·cases h
       ·injection h with h;subst h;rfl
      ·cases h
     ·rcases aM h with⟨_,h⟩|⟨_,h⟩<;>(injection h with h;subst h;rfl)
  ·split at h
   ·cases h
   ·rcases aM h with⟨_,h⟩|⟨_,h⟩
    ·cases h
    ·injection h with h;subst h;rfl
  ·split at h
   ·injection h with h;subst h;rfl
   ·cases h
theorem Bj{l:List AV}(h:∀(k:Nat) (u:AV),l[k]?=some u->O5 u=none):l.filterMap O5=[]:=by
 grind [List.filterMap_eq_nil_iff,List.getElem?_of_mem]
theorem Ip{b:AV}(h:Ox σ a=some b):cJ [b]=[]:=by
 have Yz:=Io 4 h;unfold Ox at h;have hm:∀{l r:List AV},l.mapM (gI σ 3)=some r->r.filterMap O5=[]:=fun h=>Bj fun k u hu=>by
  obtain⟨x,_,hx⟩:=(mapM_some h).2 k u hu;exact Io 3 hx
 cases a<;>simp only[gI]at h
 all_goals try (cases h;done)
 all_goals try (injection h with h;grind [jJ])
 ·rcases aM h with⟨_,h⟩|⟨_,h⟩
  all_goals grind [jJ]
 ·split at h
  ·cases h
  ·rename_i x hx;injection h with h;subst h;rw[DZ];exact hm hx
 ·split at h
  ·cases h
  ·rcases aM h with⟨_,h⟩|⟨_,h⟩
   ·cases h
   ·rcases aM h with⟨_,h⟩|⟨_,h⟩
    ·rcases aM h with⟨_,h⟩|⟨_,h⟩
     all_goals grind [jJ]
    ·rcases aM h with⟨_,h⟩|⟨_,h⟩<;>(grind [jJ])
 ·split at h
  ·cases h
  ·rcases aM h with⟨_,h⟩|⟨_,h⟩
   all_goals grind [jJ]
 ·split at h
  ·rename_i p q hp hq;injection h with h;subst h;rw[D1];exact hm hq
  ·cases h
end
end
section
section mono
variable{μ μ':Mu}{hp:HF}{F:List Nat}{G:List Value}
theorem B0.mono{a:AV}{v:Value}(h:B0 μ hp F a v)(hm:ak μ μ')(hF:∀b∈F,μ' b=none):B0 μ' hp F a v:=by
 cases h with
 |d hd=>exact .d (hd.mono hm)
 |ow h1 h2 h3 h4 h5=>exact .ow h1 (hF _ (by simp)) h3 h4 (h5.mono hm)
 |own=>exact .own
theorem nB.mono{as:List AV}{vs:List Value}(h:nB μ hp F as vs)(hm:ak μ μ')(hF:∀b∈F,μ' b=none):nB μ' hp F as vs:=by
 induction h with
 |nil=>exact .nil
 |cons h _ ih=>exact .cons (h.mono hm fun b hb=>hF b (by simp[hb])) (ih fun b hb=>hF b (by simp[hb]))
theorem B1.mono{a:AV}{v:Value}(h:B1 μ hp F G a v)(hm:ak μ μ')(hF:∀b∈F,μ' b=none):B1 μ' hp F G a v:=by
 cases h with
 |c h=>exact .c (h.mono hm hF)
 |row h hn=>exact .row (h.mono hm hF) hn
 |ob h1 h2 h3=>exact .ob h1 (hF _ (by simp)) (h3.mono hm fun b hb=>hF b (by simp[hb]))
theorem pq.mono{as:List AV}{vs:List Value}(h:pq μ hp F G as vs)(hm:ak μ μ')(hF:∀b∈F,μ' b=none):pq μ' hp F G as vs:=by
 induction h with
 |nil=>exact .nil
 |cons h _ ih=>exact .cons (h.mono hm fun b hb=>hF b (by simp[hb])) (ih fun b hb=>hF b (by simp[hb]))
theorem B2.mono{a:AV}{v:Value}(h:B2 μ hp F G a v)(hm:ak μ μ')(hF:∀b∈F,μ' b=none):B2 μ' hp F G a v:=by
 cases h with
 |o h=>exact .o (h.mono hm hF)
 |agg h=>exact .agg (h.mono hm hF)
 |eN h1 h=>exact .eN (h1.mono hm) (h.mono hm hF)
theorem ju.mono{as:List AV}{vs:List Value}(h:ju μ hp F G as vs)(hm:ak μ μ')(hF:∀b∈F,μ' b=none):ju μ' hp F G as vs:=by
 induction h with
 |nil=>exact .nil
 |cons h _ ih=>exact .cons (h.mono hm fun b hb=>hF b (by simp[hb])) (ih fun b hb=>hF b (by simp[hb]))
end mono
section
variable{E:Env}{μ:Mu}{ρ:bD}{w:World}
theorem wV.tail{as:List AV}{vs:List Value}(h:wV μ ρ (a::as) (v::vs)):VR μ ρ a v/\wV μ ρ as vs:=
 ⟨h.2 0 a v rfl rfl,by simpa using h.1,fun k u x hu hx=>h.2 (k+1) u x (by simpa using hu) (by simpa using hx)⟩
theorem nU:∀{args bs:List AV} {vals:List Value} {σ σ':Store} {m q:List Bool} {r:List Nat},SR E μ ρ σ w->wV μ ρ args vals->Ad m q args=true->gn σ m q args=some (bs,σ',r)->
  ∃F G,wW E μ ρ σ w F σ'/\dZ σ' ρ F r G (cJ bs)/\(m.any id=false->σ'=σ/\F=[]/\r=[]/\cJ bs=[])/\∀μ',ak μ μ'->(∀b∈F,μ' b=none)->
   (∀(k:Nat) (a b:AV) (v:Value),m.getD k false=false->args[k]?=some a->vals[k]?=some v->Ox σ a=some b->B2 μ' (hf w) [] [] b v)->ju μ' (hf w) F G bs vals
 |[],bs,vals,σ,σ',m,q,r,hs,hv,hro,h=>by
  cases m<;>
  ·simp only[gn,bj,de]at h;obtain⟨e1,e2,e3⟩:=h;subst e1;subst e2;subst e3;have:vals=[]:=dy (by rw[hv.1];rfl);subst this;exact⟨[],[],.refl hs,.nil,fun _=>⟨rfl,rfl,rfl,rfl⟩,fun μ' _ _ _=>.nil⟩
 |a::as,bs,[],σ,σ',m,q,r,hs,hv,hro,h=>by have:=hv.1;simp at this
 |a::as,bs,v::vals,σ,σ',m,q,r,hs,hv,hro,h=>by
  rw[gn]at h;simp only[Ad,dd]at hro;obtain⟨aci,hro⟩:=hro;split at h
  ·cases h
  ·rename_i b σ1 r1 h1;split at h
   ·cases h
   ·rename_i bs1 σ2 r2 h2;simp only[bj,de]at h;obtain⟨e1,e2,e3⟩:=h;subst e1;subst e2;subst e3;rw[Bi];have YB:∀k,m.tail.getD k false=m.getD (k+1) false:=fun k=>by cases m<;>simp
    cases hm:m.headD false with
    |true=>
     rw[hm]at h1;have key:∃F G,B2 μ (hf w) F G b v/\wW E μ ρ σ w F σ1/\dZ σ1 ρ F r1 G (cJ [b]):=by
      cases hq:q.headD false with
      |true=>
       rw[hq]at h1;obtain⟨c0,l,k,e,_⟩:=mB h1;rw[hm,hq]at aci;have lk:v≠ .slice none 0 0:=fun ev=>by
        subst e;subst ev;have ZU:=hv.tail.1.cell rfl;cases ZU with
        |d hd=>cases hd
        |tB=>cases aci
       obtain⟨F,b1,x1,o1⟩:=vz hs (hv.tail.1.cell (by rw[e];rfl)) lk h1;exact⟨F,[v],.o b1,x1,o1⟩
      |false=>rw[hq]at h1;exact K9 hs hv.tail.1 h1
     obtain⟨F1,G1,b1,x1,o1⟩:=key;obtain⟨F2,G2,x2,o2,_,hc⟩:=nU x1.sr hv.tail.2 hro h2;refine⟨F1++F2,G1++G2,x1.trans x2,(o1.mono x2 fun b hb=>by simp[hb]).append (o2.wide fun b hb=>by simp[hb]),fun e=>?_,fun μ' hle hF hl=>?_⟩
     ·cases m with
      |nil=>cases hm
      |cons x m=>grind
     ·refine .cons (b1.mono hle fun b hb=>hF b (by simp[hb])) (hc μ' hle (fun b hb=>hF b (by simp[hb])) fun k a b v h3 h4 h5 h6=>?_);exact hl (k+1) a b v (by rw[<-YB];exact h3) h4 h5 (Nk x1.blk 4 h6)
    |false=>
     rw[hm]at h1;simp only at h1;split at h1
     ·cases h1
     ·rename_i b' hb';simp only[bj,de]at h1;obtain⟨e1,e2,e3⟩:=h1;subst e1;subst e2;subst e3;obtain⟨F2,G2,x2,o2,hq,hc⟩:=nU hs hv.tail.2 hro h2;have hm0:m.getD 0 false=false:=by cases m with
       |nil=>rfl
       |cons x m=>simpa using hm
      rw[Ip hb'];refine⟨F2,G2,x2,o2,fun e=>?_,fun μ' hle hF hl=>?_⟩
      ·obtain⟨q1,q2,q3,q4⟩:=hq (by cases m with
        |nil=>rfl
        |cons x m=>simp at e;simpa using e.2)
       grind
      ·have:=hl 0 a b' v hm0 rfl rfl hb';exact .cons (F:=[]) (G:=[]) this (hc μ' hle hF fun k a b v h3 h4 h5 h6=>hl (k+1) a b v (by rw[<-YB];exact h3) h4 h5 h6)
theorem yp{σ:Store}:∀{args:List AV} {m:List Bool} {k:Nat} {a:AV},m.getD k false=false->args[k]?=some a->∀l∈refs σ a,l∈cC σ m args
 |[],m,k,a,_,h,_,_=>by simp at h
 |x::as,m,0,a,h1,h2,l,hl=>by
  simp at h2;subst h2;have:m.headD false=false:=by cases m with
   |nil=>rfl
   |cons y m=>simpa using h1
  simp only[cC,this,jz,gw];exact .inl hl
 |x::as,m,k+1,a,h1,h2,l,hl=>by
  simp only[cC,gw];refine .inr (yp (k:=k) (a:=a) ?_ (by simpa using h2) l hl);cases m with
  |nil=>rfl
  |cons y m=>simpa using h1
end
/-! ## The forms of what comes back-/
section sim
variable{μ:Mu}{hp:HF}
theorem Bk{k:CK}(h:(iq k c).1=true):kU c (iq k c).2:=by
 unfold iq at h⊢;split at h
 ·exact .inl (Fl h).symm
 ·exact .inl (Fm h).symm
 ·exact .inl (Fo h).symm
 ·exact zD h
 ·cases h
theorem Nl{e sz:Nat}(h:lT e sz c=true):AV.ow (bM c) e sz (bU c)=c:=by
 cases c with
 |ow n t s xs=>
  simp only[lT,dd]at h;have e1:=cj h.1;have e2:=cj h.2;subst e1;subst e2;rfl
 |_=>cases h
def Bl(c c':AV):Prop:=kU c c'\/ ∃s ty sz,c=.aq true s []/\c'=.ow true ty sz []
theorem D2{e sz:Nat}(h:(lT e sz c||EG c)=true):Bl c (.ow (bM c) e sz (bU c)):=by
 rw[pC]at h;rcases h with h|h
 ·exact .inl (.inl (Nl h))
 ·unfold EG at h;split at h
  ·rename_i s;exact .inr ⟨s,e,sz,rfl,rfl⟩
  ·cases h
theorem La{k:CK}(h:(oO k c).1=true):Bl c (oO k c).2:=by
 unfold oO at h⊢;split at h
 ·exact D2 h
 ·exact .inl (Bk h)
theorem O8(k:CK):(oO k .un).1=false:=by
 cases k<;>rfl
theorem O9{t:AV}(h:(sQ t c).1=true):Bl c (sQ t c).2:=by
 unfold sQ at h⊢;split at h
 ·exact .inl (.inl (Fl h).symm)
 ·exact .inl (.inl (Fm h).symm)
 ·exact .inl (.inl (Fo h).symm)
 ·exact .inl (.inl (Fp h).symm)
 ·exact .inl (zD h)
 ·exact D2 h
 ·cases h
theorem R4(t:AV):(sQ t .un).1=false:=by
 unfold sQ;split<;>rfl
theorem Bm:∀(ts:List CK) (j:Nat) (cs:List AV),nM ts j cs=wT iq ts j cs
 |[],_,_=>rfl
 |[_],_,_=>rfl
 |t::t'::ts,j,cs=>by simp only[nM,wT,Bm (t'::ts)]
theorem Bo:∀(ts:List CK) (j:Nat) (cs:List AV),jB ts j cs=rf iq ts j cs
 |[],_,_=>rfl
 |t::ts,j,cs=>by simp only[jB,rf,Bo ts]
theorem yq:∀(ts:List CK) (j:Nat) (cs:List AV),zw ts j cs=wT oO ts j cs
 |[],_,_=>rfl
 |[_],_,_=>rfl
 |t::t'::ts,j,cs=>by simp only[zw,wT,yq (t'::ts)]
theorem yu:∀(ts:List CK) (j:Nat) (cs:List AV),zx ts j cs=rf oO ts j cs
 |[],_,_=>rfl
 |t::ts,j,cs=>by simp only[zx,rf,yu ts]
theorem D3:∀(ts:List AV) (j:Nat) (cs:List AV),xL ts j cs=wT sQ ts j cs
 |[],_,_=>rfl
 |[_],_,_=>rfl
 |t::t'::ts,j,cs=>by simp only[xL,wT,D3 (t'::ts)]
theorem D4:∀(ts:List AV) (j:Nat) (cs:List AV),Ae ts j cs=rf sQ ts j cs
 |[],_,_=>rfl
 |t::ts,j,cs=>by simp only[Ae,rf,D4 ts]
def Bp(cs cs':List AV):Prop:=cs'.length=cs.length/\∀(k:Nat) (c c':AV),cs[k]?=some c->cs'[k]?=some c'->Bl c c'
theorem Bp.tail{cs':List AV}(h:Bp (c::cs) (c'::cs')):Bl c c'/\Bp cs cs':=
 ⟨h.2 0 c c' rfl rfl,by simpa using h.1,fun k x y hx hy=>h.2 (k+1) x y (by simpa using hx) (by simpa using hy)⟩
theorem Bq{T:Type}{f:T->AV->Bool×AV}(hun:∀t,(f t .un).1=false)(hf:∀t c,(f t c).1=true->Bl c (f t c).2){ts:List T}(h:wT f ts 0 cs=true)(hl:cs.length=ts.length):Bp cs (rf f ts 0 cs):=by
 refine⟨by rw[(mi ts 0 cs).1,hl],fun k c c' hc hc'=>?_⟩;obtain⟨t,c0,_,h1,h2,e⟩:=vw hun h hc';grind
theorem kU.b0{F:List Nat}(h:kU c c')(hb:B0 μ hp F c v):B0 μ hp F c' v:=by
 rcases h with h|⟨s,s',xs,h1,h2⟩
 ·subst h;exact hb
 ·subst h1;cases hb with|d hd=>exact .d (kU.dr (.inr ⟨s,s',xs,rfl,h2⟩) hd)
theorem kU.b1{F:List Nat}{G:List Value}(h:kU c c')(hb:B1 μ hp F G c v):B1 μ hp F G c' v:=by
 rcases h with h|⟨s,s',xs,h1,h2⟩
 ·subst h;exact hb
 ·subst h1;cases hb with|c hb=>exact .c (kU.b0 (.inr ⟨s,s',xs,rfl,h2⟩) hb)
theorem kU.b2{F:List Nat}{G:List Value}(h:kU c c')(hb:B2 μ hp F G c v):B2 μ hp F G c' v:=by
 rcases h with h|⟨s,s',xs,h1,h2⟩
 ·subst h;exact hb
 ·subst h1;cases hb with|o hb=>exact .o (kU.b1 (.inr ⟨s,s',xs,rfl,h2⟩) hb)
theorem Bl.b0{F:List Nat}{c c':AV}{v:Value}(h:Bl c c')(hb:B0 μ hp F c v):B0 μ hp F c' v:=by
 rcases h with h|⟨s,ty,sz,h1,h2⟩
 ·exact h.b0 hb
 ·subst h1;subst h2;cases hb with
  |d hd=>
   cases hd with
   | @aq _ _ _ A c vals hnil hA hc hsz hcell hv=>
    have hn:A=none:=by simp_all
    have hx:=hA hn;have hc0:c=0:=hx.2;subst hc0;subst hn;exact .own
theorem Bl.b1{F:List Nat}{G:List Value}{c c':AV}{v:Value}(h:Bl c c')(hb:B1 μ hp F G c v):B1 μ hp F G c' v:=by
 rcases h with h|⟨s,ty,sz,h1,h2⟩
 ·exact h.b1 hb
 ·subst h1;cases hb with|c hb=>exact .c (Bl.b0 (.inr ⟨s,ty,sz,rfl,h2⟩) hb)
theorem Bp.b0s{F:List Nat}{vs:List Value}(hb:nB μ hp F cs vs):∀{cs':List AV},Bp cs cs'->nB μ hp F cs' vs:=by
 induction hb with
 |nil=>
  intro cs' h;have:cs'=[]:=dy h.1;subst this;exact .nil
 |cons h1 _ ih=>
  intro cs' h;cases cs' with
  |nil=>have:=h.1;simp at this
  |cons c' cs'=>exact .cons (h.tail.1.b0 h1) (ih h.tail.2)
theorem Bp.Z6{F:List Nat}{G:List Value}{vs:List Value}(hb:pq μ hp F G cs vs):∀{cs':List AV},Bp cs cs'->pq μ hp F G cs' vs:=by
 induction hb with
 |nil=>
  intro cs' h;have:cs'=[]:=dy h.1;subst this;exact .nil
 |cons h1 _ ih=>
  intro cs' h;cases cs' with
  |nil=>have:=h.1;simp at this
  |cons c' cs'=>exact .cons (h.tail.1.b1 h1) (ih h.tail.2)
def Z7(r r':AV):Prop:=∀(μ:Mu) (hp:HF) (F:List Nat) (G:List Value) (v:Value),B2 μ hp F G r v->B2 μ hp F G r' v
theorem Pa{P:Program}{dat:Bool}{t:TypeId}{r:AV}{K:AV->Option R}{x:R}(h:Vd P dat t r K=some x):∃r',K r'=some x/\Z7 r r':=by
 unfold Vd at h;rcases aM h with⟨_,h⟩|⟨_,h⟩
 ·rcases aM h with⟨_,h⟩|⟨_,h⟩
  ·obtain⟨h1,h2⟩:=ah h;simp only[dd]at h1;refine⟨_,h2,fun μ hp F G v hb=>?_⟩;cases r with
   |agg cs=>exact hb
   |_=>cases h1.1
  obtain⟨h1,h2⟩:=ah h;simp only[dd]at h1;refine⟨_,h2,fun μ hp F G v hb=>?_⟩;cases r with
  |agg cs=>
   have hl:=cj h1.1;have h3:=h1.2;simp only[aA]at h3⊢;rw[Bm]at h3;rw[Bo];have Z8:=Bq (fun t=>Dy) (fun t c h=>.inl (Bk h)) h3 hl;cases hb with
   |o hb=>cases hb with|c hb=>cases hb with|d hd=>cases hd
   |agg hb=>exact .agg (Z8.Z6 hb)
  |_=>cases h1.1
 ·split at h
  ·rename_i e _;rcases aM h with⟨_,h⟩|⟨_,h⟩
   ·obtain⟨h1,h2⟩:=ah h;exact⟨_,h2,fun μ hp F G v hb=>(zD h1).b2 hb⟩
   ·obtain⟨h1,h2⟩:=ah h;exact⟨_,h2,fun μ hp F G v hb=>by rw[Nl h1];exact hb⟩
  ·rename_i e _;rcases aM h with⟨h1,h2⟩|⟨_,h⟩
   ·exact⟨_,h2,fun μ hp F G v hb=>by rw[<-Fp h1];exact hb⟩
   ·obtain⟨h1,h2⟩:=ah h;simp only[dd]at h1;refine⟨_,h2,fun μ hp F G v hb=>?_⟩;cases r with
    |ob ty cs=>
     have e1:=cj h1.1.1;subst e1;have hl:=cj h1.1.2;have h3:=h1.2;simp only[aA]at h3 hl⊢;rw[yq]at h3;rw[yu];have Z8:=Bq O8 (fun t c=>La) h3 hl;cases hb with
     |o hb=>
      cases hb with
      |c hb=>cases hb with|d hd=>cases hd
      |ob a1 a2 a3=>exact .o (.ob a1 a2 (Z8.b0s a3))
    |_=>cases h1.1.1
  ·obtain⟨h1,h2⟩:=ah h;exact⟨_,h2,fun μ hp F G v hb=>by rw[<-Fl h1];exact hb⟩
  ·obtain⟨h1,h2⟩:=ah h;exact⟨_,h2,fun μ hp F G v hb=>by rw[<-Fm h1];exact hb⟩
  ·obtain⟨h1,h2⟩:=ah h;exact⟨_,h2,fun μ hp F G v hb=>by rw[<-Fo h1];exact hb⟩
  ·cases h
theorem Br{R:Type}{P:Program}{dat:Bool}{x:R}:∀{ts:List TypeId} {j:Nat} {rs:List AV} {K:List AV->Option R},tv P dat ts j rs K=some x->
  ∃as,K as=some x/\as.length=ts.length/\∀(i:Nat) (a:AV),as[i]?=some a->Z7 (cellAt rs (j+i)) a
 |[],j,rs,K,h=>⟨[],h,rfl,fun i a ha=>by simp at ha⟩
 |t::ts,j,rs,K,h=>by
  rw[tv]at h;obtain⟨r',h1,h2⟩:=Pa h;obtain⟨as,h3,h4,h5⟩:=Br h1;refine⟨r'::as,h3,by simp[h4],fun i a ha=>?_⟩;cases i with
  |zero=>simp at ha;subst ha;exact h2
  |succ i=>
   have:=h5 i a (by simpa using ha);rwa [show j+1+i=j+(i+1) by omega]at this
theorem VZ{F:List Nat}{G:List Value}{ra:List AV}{vs:List Value}(hb:ju μ hp F G ra vs):∀{as:List AV},as.length=ra.length->(∀(i:Nat) (r a:AV),ra[i]?=some r->as[i]?=some a->Z7 r a)->ju μ hp F G as vs:=by
 induction hb with
 |nil=>
  intro as h _;have:as=[]:=dy h;subst this;exact .nil
 |cons h1 _ ih=>
  intro as h hi;cases as with
  |nil=>simp at h
  |cons a as=>exact .cons (hi 0 _ a rfl rfl _ _ _ _ _ h1) (ih (by simpa using h) fun i r a hr ha=>hi (i+1) r a (by simpa using hr) (by simpa using ha))
def acj(o:Nat×List AV)(r:AV)(cs':List AV):Prop:=
 (Af o.2=none/\∃cs,r=.ob o.1 cs/\cs.length=o.2.length/\Bp cs cs')\/ ∃t z xs,Af o.2=some (t,z)/\r=.kK [.ow false t z xs]/\cs'=[r]/\xs.length=rowLen o.2
theorem R5{z:Nat}(h:isRow t z a=true):∃xs,a=.kK [.ow false t z xs]:=by
 unfold isRow at h;split at h
 all_goals simp_all
theorem pE{R:Type}{x:R}:∀{ts:List (Nat×List AV)} {j:Nat} {rs:List AV} {K:List (List AV)->Option R},lG ts j rs K=some x->
  ∃os,K os=some x/\os.length=ts.length/\∀(i:Nat) (o:Nat×List AV),ts[i]?=some o->∃r cs',rs[j+i]?=some r/\os[i]?=some cs'/\acj o r cs'
 |[],j,rs,K,h=>⟨[],h,rfl,fun i o ho=>by simp at ho⟩
 |(ty,Rf)::ts,j,rs,K,h=>by
  rw[lG]at h;split at h
  ·rename_i t z Z9;obtain⟨h1,h2⟩:=ah h;obtain⟨os,h6,h7,h8⟩:=pE h2;refine⟨_::os,h6,by simp[h7],fun i o ho=>?_⟩;cases i with
   |zero=>
    simp at ho;subst ho;rw[dd]at h1;obtain⟨h1,qQ⟩:=h1;have qQ:=cj qQ;obtain⟨xs,hx⟩:=R5 h1;have hc:cellAt rs j≠ .un:=fun e=>by rw[e]at h1;cases h1
    have hs:=nu hc;rw[hx]at hs;exact⟨_,_,hs,rfl,.inr ⟨t,z,xs,Z9,rfl,by rw[hx];rfl,by rw[hx]at qQ;exact qQ⟩⟩
   |succ i=>
    grind
  rename_i Z9;obtain⟨h1,h2⟩:=ah h;simp only[dd]at h1;obtain⟨⟨h3,h4⟩,h5⟩:=h1;obtain⟨os,h6,h7,h8⟩:=pE h2;refine⟨_::os,h6,by simp[h7],fun i o ho=>?_⟩;cases i with
  |zero=>
   simp at ho;subst ho;have hc:cellAt rs j≠ .un:=fun e=>by rw[e]at h3;cases h3
   have hs:=nu hc;generalize hg:cellAt rs j=c at*;cases c with
   |ob ty' cs=>
    have e1:=cj h3;subst e1;have hl:=cj h4;simp only[aA]at h5 hl⊢;rw[D3]at h5;exact⟨_,_,hs,rfl,.inl ⟨Z9,cs,rfl,hl,by rw[D4];exact Bq R4 (fun t c=>O9) h5 hl⟩⟩
   |_=>cases h3
  |succ i=>
   grind
end sim
end
section
def nV(vs:List Value):Value:=if vs.length=1 then vs.headD undef else .tuple vs.toArray
structure Vg(E:Env)(μ:Mu)(ρ:bD)(σ:Store)(w:World)(F:List Nat)(μ':Mu)(σ':Store):Prop where
 mu:ak μ μ'
 sr:SR E μ' ρ σ' w
 nodup:F.Nodup
 own:∀b∈F,Own σ ρ b/\¬Own σ' ρ b
 sub:∀b,Own σ' ρ b->Own σ ρ b
 none:∀b∈F,μ' b=none
 info:∀b o,μ' b=some o->μ b=some o\/Own σ ρ b
section
variable{E:Env}{μ μ' mz:Mu}{ρ:bD}{σ σ' gH:Store}{w:World}{F F':List Nat}
theorem ru(hs:SR E μ ρ σ w){b:Nat}(h:Own σ ρ b):μ b=none/\b<w.heap.size/\(E.D b\/E.w0.heap.size<=b):=by
 obtain⟨l,rb,k,h1,h2,h3,h4,h5⟩:=h;subst h5;refine⟨?_,hs.wE h1 h2 h3 h4,hs.lW l rb k h1 h2 h3 h4⟩;obtain⟨cur,hc⟩:=(hs.blk l rb k h1 h2 (by omega)).live h4;rcases hc.at_ with⟨_,_,a⟩|⟨a,_⟩
 ·exact a
 ·omega
theorem wW.ret(h:wW E μ ρ σ w F σ')(hs:SR E μ ρ σ w):Vg E μ ρ σ w F μ σ':=
 ⟨ak.refl μ,h.sr,h.nodup,h.own,h.sub,fun b hb=>(ru hs (h.own b hb).1).1,fun _ _ h=>.inl h⟩
theorem Vg.refl(h:SR E μ ρ σ w):Vg E μ ρ σ w [] μ σ:=(wW.refl h).ret h
theorem Vg.trans(h:Vg E μ ρ σ w F μ' σ')(k:Vg E μ' ρ σ' w F' mz gH):Vg E μ ρ σ w (F++F') mz gH:=by
 refine⟨h.mu.trans k.mu,k.sr,rk.2 ⟨h.nodup,k.nodup,fun a ha b hb e=>?_⟩,fun b hb=>?_,fun b hb=>h.sub b (k.sub b hb),fun b hb=>?_,fun b o hb=>?_⟩
 ·subst e;exact(h.own a ha).2 (k.own a hb).1
 ·rcases gw.1 hb with hb|hb
  ·exact⟨(h.own b hb).1,fun ho=>(h.own b hb).2 (k.sub b ho)⟩
  ·exact⟨h.sub b (k.own b hb).1,(k.own b hb).2⟩
 ·rcases gw.1 hb with hb|hb
  ·cases e:mz b with
   |none=>rfl
   |some o=>
    rcases k.info b o e with h1|h1
    ·rw[h.none b hb]at h1;cases h1
    ·exact absurd h1 (h.own b hb).2
  ·exact k.none b hb
 ·rcases k.info b o hb with h1|h1
  ·exact h.info b o h1
  ·exact .inr (h.sub b h1)
theorem Iq{dat:Bool}{b:AV}(hs:SR E μ ρ σ w)(hv:VR μ ρ a v)(h:MX dat σ a=some (b,σ')):∃F G μ',B2 μ' (hf w) F G b v/\Vg E μ ρ σ w F μ' σ':=by
 unfold MX at h;split at h
 ·rename_i x;obtain⟨h1,h2⟩:=ah h;simp only[bj,de]at h2;obtain⟨e1,e2⟩:=h2;subst e1;subst e2;have:=hv.cell h1;cases this with|d hd=>exact⟨[],[],μ,.o (.c (.d hd)),.refl hs⟩
 ·obtain⟨_,h2⟩:=ah h;simp only[bj,de]at h2;obtain⟨e1,e2⟩:=h2;subst e1;subst e2;have:=hv.cell rfl;cases this with|d hd=>exact⟨[],[],μ,.o (.c (.d hd)),.refl hs⟩
 ·have hc:=hv.cell rfl;split at h
  ·obtain⟨μ',h1,h2,h3,h4,h5,h6⟩:=Bg hs hc h;exact⟨[],[],μ',.o (.c (.d h3)),h1,h2,sq,fun b hb=>(by cases hb),h6,fun b hb=>(by cases hb),h5⟩
  ·obtain⟨F,h1,h2⟩:=tR hs hc h;exact⟨F,[],μ,.o (.c h1),h2.ret hs⟩
 ·split at h
  ·cases h
  ·rename_i cs _ cs' σ1 hx;simp only[bj,de]at h;obtain⟨e1,e2⟩:=h;subst e1;subst e2;cases hv with
   |c hc=>cases hc with|d hd=>cases hd
   |agg hc=>
    obtain⟨μ',h1,h2,h3,h4,h5,h6⟩:=yj hs hc hx;exact⟨[],[],μ',.agg h3.Z6,h1,h2,sq,fun b hb=>(by cases hb),h6,fun b hb=>(by cases hb),h5⟩
 ·rename_i l i j;obtain⟨h1,h2⟩:=ah h;simp only[dd]at h1;have e1:=cj h1.1;have e2:=cj h1.2;subst e1;subst e2;obtain⟨F,ty,cs,e,b1,x1,_⟩:=rp hs (hv.cell rfl) h2;exact⟨F,[v],μ,.o b1,x1.ret hs⟩
 ·rename_i f first cX;rcases aM h with⟨_,h2⟩|⟨he,h2⟩
  ·cases h2
  ·split at h2
   ·cases h2
   ·rename_i bs σ1 r1 hx;simp only[bj,de]at h2;obtain⟨e1,e2⟩:=h2;subst e1;subst e2;have hfe:first=[]:=by simpa using he
    subst hfe;have key:∀{fs cs:List Value},fs.length=([]:List AV).length->fe μ ρ cX cs->∃F G μ',B2 μ' (hf w) F G (.eN f [] bs) (.func (.func f) fs.toArray cs.toArray)/\Vg E μ ρ σ w F μ' σ1:=fun{fs cs} hl hc=>by
     obtain⟨F,G,b1,x1,o1⟩:=nD hs hc hx;exact⟨F,G,μ,.eN ⟨hl,fun k u v hu=>by simp at hu⟩ b1,x1.ret hs⟩
    cases hv with
    |c hc=>
     cases hc with
     |d hd=>cases hd with|eN h1 h2 h3 h4=>exact key h1 ⟨h2,fun k u v hu hv=>.d (h4 k u v hu hv)⟩
     |eN h1 h2 h3 h4=>exact key h1 ⟨h2,h4⟩
 ·cases h
theorem yw{dat:Bool}:∀{as bs:List AV} {vs:List Value} {σ σ':Store} {μ:Mu},SR E μ ρ σ w->wV μ ρ as vs->Du dat σ as=some (bs,σ')->∃F G μ',ju μ' (hf w) F G bs vs/\Vg E μ ρ σ w F μ' σ'/\bs.length=as.length
 |[],bs,vs,σ,σ',μ,hs,hv,h=>by
  simp only[Du,bj,de]at h;obtain⟨e1,e2⟩:=h;subst e1;subst e2;have:vs=[]:=dy (by rw[hv.1];rfl);subst this;exact⟨[],[],μ,.nil,.refl hs,rfl⟩
 |a::as,bs,[],σ,σ',μ,hs,hv,h=>by have:=hv.1;simp at this
 |a::as,bs,v::vs,σ,σ',μ,hs,hv,h=>by
  rw[Du]at h;split at h
  ·cases h
  ·rename_i b1 σ1 h1;split at h
   ·cases h
   ·rename_i bs1 σ2 h2;simp only[bj,de]at h;obtain⟨e1,e2⟩:=h;subst e1;subst e2;obtain⟨F1,G1,μ1,a1,r1⟩:=Iq hs hv.tail.1 h1;obtain⟨F2,G2,μ2,a2,r2,hl⟩:=yw r1.sr (hv.tail.2.mono r1.mu (bV.refl ρ)) h2;have hr:=r1.trans r2;exact⟨F1++F2,G1++G2,μ2,.cons (a1.mono r2.mu fun b hb=>hr.none b (by simp[hb])) a2,hr,by simp[hl]⟩
theorem C6{b:AV}{g:Value}(hs:SR E μ ρ σ w)(hv:CR μ ρ a g)(hg:g≠ .slice none 0 0)(h:uE σ a=some (b,σ')):∃F,B1 μ (hf w) F [g] b g/\wW E μ ρ σ w F σ':=by
 unfold uE at h;split at h
 ·obtain⟨h3,h4⟩:=ah h;simp only[dd]at h3;grind [Nat.eq_of_beq_eq_true,rp]
 grind [Option.some.injEq,Prod.mk.injEq,vz]
theorem rv:∀{as:List AV} {bs:List AV} {G:List Value} {σ σ':Store},SR E μ ρ σ w->fe μ ρ as G->(∀g∈G,g≠ .slice none 0 0)->kN σ as=some (bs,σ')->∃F,pq μ (hf w) F G bs G/\wW E μ ρ σ w F σ'
 |[],bs,G,σ,σ',hs,hv,hG,h=>by
  simp only[kN,bj,de]at h;obtain⟨e1,e2⟩:=h;subst e1;subst e2;have:G=[]:=dy (by rw[hv.1];rfl);subst this;exact⟨[],.nil,.refl hs⟩
 |l::ls,bs,[],σ,σ',hs,hv,hG,h=>by have:=hv.1;simp at this
 |l::ls,bs,g::G,σ,σ',hs,hv,hG,h=>by
  rw[kN]at h;split at h
  ·cases h
  ·rename_i b1 σ1 h1;split at h
   ·cases h
   ·rename_i bs1 σ2 h2;simp only[bj,de]at h;obtain⟨e1,e2⟩:=h;subst e1;subst e2;obtain⟨F1,a1,x1⟩:=C6 hs hv.tail.1 (hG g (by simp)) h1;obtain⟨F2,a2,x2⟩:=rv x1.sr hv.tail.2 (fun g hg=>hG g (by simp[hg])) h2;exact⟨F1++F2,.cons (G:=[g]) a1 a2,x1.trans x2⟩
end
section
variable{P:Program}{E:Env}{μ:Mu}{ρ:bD}{w:World}
def Ir(tmps:Array Value):ResultVar->Sem Value
 | .tmp t=>pure (tmps.getD t undef)
 | .cell a t=>do loadVar t (<-asAddr (tmps.getD a undef))
theorem Lb(fn:Func)(tmps:Array Value):results fn tmps=(do let vs<-fn.results.mapM (Ir tmps);pure (if h:vs.size=1 then vs[0]else .tuple vs)):=by
 have:(fun| .tmp t=>pure (tmps.getD t undef)| .cell a t=>do loadVar t (<-asAddr (tmps.getD a undef)):ResultVar->Sem Value)=Ir tmps:=by
  funext x;cases x<;>rfl
 rw[<-this];rfl
theorem nW{G:Nat->Value}{s:St}{a:Act}(hfr:FR μ ρ G (ax s.fr) a)(hs:SR E μ ρ s.bl w):∀{l:List ResultVar} {vs:List AV},eP P s l=some vs->
  ∃vals:List Value,(l.mapM (Ir a.tmps)).run P w=.ok vals w/\wV μ ρ vs vals/\vs.length=l.length
 |[],vs,h=>by
  simp only[eP,bj]at h;simp_all [wV.nil]
 | .tmp t::l,vs,h=>by
  rw[eP]at h;split at h
  ·cases h
  ·rename_i vs' h';injection h with h;subst h;obtain⟨vals,h1,h2,h3⟩:=nW hfr hs h';have hv:VR μ ρ (EF s.fr t) (a.tmps.getD t undef):=uY (x:=.tmp t) (fun t _=>hfr t);refine⟨_::vals,?_,wV.cons hv h2,by simp[h3]⟩;rw[yr];simp only[Ir,fy,fv,eh,h1]
 | .cell x t::l,vs,h=>by
  rw[eP]at h;split at h
  ·rename_i q i j hq;split at h
   ·cases h
   ·rename_i av hev;split at h
    ·cases h
    ·rename_i vs' h';injection h with h2;subst h2;obtain⟨vals,r1,r2,r3⟩:=nW hfr hs h';have hv:VR μ ρ (EF s.fr x) (a.tmps.getD x undef):=uY (x:=.tmp x) (fun t _=>hfr t);rw[hq]at hv;obtain⟨av',e1,e2⟩:=oV hev;injection e1 with e1;subst e1;obtain⟨v,e3,e4⟩:=e2 E μ ρ _ w hv hs;refine⟨v::vals,?_,wV.cons e4 r2,by simp[r3]⟩;rw[yr];have hp:∃ad,a.tmps.getD x undef=.pointer (some ad):=by
      generalize a.tmps.getD x undef=y at hv;cases hv with
      |c hc=>cases hc with
       |d hd=>cases hd
       |ptr=>exact⟨_,rfl⟩
     obtain⟨ad,had⟩:=hp;rw[had]at e3;simp only[Instr.loadAt,Instr.sureAddr,fy,fv,eh]at e3;simp only[Ir,had,asAddr,fy,fv,eh,e3,r1]
  ·cases h
theorem tf{G:Nat->Value}{a:Act}{vs:List AV}(hfr:FR μ ρ G (ax s.fr) a)(hs:SR E μ ρ s.bl w)(h:eP P s fn.results.toList=some vs):
  ∃vals:List Value,(results fn a.tmps).run P w=.ok (nV vals) w/\wV μ ρ vs vals/\vs.length=fn.results.size:=by
 obtain⟨vals,h1,h2,h3⟩:=nW hfr hs h;refine⟨vals,?_,h2,by simpa using h3⟩;have key:∀(s:Sem (List Value)),s.run P w=.ok vals w->(do let vs<-List.toArray<$>s;pure (if h:vs.size=1 then vs[0]else .tuple vs):Sem Value).run P w=.ok (nV vals) w:=fun s h=>by
  simp only[map_eq_pure_bind,bind_assoc,pure_bind,fy,h,eh,fv]
  congr 1
  unfold nV;grind [List.size_toArray,List.length_eq_one_iff]
 rw[Lb,Array.mapM_eq_mapM_toList];exact key _ h1
end
end
section
def yx(P:Program)(call:cK):Prop:=
 ∀(f:FuncId) (bs rs:List AV),call f bs=some rs->∃fn,P.funcs[f]?=some fn/\
  ∀(w:World) (μ:Mu) (F:List Nat) (G vals:List Value),(∀b o,μ b=some o->w.heap[b]?=some o)->ju μ (hf w) F G bs vals->F.Nodup->
   Calls P f vals.toArray w fun e w'=> ∃(ra ro:List AV) (vs:List Value) (μ':Mu) (F1 F2:List Nat) (G1:List Value),rs=ra++ro/\ra.length=fn.resultTypes.size/\e=.returned (nV vs)/\Yq ⟨w,(· ∈F),μ⟩ μ' w'/\
    (∀b o,μ' b=some o->w'.heap[b]?=some o)/\ju μ' (hf w') F1 G1 ra vs/\pq μ' (hf w') F2 G ro G/\(F1++F2).Nodup/\∀b∈F1++F2,b∈F\/w.heap.size<=b
theorem pF:∀(n:Nat) (as:List AV) (t:Nat),ax (cQ n as) t=if n<=t then(as[t-n]?).getD .un else .un
 |n,[],t=>by simp[cQ,ax]
 |n,a::as,t=>by
  simp only[cQ,ax,pF (n+1) as t];by_cases e:n=t
  ·subst e;simp
  ·rw[dY e];grind
theorem R6{A B:List (Nat×AV)}(h:∃a,(t,a)∈A):ax (A++B) t=ax A t:=by
 induction A with
 |nil=>grind
 |cons p A ih=>
  obtain⟨i,x⟩:=p;simp only[AN,ax];grind [Nat.beq_refl,dY]
theorem Pb{A B:List (Nat×AV)}(h:¬ ∃a,(t,a)∈A):ax (A++B) t=ax B t:=by
 induction A with
 |nil=>rfl
 |cons p A ih=>
  obtain⟨i,x⟩:=p;simp only[AN,ax];grind [dY]
theorem yy:∀(n:Nat) (as:List AV) (t:Nat) (a:AV),(t,a)∈cQ n as->n<=t/\t<n+as.length
 |n,[],t,a,h=>by simp[cQ]at h
 |n,x::as,t,a,h=>by
  simp only[cQ,ft,de]at h;rcases h with⟨h,_⟩|h
  ·subst h;simp
  ·have:=yy (n+1) as t a h;simp;omega
theorem yz:∀(n:Nat) (as:List AV) (t:Nat),n<=t->t<n+as.length->∃a,(t,a)∈cQ n as
 |n,[],t,h1,h2=>by simp at h2;omega
 |n,x::as,t,h1,h2=>by
  by_cases e:t=n
  ·subst e;exact⟨x,by simp[cQ]⟩
  ·obtain⟨a,ha⟩:=yz (n+1) as t (by omega) (by simp at h2;omega);exact⟨a,by simp[cQ,ha]⟩
section
variable{P:Program}{C:gD}{call:cK}{inl:iv}{E:Env}{μ:Mu}{ρ:bD}{w:World}
theorem Iu{G:Nat->Value}{vs:List AV}{vals:List Value}(h:wV μ ρ vs vals)(hr:fe μ ρ rs gs)(hn:vs.length<=n)(hn':n<=1000000)(hG:∀i v,gs[i]?=some v->G (1000000+i)=v):
  FR μ ρ G (ax (cQ 0 vs++cQ 1000000 rs)) {tmps:=vals.toArray++Array.replicate (n-vals.toArray.size) undef,defers:=[]}:=by
 intro t;by_cases h1:t<vs.length
 ·rw[R6 (yz 0 vs t (nt _) (by omega)),pF,ee (nt _),ahk,ao h1];have hv:t<vals.length:=by rw[h.1];exact h1
  have:kT G {tmps:=vals.toArray++Array.replicate (n-vals.toArray.size) undef,defers:=[]} t=vals[t]:=by
   unfold kT;rw[ee (by omega)];simp_all [Array.getD_eq_getD_getElem?,Array.getElem?_append_left]
  rw[this];exact h.2 t _ _ (ao h1) (ao hv)
 ·have:¬ ∃a,(t,a)∈cQ 0 vs:=fun⟨a,ha⟩=>by have:=yy 0 vs t a ha;omega
  rw[Pb this,pF];by_cases h2:1000000<=t
  ·rw[ee h2];cases e:rs[t-1000000]? with
   |none=>exact .un
   |some r=>
    have hlt:t-1000000<gs.length:=by rw[hr.1];grind
    have hg:=ao hlt;have:=hG _ _ hg;rw[show 1000000+(t-1000000)=t by omega]at this;unfold kT;rw[eg (by omega),this];exact .c (hr.2 _ _ _ e hg)
  ·rw[eg h2];exact .un
theorem Iw(σ:Store):∀{cs:List AV},cs.all Kw=true->gG σ cs=some (cs,σ)
 |[],_=>rfl
 |c::cs,h=>by
  simp only[Ix,dd]at h;cases c with
  |v x=>simp only[gG,zZ,Iw σ h.2]
  |_=>cases h.1
theorem Iy{nr:Nat}(h:nj P C f fn nr s=some rs):Am P C f fn nr s=some rs:=by
 unfold nj at h;rcases aM h with⟨hb,h1⟩|⟨_,h1⟩
 ·clear h;simp only[dd]at hb;have hn:=cj hb.2;clear hb;subst hn;have hr:rR s.fr ((List.range 0).map (· +1000000))=[]:=rfl;have key:∀v:AV,VD v=some rs->eP P s fn.results.toList=some [v]->Am P C f fn 0 s=some rs:=fun v hv hx=>by
   unfold VD at hv;split at hv
   ·rename_i cs;obtain⟨h3,h4⟩:=ah hv;obtain rfl:=ss h4;unfold Am;simp only[hx,hr,Du,MX,Iw s.bl h3,kN,ir]
   ·cases hv
  split at h1
  ·rename_i t hl;exact key _ h1 (by rw[hl];rfl)
  ·rename_i a t hl;split at h1
   ·rename_i l i j hp;rw[tH]at h1;obtain⟨p,qK,hp2⟩:=kl.1 h1;refine key p.1 hp2 ?_;have h5:iu P s.bl (fun a _=>some a) t (.ptr l i j)=some p.1:=by rw[tH,qK];rfl
    rw[hl];simp only[eP,hp,h5]
   ·cases h1
  ·cases h1
 ·exact h1
def okB:AV->Bool
 | .ptr _ _ _=>true
 | .sl _ _ _ _=>true
 |_=>false
theorem aaa(h:okB a=true):oN a=true:=by
 cases a<;>first|rfl|cases h
theorem Iz{σ σ':Store}{b:AV}(h:uE σ a=some (b,σ')):okB a=true:=by
 unfold uE at h;split at h
 ·rfl
 ·split at h
  ·cases h
  ·rename_i hx;obtain⟨_,l,k,e,_⟩:=mB hx;rw[e];rfl
theorem vD:∀{as bs:List AV} {σ σ':Store},kN σ as=some (bs,σ')->∀a∈as,okB a=true
 |[],bs,σ,σ',h,a,ha=>by cases ha
 |c::as,bs,σ,σ',h,a,ha=>by
  rw[kN]at h;split at h
  ·cases h
  ·rename_i b1 σ1 h1;split at h
   ·cases h
   ·rename_i bs1 σ2 h2;rcases ft.1 ha with ha|ha
    ·subst ha;exact Iz h1
    ·exact vD h2 a ha
theorem D5{hp:HF}{F:List Nat}{G:List Value}(h:B1 μ hp F G a v):∀g∈G,g≠ .slice none 0 0:=by
 cases h with
 |c h=>intro g hg;cases hg
 |ob=>grind
 |row h hn=>grind
theorem Bs{hp:HF}{F:List Nat}{G:List Value}{as:List AV}{vs:List Value}(h:pq μ hp F G as vs):∀g∈G,g≠ .slice none 0 0:=by
 induction h with
 |nil=>intro g hg;cases hg
 |cons h _ ih=>
  grind [D5]
theorem Lc{hp:HF}{F:List Nat}{G:List Value}{as:List AV}{vs:List Value}(h:ju μ hp F G as vs):∀g∈G,g≠ .slice none 0 0:=by
 induction h with
 |nil=>intro g hg;cases hg
 |cons h _ ih=>
  intro g hg;rcases gw.1 hg with hg|hg
  ·cases h with
   |o h=>exact D5 h g hg
   |agg h=>exact Bs h g hg
   |eN _ h=>exact Bs h g hg
  ·exact ih g hg
theorem C8{G:Nat->Value}{a:Act}{nr:Nat}(hr:Rel E .zero G n (ax s.fr) s.bl a w)(hnr:nr=gs.length)(hG:∀i v,gs[i]?=some v->G (1000000+i)=v)(hgn:∀g∈gs,g≠ .slice none 0 0)(h:nj P C f fn nr s=some rs):
  a.defers=[]/\∃(vals:List Value) (ra ro:List AV) (μ':Mu) (F1 F2:List Nat) (G1:List Value),(results fn a.tmps).run P w=.ok (nV vals) w/\rs=ra++ro/\ra.length=fn.results.size/\Yq E μ' w/\(∀b o,μ' b=some o->w.heap[b]?=some o)/\
   ju μ' (hf w) F1 G1 ra vals/\pq μ' (hf w) F2 gs ro gs/\(F1++F2).Nodup/\∀b∈F1++F2,E.D b\/E.w0.heap.size<=b:=by
 obtain⟨⟨μ,ρ,hf,hs,hd,_⟩,_,hsz,M8⟩:=hr;refine⟨M8,?_⟩;replace h:=Iy h;unfold Am at h;split at h
 ·rename_i vs h1;split at h
  ·cases h
  ·rename_i ra σ1 h3;split at h
   ·cases h
   ·rename_i ro σ2 h4;injection h with h;subst h;obtain⟨vals,r1,r2,r3⟩:=tf (P:=P) (fn:=fn) hf hs h1;obtain⟨F1,G1,μ1,b1,x1,hl⟩:=yw hs r2 h3;have Bu:(∀a∈rR s.fr ((List.range nr).map (· +1000000)),okB a=true)->fe μ1 ρ (rR s.fr ((List.range nr).map (· +1000000))) gs:=fun hok=>by
     refine⟨by simp[rR,hnr],fun i u v hu hv=>?_⟩;have hku:=hok u (dp hu);have hi:i<nr:=by grind
     have yg:ax s.fr (1000000+i)=u:=by
      simp[rR,hi,Nat.add_comm]at hu;rw[Nat.add_comm];exact hu
     have:=hf (1000000+i);rw[yg]at this;unfold kT at this;rw[eg (by omega),hG i v hv]at this;exact((this.mono x1.mu (bV.refl ρ)).cell (aaa hku))
    replace Bu:=Bu (vD h4);obtain⟨F2,b2,x2⟩:=rv x1.sr Bu hgn h4;have hr:=x1.trans (x2.ret x1.sr);exact⟨vals,ra,ro,μ1,F1,F2,G1,r1,rfl,hl.trans r3,x2.sr.base,x2.sr.gj,b1,b2,hr.nodup,fun b hb=>(ru hs (hr.own b hb).1).2.2⟩
 ·cases h
theorem SR.start(oT:∀b o,μ b=some o->w.heap[b]?=some o)(D:Nat->Prop):SR ⟨w,D,μ⟩ μ (fun _=>none) [] w:=
 ⟨fun l rb k h=>(by cases h),fun l l' rb fc k k' h=>(by cases h),fun l rb k h=>(by cases h),oT,rfl,rfl,rfl,dk _,fun _ _ _=>rfl,ak.refl μ,fun b o h=>.inl h⟩
theorem Ft(dw:P.follows .mixedOrders=true)(HC:gZ P C call inl)(n:Nat):yx P (KD P C call inl n):=by
 intro f bs rs h;unfold KD at h;split at h
 ·cases h
 ·rename_i fn hfn;split at h
  ·rename_i c vs σ roots hb hi;rcases aM h with⟨_,h⟩|⟨hok,h⟩
   ·cases h
   refine⟨fn,hfn,fun w μ F G vals oT vE hnd=>?_⟩;simp only[pt,dd]at hok;obtain⟨⟨⟨hd1,qw⟩,hd3⟩,V0⟩:=hok;have qw:=pe qw;have hd3:=pe hd3;have V0:=cj V0;have hfree:mE ⟨w,(· ∈F),μ⟩ (fun _=>none) [] F:=⟨hnd,fun b _ ho=>(by obtain⟨l,rb,k,h,_⟩:=ho;cases h),fun b hb=>.inl hb⟩;obtain⟨ρ,i1,v1,g1⟩:=nT (m:=σ.length) (SR.start oT _) vE hfree (fun _ _ _=>rfl) hi (dk _);have hvl:vs.length=bs.length:=by rw[<-v1.1,vE.len]
   have Bu:roots.length=G.length:=by rw[g1.1]
   have hG:∀(i:Nat) (v:Value),G[i]?=some v->(fun t=>(G[t-1000000]?).getD undef) (1000000+i)=v:=fun i v hv=>by
    grind
   refine calls_of_wp hfn hb ?_;have hrel:Rel ⟨w,(· ∈F),μ⟩ .zero (fun t=>(G[t-1000000]?).getD undef) fn.ntmps (ax (cQ 0 vs++cQ 1000000 roots)) σ {tmps:=vals.toArray++Array.replicate (fn.ntmps-vals.toArray.size) undef,defers:=[]} w:=by
    refine⟨⟨μ,ρ,Iu v1 g1 (by omega) hd3 hG,i1.sr,fun l rb hl=>?_,.zero _ _ _⟩,nt _,?_,rfl⟩
    ·rcases i1.dom l rb hl with h|⟨_,h,_⟩
     ·cases h
     ·exact h
    ·have:=v1.1;simp;omega
   have fin:∀(s:St) (a:Act) (w':World) (x:Exit),nj P C f fn roots.length s=some rs->Rel ⟨w,(· ∈F),μ⟩ .zero (fun t=>(G[t-1000000]?).getD undef) fn.ntmps (ax s.fr) s.bl a w'->x=.normal\/x=.ret->
     bodyPost P fn (fun e w'=> ∃(ra ro:List AV) (vs:List Value) (μ':Mu) (F1 F2:List Nat) (G1:List Value),rs=ra++ro/\ra.length=fn.resultTypes.size/\e=.returned (nV vs)/\Yq ⟨w,(· ∈F),μ⟩ μ' w'/\
    (∀b o,μ' b=some o->w'.heap[b]?=some o)/\ju μ' (hf w') F1 G1 ra vs/\pq μ' (hf w') F2 G ro G/\(F1++F2).Nodup/\∀b∈F1++F2,b∈F\/w.heap.size<=b) x a w':=fun s a w' x R7 hr hx=>by
    obtain⟨M8,Bv,ra,ro,μ',F1,F2,G1,a1,a2,a3,a4,a5,a6,a7,a8,a9⟩:=C8 hr Bu hG (Lc vE) R7;rcases hx with hx|hx<;>subst hx<;>exact⟨M8,_,a1,ra,ro,Bv,μ',F1,F2,G1,a2,a3.trans V0,rfl,a4,a5,a6,a7,a8,a9⟩
   have HL:zE P false (iW P C call inl (C.roll f) (C.join f) n):=fun c LE bg s r h=>⟨rfl,n,pj dw HC n c LE bg s r h⟩;rcases cG dw HC HL (fun e=>by cases e) c _ _ _ _ _ h with⟨e,s',hk,_,hw⟩|⟨_,outs,hk,hw⟩
   ·refine ti (hw _ _ _ fn.ntmps _ _ (.inr rfl) hd1 hd3 hrel) fun x a w' hq=>?_;obtain⟨hx,hr⟩:=hq;cases e with
    |normal=>exact fin s' a w' x hk hr (.inl hx)
    |exit id=>cases hk
    |ret=>exact fin s' a w' x hk hr (.inr hx)
   ·refine ti (hw _ _ fn.ntmps _ _ hd1 hd3 hrel) fun x a w' hq=>?_;obtain⟨hx,s',R7,hr⟩:=hq;grind
  ·cases h
def aab(P:Program)(inl:iv):Prop:=
 ∀(R:Type) (f:FuncId) (args:List AV) (σ:Store) (K:List AV->Store->Option R) (r:R),inl R f args σ K=some r->
  ∃fn vs σ',P.funcs[f]?=some fn/\K vs σ'=some r/\σ.length<=σ'.length/\vs.length=fn.resultTypes.size/\
   ∀(E:Env) (μ:Mu) (ρ:bD) (vals:List Value) (w:World),wV μ ρ args vals->SR E μ ρ σ w->CZ ρ σ.length->
    Calls P f vals.toArray w fun e w'=> ∃ws μ' ρ',e=.returned (nV ws)/\Grow false μ ρ σ.length w μ' ρ' σ'.length w'/\wV μ' ρ' vs ws/\SR E μ' ρ' σ' w'
theorem C9(dw:P.follows .mixedOrders=true)(HC:gZ P C call inl):aab P (fun R f args σ K=>rS P C call inl R f args σ K):=by
 intro R f args σ K r h;simp only at h;unfold rS at h;split at h
 ·cases h
 ·rename_i fn hfn;split at h
  ·rename_i c hb;rcases aM h with⟨_,h⟩|⟨hok,h⟩
   ·cases h
   simp only[pt,dd]at hok;obtain⟨⟨⟨hd1,qw⟩,hd3⟩,V0⟩:=hok;have qw:=pe qw;have hd3:=pe hd3;have V0:=cj V0;have HL:zE P true (fun _ _ _ _=>none):=fun c LE bg s r h=>by cases h
   rcases cG dw HC HL (fun _=>rfl) c _ _ _ _ _ h with⟨e,s',hk,hlen,hw⟩|⟨hlf,_⟩
   ·have hk':∃vs,eP P s' fn.results.toList=some vs/\K vs s'.bl=some r/\e≠ .exit 0/\(Fq e=.normal\/Fq e=.ret):=by
     cases e with
     |exit id=>cases hk
     |normal=>
      simp only at hk;split at hk
      ·cases hk
      ·rename_i vs hvs;exact⟨vs,hvs,hk,(fun e=>by cases e),.inl rfl⟩
     |ret=>
      simp only at hk;split at hk
      ·cases hk
      ·rename_i vs hvs;exact⟨vs,hvs,hk,(fun e=>by cases e),.inr rfl⟩
    obtain⟨vs,hvs,hk,_,hex⟩:=hk';have hvl:∀{l:List ResultVar} {vs:List AV},eP P s' l=some vs->vs.length=l.length:=fun{l}=>by
     induction l with
     |nil=>intro vs h;simp only[eP,bj]at h;subst h;rfl
     |cons x l ih=>
      intro vs h;cases x with
      |tmp t=>
       rw[eP]at h;grind
      |cell a t=>
       rw[eP]at h;grind
    refine⟨fn,vs,s'.bl,hfn,hk,hlen rfl,by rw[hvl hvs,<-V0];simp,fun E μ ρ vals w hv hs hd=>calls_of_wp hfn hb ?_⟩;have hrel:Rel E ⟨μ,ρ,σ.length,w.heap.size⟩ (fun _=>undef) fn.ntmps (ax (cQ 0 args)) σ {tmps:=vals.toArray++Array.replicate (fn.ntmps-vals.toArray.size) undef,defers:=[]} w:=by
     refine⟨⟨μ,ρ,?_,hs,hd,ak.refl μ,bV.refl ρ,fun _ _ _ h=>h,dk _⟩,dk _,?_,rfl⟩
     ·have:=Iu (G:=fun _=>undef) (rs:=[]) (gs:=[]) hv fe.nil qw hd3 (fun i v h=>by simp at h);simpa [cQ]using this
     ·have:=hv.1;simp;omega
    refine ti (hw E _ _ fn.ntmps _ _ (.inl rfl) hd1 hd3 hrel) fun x a w' hq=>?_;obtain⟨hx,⟨μ',ρ',hf,hs',Yw,tN⟩,hbase,hsz,M8⟩:=hq;obtain⟨ws,r1,r2,_⟩:=tf (P:=P) (fn:=fn) hf hs' hvs;have hpost:a.defers=[]/\∃v,(results fn a.tmps).run P w'=.ok v w'/\∃ws μ' ρ',Ending.returned v=.returned (nV ws)/\Grow false μ ρ σ.length w μ' ρ' s'.bl.length w'/\wV μ' ρ' vs ws/\SR E μ' ρ' s'.bl w':=by
     refine⟨M8,_,r1,ws,μ',ρ',rfl,⟨tN.mu,tN.rU,hlen rfl,fun l rb hl=>?_,fun e=>(by cases e),tN.size,fun e=>(by cases e)⟩,r2,hs'⟩;rcases od l σ.length with h1|h1
     ·exact .inl (tN.dom l rb h1 hl)
     ·exact .inr ⟨h1,Yw l rb hl,fun e=>by cases e⟩
    rw[hx];rcases hex with hex|hex<;>rw[hex]<;>exact hpost
   ·cases hlf
  ·cases h
end
end
section
section
variable{E:Env}{μ:Mu}{ρ:bD}{σ σ':Store}{w:World}
theorem dZ.move{σ':Store}{ρ':bD}{F:List Nat}(h:dZ σ ρ F ls gs os)(hm:∀l g o,g∈gs->ym σ ρ F l g o->ym σ' ρ' F l g o):dZ σ' ρ' F ls gs os:=by
 induction h with
 |nil=>exact .nil
 |cons h _ ih=>exact .cons (hm _ _ _ (by simp) h) (ih fun l g o hg=>hm l g o (by simp[hg]))
theorem dZ.len{F:List Nat}(h:dZ σ ρ F ls gs os):gs.length=ls.length/\os.length=ls.length:=by
 induction h with
 |nil=>exact⟨rfl,rfl⟩
 |cons _ _ ih=>simp[ih.1,ih.2]
def Names(g:Value)(b:Nat):Prop:=g=.pointer (some ⟨b,0,none⟩)\/ ∃n c,g=.slice (some ⟨b,0,none⟩) n c
theorem Names.inj{g:Value}{b b':Nat}(h:Names g b)(k:Names g b'):b=b':=by
 rcases h with h|⟨n,c,h⟩<;>rcases k with k|⟨n',c',k⟩<;>rw[h]at k
 all_goals grind
theorem R3.names{g:Value}(h:R3 rb k g o):Names g rb.b:=by
 rcases h with⟨_,_,_,_,h,_⟩|⟨_,_,_,_,⟨c,_,_,h⟩,_⟩
 ·exact .inl h
 ·exact .inr ⟨_,c,h⟩
def R8(r:AV):Prop:=(∃ty cs,r=.ob ty cs)\/ ∃t z xs,r=.kK [.ow false t z xs]
theorem Pc{hp:HF}{F:List Nat}{G:List Value}{ro:List AV}(h:pq μ hp F G ro gs)(ho:∀r∈ro,R8 r):∀g∈gs,∃b∈F,Names g b:=by
 induction h with
 |nil=>intro g hg;cases hg
 |cons h1 _ ih=>
  intro g hg;rcases ft.1 hg with hg|hg
  ·subst hg;rcases ho _ BY with⟨ty,cs,e⟩|⟨t,z,xs,e⟩
   ·subst e;cases h1 with
    |c h2=>cases h2 with|d hd=>cases hd
    | @ob b _ _ _ _ _ _ _=>exact⟨b,by simp,.inl rfl⟩
   ·subst e;cases h1 with
    |c h2=>cases h2 with|d hd=>cases hd
    |row h2 _=>
     cases h2 with
     |d hd=>cases hd
     | @ow b _ _ _ _ _ _ _ _ _ _=>exact⟨b,by simp,.inr ⟨_,_,rfl⟩⟩
  grind
structure aac(E:Env)(μ:Mu)(ρ:bD)(σ:Store)(w:World)(F:List Nat)(ρ':bD)(σ':Store):Prop where
 rU:bV ρ ρ'
 len:σ.length<=σ'.length
 dom:∀l rb,ρ' l=some rb->ρ l=some rb\/(σ.length<=l/\l<σ'.length/\(rb.ph=true\/rb.b∈F))
 sr:SR E μ ρ' σ' w
 own:∀b,Own σ' ρ' b->Own σ ρ b\/b∈F
theorem oz:∀{ls:List Nat} {os:List (List AV)} {σ σ':Store},kM σ ls os=some σ'->σ.length<=σ'.length
 |[],[],σ,σ',h=>by
  simp only[kM,bj]at h;grind
 |[],_::_,σ,σ',h=>by cases h
 |_::_,[],σ,σ',h=>by cases h
 |l::ls,cs::os,σ,σ',h=>by
  rw[kM]at h;split at h
  ·cases h
  ·rename_i k hk;rcases aM h with⟨_,h⟩|⟨_,h⟩
   ·split at h
    ·rename_i cs' σ1 hx;have:=oz h;grind [py,oy]
    ·cases h
   ·split at h
    ·have:=oz h;simp at*;omega
    ·cases h
theorem D6{F0 F1 F':List Nat}{k':gC}{Q1:List (Nat×List AV)}{ρ1:bD}(i1:zb E μ ρ σ w F1 ρ1 σ1)(hF:mE E ρ σ ((rb.b::F1)++F'))(c1:ρ l=some rb)(c3:σ[l]?=some k)
  (hb0:yS μ ρ1 w k' rb) (yC:dZ σ ρ F0 ls gs Q1) (V1:∀g∈gs,∃b∈F',Names g b):
  SR E μ ρ1 (σ1.set l k') w/\mE E ρ1 (σ1.set l k') F'/\dZ (σ1.set l k') ρ1 F0 ls gs Q1/\∀(ρ':bD) (σ':Store),aac E μ ρ1 (σ1.set l k') w F' ρ' σ'->aac E μ ρ σ w ((rb.b::F1)++F') ρ' σ':=by
 have xX:=py i1.app;have hnd:=rk.1 hF.nodup;have hnb:rb.b∉F1:=(As.1 hnd.1).1;have lH:∀x,Own σ1 ρ1 x->x≠rb.b:=fun x hx e=>by
  subst e;rcases i1.own _ hx with h1|h1
  ·exact hF.not _ (by simp) h1
  ·exact hnb h1
 have qL:=i1.sr.EP l k' rb (i1.rU _ _ c1) hb0 fun _ _=>⟨hF.may _ (by simp),fun q fc k' hne hq hk' hm' hp'=>lH _ ⟨q,fc,k',hq,hk',hm',hp',rfl⟩⟩;have YC:∀x,Own (σ1.set l k') ρ1 x->Own σ1 ρ1 x\/x=rb.b:=fun x ⟨q,fc,k',h1,h2,h3,h4,h5⟩=>by
  rcases dK h2 with⟨e1,e2⟩|⟨_,h2⟩
  ·subst e1;rw[i1.rU _ _ c1]at h1;grind
  ·exact .inl ⟨q,fc,k',h1,h2,h3,h4,h5⟩
 refine⟨qL,?_,?_,fun ρ' σ' bk=>?_⟩
 ·refine⟨hnd.2.1,fun x hx ho=>?_,fun x hx=>hF.may x (by simp[hx])⟩;rcases YC x ho with h1|h1
  ·rcases i1.own x h1 with h2|h2
   ·exact hF.not x (by simp[hx]) h2
   grind
  grind
 ·refine yC.move fun l' g' o' hg' hrr=>?_;obtain⟨fc,kk,f1,f2,f3,f4,f5,f6⟩:=hrr;obtain⟨b',hb',e⟩:=V1 g' hg';have e:=f6.names.inj e;have hne:l≠l':=fun e'=>by
   grind
  refine⟨fc,kk,i1.rU _ _ f1,f2,?_,f4,f5,f6⟩;rw[sd hne];obtain⟨τ,e⟩:=i1.app;grind
 ·have qP:=bk.len;rw[ff]at qP;refine⟨i1.rU.trans bk.rU,iS xX qP,fun q rq hq=>?_,bk.sr,fun x hx=>?_⟩
  ·rcases bk.dom q rq hq with h1|⟨h1,h2,h3⟩
   ·rcases i1.dom q rq h1 with h4|⟨h4,h5,h6⟩
    all_goals grind
   grind
  ·rcases bk.own x hx with h1|h1
   ·rcases YC x h1 with h2|h2
    ·rcases i1.own x h2 with h3|h3
     all_goals grind
    grind
   grind
def Nn(o:Nat×List AV)(r:AV)(cs:List AV):Prop:=(Af o.2=none/\r=.ob o.1 cs/\cs.length=o.2.length)\/ ∃t z xs,Af o.2=some (t,z)/\r=.kK [.ow false t z xs]/\cs=[r]/\xs.length=rowLen o.2
theorem Nn.b{r:AV}(h:Nn o r cs):R8 r:=by
 rcases h with⟨_,h,_⟩|⟨t,z,xs,_,h,_⟩
 ·exact .inl ⟨_,_,h⟩
 ·exact .inr ⟨t,z,xs,h⟩
theorem ry{F0:List Nat}:∀{ls:List Nat} {gs:List Value} {Q1:List (Nat×List AV)} {ro:List AV} {os:List (List AV)} {F:List Nat} {G:List Value} {ρ:bD} {σ σ':Store} {m:Nat},SR E μ ρ σ w->dZ σ ρ F0 ls gs Q1->pq μ (hf w) F G ro gs->
  (∀(i:Nat) (o:Nat×List AV),Q1[i]?=some o->∃r cs,ro[i]?=some r/\os[i]?=some cs/\Nn o r cs)->mE E ρ σ F->bu ρ σ.length m->kM σ ls os=some σ'->σ'.length<=m->∃ρ',aac E μ ρ σ w F ρ' σ'
 |[],gs,Q1,ro,[],F,G,ρ,σ,σ',m,hs,hr,hb,hi,hF,hfr,h,hm=>by
  cases hr;cases hb;simp only[kM,bj]at h;subst h;exact⟨ρ,bV.refl ρ,dk _,fun _ _ h=>.inl h,hs,fun _ h=>.inl h⟩
 |[],gs,Q1,ro,_::_,F,G,ρ,σ,σ',m,hs,hr,hb,hi,hF,hfr,h,hm=>by cases h
 |_::_,gs,Q1,ro,[],F,G,ρ,σ,σ',m,hs,hr,hb,hi,hF,hfr,h,hm=>by cases h
 |l::ls,gs,Q1,ro,c::os,F,G,ρ,σ,σ',m,hs,hr,hb,hi,hF,hfr,h,hm=>by
  cases hr with
  | @cons _ g o _ gs Q1 hr1 yC=>
   cases hb with
   | @cons F1 F' G1 G' r ro _ _ hb1 hb2=>
    obtain⟨r0,cs,e1,e2,hform⟩:=hi 0 o rfl;simp only[te,bj]at e1 e2;subst e1;subst e2;have ae0:∀r∈ro,R8 r:=fun r hr=>by
     obtain⟨i,hi'⟩:=Hs hr;have hlt:i<Q1.length:=by
      rw[yC.len.2,<-yC.len.1,hb2.len];grind
     obtain⟨r',cs,e1,_,e3⟩:=hi (i+1) Q1[i] (by grind);simp only[td]at e1;rw[hi']at e1;injection e1 with e1;rw[e1];exact e3.b
    have V1:=Pc hb2 ae0;obtain⟨rb,k,c1,c2,c3,c4,c9,hk⟩:=hr1;rcases hform with⟨Z9,hre,hl⟩|⟨t,z,xs,Z9,hre,hce,hxl⟩
    ·subst hre;rcases hk with⟨c5,c6,c7,c8,V2,c11,c12,_⟩|⟨_,_,_,_,_,c13,_⟩
     ·cases hb1 with
      |c h2=>cases h2 with|d hd=>cases hd
      | @ob b ty F1 _ cur d1 d2 d3=>
       simp only[Value.pointer.injEq,bj,Addr.mk.injEq,and_true]at V2;subst V2;rw[kM,c3]at h;simp only[c5,me]at h;split at h
       ·rename_i cs' σ1 hx;have xX:=py (oy hx);have qP:=oz h;rw[ff]at qP;have YD:mE E ρ σ F1:=⟨(As.1 (rk.1 hF.nodup).1).2,fun x hx=>hF.not x (by simp[hx]),fun x hx=>hF.may x (by simp[hx])⟩;obtain⟨ρ1,i1,r1⟩:=rm hs d3 YD hfr hx (by omega);have jE:cur.size=rb.OB:=by
         have:=d3.len;grind
        have hcs':cs'.length=rb.sz:=by
         rw[<-c8,<-jE,<-r1.1];simp
        have hb0:yS μ ρ1 w {k with mode:=1,xs:=[cs']} rb:=by
         refine⟨c6,c7,by grind,fun e=>(by rw[c2]at e;cases e),fun _=>⟨rfl,c8⟩,fun _=>⟨cur,jE,fun e=>(by rw[c5]at e;cases e),fun _=>⟨fun e he=>by grind,fun i e j c he hc=>?_⟩,.inl ⟨rfl,⟨_,by rw[c11];exact d1,.inl rfl⟩,d2⟩⟩⟩;cases i with
         |succ i=>simp at he
         |zero=>
          simp at he;subst he;have hj:j<cs'.length:=(eR.1 hc).1;have hj':j<cur.size:=by grind
          exact⟨cur[j],by simp[hj'],r1.2 j c _ hc (by simp[hj'])⟩
        obtain⟨qL,hF2,aad,hback⟩:=D6 i1 hF c1 c3 hb0 yC V1;rw[show k={k with mode:=k.mode}from rfl]at qL;obtain⟨ρ',bk⟩:=ry qL aad hb2 (fun i o ho=>by simpa using hi (i+1) o (by simpa using ho)) hF2 (by rw[ff];exact i1.fresh hfr) (by rw[c5]at*;exact h) hm;grind
       ·cases h
     grind
    ·subst hre;subst hce;rcases hk with⟨_,_,_,_,_,_,_,c13⟩|⟨c5,c6,c7,c8,⟨cap,q1,q2,q3⟩,c13,c14⟩
     ·rw[Z9]at c13;cases c13
     ·rw[Z9]at c13;simp only[bj,de]at c13;obtain⟨e1,e2⟩:=c13;subst e1;subst e2;cases hb1 with
      |c h2=>cases h2 with|d hd=>cases hd
      |row h2 _=>
       cases h2 with
       |d hd=>cases hd
       | @ow b cap' _ _ _ cur d1 d2 d3 d4 d5=>
        simp only[Value.slice.injEq,bj,Addr.mk.injEq,and_true]at q3;obtain⟨q4,q5,q6⟩:=q3;subst q4;subst q6;rw[kM,c3]at h;simp only[c5,jz]at h;have DE:=hxl.trans c14;have jE:cur.size=rb.OB:=by rw[<-d4,<-q2,c6]
        have hb0:yS μ ρ w {k with mode:=1,xs:=xs} rb:=
         ⟨c6,by rw[c7];exact DE.symm,c8,fun e=>(by rw[c2]at e;cases e),fun e=>(by rw[c5]at e;cases e),fun _=>⟨cur,jE,fun _=>by rw[c6];exact d5,fun e=>(by rw[c5]at e;cases e),.inl ⟨rfl,by rw[c5];exact d1,d2⟩⟩⟩
        obtain⟨qL,hF2,aad,hback⟩:=D6 (zb.refl hs) hF c1 c3 hb0 yC V1;obtain⟨ρ',bk⟩:=ry qL aad hb2 (fun i o ho=>by simpa using hi (i+1) o (by simpa using ho)) hF2 (by grind) (by rw[c5]at*;exact h) hm;grind
theorem IA{w':World}{F:List Nat}{m0 m1:Mu}(h:SR E μ ρ σ w)(hf:Yq ⟨w,(· ∈F),m0⟩ m1 w')(hF:∀b∈F,¬Own σ ρ b/\(E.D b\/E.w0.heap.size<=b)/\μ b=none):SR E μ ρ σ w':=by
 refine h.moved hf.os hf.tape hf.output hf.size fun b hb=>?_;by_cases hbF:b∈F
 ·exact .inr ⟨(hF b hbF).2.1,(hF b hbF).2.2,fun l rb k h1 h2 h3 h4 e=>(hF b hbF).1 ⟨l,rb,k,h1,h2,h3,h4,e⟩⟩
 ·exact .inl (hf.keep b hb hbF)
theorem ack{μ':Mu}(h:SR E μ ρ σ w)(hle:ak μ μ')(oT:∀b o,μ' b=some o->w.heap[b]?=some o)(ho:∀b,Own σ ρ b->μ' b=none)(hn:∀b o,μ' b=some o->μ b=some o\/E.D b\/E.w0.heap.size<=b):SR E μ' ρ σ w:=by
 refine⟨fun l rb k hl hk hm=>?_,h.inj,h.lW,oT,⟨h.base.os,h.base.tape,h.base.output,h.base.size,h.base.keep,h.base.mu.trans hle,fun b o hb=>?_⟩⟩
 ·have hb:=h.blk l rb k hl hk hm;refine⟨hb.sz,hb.n,hb.fit,hb.ph,hb.one,fun hp=>?_⟩;obtain⟨cur,hc⟩:=hb.live hp;refine⟨cur,hc.size,fun e=>(hc.mq e).mono hle,fun e=>(hc.wD e).mono hle (bV.refl ρ),?_⟩;rcases hc.at_ with⟨a1,a2,a3⟩|⟨a1,ty,fz,a2⟩
  ·exact .inl ⟨a1,a2,ho _ ⟨l,rb,k,hl,hk,a1,hp,rfl⟩⟩
  ·exact .inr ⟨a1,ty,fz,hle _ _ a2⟩
 ·rcases hn b o hb with h1|h1
  ·exact h.base.sU b o h1
  ·exact .inr h1
end
/-! ## acm that agJ to nothing-/
section plain
variable{μ μ':Mu}{hp:HF}
theorem rz{α:Type}{p:α->Bool}:∀{l:List α},Ag p l=true->∀a∈l,p a=true
 |[],_,a,ha=>by cases ha
 |[x],h,a,ha=>by simp at ha;subst ha;exact h
 |x::y::l,h,a,ha=>by
  simp only[Ag,dd]at h;rcases ft.1 ha with ha|ha
  ·subst ha;exact h.1
  ·exact rz h.2 a ha
theorem Bw{F:List Nat}(hm:ak μ μ')(hp':oP a=true)(h:B0 μ' hp F a v):B0 μ hp F a v:=by
 cases h with
 |d hd=>
  cases hd with
  |v hx=>exact .d (.v hx)
  |_=>cases hp'
 | @ow b cap ty sz xs cur h1 h2 h3 h4 h5=>
  refine .ow h1 ?_ h3 h4 ⟨h5.1,fun i e j c he hc=>?_⟩
  ·cases e:μ b with
   |none=>rfl
   |some o=>rw[hm b o e]at h2;cases h2
  ·obtain⟨u,hu1,Yu⟩:=h5.2 i e j c he hc;refine⟨u,hu1,?_⟩;simp only[oP,ka]at hp';have h6:=hp' e (dp he);simp only[Oy,ka]at h6;have h7:=h6 c (dp hc);cases Yu with
   |v hx=>exact .v hx
   |_=>cases h7
 |own=>exact .own
theorem Pf{F:List Nat}{as:List AV}{vs:List Value}(hm:ak μ μ')(h:nB μ' hp F as vs):(∀a∈as,oP a=true)->nB μ hp F as vs:=by
 induction h with
 |nil=>exact fun _=>.nil
 |cons h1 _ ih=>exact fun hp=>.cons (Bw hm (hp _ (by simp)) h1) (ih fun a ha=>hp a (by simp[ha]))
theorem Ld(h:oP (.kK [a])=true):oP a=true:=by
 cases a<;>first|exact h|cases h
theorem IB{F:List Nat}{G:List Value}(hm:ak μ μ')(hp':EH a=true)(h:B1 μ' hp F G a v):B1 μ hp F G a v:=by
 cases h with
 |c h0=>
  refine .c (Bw hm ?_ h0);cases h0 with
  |d hd=>cases hd<;>exact hp'
  |ow=>exact hp'
  |own=>exact hp'
 |row h0 hn=>exact .row (Bw hm (Ld hp') h0) hn
 | @ob b _ _ _ _ h1 h2 h3=>
  refine .ob h1 ?_ (Pf hm h3 (rz hp'));cases e:μ b with
  |none=>rfl
  |some o=>rw[hm b o e]at h2;cases h2
theorem D7{F:List Nat}{G:List Value}{as:List AV}{vs:List Value}(hm:ak μ μ')(h:pq μ' hp F G as vs):(∀a∈as,EH a=true)->pq μ hp F G as vs:=by
 induction h with
 |nil=>exact fun _=>.nil
 |cons h1 _ ih=>exact fun hp=>.cons (IB hm (hp _ (by simp)) h1) (ih fun a ha=>hp a (by simp[ha]))
theorem R9{F:List Nat}{G:List Value}(hm:ak μ μ')(hp':EI a=true)(h:B2 μ' hp F G a v):B2 μ hp F G a v:=by
 cases h with
 |o h1=>
  refine .o (IB hm ?_ h1);cases h1 with
  |c h0=>cases h0 with
   |d hd=>cases hd<;>exact hp'
   |ow=>exact hp'
   |own=>exact hp'
  |ob=>exact hp'
  |row=>exact hp'
 |agg h1=>exact .agg (D7 hm h1 (rz hp'))
 |eN=>cases hp'
theorem Ph{F:List Nat}{G:List Value}{as:List AV}{vs:List Value}(hm:ak μ μ')(h:ju μ' hp F G as vs):(∀a∈as,EI a=true)->ju μ hp F G as vs:=by
 induction h with
 |nil=>exact fun _=>.nil
 |cons h1 _ ih=>exact fun hp=>.cons (R9 hm (hp _ (by simp)) h1) (ih fun a ha=>hp a (by simp[ha]))
theorem Pj{F:List Nat}{G:List Value}{ro:List AV}(h:pq μ hp F G ro gs):∀{Lf:List AV},Lf.length=ro.length->
  (∀(i:Nat) (r r':AV),ro[i]?=some r->Lf[i]?=some r'->(r=r'\/ ∃ty cs cs',r=.ob ty cs/\r'=.ob ty cs'/\Bp cs cs'))->pq μ hp F G Lf gs:=by
 induction h with
 |nil=>
  intro Lf hl _;have:Lf=[]:=dy hl;subst this;exact .nil
 |cons h1 _ ih=>
  intro Lf hl hi;cases Lf with
  |nil=>simp at hl
  |cons r' Lf=>
   refine .cons ?_ (ih (by simpa using hl) fun i r r' hr hr'=>hi (i+1) r r' (by simpa using hr) (by simpa using hr'));rcases hi 0 _ r' rfl rfl with e|⟨ty,cs,cs',e1,e2,hs⟩
   ·rw[<-e];exact h1
   subst e1;subst e2;cases h1 with
   |c h0=>cases h0 with|d hd=>cases hd
   |ob a1 a2 a3=>exact .ob a1 a2 (hs.b0s a3)
end plain
/-! ## aeC-/
section len
variable{σ σ':Store}
theorem IC(h:qF σ c=some (a,σ')):σ'.length=σ.length:=by
 unfold qF at h;grind
theorem D8:∀{cs as:List AV} {σ σ':Store},qG σ cs=some (as,σ')->σ'.length=σ.length
 |[],as,σ,σ',h=>by simp only[qG,bj,de]at h;rw[h.2]
 |c::cs,as,σ,σ',h=>by
  rw[qG]at h;split at h
  ·cases h
  ·rename_i hx;split at h
   ·cases h
   ·rename_i hy;simp only[bj,de]at h;rw[<-h.2,D8 hy,IC hx]
theorem D9(h:nh σ c=some (a,σ',r)):σ'.length=σ.length:=by
 unfold nh at h;split at h
 ·obtain⟨_,h⟩:=ah h;split at h
  ·cases h
  ·rename_i hx;simp only[bj,de]at h;rw[<-h.2.1];unfold uz at hx;split at hx
   ·cases hx
   ·obtain⟨_,hx⟩:=ah hx;split at hx
    ·cases hx
    ·rename_i hy;simp only[bj,de]at hx;rw[<-hx.2,D8 hy];simp
 grind [Option.some.injEq,Prod.mk.injEq,IC]
theorem wX:∀{cs as:List AV} {σ σ':Store} {r:List Nat},oh σ cs=some (as,σ',r)->σ'.length=σ.length
 |[],as,σ,σ',r,h=>by simp only[oh,bj,de]at h;rw[h.2.1]
 |c::cs,as,σ,σ',r,h=>by
  rw[oh]at h;split at h
  ·cases h
  ·rename_i hx;split at h
   ·cases h
   ·rename_i hy;simp only[bj,de]at h;rw[<-h.2.1,wX hy,D9 hx]
theorem Sa(h:GI σ c=some (a,σ',r)):σ'.length=σ.length:=by
 unfold GI at h;split at h
 ·grind [Option.some.injEq,Prod.mk.injEq,wX]
 ·obtain⟨_,h⟩:=aU h;grind [Option.some.injEq,Prod.mk.injEq,wX]
 ·exact D9 h
theorem yD:∀{args bs:List AV} {σ σ':Store} {m q:List Bool} {r:List Nat},gn σ m q args=some (bs,σ',r)->σ'.length=σ.length/\(m.any id=false->σ'=σ/\r=[]/\cJ bs=[])
 |[],bs,σ,σ',m,q,r,h=>by
  cases m<;>
  ·simp only[gn,bj,de]at h;obtain⟨e1,e2,e3⟩:=h;subst e1;subst e2;subst e3;exact⟨rfl,fun _=>⟨rfl,rfl,rfl⟩⟩
 |a::as,bs,σ,σ',m,q,r,h=>by
  rw[gn]at h;split at h
  ·cases h
  ·rename_i b σ1 r1 h1;split at h
   ·cases h
   ·rename_i bs1 σ2 r2 h2;simp only[bj,de]at h;obtain⟨e1,e2,e3⟩:=h;subst e1;subst e2;subst e3;obtain⟨l1,l2⟩:=yD h2;rw[Bi];cases hm:m.headD false with
    |true=>
     rw[hm]at h1;have hl:σ1.length=σ.length:=by
      grind [mB,Sa]
     refine⟨l1.trans hl,fun e=>?_⟩;cases m with
     |nil=>cases hm
     |cons x m=>grind
    |false=>
     rw[hm]at h1;simp only at h1;split at h1
     ·cases h1
     ·rename_i b' hb';simp only[bj,de]at h1;obtain⟨e1,e2,e3⟩:=h1;subst e1;subst e2;subst e3;refine⟨l1,fun e=>?_⟩;obtain⟨q1,q2,q3⟩:=l2 (by cases m with
       |nil=>rfl
       |cons x m=>simp at e;simpa using e.2)
      grind [Ip]
end len
end
section
section
variable{P:Program}{C:gD}{call:cK}{inl:iv}
theorem Sb{μ:Mu}{ρ:bD}{vs:List AV}{ws:List Value}(h:wV μ ρ vs ws)(hn:vs.length=n):VR μ ρ (GK n vs) (nV ws):=by
 unfold GK nV;by_cases e:n=1
 ·subst e;rw[ee (h.1.trans hn)];obtain⟨x,hx⟩:=qS.1 hn;obtain⟨y,hy⟩:=qS.1 (h.1.trans hn);subst hx;subst hy;exact h.2 0 x y rfl rfl
 ·have:Nat.beq n 1=false:=dY e;rw[this,eg (by rw[h.1,hn];exact e)];exact .kK h.1 h.2
theorem Bz{σ:Store}:∀{L:List Nat} {l:Nat} {k:gC},l∈L->σ[l]?=some k->k.mode=1->fL σ L=true
 |[],l,k,h,_,_=>by cases h
 |m::L,l,k,h,hk,hm=>by
  simp only[fL];rcases ft.1 h with h|h
  ·subst h;rw[hk];simp[hm]
  ·rw[Bz h hk hm,KB]
theorem Lg(HS:yx P call){σ:Store}{r:R}(hfn:P.funcs[f]?=some fn)(Sc:C.inl f=false){bs:List AV}{roots:List Nat}
  (hro:Ad (C.rw f) (C.bk f) args=true) (V3:gn σ (C.rw f) (C.bk f) args=some (bs,σ1,roots)) (Np:(cC σ (C.rw f) args).all (fun l=>match σ1[l]? with|some k=> !(Nat.beq k.mode 0)|none=>false)=true)
  (hcl:(C.cl f&&fL σ (cC σ (C.rw f) args))=false)
  (h:((call f bs).bind fun rs=>
    tv P (C.dat f) fn.resultTypes.toList 0 rs fun as=>
     lG (cJ bs) fn.resultTypes.size rs fun os=>
      cond (!(fL σ (cC σ (C.rw f) args))||(fn.resultTypes.any (Dq P (C.dat f))||Dr P (cJ bs))||(Ag EI as&&Ag (Ag oP) os))
       (match kM (bif fL σ (cC σ (C.rw f) args)&&(fn.resultTypes.any (Dq P (C.dat f))||Dr P (cJ bs))then bN σ1 (cC σ (C.rw f) args)else σ1) roots os with
       |none=>none
       |some σ2=>
        match fk σ2 as with
        |none=>none
        |some (vs,σ3,_)=>K (GK fn.resultTypes.size vs) σ3) none)=some r):
  ∃av σ',K av σ'=some r/\σ.length<=σ'.length/\(kR P C f=true->∃τ,σ'=σ++τ)/\
   ∀(E:Env) (μ:Mu) (ρ:bD) (vals:List Value) (w:World),vals.length=args.length->(∀(k:Nat) (a:AV) (v:Value),args[k]?=some a->vals[k]?=some v->VR μ ρ a v)->SR E μ ρ σ w->bu ρ σ.length σ'.length->
    Calls P f vals.toArray w fun e w'=> ∃v μ' ρ',e=.returned v/\Grow (kR P C f) μ ρ σ.length w μ' ρ' σ'.length w'/\VR μ' ρ' av v/\SR E μ' ρ' σ' w':=by
 generalize hL:cC σ (C.rw f) args=L at*;generalize hlk:(fn.resultTypes.any (Dq P (C.dat f))||Dr P (cJ bs))=Sd at*;obtain⟨rs,hcall,hA⟩:=kl.1 h;clear h;obtain⟨as,hB,acn,ae1⟩:=Br hA;clear hA;obtain⟨os,hC,ae2,ae3⟩:=pE hB;clear hB;obtain⟨Pk,hK⟩:=ah hC;clear hC;split at hK
 ·cases hK
 rename_i σ2 hbk;split at hK
 ·cases hK
 rename_i vs σ3 rr himp;have hq:kR P C f=true->(C.rw f).any id=false/\xM P C f fn=false:=fun e=>by
  simp only[kR,hfn,Sc,ID,pk,km]at e;exact e
 obtain⟨xX,aae⟩:=yD V3;have hqs:kR P C f=true->σ1=σ/\roots=[]/\cJ bs=[]/\(fL σ L&&Sd)=false:=fun e=>by
  obtain⟨q1,q2⟩:=hq e;obtain⟨q3,q4,q5⟩:=aae q1;refine⟨q3,q4,q5,?_⟩;cases hc:C.cl f with
  |true=>grind
  |false=>
   simp only[xM,hc,AS,tw,km]at q2;replace q2:=q2.2;rw[<-hlk,q2,q5,ID,Bool.and_eq_false_iff];exact .inr rfl
 generalize aaf:(bif fL σ L&&Sd then bN σ1 L else σ1)=σx at*;have aco:σx.length=σ.length:=by
  rw[<-aaf];cases(fL σ L&&Sd)with
  |true=>rw[me,(fH L σ1 0).1,xX]
  |false=>rw[jz,xX]
 have qP:=oz hbk;have acp:=py (nC himp);refine⟨_,σ3,hK,by omega,fun e=>?_,fun E μ ρ vals w hvl hvv hs hfr=>?_⟩
 ·obtain⟨q1,q2,q3,q4⟩:=hqs e;have hx:σx=σ:=by grind
  have hos:os=[]:=dy (by rw[ae2,q3];rfl);rw[hx,q2,hos]at hbk;simp only[kM,bj]at hbk;subst hbk;exact nC himp
 have hv:wV μ ρ args vals:=⟨hvl,hvv⟩;obtain⟨F,G,x1,o1,VK,hc⟩:=nU hs hv hro V3;obtain⟨μ',hle,hsf,hinfo,YE⟩:=ib L x1.sr;have hFo:∀b∈F,μ b=none/\b<w.heap.size/\(E.D b\/E.w0.heap.size<=b):=fun b hb=>ru hs (x1.own b hb).1;have Sg:∀b∈F,μ' b=none:=fun b hb=>by
  cases e:μ' b with
  |none=>rfl
  |some o=>
   rcases hinfo b o e with h1|⟨l,_,rb,k,h1,h2,h3,h4,h5⟩
   ·grind
   ·exact absurd ⟨l,rb,k,h1,h2,h3,h4,h5⟩ (x1.own b hb).2
 have V4:∀l∈L,∀k,σ[l]?=some k->k.mode≠0->σ1[l]?=some k:=fun l hl k hk hm=>by
  have:=ka.1 Np l hl;split at this
  ·rename_i k1 hk1;obtain⟨k0,e1,e2⟩:=x1.blk l k1 hk1;rw[hk]at e1;injection e1 with e1;subst e1;rcases e2 with e2|e2
   all_goals simp_all
  ·cases this
 have hLf:∀l∈L,∀k,σ[l]?=some k->k.mode≠0->(bN σ1 L)[l]?=some {k with mode:=2}:=fun l hl k hk hm=>mc L σ1 l k hl (V4 l hl k hk hm) hm;have hb2:ju μ' (hf w) F G bs vals:=hc μ' hle Sg fun k a b v h3 h4 h5 h6=>VY hsf hLf ((hv.2 k a v h4 h5).mono hle (bV.refl ρ)) h6 (fun l hl=>by grind [yp]) _;obtain⟨fn',hfn',Sh⟩:=HS f bs rs hcall;rw[hfn]at hfn';injection hfn' with hfn';subst hfn';refine(Sh w μ' F G vals hsf.gj hb2 x1.nodup).mono fun e w' he=>?_;obtain⟨ra,ro,ws,mz,F1,F2,G1,RR,acq,hee,ze,oT,hres,YF,hnd,acr⟩:=he;have hmy:∀b∈F1++F2,E.D b\/E.w0.heap.size<=b:=fun b hb=>by
  rcases acr b hb with h1|h1
  ·exact(hFo b h1).2.2
  ·exact .inr (iS hs.base.size h1)
 have hres':ju mz (hf w') F1 G1 as ws:=VZ hres (by rw[acn,acq];simp) fun i r a hr ha=>by
  have:=ae1 i a ha;have hlt:i<ra.length:=(eR.1 hr).1;have hce:cellAt rs (0+i)=r:=by
   rw[gv,RR,cellAt,kc,fj hlt,hr];rfl
  rwa [hce]at this
 let Lf:List AV:=List.zipWith (fun(o:Nat×List AV) cs=>match Af o.2 with|none=>AV.ob o.1 cs|some _=>cellAt cs 0) (cJ bs) os
 have hrl:=o1.len;have agW:ro.length=(cJ bs).length:=by rw[<-YF.len,hrl.1,hrl.2]
 have acs:Lf.length=ro.length:=by
  grind
 have aag:∀(i:Nat) (o:Nat×List AV),(cJ bs)[i]?=some o->∃r r' cs',ro[i]?=some r/\Lf[i]?=some r'/\os[i]?=some cs'/\Nn o r' cs'/\(r=r'\/ ∃ty cs cs',r=.ob ty cs/\r'=.ob ty cs'/\Bp cs cs'):=fun i o ho=>by
  obtain⟨r,cs',a1,a2,a3⟩:=ae3 i o ho;rw[RR,<-acq,en (by omega),Nat.add_sub_cancel_left]at a1;rcases a3 with⟨b1,cs,b2,b3,b4⟩|⟨t,z,xs,b1,b2,b3,b4⟩
  ·refine⟨r,.ob o.1 cs',cs',a1,?_,a2,.inl ⟨b1,rfl,by rw[b4.1,b3]⟩,.inr ⟨_,_,_,b2,rfl,b4⟩⟩;grind
  ·refine⟨r,r,cs',a1,?_,a2,.inr ⟨t,z,xs,b1,b2,b3,b4⟩,.inl rfl⟩;subst b3;simp only[Lf,List.getElem?_zipWith,ho,a2,b1];rfl
 have Lh:pq mz (hf w') F2 G Lf G:=Pj YF acs fun i r r' hr hr'=>by
  have hlt:i<(cJ bs).length:=by grind
  obtain⟨r0,r0',cs',a1,a2,_,_,a5⟩:=aag i _ (ao hlt);grind
 have Si:∀b o,mz b=some o->μ' b=some o\/b∈F\/w.heap.size<=b:=ze.sU;have st:∃μ3,ak μ μ3/\SR E μ3 ρ σx w'/\ju μ3 (hf w') F1 G1 as ws/\pq μ3 (hf w') F2 G Lf G/\(∀b,Own σx ρ b->Own σ1 ρ b)/\(kR P C f=true->∀b o,μ3 b=some o->μ b=some o\/w.heap.size<=b):=by
  have general:∀(σy:Store),SR E μ' ρ σy w->(∀b,Own σy ρ b->Own σ1 ρ b)->SR E mz ρ σy w':=fun σy hsy ho=>by
   have h1:=IA hsy ze fun b hb=>⟨fun Yz=>(x1.own b hb).2 (ho b Yz),(hFo b hb).2.2,Sg b hb⟩;refine ack h1 ze.mu oT (fun b Yz=>?_) fun b o hb=>?_
   ·obtain⟨n1,n2,_⟩:=ru hsy Yz;cases e:mz b with
    |none=>rfl
    |some o=>
     rcases Si b o e with h2|h2|h2
     ·rw[n1]at h2;cases h2
     ·exact absurd (ho b Yz) (x1.own b h2).2
     ·omega
   ·rcases Si b o hb with h2|h2|h2
    ·exact .inl h2
    ·exact .inr (hFo b h2).2.2
    ·exact .inr (.inr (iS hs.base.size h2))
  cases how:fL σ L with
  |false=>
   have hμ:∀b o,μ' b=some o->μ b=some o:=fun b o hb=>by
    rcases hinfo b o hb with h1|⟨l,hl,rb,k,h1,h2,h3,h4,h5⟩
    ·exact h1
    ·obtain⟨k0,e1,e2⟩:=x1.blk l k h2;grind [Bz]
   have ae4:μ'=μ:=by
    funext b
    cases e:μ' b with
    |none=>
     cases e2:μ b with
     |none=>rfl
     |some o=>rw[hle b o e2]at e;cases e
    |some o=>exact(hμ b o e).symm
   have hx:σx=σ1:=by rw[<-aaf,how];rfl
   rw[hx];refine⟨mz,hle.trans ze.mu,general σ1 (ae4▸x1.sr) (fun _ h=>h),hres',Lh,fun _ h=>h,fun e b o hb=>?_⟩;grind
  |true=>
   cases ae5:Sd with
   |true=>
    have hx:σx=bN σ1 L:=by grind
    rw[hx];refine⟨mz,hle.trans ze.mu,general _ hsf YE,hres',Lh,YE,fun e=>?_⟩;grind
   |false=>
    have hx:σx=σ1:=by grind
    rw[hx];rw[how,ae5]at Pk;simp only[xi,ID,dd]at Pk;obtain⟨p1,p2⟩:=Pk;have acu:ak μ mz:=hle.trans ze.mu;refine⟨μ,ak.refl μ,IA x1.sr ze fun b hb=>⟨(x1.own b hb).2,(hFo b hb).2.2,(hFo b hb).1⟩,Ph acu hres' (rz p1),D7 acu Lh fun a ha=>?_,fun _ h=>h,fun _ b o hb=>.inl hb⟩;obtain⟨i,hi⟩:=Hs ha;have hlt:i<(cJ bs).length:=by grind
    obtain⟨r0,r0',cs',_,a2,a3,a4,_⟩:=aag i _ (ao hlt);rw[hi]at a2;injection a2 with a2;subst a2;have hp:=rz p2 _ (dp a3);rcases a4 with⟨_,e,_⟩|⟨t,z,xs,_,e1,e2,_⟩
    ·rw[e];exact hp
    ·rw[e2,e1]at hp;rw[e1];exact hp
 obtain⟨μ3,m1,m2,m3,m4,m5,m6⟩:=st;have hrx:dZ σx ρ F roots G (cJ bs):=o1.move fun l g o _ hr=>by
  obtain⟨rb,k,f1,f2,f3,f4,f5⟩:=hr;refine⟨rb,k,f1,f2,?_,f4,f5⟩;rw[<-aaf];cases(fL σ L&&Sd)with
  |false=>exact f3
  |true=>
   rw[me];rcases(fH L σ1 l).2 with e|⟨k0,e1,e2,_⟩
   all_goals grind
 have Nq:mE E ρ σx (F2++F1):=by
  obtain⟨n1,n2,n3⟩:=rk.1 hnd;refine⟨rk.2 ⟨n2,n1,fun a ha b hb e=>n3 b hb a ha e.symm⟩,fun b hb ho=>?_,fun b hb=>hmy b (by grind)⟩;rcases acr b (by grind)with h1|h1
  ·exact(x1.own b h1).2 (m5 b ho)
  ·have:=(ru x1.sr (m5 b ho)).2.1;omega
 obtain⟨ρ2,bk⟩:=ry m2 hrx m4 (fun i o ho=>by
  obtain⟨_,r',cs',_,a2,a3,a4,_⟩:=aag i o ho;grind) Nq.left (m:=σ3.length) (by rw[aco];exact hfr) hbk acp
 have aah:mE E ρ2 σ2 F1:=by
  obtain⟨_,n2,n3⟩:=rk.1 Nq.nodup;refine⟨n2,fun b hb ho=>?_,fun b hb=>Nq.may b (by simp[hb])⟩;rcases bk.own b ho with h1|h1
  ·exact Nq.not b (by simp[hb]) h1
  ·exact n3 b h1 b hb rfl
 have ae6:bu ρ2 σ2.length σ3.length:=fun l h1 h2=>by
  cases e:ρ2 l with
  |none=>rfl
  |some rb=>
   rcases bk.dom l rb e with h3|⟨_,h3,_⟩
   ·rw[hfr l (by omega) h2]at h3;cases h3
   ·omega
 obtain⟨ρ3,i3,v3,_⟩:=nT bk.sr m3 aah ae6 himp (dk _);have ae7:vs.length=fn.resultTypes.size:=by
  rw[<-v3.1,m3.len,acn];simp
 refine⟨_,μ3,ρ3,hee,⟨m1,bk.rU.trans i3.rU,by omega,fun l rb hl=>?_,fun e b hb=>?_,ze.size,m6⟩,Sb v3 ae7,i3.sr⟩
 ·have hnew:rb.ph=true\/rb.b∈F1++F2->kR P C f=true->rb.ph=true\/w.heap.size<=rb.b:=fun h1 e=>by
   grind
  rcases i3.dom l rb hl with h1|⟨h1,h2,h3⟩
  ·rcases bk.dom l rb h1 with h4|⟨h4,h5,h6⟩
   all_goals grind
  grind
 ·obtain⟨_,q2,_⟩:=VK (hq e).1;exact ze.keep b hb (by rw[q2];simp)
def acv(P:Program)(f:FuncId)(g:List (List AV)->Option (List (List AV))):Prop:=∀xs ys,g xs=some ys->ys.length=xs.length/\
 (xs=[]->∀w,Calls P f #[.slice none 0 0] w fun e w'=>e=.returned (.tuple #[])/\w'.heap=w.heap/\w'.os=w.os/\w'.tape=w.tape/\w'.output=w.output)/\
 ∀(μ:Mu) (w:World) (b c ty:Nat) (cur:Array Value),xs.length<=1000000->Has w b cur ty false->bJ μ 1 xs cur->xs.length<=c->c=cur.size->
  Calls P f #[.slice (some ⟨b,0,none⟩) xs.length c] w fun e w'=>e=.returned (.tuple #[])/\∃cur',cur'.size=cur.size/\bJ μ 1 ys cur'/\w'.heap=(w.setRow b cur').heap/\w'.os=w.os/\w'.tape=w.tape/\w'.output=w.output
def IE:Value->Option Nat
 | .slice (some a) _ _=>some a.block
 |_=>none
inductive V5(μ:Mu)(w:World)(ty sz:Nat)(xs:List (List AV)):Value->Prop
 |nil (h:xs=[]):V5 μ w ty sz xs (.slice none 0 0)
 |own {b cap:Nat} {cur:Array Value} (h:Has w b cur ty (uq false sz)) (hr:bJ μ sz xs cur) (hc:xs.length<=cap) (hs:cap*sz=cur.size):V5 μ w ty sz xs (.slice (some ⟨b,0,none⟩) xs.length cap)
inductive MvA(μ:Mu)(w:World)(B:Option Nat):AV->Value->Prop
 |v {x:Value} (h:oN (.v x)=true):MvA μ w B (.v x) x
 |nil {sz:Nat}:MvA μ w B (.aq true sz []) (.slice none 0 0)
 |aq {b cap ty sz:Nat} {xs:List (List AV)} {cur:Array Value} (h:Has w b cur ty (uq false sz)) (hr:bJ μ sz xs cur) (hc:xs.length<=cap) (hs:cap*sz=cur.size) (hB:B≠some b):MvA μ w B (.aq false sz xs) (.slice (some ⟨b,0,none⟩) xs.length cap)
structure MvR(μ:Mu)(w:World)(B:Option Nat)(ty sz:Nat)(ys:List (List AV))(v:Value)(w':World):Prop where
 os:w'.os=w.os
 tape:w'.tape=w.tape
 output:w'.output=w.output
 size:w.heap.size<=w'.heap.size
 keep:∀b,b<w.heap.size->B≠some b->w'.heap[b]?=w.heap[b]?
 ret:(v=.slice none 0 0/\ys=[]/\B=none)\/ ∃b cap cur,v=.slice (some ⟨b,0,none⟩) ys.length cap/\(B=some b\/w.heap.size<=b)/\(B=none->ys≠[])/\Has w' b cur ty (uq false sz)/\bJ μ sz ys cur/\ys.length<=cap/\cap*sz=cur.size
def MvS(P:Program)(f:FuncId)(g:Nat->Nat->List (List AV)->List AV->Option (List (List AV))):Prop:=∀ty sz xs ds ys,g ty sz xs ds=some ys->xs.length<=1000000->
 ∀(μ:Mu) (w:World) (sv:Value) (vals:List Value),(∀b o,μ b=some o->w.heap[b]?=some o)->V5 μ w ty sz xs sv->vals.length=ds.length->(∀(k:Nat) (d:AV) (v:Value),ds[k]?=some d->vals[k]?=some v->MvA μ w (IE sv) d v)->
  Calls P f (sv::vals).toArray w fun e w'=> ∃v,e=.returned v/\MvR μ w (IE sv) ty sz ys v w'
def Sj(P:Program)(C:gD):Prop:=PrS P C/\∀f u,C.CM f=some u->match u with| .row g=>acv P f g| .mv g=>MvS P f g
theorem IG(h:∀f,C.pr f=none):PrS P C:=fun f g e=>by rw[h]at e;cases e
theorem wY(h:∀f,C.CM f=none)(hp:∀f,C.pr f=none:=by intro _;rfl):Sj P C:=⟨IG hp,fun f u e=>by rw[h]at e;cases e⟩
theorem II{σ:Store}{r:R}{g:List (List AV)->Option (List (List AV))}(hU:acv P f g)(h:MT g σ K args=some r):
  ∃av σ',K av σ'=some r/\σ.length<=σ'.length/\
   ∀(E:Env) (μ:Mu) (ρ:bD) (vals:List Value) (w:World),vals.length=args.length->(∀(k:Nat) (a:AV) (v:Value),args[k]?=some a->vals[k]?=some v->VR μ ρ a v)->SR E μ ρ σ w->
    Calls P f vals.toArray w fun e w'=> ∃v,e=.returned v/\Grow false μ ρ σ.length w μ ρ σ'.length w'/\VR μ ρ av v/\SR E μ ρ σ' w':=by
 unfold MT at h;split at h
 ·rename_i l;split at h
  ·cases h
  ·rename_i b hb;obtain⟨hc,h⟩:=ah h;simp only[dd,pk]at hc;obtain⟨⟨hm,ho⟩,hs1⟩:=hc;have hm:=cj hm;have hs1:=cj hs1;split at h
   ·cases h
   ·rename_i ys hys;obtain⟨hbig,h⟩:=ah h;have hbig:b.xs.length<=1000000:=tn hbig;obtain⟨hyl,hN,hU⟩:=hU _ _ hys;refine⟨_,_,h,by simp,fun E μ ρ vals w hvl hv hs=>?_⟩;obtain⟨v,rfl⟩:=qS.1 hvl;have ha:=hv 0 _ v rfl rfl;cases ha with
    |c hx=>cases hx with
     |d hd=>cases hd
     | @tB _ _ _ rb hl hn _ _=>
      have hbl:=hs.blk l rb b hl hb (by omega);have hx0:b.xs=[]:=dy (by rw[<-hbl.n];exact hn);have hy0:ys=[]:=dy (by rw[hyl,hx0];rfl);refine(hN hx0 w).mono fun e w' he=>?_;obtain⟨rfl,h3,h4,h5,h6⟩:=he;have hset:σ.set l {b with xs:=ys}=σ:=by rw[hy0,<-hx0];exact gS hb
      refine⟨_,rfl,by simp_all [ff,jG,dk],.kK rfl (fun k u v hu=>by cases hu),?_⟩;rw[hset];exact hs.world (fun x hx=>by rw[h3]) (by grind) h4 h5 h6
     | @sl _ _ _ rb a len cap hl hp ha hlen hoff hcap jE=>
      have hbl:=hs.blk l rb b hl hb (by omega);obtain⟨cur,hc⟩:=hbl.live hp;have eY:Has w rb.b cur b.ty (uq b.obj b.sz):=by
       rcases hc.at_ with⟨_,h2,_⟩|⟨h3,_⟩
       ·exact h2
       ·omega
      have ha':a=⟨rb.b,0,none⟩:=by
       grind
      subst ha';have DE:len=b.xs.length:=by rw[hlen,<-hbl.n];simp[qJ]
      subst DE;have hrow:=hc.mq ho;rw[gv]at jE;have aai:Has w rb.b cur b.ty false:=by rw[show false=uq b.obj b.sz by rw[ho,hs1];rfl];exact eY
      have hr1:rb.sz=1:=hbl.sz.trans hs1;rw[hr1]at hrow jE;refine(hU μ w rb.b cap b.ty cur hbig aai hrow hcap (by rw[hc.size];omega)).mono fun e w' he=>?_;obtain⟨rfl,cur',h1,h2,h3,h4,h5,h6⟩:=he;have hw:=hs.write hl hb hm hp ys cur cur' eY hc.size (h1.trans hc.size) hyl (fun _=>by rw[hr1];exact h2) (fun e=>by rw[ho]at e;cases e);have hsz:w'.heap.size=w.heap.size:=by rw[h3];simp
      refine⟨_,rfl,by simp_all [ff,jG],.kK rfl (fun k u v hu=>by cases hu),hw.world (fun x hx=>by rw[h3]) (by grind) h4 h5 h6⟩

 ·cases h
theorem IJ{α β:Type}{f:α->Option β}:∀{l:List α} {r:List β},l.mapM f=some r->r.length=l.length/\∀(k:Nat) (a:α) (b:β),l[k]?=some a->r[k]?=some b->f a=some b
 |[],r,h=>by
  rw[List.mapM_nil]at h;cases h;exact⟨rfl,fun k a b ha=>by cases ha⟩
 |x::l,r,h=>by
  rw[yr]at h;cases hx:f x with
  |none=>rw[hx]at h;cases h
  |some y=>
   rw[hx]at h;cases hl:l.mapM f with
   |none=>rw[hl]at h;cases h
   |some ys=>
    rw[hl]at h;cases h;obtain⟨h1,h2⟩:=IJ hl;refine⟨by rw[ki,ki,h1],fun k a b ha hb=>?_⟩;cases k with
    |zero=>cases ha;cases hb;exact hx
    |succ k=>exact h2 k a b ha hb
theorem Sk{E:Env}{μ:Mu}{ρ:bD}{σ:Store}{w:World}{nil:Bool}{b:gC}(hs:SR E μ ρ σ w)(hb:σ[l]?=some b)(hm:b.mode=1)(ho:b.obj=false)(ha:VR μ ρ (.sl nil l 0 none) v):
  (nil=true/\v=.slice none 0 0/\b.xs=[])\/ ∃rb cap cur,nil=false/\ρ l=some rb/\rb.ph=false/\v=.slice (some ⟨rb.b,0,none⟩) b.xs.length cap/\Has w rb.b cur b.ty (uq false b.sz)/\bJ μ b.sz b.xs cur/\b.xs.length<=cap/\cap*b.sz=cur.size:=by
 cases ha with
 |c hx=>cases hx with
  |d hd=>cases hd
  | @tB _ _ _ rb hl hn _ _=>
   have hbl:=hs.blk l rb b hl hb (by omega);exact .inl ⟨rfl,rfl,dy (by rw[<-hbl.n];exact hn)⟩
  | @sl _ _ _ rb a len cap hl hp ha hlen hoff hcap jE=>
   have hbl:=hs.blk l rb b hl hb (by omega);obtain⟨cur,hc⟩:=hbl.live hp;have eY:Has w rb.b cur b.ty (uq b.obj b.sz):=by
    rcases hc.at_ with⟨_,h2,_⟩|⟨h3,_⟩
    ·exact h2
    ·omega
   rw[ho]at eY;have ha':a=⟨rb.b,0,none⟩:=by
    grind
   subst ha';have DE:len=b.xs.length:=by rw[hlen,<-hbl.n];simp[qJ]
   subst DE;have hrow:=hc.mq ho;rw[gv]at jE;rw[hbl.sz]at hrow jE;exact .inr ⟨rb,cap,cur,rfl,hl,hp,rfl,eY,hrow,hcap,by rw[jE,hc.size]⟩
theorem Li{σ:Store}{r:R}{g:Nat->Nat->List (List AV)->List AV->Option (List (List AV))}(hU:MvS P f g)(h:Ah g σ K args=some r):
  ∃av σ',K av σ'=some r/\σ.length<=σ'.length/\
   ∀(E:Env) (μ:Mu) (ρ:bD) (vals:List Value) (w:World),vals.length=args.length->(∀(k:Nat) (a:AV) (v:Value),args[k]?=some a->vals[k]?=some v->VR μ ρ a v)->SR E μ ρ σ w->bu ρ σ.length σ'.length->
    Calls P f vals.toArray w fun e w'=> ∃v ρ',e=.returned v/\Grow false μ ρ σ.length w μ ρ' σ'.length w'/\VR μ ρ' av v/\SR E μ ρ' σ' w':=by
 unfold Ah at h;split at h
 ·rename_i nil l rest;split at h
  ·cases h
  ·rename_i b hb;obtain⟨hc,h⟩:=ah h;simp only[dd,pk]at hc;obtain⟨hm,ho⟩:=hc;have hm:=cj hm;split at h
   ·cases h
   ·rename_i ds hds;split at h
    ·cases h
    ·rename_i ys hys;obtain⟨hbig,h⟩:=ah h;have hbig:b.xs.length<=1000000:=tn hbig;refine⟨_,_,h,by simp,fun E μ ρ vals w hvl hv hs hf=>?_⟩;cases vals with
     |nil=>cases hvl
     |cons sv vals=>
      have hvl:vals.length=rest.length:=by simpa using hvl
      have ha:=hv 0 _ sv rfl rfl;have hv':∀(k:Nat) (a:AV) (v:Value),rest[k]?=some a->vals[k]?=some v->VR μ ρ a v:=fun k a v h1 h2=>hv (k+1) a v h1 h2;obtain⟨hdl,hda⟩:=IJ hds;have how:=Sk hs hb hm ho ha;have hfr:eF ρ σ:=hf.fresh (by simp);have ae8:V5 μ w b.ty b.sz b.xs sv:=by
       rcases how with⟨_,h2,h3⟩|⟨rb,cap,cur,_,_,_,h2,h3,h4,h5,h6⟩
       ·rw[h2];exact .nil h3
       ·rw[h2];exact .own h3 h4 h5 h6
      have acw:∀(k:Nat) (d:AV) (v:Value),ds[k]?=some d->vals[k]?=some v->MvA μ w (IE sv) d v:=fun k d v hd hvk=>by
       have hlt:k<rest.length:=by grind
       obtain⟨a,hak⟩:∃a,rest[k]?=some a:=⟨_,ao hlt⟩;have Sl:=hda k a d hak hd;have Gx:=hv' k a v hak hvk;unfold uA at Sl;split at Sl
       ·rename_i x;obtain⟨hok,Sl⟩:=ah Sl;cases Sl;cases Gx with
        |c hx=>cases hx with
         |d hd=>cases hd with
          |v _=>exact .v hok
        |sk=>simp[oN]at hok
       ·rename_i nl m;split at Sl
        ·rename_i b2 hb2;obtain⟨sY,Sl⟩:=ah Sl;cases Sl;simp only[dd,pk]at sY;obtain⟨⟨hm2,Gw⟩,hne⟩:=sY;have hm2:=cj hm2;have hne:m≠l:=fun e=>by simp_all
         rcases Sk hs hb2 hm2 Gw Gx with⟨e1,e2,e3⟩|⟨rb2,agX,Fu,e1,e2,e3,e4,e5,e6,e7,e8⟩
         ·rw[e1,e2,e3];exact .nil
         ·rw[e1,e4];refine .aq e5 e6 e7 e8 ?_;rcases how with⟨_,h2,_⟩|⟨rb,cap,cur,_,q1,q2,h2,_⟩
          ·rw[h2];intro e;cases e
          ·rw[h2];intro e;have e:rb.b=rb2.b:=ss e;exact hne (hs.inj m l rb2 rb b2 b e2 q1 hb2 hb hm2 hm e3 q2 e.symm)
        ·cases Sl
       ·cases Sl
      refine(hU b.ty b.sz b.xs ds ys hys hbig μ w sv vals hs.gj ae8 (by omega) acw).mono fun e w' he=>?_;obtain⟨v,rfl,hr⟩:=he;have hkl:=hs.kill l {b with mode:=0} rfl;have lH:∀(B:Nat),IE sv=some B->(E.D B\/E.w0.heap.size<=B)/\μ B=none/\∀m fc k1,ρ m=some fc->(σ.set l {b with mode:=0})[m]?=some k1->k1.mode=1->fc.ph=false->fc.b≠B:=fun B hB=>by
       rcases how with⟨_,h2,_⟩|⟨rb,cap,cur,_,q1,q2,h2,_⟩
       ·rw[h2]at hB;cases hB
       ·rw[h2]at hB;have hB:rb.b=B:=ss hB;subst hB;have hbl:=hs.blk l rb b q1 hb (by omega);obtain⟨c0,hc0⟩:=hbl.live q2;have yT:μ rb.b=none:=by
         rcases hc0.at_ with⟨_,_,h3⟩|⟨h3,_⟩
         all_goals grind
        refine⟨hs.lW l rb b q1 hb hm q2,yT,fun m fc k1 hm' hk1 iT qK he=>?_⟩;rcases dK hk1 with⟨_,e2⟩|⟨hne,hk1⟩
        ·subst e2;cases iT
        ·exact hne (hs.inj m l fc rb k1 b hm' q1 hk1 hb iT hm qK q2 he)
      have hmv:SR E μ ρ (σ.set l {b with mode:=0}) w':=hkl.moved hr.os hr.tape hr.output hr.size fun x hx=>by
       by_cases e:IE sv=some x
       ·exact .inr (lH x e)
       ·exact .inl (hr.keep x hx e)
      have qT:(σ.set l {b with mode:=0}).length=σ.length:=by simp
      have He:eF ρ (σ.set l {b with mode:=0}):=by unfold eF;rw[qT];exact hfr
      rcases hr.ret with⟨q1,q2,q3⟩|⟨B,cap,cur,q1,q2,q3,q4,q5,q6,q7⟩
      ·have hnil:nil=true:=by
        rcases how with⟨e1,_⟩|⟨rb,c,cu,_,_,_,h2,_⟩
        ·exact e1
        ·rw[h2]at q3;cases q3
       obtain⟨_,hs'⟩:=hmv.cy He b.ty b.sz;rw[qT]at hs';rw[q1,q2,hnil];exact⟨_,_,rfl,ot hfr _ _ _ w' (fun e=>by cases e) (fun e=>by cases e) hr.size,.c (.tB (bK ρ σ.length ⟨0,0,b.sz,0,true⟩) rfl rfl (fun n hn=>by cases hn)),hs'⟩
      ·have acx:(nil&&ys.isEmpty)=false:=by
        rcases how with⟨e1,h2,_⟩|⟨rb,c,cu,e1,_⟩
        ·have:=q3 (by rw[h2];rfl);grind
        ·rw[e1];rfl
       have hBf:(E.D B\/E.w0.heap.size<=B)/\μ B=none/\∀m fc k1,ρ m=some fc->(σ.set l {b with mode:=0})[m]?=some k1->k1.mode=1->fc.ph=false->fc.b≠B:=by
        rcases q2 with e|e
        ·exact lH B e
        ·refine⟨.inr (iS hs.base.size e),?_,fun m fc k1 h1 h2 h3 h4 h5=>?_⟩
         ·cases yT:μ B with
          |none=>rfl
          |some o=>
           have:=(gd.1 (hs.gj B o yT)).1;omega
         ·have:=hkl.wE h1 h2 h3 h4;omega
       have h3:=hmv.add He ⟨1,b.ty,b.sz,false,ys⟩ ⟨B,cur.size,b.sz,ys.length,false⟩ ⟨rfl,rfl,by show ys.length*b.sz<=cur.size;rw[<-q7];exact fi _ q6,fun e=>(by cases e),fun e=>(by cases e),fun _=>⟨cur,rfl,fun _=>q5,fun e=>(by cases e),.inl ⟨rfl,q4,hBf.2.1⟩⟩⟩
        fun _ _=>⟨hBf.1,hBf.2.2⟩
       rw[qT]at h3;rw[q1,acx];refine⟨_,_,rfl,ot hfr _ _ _ w' (fun e=>by cases e) (fun e=>by cases e) hr.size,.c (.sl (bK ρ σ.length ⟨B,cur.size,b.sz,ys.length,false⟩) rfl (.inl (by simp)) (by simp[qJ]) (by simp) q6 (by simpa using q7)),h3.2⟩
 ·cases h
theorem IK{σ:Store}{r:R}(hU:Sj P C){u:Upd}(hg:C.CM f=some u)(h:Rg u σ K args=some r):
  ∃av σ',K av σ'=some r/\σ.length<=σ'.length/\
   ∀(E:Env) (μ:Mu) (ρ:bD) (vals:List Value) (w:World),vals.length=args.length->(∀(k:Nat) (a:AV) (v:Value),args[k]?=some a->vals[k]?=some v->VR μ ρ a v)->SR E μ ρ σ w->bu ρ σ.length σ'.length->
    Calls P f vals.toArray w fun e w'=> ∃v ρ',e=.returned v/\Grow false μ ρ σ.length w μ ρ' σ'.length w'/\VR μ ρ' av v/\SR E μ ρ' σ' w':=by
 have hU:=hU.2 f u hg;cases u with
 |row g=>
  obtain⟨av,σ',k1,k2,k3⟩:=II hU h;exact⟨av,σ',k1,k2,fun E μ ρ vals w h1 h2 h3 _=>(k3 E μ ρ vals w h1 h2 h3).mono fun e w' ⟨v,a,b,c,d⟩=>⟨v,ρ,a,b,c,d⟩⟩
 |mv g=>exact Li hU h
theorem V6{μ:Mu}{ρ:bD}(t:TypeId)(h:VR μ ρ a v):VR μ ρ (Rh P t a) v:=by
 cases a with
 |aq b s xs=>
  show VR μ ρ (bif Nat.beq s 0 then _ else _) v;cases Nat.beq s 0 with
  |false=>exact h
  |true=>
   simp only[me];split
   ·split
    ·cases h with
     |c h=>
      cases h with
      |d h=>
       cases h with
       |aq vals hnil hA hc hsz hcell hv=>
        exact .c (.d (.aq (xs:=[]) vals hnil hA hc (fun e he=>by cases he) (fun a ha k j hk=>absurd hk (B4 _)) (fun k e j u hk=>by simp at hk)))
    ·exact h
   ·exact h
 |_=>exact h
theorem Fv{μ:Mu}{ρ:bD}:∀(ts:List TypeId) (as:List AV) (vals:List Value),vals.length=as.length->(∀(k:Nat) (a:AV) (v:Value),as[k]?=some a->vals[k]?=some v->VR μ ρ a v)->
  vals.length=(sG P ts as).length/\(∀(k:Nat) (a:AV) (v:Value),(sG P ts as)[k]?=some a->vals[k]?=some v->VR μ ρ a v)
 |[],[],vals,hl,h=>⟨hl,h⟩
 |[],_::_,vals,hl,h=>⟨hl,h⟩
 |_::_,[],vals,hl,h=>⟨hl,h⟩
 |t::ts,a::as,[],hl,h=>by simp at hl
 |t::ts,a::as,v::vals,hl,h=>by
  obtain⟨h1,h2⟩:=Fv ts as vals (by simpa using hl) fun k a v ha hv=>h (k+1) a v (by simpa using ha) (by simpa using hv);refine⟨by show vals.length+1=(sG P ts as).length+1;rw[h1],fun k a' v' ha hv=>?_⟩;cases k with
  |zero=>
   have e1:Rh P t a=a':=by simpa [sG]using ha
   grind [V6]
  |succ k=>exact h2 k a' v' (by simpa [sG]using ha) (by simpa using hv)
theorem vF(hU:Sj P C)(HS:yx P call)(HI:aab P inl):gZ P C call inl:=by
 refine⟨hU.1,?_⟩;intro R σ K r f args h;unfold gJ at h;split at h
 ·cases h
 ·rename_i fn hfn;obtain⟨hb,h⟩:=aU h;simp only[km]at hb;split at h
  ·rename_i g hg;obtain⟨av,σ',k1,k2,k3⟩:=IK hU hg h;have hq:kR P C f=false:=by simp only[kR,hfn,xM,hg,Option.isSome_some,Bool.true_or,KB,xi]
   refine⟨av,σ',k1,k2,fun e=>(by rw[hq]at e;cases e),⟨fn,hfn,hb⟩,fun E μ ρ vals w hvl hv hs hf _=>?_⟩;refine(k3 E μ ρ vals w hvl hv hs hf).mono fun e w' he=>?_;grind
  rcases aM h with⟨Sc,h⟩|⟨Sc,h⟩
  ·obtain⟨fn',vs,σ',e1,e2,e3,e4,e5⟩:=HI R f args σ _ r h;rw[hfn]at e1;injection e1 with e1;subst e1;have hq:kR P C f=false:=by simp only[kR,hfn,Sc,Bool.true_or,xi]
   refine⟨_,σ',e2,e3,fun e=>(by rw[hq]at e;cases e),⟨fn,hfn,hb⟩,fun E μ ρ vals w hvl hv hs _ hd=>?_⟩;refine(e5 E μ ρ vals w ⟨hvl,hv⟩ hs (hd hq (by simp only[Ai, *]))).mono fun e w' he=>?_;grind [Sb]
  ·obtain⟨hro,h⟩:=ah h;split at h
   ·cases h
   ·rename_i bs σ1 roots V3;obtain⟨Np,h⟩:=aU h;obtain⟨hcl,h⟩:=aU h;obtain⟨av,σ',k1,k2,k3,k4⟩:=Lg HS hfn Sc hro V3 (by grind) hcl h;exact⟨av,σ',k1,k2,k3,⟨fn,hfn,hb⟩,fun E μ ρ vals w hvl hv hs hf _=>k4 E μ ρ vals w (Fv _ args vals hvl hv).1 (Fv _ args vals hvl hv).2 hs hf⟩
theorem BB(dw:P.follows .mixedOrders=true)(hU:Sj P C)(HS:yx P call):∀k,aab P (iR P C call k)
 |0=>fun R f args σ K r h=>by cases h
 |k+1=>C9 dw (vF hU HS (BB dw hU HS k))
def nX(P:Program)(C:gD):Prop:=(yx P fun f as=>fC C f as none)/\Sj P C
theorem wZ(h:∀f,C.ext f=none)(hu:∀f,C.CM f=none:=by intro _;rfl)(hp:∀f,C.pr f=none:=by intro _;rfl):nX P C:=⟨fun f bs rs e=>(by
 simp only[fC,h]at e;cases e),wY hu hp⟩
theorem Pl(hx:nX P C)(HS:yx P call):yx P fun f as=>fC C f as (call f as):=fun f bs rs e=>by
 cases h:C.ext f with
 |none=>simp only[fC,h]at e;exact HS f bs rs e
 |some g=>exact hx.1 f bs rs (by simp only[fC,h]at e⊢;exact e)
theorem oA(dw:P.follows .mixedOrders=true)(hx:nX P C):∀n,yx P (uF P C n)
 |0=>fun f bs rs h=>by cases h
 |n+1=>Pl hx (Ft dw (vF hx.2 (oA dw hx n) (BB dw hx.2 (oA dw hx n) 5)) n)
theorem V7{C':gD}(dw:P.follows .mixedOrders=true)(hx:nX P C')(h:∀f g as rs,C.ext f=some g->g as=some rs->∃n,uF P C' n f as=some rs)(hu:∀f,C.CM f=none:=by intro _;rfl)(hp:∀f,C.pr f=none:=by intro _;rfl):nX P C:=⟨fun f bs rs e=>(by
 cases hg:C.ext f with
 |none=>simp only[fC,hg]at e;cases e
 |some g=>
  simp only[fC,hg]at e;obtain⟨n,hn⟩:=h f g bs rs hg e;exact oA dw hx n f bs rs hn),wY hu hp⟩
end
end
