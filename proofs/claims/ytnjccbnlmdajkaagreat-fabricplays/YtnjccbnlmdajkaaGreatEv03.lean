/- Operations that look at their operands alone. -/
import Derived.Laws.StructEq
import Derived.ChangeKeysEq
import Derived.Test.YtnjccbnlmdajkaaGreatEv02
set_option linter.all false
namespace Go.Ev
variable{t:TypeId}{a:AV}{op:BinOp}{α:Type}{x:Option α}{v:Value}
section
variable{P:Program}{μ:Mu}{ρ:bD}
theorem VR.dB{x y:Value}(h:VR μ ρ (.v x) y):y=x:=by
 cases h with
 |c hx=>cases hx with|d hd=>cases hd;rfl
 |sk=>rfl
theorem VR.ab5{x:Value}(h:oN (.v x)=true):VR μ ρ (.v x) x:=.c (.d (.v h))
theorem VR.int(k:IntKind)(n:Int):VR μ ρ (.v (.int k n)) (.int k n):=.c (.d (.v rfl))
theorem VR.bool(b:Bool):VR μ ρ (.v (.bool b)) (.bool b):=.c (.d (.v rfl))
theorem VR.str(s:ByteArray):VR μ ρ (.v (.string s)) (.string s):=.c (.d (.v rfl))
theorem Ro(h:oN (.v v)=true):CR μ ρ (mT v) v:=by
 unfold mT;split
 ·exact .d (.aq (xs:=[]) (fun _ _=>undef) rfl (fun _=>⟨rfl,rfl⟩) (dk 0) (fun e he=>by cases he) (fun a ha=>by cases ha) (fun i e j u he=>by simp at he))
 ·exact .d (.v h)
theorem OG(v:Value):VR μ ρ (ofV v) v:=by
 unfold ofV;split
 ·rename_i cs;cases hc:cs.toList.all fun c=>oN (.v c)with
  |false=>exact .un
  |true=>
   simp only[cond];have:(Value.agg cs)=.agg cs.toList.toArray:=by simp
   rw[this];refine .agg ⟨by simp,fun k u v hu hv=>?_⟩;simp only[et]at hu;grind [Option.some.injEq,Ro,List.all_eq_true,List.mem_of_getElem?]
 ·exact .un
 ·rename_i x h1 h2;exact .c (Ro (by cases v<;>first|rfl|simp_all|simp_all))
theorem Dv{d:TypeDesc}(h:P.underlying t=some d)(w:World):(Go.isAgg t).run P w=.ok (eO P t) w:=by
 simp only[Go.isAgg,fy,gg h,eh,eO,h];cases d<;>rfl
theorem dg(h:(P.info? t).isSome=true)(w:World):(sizeOf t).run P w=.ok (P.cellsOf t) w:=by
 cases hi:P.info? t with
 |none=>simp_all
 |some i=>simp[sizeOf,typeInfo,hi,Program.cellsOf]
theorem gQ(h:Kq P t=true):(∃d,P.underlying t=some d)/\(uo P t).length=P.cellsOf t/\(eO P t=true\/P.cellsOf t=1)/\(P.info? t).isSome=true:=by
 simp only[Kq,dd,pC]at h;simp_all [Option.isSome_iff_exists,cj]
theorem fe.sub{cs:List AV}{vs:List Value}(h:fe μ ρ cs vs)(o n:Nat):fe μ ρ ((cs.drop o).take n) ((vs.drop o).take n):=by
 refine⟨by simp[h.1],fun k u v hu hv=>?_⟩;simp only[oa]at hu hv;split at hu
 ·rename_i hk;simp only[hk,xt,se]at hu hv;exact h.2 _ u v hu hv
 ·cases hu
theorem wI(ht:Kq P t=true){cs:List AV}{vs:List Value}(h:fe μ ρ cs vs)(hl:cs.length=P.cellsOf t):
  VR μ ρ (Ym (eO P t) cs) (bif eO P t then .agg vs.toArray else vs.headD undef):=by
 cases hc:eO P t with
 |true=>exact .agg h
 |false=>
  have h1:P.cellsOf t=1:=by
   rcases(gQ ht).2.2.1 with e|e
   all_goals simp_all
  match cs,vs,h,hl with
  |[c],[v],h,_=>exact .c (h.2 0 c v rfl rfl)
  |[],_,_,hl=>simp_all
  |_::_::_,_,_,hl=>simp_all
  |[c],[],h,_=>exact absurd h.1 (by simp)
  |[c],_::_::_,h,_=>exact absurd h.1 (by simp)
theorem mr(ht:Kq P t=true)(cs:List Value)(off:Nat)(h:off+P.cellsOf t<=cs.length)(w:World):
  (part t cs.toArray off).run P w=.ok (bif eO P t then .agg ((cs.drop off).take (P.cellsOf t)).toArray else((cs.drop off).take (P.cellsOf t)).headD undef) w:=by
 obtain⟨⟨d,hd⟩,_,h2,h3⟩:=gQ ht;simp only[part,fy,Dv hd,eh];cases hc:eO P t with
 |true=>
  simp only[xt,fy,dg h3,eh,fv,cond];simp_all
 |false=>
  rcases h2 with e|e
  ·simp_all
  rw[e]at h⊢;simp only[tx,tm,cond,vy];grind [List.getElem?_eq_getElem,Sem.run_pure,List.head?_take,List.head?_drop]
theorem GS{x y:Operand}{a b:Value}(w:World)(h:∀c,a≠ .agg c)(h':a≠ .nilIface):(eqGuard op t x y a b).run P w=.ok () w:=by
 unfold eqGuard;simp_all
theorem Ar(b:Bool)(x y:AV):MQ b x y=cond b x y:=by
 unfold MQ;grind
theorem dY{i q:Nat}(h:i≠q):Nat.beq i q=false:=by
 grind [Nat.eq_of_beq_eq_true]
theorem Au(i:Nat):∀(cs:List AV) (q:Nat),q<=i->i<q+cs.length->GF i q cs=cs.getD (i-q) .un
 |[],q,h,h'=>absurd h' (by simp;omega)
 |[c],q,h,h'=>by
  have:i-q=0:=by simp at h';omega
  rw[this];rfl
 |c::d::cs,q,h,h'=>by
  simp only[GF,Ar];by_cases e:i=q
  ·subst e;simp[Hc]
  ·rw[dY e];simp only[cond];rw[Au i (d::cs) (q+1) (by omega) (by simp at h'⊢;omega),show i-q=(i-(q+1))+1 by omega];rfl
theorem GU(i:Nat)(p:AV):∀(cs:List AV) (q:Nat),i<q->zY i p q cs=cs
 |[],_,_=>rfl
 |c::cs,q,h=>by
  simp only[zY,Ar];rw[dY (by omega),GU i p cs (q+1) (by omega)];rfl
theorem GV(i:Nat)(p:AV):∀(cs:List AV) (q:Nat),q<=i->i<q+cs.length->zY i p q cs=cs.set (i-q) p
 |[],q,h,h'=>absurd h' (by simp;omega)
 |c::cs,q,h,h'=>by
  simp only[zY,Ar];by_cases e:i=q
  ·subst e;simp[Hc,GU i p cs (i+1) (by omega)]
  ·rw[dY e];simp only[cond];rw[GV i p cs (q+1) (by omega) (by simp at h'⊢;omega),show i-q=(i-(q+1))+1 by omega];rfl
theorem oU(t:TypeId)(x y:Value):Op.equal t x y=Op.equalIn (9999+1) t x y:=rfl
theorem run_equal_bool(hu:P.underlying t=some .bool)(a b:Bool)(w:World):(Op.equal t (.bool a) (.bool b)).run P w=.ok (a==b) w:=by
 rw[oU];generalize 9999=d;simp only[Op.equalIn,fy,gg hu,eh,fv]
theorem dS{e:TypeId}(hu:P.underlying t=some (.pointer e))(a:Option Addr)(w:World):
  (Op.equal t (.pointer a) (.pointer none)).run P w=.ok a.isNone w/\(Op.equal t (.pointer none) (.pointer a)).run P w=.ok a.isNone w:=by
 simp only[oU];generalize 9999=d;cases a<;>simp only[Op.equalIn,fy,gg hu,eh,fv,Option.isNone,and_self]
theorem bT{e:TypeId}(hu:P.underlying t=some (.slice e))(a:Option Addr)(n c:Nat)(w:World):
  (Op.equal t (.slice a n c) (.slice none 0 0)).run P w=.ok a.isNone w:=by
 simp only[oU];generalize 9999=d;cases a<;>simp only[Op.equalIn,fy,gg hu,eh,fv,Option.isNone]
theorem iX{ps rs:Array TypeId}{vv:Bool}(hu:P.underlying t=some (.func ps rs vv))(f:Fn)(x y:Array Value)(w:World):
  (Op.equal t (.func f x y) .nilFunc).run P w=.ok false w:=by
 simp only[oU];generalize 9999=d;simp only[Op.equalIn,fy,gg hu,eh,fv]
theorem KF{b:AV}{x:Bool}(h:ZM P t a b=some x){va vb:Value}(ha:VR μ ρ a va)(hb:VR μ ρ b vb)(w:World):
  (binOp .eql t va vb).run P w=.ok (.bool x) w/\(binOp .neq t va vb).run P w=.ok (.bool (!x)) w/\(∀c,va≠ .agg c)/\va≠ .nilIface:=by
 have fin:∀{y:Bool},(Op.equal t va vb).run P w=.ok y w->y=x->(binOp .eql t va vb=(do pure (.bool (<-Op.equal t va vb)):Sem Value))->(binOp .neq t va vb=(do pure (.bool (!(<-Op.equal t va vb))):Sem Value))->
   (binOp .eql t va vb).run P w=.ok (.bool x) w/\(binOp .neq t va vb).run P w=.ok (.bool (!x)) w:=fun{y} h1 h2 h3 h4=>by
  simp_all
 unfold ZM at h;split at h
 ·rename_i k n k' m;have:=ha.dB;subst this;have:=hb.dB;subst this;split at h
  ·rename_i e;subst e;injection h with h;subst h;simp[binOp,Op.intCmp,bne]
  ·cases h
 ·have:=ha.dB;subst this;have:=hb.dB;subst this;injection h with h;subst h;simp[binOp,Op.stringOp]
 ·split at h
  ·rename_i hu;split at h
   ·have:=ha.dB;subst this;have:=hb.dB;subst this;injection h with h;exact⟨(fin (run_equal_bool hu _ _ w) h rfl rfl).1,(fin (run_equal_bool hu _ _ w) h rfl rfl).2,fun c e=>(by cases e),fun e=>(by cases e)⟩
   ·cases h
  ·rename_i e hu;split at h
   ·have:=ha.dB;subst this;have:=hb.dB;subst this;injection h with h;exact⟨(fin (dS hu none w).1 h rfl rfl).1,(fin (dS hu none w).1 h rfl rfl).2,fun c e=>(by cases e),fun e=>(by cases e)⟩
   ·have:=hb.dB;subst this;injection h with h;cases ha with
    |c hx=>cases hx with
     |d hd=>cases hd
     |ptr=>exact⟨(fin (dS hu _ w).1 h rfl rfl).1,(fin (dS hu _ w).1 h rfl rfl).2,fun c e=>(by cases e),fun e=>(by cases e)⟩
   ·have:=ha.dB;subst this;injection h with h;cases hb with
    |c hx=>cases hx with
     |d hd=>cases hd
     |ptr=>exact⟨(fin (dS hu _ w).2 h rfl rfl).1,(fin (dS hu _ w).2 h rfl rfl).2,fun c e=>(by cases e),fun e=>(by cases e)⟩
   ·have:=hb.dB;subst this;injection h with h;cases ha with
    |c hx=>cases hx with
     |d hd=>cases hd with
      |ep=>exact⟨(fin (dS hu _ w).1 h rfl rfl).1,(fin (dS hu _ w).1 h rfl rfl).2,fun c e=>(by cases e),fun e=>(by cases e)⟩
   ·cases h
  ·rename_i e hu;have hnil:∀{sz:Nat} {vb:Value},VR μ ρ (.aq true sz []) vb->vb=.slice none 0 0:=fun hv=>by
    cases hv with
    |c hx=>cases hx with
     |d hd=>cases hd with
      | @aq _ _ _ A c vals hnil hA _ _ _ _=>
       simp_all
   split at h
   ·have:=hnil hb;subst this;injection h with h;cases ha with
    |c hx=>cases hx with
     |d hd=>cases hd
     |sl=>exact⟨(fin (bT hu _ _ _ w) h rfl rfl).1,(fin (bT hu _ _ _ w) h rfl rfl).2,fun c e=>(by cases e),fun e=>(by cases e)⟩
     |tB=>exact⟨(fin (bT hu _ _ _ w) h rfl rfl).1,(fin (bT hu _ _ _ w) h rfl rfl).2,fun c e=>(by cases e),fun e=>(by cases e)⟩
   ·have:=hnil hb;subst this;injection h with h;cases ha with
    |c hx=>cases hx with
     |d hd=>cases hd with
      | @aq _ _ _ A c vals hnil hA _ _ _ _=>
       exact⟨(fin (bT hu _ _ _ w) (hnil.symm.trans h) rfl rfl).1,(fin (bT hu _ _ _ w) (hnil.symm.trans h) rfl rfl).2,fun c e=>(by cases e),fun e=>(by cases e)⟩
   ·cases h
  ·rename_i hu;split at h
   ·have:=hb.dB;subst this;injection h with h;cases ha with
    |c hx=>cases hx with
     |d hd=>cases hd with
      |eN=>exact⟨(fin (iX hu _ _ _ w) h rfl rfl).1,(fin (iX hu _ _ _ w) h rfl rfl).2,fun c e=>(by cases e),fun e=>(by cases e)⟩
     |eN=>exact⟨(fin (iX hu _ _ _ w) h rfl rfl).1,(fin (iX hu _ _ _ w) h rfl rfl).2,fun c e=>(by cases e),fun e=>(by cases e)⟩
   ·cases h
  ·cases h
theorem tD{x y:Operand}{a b:Value}{w:World}(h:∀c,a≠ .agg c)(h':a≠ .nilIface)(hr:(binOp op t a b).run P w=.ok v w):
  (do eqGuard op t x y a b;binOp op t a b:Sem Value).run P w=.ok v w:=by
 simp_all [fy,GS,eh]
def VH(agg:Bool)(vs:List Value):Value:=bif agg then .agg vs.toArray else vs.headD undef
theorem Dw{k:CK}{ks:List CK}{as bs:List AV}{r:Bool}(h:jo (k::ks) as bs=some r):
  ∃x xs y ys a b,as=x::xs/\bs=y::ys/\Kx k x y=some a/\jo ks xs ys=some b/\r=(a&&b):=by
 cases as with
 |nil=>cases ks<;>cases bs<;>simp[jo]at h
 |cons x xs=>
  cases bs with
  |nil=>cases ks<;>cases xs<;>simp[jo]at h
  |cons y ys=>
   refine⟨x,xs,y,ys,?_⟩;cases ks with
   |nil=>
    cases xs with
    |nil=>
     cases ys with
     |nil=>exact⟨r,true,rfl,rfl,h,rfl,by simp⟩
     |cons y' ys=>simp only[jo]at h;simp_all
    |cons x' xs=>simp only[jo]at h;simp_all
   |cons k' ks=>
    simp only[jo]at h;grind
theorem Av:∀{k1 k2:List CK} {as bs:List AV} {r:Bool},jo (k1++k2) as bs=some r->
  ∃r1 r2,jo k1 (as.take k1.length) (bs.take k1.length)=some r1/\jo k2 (as.drop k1.length) (bs.drop k1.length)=some r2/\r=(r1&&r2)
 |[],k2,as,bs,r,h=>⟨true,r,by simp[jo],by simpa using h,by simp⟩
 |k::k1,k2,as,bs,r,h=>by
  obtain⟨x,xs,y,ys,a,b,rfl,rfl,h1,h2,h3⟩:=Dw (ks:=k1++k2) (by simpa using h);obtain⟨r1,r2,h4,h5,h6⟩:=Av h2;refine⟨a&&r1,r2,?_,by simpa using h5,by rw[h3,h6,Bool.and_assoc]⟩;simp only[ki,List.take_succ_cons];generalize hx:xs.take k1.length=xs' at h4;generalize hy:ys.take k1.length=ys' at h4;cases k1 with
  |nil=>
   cases xs' with
   |nil=>
    cases ys' with
    |nil=>
     simp[jo]at h4;subst h4;simpa [jo]using h1
    |cons y' ys'=>simp[jo]at h4
   |cons x' xs'=>cases ys'<;>simp[jo]at h4
  |cons k' k1=>simp only[jo,h1,h4]
theorem uI{tot:Nat}:∀{l:List Field} {o:Nat},uy P tot o l=true->o+(l.map fun f=>P.cellsOf f.type).sum=tot
 |[],o,h=>by simpa using cj h
 |f::l,o,h=>by
  simp only[uy,dd]at h;have:=uI h.2;simp only[B5,ahg];omega
theorem zz:∀(n:Nat) (t:TypeId),Vy P n t=true->(Vx P n t).length=P.cellsOf t
 |0,_,h=>by cases h
 |n+1,t,h=>by
  rw[Vy]at h;rw[Vx];cases hu:P.underlying t with
  |none=>rw[hu]at h;cases h
  |some d=>
   rw[hu]at h;cases d with
   |bool=>exact(cj h).symm
   |int k=>exact(cj h).symm
   |string=>exact(cj h).symm
   |array len e=>
    simp only[dd]at h;simp only[List.length_flatten,List.map_replicate,zz n e h.1.2,List.sum_replicate_nat];exact cj h.1.1
   |struct fs=>
    simp only[dd,ka]at h;simp only[List.length_flatMap];rw[<-uI h.1.1,gv]
    congr 1
    refine List.map_congr_left fun f hf=>?_;exact zz n f.type (h.1.2 f hf).1.2
   |_=>cases h
theorem tE(w:World):∀(n d:Nat) (t:TypeId) (as bs:List AV) (vs us:List Value) (r:Bool),Vy P n t=true->fe μ ρ as vs->fe μ ρ bs us->as.length=P.cellsOf t->bs.length=P.cellsOf t->jo (Vx P n t) as bs=some r->
  (Op.equalIn (d+n) t (VH (eO P t) vs) (VH (eO P t) us)).run P w=.ok r w
 |0,_,_,_,_,_,_,_,h,_,_,_,_,_=>by cases h
 |n+1,d,t,as,bs,vs,us,r,h,hv,hu',hal,hbl,he=>by
  rw[Vy]at h;rw[Vx]at he;have one:∀{k:CK},jo [k] as bs=some r->∃a b v u,as=[a]/\bs=[b]/\vs=[v]/\us=[u]/\CR μ ρ a v/\CR μ ρ b u/\Kx k a b=some r:=fun{k} he=>by
   obtain⟨x,xs,y,ys,a,b,rfl,rfl,h1,h2,h3⟩:=Dw he;have hxs:xs=[]/\ys=[]/\b=true:=by
    cases xs with
    |nil=>cases ys with
     |nil=>simp[jo]at h2;simp_all
     |cons y' ys=>simp[jo]at h2
    |cons x' xs=>cases ys<;>simp[jo]at h2
   obtain⟨rfl,rfl,rfl⟩:=hxs;obtain⟨v,rfl⟩:=qS.1 hv.1;obtain⟨u,rfl⟩:=qS.1 hu'.1;exact⟨x,y,v,u,rfl,rfl,rfl,rfl,hv.2 0 x v rfl rfl,hu'.2 0 y u rfl rfl,by simp_all⟩
  have hd:∀{x:Value} {v:Value},CR μ ρ (.v x) v->v=x:=fun h=>by cases h with|d h=>cases h;rfl
  cases hu:P.underlying t with
  |none=>simp_all
  |some k=>
   rw[hu]at h he;cases k with
   |bool=>
    obtain⟨a,b,v,u,rfl,rfl,rfl,rfl,ha,hb,h1⟩:=one he;rw[show eO P t=false by unfold eO;rw[hu]];unfold Kx at h1;split at h1
    ·simp_all
    ·have:=hd ha;subst this;have:=hd hb;subst this;injection h1 with h1;subst h1;exact run_equalIn_bool' w (d+n) t _ _ hu
    all_goals simp_all
   |int q=>
    obtain⟨a,b,v,u,rfl,rfl,rfl,rfl,ha,hb,h1⟩:=one he;rw[show eO P t=false by unfold eO;rw[hu]];unfold Kx at h1;split at h1
    ·have:=hd ha;subst this;have:=hd hb;subst this;split at h1
     ·rename_i e;subst e;injection h1 with h1;subst h1;exact run_equalIn_int w (d+n) t _ _ _ _ hu
     ·cases h1
    all_goals simp_all
   |string=>
    obtain⟨a,b,v,u,rfl,rfl,rfl,rfl,ha,hb,h1⟩:=one he;rw[show eO P t=false by unfold eO;rw[hu]];unfold Kx at h1;split at h1
    ·simp_all
    ·simp_all
    ·have:=hd ha;subst this;have:=hd hb;subst this;injection h1 with h1;subst h1;exact run_equalIn_string w (d+n) t _ _ hu
    ·cases h1
   |array len e=>
    simp only[dd]at h;obtain⟨⟨hsz,hte⟩,KG⟩:=h;have hsz:=cj hsz;have hlen:=zz n e hte;obtain⟨i,hi⟩:=Option.isSome_iff_exists.1 (gQ KG).2.2.2;rw[show eO P t=true by unfold eO;rw[hu]];show(Op.equalIn (d+n+1) t (.agg vs.toArray) (.agg us.toArray)).run P w=_;rw[run_equalIn_array w (d+n) vs.toArray us.toArray hu hi];have items:∀(m k:Nat) (r:Bool),(k+m)*P.cellsOf e<=vs.length->(k+m)*P.cellsOf e<=us.length->jo ((List.replicate m (Vx P n e)).flatten) ((as.drop (k*P.cellsOf e)).take (m*P.cellsOf e)) ((bs.drop (k*P.cellsOf e)).take (m*P.cellsOf e))=some r->
      (Op.eqItems (d+n) e (P.cellsOf e) vs.toArray us.toArray (List.range' k m)).run P w=.ok r w:=by
     intro m
     induction m with
     |zero=>
      intro k r _ _ he;simp[jo]at he;subst he;simp[Op.eqItems]
     |succ m ih=>
      intro k r hl1 hl2 he;rw[IH,GC]at he;obtain⟨r1,r2,h1,h2,h3⟩:=Av he;rw[hlen]at h1 h2;have hmul:(m+1)*P.cellsOf e=P.cellsOf e+m*P.cellsOf e:=by grind
      have hk1:(k+1)*P.cellsOf e=k*P.cellsOf e+P.cellsOf e:=by grind
      have hkm:(k+(m+1))*P.cellsOf e=k*P.cellsOf e+(P.cellsOf e+m*P.cellsOf e):=by grind
      rw[List.take_take,hmul,B3 (ahj _ _),List.take_take,B3 (ahj _ _)]at h1;rw[hmul,List.drop_take,List.drop_take,yk,yk,Nat.add_sub_cancel_left,<-hk1]at h2;have p1:=mr KG vs (k*P.cellsOf e) (by omega) w;have p2:=mr KG us (k*P.cellsOf e) (by omega) w;have Dx:=hv.1;have hau:=hu'.1;have q:=tE w n d e _ _ _ _ r1 hte (hv.sub (k*P.cellsOf e) (P.cellsOf e)) (hu'.sub (k*P.cellsOf e) (P.cellsOf e)) (by simp;omega) (by simp;omega) h1;rw[List.range'_succ,Op.eqItems];simp only[fy,p1,p2,eh];simp only[VH]at q;rw[q];simp only[eh];subst h3;cases r1 with
      |true=>
       grind
      |false=>simp
    have hvl:=hv.1;have hul:=hu'.1;have:=items len 0 r (by simp_all) (by simp_all) (by
     grind)
    rwa [<-List.range_eq_range']at this
   |struct fs=>
    simp only[dd,ka,pk]at h;obtain⟨⟨hoff,hall⟩,hst⟩:=h;rw[show eO P t=true by unfold eO;rw[hu]];show(Op.equalIn (d+n+1) t (.agg vs.toArray) (.agg us.toArray)).run P w=_;have hfs:P.fieldsOf t=fs:=by simp[Program.fieldsOf,hu]
    rw[run_equalIn_struct w (d+n) t vs.toArray us.toArray (by grind) hst,hfs];have hvl:=hv.1;have hul:=hu'.1;have fields : ∀ (l : List Field) (o : Nat) (r : Bool), (∀ f ∈ l, ((f.name != "_") = true /\ Vy P n f.type = true) /\ Kq P f.type = true) -> uy P (P.cellsOf t) o l = true -> jo (l.flatMap fun f => Vx P n f.type) (as.drop o) (bs.drop o) = some r ->
      (Op.eqFields (d+n) vs.toArray us.toArray l).run P w=.ok r w:=by
     intro l
     induction l with
     |nil=>
      intro o r _ hof he;have:=uI hof;simp at this;rw[OF (by omega),OF (by omega)]at he;simp[jo]at he;subst he;simp[Op.eqFields]
     |cons f l ih=>
      intro o r hall hof he;obtain⟨⟨hn,hte⟩,KG⟩:=hall f (by simp);have hn : f.name ≠ "_" := by simpa using hn
      have htot:=uI hof;simp only[B5,ahg]at htot;simp only[uy,dd]at hof;have hoo:=cj hof.1;have hlen:=zz n f.type hte;rw[Ax]at he;obtain⟨r1,r2,h1,h2,h3⟩:=Av he;rw[hlen]at h1 h2;rw[yk,yk]at h2;have p1:=mr KG vs f.offset (by omega) w;have p2:=mr KG us f.offset (by omega) w;rw[hoo]at p1 p2;have q:=tE w n d f.type _ _ _ _ r1 hte (hv.sub o (P.cellsOf f.type)) (hu'.sub o (P.cellsOf f.type)) (by simp;omega) (by simp;omega) h1;simp only[VH]at q;simp only[Op.eqFields,hn,M1,GO,xt,fy,hoo,p1,p2,eh,q];subst h3;cases r1 with
      |true=>
       grind
      |false=>simp
    grind
   |_=>cases h
theorem xR{b:AV}{x:Bool}(h:MS P t a b=some x){va vb:Value}(ha:VR μ ρ a va)(hb:VR μ ρ b vb)(x' y':Operand)(w:World):
  (do eqGuard .eql t x' y' va vb;binOp .eql t va vb:Sem Value).run P w=.ok (.bool x) w/\(do eqGuard .neq t x' y' va vb;binOp .neq t va vb:Sem Value).run P w=.ok (.bool (!x)) w:=by
 unfold MS at h;split at h
 ·rename_i xs ys;unfold Yn at h;obtain⟨h1,h2⟩:(eO P t&&Vy P 12 t&& !(P.eqGuardType P.depth t)&&Nat.beq xs.length (P.cellsOf t)&&Nat.beq ys.length (P.cellsOf t))=true/\jo (uo P t) xs ys=some x:=by
   grind
  simp only[dd,pk]at h1;obtain⟨⟨⟨⟨g1,g2⟩,g3⟩,g4⟩,g5⟩:=h1;have key:∀{vs us:List Value},fe μ ρ xs vs->fe μ ρ ys us->(Op.equalIn 10000 t (.agg vs.toArray) (.agg us.toArray)).run P w=.ok x w:=fun{vs us} hv hu=>by
   have:=tE w 12 9988 t xs ys vs us x g2 hv hu (cj g4) (cj g5) h2;rw[g1]at this;exact this
  cases ha with
  |c ha=>cases ha with|d ha=>cases ha
  |agg ha=>
   cases hb with
   |c hb=>cases hb with|d hb=>cases hb
   |agg hb=>
    simp_all [fy,run_eqGuard_agg,eh,run_eql_struct,run_neq_struct]
 grind [KF,tD]
theorem GW{R:Type}{σ:Store}{K:AV->Store->Option R}{r:R}{b:AV}(h:sP P σ K op t a b=some r):
  ∃av,K av σ=some r/\∀(μ:Mu) (ρ:bD) (va vb:Value) (x y:Operand) (w:World),VR μ ρ a va->VR μ ρ b vb->
   ∃v,(do eqGuard op t x y va vb;binOp op t va vb:Sem Value).run P w=.ok v w/\VR μ ρ av v:=by
 unfold sP at h;split at h
 ·split at h
  ·rename_i e he;exact⟨_,h,fun μ ρ va vb x y w ha hb=>⟨_,(xR he ha hb x y w).1,.bool _⟩⟩
  ·cases h
 ·split at h
  ·rename_i e he;exact⟨_,h,fun μ ρ va vb x y w ha hb=>⟨_,(xR he ha hb x y w).2,.bool _⟩⟩
  ·cases h
 ·rename_i hne1 agO;split at h
  ·rename_i k x k' y;have fin:∀v:Value,(∀w:World,(binOp op t (.int k x) (.int k' y)).run P w=.ok v w)->oN (.v v)=true->K (.v v) σ=some r->
     ∃av,K av σ=some r/\∀(μ:Mu) (ρ:bD) (va vb:Value) (x' y':Operand) (w:World),VR μ ρ (.v (.int k x)) va->VR μ ρ (.v (.int k' y)) vb->
      ∃v,(do eqGuard op t x' y' va vb;binOp op t va vb:Sem Value).run P w=.ok v w/\VR μ ρ av v:=fun v h1 h2 h3=>
    ⟨_,h3,fun μ ρ va vb x' y' w ha hb=>by
     have:=ha.dB;subst this;have:=hb.dB;subst this;exact⟨v,tD (fun c=>by simp) (by simp) (h1 w),.ab5 h2⟩⟩
   split at h
   ·cases hy:decide (y<0)with
    |true=>simp_all
    |false=>
     rw[hy]at h;have hy:=IT hy;exact fin _ (fun w=>by simp[binOp,Op.shift,hy]) rfl h
   ·cases hy:decide (y<0)with
    |true=>simp_all
    |false=>
     rw[hy]at h;have hy:=IT hy;exact fin _ (fun w=>by simp[binOp,Op.shift,hy]) rfl h
   ·split at h
    ·rename_i e;subst e;split at h
     ·exact fin _ (fun w=>by simp[binOp,Op.intArith]) rfl h
     ·exact fin _ (fun w=>by simp[binOp,Op.intArith]) rfl h
     ·exact fin _ (fun w=>by simp[binOp,Op.intArith]) rfl h
     ·cases hy:decide (y=0)with
      |true=>simp_all
      |false=>
       rw[hy]at h;have hy:=IT hy;exact fin _ (fun w=>by simp[binOp,Op.intDiv,hy]) rfl h
     ·cases hy:decide (y=0)with
      |true=>simp_all
      |false=>
       rw[hy]at h;have hy:=IT hy;exact fin _ (fun w=>by simp[binOp,Op.intDiv,hy]) rfl h
     ·exact fin _ (fun w=>by simp[binOp,Op.intBits,bits]) rfl h
     ·exact fin _ (fun w=>by simp[binOp,Op.intBits,bits]) rfl h
     ·exact fin _ (fun w=>by simp[binOp,Op.intBits,bits]) rfl h
     ·exact fin _ (fun w=>by simp[binOp,Op.intBits,bits]) rfl h
     ·exact fin _ (fun w=>by simp[binOp,Op.intCmp]) rfl h
     ·exact fin _ (fun w=>by simp[binOp,Op.intCmp]) rfl h
     ·exact fin _ (fun w=>by simp[binOp,Op.intCmp]) rfl h
     ·exact fin _ (fun w=>by simp[binOp,Op.intCmp]) rfl h
     ·cases h
    ·cases h
  ·rename_i x y;have fin:∀v:Value,(∀w:World,(binOp op t (.string x) (.string y)).run P w=.ok v w)->oN (.v v)=true->K (.v v) σ=some r->
     ∃av,K av σ=some r/\∀(μ:Mu) (ρ:bD) (va vb:Value) (x' y':Operand) (w:World),VR μ ρ (.v (.string x)) va->VR μ ρ (.v (.string y)) vb->
      ∃v,(do eqGuard op t x' y' va vb;binOp op t va vb:Sem Value).run P w=.ok v w/\VR μ ρ av v:=fun v h1 h2 h3=>
    ⟨_,h3,fun μ ρ va vb x' y' w ha hb=>by
     have:=ha.dB;subst this;have:=hb.dB;subst this;exact⟨v,tD (fun c=>by simp) (by simp) (h1 w),.ab5 h2⟩⟩
   split at h
   ·cases hy:decide (x.size+y.size<=9223372036854775807)with
    |false=>simp_all
    |true=>
     rw[hy]at h;have hy:=tn hy;refine fin _ (fun w=>?_) rfl h;have:¬(((x.size+y.size:Nat):Int)>IntKind.i64.max):=by
      show¬(((x.size+y.size:Nat):Int)>9223372036854775807);omega
     simp only[binOp,Op.stringOp,this,tm];rfl
   ·exact fin _ (fun w=>by simp[binOp,Op.stringOp]) rfl h
   ·cases h
  ·cases h
theorem KH{R:Type}{σ:Store}{K:AV->Store->Option R}{r:R}{op:UnOp}(h:CS σ K op a=some r):
  ∃av,K av σ=some r/\∀(μ:Mu) (ρ:bD) (va:Value) (w:World),VR μ ρ a va->∃v,(Op.unary op va).run P w=.ok v w/\VR μ ρ av v:=by
 unfold CS at h;split at h
 ·exact⟨_,h,fun μ ρ va w ha=>by have:=ha.dB;subst this;exact⟨_,by simp[Op.unary],.bool _⟩⟩
 ·exact⟨_,h,fun μ ρ va w ha=>by have:=ha.dB;subst this;exact⟨_,by simp[Op.unary,Op.intArith],.int _ _⟩⟩
 ·exact⟨_,h,fun μ ρ va w ha=>by have:=ha.dB;subst this;exact⟨_,by simp[Op.unary,Op.intBits,bits],.int _ _⟩⟩
 ·cases h
theorem uJ{R:Type}{σ:Store}{K:AV->Store->Option R}{r:R}{f:Nat}(h:dQ P σ K t a f=some r):
  ∃av,K av σ=some r/\∀(μ:Mu) (ρ:bD) (va:Value) (w:World),VR μ ρ a va->∃v,(Instr.fieldAt t va f).run P w=.ok v w/\VR μ ρ av v:=by
 unfold dQ at h;split at h
 ·rename_i fs hu;split at h
  ·cases h
  ·rename_i fd ZS;cases hz:Nat.beq (P.cellsOf fd.type) 0 with
   |true=>simp_all
   |false=>
    rw[hz]at h;have hne:P.cellsOf fd.type≠0:=fun e=>by simp_all
    have hi:(P.info? fd.type).isSome=true:=by
     cases e:P.info? fd.type with
     |none=>exact absurd (by simp[Program.cellsOf,e]) hne
     |some i=>rfl
    have hrun:∀(ad:Addr) (w:World),(Instr.fieldAt t (.pointer (some ad)) f).run P w=.ok (.pointer (some (ad.add fd.offset))) w:=fun ad w=>by
     simp only[Instr.fieldAt,fy,gg hu,eh,ZS,Instr.sureAddr,fv,fieldPlace,dg hi,hne,tm]
    simp only[cond]at h;split at h
    ·rename_i l i j;refine⟨_,h,fun μ ρ va w ha=>?_⟩;cases ha with
     |c hx=>cases hx with
      |d hd=>cases hd
      | @ptr _ _ _ rb hl hp=>
       refine⟨_,hrun _ w,?_⟩;rw[bZ,vj];exact .c (.ptr hl hp)
    ·rename_i cs off;refine⟨_,h,fun μ ρ va w ha=>?_⟩;cases ha with
     |c hx=>cases hx with
      |d hd=>cases hd with
       |ep vals hcell hv=>
        refine⟨_,hrun _ w,?_⟩;rw[bZ,vj];exact .c (.d (.ep vals hcell hv))
    ·cases h
 ·cases h
theorem CU{R:Type}{σ:Store}{K:AV->Store->Option R}{r:R}{f:Nat}(h:kF P σ K t a f=some r):
  ∃av,K av σ=some r/\∀(μ:Mu) (ρ:bD) (va:Value) (w:World),VR μ ρ a va->∃v,(Instr.field t va f).run P w=.ok v w/\VR μ ρ av v:=by
 unfold kF at h;split at h
 ·rename_i fs cs hu;split at h
  ·cases h
  ·rename_i fd ZS;cases hz:(Nat.ble (fd.offset+P.cellsOf fd.type) cs.length&&Kq P fd.type)with
   |false=>simp_all
   |true=>
    rw[hz]at h;simp only[dd]at hz;have hle:=pe hz.1;refine⟨_,h,fun μ ρ va w ha=>?_⟩;cases ha with
    |c hx=>cases hx with
     |d hd=>cases hd
    | @agg _ vs hvs=>
     refine⟨_,by simp only[Instr.field,fy,gg hu,eh,ZS,asAgg,fv];exact mr hz.2 vs _ (by rw[hvs.1];exact hle) w,?_⟩;exact wI hz.2 (hvs.sub _ _) (by simp;omega)
 ·cases h
theorem ah{b:Bool}{r:α}(h:cond b x none=some r):b=true/\x=some r:=by
 grind
theorem aU{b:Bool}{r:α}(h:cond b none x=some r):b=false/\x=some r:=by
 grind
theorem gR{n:Int}{len:Nat}(h:(decide (0<=n)&&decide (n<(len:Int)))=true):0<=n/\n<(len:Int)/\n.toNat<len:=by
 simp_all
theorem CV{R:Type}{σ:Store}{K:AV->Store->Option R}{r:R}{i:AV}{ct:Bool}(h:kG P σ K t a i ct=some r):
  ∃av,K av σ=some r/\∀(μ:Mu) (ρ:bD) (va vi:Value) (w:World),VR μ ρ a va->VR μ ρ i vi->∃v,(Instr.index t va vi).run P w=.ok v w/\VR μ ρ av v:=by
 unfold kG at h;split at h
 ·rename_i len e cs k n hu;replace h:=ah h;obtain⟨hz,h⟩:=h;simp only[dd]at hz;have hlen:=cj hz.1;have hle:∀m,m<len->m*P.cellsOf e+P.cellsOf e<=cs.length:=fun m hm=>by
   calc m*P.cellsOf e+P.cellsOf e=(m+1)*P.cellsOf e:=by grind
    _<=len*P.cellsOf e:=fi _ hm
    _=cs.length:=hlen
  have hI:=(gQ hz.2).2.2.2;cases ct with
  |true=>
   simp only[cond]at h;replace h:=ah h;obtain⟨hr,h⟩:=h;obtain⟨h0,h1,h2⟩:=gR hr;refine⟨_,h,fun μ ρ va vi w ha hi=>?_⟩;have:=hi.dB;subst this;cases ha with
   |c hx=>cases hx with
    |d hd=>cases hd
   | @agg _ vs hvs=>
    refine⟨_,by simp only[Instr.index,asIntOf,fy,gg hu,eh,fv,h0,h1,and_self,xt,dg hI];exact mr hz.2 vs _ (by rw[hvs.1];exact hle _ h2) w,?_⟩;exact wI hz.2 (hvs.sub _ _) (by grind)
  |false=>
   simp only[cond]at h;replace h:=ah h;obtain⟨h3,h⟩:=h;simp only[dd,pk]at h3;have hone:=cj h3.1;replace h:=ah h;obtain⟨hr,h⟩:=h;obtain⟨h0,h1,h2⟩:=gR hr;refine⟨_,h,fun μ ρ va vi w ha hi=>?_⟩;have:=hi.dB;subst this;have hle:=hle;simp only[hone,oe]at hlen hle;cases ha with
   |c hx=>cases hx with
    |d hd=>cases hd
   | @agg _ vs hvs=>
    refine⟨_,by simp only[Instr.index,asIntOf,fy,gg hu,eh,fv,h0,h1,and_self,xt,dg hI];exact mr hz.2 vs _ (by rw[hvs.1,hone,oe];exact hle _ h2) w,?_⟩;have hlt:n.toNat<cs.length:=by omega
    have Rp:n.toNat<vs.length:=by rw[hvs.1];exact hlt
    rw[Au n.toNat cs 0 (nt _) (by omega),h3.2,hone,oe,ahk];simp only[cond,kc,ao hlt,Hp];rw[List.headD_eq_head?_getD,List.head?_take];simp only[List.head?_drop,ao Rp];exact .c (hvs.2 _ _ _ (ao hlt) (ao Rp))
 ·rename_i s k n hu;replace h:=ah h;obtain⟨hr,h⟩:=h;obtain⟨h0,h1,h2⟩:=gR hr;refine⟨_,h,fun μ ρ va vi w ha hi=>?_⟩;have:=ha.dB;subst this;have:=hi.dB;subst this;refine⟨_,?_,.int _ _⟩;have hs:s[n.toNat]?=some s.data[n.toNat]:=by
   show(if h:n.toNat<s.size then some _ else none)=_;rw[dif_pos h2];rfl
  have hd:s.data.getD n.toNat 0=s.data[n.toNat]:=by
   simp_all
  simp only[Instr.index,asIntOf,fy,gg hu,eh,fv,h0,xt,hs,hd]
 ·cases h
theorem iL{a:Array α}{l:List α}(h:a.toList=l):a=l.toArray:=by rw[<-h]
theorem kO{o:Oper}{c:Call}{b:Builtin}(hop:o.op=.call c)(hc:c.callee=.builtin b)(a:Act):
  ∃cs,∀w:World,(execOp a.eval o).run P w=(builtin b c.argTypes o.type cs (c.args.map a.eval)).run P w:=by
 refine⟨c.args.map fun| .const _=>true|_=>false,fun w=>?_⟩;simp only[execOp,hop,resolve,hc,fy,fv,eh,invoke];rfl
def MZ(P:Program)(o:Oper)(fr:List (Nat×AV))(av:AV):Prop:=
 ∀(μ:Mu) (ρ:bD) (a:Act) (w:World),(∀x∈o.op.operands,VR μ ρ (fP fr x) (a.eval x))->∃v,(execOp a.eval o).run P w=.ok (.value v) w/\VR μ ρ av v
theorem bz{P:Program}{s:Sem Value}{w w':World}(h:s.run P w=.ok v w'):(do pure (.value (<-s)):Sem Next).run P w=.ok (.value v) w':=by
 simp_all
section
variable{R:Type}{C:gD}{call:cK}{inl:iv}{o:Oper}{fr:List (Nat×AV)}{σ:Store}{K:AV->Store->Option R}{r:R}
theorem rW{x:Operand}(ho:o.op=.move x\/o.op=.assign x):MZ P o fr (fP fr x):=by
 intro μ ρ a w hx;refine⟨a.eval x,?_,hx x ?_⟩
 ·rcases ho with ho|ho<;>simp[execOp,ho]
 ·rcases ho with ho|ho<;>simp[ho,Op.operands]
theorem wJ(h:bC P C call inl o fr σ K=some r)(hc:aY P C o=0):∃av,K av σ=some r/\MZ P o fr av:=by
 have one:∀{x:Operand} {a:Act} {μ:Mu} {ρ:bD},(∀y∈o.op.operands,VR μ ρ (fP fr y) (a.eval y))->x∈o.op.operands->VR μ ρ (fP fr x) (a.eval x):=fun h hx=>h _ hx;cases ho:o.op with
 |move x=>
  simp only[bC,ho]at h;split at h
  ·simp[aY,ho]at hc
  grind [rW]
 |assign x=>
  simp only[bC,ho]at h;split at h
  ·simp[aY,ho]at hc
  grind [rW]
 |pick c x y=>
  simp only[bC,ho]at h;split at h
  ·rename_i t ht;have key:∀b:Bool,t=b->K (fP fr (if b then x else y)) σ=some r->∃av,K av σ=some r/\MZ P o fr av:=fun b hb hk=>by
    refine⟨_,hk,fun μ ρ a w hx=>?_⟩;have h1:=hx c (by simp[ho,Op.operands]);rw[ht]at h1;refine⟨a.eval (if b then x else y),?_,hx _ (by cases b<;>simp[ho,Op.operands])⟩;simp only[execOp,ho,h1.dB,asBool,fy,fv,eh,hb];cases b<;>rfl
   grind
  ·cases h
 |nilCheck x=>
  simp only[bC,ho]at h;have hx0:x∈o.op.operands:=by simp[ho,Op.operands]
  split at h
  ·rename_i l i j hg;refine⟨_,h,fun μ ρ a w hx=>?_⟩;have h1:=hx x hx0;rw[hg]at h1;refine⟨a.eval x,?_,h1⟩;generalize hv:a.eval x=v at h1;cases h1 with
   |c h2=>cases h2 with
    |d hd=>cases hd
    |ptr=>simp only[execOp,ho,hv,fv]
  ·rename_i cs off hg;refine⟨_,h,fun μ ρ a w hx=>?_⟩;have h1:=hx x hx0;rw[hg]at h1;refine⟨a.eval x,?_,h1⟩;generalize hv:a.eval x=v at h1;cases h1 with
   |c h2=>cases h2 with
    |d hd=>cases hd with
     |ep=>simp only[execOp,ho,hv,fv]
  ·rename_i f p q hg;refine⟨_,h,fun μ ρ a w hx=>?_⟩;have h1:=hx x hx0;rw[hg]at h1;refine⟨a.eval x,?_,h1⟩;generalize hv:a.eval x=v at h1;cases h1 with
   |c h2=>cases h2 with
    |d hd=>cases hd with
     |eN=>simp only[execOp,ho,hv,fv]
    |eN=>simp only[execOp,ho,hv,fv]
  ·cases h
 |binOp op t x y yt=>
  simp only[bC,ho]at h;obtain⟨av,hk,hs⟩:=GW h;refine⟨av,hk,fun μ ρ a w hx=>?_⟩;obtain⟨v,hr,hv⟩:=hs μ ρ _ _ x y w (hx x (by simp[ho,Op.operands])) (hx y (by simp[ho,Op.operands]));exact⟨v,by simp only[execOp,ho];exact bz hr,hv⟩
 |unOp op t x=>
  simp only[bC,ho]at h;obtain⟨av,hk,hs⟩:=KH h;refine⟨av,hk,fun μ ρ a w hx=>?_⟩;obtain⟨v,hr,hv⟩:=hs μ ρ _ w (hx x (by simp[ho,Op.operands]));exact⟨v,by simp only[execOp,ho];exact bz hr,hv⟩
 |fieldAddr t x f=>
  simp only[bC,ho]at h;obtain⟨av,hk,hs⟩:=uJ h;refine⟨av,hk,fun μ ρ a w hx=>?_⟩;obtain⟨v,hr,hv⟩:=hs μ ρ _ w (hx x (by simp[ho,Op.operands]));exact⟨v,by simp only[execOp,ho];exact bz hr,hv⟩
 |field t x f=>
  simp only[bC,ho]at h;obtain⟨av,hk,hs⟩:=CU h;refine⟨av,hk,fun μ ρ a w hx=>?_⟩;obtain⟨v,hr,hv⟩:=hs μ ρ _ w (hx x (by simp[ho,Op.operands]));exact⟨v,by simp only[execOp,ho];exact bz hr,hv⟩
 |index t x i=>
  simp only[bC,ho]at h;obtain⟨av,hk,hs⟩:=CV h;refine⟨av,hk,fun μ ρ a w hx=>?_⟩;obtain⟨v,hr,hv⟩:=hs μ ρ _ _ w (hx x (by simp[ho,Op.operands])) (hx i (by simp[ho,Op.operands]));exact⟨v,by simp only[execOp,ho];exact bz hr,hv⟩
 |extract x i=>
  simp only[bC,ho]at h;split at h
  ·rename_i vs hg;replace h:=ah h;obtain⟨hb,h⟩:=h;have hlt:i<vs.length:=by simp_all
   refine⟨_,h,fun μ ρ a w hx=>?_⟩;have h1:=hx x (by simp[ho,Op.operands]);rw[hg]at h1;generalize hv:a.eval x=v at h1;cases h1 with
   |c h2=>cases h2 with|d hd=>cases hd
   | @kK _ us hl hu=>
    have OH:i<us.length:=by omega
    refine⟨us[i],?_,?_⟩
    ·simp only[execOp,ho,hv];refine bz ?_;simp only[Instr.extract,vy,ao OH,fv]
    ·simp only[cellAt,kc,ao hlt,Hp];exact hu i _ _ (ao hlt) (ao OH)
  ·cases h
 |makeFunc fn first cX=>
  cases fn with
  |func f=>
   simp only[bC,ho]at h;replace h:=ah h;obtain⟨hb,h⟩:=h;simp only[dd,ka]at hb;refine⟨_,h,fun μ ρ a w hx=>?_⟩;refine⟨.func (.func f) (first.toList.map a.eval).toArray (cX.toList.map a.eval).toArray,?_,?_⟩
   ·simp only[execOp,ho];refine bz ?_;simp only[Instr.makeFunc,fv]
    congr 2<;>(grind)
   ·refine .c (.eN (by simp) (by simp) (fun k u v hu hv=>?_) (fun k u v hu hv=>?_))
    ·have hm:=dp hu;simp only[et,kn]at hu hv;obtain⟨x,hx1,hx2⟩:=hu;obtain⟨y,hy1,ZT⟩:=hv;rw[hx1]at hy1;injection hy1 with hy1;subst hy1;subst hx2;subst ZT;refine(hx x ?_).cell (hb.1 _ hm);rw[ho];simp only[Op.operands,PC];grind
    ·have hm:=dp hu;simp only[et,kn]at hu hv;obtain⟨x,hx1,hx2⟩:=hu;obtain⟨y,hy1,ZT⟩:=hv;rw[hx1]at hy1;injection hy1 with hy1;subst hy1;subst hx2;subst ZT;refine(hx x ?_).cell (hb.2 _ hm);rw[ho];simp only[Op.operands,PC];grind
  |_=>simp only[bC,ho]at h;cases h
 |call c=>
  simp only[aY,ho]at hc;split at hc
  ·cases hc
  ·rename_i fD;simp only[bC,ho,fD]at h;split at h
   ·rename_i x y hargs;split at h
    ·rename_i av he;refine⟨av,h,fun μ ρ a w hx=>?_⟩;have fK:=iL hargs;have hx1:=hx x (by simp[ho,Op.operands,Call.operands,fD,fK]);have hx2:=hx y (by simp[ho,Op.operands,Call.operands,fD,fK]);obtain⟨cs,hb⟩:=kO (P:=P) ho fD a;unfold Rc at he;split at he
     ·rename_i k p k' q hp hq;rw[hp]at hx1;rw[hq]at hx2;injection he with he;subst he;refine⟨_,?_,.int _ _⟩;rw[hb,fK];simp only[builtin];refine bz ?_;simp[Builtin.min_,hx1.dB,hx2.dB,Builtin.min2]
     ·cases he
    ·cases h
   ·cases h
  ·rename_i fD;simp only[bC,ho,fD]at h;split at h
   ·rename_i x y hargs;split at h
    ·rename_i av he;refine⟨av,h,fun μ ρ a w hx=>?_⟩;have fK:=iL hargs;have hx1:=hx x (by simp[ho,Op.operands,Call.operands,fD,fK]);have hx2:=hx y (by simp[ho,Op.operands,Call.operands,fD,fK]);obtain⟨cs,hb⟩:=kO (P:=P) ho fD a;unfold Rd at he;split at he
     ·rename_i k p k' q hp hq;rw[hp]at hx1;rw[hq]at hx2;injection he with he;subst he;refine⟨_,?_,.int _ _⟩;rw[hb,fK];simp only[builtin];refine bz ?_;simp[Builtin.max_,hx1.dB,hx2.dB,Builtin.max2]
     ·cases he
    ·cases h
   ·cases h
  all_goals grind
 |buildSlice t n ps=>
  simp only[aY,ho]at hc;grind
 |makeSlice t x y=>
  simp only[aY,ho]at hc;grind
 |convert a b x=>
  simp only[aY,ho]at hc;grind
 |slice t x lo hi mx=>
  simp only[aY,ho]at hc;grind
 |_=>first|(simp only[aY,ho]at hc;cases hc;done)|(simp[aY,ho]at hc)
end
end
