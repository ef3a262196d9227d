/- Calls of Go's library that are told to the evaluator: what the shelf's contracts say,in the evaluator's words. -/
import Derived.Shelf.Strings.OnBuilder
import Derived.Shelf.Strings.IndexAnyAll
import Derived.Shelf.Spec.SlicesGrow
import Derived.Shelf.SlicesE.Reverse
import Derived.Test.YtnjccbnlmdajkaaGreatEv11
set_option linter.all false
namespace Go.Ev
open Go Go.Proofs Go.Shelf Go.RowKit
variable{v:Value}
def bs(l:List UInt8):ByteArray:=⟨l.toArray⟩
theorem Db{μ:Mu}{hp:HF}{F:List Nat}{G:List Value}{x:Value}(h:B1 μ hp F G (.v x) v):F=[]/\G=[]/\v=x:=by
 cases h with
 |c h=>cases h with
  |d h=>cases h with
   |v _=>exact⟨rfl,rfl,rfl⟩
theorem Lv{μ:Mu}{hp:HF}{F:List Nat}{G:List Value}{nil:Bool}{sz:Nat}{xs:List (List AV)}(h:B1 μ hp F G (.aq nil sz xs) v):F=[]/\G=[]/\DR μ (.aq nil sz xs) v:=by
 cases h with
 |c h=>cases h with
  |d h=>exact⟨rfl,rfl,h⟩
theorem afb{μ:Mu}{hp:HF}{F:List Nat}{G:List Value}{x:Value}(h:B2 μ hp F G (.v x) v):F=[]/\G=[]/\v=x:=by
 cases h with
 |o h=>exact Db h
theorem aan{μ:Mu}{hp:HF}{F:List Nat}{G:List Value}{nil:Bool}{sz:Nat}{xs:List (List AV)}(h:B2 μ hp F G (.aq nil sz xs) v):F=[]/\G=[]/\DR μ (.aq nil sz xs) v:=by
 cases h with
 |o h=>exact Lv h
theorem Jf{μ:Mu}{hp:HF}{F:List Nat}{G:List Value}{a:AV}{cs:List AV}{vs:List Value}(h:ju μ hp F G (a::cs) vs):∃F1 F2 G1 G2 v vs',F=F1++F2/\G=G1++G2/\vs=v::vs'/\B2 μ hp F1 G1 a v/\ju μ hp F2 G2 cs vs':=by
 cases h with
 |cons h k=>grind
theorem Wk{μ:Mu}{hp:HF}{F:List Nat}{G:List Value}{vs:List Value}(h:ju μ hp F G [] vs):F=[]/\G=[]/\vs=[]:=by
 cases h;exact⟨rfl,rfl,rfl⟩
def acy(P:Program)(f:FuncId)(g:List AV->Option (List AV)):Prop:=∀bs rs,g bs=some rs->∃fn,P.funcs[f]?=some fn/\
  ∀(w:World) (μ:Mu) (F:List Nat) (G vals:List Value),(∀b o,μ b=some o->w.heap[b]?=some o)->ju μ (hf w) F G bs vals->F.Nodup->
   Calls P f vals.toArray w fun e w'=> ∃(ra ro:List AV) (vs:List Value) (μ':Mu) (F1 F2:List Nat) (G1:List Value),rs=ra++ro/\ra.length=fn.resultTypes.size/\e=.returned (nV vs)/\Yq ⟨w,(· ∈F),μ⟩ μ' w'/\
    (∀b o,μ' b=some o->w'.heap[b]?=some o)/\ju μ' (hf w') F1 G1 ra vs/\pq μ' (hf w') F2 G ro G/\(F1++F2).Nodup/\∀b∈F1++F2,b∈F\/w.heap.size<=b
section
variable{P:Program}
end
end Go.Ev
namespace Go.Ev
open Go
abbrev B:=List UInt8
end Go.Ev
namespace Go.Ev
open Go Go.Proofs
section
section
variable{μ μ':Mu}{hp hp':HF}{F:List Nat}{G:List Value}
theorem B0.heap{a:AV}{v:Value}(h:B0 μ hp F a v)(hh:∀b∈F,hp' b=hp b):B0 μ hp' F a v:=by
 cases h with
 |d hd=>exact .d hd
 |ow h1 h2 h3 h4 h5=>obtain⟨fz,e,ok⟩:=h1;exact .ow ⟨fz,(hh _ (by simp)).trans e,ok⟩ h2 h3 h4 h5
 |own=>exact .own
theorem nB.heap{cs:List AV}{vs:List Value}(h:nB μ hp F cs vs)(hh:∀b∈F,hp' b=hp b):nB μ hp' F cs vs:=by
 induction h with
 |nil=>exact .nil
 |cons h _ ih=>exact .cons (h.heap fun b hb=>hh b (DO _ hb)) (ih fun b hb=>hh b (Hn _ hb))
theorem B1.heap{a:AV}{v:Value}(h:B1 μ hp F G a v)(hh:∀b∈F,hp' b=hp b):B1 μ hp' F G a v:=by
 cases h with
 |c h=>exact .c (h.heap hh)
 |ob h hm hc=>exact .ob ((hh _ (by simp)).trans h) hm (hc.heap fun b hb=>hh b (nm _ hb))
 |row h hn=>exact .row (h.heap hh) hn
theorem B0.Jg{a:AV}{v:Value}(h:B0 μ hp F a v):∀b∈F,μ b=none/\∃o,hp b=some o:=fun b hb=>by
 cases h with
 |d hd=>cases hb
 |ow h1 h2=>grind
 |own=>cases hb
theorem nB.Jg{cs:List AV}{vs:List Value}(h:nB μ hp F cs vs):∀b∈F,μ b=none/\∃o,hp b=some o:=by
 induction h with
 |nil=>grind
 |cons h _ ih=>exact fun b hb=>(gw.1 hb).elim (h.Jg b) (ih b)
theorem B1.Jg{a:AV}{v:Value}(h:B1 μ hp F G a v):∀b∈F,μ b=none/\∃o,hp b=some o:=fun b hb=>by
 cases h with
 |c h=>exact h.Jg b hb
 |ob h hm hc=>
  rcases ft.1 hb with rfl|hb
  ·exact⟨hm,_,h⟩
  ·exact hc.Jg b hb
 |row h hn=>exact h.Jg b hb
end
structure ag where
 p:Value
 F:List Nat
 a:AV
def foot(l:List ag):List Nat:=l.flatMap ag.F
structure vL(μ:Mu)(w:World)(l:List ag):Prop where
 ok:∀x∈l,B1 μ (hf w) x.F [x.p] x.a x.p
 nd:(foot l).Nodup
theorem su(x:ag)(l:List ag):foot (x::l)=x.F++foot l:=rfl
theorem SB(a b:List ag):foot (a++b)=foot a++foot b:=by simp[foot]
theorem vL.nil(μ:Mu)(w:World):vL μ w []:=⟨fun x h=>(by cases h),sq⟩
theorem vL.own{μ:Mu}{w:World}{l:List ag}(h:vL μ w l):∀b∈foot l,μ b=none/\b<w.heap.size:=fun b hb=>by
 obtain⟨x,hx,hb⟩:=vh.1 hb;obtain⟨h1,o,h2⟩:=(h.ok x hx).Jg b hb;exact⟨h1,(gd.1 h2).1⟩
structure ar(D:List Nat)(w w':World):Prop where
 os:w'.os=w.os
 tape:w'.tape=w.tape
 output:w'.output=w.output
 size:w.heap.size<=w'.heap.size
 keep:∀b,b<w.heap.size->b∉D->w'.heap[b]?=w.heap[b]?
theorem ar.refl(D:List Nat)(w:World):ar D w w:=⟨rfl,rfl,rfl,dk _,fun _ _ _=>rfl⟩
theorem vL.kept{μ μ':Mu}{w w':World}{D:List Nat}{l:List ag}(h:vL μ w l)(k:ar D w w')(hm:ak μ μ')(hnew:∀b o,μ' b=some o->μ b=some o\/b∈D\/w.heap.size<=b)(hd:∀b∈D,b∉foot l):vL μ' w' l:=
 ⟨fun x hx=>by
  have hF:∀b∈x.F,b∈foot l:=fun b hb=>vh.2 ⟨x,hx,hb⟩;refine((h.ok x hx).mono hm fun b hb=>?_).heap fun b hb=>?_
  ·obtain⟨h1,h2⟩:=h.own b (hF b hb);cases e:μ' b with
   |none=>rfl
   |some o=>
    grind
  ·exact k.keep b (h.own b (hF b hb)).2 fun hb2=>hd b hb2 (hF b hb),h.nd⟩
section
variable{P:Program}{C:gD}
theorem xm(dw:P.follows .mixedOrders=true)(hx:nX P C){f:FuncId}{bs rs:List AV}(h:wq P C f bs=some rs){fn:Func}(hfn:P.funcs[f]?=some fn){w:World}{μ:Mu}{F:List Nat}{G vals:List Value}
  (oT:∀b o,μ b=some o->w.heap[b]?=some o) (hB:ju μ (hf w) F G bs vals) (hnd:F.Nodup) {l:List ag} (hl:vL μ w l) (hd:∀b∈F,b∉foot l):
  Calls P f vals.toArray w fun e w'=> ∃(ra ro:List AV) (vs:List Value) (μ':Mu) (F1 F2:List Nat) (G1:List Value),rs=ra++ro/\ra.length=fn.resultTypes.size/\e=.returned (nV vs)/\ar F w w'/\ak μ μ'/\
   (∀b o,μ' b=some o->w'.heap[b]?=some o)/\ju μ' (hf w') F1 G1 ra vs/\pq μ' (hf w') F2 G ro G/\(F1++F2).Nodup/\(∀b∈F1++F2,b∈F\/w.heap.size<=b)/\vL μ' w' l/\(∀b∈F1++F2,b∉foot l)/\
   (∀b o,μ' b=some o->μ b=some o\/b∈F\/w.heap.size<=b):=by
 obtain⟨n,hn⟩:=BL h;obtain⟨fn',h1,h2⟩:=oA dw hx n f bs rs hn;rw[hfn]at h1;obtain rfl:=ss h1;refine(h2 w μ F G vals oT hB hnd).mono fun e w' he=>?_;obtain⟨ra,ro,vs,μ',F1,F2,G1,RR,hsz,he,hfr,hi,hb1,hb2,Wl,hnew⟩:=he;have hk:ar F w w':=⟨hfr.os,hfr.tape,hfr.output,hfr.size,fun b hb hn=>hfr.keep b hb hn⟩;refine⟨ra,ro,vs,μ',F1,F2,G1,RR,hsz,he,hk,hfr.mu,hi,hb1,hb2,Wl,hnew,hl.kept hk hfr.mu hfr.sU hd,fun b hb hc=>?_,hfr.sU⟩;rcases hnew b hb with h|h
 ·exact hd b h hc
 ·have:=(hl.own b hc).2;omega
end
section
variable{P:Program}
open Go.Shelf Go.Lib Go.RowKit
end
def Ef:AV->Bool
 | .v _=>true
 | .aq true _ []=>true
 |_=>false
def BN:AV->Bool
 | .ow _ _ _ xs=>xs.all fun e=>e.all Ef
 |a=>Ef a
def SC:AV->Bool
 | .ob _ cs=>cs.all BN
 |_=>false
abbrev mu0:Mu:=fun _=>none
theorem Nz{μ:Mu}{a:AV}{v:Value}(h:Ef a=true)(hd:DR μ a v):DR mu0 a v:=by
 cases hd with
 |v hx=>exact .v hx
 | @aq nil sz xs A c vals hnil hA hc hsz hcell hv=>
  unfold Ef at h;split at h
  ·rename_i e;cases e
  ·rename_i e;cases e;cases A with
   |none=>exact .aq vals hnil hA hc hsz (fun a ha=>by cases ha) (fun k e j u hk=>by simp at hk)
   |some a=>cases hnil
  ·cases h
 |ep=>cases h
 |eN=>cases h
theorem Jh{μ:Mu}{hp:HF}{F:List Nat}{a:AV}{v:Value}(h:BN a=true)(hb:B0 μ hp F a v):B0 mu0 hp F a v:=by
 cases hb with
 |d hd=>cases hd with
  |v hx=>exact .d (.v hx)
  |aq vals a1 a2 a3 a4 a5 a6=>exact .d (Nz h (.aq vals a1 a2 a3 a4 a5 a6))
  |ep=>cases h
  |eN=>cases h
 |own=>exact .own
 |ow h1 h2 h3 h4 h5=>
  refine .ow h1 rfl h3 h4 ⟨h5.1,fun i e j c he hc=>?_⟩;obtain⟨u,g1,g2⟩:=h5.2 i e j c he hc;have:=ka.1 (ka.1 h e (dp he)) c (dp hc);exact⟨u,g1,Nz this g2⟩
theorem Px{μ:Mu}{hp:HF}{F:List Nat}{cs:List AV}{vs:List Value}(hb:nB μ hp F cs vs):cs.all BN=true->nB mu0 hp F cs vs:=by
 induction hb with
 |nil=>exact fun _=>.nil
 |cons h _ ih=>
  intro h2;rw[Ix,dd]at h2;exact .cons (Jh h2.1 h) (ih h2.2)
theorem SD{μ:Mu}{hp:HF}{F:List Nat}{G:List Value}{a:AV}{v:Value}(h:SC a=true)(hb:B1 μ hp F G a v):B1 mu0 hp F G a v:=by
 cases hb with
 |c h0=>cases h0 with
  |d hd=>cases hd<;>cases h
  |ow=>cases h
  |own=>cases h
 |ob h1 h2 h3=>exact .ob h1 rfl (Px h3 h)
 |row=>cases h
theorem ar.trans{D D':List Nat}{a b c:World}(h:ar D a b)(k:ar D' b c)(hd:∀x∈D',x∈D\/a.heap.size<=x):ar D a c:=
 ⟨k.os.trans h.os,k.tape.trans h.tape,k.output.trans h.output,iS h.size k.size,fun x hx hn=>(k.keep x (wx hx h.size) fun hm=>(hd x hm).elim hn (by omega)).trans (h.keep x hx hn)⟩
theorem ar.mono{D D':List Nat}{a b:World}(h:ar D a b)(hd:∀x∈D,x∈D'\/a.heap.size<=x):ar D' a b:=
 ⟨h.os,h.tape,h.output,h.size,fun x hx hn=>h.keep x hx fun hm=>(hd x hm).elim hn (by omega)⟩
theorem ar.hf{a b:World}(h:ar [] a b):ak (Ev.hf a) (Ev.hf b):=fun x o hx=>by
 have h0:a.heap[x]?=some o:=hx;exact(h.keep x (gd.1 h0).1 (dt)).trans h0
theorem ar.get{D:List Nat}{a b:World}(h:ar D a b){x:Nat}{o:Obj}(hx:a.heap[x]?=some o)(hd:x∉D):b.heap[x]?=some o:=
 (h.keep x (gd.1 hx).1 hd).trans hx
theorem ar.alloc(w:World)(o:Obj):ar [] w (w.alloc o):=
 ⟨rfl,rfl,rfl,by simp_all,fun b hb _=>Ev.alloc_old w _ b hb⟩
theorem ar.set{w:World}{b j t:Nat}{cur:Array Value}{v:Value}(h:w.heap[b]?=some (.cells cur t (0,0))):ar [b] w (w.setCell ⟨b,j,none⟩ v)/\(w.setCell ⟨b,j,none⟩ v).heap[b]?=some (.cells (cur.setIfInBounds j v) t (0,0)):=by
 rw[setCell_eq_setRow w b j cur t _ v h];exact⟨⟨rfl,rfl,rfl,by simp_all,fun x hx hn=>setRow_other _ _ _ _ (by simpa using hn)⟩,GB _ _ _ _ _ _ h⟩
theorem cell_of{w:World}{b j t:Nat}{cur:Array Value}{fz:Nat×Nat}{v:Value}(h:w.heap[b]?=some (.cells cur t fz))(hj:cur[j]?=some v):w.cell? ⟨b,j,none⟩=some v:=by
 simp only[World.cell?,h,Option.isSome_none,tx,tm];exact hj
theorem Py{w:World}{b t:Nat}{cur:Array Value}(h:w.heap[b]?=some (.cells cur t (0,0)))(j:Nat):w.frozen? ⟨b,j,none⟩=false:=by
 simp[World.frozen?,h]
theorem zI{μ:Mu}{hp:HF}{F:List Nat}{G:List Value}{a:AV}{vs:List Value}(h:ju μ hp F G [a] vs):∃v,vs=[v]/\B2 μ hp F G a v:=by
 cases h with
 |cons h k=>cases k;grind
theorem zJ{μ:Mu}{hp:HF}{F:List Nat}{G:List Value}{cs:List AV}{vs:List Value}(h:pq μ hp F G cs vs)(e:vs=[]):cs=[]/\F=[]:=by
 cases h with
 |nil=>exact⟨rfl,rfl⟩
 |cons _ _=>cases e
theorem vM{μ:Mu}{hp:HF}:∀vs:List Value,(∀v∈vs,oN (.v v)=true)->ju μ hp [] [] (vs.map AV.v) vs
 |[],_=>.nil
 |v::vs,h=>.cons (F:=[]) (F':=[]) (G:=[]) (G':=[]) (.o (.c (.d (.v (h v (by simp)))))) (vM vs fun x hx=>h x (nm _ hx))
theorem dM{μ:Mu}{hp:HF}{F:List Nat}{G:List Value}:∀(xs:List Value) {vs:List Value} {F:List Nat} {G:List Value},ju μ hp F G (xs.map AV.v) vs->vs=xs/\F=[]
 |[],vs,F,G,h=>by cases h;exact⟨rfl,rfl⟩
 |x::xs,vs,F,G,h=>by
  obtain⟨F1,F2,G1,G2,v,vs',rfl,rfl,rfl,h1,h2⟩:=Jf h;obtain⟨rfl,rfl,rfl⟩:=afb h1;obtain⟨rfl,rfl⟩:=dM (F:=F2) (G:=G2) xs h2;exact⟨rfl,rfl⟩
section
variable{P:Program}{C:gD}
end
structure aao where
 b:Nat
 o:Obj
structure Wst(w:World)(its:List ag)(raw:List aao)(W:World):Prop where
 kept:ar [] w W
 own:vL mu0 W its
 blk:∀(i:Nat) (r:aao),raw[i]?=some r->W.heap[r.b]?=some r.o/\r.b∉foot its/\w.heap.size<=r.b
 nd:∀(i j:Nat) (r s:aao),raw[i]?=some r->raw[j]?=some s->r.b=s.b->i=j
 new:∀b∈foot its,w.heap.size<=b
section
variable{P:Program}{C:gD}
end
theorem pS{α:Type}{l:List α}{x r:α}{i:Nat}(hi:(l++[x])[i]?=some r):l[i]?=some r\/(i=l.length/\r=x):=by
 grind
section
variable{P:Program}{C:gD}
theorem Lw(dw:P.follows .mixedOrders=true)(hx:nX P C){f:FuncId}{bs rs:List AV}(h:wq P C f bs=some rs){fn:Func}(hfn:P.funcs[f]?=some fn){w:World}{vals:List Value}
  (hB:ju (hf w) (hf w) [] [] bs vals):Calls P f vals.toArray w fun e w'=> ∃(vs:List Value) (μ':Mu) (F1:List Nat) (G1:List Value),e=.returned (nV vs)/\ar [] w w'/\ak μ' (hf w')/\ju μ' (hf w') F1 G1 rs vs/\∀b∈F1,w.heap.size<=b:=by
 refine(xm dw hx h hfn (fun b o hb=>hb) hB sq (vL.nil _ _) (fun b hb=>by cases hb)).mono fun e w' he=>?_;obtain⟨ra,ro,vs,μ',F1,F2,G1,rfl,_,rfl,hk,_,hi,h1,h2,_,hnew,_⟩:=he;obtain⟨rfl,_⟩:=zJ h2 rfl;rw[ir];exact⟨vs,μ',F1,G1,rfl,hk,hi,h1,fun b hb=>(hnew b (DO _ hb)).resolve_left dt⟩
end
end
section
def SE:AV->AV
 | .ow n _ sz xs=>.aq n sz xs
 |a=>a
theorem SF{μ hp:Mu}{b cap sz:Nat}{xs:List (List AV)}{cur:Array Value}{t:TypeId}{fz:Nat×Nat}(hle:ak μ hp)(hcell:hp b=some (.cells cur t fz))(hc:xs.length<=cap)(hr:bJ μ sz xs cur):DR hp (.aq false sz xs) (.slice (some ⟨b,0,none⟩) xs.length cap):=by
 refine .aq (fun k j=>(cur[k*sz+j]?).getD undef) rfl (fun x=>by cases x) hc hr.1 (fun a ha k j hk hj=>?_) (fun k e j u hk hj=>?_)
 ·cases ha;have hek:=ao hk;obtain⟨y,hy,_⟩:=hr.2 k _ j _ hek (ao (by rw[hr.1 _ (Pe hk)];exact hj));rw[vp];unfold gL;simp[hcell,hy]
 ·obtain⟨y,hy,hdy⟩:=hr.2 k e j u hk hj;simp only[hy,Hp];exact hdy.mono hle
theorem gM{μ:Mu}{sz:Nat}:DR μ (.aq true sz []) (.slice none 0 0):=
 DR.aq (A:=none) (c:=0) (xs:=[]) (fun _ _=>undef) rfl (fun _=>⟨rfl,rfl⟩) (dk _) (fun e he=>by cases he) (fun a ha=>by cases ha) (fun k e j u hk=>by simp at hk)
theorem B0.Ab{μ:Mu}{hp:HF}{F:List Nat}{a:AV}{v:Value}(hle:ak μ hp)(h:B0 μ hp F a v):DR hp (SE a) v:=by
 cases h with
 |d h=>
  have:SE a=a:=by cases h<;>rfl
  rw[this];exact h.mono hle
 |own=>exact gM
 |ow hb hm hc hs hr=>
  obtain⟨fz,hcell,_⟩:=hb;exact SF hle hcell hc hr
theorem nB.at{μ:Mu}{hp:HF}{F:List Nat}{cs:List AV}{vs:List Value}(h:nB μ hp F cs vs):∀(j:Nat) (a:AV),cs[j]?=some a->∃(F':List Nat) (v:Value),vs[j]?=some v/\B0 μ hp F' a v:=by
 induction h with
 |nil=>grind
 |cons h _ ih=>
  grind
theorem B1.Ab{μ:Mu}{hp:HF}{F:List Nat}{G:List Value}{ty:Nat}{cs:List AV}{v:Value}(hle:ak μ hp)(h:B1 μ hp F G (.ob ty cs) v):DR hp (.ep (cs.map SE) 0) v:=by
 cases h with
 |c h=>cases h with|d h=>cases h
 | @ob b _ F _ cur hb hm hc=>
  refine .ep (o:=0) (fun j=>(cur[j]?).getD undef) (fun j hj=>?_) (fun j u hj=>?_)
  ·rw[ab]at hj;obtain⟨_,v,hv,_⟩:=hc.at j _ (ao hj);rw[pD]at hv;unfold gL;simp[hb,hv]
  ·rw[et]at hj;cases e:cs[j]? with
   |none=>rw[e]at hj;cases hj
   |some a=>
    rw[e]at hj;cases hj;obtain⟨_,v,hv,hb0⟩:=hc.at j _ e;rw[pD]at hv;simp only[hv,Hp];exact hb0.Ab hle
theorem NB{μ:Mu}{hp:HF}:∀{c1 c2:List AV} {F:List Nat} {vs:List Value},nB μ hp F (c1++c2) vs->∃F1 F2 v1 v2,F=F1++F2/\vs=v1++v2/\nB μ hp F1 c1 v1/\nB μ hp F2 c2 v2
 |[],c2,F,vs,h=>⟨[],F,[],vs,rfl,rfl,.nil,h⟩
 |a::c1,c2,F,vs,h=>by
  cases h with
  |cons h k=>
   obtain⟨F1,F2,v1,v2,rfl,rfl,h1,h2⟩:=NB k;exact⟨_,F2,_,v2,(fh _ _ _).symm,rfl,.cons h h1,h2⟩
theorem SG{μ:Mu}{hp:HF}{c1 c2:List AV}{F1 F2:List Nat}{v1 v2:List Value}(h1:nB μ hp F1 c1 v1)(h2:nB μ hp F2 c2 v2):nB μ hp (F1++F2) (c1++c2) (v1++v2):=by
 induction h1 with
 |nil=>exact h2
 |cons h _ ih=>rw[fh];exact .cons h ih
structure Qst(w:World)(μ:Mu)(its:List ag)(W:World):Prop where
 kept:ar [] w W
 gj:ak μ (hf W)
 own:vL μ W its
 new:∀b∈foot its,w.heap.size<=b
theorem NC{μ:Mu}{hp:HF}:∀{ro:List AV} {F:List Nat} {G vs:List Value},pq μ hp F G ro vs->(∀a∈ro,∃ty cs,a=.ob ty cs)->∃xs:List ag,xs.map ag.p=vs/\xs.map ag.a=ro/\foot xs=F/\G=vs/\∀x∈xs,B1 μ hp x.F [x.p] x.a x.p
 |[],F,G,vs,h,_=>by
  cases h;exact⟨[],rfl,rfl,rfl,rfl,fun x hx=>by cases hx⟩
 |a::ro,F,G,vs,h,Rt=>by
  obtain⟨ty,cs,rfl⟩:=Rt a (by simp);cases h with
  | @cons F1 F2 G1 G2 _ _ v vs' h k=>
   obtain⟨xs,e1,e2,e3,e5,e4⟩:=NC k fun a ha=>Rt a (nm _ ha);have hG:G1=[v]:=by
    cases h with
    |c h0=>cases h0 with|d hd=>cases hd
    |ob=>rfl
   subst hG;exact⟨⟨v,F1,.ob ty cs⟩::xs,by rw[B5,e1],by rw[B5,e2],by rw[su,e3],by rw[e5];rfl,fun x hx=>(ft.1 hx).elim (fun e=>by subst e;exact h) (e4 x)⟩
section
variable{P:Program}{C:gD}
end
end
