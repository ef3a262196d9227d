import Derived.Test.YtnjccbnlmdajkaaGreatPieces
import Derived.Test.YtnjccbnlmdajkaaGreatEv10
import Derived.Test.YtnjccbnlmdajkaaGreatRows
import Derived.Test.YtnjccbnlmdajkaaGreatEv12
import Derived.Test.YtnjccbnlmdajkaaGreatEv11
set_option linter.all false
namespace Go.Proofs.YtnjccbnlmdajkaaGreat
open Go.Proofs.Tryz renaming prog->U'
open Go.Ev Go.RowKit
variable{G:List Value}{F:List Nat}{vs:List Value}{μ:Mu}{hp:HF}
def ub(l:List (Int×Int)):AV:=.ow l.isEmpty 159 2 (l.map fun x=>[Q' x.1,Q' x.2])
def FH:List AV->Option (List AV)
 |[.agg [.v (.int .i64 kind),.v (.int .i64 _),.v (.int .i64 a),.v (.int .i64 n),.v (.int .u64 _),.v (.int .u64 _),.aq _ _ xs,.v (.int .u64 _),.v (.int .i64 _)]]=>
  bif decide (lK kind n xs.length<2147483648)then some [ub (eD a (lK kind n xs.length))]else none
 |_=>none
theorem Db{x v:Value}(h:B1 μ hp F G (.v x) v):F=[]/\G=[]/\v=x:=by
 cases h with
 |c h=>cases h with
  |d h=>cases h with
   |v _=>exact⟨rfl,rfl,rfl⟩
theorem Lv{nil:Bool}{sz:Nat}{xs:List (List AV)}{v:Value}(h:B1 μ hp F G (.aq nil sz xs) v):F=[]/\G=[]/\∃A c,v=.slice A xs.length c:=by
 cases h with
 |c h=>cases h with
  |d h=>cases h with
   |aq _ _ _ _ _ _ _=>exact⟨rfl,rfl,_,_,rfl⟩
theorem jf{a:AV}{cs:List AV}(h:pq μ hp F G (a::cs) vs):∃F1 F2 G1 G2 v vs',F=F1++F2/\G=G1++G2/\vs=v::vs'/\B1 μ hp F1 G1 a v/\pq μ hp F2 G2 cs vs':=by
 cases h with
 |cons h k=>exact⟨_,_,_,_,_,_,rfl,rfl,rfl,h,k⟩
theorem zJ(h:pq μ hp F G [] vs):F=[]/\G=[]/\vs=[]:=by
 cases h;exact⟨rfl,rfl,rfl⟩
theorem zI{cs:List AV}(h:ju μ hp F G [.agg cs] vs):∃ws:List Value,vs=[.agg ws.toArray]/\pq μ hp F G cs ws:=by
 cases h with
 |cons h k=>
  cases k;simp only[ir];cases h with
  |agg h=>exact⟨_,rfl,h⟩
  |o h=>cases h with
   |c h=>cases h with
    |d h=>cases h
theorem SX(xs:List (Int×Int)):∀(i:Nat) (x:Int×Int),xs[i]?=some x->(xp xs)[i*2]?=some (.int .i64 x.1)/\(xp xs)[i*2+1]?=some (.int .i64 x.2):=by
 induction xs with
 |nil=>intro i x h;cases h
 |cons y ys ih=>
  intro i x h;have e:xp (y::ys)=.int .i64 y.1:: .int .i64 y.2::xp ys:=by simp[xp]
  rw[e];cases i with
  |zero=>cases h;exact⟨rfl,rfl⟩
  |succ i=>
   have:=ih i x h;rw[show(i+1)*2=i*2+1+1 from by omega,show i*2+1+1+1=(i*2+1)+1+1 from rfl];simpa using this
theorem PF{l:List (Int×Int)}{cur:Array Value}(h:cur.toList.take (l.length*2)=xp l):bJ μ 2 (l.map fun x=>[Q' x.1,Q' x.2]) cur:=by
 refine⟨fun e he=>?_,fun i e j c he hc=>?_⟩
 ·obtain⟨x,_,rfl⟩:=pw.1 he;rfl
 ·rw[et]at he;obtain⟨x,hx,rfl⟩:=kn.1 he;obtain⟨g1,g2⟩:=SX l i x hx;have hi:i<l.length:=(eR.1 hx).1;have tk:∀(k:Nat) (v:Value),k<l.length*2->(xp l)[k]?=some v->cur[k]?=some v:=fun k v hk hv=>by
   rw[<-h,oa,ee hk]at hv;simpa using hv
  match j,hc with
  |0,hc=>cases hc;exact⟨_,tk _ _ (by omega) g1,.v rfl⟩
  |1,hc=>cases hc;exact⟨_,tk _ _ (by omega) g2,.v rfl⟩
theorem aaw(bs rs:List AV)(h:FH bs=some rs):∃fn,U'.funcs[103]?=some fn/\
  ∀(w:World) (μ:Mu) (F:List Nat) (G vals:List Value),(∀b o,μ b=some o->w.heap[b]?=some o)->ju μ (hf w) F G bs vals->F.Nodup->
   Calls U' 103 vals.toArray w fun e w'=> ∃(ra ro:List AV) (vs:List Value) (μ':Mu) (F1 F2:List Nat) (G1:List Value),rs=ra++ro/\ra.length=fn.resultTypes.size/\e=.returned (nV vs)/\Yq ⟨w,(· ∈F),μ⟩ μ' w'/\
    (∀b o,μ' b=some o->w'.heap[b]?=some o)/\ju μ' (hf w') F1 G1 ra vs/\pq μ' (hf w') F2 G ro G/\(F1++F2).Nodup/\∀b∈F1++F2,b∈F\/w.heap.size<=b:=by
 refine⟨_,Tryz.func103,fun w μ F G vals oT hb hnd=>?_⟩;unfold FH at h;split at h
 ·rename_i kind node a n old new nil sz xs key aS;generalize Q2:lK kind n xs.length=cnt at h;obtain⟨NI,h⟩:=ah h;have NI:cnt<2147483648:=tn NI;obtain rfl:=ss h;obtain⟨ws,rfl,c0⟩:=zI hb;obtain⟨F0,E0,G0,H0,v0,ws0,rfl,rfl,rfl,d0,c1⟩:=jf c0;obtain⟨rfl,rfl,rfl⟩:=Db d0;obtain⟨F1,E1,G1,H1,v1,ws1,rfl,rfl,rfl,d1,c2⟩:=jf c1;obtain⟨rfl,rfl,rfl⟩:=Db d1;obtain⟨F2,E2,G2,H2,v2,ws2,rfl,rfl,rfl,d2,c3⟩:=jf c2;obtain⟨rfl,rfl,rfl⟩:=Db d2;obtain⟨F3,E3,G3,H3,v3,ws3,rfl,rfl,rfl,d3,c4⟩:=jf c3;obtain⟨rfl,rfl,rfl⟩:=Db d3;obtain⟨F4,E4,G4,H4,v4,ws4,rfl,rfl,rfl,d4,c5⟩:=jf c4;obtain⟨rfl,rfl,rfl⟩:=Db d4;obtain⟨F5,E5,G5,H5,v5,ws5,rfl,rfl,rfl,d5,c6⟩:=jf c5;obtain⟨rfl,rfl,rfl⟩:=Db d5;obtain⟨F6,E6,G6,H6,v6,ws6,rfl,rfl,rfl,d6,c7⟩:=jf c6;obtain⟨rfl,rfl,A,c,rfl⟩:=Lv d6;obtain⟨F7,E7,G7,H7,v7,ws7,rfl,rfl,rfl,d7,c8⟩:=jf c7;obtain⟨rfl,rfl,rfl⟩:=Db d7;obtain⟨F8,E8,G8,H8,v8,ws8,rfl,rfl,rfl,d8,c9⟩:=jf c8;obtain⟨rfl,rfl,rfl⟩:=Db d8;obtain⟨rfl,rfl,rfl⟩:=zJ c9;refine(callsIn_wide.1 (PE Fence.wide 6 trivial trivial trivial trivial rfl (dk _) kind node a n old new key aS A xs.length c w (by rw[Q2];exact NI))).mono ?_;rw[Q2];rintro e w' ⟨v,rfl,hrow,hnil,PG⟩;have ze:Yq ⟨w,(· ∈([]:List Nat)),μ⟩ μ w':=⟨PG.os,PG.tape,PG.output,PG.size,fun b hb _=>PG.block b hb,ak.refl μ,fun b o h=>.inl h⟩;have YP:∀b o,μ b=some o->w'.heap[b]?=some o:=fun b o hbo=>by
   have h0:=oT b o hbo;rw[PG.block b (gd.1 h0).1];exact h0
  by_cases hp:eD a cnt=[]
  ·obtain rfl:=hnil.2 hp;refine⟨[ub (eD a cnt)],[],[.slice none 0 0],μ,[],[],[],rfl,rfl,rfl,ze,YP,?_,.nil,sq,by simp⟩;rw[hp];exact .cons (F:=[]) (F':=[]) (G:=[]) (G':=[]) (.o (.c .own)) .nil
  ·rcases hrow.2 with⟨rfl,_⟩|⟨g,cap,cur,rfl,hg,hgb,wF,sY,YQ,hc4⟩
   ·exact absurd (hnil.1 rfl) hp
   ·refine⟨[ub (eD a cnt)],[],[_],μ,[g],[],[],rfl,rfl,rfl,ze,YP,?_,.nil,by simp,fun b hb=>.inr (by simp at hb;omega)⟩;have he:(eD a cnt).isEmpty=false:=by cases hh:eD a cnt with
     |nil=>exact absurd hh hp
     |cons _ _=>rfl
    unfold ub;rw[he];have hb0:B0 μ (hf w') [g] (.ow false 159 2 ((eD a cnt).map fun x=>[Q' x.1,Q' x.2])) (.slice (some ⟨g,0,none⟩) ((eD a cnt).map fun x=>[Q' x.1,Q' x.2]).length cap):=by
     refine .ow ⟨(0,0),hgb,.inl rfl⟩ ?_ (by rw[ab];exact wF) YQ.symm (PF hc4);cases hm:μ g with
     |none=>rfl
     |some o=>
      have:=(gd.1 (oT g o hm)).1;omega
    rw[ab]at hb0;exact .cons (F:=[g]) (F':=[]) (G:=[]) (G':=[]) (.o (.c hb0)) .nil
 ·cases h
end Go.Proofs.YtnjccbnlmdajkaaGreat
namespace Go.Proofs.YtnjccbnlmdajkaaGreat
open Go.Proofs.Tryz renaming prog->U'
open Go.Ev
section
def rwF:FuncId->List Bool
 |69=>[true]|74=>[true,true]|102=>[true]|104=>[false,false,true]|121=>[true]|122=>[true]|123=>[true]|_=>[]
def LC:FuncId->Option (List AV->Option (List AV))
 |103=>some FH
 |_=>none
def aax:gD:={rw:=rwF,dat:=fun _=>false,inl:=fun f=>Nat.beq f 102,roll:=fun _=>8,join:=fun _=>false,cl:=fun f=>Nat.beq f 88||Nat.beq f 87}
def cfg:gD:={aax with ext:=LC}
noncomputable def ev(f:FuncId)(args:List AV):Option (List AV):=wq U' cfg f args
noncomputable def lp(f k nr:Nat)(s:St):Option LR:=lpL U' cfg f k nr s
theorem bH(f:FuncId)(args:List AV):ev f args=fC cfg f args (ig U' cfg (wq U' cfg) (iR U' cfg (wq U' cfg) 5) (kV U' cfg f) f args):=Lt f args
theorem oH(f k nr:Nat)(s:St):lp f k nr s=je U' cfg (wq U' cfg) (iR U' cfg (wq U' cfg) 5) (kV U' cfg f) (cfg.roll f) (cfg.join f) (nR U' f k).1 (nR U' f k).2 (GQ U' cfg f nr) s:=Ja f _ _ _ s
theorem afg(aB:Int):ev 16 [Q' aB]=
 cond (cq aB 1) (some [.v (.pointer none),Q' 2]) (cond (cq 256 aB) (some [.v (.pointer none),Q' 2]) (cond ((((gr 0 (IntKind.wrap .i64 (aB*8)))&&(gr (IntKind.wrap .i64 (aB*8)) (IntKind.wrap .i64 (aB*8))))&&(gr ((IntKind.wrap .i64 (aB*8))*8) 281474976710656))&&(gr (IntKind.wrap .i64 (aB*8)) 281474976710656)) (some [.ob 112 [.ow false 69 1 (List.replicate (Int.toNat (IntKind.wrap .i64 (aB*8))) ([Z' 0]:List AV)),.v (.bool false)],Q' 0]) none)):=(bH _ _).trans (by kernel_rfl)
theorem afh(aB:Int)(ay:Int)(bW:Int):ev 66 [Q' aB,Q' ay,Q' bW]=
 cond (cq aB 0) (some [.v (.pointer none),Q' 1]) (cond (gr 6 aB) (some [.v (.pointer none),Q' 1]) (cond (cq ay 0) (some [.v (.pointer none),Q' 2]) (cond (cq 59 ay) (some [.v (.pointer none),Q' 2]) (cond (cq bW 0) (some [.v (.pointer none),Q' 2]) (cond (gr 5 bW) (some [.v (.pointer none),Q' 2]) (some [.ob 139 [Q' aB,Q' ay,Q' bW,.ow true 71 9 [],Q' 0,.ow true 69 1 []],Q' 0])))))):=(bH _ _).trans (by kernel_rfl)
end
section
attribute [local congr] ek er
def IQ(a:Int):Prop:= -9223372036854775808<=a/\a<=9223372036854775807
theorem mix:U'.follows .mixedOrders=true:=by kernel_rfl
theorem jx:nX U' cfg:=by
 refine⟨fun f bs rs e=>?_,IG fun _=>rfl,fun f g e=>by cases e⟩;by_cases h:f=103
 ·subst h;exact aaw bs rs e
 ·have hf:cfg.ext f=none:=by
   show LC f=none;unfold LC;split
   ·exact absurd rfl h
   ·rfl
  simp only[fC,hf]at e;cases e
def wr(w:Int):List AV:=[Z' w]
theorem YR(w:Int):wr w=[Z' w]:=rfl
theorem aay(ws:List Int):(ws.map wr).all Oy=true:=by
 simp only[ka,pw];rintro _ ⟨w,_,rfl⟩;rfl
theorem xq(ws:List Int)(i:Nat)(h:i<ws.length):aw (ws.map wr) i=wr (ws.getD i 0):=xe wr ws 0 i h
theorem BQ(ws:List Int)(i:Nat)(w:Int):(ws.map wr).set i [Z' w]=(ws.set i w).map wr:=by rw[ahl,YR]
def iI(xs:List Int)(n:Nat)(ys:List Int):List Int:=xs.take n++ys++xs.drop (n+ys.length)
theorem ud(xs:List Int)(n:Nat)(ys:List Int)(h:n+ys.length<=xs.length):(iI xs n ys).length=xs.length:=by
 unfold iI;simp only[ec,uv,xf];omega
def acc(n:Nat)(up:Bool)(a c:Int):Int:=if c<1\/a<0\/(n:Int)<=a\/(n:Int)-a<c then 2 else if up then 0 else 4
theorem xu{n:Nat}{up:Bool}{a c:Int}(h1:1<=c)(h2:0<=a)(h3:a+c<=n):acc n up a c=if up then 0 else 4:=by
 unfold acc;rw[eg (by omega)]
theorem vP{n:Nat}{up:Bool}{a c:Int}(h:¬(1<=c/\0<=a/\a+c<=n)):acc n up a c=2:=by
 unfold acc;rw[ee (by omega)]
theorem vQ{n:Nat}{up:Bool}{a c:Int}:acc n up a c=0↔(1<=c/\0<=a/\a+c<=n/\up=true):=by
 unfold acc;split
 ·exact⟨fun h=>(by simp at h),fun h=>by omega⟩
 ·cases up with
  |true=>exact⟨fun _=>(by simp;omega),fun _=>rfl⟩
  |false=>exact⟨fun h=>(by simp at h),fun h=>(by simp at h)⟩
abbrev FI(ws:List Int)(dn:Bool):AV:=.ob 112 [.ow false 69 1 (ws.map wr),.v (.bool dn)]
abbrev YS(ws:List Int)(dn:Bool):AV:=.ep [.aq false 1 (ws.map wr),.v (.bool dn)] 0
theorem acG(n:Int)(h:1<=n/\n<=256):ev 16 [Q' n]=some [FI (List.replicate (8*n.toNat) 0) false,Q' 0]:=by
 have e:IntKind.i64.wrap (n*8)=n*8:=by rw[aD];omega
 rw[afg,aO (by omega),aO (by omega),e,cd (show 0<=n*8 by omega),cd (Int.le_refl _),cd (show n*8*8<=281474976710656 by omega),cd (show n*8<=281474976710656 by omega),show(n*8).toNat=8*n.toNat by omega];show some [AV.ob _ [AV.ow false _ 1 (List.replicate (8*n.toNat) (wr 0)),_],_]=_;rw[<-List.map_replicate]
end
