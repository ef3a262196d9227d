import Derived.RangeFuncNested
import Derived.RangeFuncBound
import Derived.RangeFuncCalls
import Derived.RangeFuncLeaves
import Derived.RangeFuncBox
import Derived.Shelf.Abstract
import Derived.Shelf.RegionOpen
import Derived.Stop.RegionWithIn
import Derived.WalkKit
import Derived.OwnWalkIn
import Derived.TacticsInMore
import Derived.LoopNIn
import Derived.LoopIn
import Derived.Maps.AppendAt
import Derived.Test.YtnjccbnlmdajkaaGreatProg
import Derived.Test.YtnjccbnlmdajkaaGreatEv01
set_option linter.all false
namespace Go
abbrev kt:=@_root_.Go.Calls.quiet_of_same
abbrev Is:=@_root_.Go.World.alloc_heap_new
end Go
namespace Go.Proofs.YtnjccbnlmdajkaaGreat
open Go.RowKit Go.Shelf
attribute [local go_sem] Oper.semAt_some
def lK(kind n len:Int):Int:=if kind=1 then n else if kind=2 then len else if kind=3\/kind=4 then 1 else 0
abbrev vb(kind node at_ n old new key aS:Int)(A:Option Addr)(len cap:Nat):Array Value:= #[.int .i64 kind,.int .i64 node,.int .i64 at_,.int .i64 n,.int .u64 old,.int .u64 new,.slice A len cap,.int .u64 key,.int .i64 aS]
set_option maxRecDepth 100000 in
set_option maxHeartbeats 2000000 in
theorem SW(F:Fence)(m:Nat)(h:F.fn 97)(hro:F.round=none)(kind node at_ n old new key aS:Int)(A:Option Addr)(len cap:Nat)(w:World):
  CallsIn F m Tryz.prog 97 #[.agg (vb kind node at_ n old new key aS A len cap)] w fun e w'=>e=.returned (.int .i64 (lK kind n len))/\w'=w.alloc (.cells (vb kind node at_ n old new key aS A len cap) 71):=by
 refine callsIn_of_wp Tryz.func97 rfl h ?_ hro;simp only[Tryz.ntmps97,B9,ki,rh,Nat.reduceAdd,Nat.reduceSub,Hx,HT,Of,IN,ly,AN]
 gi_wp2
 all_goals
  go_ret
  simp_all [lK]
def qk(a l:Int):Int:=if wrap64 (8-a.tmod 8)<l then wrap64 (8-a.tmod 8)else l
def zj:Nat->Int->Int->List (Int×Int)
 |0,_,_=>[]
 |k+1,a,l=>if 0<l then(a,qk a l)::zj k (wrap64 (a+qk a l)) (l-qk a l)else []
def eD(a l:Int):List (Int×Int):=zj l.toNat a l
theorem w8(a:Int):wrap64 (8-a.tmod 8)=8-a.tmod 8/\1<=8-a.tmod 8/\8-a.tmod 8<=15:=by
 have h1:=L4 a (b:=8) (by omega);have h2: -8<a.tmod 8:=by
  rcases Int.le_total 0 a with h|h
  ·have:=Int.tmod_nonneg 8 h;omega
  ·have:=L4 (-a) (b:=8) (by omega);rw[Int.neg_tmod]at this;omega
 have:wrap64 (8-a.tmod 8)=8-a.tmod 8:=by unfold wrap64;omega
 omega
theorem sw{a l:Int}(h:0<l):1<=qk a l/\qk a l<=l:=by
 have:=w8 a;unfold qk;split<;>omega
theorem Eh:∀(k k':Nat) (a l:Int),l<=k->l<=k'->zj k a l=zj k' a l
 |0,0,_,_,_,_=>rfl
 |0,k'+1,a,l,h,_=>by
  have:¬0<l:=by omega
  simp[zj,this]
 |k+1,0,a,l,_,h=>by
  have:¬0<l:=by omega
  simp[zj,this]
 |k+1,k'+1,a,l,h,h'=>by
  unfold zj;split
  ·rename_i hl;have:=sw (a:=a) hl;rw[Eh k k' _ _ (by omega) (by omega)]
  ·rfl
theorem vN{a l:Int}(h:0<l):eD a l=(a,qk a l)::eD (wrap64 (a+qk a l)) (l-qk a l):=by
 have hp:=sw (a:=a) h;have:eD a l=zj ((l.toNat-1)+1) a l:=by unfold eD;congr 1;omega
 rw[this];unfold zj;rw[ee h];unfold eD;rw[Eh (l.toNat-1) (l-qk a l).toNat _ _ (by omega) (by omega)]
theorem vO{a l:Int}(h:l<=0):eD a l=[]:=by
 unfold eD;have:l.toNat=0:=by omega
 rw[this];rfl
theorem aff{l n:Int}(h1:0<l)(h2:1<=n)(h3:n<=l)(h4:l<2147483648):wrap64 (l-n)=l-n:=by unfold wrap64;omega
def aat:Value->Nat
 | .int _ l=>l.toNat
 |_=>0
def Jo(x:Int×Int):Array Value:= #[.agg #[.int .i64 x.1,.int .i64 x.2]]
set_option maxRecDepth 100000 in
set_option maxHeartbeats 2000000 in
theorem acF(F:Fence)(n:Nat)(h25:F.fn 130)(h18:F.fn 97)(hro:F.round=none)(hn:1<=n)(l Bn:Nat)(kind node at_ nn old new key aS:Int)(A:Option Addr)(len cap:Nat)
  (W:World) (Vi:W.heap[Bn]?=some (.cells (vb kind node at_ nn old new key aS A len cap) 71 (0,0)))
  (J Jx:List (Int×Int)->World->Prop) (hJ:AbidesFrom W.heap.size J)
  (hY:∀pre x W1,J pre W1->pre.length<(eD at_ (lK kind nn len)).length->YieldAt F (n-1) Tryz.prog l (Jo x) W1 fun e W'=>
   (e=.returned (.bool true)/\J (pre++[x]) W'/\True)\/(e=.returned (.bool false)/\Jx (pre++[x]) W'))
  (NI:lK kind nn len<2147483648) (h0:J [] W):
  CallsIn F n Tryz.prog 130 #[.func (.yield l) #[] #[],.pointer (some ⟨Bn,0,none⟩)] W fun e W'=>(∃v,e=.returned v)/\
   ((∃ys,ys=eD at_ (lK kind nn len)/\J ys W')\/(∃pre,True/\Jx pre W')):=by
 refine callsIn_of_wp Tryz.func130 rfl h25 ?_ hro;simp only[Tryz.ntmps130,B9,ki,rh,Nat.reduceAdd,Nat.reduceSub,Hx,HT,Of,IN,ly,AN];have agZ:Bn<W.heap.size:=(gd.1 Vi).1;have c0:W.cell? ⟨Bn,0,none⟩=some (.int .i64 kind):=by simp[World.cell?,Vi]
 have c1:W.cell? ⟨Bn,1,none⟩=some (.int .i64 node):=by simp[World.cell?,Vi]
 have c2:W.cell? ⟨Bn,2,none⟩=some (.int .i64 at_):=by simp[World.cell?,Vi]
 have c3:W.cell? ⟨Bn,3,none⟩=some (.int .i64 nn):=by simp[World.cell?,Vi]
 have c4:W.cell? ⟨Bn,4,none⟩=some (.int .u64 old):=by simp[World.cell?,Vi]
 have c5:W.cell? ⟨Bn,5,none⟩=some (.int .u64 new):=by simp[World.cell?,Vi]
 have c6:W.cell? ⟨Bn,6,none⟩=some (.slice A len cap):=by simp[World.cell?,Vi]
 have c7:W.cell? ⟨Bn,7,none⟩=some (.int .u64 key):=by simp[World.cell?,Vi]
 have c8:W.cell? ⟨Bn,8,none⟩=some (.int .i64 aS):=by simp[World.cell?,Vi]
 have h1:J [] (W.alloc (Obj.cells (vb kind node at_ nn old new key aS A len cap) 71)).drew:=by
  refine hJ [] W _ none h0 ?_ (by simp);have:=World.grownBy_alloc W (Obj.cells (vb kind node at_ nn old new key aS A len cap) 71) none;exact⟨this.1,this.2,this.3,this.4,this.5⟩
 gi_wp2
 gi_region_with (gi_at_call 97;refine(SW F _ h18 hro _ _ _ _ _ _ _ _ _ _ _ _).mono ?_;rintro e w' ⟨rfl,rfl⟩)
 all_goals
  gi_wp2
  generalize(W.alloc (Obj.cells (vb kind node at_ nn old new key aS A len cap) 71)).drew=W0 at h1⊢;generalize hc:lK kind nn len=cnt at hY NI⊢;clear c0 c1 c2 c3 c4 c5 c6 c7 c8 h0
  gi_loopw [3,4] (fun p q wr=> ∃(a l:Int) (pre:List (Int×Int)),p=.int .i64 a/\q=.int .i64 l/\l<2147483648/\pre++eD a l=eD at_ cnt/\J pre wr)
   (fun p q wr=>aat q)
  case atStart=>
   exact⟨at_,cnt,[],rfl,rfl,NI,rfl,h1⟩
  case round=>
   obtain⟨a,ll,pre,rfl,rfl,hlb,hx,hJs⟩:=hrel;rcases Int.lt_or_le 0 ll with hl|hl
   ·have hp:=sw (a:=a) hl;have hs:=vN (a:=a) hl;have hlt:pre.length<(eD at_ cnt).length:=by rw[<-hx,hs];simp
    have hx':(pre++[(a,qk a ll)])++eD (wrap64 (a+qk a ll)) (ll-qk a ll)=eD at_ cnt:=by rw[<-hx,hs];simp
    have Ei:=aff hl hp.1 hp.2 hlb;obtain⟨fn,tmps,assign,body,hy,hR⟩:=hY pre (a,qk a ll) wr hJs hlt;rcases Int.lt_or_le (wrap64 (8-a.tmod 8)) ll with hm|hm
    ·have hN:qk a ll=wrap64 (8-a.tmod 8):=by unfold qk;rw[ee hm]
     rw[hN]at hy hR hx' Ei hp;simp only[Jo]at hy
     gi_wp2
     all_goals first|(exfalso;omega)|skip
     refine hR.mono ?_;rintro e W3 (⟨rfl,LB,_⟩|⟨rfl,aau⟩)
     ·gi_wp2
      go_roundw
      case rel=>exact⟨_,_,_,rfl,by first|rfl|rw[Ei]|(congr 1;omega),by omega,hx',LB⟩
      case measure=>simp only[aat];omega
     ·gi_wp2
      refine pB (results_none rfl _ _ _) rfl ?_;exact⟨⟨_,rfl⟩,.inr ⟨_,trivial,aau⟩⟩
    ·have hN:qk a ll=ll:=by unfold qk;rw[eg (by omega)]
     rw[hN]at hy hR hx' Ei hp;simp only[Jo]at hy
     gi_wp2
     all_goals first|(exfalso;omega)|skip
     refine hR.mono ?_;rintro e W3 (⟨rfl,LB,_⟩|⟨rfl,aau⟩)
     ·gi_wp2
      go_roundw
      case rel=>exact⟨_,_,_,rfl,by first|rfl|rw[Ei]|(congr 1;omega),by omega,hx',LB⟩
      case measure=>simp only[aat];omega
     ·gi_wp2
      refine pB (results_none rfl _ _ _) rfl ?_;exact⟨⟨_,rfl⟩,.inr ⟨_,trivial,aau⟩⟩
   ·have hs:=vO (a:=a) hl
    gi_wp2
    all_goals first|(exfalso;omega)|skip
    go_end0
    refine⟨⟨_,rfl⟩,.inl ⟨_,rfl,?_⟩⟩;rw[hs,ir]at hx;rw[hc,<-hx];exact hJs
theorem Jp:∀(k:Nat) (a l:Int),(zj k a l).length<=k
 |0,_,_=>by simp[zj]
 |k+1,a,l=>by
  unfold zj;split
  ·have:=Jp k (wrap64 (a+qk a l)) (l-qk a l);simp only[ki];omega
  ·simp
theorem zL(a l:Int):(eD a l).length<=l.toNat:=Jp _ _ _
def xp(xs:List (Int×Int)):List Value:=xs.flatMap fun x=>[.int .i64 x.1,.int .i64 x.2]
theorem PB(xs:List (Int×Int))(x:Int×Int):xp (xs++[x])=xp xs++[.int .i64 x.1,.int .i64 x.2]:=by simp[xp]
theorem aav:(Tryz.prog.info? 159).map (fun i=>(i.zero,i.size,i.bytes))=some (some (.agg #[.int .i64 0,.int .i64 0]),2,16):=by kernel_rfl
theorem Wv:Tryz.prog.underlying 155=some (.slice 159):=by kernel_rfl
def Bx2(W:World)(B:Nat)(x:Int×Int):Prop:=W.heap[B]?=some (.cells #[.int .i64 x.1,.int .i64 x.2] 159 (0,0))
theorem FF(w:World)(x y:Value)(t:TypeId):∀j u,[x,y][j]?=some u->(w.alloc (.cells #[x,y] t)).cell? ((⟨w.heap.size,0,none⟩:Addr).add j)=some u:=by
 intro j u hj
 match j,hj with
 |0,hj=>
  simp at hj;subst hj;have e:(⟨w.heap.size,0,none⟩:Addr).add 0=⟨w.heap.size,0,none⟩:=by simp[Addr.add]
  rw[e];unfold World.cell?;simp only[Is];rfl
 |1,hj=>
  simp at hj;subst hj;have e:(⟨w.heap.size,0,none⟩:Addr).add 1=⟨w.heap.size,1,none⟩:=by simp[Addr.add]
  rw[e];unfold World.cell?;simp only[Is];rfl
set_option maxHeartbeats 1000000 in
theorem PD(F:Fence)(n:Nat)(h:F.fn 119)(hro:F.round=none)(kind node at_ nn old new key aS:Int)(A:Option Addr)(len cap:Nat)(w:World):
  CallsIn F n Tryz.prog 119 #[.agg (vb kind node at_ nn old new key aS A len cap)] w fun e w'=>e=.returned (.func (.func 130) #[] #[.pointer (some ⟨w.heap.size,0,none⟩)])/\w'=w.alloc (.cells (vb kind node at_ nn old new key aS A len cap) 71):=by
 refine callsIn_of_wp Tryz.func119 rfl h ?_ hro;simp only[Tryz.ntmps119,B9,ki,rh,Nat.reduceAdd,Nat.reduceSub,Hx,HT,Of,IN,ly,AN]
 gi_wp2
 go_ret
 exact⟨rfl,rfl⟩
set_option maxRecDepth 100000 in
set_option maxHeartbeats 4000000 in
theorem PE(F:Fence)(n:Nat)(h15:F.fn 103)(h18:F.fn 97)(Dc:F.fn 119)(h25:F.fn 130)(hro:F.round=none)(hn:6<=n)(kind node at_ nn old new key aS:Int)(A:Option Addr)(len cap:Nat)(w:World)
  (NI:lK kind nn len<2147483648):
  CallsIn F n Tryz.prog 103 #[.agg (vb kind node at_ nn old new key aS A len cap)] w fun e w'=> ∃v,e=.returned v/\
   w'.ownsRow w.heap.size 159 2 v (eD at_ (lK kind nn len)).length (xp (eD at_ (lK kind nn len)))/\(v=.slice none 0 0↔eD at_ (lK kind nn len)=[])/\Below w.heap.size w w':=by
 have h1:1<=n:=by omega
 have hlen:=zL at_ (lK kind nn len);refine callsIn_of_wp_marks Tryz.func103 rfl h15 ?_ hro;simp only[Tryz.ntmps103,B9,ki,rh,Nat.reduceAdd,Nat.reduceSub,Hx,HT,Of,IN,ly,AN]
 gi_wp2_with (gi_at_call 119;refine(PD F (n-1) Dc hro _ _ _ _ _ _ _ _ _ _ _ _).mono ?_;rintro e w' ⟨rfl,rfl⟩)
 have bO:=(Boxed.new (w.alloc (.cells (vb kind node at_ nn old new key aS A len cap) 71)) 155 (.slice none 0 0)).alloc (.cells (vb kind node at_ nn old new key aS A len cap) 71);simp only[World.size_alloc]at bO;have hcap:=Is ((w.alloc (.cells (vb kind node at_ nn old new key aS A len cap) 71)).alloc (.cells #[.slice none 0 0] 155)) (.cells (vb kind node at_ nn old new key aS A len cap) 71);simp only[World.size_alloc]at hcap;have hB0:Below w.heap.size w (((w.alloc (.cells (vb kind node at_ nn old new key aS A len cap) 71)).alloc (.cells #[.slice none 0 0] 155)).alloc (.cells (vb kind node at_ nn old new key aS A len cap) 71)):=(((Below.refl _ w).alloc (dk _) _).alloc (by simp) _).alloc (by simp;omega) _;have hsz:(((w.alloc (.cells (vb kind node at_ nn old new key aS A len cap) 71)).alloc (.cells #[.slice none 0 0] 155)).alloc (.cells (vb kind node at_ nn old new key aS A len cap) 71)).heap.size=w.heap.size+3:=by simp
 obtain⟨W0,hW0⟩:∃W0,(((w.alloc (.cells (vb kind node at_ nn old new key aS A len cap) 71)).alloc (.cells #[.slice none 0 0] 155)).alloc (.cells (vb kind node at_ nn old new key aS A len cap) 71))=W0:=⟨_,rfl⟩;rw[hW0]at bO hB0 hsz hcap⊢;clear hW0;obtain⟨i0,hi,hz0,hz1,hz2⟩:=info_parts aav;generalize hPS:eD at_ (lK kind nn len)=PS at hlen⊢;refine wpIn_rangeFunc_ownH hro h1 (gf:=130) (lb:= #[.pointer (some ⟨w.heap.size+1+1,0,none⟩)]) rfl h25 (enters_of Tryz.func130 (by kernel_rfl) rfl)
  (encs:=Jo) (Kp:=fun _ _=>True) (S:=fun ys=>ys=PS) (Sp:=fun _=>True) (N:=PS.length) (w0:=W0)
  ?hseq (fun _ _=>trivial) (fun _ _ _ _ _ _ _ _=>trivial) (Below.refl _ _) (fun _=>rfl)
  (fun pre W=>(∃v,Boxed W (w.heap.size+1) 155 v/\W.ownsRow w.heap.size 159 2 v pre.length (xp pre)/\(v=.slice none 0 0↔pre=[]))/\Below w.heap.size w W)
  (fun _ _ _=>False)
  (OwnFrom.and (Own.from (holdsRow_own w.heap.size (w.heap.size+1) 155 159 2 (fun(pre:List (Int×Int))=>pre.length) (fun pre=>xp pre) (fun pre v=>v=.slice none 0 0↔pre=[])) _) (ownFrom_below (dk _) (by omega)))
  (fun _ _ _ _ _ hs _ _=>hs)
  ⟨⟨_,bO,World.ownsRow_nil _ _ _ _,by simp⟩,hB0⟩
  (fun x a' W=> ∃Bx,w.heap.size+1<Bx/\Bx2 W Bx x/\a'={tmps:= #[.agg (vb kind node at_ nn old new key aS A len cap),.pointer (some ⟨w.heap.size,0,none⟩),.slice none 0 0,.pointer (some ⟨w.heap.size+1,0,none⟩),.pointer (some ⟨Bx,0,none⟩),.agg (vb kind node at_ nn old new key aS A len cap),.func (.func 130) #[] #[.pointer (some ⟨w.heap.size+1+1,0,none⟩)],.agg #[.int .i64 x.1,.int .i64 x.2],undef,undef,undef,undef,undef],defers:=[]})
  (fun x a' _ X Y row hs hg hr=>by
   obtain⟨Bx,h1,h2,h3⟩:=hs;refine⟨Bx,h1,(hg.block Bx (gd.1 h2).1 (fun e=>?_)).trans h2,h3⟩;obtain⟨_,o,ho,hc⟩:=hr Bx e.symm;rw[show X.heap[Bx]?=_ from h2]at ho;cases ho;cases hc)
  ?assign ?body ?done ?stop
 case hseq=>
  intro l J Jx W hW hJ _ hY h0;exact(acF F (n-1) h25 h18 hro (by omega) l (w.heap.size+1+1) kind node at_ nn old new key aS A len cap W ((hW.block _ (by omega)).trans hcap) J Jx hJ (by rw[hPS];exact hY) NI h0).mono (by rw[hPS];exact fun _ _ h=>h)
 case assign=>
  rintro l pre x W K ⟨⟨v,bS1,hr1,hnil⟩,YO⟩ hK;simp only[Jo]
  gi_wp2
  exact hK _ _ ((KeepsOthers.alloc _ _).from _) trivial ⟨⟨v,bS1.alloc _,hr1.alloc _,hnil⟩,YO.alloc YO.size _⟩ ⟨W.heap.size,bS1.lt,Is W _,rfl⟩
 case body=>
  rintro l pre x a' W hl ⟨r,hr⟩ ⟨⟨v,bS1,hr1,hnil⟩,YO⟩ ⟨Bx,hBx,bX,rfl⟩ hlt;have cS:=bS1.cell;have ag0:Bx<W.heap.size:=(gd.1 bX).1;have cX0:W.cell? ⟨Bx,0,none⟩=some (.int .i64 x.1):=by simp[World.cell?,show W.heap[Bx]?=_ from bX]
  have cX1:W.cell? ⟨Bx,1,none⟩=some (.int .i64 x.2):=by simp[World.cell?,show W.heap[Bx]?=_ from bX]
  have hle:=YO.size
  gi_wp2_with (gi_at_builtin;refine wpListIn_append_own _ rfl _ _ 155 rfl w.heap.size 159 i0 (.agg #[.int .i64 0,.int .i64 0]) 2 16 Wv hi hz0 hz1 hz2 rfl (by decide) _ _ _ rfl (hr1.alloc _) ⟨W.heap.size,0,none⟩ 1 1 [.int .i64 x.1,.int .i64 x.2] rfl rfl (FF _ _ _ _) (by simp[Value.oneCell']) (by simp only[maxLen];omega) (by omega) (by simp;omega) ?_;intro v' w1 hown' hgrow _;obtain⟨g',cap',rfl⟩:=ownsRow_succ hown';obtain⟨hv1,QW,yC,hk2,hb2⟩:=bS1.appended (by decide) hr1 YO.size (by omega) hown' hgrow;have wF:=hv1.cell;have Vh:=hv1.frozen)
  refine⟨hk2.from _,trivial,⟨_,QW,?_,by simp⟩,YO.trans hb2⟩;rw[PB,ec];exact yC
 case done=>
  rintro D zs W hD rfl ⟨⟨v,bS1,hr1,hnil⟩,YO⟩ hK;have cS:=bS1.cell
  gi_wp2
  refine⟨by simp,.inl ⟨_,_,rfl,run_takeDeferred hK,?_⟩⟩;exact⟨_,results_tmp rfl _ _ _,v,rfl,by rw[hPS];exact ownsRow_putObj hr1 _ hK rfl,by rw[hPS];exact hnil,YO.trans (belowK_b (w:=w) (dk _) W D _ _ (by omega) hK rfl rfl)⟩
 case stop=>
  rintro D c pre W _ _ h _;exact h.elim
