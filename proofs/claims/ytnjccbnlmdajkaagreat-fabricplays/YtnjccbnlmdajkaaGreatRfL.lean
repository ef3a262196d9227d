/- The reference's fabric: Step of a pair that is none. -/
import Derived.BigQuiet
import Derived.Test.YtnjccbnlmdajkaaGreatRfV
import Derived.Test.YtnjccbnlmdajkaaGreatDieW
import Derived.Sort.WalkB12
import Derived.Test.YtnjccbnlmdajkaaGreatSmlW
import Derived.Test.YtnjccbnlmdajkaaGreatFbP3
set_option linter.all false
namespace Go.Proofs.YtnjccbnlmdajkaaGreat
open Go.Proofs.Tryz renaming prog->U'
open Go.RowKit Go.Shelf Go.Lib Go.Ev
variable{cur:Array Value}{fz:Nat×Nat}{rest:List Int}{k:Ky}{i:Nat}{w:World}{ob:Bool}{b:Nat}
section
attribute [local go_sem] Oper.semAt_some
set_option maxHeartbeats 2000000 in
set_option maxRecDepth 1000000 in
theorem Xi(f nl lc nn nc:Nat)(LA NA:Option Addr)(c x:Int)(W:World)(hb:c<0\/(nl:Int)<=c\/x<0\/(nn:Int)<=x)(h1:Rf9 f W.heap.size LA nl lc NA nn nc (-1) c x (W.alloc (gz (-1) c x)).drew):
  Calls U' 28 #[.pointer (some ⟨f,0,none⟩),P7 (-1) c x] W fun e w'=>e=.returned (.bool false)/\∃n,w'=(W.alloc (gz (-1) c x)).drewN n:=by
 have mixed:U'.follows .mixedOrders=true:=by kernel_rfl
 obtain⟨a0,a1,a2,a3,a4⟩:=h1;have a0':(W.alloc (gz (-1) c x)).cell? ⟨W.heap.size,0,none⟩=some (.int .i64 (-1)):=a0;have a1':(W.alloc (gz (-1) c x)).cell? ⟨W.heap.size,1,none⟩=some (.int .i64 c):=a1;have a2':(W.alloc (gz (-1) c x)).cell? ⟨W.heap.size,2,none⟩=some (.int .i64 x):=a2;have Wt:(W.alloc (gz (-1) c x)).cell? ⟨f,3,none⟩=some (.slice LA nl lc):=a3;have a4':(W.alloc (gz (-1) c x)).cell? ⟨f,1,none⟩=some (.slice NA nn nc):=a4;by_cases c2:c<0
 ·have j0:decide (c<0)=true:=oS c2
  go_enter Tryz.func28,Tryz.ntmps28
  go_wp2_with fail
  go_quiet (fail)
  go_wp2
  go_ret
  exact⟨rfl,_,rfl⟩
 have j0:decide (c<0)=false:=kq c2;by_cases c3:(nl:Int)<=c
 ·have j1:decide ((nl:Int)<=c)=true:=oS c3
  go_enter Tryz.func28,Tryz.ntmps28
  go_wp2_with fail
  go_quiet (fail)
  go_wp2
  go_ret
  exact⟨rfl,_,rfl⟩
 have j1:decide ((nl:Int)<=c)=false:=kq c3;by_cases c4:x<0
 ·have j2:decide (x<0)=true:=oS c4
  go_enter Tryz.func28,Tryz.ntmps28
  go_wp2_with fail
  go_quiet (fail)
  go_wp2
  go_ret
  exact⟨rfl,_,rfl⟩
 have j2:decide (x<0)=false:=kq c4;have c5:(nn:Int)<=x:=by
  rcases hb with h|h|h|h
  ·exact absurd h c2
  ·exact absurd h c3
  ·exact absurd h c4
  ·exact h
 have j3:decide ((nn:Int)<=x)=true:=oS c5
 go_enter Tryz.func28,Tryz.ntmps28
 go_wp2_with fail
 go_quiet (fail)
 go_wp2
 go_ret
 exact⟨rfl,_,rfl⟩
end
section
attribute [local go_sem] Oper.semAt_some
section
variable{P:Program}
theorem rK{ty:Nat}(hH:w.heap[b]?=some (.cells cur ty fz))(o m sz n c:Nat)(h:o+m*sz<=cur.size):
  (Builtin.firstCells sz m (.slice (some ⟨b,o,none⟩) n c)).run P w=.ok ((cur.toList.drop o).take (m*sz)).toArray w:=by
 refine AI w sz m _ n c _ (by simp;omega) fun j v hj=>?_;rw[vp];rw[oa]at hj;split at hj
 ·rw[se]at hj;simp only[World.cell?,hH];simpa using hj
 ·cases hj
def Gg(cur:Array Value)(o:Nat)(vs:List Value):Array Value:=(cur.toList.take o++vs++cur.toList.drop (o+vs.length)).toArray
theorem TW{o:Nat}{vs:List Value}(h:o+vs.length<=cur.size):(Gg cur o vs).size=cur.size:=by
 simp[Gg];omega
theorem rL{ty:Nat}(hfz:sJ ob cur.size fz)(hH:w.heap[b]?=some (.cells cur ty fz))(o:Nat)(vs:List Value)(h:o+vs.length<=cur.size)(h1:∀v∈vs,v.oneCell'=true):
  (storeCells ⟨b,o,none⟩ vs).run P w=.ok () (w.setRow b (Gg cur o vs)):=by
 have:=cE P b o ty ob fz vs 0 cur w hH hfz (by simpa using h) h1;simpa [Gg]using this
theorem Qf{w:World}{ty:Nat}(hfz:sJ ob cur.size fz)(hH:w.heap[b]?=some (.cells cur ty fz))(t e ty2:TypeId)(z:Value)(ht:P.underlying t=some (.slice e))(hv:∀w,(zeroValue e).run P w=.ok z w)(o n c:Nat)(hn:0<n)
  (h:o+n*z.cells.size<=cur.size) (h1:∀v∈z.cells.toList,v.oneCell'=true):
  (Builtin.clear_ #[t] ty2 #[.slice (some ⟨b,o,none⟩) n c]).run P w=.ok (.tuple #[]) (w.setRow b (Gg cur o (Builtin.zeroCells z.cells n).toList)):=by
 have hst:=rL (P:=P) hfz hH o (Builtin.zeroCells z.cells n).toList (by simpa [Builtin.zeroCells]using h) (fun v hv=>by
  simp only[Builtin.zeroCells,Array.toList_map,pw,Array.toList_range,List.mem_range]at hv;obtain⟨k,hk,rfl⟩:=hv;have hp:0<z.cells.size:=by
   rcases Nat.eq_zero_or_pos z.cells.size with e|e
   ·rw[e]at hk;omega
   ·exact e
  have:=Nat.mod_lt k hp;rw[getElem!_pos z.cells _ this];exact h1 _ (by simp))
 obtain⟨m,rfl⟩:∃m,n=m+1:=⟨n-1,by omega⟩;simp[Builtin.clear_,gg ht,hv,hst]
theorem adD{p:Nat}{vs B:List Value}(h:p+vs.length+B.length<=cur.size):
  (Gg (Gg cur p vs) (p+vs.length) B).toList=cur.toList.take p++vs++(B++cur.toList.drop (p+vs.length+B.length)):=by
 have l1:(cur.toList.take p).length=p:=by simp;omega
 have l2:(cur.toList.take p++vs).length=p+vs.length:=by simp[l1]
 simp only[Gg];rw[List.take_left' l2,fh _ B]
 congr 2
 rw[<-yk,List.drop_left' l2,yk]
end
def zc:Array Value:= #[.pointer none]
theorem Zn:(U'.info? 101).map (fun i=>(i.zero,i.size,i.bytes))=some (some (.pointer none),1,8):=by kernel_rfl
theorem aaY:U'.underlying 46=some (.slice 101):=by kernel_rfl
theorem zeroE(w:World):(zeroValue 101).run U' w=.ok (.pointer none) w:=by
 have h:=Zn;cases hi:U'.info? 101 with
 |none=>rw[hi]at h;cases h
 |some i=>
  rw[hi]at h;simp only[yb,bj,de]at h;simp[zeroValue,typeInfo,hi,h.1]
set_option maxHeartbeats 4000000 in
set_option maxRecDepth 1000000 in
theorem TX(b cap i j n ty:Nat)(cur:Array Value)(w:World)(hfz:sJ ob cur.size fz)(hH:w.heap[b]?=some (.cells cur ty fz))(hc:n<=cap)(hs:cap*1=cur.size)(h1:∀v∈cur.toList.take (n*1),v.oneCell'=true)(hij:i<j)(hj:j<=n):
  Calls U' 83 #[.slice (some ⟨b,0,none⟩) n cap,.int .i64 i,.int .i64 j] w fun e w'=>e=.returned (.slice (some ⟨b,0,none⟩) (n-(j-i)) cap)/\
   ∃Fu,Fu.toList=cur.toList.take (i*1)++(cur.toList.drop (j*1)).take ((n-j)*1)++((Builtin.zeroCells zc (j-i)).toList++cur.toList.drop (n*1))/\w'=w.drew.setRow b Fu:=by
 obtain⟨I,hI,vR,qD,yJ⟩:=info_parts Zn;have hz:(Value.pointer none).cells=zc:=rfl;have hzs:zc.size=1:=rfl;have hz1:∀v∈zc.toList,v.oneCell'=true:=by decide
 obtain⟨news,hnews⟩:∃news,news=(cur.toList.drop (j*1)).take ((n-j)*1):=⟨_,rfl⟩;have wH:news.length=(n-j)*1:=by rw[hnews];simp;omega
 have hn1:∀v∈news,v.oneCell'=true:=fun v hv=>h1 v (by
  rw[hnews,List.take_drop]at hv;have:=zv hv;rwa [show j*1+(n-j)*1=n*1 by omega]at this)
 have hHd:w.drew.heap[b]?=some (.cells cur ty fz):=hH;obtain⟨A,hA,hfc⟩:∃A:Addr,(if cap=j then some (⟨b,0,none⟩:Addr)else some ⟨b,j*1,none⟩)=some A/\Hid ((Builtin.firstCells I.size (n-j) (.slice (some A) (n-j) (cap-j))).run U' w.drew=.ok news.toArray w.drew):=by
  by_cases h:cap=j
  ·refine⟨⟨b,0,none⟩,by simp[h],?_⟩;have h0:n-j=0:=by omega
   rw[hnews,h0];have:=rK (P:=U') hHd 0 0 I.size 0 (cap-j) (by omega);show _=_;simpa using this
  ·refine⟨⟨b,j*1,none⟩,by simp[h],?_⟩;rw[hnews,qD];exact rK hHd (j*1) (n-j) 1 _ _ (by omega)
 have hst:=rL (P:=U') hfz hHd (i*1) news (by rw[wH];omega) hn1;obtain⟨W1,hW1⟩:∃W1,W1=w.drew.setRow b (Gg cur (i*1) news):=⟨_,rfl⟩;have hs1:(Gg cur (i*1) news).size=cur.size:=TW (by rw[wH];omega);have hH1:W1.heap[b]?=some (.cells (Gg cur (i*1) news) ty fz):=by rw[hW1];exact GB _ _ cur _ ty _ hHd
 have hcl:∀ty,(Builtin.clear_ #[46] ty #[.slice (some ⟨b,(i+(n-j))*1,none⟩) (n-(i+(n-j))) (cap-(i+(n-j)))]).run U' W1=.ok (.tuple #[]) (W1.setRow b (Gg (Gg cur (i*1) news) ((i+(n-j))*1) (Builtin.zeroCells zc (n-(i+(n-j)))).toList)):=
  fun ty=>Qf (by rw[hs1];exact hfz) hH1 46 101 ty (.pointer none) aaY zeroE _ _ _ (by omega) (by rw[hs1,hz,hzs];omega) hz1
 have hap:Hid (∀ty,(Builtin.append_ #[46,46] ty #[.slice (some ⟨b,0,none⟩) i cap,.slice (some A) (n-j) (cap-j)]).run U' w.drew=.ok (.slice (some ⟨b,0,none⟩) (i+(n-j)) cap) W1):=fun ty=>
  fo aaY aaY rfl hI (fun w=>by simp[Builtin.lenOf]) hfc (by omega) (by
   show(storeCells ((⟨b,0,none⟩:Addr).add (i*I.size)) news).run U' w.drew=_;rw[vp,qD,gv,hW1];exact hst)
 have hfin:Hid (W1.setRow b (Gg (Gg cur (i*1) news) ((i+(n-j))*1) (Builtin.zeroCells zc (n-(i+(n-j)))).toList)=w.drew.setRow b (Gg (Gg cur (i*1) news) ((i+(n-j))*1) (Builtin.zeroCells zc (n-(i+(n-j)))).toList)):=by rw[hW1];exact setRow_setRow _ _ _ _
 have hlist:Hid ((Gg (Gg cur (i*1) news) ((i+(n-j))*1) (Builtin.zeroCells zc (n-(i+(n-j)))).toList).toList=cur.toList.take (i*1)++news++((Builtin.zeroCells zc (j-i)).toList++cur.toList.drop (n*1))):=by
  have hzl:(Builtin.zeroCells zc (n-(i+(n-j)))).toList.length=(j-i)*1:=by simp[Builtin.zeroCells,hzs];omega
  have:=adD (cur:=cur) (p:=i*1) (vs:=news) (B:=(Builtin.zeroCells zc (n-(i+(n-j)))).toList) (by rw[wH,hzl];omega);rw[hzl,wH,show i*1+(n-j)*1=(i+(n-j))*1 by omega,show(i+(n-j))*1+(j-i)*1=n*1 by omega]at this;show _=_;rw[this,show n-(i+(n-j))=j-i by omega]
 have hic:i<=cap:=by omega
 have hjc:j<=cap:=by omega
 rw[<-hnews];clear hnews hW1 hH1 hHd hH hst hs1 h1 hfc hs hn1 wH hI vR qD yJ hz hzs hz1;have mixed:U'.follows .mixedOrders=true:=by kernel_rfl
 simp only[oe]at hA hcl hap hlist hfin⊢
 go_enter Tryz.func83,Tryz.ntmps83
 go_wp2_with fail
 go_region_law_o (refine aH rfl (.tmp 22) (.tmp 25) 46 46 rfl (.slice (some ⟨b,0,none⟩) i cap) (.slice (some A) (n-j) (cap-j)) (by simp[Act.eval,Act.put]) (by simp[Act.eval,Act.put]) (hap.out _) ?_)
 go_wp2
 go_ret
 refine⟨by rw[show n-(j-i)=i+(n-j) by omega];rfl,_,hlist.out,hfin.out⟩
end
section
attribute [local go_sem] Oper.semAt_some
set_option maxRecDepth 100000
variable{w0 W:World}{μ:Mu}{I:Ky->Option ag}{t fb:Nat}{s:gN}
theorem oK{α:Type}{l:List α}{k:Nat}:(l.eraseIdx i)[k]?=l[if k<i then k else k+1]?:=by
 grind
theorem Qg{α β:Type}(f:α->β)(l:List α)(i:Nat):(l.eraseIdx i).map f=(l.map f).eraseIdx i:=kj fun k=>by
 grind
theorem TY(hK:az w0 μ I W){c:Nat}{l:List qz}(hI:I k=some (aE b c 101 1 (l.map qz.row)))(hi:i<l.length):
  Calls U' 83 #[.slice (some ⟨b,0,none⟩) l.length c,.int .i64 i,.int .i64 (i+1:Nat)] W fun e w'=>e=.returned (.slice (some ⟨b,0,none⟩) (l.length-1) c)/\az w0 μ (put I k (some (aE b c 101 1 ((l.eraseIdx i).map qz.row)))) w':=by
 obtain⟨cur,fz,h1,h2,h3,h4,h5,h6⟩:=hK.row hI;rw[ab]at h5;have hval:∀(k:Nat) (o:qz),l[k]?=some o->cur[k]?=some (ptr o.b):=fun k o ho=>by
  obtain⟨x,g1,g2⟩:=h4.2 k _ 0 _ (get_map (f:=qz.row) ho) rfl;rw[oe]at g1;rw[<-jq g2];exact g1
 have hone:∀v∈cur.toList.take (l.length*1),v.oneCell'=true:=fun v hv=>by
  obtain⟨k,hk⟩:=List.mem_iff_getElem?.1 hv;rw[oa]at hk;split at hk
  ·rename_i hlt;rw[oe]at hlt;have:=hval k _ (ao hlt);rw[<-pD,hk]at this;cases this;rfl
  ·cases hk
 have hsz:l.length<=cur.toList.length:=by
  grind
 refine(TX b c i (i+1) l.length 101 cur W h2 h1 h5 h3.symm hone (by omega) hi).mono fun e w' he=>?_;obtain⟨rfl,Fu,sY,rfl⟩:=he;refine⟨by grind,?_⟩;have hh:(W.drew.setRow b Fu).heap[b]?=some (.cells Fu 101 fz):=GB _ _ cur _ _ _ h1;have hkp:ar [b] W (W.drew.setRow b Fu):=⟨rfl,rfl,rfl,by simp_all,fun x _ hn=>setRow_other _ _ _ _ (by simpa using hn)⟩;have qL:Fu.size=cur.size:=by
  rw[<-qs,sY];simp only[ec,uv,xf,qs,oe];have:(Builtin.zeroCells zc (i+1-i)).size=1:=by rw[show i+1-i=1 by omega];simp[Builtin.zeroCells,zc]
  grind
 have hrow:bJ μ 1 ((l.eraseIdx i).map qz.row) Fu:=by
  refine⟨fun e he=>?_,fun k e j u he hu=>?_⟩
  ·obtain⟨o,_,rfl⟩:=pw.1 he;rfl
  ·rw[et]at he;cases ho:(l.eraseIdx i)[k]? with
   |none=>rw[ho]at he;cases he
   |some o=>
    rw[ho]at he;cases he;cases j with
    |succ j=>simp[qz.row]at hu
    |zero=>
     cases hu;have hlt:=aV ho;rw[To,ee hi]at hlt;rw[oK]at ho;refine⟨ptr o.b,?_,.v rfl⟩;rw[<-pD,sY];grind
 refine hK.mod (x:=aE b c 101 1 (l.map qz.row)) (y:=aE b c 101 1 ((l.eraseIdx i).map qz.row)) hI hkp (ak.refl _) (fun x o hx=>?_) (fun b o hb=>.inl hb) ?_ (by simp) (fun x hx=>.inl hx)
 ·have hne:x≠b:=fun e=>by grind
  exact hkp.get (hK.gj x o hx) (by simpa using hne)
 ·have hle:(l.eraseIdx i).length=l.length-1:=by grind
  refine .row (.ow ⟨fz,hh,by rw[qL];exact h2⟩ h6 (by grind) (by rw[qL];exact h3.symm) hrow) (fun e=>by cases e)
set_option maxHeartbeats 800000 in
set_option maxRecDepth 1000000 in
theorem Qh(bf i on oc:Nat)(OA:Option Addr)(W:World)(K:World->Prop)(hi:i<on)(h3:W.cell? ⟨bf,3,none⟩=some (.slice OA on oc))(nH:on<=100000)
  (hD:Calls U' 83 #[.slice OA on oc,.int .i64 i,.int .i64 (i+1:Nat)] W fun e w'=> ∃(A:Option Addr) (l c:Nat),e=.returned (.slice A l c)/\w'.frozen? ⟨bf,3,none⟩=false/\(∃y,w'.cell? ⟨bf,3,none⟩=some y)/\K (w'.setCell ⟨bf,3,none⟩ (.slice A l c))):
  Calls U' 37 #[.pointer (some ⟨bf,0,none⟩),.int .i64 i] W fun e w'=>e=.returned (.bool true)/\K w':=by
 have zP:(i:Int)<(on:Int):=by omega
 have hw:((i+1:Nat):Int)=(i:Int)+1:=by omega
 have hd1:¬(on<=i):=by omega
 have qw:¬((on:Int)<=(i:Int)):=by omega
 have hd3:¬((i:Int)<0):=by omega
 rw[hw]at hD;clear hw
 go_enter Tryz.func37,Tryz.ntmps37
 go_wp2_with (go_at_call 83;refine da hD ?_;clear hD;rintro e w' ⟨A,l,c,rfl,k1,⟨y,k2⟩,hK⟩)
 go_ret
 exact⟨rfl,hK⟩
theorem TZ(bf:Nat)(i:Int)(on oc:Nat)(OA:Option Addr)(W:World)(hi:i<0\/(on:Int)<=i)(h3:W.cell? ⟨bf,3,none⟩=some (.slice OA on oc)):Calls U' 37 #[.pointer (some ⟨bf,0,none⟩),.int .i64 i] W fun e w'=>e=.returned (.bool false)/\w'=W:=by
 by_cases h1:i<0
 ·go_enter Tryz.func37,Tryz.ntmps37
  go_wp2
  go_ret
  exact⟨rfl,rfl⟩
 ·have h2:(on:Int)<=i:=by omega
  go_enter Tryz.func37,Tryz.ntmps37
  go_wp2
  go_ret
  exact⟨rfl,rfl⟩
def tj(t i:Nat):Ky->Ky
 |(u,.kC k)=>if u=t/\i<=k then(u,.kC (k+1))else(u,.kC k)
 |x=>x
theorem Ew{t k:Nat}:tj t i (t,.kC k)=(t,.kC (if k<i then k else k+1)):=by
 unfold tj;grind
theorem Cr{t:Nat}(h:∀n,k≠(t,.kC n)):tj t i k=k:=by
 obtain⟨u,f⟩:=k;unfold tj;grind
theorem Qi{t:Nat}{l:Ky}(h:tj t i k=tj t i l):k=l:=by
 grind [Ew,FK.kC.inj,Prod.mk.inj,Cr]
theorem NW(hK:az w0 μ I W)(hR:ji t I fb s)(hi:i<s.os.length)(nH:s.os.length<=100000):
  Calls U' 37 #[ptr fb,.int .i64 i] W fun e w'=>e=.returned (.bool true)/\fu t w0 μ I fb {s.a with os:=s.a.os.eraseIdx i} w':=by
 obtain⟨bo,co,JL,Vo,_⟩:=hR.aaE hK (ao hi);have h3:=hR.c3 hK;rw[JL]at h3;obtain⟨F,dF⟩:=hR.cM;refine Qh fb i s.os.length co (some ⟨bo,0,none⟩) W _ hi h3 nH ?_;refine(TY hK Vo hi).mono fun e w' he=>?_;obtain⟨rfl,hK1⟩:=he;have T3:=aC (k:=(t,.lO)) (x:=some (aE bo co 101 1 ((s.os.eraseIdx i).map qz.row))) dF (aa fun e=>by cases e);obtain⟨F2,_,bq⟩:=hK1.set T3 3 (a:=.v (.slice (some ⟨bo,0,none⟩) (s.os.length-1) co)) (v:=.slice (some ⟨bo,0,none⟩) (s.os.length-1) co) (.v rfl);refine⟨_,_,_,rfl,hK1.frozen T3 3,⟨_,hK1.cell T3 (j:=3) rfl⟩,?_⟩;obtain⟨J,hJ⟩:∃J,J=put (put I (t,.lO) (some (aE bo co 101 1 ((s.os.eraseIdx i).map qz.row)))) (t,.cM) (some (bG fb F2 48 (s.cells.set 3 (.v (.slice (some ⟨bo,0,none⟩) (s.os.length-1) co))))):=⟨_,rfl⟩;rw[<-hJ]at bq;have du:=bq.ren (J:=fun k=>J (tj t i k)) (tj t i) (fun k x h=>h) (fun k l x y _ _ e=>Qi e);have Xj:∀k,k≠ .lO->k≠ .cM->J (t,k)=I (t,k):=fun k h1 h2=>by simp_all [ae,aa]
 have hne:∀k:FK,(∀n,k≠ .kC n)->J (tj t i (t,k))=J (t,k):=fun k h=>by rw[Cr (fun n e=>h n (OS e).2)]
 have hle:(s.os.eraseIdx i).length=s.os.length-1:=by grind
 refine⟨μ,_,{s with ov:=.slice (some ⟨bo,0,none⟩) (s.os.length-1) co,os:=s.os.eraseIdx i},ak.refl _,du,⟨?_,?_,fun j n hn=>?_,?_,fun c x hc=>?_,?_,fun k o ho=>?_⟩,?_,fun k hk=>?_⟩
 ·exact⟨F2,by rw[hne _ (fun n e=>by cases e),hJ,af];rfl⟩
 ·exact hR.gO.same (by grind)
 ·rw[hne _ (fun n e=>by cases e),Xj _ (fun e=>by cases e) fun e=>by cases e];exact hR.dG j n hn
 ·exact hR.cls.same (by grind)
 ·exact(hR.cl c x hc).of fun k hk=>by
   rw[hne k (fun n e=>by subst e;simp[FK.mT]at hk)];exact Xj k (fun e=>by subst e;simp[FK.mT]at hk) fun e=>by subst e;simp[FK.mT]at hk
 ·refine .inr ⟨bo,co,?_,?_⟩
  all_goals simp_all [ab,ae,aa,af]
 ·rw[Ew,Xj _ (fun e=>by cases e) fun e=>by cases e];rw[show({s with ov:=.slice (some ⟨bo,0,none⟩) (s.os.length-1) co,os:=s.os.eraseIdx i}:gN).os=s.os.eraseIdx i from rfl,oK]at ho;exact hR.os _ o ho
 ·unfold gN.a;simp only[Qg]
 ·show J (tj t i k)=I k;rw[Cr (fun n e=>hk (by rw[e])),hJ];simp_all [aP]
end
section
set_option maxRecDepth 100000
variable{w0 W:World}{μ:Mu}{I:Ky->Option ag}
def Pr.step(p:Pr)(n:qm):gh×Bool×Pr×qm:=
 match p.q with
 |[]=>(⟨0,true,[]⟩,false,p,n)
 |v::_=>
  if lN p.c p.inc v n.ws n.dn≠0 then(⟨lN p.c p.inc v n.ws n.dn,true,[]⟩,true,p.pop,n)
  else if p.ex.toNat+1<(eD v.at_ v.cnt).length then
   (⟨0,true,[]⟩,false,{p with ex:=p.ex+1,wn:=(v.out ((eD v.at_ v.cnt).getD p.ex.toNat (0,0)) n.ws).isEmpty&&p.wn,w:=p.w++v.out ((eD v.at_ v.cnt).getD p.ex.toNat (0,0)) n.ws},⟨v.mem ((eD v.at_ v.cnt).getD p.ex.toNat (0,0)) n.ws,n.dn⟩)
  else(⟨0,(v.out ((eD v.at_ v.cnt).getD p.ex.toNat (0,0)) n.ws).isEmpty&&p.wn,p.w++v.out ((eD v.at_ v.cnt).getD p.ex.toNat (0,0)) n.ws⟩,true,p.pop,⟨v.mem ((eD v.at_ v.cnt).getD p.ex.toNat (0,0)) n.ws,n.dn⟩)
structure Pr.Ok(p:Pr):Prop where
 c:0<=p.c/\p.c<=1000
 inc:0<=p.inc/\p.inc<=1000
 qn:p.q≠[]->p.qn=false
 ql:p.q.length<=1024
 w:p.w.length<=100000
 ex0:0<=p.ex
 ex:∀v r,p.q=v::r->1<=v.cnt->p.ex.toNat<(eD v.at_ v.cnt).length
theorem aaZ:U'.funcs[74]?=some Tryz.f74:=by kernel_rfl
theorem aa0(hK:az w0 μ I W){pb:Nat}{F:List Nat}{p:Pr}(hw:p.w=[]/\p.wn=true)(hI:I k=some (bG pb F 139 (pzC p))):az w0 μ (put I k (some (bG pb F 139 (yI p)))) W:=by
 refine hK.aas hI ?_;obtain⟨F0,cur,rfl,h2,h3,h4⟩:=hK.ob hI;refine .ob h2 h3 ?_;rw[show pzC p=[Q' p.c,Q' p.inc,Q' p.node,.ow p.qn 71 9 (p.q.map Vb.row),Q' p.ex]++[.aq true 0 []]from rfl]at h4;rw[show yI p=[Q' p.c,Q' p.inc,Q' p.node,.ow p.qn 71 9 (p.q.map Vb.row),Q' p.ex]++[.ow p.wn 69 1 (p.w.map wr)]from rfl];obtain⟨Fa,Fb,v1,v2,rfl,af2,r1,r2⟩:=NB h4;rw[af2];refine SG r1 ?_;cases r2 with
 | @cons Fc Fd _ _ v _ r2 r3=>
 cases r3;obtain⟨hd,rfl⟩:=SH r2;rw[hw.1,hw.2];refine .cons (F:=[]) (F':=[]) ?_ .nil;cases hd with
 | @aq _ _ _ A c vals hnil hA hc hsz hcell hv=>
 cases A with
 |none=>obtain⟨_,rfl⟩:=hA rfl;exact .own
 |some a=>cases hnil
theorem xB(hK:az w0 μ I W){l:Ky}(hkl:k≠l){pb nb:Nat}{F E:List Nat}{p:Pr}{n:qm}(hk:I k=some (bG pb F 139 (yI p)))(hl:I l=some (bG nb E 112 (sL n)))(hp:p.Ok)(hn:n.ws.length<=100000):
  Calls U' 74 #[ptr pb,ptr nb] W fun e w'=> ∃(μ':Mu) (A:Option Addr) (c:Nat) (F' E':List Nat),e=.returned (.tuple #[.agg #[.int .i64 (p.step n).1.code,.slice A (p.step n).1.w.length c],.bool (p.step n).2.1])/\ak μ μ'/\
   az w0 μ' (put (put I l (some (bG nb E' 112 (sL (p.step n).2.2.2)))) k (some (bG pb F' 139 (yI (p.step n).2.2.1)))) w'/\DR μ' (.aq (p.step n).1.wn 1 ((p.step n).1.w.map wr)) (.slice A (p.step n).1.w.length c):=by
 have af3:∃z:Bool,(z=true->(p.step n).2.2.1.w=[]/\(p.step n).2.2.1.wn=true)/\ev 74 [pO p,FI n.ws n.dn]=some ([dA (p.step n).1.code (p.step n).1.wn (p.step n).1.w,.v (.bool (p.step n).2.1)]++[.ob 139 (if z then pzC (p.step n).2.2.1 else yI (p.step n).2.2.1),.ob 112 (sL (p.step n).2.2.2)]):=by
  cases hq:p.q with
  |nil=>
   have e:p.step n=(⟨0,true,[]⟩,false,p,n):=by unfold Pr.step;rw[hq]
   rw[e];exact⟨false,(fun h=>by cases h),LN p n.ws n.dn hq⟩
  |cons v r=>
   have hqn:=hp.qn (by rw[hq];simp);by_cases hr:lN p.c p.inc v n.ws n.dn=0
   ·obtain⟨_,hg⟩:=sx hr;have hlt:=hp.ex v r hq hg.pos;have h0:=hp.ex0;have hex:p.ex=(p.ex.toNat:Int):=by omega
    have hgo:=PK p n.ws n.dn hq hqn hp.ql hn hp.c hp.inc hr hex hlt hp.w;by_cases hl:p.ex.toNat+1<(eD v.at_ v.cnt).length
    ·have e:p.step n=(⟨0,true,[]⟩,false,{p with ex:=p.ex+1,wn:=(v.out ((eD v.at_ v.cnt).getD p.ex.toNat (0,0)) n.ws).isEmpty&&p.wn,w:=p.w++v.out ((eD v.at_ v.cnt).getD p.ex.toNat (0,0)) n.ws},⟨v.mem ((eD v.at_ v.cnt).getD p.ex.toNat (0,0)) n.ws,n.dn⟩):=by
      unfold Pr.step;rw[hq];simp only[hr,M1,ya,tm,ee hl]
     rw[ee hl,<-hex]at hgo;rw[e];exact⟨false,(fun h=>by cases h),hgo⟩
    ·have e:p.step n=(⟨0,(v.out ((eD v.at_ v.cnt).getD p.ex.toNat (0,0)) n.ws).isEmpty&&p.wn,p.w++v.out ((eD v.at_ v.cnt).getD p.ex.toNat (0,0)) n.ws⟩,true,p.pop,⟨v.mem ((eD v.at_ v.cnt).getD p.ex.toNat (0,0)) n.ws,n.dn⟩):=by
      unfold Pr.step;rw[hq];simp only[hr,M1,ya,tm,eg hl]
     rw[eg hl]at hgo;rw[e];exact⟨true,(fun _=>⟨rfl,rfl⟩),hgo⟩
   ·have e:p.step n=(⟨lN p.c p.inc v n.ws n.dn,true,[]⟩,true,p.pop,n):=by
     unfold Pr.step;rw[hq];simp only[M1,hr,GO,xt]
    rw[e];exact⟨true,(fun _=>⟨rfl,rfl⟩),LO p n.ws n.dn hq hqn hp.ql hn hp.c hp.inc hr⟩
 obtain⟨z,hz,hev⟩:=af3;generalize p.step n=st at hz hev⊢;obtain⟨d,cm,p',n'⟩:=st;refine(hK.call2 mix jx hkl hk hl (bs:=[]) (vs:=[]) .nil (ra:=[dA d.code d.wn d.w,.v (.bool cm)]) hev aaZ rfl).mono fun e w' he=>?_;obtain⟨us,μ',F1,G1,F',E',rfl,hb,hm,hK',_,_,_⟩:=he;cases hb with
 | @cons Fa Fb Ga Gb _ _ v vs' hb1 hb2=>
 obtain⟨rfl,_⟩:=dM (F:=Fb) (G:=Gb) [.bool cm] hb2;obtain⟨xs,rfl,rfl,hl2,CO⟩:=Wq hb1 rfl
 match xs,hl2 with
 |[x0,x1],_=>
 obtain rfl:=jq (CO 0 _ x0 rfl rfl);have h1:=CO 1 _ x1 rfl rfl;obtain⟨A,c,rfl,_⟩:=eZ h1;rw[ab]at h1⊢;cases z with
 |false=>exact⟨μ',A,c,F',E',rfl,hm,hK',h1⟩
 |true=>
  have bq:=aa0 hK' (hz rfl) (af _ _ _);rw[aK]at bq;exact⟨μ',A,c,F',E',rfl,hm,bq,h1⟩
end
section
set_option maxRecDepth 100000
variable{w0 W:World}{μ:Mu}{I:Ky->Option ag}{t fb:Nat}{s:gN}
theorem T4(xs:List Int)(h:xs.length<=100000):ev 75 [.aq false 1 (xs.map kY)]=some [.ow false 3 1 (xs.map kY)]:=by
 rw[afj];simp only[jz,xv,ly];rw[vJ (by rw[ab];omega)];rfl
theorem aa1:U'.funcs[75]?=some Tryz.f75:=by kernel_rfl
theorem Qj(xs:List Int)(n:Bool):BN (.ow n 3 1 (xs.map kY))=true:=by
 show(xs.map kY).all (fun e=>e.all Ef)=true;rw[ka];intro e he;obtain⟨x,_,rfl⟩:=pw.1 he;rfl
theorem Xk{pp pc:Nat}{ix:Int}(hK:az w0 μ I W)(hI:I k=some (aE pp pc 3 1 ((ix::rest).map kY)))(q:Value)(hq:(q=.slice (some ⟨pp,0+1,none⟩) (rest.length+1-1) (pc-1)/\pc≠1)\/(q=.slice (some ⟨pp,0,none⟩) (rest.length+1-1) 0/\pc=1)):
  DR (hf W) (.aq false 1 (rest.map kY)) q:=by
 obtain⟨cur,fz,h1,_,_,_,h5,_⟩:=hK.row hI;rw[ab,ki]at h5;have hl:(rest.map kY).length=rest.length:=ab ..;rcases hq with⟨rfl,xW⟩|⟨rfl,xW⟩
 ·rw[show rest.length+1-1=(rest.map kY).length by rw[hl];rfl];refine .aq (fun k _=>.int .i64 (rest.getD k 0)) rfl (fun e=>by cases e) (by omega) (fun e he=>?_) (fun a ha k j hk hj=>?_) fun k e j u he hu=>?_
  ·obtain⟨x,_,rfl⟩:=pw.1 he;rfl
  ·cases ha;obtain rfl:j=0:=by omega
   rw[hl]at hk;rw[vG,vp];have:((ix::rest).map kY)[k+1]?=some (kY (rest.getD k 0)):=by
    rw[et,td,ao hk];simp[List.getD,ao hk]
   have:=hK.aL hI this (j:=0) rfl;rw[show 0+1+(k*1+0)=(k+1)*1+0 by omega];exact this
  ·rw[et]at he;cases hr:rest[k]? with
   |none=>rw[hr]at he;cases he
   |some y=>
    rw[hr]at he;cases he;cases j with
    |zero=>cases hu;show DR _ _ (.int .i64 (rest.getD k 0));rw[List.getD,hr];exact .v rfl
    |succ j=>simp[kY]at hu
 ·obtain rfl:rest=[]:=dy (by omega);exact .aq (A:=some ⟨pp,0,none⟩) (c:=0) (xs:=[]) (fun _ _=>undef) rfl (fun e=>by cases e) (dk _) (fun e he=>by cases he) (fun a ha k j hk=>absurd hk (B4 _)) (fun k e j u hk=>by simp at hk)
theorem JT(hK:az w0 μ I W)(k:Ky)(hl:rest.length<=100000){q:Value}(hq:DR (hf W) (.aq false 1 (rest.map kY)) q):
  Calls U' 75 #[q] W fun e w'=> ∃(PA:Option Addr) (c':Nat) (y:Option ag),e=.returned (.slice PA rest.length c')/\az w0 μ (put I k y) w'/\Row (put I k y) k (.slice PA rest.length c') 3 1 (rest.map kY):=by
 refine(hK.Ab mix jx (T4 rest hl) aa1 (vals:=[q]) (.cons (F:=[]) (F':=[]) (G:=[]) (G':=[]) (.o (.c (.d hq))) .nil)).mono fun e w' he=>?_;obtain⟨vs,μ',F1,G1,rfl,hK',hk,_,hb,hn⟩:=he;obtain⟨x,rfl,hb2⟩:=Go.Ev.zI hb;have hb3:=NH (YL hb2) (Qj _ _) fun b hb'=>hK.Jk (hn b hb');have hsz:=hK.kept.size;obtain⟨y,bq,hr⟩:=hK'.SS k hb3 (fun b hb'=>by have:=hn b hb';omega) (fun j x hj b hb' hm=>by
  have:=hn b hm;have:=hK.lt hj hb';omega)
 obtain⟨A,c,rfl,_⟩:=Lx hb3;rw[ab]at hr⊢;exact⟨A,c,y,rfl,bq,hr⟩
end
section
set_option maxRecDepth 100000
variable{w0 W:World}{μ:Mu}{I:Ky->Option ag}{t fb:Nat}{s:gN}
theorem Xl{μ0:Mu}{I0:Ky->Option ag}(hm0:ak μ0 μ)(hf0:∀k:Ky,k.1≠t->I k=I0 k)(hK:az w0 μ I W)(hR:ji t I fb s){c nd:Nat}{x:dH}{l:ik}(hc:s.cl[c]?=some x)(hl:x.ln[nd]?=some l){ix:Nat}(hpl:l.a.pl=(ix:Int)::rest)
  (Y8:ix<x.ba.length) (af4:rest.length<=100000) {bc cc bl ll b7:Nat} (fI:s.cv=.slice (some ⟨bc,0,none⟩) s.cl.length cc) (hlv:x.lv=.slice (some ⟨bl,0,none⟩) x.ln.length ll) {d:gh} {F7:List Nat} (hI7:I (t,.tmp 1)=some (bG b7 F7 81 d.row)) {A:Option Addr} {cA:Nat}
  (g0:W.cell? ⟨b7,0,none⟩=some (.int .i64 d.code)) (g1:W.cell? ⟨b7,1,none⟩=some (.slice A d.w.length cA)) (FU:DR μ (.aq d.wn 1 (d.w.map wr)) (.slice A d.w.length cA)):
  FT bc c bl nd b7 d.code A d.w.length cA W (fu t w0 μ0 I0 fb {s.a with cl:=s.a.cl.set c {x.a with ln:=x.a.ln.set nd ⟨l.a.p,rest⟩,ba:=x.ba.set ix d,wt:=wrap64 (x.wt-1)}}):=by
 obtain⟨bc',YZ,e1,lz,ng⟩:=hR.jy hK hc;rw[fI]at e1;injection e1 with q1 q2 q3;injection q1 with q1;injection q1 with q1;subst q1 q3;have kD:=hR.cl c x hc;obtain⟨bl',ll',e2,Cb,VL,qK⟩:=kD.zk hK hl;rw[hlv]at e2;injection e2 with q1 q2 q3;injection q1 with q1;injection q1 with q1;subst q1 q3;have hb0:x.ba[ix]?=some x.ba[ix]:=ao Y8;obtain⟨bb,pU,vE,yJ⟩:=Row.at kD.bs hb0;have NI:=ng.bv;rw[vE]at NI;have hrp:=kD.S5 nd l hl;rw[hpl]at hrp;obtain⟨pp,pc,adE,zm⟩:=Row.at (n:=0) (x:=(ix:Int)) hrp rfl;rw[adE]at qK;have xW:=hK.aL zm (get_map (f:=kY) (n:=0) (x:=(ix:Int)) rfl) (j:=0) rfl;have hbF:bb≠b7:=fun e=>by
  obtain⟨F',_,rfl,_⟩:=hK.ob hI7;exact hK.dj (t,.mO c) (t,.tmp 1) _ _ yJ hI7 (aa fun e=>by cases e) bb (by simp) (by simp[e])
 have f0:=hK.dN yJ (i:=ix) (j:=0) (by rw[ab];exact Y8) (by omega);have y0:∃y,W.cell? ⟨bb,ix*2,none⟩=some y:=⟨_,hK.aL yJ (get_map (f:=gh.row) hb0) (j:=0) rfl⟩;have wy:=hK.oF yJ (get_map (f:=gh.row) hb0) (j:=0) (by omega) (a:=Q' d.code) (v:=.int .i64 d.code) (.v rfl);obtain⟨Wa,hWa⟩:∃Wa,W.setCell ⟨bb,ix*2,none⟩ (.int .i64 d.code)=Wa:=⟨_,rfl⟩;rw[show W.setCell ⟨bb,ix*2+0,none⟩ (.int .i64 d.code)=Wa from hWa]at wy;have hIa:=af I (t,.mO c) (some (aE bb pU 81 2 ((x.ba.map gh.row).set ix (x.ba[ix].row.set 0 (Q' d.code)))));have hra:=bS (y:=x.ba[ix].row.set 0 (Q' d.code)) (get_map (f:=gh.row) hb0);have f1:=wy.dN hIa (i:=ix) (j:=1) (by rw[ff,ab];exact Y8) (by omega);obtain⟨y1v,hy1,_⟩:=wy.FE hIa hra (j:=1) rfl;have hKb:=wy.oF hIa hra (j:=1) (by omega) (a:=.aq d.wn 1 (d.w.map wr)) (v:=.slice A d.w.length cA) FU;rw[aK,bE]at hKb;have hb2:(x.ba.map gh.row).set ix ((x.ba[ix].row.set 0 (Q' d.code)).set 1 (.aq d.wn 1 (d.w.map wr)))=(x.ba.set ix d).map gh.row:=by rw[aF];rfl
 rw[hb2]at hKb;obtain⟨Wb,hWb⟩:∃Wb,Wa.setCell ⟨bb,ix*2+1,none⟩ (.slice A d.w.length cA)=Wb:=⟨_,rfl⟩;rw[hWb]at hKb;have af5:=af I (t,.mO c) (some (aE bb pU 81 2 ((x.ba.set ix d).map gh.row)));have Mj:put I (t,.mO c) (some (aE bb pU 81 2 ((x.ba.set ix d).map gh.row))) (t,.cls)=_:=aC lz (aa fun e=>by cases e);have Tc:put I (t,.mO c) (some (aE bb pU 81 2 ((x.ba.set ix d).map gh.row))) (t,.lu c)=_:=aC Cb (aa fun e=>by cases e);have adF:put I (t,.mO c) (some (aE bb pU 81 2 ((x.ba.set ix d).map gh.row))) (t,.BX c nd)=_:=aC zm (aa fun e=>by cases e);have h7:∀j,Wb.cell? ⟨b7,j,none⟩=W.cell? ⟨b7,j,none⟩:=fun j=>by
  refine oD ?_ j;rw[<-hWb,kI _ _ _ _ _ (Ne.symm hbF),<-hWa,kI _ _ _ _ _ (Ne.symm hbF)]
 have cb:=(acZ hKb Mj hc).bv;rw[vE]at cb;have cl:=hKb.aL Tc (get_map (f:=ik.row) hl) (j:=1) rfl;rw[adE]at cl;have cp:=hKb.aL adF (get_map (f:=kY) (n:=0) (x:=(ix:Int)) rfl) (j:=0) rfl;refine⟨bb,x.ba.length,pU,pp,0,rest.length+1,pc,ix,x.wt,Y8,by omega,⟨NI,qK,xW,g0,g1⟩,f0,y0,by rw[hWa];exact f1,by rw[hWa];exact⟨_,hy1⟩,by rw[hWa,hWb];exact⟨cb,cl,cp,(h7 0).trans g0,(h7 1).trans g1⟩,fun q hq=>?_⟩;rw[hWa,hWb];have CO:=Xk hKb.drew adF q hq;refine(JT hKb.drew (t,.BX c nd) af4 CO).mono fun e w' he=>?_;obtain⟨PA,c',y,rfl,du,Vq⟩:=he;have LS:put (put I (t,.mO c) (some (aE bb pU 81 2 ((x.ba.set ix d).map gh.row)))) (t,.BX c nd) y (t,.lu c)=_:=aC Tc (aa fun e=>by cases e);have qQ:nd<(x.ln.map ik.row).length:=by rw[ab];exact aV hl
 have f3:=du.dN LS qQ (j:=1) (by omega);have c3:=du.aL LS (get_map (f:=ik.row) hl) (j:=1) rfl;have eX:=du.oF LS (get_map (f:=ik.row) hl) (j:=1) (by omega) (a:=.v (.slice PA rest.length c')) (v:=.slice PA rest.length c') (.v rfl);obtain⟨w2,hw2⟩:∃w2,w'.setCell ⟨bl,nd*2+1,none⟩ (.slice PA rest.length c')=w2:=⟨_,rfl⟩;rw[hw2]at eX;have Ml:put (put (put I (t,.mO c) (some (aE bb pU 81 2 ((x.ba.set ix d).map gh.row)))) (t,.BX c nd) y) (t,.lu c) (some (aE bl ll 118 2 ((x.ln.map ik.row).set nd (l.row.set 1 (.v (.slice PA rest.length c')))))) (t,.cls)=_:=aC (aC Mj (aa fun e=>by cases e)) (aa fun e=>by cases e);have hcl:c<(s.cl.map dH.row).length:=by rw[ab];exact aV hc
 have f4:=eX.dN Ml hcl (j:=4) (by omega);have c4:=eX.aL Ml (get_map (f:=dH.row) hc) (j:=4) rfl;have uw:=eX.oF Ml (get_map (f:=dH.row) hc) (j:=4) (by omega) (a:=Q' (wrap64 (x.wt-1))) (v:=.int .i64 (wrap64 (x.wt-1))) (.v rfl);refine⟨PA,rest.length,c',w2,rfl,f3,⟨_,c3⟩,hw2,f4,c4,μ,_,{s with cl:=s.cl.set c {x with ln:=x.ln.set nd ⟨l.b,.slice PA rest.length c',⟨l.a.p,rest⟩⟩,ba:=x.ba.set ix d,wt:=wrap64 (x.wt-1)}},hm0,uw,?_,?_,aP (aP (aP (aP hf0)))⟩
 ·refine hR.di (fun k h1 h2 _=>?_) ?_ ⟨?_,?_,fun e=>?_,fun i m hm=>?_,fun i m hm=>?_⟩
  ·rw[ae _ _ (aa h1),ae _ _ (aa fun e=>by subst e;simp[FK.mT]at h2),ae _ _ (aa fun e=>by subst e;simp[FK.mT]at h2),ae _ _ (aa fun e=>by subst e;simp[FK.mT]at h2)]
  ·rw[fI];exact Row.af (by rw[ff,ab])
  ·refine .inr ⟨bl,ll,?_,?_⟩
   ·show x.lv=Value.slice _ ((x.ln.set nd _).map ik.row).length ll;rw[ab,ff];exact hlv
   ·refine(ae _ _ (aa fun e=>by cases e)).trans ((af _ _ _).trans ?_);show _=some (aE bl ll 118 2 ((x.ln.set nd _).map ik.row));rw[aF];rfl
  ·refine .inr ⟨bb,pU,?_,aC (aC (aC af5 (aa fun e=>by cases e)) (aa fun e=>by cases e)) (aa fun e=>by cases e)⟩;show x.bv=Value.slice _ ((x.ba.set ix d).map gh.row).length pU;rw[ab,ff];exact vE
  ·have:(x.ba.set ix d).length=0:=by rw[show x.ba.set ix d=[]from e];rfl
   rw[ff]at this;omega
  ·rw[ae _ _ (aa fun e=>by cases e),ae _ _ (aa fun e=>by cases e),ae _ _ (aa fun e=>by cases e),ae _ _ (aa fun e=>by cases e)];rcases bQ hm with⟨rfl,rfl⟩|⟨ne,hm⟩
   ·exact kD.ps i l hl
   ·exact kD.ps i m hm
  ·rcases bQ hm with⟨rfl,rfl⟩|⟨ne,hm⟩
   ·exact(Vq.put (aa fun e=>by cases e)).put (aa fun e=>by cases e)
   ·exact(kD.S5 i m hm).same (by
     rw[ae _ _ (aa fun e=>by cases e),ae _ _ (aa fun e=>by cases e),ae _ _ (aa fun e=>by cases e;exact ne rfl),ae _ _ (aa fun e=>by cases e)])
 ·rw[Zk];show _=_;unfold dH.a;simp only[aF]
end
