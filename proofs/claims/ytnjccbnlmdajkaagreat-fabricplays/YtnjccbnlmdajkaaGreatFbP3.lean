/- Post: what it does with a fabric,the whole. -/
import Derived.Test.YtnjccbnlmdajkaaGreatSmlW
import Derived.Laws.MakeOwn
import Derived.Test.YtnjccbnlmdajkaaGreatRv
import Derived.Test.YtnjccbnlmdajkaaGreatRfQ
set_option linter.all false
namespace Go.Proofs.YtnjccbnlmdajkaaGreat
open Go.RowKit Go.Shelf Go.Lib Go.Ev
set_option maxRecDepth 100000
variable{w:World}{b:Nat}{v:Value}{m c n cc:Nat}{x:lP}
section
variable{w0 W:World}{μ:Mu}{I:Ky->Option ag}{t fb:Nat}{s:gN}
abbrev rI:gh:=⟨0,true,[]⟩
theorem rJ(z:Array Value)(n j:Nat)(h:j<n):(madeCells z n)[j]?=some z[j % z.size]!:=by
 rw[madeCells,Array.getElem?_map,Array.getElem?_range,ee h];rfl
theorem Ge(m:Nat):bJ μ 2 ((List.replicate m rI).map gh.row) (madeCells (Value.agg #[.int .i64 0,.slice none 0 0]).cells (m*2)):=by
 refine⟨fun e he=>?_,fun k e j u he hu=>?_⟩
 ·obtain⟨d,hd,rfl⟩:=pw.1 he;rfl
 ·rw[et,uc]at he;by_cases hk:k<m
  ·rw[ee hk]at he;cases he;have hj:=aV hu
   match j,hj with
   |0,_=>
    cases hu;refine⟨.int .i64 0,?_,.v rfl⟩;rw[rJ _ _ _ (by omega),show(k*2+0) % (Value.agg #[.int .i64 0,.slice none 0 0]).cells.size=0 from Nat.mul_mod_left k 2];rfl
   |1,_=>
    cases hu;refine⟨.slice none 0 0,?_,gM⟩;rw[rJ _ _ _ (by omega),show(k*2+1) % (Value.agg #[.int .i64 0,.slice none 0 0]).cells.size=1 from Nat.mul_add_mod_self_right k 2 1];rfl
  ·rw[eg hk]at he;cases he
theorem Zk{s:gN}{x:dH}:({s with cl:=s.cl.set c x}:gN).a={s.a with cl:=s.a.cl.set c x.a}:=by
 unfold gN.a;simp only[aF]
theorem TS{bc:Nat}{x:dH}{ln:List th}(hm:1<=m/\m<=1024)(hc:s.cl[c]?=some x)(fI:s.cv=.slice (some ⟨bc,0,none⟩) s.cl.length cc)(hL:WI t w0 μ I fb s c x ln W):
  FP bc c m W (fu t w0 μ I fb {s.a with cl:=s.a.cl.set c {x.a with ln:=ln,ba:=List.replicate m rI,wt:=m,tr:=wrap64 (x.tr+1),po:=wrap64 (x.po+m)}}):=by
 obtain⟨μ1,I1,qq,iT,hK,hR,ha,hfr⟩:=hL;obtain⟨I67,hI,vR,qD,yJ⟩:=info_parts YY;have hmk:=Pd (P:=Tryz.prog) (w:=W) 63 81 I67 (.agg #[.int .i64 0,.slice none 0 0]) El hI vR .i64 .i64 m m (by omega) (by omega) (by rw[qD];omega) (by rw[yJ];omega) (by omega);rw[qD,kb]at hmk;have hcx:=bS (y:={x with ln:=qq}) hc;obtain⟨bc',YZ,e1,lz,_⟩:=hR.jy hK hcx;rw[show({s with cl:=s.cl.set c {x with ln:=qq}}:gN).cv=s.cv from rfl,fI]at e1;injection e1 with g1 g2 g3;injection g1 with g1;injection g1 with g1;subst g1 g3;have hK1:=hK.rE (t,.mO c) (T:=81) (c:=m) (sz:=2) (xs:=(List.replicate m rI).map gh.row) (yv (Value.agg #[.int .i64 0,.slice none 0 0]).cells (m*2)) (by rw[ab,ta];exact dk _) (Ge m);obtain⟨W1,hW1⟩:∃W1,W.alloc (.cells (madeCells (Value.agg #[.int .i64 0,.slice none 0 0]).cells (m*2)) 81 (0,0))=W1:=⟨_,rfl⟩;rw[hW1]at hK1;have hI1:put I1 (t,.mO c) (some (aE W.heap.size m 81 2 ((List.replicate m rI).map gh.row))) (t,.cls)=some (aE bc cc 99 7 ((s.cl.set c {x with ln:=qq}).map dH.row)):=aC lz (aa fun e=>by cases e);have hcm:c<((s.cl.set c {x with ln:=qq}).map dH.row).length:=by rw[ab];exact aV hcx
 have hr0:((s.cl.set c {x with ln:=qq}).map dH.row)[c]?=some (dH.row {x with ln:=qq}):=get_map hcx;have f1:=hK1.dN hI1 hcm (j:=3) (by omega);have c1:=hK1.aL hI1 hr0 (j:=3) rfl;have bq:=hK1.oF hI1 hr0 (j:=3) (by omega) (a:=.v (.slice (some ⟨W.heap.size,0,none⟩) m m)) (v:=.slice (some ⟨W.heap.size,0,none⟩) m m) (.v rfl);obtain⟨W2,Tj⟩:∃W2,W1.setCell ⟨bc,c*7+3,none⟩ (.slice (some ⟨W.heap.size,0,none⟩) m m)=W2:=⟨_,rfl⟩;rw[Tj]at bq;have kJ:=af (put I1 (t,.mO c) (some (aE W.heap.size m 81 2 ((List.replicate m rI).map gh.row)))) (t,.cls) (some (aE bc cc 99 7 (((s.cl.set c {x with ln:=qq}).map dH.row).set c ((dH.row {x with ln:=qq}).set 3 (.v (.slice (some ⟨W.heap.size,0,none⟩) m m))))));have yC:=bS (y:=(dH.row {x with ln:=qq}).set 3 (.v (.slice (some ⟨W.heap.size,0,none⟩) m m))) hr0;have f2:=bq.dN kJ (i:=c) (j:=4) (by rw[ff];exact hcm) (by omega);have c2:=bq.aL kJ yC (j:=4) rfl;have du:=bq.oF kJ yC (j:=4) (by omega) (a:=Q' m) (v:=.int .i64 m) (.v rfl);obtain⟨W3,Zl⟩:∃W3,W2.setCell ⟨bc,c*7+4,none⟩ (.int .i64 m)=W3:=⟨_,rfl⟩;rw[Zl,aK,bE]at du;have qC:=af (put I1 (t,.mO c) (some (aE W.heap.size m 81 2 ((List.replicate m rI).map gh.row)))) (t,.cls) (some (aE bc cc 99 7 (((s.cl.set c {x with ln:=qq}).map dH.row).set c (((dH.row {x with ln:=qq}).set 3 (.v (.slice (some ⟨W.heap.size,0,none⟩) m m))).set 4 (Q' m)))));have Vq:=bS (y:=((dH.row {x with ln:=qq}).set 3 (.v (.slice (some ⟨W.heap.size,0,none⟩) m m))).set 4 (Q' m)) hr0;have f3:=du.dN qC (i:=c) (j:=5) (by rw[ff];exact hcm) (by omega);have c3:=du.aL qC Vq (j:=5) rfl
 have eX:=du.oF qC Vq (j:=5) (by omega) (a:=Q' (wrap64 (x.tr+1))) (v:=.int .i64 (wrap64 (x.tr+1))) (.v rfl);obtain⟨W4,Zm⟩:∃W4,W3.setCell ⟨bc,c*7+5,none⟩ (.int .i64 (wrap64 (x.tr+1)))=W4:=⟨_,rfl⟩;rw[Zm,aK,bE]at eX;have P3:=af (put I1 (t,.mO c) (some (aE W.heap.size m 81 2 ((List.replicate m rI).map gh.row)))) (t,.cls) (some (aE bc cc 99 7 (((s.cl.set c {x with ln:=qq}).map dH.row).set c ((((dH.row {x with ln:=qq}).set 3 (.v (.slice (some ⟨W.heap.size,0,none⟩) m m))).set 4 (Q' m)).set 5 (Q' (wrap64 (x.tr+1)))))));have hr4:=bS (y:=(((dH.row {x with ln:=qq}).set 3 (.v (.slice (some ⟨W.heap.size,0,none⟩) m m))).set 4 (Q' m)).set 5 (Q' (wrap64 (x.tr+1)))) hr0;have f4:=eX.dN P3 (i:=c) (j:=6) (by rw[ff];exact hcm) (by omega);have c4:=eX.aL P3 hr4 (j:=6) rfl;have uw:=eX.oF P3 hr4 (j:=6) (by omega) (a:=Q' (wrap64 (x.po+m))) (v:=.int .i64 (wrap64 (x.po+m))) (.v rfl);rw[aK,bE]at uw;refine⟨madeCells (Value.agg #[.int .i64 0,.slice none 0 0]).cells (m*2),W2,W3,W4,_,x.tr,x.po,hmk,by rw[hW1];exact f1,by rw[hW1];exact⟨_,c1⟩,by rw[hW1];exact Tj,f2,⟨_,c2⟩,Zl,f3,c3,Zm,f4,c4,rfl,?_⟩;refine⟨μ1,_,{s with cl:=s.cl.set c {x with ln:=qq,bv:=.slice (some ⟨W.heap.size,0,none⟩) m m,ba:=List.replicate m rI,wt:=m,tr:=wrap64 (x.tr+1),po:=wrap64 (x.po+m)}},iT,uw,?_,?_,aP (aP hfr)⟩
 ·have kD:=hR.cl c _ hcx;have:=hR.di (J:=put (put I1 (t,.mO c) (some (aE W.heap.size m 81 2 ((List.replicate m rI).map gh.row)))) (t,.cls) (some (aE bc cc 99 7 (((s.cl.set c {x with ln:=qq}).map dH.row).set c (dH.row {x with ln:=qq,bv:=.slice (some ⟨W.heap.size,0,none⟩) m m,ba:=List.replicate m rI,wt:=m,tr:=wrap64 (x.tr+1),po:=wrap64 (x.po+m)})))))
   (c:=c) (x':={x with ln:=qq,bv:=.slice (some ⟨W.heap.size,0,none⟩) m m,ba:=List.replicate m rI,wt:=m,tr:=wrap64 (x.tr+1),po:=wrap64 (x.po+m)})
   (fun k h1 h2 _=>by rw[ae _ _ (aa h1),ae _ _ (aa fun e=>by subst e;simp[FK.mT]at h2)]) ?_ ⟨?_,?_,?_,fun i l hl=>?_,fun i l hl=>?_⟩
  ·rw[show({s with cl:=s.cl.set c {x with ln:=qq}}:gN).cl=s.cl.set c {x with ln:=qq}from rfl,bE]at this;exact this
  ·rw[show({s with cl:=s.cl.set c {x with ln:=qq}}:gN).cv=s.cv from rfl,fI];exact Row.af (by rw[ff,ab,ff])
  ·exact kD.ls.same (by rw[ae _ _ (aa fun e=>by cases e),ae _ _ (aa fun e=>by cases e)])
  ·refine .inr ⟨W.heap.size,m,?_,aC (af _ _ _) (aa fun e=>by cases e)⟩;rw[ab];show _=Value.slice _ (List.replicate m rI).length m;rw[ta]
  ·intro e;have:(List.replicate m rI).length=0:=by rw[show List.replicate m rI=[]from e];rfl
   rw[ta]at this;omega
  ·rw[ae _ _ (aa fun e=>by cases e),ae _ _ (aa fun e=>by cases e)];exact kD.ps i l hl
  ·exact(kD.S5 i l hl).same (by rw[ae _ _ (aa fun e=>by cases e),ae _ _ (aa fun e=>by cases e)])
 ·rw[Zk];show _=_;unfold dH.a;simp only[ha]
end
section
variable{w0 W:World}{μ:Mu}{I J:Ky->Option ag}{t fb:Nat}{s:gm}
def xA(w:World)(b n:Nat):Prop:=∃(cur:Array Value) (ty:Nat) (fz:Nat×Nat) (ob:Bool),w.heap[b]?=some (.cells cur ty fz)/\sJ ob cur.size fz/\n<=cur.size
theorem xA.lt(h:xA w b n):b<w.heap.size:=by
 obtain⟨cur,ty,fz,ob,h1,_⟩:=h;grind
theorem xA.st{j:Nat}(h:xA w b n)(hj:j<n)(v:Value):St w b j v (w.setCell ⟨b,j,none⟩ v):=by
 obtain⟨cur,ty,fz,ob,h1,h2,h3⟩:=h;exact⟨BP h2 (by omega) h1,⟨cur[j],cell_of h1 (by grind)⟩,rfl⟩
theorem xA.set{j:Nat}(h:xA w b n):xA (w.setCell ⟨b,j,none⟩ v) b n:=by
 obtain⟨cur,ty,fz,ob,h1,h2,h3⟩:=h;exact⟨_,ty,fz,ob,pT w b j v h1,by grind,by grind⟩
theorem xA.alloc{o:Obj}(h:xA w b n):xA (w.alloc o) b n:=by
 have hl:=h.lt;obtain⟨cur,ty,fz,ob,h1,h2,h3⟩:=h;exact⟨cur,ty,fz,ob,(Ev.alloc_old w o b hl).trans h1,h2,h3⟩
theorem _root_.Go.Ev.az.afW{ι:Type}[DecidableEq ι]{W:World}{μ:Mu}{I:ι->Option ag}(h:az w μ I W){k:ι}{T sz:Nat}{xs:List (List AV)}(hk:I k=some (aE b c T sz xs)):xA W b (xs.length*sz):=by
 obtain⟨cur,fz,h1,h2,h3,h4,h5,h6⟩:=h.row hk;exact⟨cur,T,fz,_,h1,h2,by rw[h3];exact fi _ h5⟩
theorem JR{α:Type}{xs:Array α}(h:b<xs.size)(f:α->α)(o:α):(xs.modify b f).push o=(xs.push o).modify b f:=by
 grind
theorem sC{j:Nat}{o:Obj}(h:xA w b n):(w.setCell ⟨b,j,none⟩ v).alloc o=(w.alloc o).setCell ⟨b,j,none⟩ v:=by
 have hl:=h.lt;unfold World.setCell World.alloc;simp_all [JR]
theorem vZ(w:World)(b j:Nat)(v:Value):(w.setCell ⟨b,j,none⟩ v).heap.size=w.heap.size:=by
 simp_all
abbrev Qe(m:Nat):Obj:=.cells (madeCells (Value.agg #[.int .i64 0,.slice none 0 0]).cells (m*2)) 81
abbrev TT(m:Nat):Obj:=.cells (madeCells (Value.bool false).cells (m*1)) 4
theorem afX:Tryz.prog.underlying 64=some (.slice 4):=by kernel_rfl
theorem mkD(w:World)(hm:m<=1024):Mk 63 m w.heap.size w (w.alloc (Qe m)):=by
 obtain⟨Inf,hI,vR,qD,yJ⟩:=Go.Ev.info_parts (P:=Tryz.prog) YY;have hmk:=Pd (P:=Tryz.prog) (w:=w) 63 81 Inf (.agg #[.int .i64 0,.slice none 0 0]) El hI vR .i64 .i64 m m (by omega) (by omega) (by rw[qD];omega) (by rw[yJ];omega) (by omega);rw[qD,kb]at hmk;exact hmk
theorem mkH(w:World)(hm:m<=1024):Mk 64 m w.heap.size w (w.alloc (TT m)):=by
 obtain⟨Inf,hI,vR,qD,yJ⟩:=Go.Ev.info_parts (P:=Tryz.prog) (t:=4) (z:=.bool false) (s:=1) (b:=1) (by kernel_rfl);have hmk:=Pd (P:=Tryz.prog) (w:=w) 64 4 Inf (.bool false) afX hI vR .i64 .i64 m m (by omega) (by omega) (by rw[qD];omega) (by rw[yJ];omega) (by omega);rw[qD,kb]at hmk;exact hmk
theorem NU(m:Nat):bJ μ 1 ((List.replicate m false).map xw) (madeCells (Value.bool false).cells (m*1)):=by
 refine⟨fun e he=>?_,fun k e j u he hu=>?_⟩
 ·obtain⟨d,hd,rfl⟩:=pw.1 he;rfl
 ·rw[et,uc]at he;by_cases hk:k<m
  ·rw[ee hk]at he;cases he;have hj:=aV hu
   match j,hj with
   |0,_=>
    cases hu;refine⟨.bool false,?_,.v rfl⟩;rw[rJ _ _ _ (by omega),show(k*1+0) % (Value.bool false).cells.size=0 from Nat.mod_one _];rfl
  grind
def sN.post(x:sN)(m:Nat):sN:={x with on:=true,dn:=List.replicate m rI,hv:=List.replicate m false,tr:=IntKind.i64.wrap (x.tr+1),po:=IntKind.i64.wrap (x.po+m)}
theorem Qa.mono{cb ci m:Nat}{w:World}{K K':World->Prop}(h:Qa cb ci m w K)(hk:∀w,K w->K' w):Qa cb ci m w K':=by
 obtain⟨tr,po,w1,w2,h1,h2,h3,h4,h5⟩:=h;exact⟨tr,po,w1,w2,h1,h2,h3,h4,hk _ h5⟩
theorem Qb.mono{cb ci m N:Nat}{a:World}{K K':World->Prop}(h:Qb cb ci m N a K)(hk:∀w,K w->K' w):Qb cb ci m N a K':=by
 obtain⟨b,c,x,bx,cx,bc,Vp,bcx,cbx,bxy,Qc,TR,e1,e2,h1,h2,h3,h4,h5,h6,h7⟩:=h;exact⟨b,c,x,bx,cx,bc,Vp,bcx,cbx,bxy,Qc,TR,e1,e2,h1,h2,h3,h4,h5,h6.mono hk,h7.mono hk⟩
theorem Xg{J':Ky->Option ag}(hK:az w0 μ J' W)(hR:eM t J fb s)(hD:wz μ s)(hx:s.cl[c]?=some x){cb:Nat}(fI:s.cv=.slice (some ⟨cb,0,none⟩) s.cl.length cc){d h:Nat}
  (e1:J' (t,.cls)=some (aE cb cc 66 7 ((s.cl.set c ⟨.slice (some ⟨d,0,none⟩) m m,.slice (some ⟨h,0,none⟩) m m,{x.a with on:=true,dn:=List.replicate m rI,hv:=List.replicate m false}⟩).map lP.row))) (e2:J' (t,.mO c)=some (aE d m 81 2 ((List.replicate m rI).map gh.row))) (e3:J' (t,.BX c 0)=some (aE h m 4 1 ((List.replicate m false).map xw)))
  (ho:∀k,k≠(t,.cls)->k≠(t,.mO c)->k≠(t,.BX c 0)->J' k=J k):Qa cb c m W (mX t w0 μ J fb {s.a with cl:=s.a.cl.set c (x.a.post m)}):=by
 have hat:=xx hK.drew e1 (bS hx);obtain⟨w1,P9,hK1⟩:=il hK.drew (bS hx) e1 (x':=⟨.slice (some ⟨d,0,none⟩) m m,.slice (some ⟨h,0,none⟩) m m,{x.a with on:=true,dn:=List.replicate m rI,hv:=List.replicate m false,tr:=IntKind.i64.wrap (x.a.tr+1)}⟩) 5 (by omega) (v:=.int .i64 (IntKind.i64.wrap (x.a.tr+1))) (.v rfl) rfl;rw[bE]at hK1;obtain⟨w2,TP,bq⟩:=il hK1 (bS hx) (af _ _ _) (x':=⟨.slice (some ⟨d,0,none⟩) m m,.slice (some ⟨h,0,none⟩) m m,x.a.post m⟩) 6 (by omega) (v:=.int .i64 (IntKind.i64.wrap (x.a.po+m))) (.v rfl) rfl;rw[aK,bE]at bq;refine⟨x.a.tr,x.a.po,w1,w2,hat.tr,hat.po,P9,TP,μ,_,{s with cl:=s.cl.set c ⟨.slice (some ⟨d,0,none⟩) m m,.slice (some ⟨h,0,none⟩) m m,x.a.post m⟩},ak.refl _,bq,hR.clS (fun k g1 g2 g3 _=>(ae _ _ (aa g1)).trans (ho _ (aa g1) (aa g2) (aa g3))) (.inr ⟨cb,cc,?_,af _ _ _⟩) (.inr ⟨d,m,?_,?_⟩) (.inr ⟨h,m,?_,?_⟩),⟨hD.ln,hD.os⟩,?_,fun k hk=>?_⟩
 ·grind
 ·show Value.slice _ m m=Value.slice _ ((List.replicate m rI).map gh.row).length m;grind
 ·exact(ae _ _ (aa fun e=>by cases e)).trans e2
 ·show Value.slice _ m m=Value.slice _ ((List.replicate m false).map xw).length m;grind
 ·exact(ae _ _ (aa fun e=>by cases e)).trans e3
 ·unfold gm.a;simp only[aF]
 ·exact(ae _ _ (fun e=>hk (by rw[e]))).trans (ho k (fun e=>hk (by rw[e])) (fun e=>hk (by rw[e])) fun e=>hk (by rw[e]))
theorem oJ(hK:az w0 μ I W){cb:Nat}{cl:List lP}{x':lP}(hx:cl[c]?=some x)(hI:I (t,.cls)=some (aE cb cc 66 7 (cl.map lP.row)))(j:Nat)(hj:j<7)(hv:DR μ (.v v) v)(he:x.row.set j (.v v)=x'.row):
  az w0 μ (put I (t,.cls) (some (aE cb cc 66 7 ((cl.set c x').map lP.row)))) (W.setCell ⟨cb,c*7+j,none⟩ v):=by
 have hK':=hK.oF hI (get_map hx) hj hv;rwa [he,<-aF]at hK'
theorem Xh(hK:az w0 μ J W)(hR:eM t J fb s)(hD:wz μ s)(hm:m<=1024)(hx:s.cl[c]?=some x){cb:Nat}(fI:s.cv=.slice (some ⟨cb,0,none⟩) s.cl.length cc)(lz:J (t,.cls)=some (aE cb cc 66 7 (s.cl.map lP.row))):
  Qb cb c m W.heap.size W (mX t w0 μ J fb {s.a with cl:=s.a.cl.set c (x.a.post m)}):=by
 have hC:xA W cb (s.cl.length*7):=by
  have:=hK.afW lz;grind
 have hcl:=aV hx;have hj:∀j,j<7->c*7+j<s.cl.length*7:=fun j h=>by omega
 have sz:∀(w:World) (o:Obj),(w.alloc o).heap.size=w.heap.size+1:=mP;have hK1:=hK.rE (t,.mO c) (T:=81) (c:=m) (sz:=2) (xs:=(List.replicate m rI).map gh.row) (yv (Value.agg #[.int .i64 0,.slice none 0 0]).cells (m*2)) (by grind) (Ge m);have bq:=hK1.rE (t,.BX c 0) (T:=4) (c:=m) (sz:=1) (xs:=(List.replicate m false).map xw) (yv (Value.bool false).cells (m*1)) (by grind) (NU m);rw[sz]at bq;have Mj:put (put J (t,.mO c) (some (aE W.heap.size m 81 2 ((List.replicate m rI).map gh.row)))) (t,.BX c 0) (some (aE (W.heap.size+1) m 4 1 ((List.replicate m false).map xw))) (t,.cls)=some (aE cb cc 66 7 (s.cl.map lP.row)):=(ae _ _ (aa fun e=>by cases e)).trans ((ae _ _ (aa fun e=>by cases e)).trans lz);have du:=oJ bq hx Mj (x':={x with a:={x.a with on:=true}}) 2 (by omega) (v:=.bool true) (.v rfl) rfl;have eX:=oJ du (bS hx) (af _ _ _) (x':=⟨.slice (some ⟨W.heap.size,0,none⟩) m m,x.hvv,{x.a with on:=true,dn:=List.replicate m rI}⟩) 3 (by omega) (v:=.slice (some ⟨W.heap.size,0,none⟩) m m) (.v rfl) rfl;rw[aK,bE]at eX;have uw:=oJ eX (bS hx) (af _ _ _) (x':=⟨.slice (some ⟨W.heap.size,0,none⟩) m m,.slice (some ⟨W.heap.size+1,0,none⟩) m m,{x.a with on:=true,dn:=List.replicate m rI,hv:=List.replicate m false}⟩) 4 (by omega) (v:=.slice (some ⟨W.heap.size+1,0,none⟩) m m) (.v rfl) rfl;rw[aK,bE]at uw;have gK1:=hK.rE (t,.BX c 0) (T:=4) (c:=m) (sz:=1) (xs:=(List.replicate m false).map xw) (yv (Value.bool false).cells (m*1)) (by grind) (NU m);have gK2:=gK1.rE (t,.mO c) (T:=81) (c:=m) (sz:=2) (xs:=(List.replicate m rI).map gh.row) (yv (Value.agg #[.int .i64 0,.slice none 0 0]).cells (m*2)) (by grind) (Ge m)
 rw[sz]at gK2;have afY:put (put J (t,.BX c 0) (some (aE W.heap.size m 4 1 ((List.replicate m false).map xw)))) (t,.mO c) (some (aE (W.heap.size+1) m 81 2 ((List.replicate m rI).map gh.row))) (t,.cls)=some (aE cb cc 66 7 (s.cl.map lP.row)):=(ae _ _ (aa fun e=>by cases e)).trans ((ae _ _ (aa fun e=>by cases e)).trans lz);have gK3:=oJ gK2 hx afY (x':={x with a:={x.a with on:=true}}) 2 (by omega) (v:=.bool true) (.v rfl) rfl;have gK4:=oJ gK3 (bS hx) (af _ _ _) (x':=⟨.slice (some ⟨W.heap.size+1,0,none⟩) m m,x.hvv,{x.a with on:=true,dn:=List.replicate m rI}⟩) 3 (by omega) (v:=.slice (some ⟨W.heap.size+1,0,none⟩) m m) (.v rfl) rfl;rw[aK,bE]at gK4;have gK5:=oJ gK4 (bS hx) (af _ _ _) (x':=⟨.slice (some ⟨W.heap.size+1,0,none⟩) m m,.slice (some ⟨W.heap.size,0,none⟩) m m,{x.a with on:=true,dn:=List.replicate m rI,hv:=List.replicate m false}⟩) 4 (by omega) (v:=.slice (some ⟨W.heap.size,0,none⟩) m m) (.v rfl) rfl;rw[aK,bE]at gK5;have m1:=mkD W hm;have m2:=mkH W hm;have m3:=mkD (W.alloc (TT m)) hm;have m4:=mkH (W.alloc (Qe m)) hm;have m5:=mkD (W.setCell ⟨cb,c*7+2,none⟩ (.bool true)) hm;have m6:=mkH (W.setCell ⟨cb,c*7+2,none⟩ (.bool true)) hm;have m7:=mkD ((W.alloc (TT m)).setCell ⟨cb,c*7+2,none⟩ (.bool true)) hm;have m8:=mkH ((W.alloc (Qe m)).setCell ⟨cb,c*7+2,none⟩ (.bool true)) hm;have m9:=mkH (((W.alloc (Qe m)).setCell ⟨cb,c*7+2,none⟩ (.bool true)).setCell ⟨cb,c*7+3,none⟩ (.slice (some ⟨W.heap.size,0,none⟩) m m)) hm;rw[sz]at m3 m4;rw[vZ,sC hC]at m5 m6;rw[vZ,sz,sC hC.alloc]at m7 m8;rw[vZ,vZ,sz,sC hC.alloc.set,sC hC.alloc]at m9
 refine⟨W.alloc (Qe m),W.alloc (TT m),W.setCell ⟨cb,c*7+2,none⟩ (.bool true),(W.alloc (Qe m)).setCell ⟨cb,c*7+2,none⟩ (.bool true),(W.alloc (TT m)).setCell ⟨cb,c*7+2,none⟩ (.bool true),(W.alloc (Qe m)).alloc (TT m),(W.alloc (TT m)).alloc (Qe m),((W.alloc (Qe m)).alloc (TT m)).setCell ⟨cb,c*7+2,none⟩ (.bool true),((W.alloc (TT m)).alloc (Qe m)).setCell ⟨cb,c*7+2,none⟩ (.bool true),
  ((W.alloc (Qe m)).setCell ⟨cb,c*7+2,none⟩ (.bool true)).setCell ⟨cb,c*7+3,none⟩ (.slice (some ⟨W.heap.size,0,none⟩) m m),(((W.alloc (Qe m)).alloc (TT m)).setCell ⟨cb,c*7+2,none⟩ (.bool true)).setCell ⟨cb,c*7+3,none⟩ (.slice (some ⟨W.heap.size,0,none⟩) m m),(((W.alloc (TT m)).alloc (Qe m)).setCell ⟨cb,c*7+2,none⟩ (.bool true)).setCell ⟨cb,c*7+3,none⟩ (.slice (some ⟨W.heap.size+1,0,none⟩) m m),_,_,
  ⟨m1,m3,m5,m7⟩,⟨m2,m4,m6,m8,m9⟩,⟨hC.st (hj 2 (by omega)) _,hC.alloc.st (hj 2 (by omega)) _,hC.alloc.st (hj 2 (by omega)) _,hC.alloc.alloc.st (hj 2 (by omega)) _,hC.alloc.alloc.st (hj 2 (by omega)) _⟩,⟨hC.alloc.set.st (hj 3 (by omega)) _,hC.alloc.alloc.set.st (hj 3 (by omega)) _,hC.alloc.alloc.set.st (hj 3 (by omega)) _⟩,⟨hC.alloc.alloc.set.set.st (hj 4 (by omega)) _,hC.alloc.alloc.set.set.st (hj 4 (by omega)) _⟩,?_,?_⟩
 all_goals grind [Xg,af,ae,aa]
end
