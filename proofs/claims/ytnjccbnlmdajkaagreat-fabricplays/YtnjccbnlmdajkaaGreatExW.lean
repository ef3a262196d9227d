/- The reference's execute: the walk. -/
import Derived.Test.YtnjccbnlmdajkaaGreatRpW
set_option linter.all false
namespace Go.Proofs.YtnjccbnlmdajkaaGreat
open Go.RowKit Go.Shelf Go.Lib Go.Ev
variable{pa:Nat}{at_:Int}{i:Nat}
attribute [local go_sem] Oper.semAt_some
structure Boxed(p:Prop):Prop where
 out:p
def ExS(b o wb nw cw n0 pa:Nat)(at_:Int)(vb vo vl vc idx:Nat)(x:Int)(W:World):Prop:=
 W.cell? ⟨b,o,none⟩=some (.slice (some ⟨wb,0,none⟩) nw cw)/\W.cell? ⟨n0+1,0,none⟩=some (.int .i64 pa)/\W.cell? ⟨n0,6,none⟩=some (.slice (some ⟨vb,vo,none⟩) vl vc)/\W.cell? ⟨n0,2,none⟩=some (.int .i64 at_)/\W.cell? ⟨vb,vo+idx,none⟩=some (.int .u64 x)
def ExR(b o wb nw cw n0:Nat)(pa:Nat)(at_:Int)(i:Nat)(W:World)(J:World->Prop):Prop:=
 ∃(vb vo vl vc idx:Nat) (x:Int) (W':World),ExS b o wb nw cw n0 pa at_ vb vo vl vc idx x W.drew/\
  (pa:Int)-at_+i=idx/\idx<vl/\vl<=100000/\0<=at_/\at_<=pa/\pa+i<nw/\St W.drew wb (pa+i) (.int .u64 x) W'/\ExS b o wb nw cw n0 pa at_ vb vo vl vc idx x W'/\J W'
def Q3(b o wb nw cw n0 xb pa:Nat)(y old yK:Int)(W:World):Prop:=
 W.cell? ⟨b,o,none⟩=some (.slice (some ⟨wb,0,none⟩) nw cw)/\W.cell? ⟨n0+1,0,none⟩=some (.int .i64 pa)/\W.cell? ⟨xb,0,none⟩=some (.int .u64 y)/\W.cell? ⟨n0,4,none⟩=some (.int .u64 old)/\W.cell? ⟨n0,5,none⟩=some (.int .u64 yK)
theorem ex1{nw:Nat}(h:pa+i<nw)(h2:nw<=100000):wrap64 ((pa:Int)+(i:Int))=((pa+i:Nat):Int):=by rw[mZ,aD];omega
theorem ex2(h:0<=at_)(h2:at_<=pa)(h3:pa<=100000):wrap64 ((pa:Int)-at_)=(pa:Int)-at_:=by rw[mZ,aD];omega
theorem ex3{idx:Nat}(h:(pa:Int)-at_+i=idx)(h2:idx<=100000):wrap64 ((pa:Int)-at_+(i:Int))=(idx:Int):=by rw[h,mZ,aD];omega
theorem afs{nw:Nat}(h:pa+i<nw)(h2:nw<=100000):IntKind.i64.wrap ((pa:Int)+(i:Int))=((pa+i:Nat):Int):=by rw[aD];omega
theorem aft(h:0<=at_)(h2:at_<=pa)(h3:pa<=100000):IntKind.i64.wrap ((pa:Int)-at_)=(pa:Int)-at_:=by rw[aD];omega
theorem afu{idx:Nat}(h:(pa:Int)-at_+i=idx)(h2:idx<=100000):IntKind.i64.wrap ((pa:Int)-at_+(i:Int))=(idx:Int):=by rw[h,aD];omega
theorem ex4{pn nw:Nat}(h:pa+pn<=nw)(h2:nw<=100000):IntKind.i64.wrap ((pa:Int)+(pn:Int))=((pa+pn:Nat):Int):=by rw[aD];omega
theorem WK{g n:Nat}(h:Hid (i+(g+1)=n)):i+1+g=n:=by have h':i+(g+1)=n:=h;omega
set_option maxHeartbeats 8000000 in
set_option maxRecDepth 1000000 in
theorem PW(b o wb nw cw pa pn wl wc xl xc:Nat)(kd nd at_ n old yK key bt:Int)(WA XA:Option Addr)(W W2:World)(J:Nat->World->Prop)(K:Value->World->Prop)(hb:pa+pn<=nw/\nw<=cw/\nw<=100000/\1<=pn)
  (h1:((W.alloc (.cells (aJ kd nd at_ n old yK WA wl wc key bt) 71)).alloc (.cells #[.int .i64 pa,.int .i64 pn] 165)).drew.cell? ⟨b,o,none⟩=some (.slice (some ⟨wb,0,none⟩) nw cw))
  (h2:((W.alloc (.cells (aJ kd nd at_ n old yK WA wl wc key bt) 71)).alloc (.cells #[.int .i64 pa,.int .i64 pn] 165)).drew.cell? ⟨W.heap.size+1,0,none⟩=some (.int .i64 pa))
  (h3:((W.alloc (.cells (aJ kd nd at_ n old yK WA wl wc key bt) 71)).alloc (.cells #[.int .i64 pa,.int .i64 pn] 165)).drew.cell? ⟨W.heap.size+1,1,none⟩=some (.int .i64 pn))
  (hap:Hid (∀ty,(Builtin.append_ #[59,59] ty #[.slice none 0 0,.slice (some ⟨wb,pa,none⟩) pn (cw-pa)]).run Tryz.prog ((W.alloc (.cells (aJ kd nd at_ n old yK WA wl wc key bt) 71)).alloc (.cells #[.int .i64 pa,.int .i64 pn] 165)).drew=.ok (.slice XA xl xc) W2))
  (sB:W2.cell? ⟨b,o,none⟩=some (.slice (some ⟨wb,0,none⟩) nw cw)/\W2.cell? ⟨W.heap.size+1,0,none⟩=some (.int .i64 pa)/\W2.cell? ⟨W.heap.size+1,1,none⟩=some (.int .i64 pn))
  (hk0:W2.cell? ⟨W.heap.size,0,none⟩=some (.int .i64 kd))
  (hR:(kd=1->K (.slice XA xl xc) W2)/\
   (kd=2->J 0 W2/\(∀i W',J i W'->W'.cell? ⟨W.heap.size+1,1,none⟩=some (.int .i64 pn))/\(∀i W',i<pn->J i W'->ExR b o wb nw cw W.heap.size pa at_ i W' (J (i+1)))/\∀W',J pn W'->K (.slice none 0 0) W')/\
   (kd=3->∃(xb:Nat) (y:Int),XA=some ⟨xb,0,none⟩/\0<xl/\pa<nw/\Q3 b o wb nw cw W.heap.size xb pa y old yK W2.drew/\Q3 b o wb nw cw W.heap.size xb pa y old yK W2.drew.drew/\(y=old->∃W3,St W2.drew.drew wb pa (.int .u64 yK) W3/\Q3 b o wb nw cw W.heap.size xb pa y old yK W3/\K (.slice XA xl xc) W3)/\(y≠old->K (.slice XA xl xc) W2.drew))/\
   (kd=4->∃(xb:Nat) (y:Int) (W3:World),XA=some ⟨xb,0,none⟩/\0<xl/\pa<nw/\Q3 b o wb nw cw W.heap.size xb pa y old yK W2.drew/\St W2.drew wb pa (.int .u64 (IntKind.u64.wrap (y+yK))) W3/\Q3 b o wb nw cw W.heap.size xb pa y old yK W3/\K (.slice XA xl xc) W3))
  (hkd:kd=1\/kd=2\/kd=3\/kd=4):
  Calls Tryz.prog 110 #[.pointer (some ⟨b,o,none⟩),.agg (aJ kd nd at_ n old yK WA wl wc key bt),.agg #[.int .i64 pa,.int .i64 pn]] W fun e w'=> ∃r,e=.returned r/\K r w':=by
 have mixed:Tryz.prog.follows .mixedOrders=true:=by kernel_rfl
 obtain⟨hb1,hb2,hb3,hb4⟩:=hb;have e4:=ex4 hb1 (by omega);have e41:(0:Int)<=(pa:Int)+(pn:Int):=by omega
 have e42:(pa:Int)+(pn:Int)<=(cw:Int):=by omega
 have e45:((pa:Int)+(pn:Int)).toNat=pa+pn:=by omega
 have e46:pa<=pa+pn:=by omega
 have e43:pa+pn-pa=pn:=by omega
 have e47:¬cw=pa:=by omega
 have HR:Hid ((kd=1->K (.slice XA xl xc) W2)/\
   (kd=2->J 0 W2/\(∀i W',J i W'->W'.cell? ⟨W.heap.size+1,1,none⟩=some (.int .i64 pn))/\(∀i W',i<pn->J i W'->ExR b o wb nw cw W.heap.size pa at_ i W' (J (i+1)))/\∀W',J pn W'->K (.slice none 0 0) W')/\
   (kd=3->∃(xb:Nat) (y:Int),XA=some ⟨xb,0,none⟩/\0<xl/\pa<nw/\Q3 b o wb nw cw W.heap.size xb pa y old yK W2.drew/\Q3 b o wb nw cw W.heap.size xb pa y old yK W2.drew.drew/\(y=old->∃W3,St W2.drew.drew wb pa (.int .u64 yK) W3/\Q3 b o wb nw cw W.heap.size xb pa y old yK W3/\K (.slice XA xl xc) W3)/\(y≠old->K (.slice XA xl xc) W2.drew))/\
   (kd=4->∃(xb:Nat) (y:Int) (W3:World),XA=some ⟨xb,0,none⟩/\0<xl/\pa<nw/\Q3 b o wb nw cw W.heap.size xb pa y old yK W2.drew/\St W2.drew wb pa (.int .u64 (IntKind.u64.wrap (y+yK))) W3/\Q3 b o wb nw cw W.heap.size xb pa y old yK W3/\K (.slice XA xl xc) W3)):=hR
 clear hR
 go_enter Tryz.func110,Tryz.ntmps110
 go_wp2
 have sA:((W.alloc (.cells (aJ kd nd at_ n old yK WA wl wc key bt) 71)).alloc (.cells #[.int .i64 pa,.int .i64 pn] 165)).drew.cell? ⟨b,o,none⟩=some (.slice (some ⟨wb,0,none⟩) nw cw)/\((W.alloc (.cells (aJ kd nd at_ n old yK WA wl wc key bt) 71)).alloc (.cells #[.int .i64 pa,.int .i64 pn] 165)).drew.cell? ⟨W.heap.size+1,0,none⟩=some (.int .i64 pa)/\((W.alloc (.cells (aJ kd nd at_ n old yK WA wl wc key bt) 71)).alloc (.cells #[.int .i64 pa,.int .i64 pn] 165)).drew.cell? ⟨W.heap.size+1,1,none⟩=some (.int .i64 pn):=⟨h1,h2,h3⟩;have ac7:=hap.out 59;refine(fun(afv:Boxed ?G)=>?main) ?pf
 case main=>
  go_region_law_o (refine aH rfl (.const (.slice none 0 0)) (.tmp 20) 59 59 rfl (.slice none 0 0) (.slice (some ⟨wb,pa,none⟩) pn (cw-pa)) (by simp[Act.eval,Act.put]) (by simp[Act.eval,Act.put]) ac7 ?_)
  all_goals exact afv.out
 refine⟨?_⟩;clear hap ac7 sA h1 h2 h3;rcases hkd with rfl|rfl|rfl|rfl
 ·have hK:=HR.out.1 rfl;clear HR
  go_wp2
  go_ret
  exact⟨_,rfl,hK⟩
 ·obtain⟨hJ,zR,ac8,hK⟩:=HR.out.2.1 rfl;have HN:Hid (∀i W',J i W'->W'.cell? ⟨W.heap.size+1,1,none⟩=some (.int .i64 pn)):=zR;have HB:Hid (∀i W',i<pn->J i W'->ExR b o wb nw cw W.heap.size pa at_ i W' (J (i+1))):=ac8;have HK:Hid (∀W',J pn W'->K (.slice none 0 0) W'):=hK;have HA:Hid (nw<=100000/\pa<=100000/\pn<=100000):=⟨by omega,by omega,by omega⟩;clear HR zR ac8 hK hb1 hb2 hb3 hb4 e4 e41 e42 e43 e45 e46 e47 sB
  go_wp2
  go_loopg [8] pn (fun g s8 W'=> ∃i:Nat,i+g=pn/\s8=.int .i64 i/\J i W')
  case atStart=>exact⟨0,by omega,rfl,hJ⟩
  case round=>
   obtain⟨i,hig,rfl,hI⟩:=hrel;have qQ:=HN.out i wr hI;cases gk with
   |succ g=>
    have hi:i<pn:=by omega
    obtain⟨vb,vo,vl,vc,idx,x,W',hS,aaL,hvl,afw,ha0,ha1,Ie,⟨f0,⟨y0,f1⟩,f2⟩,hS',hJ'⟩:=HB.out i wr hi hI;obtain⟨hA1,hA2,hA3⟩:=HA.out;have zP:(i:Int)<(pn:Int):=by omega
    have hw:wrap64 ((i:Int)+1)=((i+1:Nat):Int):=by rw[mZ,aD];omega
    have e1:=ex1 Ie hA1;have e1':=afs Ie hA1;have e2:=ex2 ha0 ha1 hA2;have e2':=aft ha0 ha1 hA2;have e3:=ex3 aaL (by omega);have e3':=afu aaL (by omega);have ag4:(pa:Int)+(i:Int)<(nw:Int):=by omega
    have hTN:((pa:Int)+(i:Int)).toNat=pa+i:=by omega
    have ag5:(0:Int)<=(pa:Int)+(i:Int):=by omega
    have ag6:(idx:Int)<(vl:Int):=by omega
    have HH:Hid (i+(g+1)=pn):=hig;clear hJ hI hig hi aaL ha0 ha1 afw hA1 hA2 hA3
    go_wp2
    go_region_held3 (fun w'=>w'.cell? ⟨b,o,none⟩=some (.slice (some ⟨wb,0,none⟩) nw cw)/\w'.cell? ⟨W.heap.size+1,0,none⟩=some (.int .i64 pa)/\w'.cell? ⟨W.heap.size,6,none⟩=some (.slice (some ⟨vb,vo,none⟩) vl vc)/\w'.cell? ⟨W.heap.size,2,none⟩=some (.int .i64 at_)/\w'.cell? ⟨vb,vo+idx,none⟩=some (.int .u64 x))
     (first|exact hS|exact hS') (first|fail)
    go_wp2
    go_roundg g
    case measure=>exact Nat.lt_succ_self _
    case rel=>exact⟨i+1,WK HH,by rw[hw],hJ'⟩
   |zero=>
    obtain rfl:i=pn:=by omega
    have hKK:=HK.out wr hI;clear hJ HB
    go_wp2
    go_ret
    exact⟨_,rfl,hKK⟩
 ·obtain⟨xb,y,rfl,hxl,Ie,hS,Y6,hEq,hNe⟩:=HR.out.2.2.1 rfl;have e6:((pa:Nat):Int).toNat=pa:=by omega
  have afx:(0:Int)<(xl:Int):=by omega
  have afy:(pa:Int)<(nw:Int):=by omega
  clear HR hb1 hb2 hb3 hb4 e4 e41 e42 e43 e45 e46 e47 sB
  go_wp2
  go_region_held3 (fun w'=>w'.cell? ⟨xb,0,none⟩=some (.int .u64 y)/\w'.cell? ⟨W.heap.size,4,none⟩=some (.int .u64 old))
   (first|exact⟨hS.2.2.1,hS.2.2.2.1⟩) (first|fail)
  by_cases hy:y=old
  ·have hyb:(y==old)=true:=by simpa using hy
   obtain⟨W3,⟨f0,⟨y0,f1⟩,f2⟩,Y7,hK⟩:=hEq hy;clear hEq hNe
   go_wp2
   go_region_held3 (fun w'=>w'.cell? ⟨b,o,none⟩=some (.slice (some ⟨wb,0,none⟩) nw cw)/\w'.cell? ⟨W.heap.size+1,0,none⟩=some (.int .i64 pa)/\w'.cell? ⟨W.heap.size,5,none⟩=some (.int .u64 yK))
    (first|exact⟨Y6.1,Y6.2.1,Y6.2.2.2.2⟩|exact⟨Y7.1,Y7.2.1,Y7.2.2.2.2⟩) (first|fail)
   go_wp2
   go_ret
   exact⟨_,rfl,hK⟩
  ·have hyb:(y==old)=false:=by simpa using hy
   have hK:=hNe hy;clear hEq hNe
   go_wp2
   go_ret
   exact⟨_,rfl,hK⟩
 ·obtain⟨xb,y,W3,rfl,hxl,Ie,hS,⟨f0,⟨y0,f1⟩,f2⟩,Y7,hK⟩:=HR.out.2.2.2 rfl;have e6:((pa:Nat):Int).toNat=pa:=by omega
  have afx:(0:Int)<(xl:Int):=by omega
  have afy:(pa:Int)<(nw:Int):=by omega
  clear HR hb1 hb2 hb3 hb4 e4 e41 e42 e43 e45 e46 e47 sB
  go_wp2
  go_region_held3 (fun w'=>w'.cell? ⟨b,o,none⟩=some (.slice (some ⟨wb,0,none⟩) nw cw)/\w'.cell? ⟨W.heap.size+1,0,none⟩=some (.int .i64 pa)/\w'.cell? ⟨xb,0,none⟩=some (.int .u64 y)/\w'.cell? ⟨W.heap.size,5,none⟩=some (.int .u64 yK))
   (first|exact⟨hS.1,hS.2.1,hS.2.2.1,hS.2.2.2.2⟩|exact⟨Y7.1,Y7.2.1,Y7.2.2.1,Y7.2.2.2.2⟩) (first|fail)
  go_wp2
  go_ret
  exact⟨_,rfl,hK⟩
