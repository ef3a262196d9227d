/- An evaluator of the model's code on abstract values: slices that are only read are lists,what a call makes for itself lies in a small store. What it computes is shown to be what the code does (next texts). -/
import Derived.WalkKit
set_option linter.all false
namespace Go
abbrev ab:=@_root_.List.length_map
abbrev ao:=@_root_.List.getElem?_eq_getElem
abbrev bj:=@_root_.Option.some.injEq
abbrev cj:=@_root_.Nat.eq_of_beq_eq_true
abbrev da:=@_root_.Go.Calls.mono
abbrev dd:=@_root_.Bool.and_eq_true
abbrev de:=@_root_.Prod.mk.injEq
abbrev dk:=@_root_.Nat.le_refl
abbrev dp:=@_root_.List.mem_of_getElem?
abbrev dt:=@_root_.List.not_mem_nil
abbrev dy:=@_root_.List.eq_nil_of_length_eq_zero
abbrev ec:=@_root_.List.length_append
abbrev ee:=@_root_.if_pos
abbrev eg:=@_root_.if_neg
abbrev eh:=@_root_.Go.Result.andThen_ok
abbrev en:=@_root_.List.getElem?_append_right
abbrev et:=@_root_.List.getElem?_map
abbrev eR:=@_root_.List.getElem?_eq_some_iff
abbrev ff:=@_root_.List.length_set
abbrev fh:=@_root_.List.append_assoc
abbrev fi:=@_root_.Nat.mul_le_mul_right
abbrev fj:=@_root_.List.getElem?_append_left
abbrev ft:=@_root_.List.mem_cons
abbrev fv:=@_root_.Go.Sem.run_pure
abbrev fy:=@_root_.Go.Sem.run_bind
abbrev gd:=@_root_.Array.getElem?_eq_some_iff
abbrev gg:=@_root_.Go.run_underlying
abbrev gv:=@_root_.Nat.zero_add
abbrev gw:=@_root_.List.mem_append
abbrev im:=@_root_.List.map_append
abbrev ir:=@_root_.List.append_nil
abbrev iS:=@_root_.Nat.le_trans
abbrev jz:=@_root_.cond_false
abbrev ka:=@_root_.List.all_eq_true
abbrev kb:=@_root_.Int.toNat_natCast
abbrev kc:=@_root_.List.getD_eq_getElem?_getD
abbrev kh:=@_root_.List.setIfInBounds_toArray
abbrev ki:=@_root_.List.length_cons
abbrev kj:=@_root_.List.ext_getElem?
abbrev kl:=@_root_.Option.bind_eq_some_iff
abbrev km:=@_root_.Bool.or_eq_false_iff
abbrev kn:=@_root_.Option.map_eq_some_iff
abbrev kq:=@_root_.decide_eq_false
abbrev ly:=@_root_.List.nil_append
abbrev me:=@_root_.cond_true
abbrev mj:=@_root_.List.getElem?_set
abbrev my:=@_root_.List.set_cons_zero
abbrev na:=@_root_.Nat.add_zero
abbrev nm:=@_root_.List.mem_cons_of_mem
abbrev nt:=@_root_.Nat.zero_le
abbrev oa:=@_root_.List.getElem?_take
abbrev od:=@_root_.Nat.lt_or_ge
abbrev oe:=@_root_.Nat.mul_one
abbrev oE:=@_root_.beq_eq_false_iff_ne
abbrev oS:=@_root_.decide_eq_true
abbrev pe:=@_root_.Nat.le_of_ble_eq_true
abbrev pk:=@_root_.Bool.not_eq_true'
abbrev pt:=@_root_.Bool.not_eq_false'
abbrev pv:=@_root_.List.set_cons_succ
abbrev pw:=@_root_.List.mem_map
abbrev pB:=@_root_.Go.bodyPost_ret
abbrev pC:=@_root_.Bool.or_eq_true
abbrev pD:=@_root_.Array.getElem?_toList
abbrev qs:=@_root_.Array.length_toList
abbrev qS:=@_root_.List.length_eq_one_iff
abbrev re:=@_root_.or_false
abbrev rh:=@_root_.List.length_nil
abbrev ri:=@_root_.Array.getElem?_eq_getElem
abbrev rj:=@_root_.congrArg
abbrev rk:=@_root_.List.nodup_append
abbrev sd:=@_root_.List.getElem?_set_ne
abbrev se:=@_root_.List.getElem?_drop
abbrev sh:=@_root_.Nat.add_mul
abbrev sq:=@_root_.List.nodup_nil
abbrev ss:=@_root_.Option.some.inj
abbrev ta:=@_root_.List.length_replicate
abbrev td:=@_root_.List.getElem?_cons_succ
abbrev te:=@_root_.List.getElem?_cons_zero
abbrev ti:=@_root_.Go.wp_mono
abbrev tm:=@_root_.if_false
abbrev tn:=@_root_.of_decide_eq_true
abbrev tp:=@_root_.decide_eq_true_eq
abbrev tw:=@_root_.Bool.true_and
abbrev tx:=@_root_.Bool.false_eq_true
abbrev uc:=@_root_.List.getElem?_replicate
abbrev uv:=@_root_.List.length_take
abbrev vh:=@_root_.List.mem_flatMap
abbrev vj:=@_root_.Nat.add_assoc
abbrev vp:=@_root_.Go.Addr.add_lit
abbrev vq:=@_root_.List.getElem?_set_self
abbrev vt:=@_root_.List.getElem?_range
abbrev vy:=@_root_.List.getElem?_toArray
abbrev we:=@_root_.List.getElem?_eq_none
abbrev wx:=@_root_.Nat.lt_of_lt_of_le
abbrev xf:=@_root_.List.length_drop
abbrev xi:=@_root_.Bool.not_true
abbrev xr:=@_root_.Bool.and_true
abbrev xt:=@_root_.if_true
abbrev xv:=@_root_.Bool.and_false
abbrev ya:=@_root_.not_true_eq_false
abbrev yb:=@_root_.Option.map_some
abbrev yi:=@_root_.List.take_of_length_le
abbrev yk:=@_root_.List.drop_drop
abbrev yr:=@_root_.List.mapM_cons
abbrev yv:=@_root_.Go.size_madeCells
abbrev yW:=@_root_.Bool.false_and
abbrev zd:=@_root_.Nat.xor_lt_two_pow
abbrev zp:=@_root_.List.mem_or_eq_of_mem_set
abbrev zv:=@_root_.List.mem_of_mem_drop
abbrev As:=@_root_.List.nodup_cons
abbrev At:=@_root_.Go.results_tmp2
abbrev Ax:=@_root_.List.flatMap_cons
abbrev AD:=@_root_.Bool.and_self
abbrev AI:=@_root_.Go.run_firstCells_some
abbrev AM:=@_root_.beq_self_eq_true
abbrev AN:=@_root_.List.cons_append
abbrev AS:=@_root_.Bool.not_false
abbrev AT:=@_root_.Nat.blt_eq
abbrev By:=@_root_.Nat.zero_mul
abbrev BE:=@_root_.List.map_map
abbrev BT:=@_root_.List.mem_singleton
abbrev BY:=@_root_.List.mem_cons_self
abbrev B3:=@_root_.Nat.min_eq_left
abbrev B4:=@_root_.Nat.not_lt_zero
abbrev B5:=@_root_.List.map_cons
abbrev B7:=@_root_.List.cons.inj
abbrev B8:=@_root_.not_not_intro
abbrev B9:=@_root_.List.size_toArray
abbrev C1:=@_root_.List.mem_of_mem_take
abbrev C7:=@_root_.List.drop_eq_getElem_cons
abbrev DO:=@_root_.List.mem_append_left
abbrev D0:=@_root_.List.mem_iff_getElem
abbrev Fi:=@_root_.List.length_pos_iff
abbrev FG:=@_root_.List.foldl_cons
abbrev GB:=@_root_.Go.setRow_heap
abbrev GC:=@_root_.List.flatten_cons
abbrev GO:=@_root_.not_false_eq_true
abbrev Hb:=@_root_.Nat.mul_comm
abbrev Hc:=@_root_.Nat.beq_refl
abbrev Hh:=@_root_.Nat.sub_self
abbrev Hi:=@_root_.List.set_append_right
abbrev Hn:=@_root_.List.mem_append_right
abbrev Hp:=@_root_.Option.getD_some
abbrev Hs:=@_root_.List.getElem?_of_mem
abbrev Hx:=@_root_.Array.replicate_succ
abbrev HT:=@_root_.Array.replicate_zero
abbrev It:=@_root_.List.cons_ne_nil
abbrev Iv:=@_root_.Array.toList_setIfInBounds
abbrev Ix:=@_root_.List.all_cons
abbrev ID:=@_root_.Bool.false_or
abbrev IF:=@_root_.List.map_take
abbrev IH:=@_root_.List.replicate_succ
abbrev IN:=@_root_.List.append_toArray
abbrev IS:=@_root_.List.getElem?_eq_none_iff
abbrev IT:=@_root_.of_decide_eq_false
abbrev Kd:=@_root_.Go.run_loadCells_list
abbrev KB:=@_root_.Bool.or_true
abbrev Lo:=@_root_.List.mem_replicate
abbrev L4:=@_root_.Int.tmod_lt_of_pos
abbrev M1:=@_root_.ne_eq
abbrev NO:=@_root_.Go.size_zeroCells
abbrev Of:=@_root_.List.push_toArray
abbrev On:=@_root_.List.take_add_one
abbrev OF:=@_root_.List.drop_eq_nil_of_le
abbrev ON:=@_root_.Go.grownCap_ge
abbrev OR:=@_root_.Go.rounds_succ
abbrev OS:=@_root_.Prod.mk.inj
abbrev Pd:=@_root_.Go.run_makeSlice
abbrev Pe:=@_root_.List.getElem_mem
abbrev PC:=@_root_.Array.mem_append
abbrev Rr:=@_root_.Option.bind_some
abbrev R0:=@_root_.Nat.min_eq_right
abbrev Se:=@_root_.List.take_append_drop
abbrev Sf:=@_root_.List.length_filter_le
abbrev SO:=@_root_.Nat.succ_mul
abbrev S4:=@_root_.List.range_succ
abbrev To:=@_root_.List.length_eraseIdx
abbrev TO:=@_root_.List.replicate_succ'
abbrev T2:=@_root_.List.getElem_of_mem
abbrev UP:=@_root_.List.replicate_zero
abbrev ZD:=@_root_.List.mem_map_of_mem
abbrev abi:=@_root_.Go.wp_loop_rounds
abbrev ago:=@_root_.Option.isNone_none
abbrev ahg:=@_root_.List.sum_cons
abbrev ahh:=@_root_.Decidable.not_not
abbrev ahi:=@_root_.List.length_range
abbrev ahj:=@_root_.Nat.le_add_right
abbrev ahk:=@_root_.Nat.sub_zero
abbrev ahl:=@_root_.List.map_set
abbrev ahm:=@_root_.List.take_length
end Go
namespace Go.Ev
variable{w:World}{v:Value}{l:Nat}
section
inductive AV where
 |v (x:Value)
 |agg (cs:List AV)
 |kK (vs:List AV)
 |aq (nil:Bool) (sz:Nat) (xs:List (List AV))
 |ep (cs:List AV) (off:Nat)
 |ptr (l i j:Nat)
 |px (l j n idx:Nat)
 |sl (nil:Bool) (l off:Nat) (cut:Option Nat)
 |eN (f:FuncId) (first cX:List AV)
 |ow (nil:Bool) (ty sz:Nat) (xs:List (List AV))
 |ob (ty:Nat) (cs:List AV)
 |un
structure gC where
 mode:Nat
 ty:Nat
 sz:Nat
 obj:Bool
 xs:List (List AV)
abbrev Store:=List gC
inductive CK where
 |i (k:IntKind)
 |b
 |s
 |sl (e sz:Nat)
 |p (e:Nat)
 |f
 |x
def eO(P:Program)(t:TypeId):Bool:=
 match P.underlying t with
 |some (.struct _)=>true
 |some (.array _ _)=>true
 |_=>false
def Vx(P:Program):Nat->TypeId->List CK
 |0,_=>[]
 |n+1,t=>
  match P.underlying t with
  |some .bool=>[.b]
  |some (.int k)=>[.i k]
  |some .string=>[.s]
  |some (.slice e)=>[.sl e (P.cellsOf e)]
  |some (.pointer e)=>[.p e]
  |some (.struct fs)=>fs.toList.flatMap fun f=>Vx P n f.type
  |some (.array len e)=>(List.replicate len (Vx P n e)).flatten
  |some (.func _ _ _)=>[.f]
  |_=>[.x]
def uo(P:Program)(t:TypeId):List CK:=Vx P 12 t
def Kq(P:Program)(t:TypeId):Bool:=
 (P.underlying t).isSome&&Nat.beq (uo P t).length (P.cellsOf t)&&(eO P t||Nat.beq (P.cellsOf t) 1)&&(P.info? t).isSome
def ai:AV->Int
 | .v (.int _ n)=>n
 |_=>0
def eE(k:IntKind):AV->Bool
 | .v (.int k' _)=>decide (k=k')
 |_=>false
def eW:AV->Bool
 | .v (.bool b)=>b
 |_=>false
def Dp:AV->Bool
 | .v (.bool _)=>true
 |_=>false
def xK:AV->ByteArray
 | .v (.string s)=>s
 |_=>.empty
def MP:AV->Bool
 | .v (.string _)=>true
 |_=>false
def bM:AV->Bool
 | .aq b _ _=>b
 | .sl b _ _ _=>b
 | .ow b _ _ _=>b
 |_=>false
def bU:AV->List (List AV)
 | .aq _ _ xs=>xs
 | .ow _ _ _ xs=>xs
 |_=>[]
def GD(sz:Nat):AV->Bool
 | .aq n s _=>Nat.beq s sz||n
 |_=>false
def ED:AV->Bool
 | .v (.pointer none)=>true
 |_=>false
def iq:CK->AV->Bool×AV
 | .i k,c=>(eE k c,.v (.int k (ai c)))
 | .b,c=>(Dp c,.v (.bool (eW c)))
 | .s,c=>(MP c,.v (.string (xK c)))
 | .sl _ sz,c=>(GD sz c,.aq (bM c) sz (bU c))
 |_,_=>(false,.un)
def cellAt(cs:List AV)(j:Nat):AV:=cs.getD j .un
def nM:List CK->Nat->List AV->Bool
 |[],_,_=>true
 |[k],j,cs=>(iq k (cellAt cs j)).1
 |k::ks,j,cs=>(iq k (cellAt cs j)).1&&nM ks (j+1) cs
def jB:List CK->Nat->List AV->List AV
 |[],_,_=>[]
 |k::ks,j,cs=>(iq k (cellAt cs j)).2::jB ks (j+1) cs
def oN:AV->Bool
 | .v (.agg _)=>false
 | .v (.tuple _)=>false
 | .v _=>true
 | .aq _ _ _=>true
 | .ep _ _=>true
 | .ptr _ _ _=>true
 | .px _ _ _ _=>true
 | .sl _ _ _ _=>true
 | .eN _ _ _=>true
 |_=>false
def cells:AV->Option (List AV)
 | .agg cs=>some cs
 |a=>bif oN a then some [a]else none
def Ym(agg:Bool)(cs:List AV):AV:=
 match agg with
 |true=>.agg cs
 |false=>cs.headD .un
def mT:Value->AV
 | .slice none 0 0=>.aq true 0 []
 |x=>.v x
def ofV:Value->AV
 | .agg cs=>bif cs.toList.all fun c=>oN (.v c)then .agg (cs.toList.map mT)else .un
 | .tuple _=>.un
 |x=>mT x
def MQ(b:Bool)(x y:AV):AV:=
 match x,y with
 | .v (.int k n),.v (.int k' m)=>if k=k' then .v (.int k (cond b n m))else bif b then x else y
 | .v (.bool p),.v (.bool q)=>.v (.bool (cond b p q))
 | .v (.string p),.v (.string q)=>.v (.string (cond b p q))
 |_,_=>bif b then x else y
def GF(i:Nat):Nat->List AV->AV
 |_,[]=>.un
 |_,[c]=>c
 |q,c::cs=>MQ (Nat.beq i q) c (GF i (q+1) cs)
def zY(i:Nat)(p:AV):Nat->List AV->List AV
 |_,[]=>[]
 |q,c::cs=>MQ (Nat.beq i q) p c::zY i p (q+1) cs
def aw(xs:List (List AV))(i:Nat):List AV:=xs.getD i []
def mm{α:Type}(xs:List α)(off:Nat):Option Nat->List α
 |none=>xs.drop off
 |some n=>(xs.drop off).take n
def Kw:AV->Bool
 | .v x=>oN (.v x)
 |_=>false
def rQ:CK->Bool
 | .i _=>true
 | .b=>true
 | .s=>true
 |_=>false
def jC(P:Program)(t:TypeId):Bool:=(uo P t).all rQ
def Ow(m:Nat):Option Nat->Option Nat
 |none=>none
 |some _=>some m
def zZ(σ:Store)(c:AV):Option (AV×Store):=
 match c with
 | .v x=>some (.v x,σ)
 | .aq n sz xs=>some (.aq n sz xs,σ)
 | .sl n l off cut=>
  match σ[l]? with
  |none=>none
  |some b=>bif Nat.beq b.mode 0||b.obj then none else some (.aq n b.sz (mm b.xs off cut),σ.set l {b with mode:=2})
 |_=>none
def gG(σ:Store):List AV->Option (List AV×Store)
 |[]=>some ([],σ)
 |c::cs=>
  match zZ σ c with
  |none=>none
  |some (c',σ')=>
   match gG σ' cs with
   |none=>none
   |some (cs',gH)=>some (c'::cs',gH)
def qu(P:Program)(t:TypeId)(σ:Store)(cs:List AV):Option (List AV×Store):=
 bif jC P t then(bif cs.all Kw then some (cs,σ)else none)else gG σ cs
section ops
variable{R:Type}(P:Program)(σ:Store)(K:AV->Store->Option R)
def jD(t:TypeId)(cs:List AV):Option R:=
 match P.underlying t with
 |some (.array n e)=>
  bif Nat.ble n 16 then K (.ptr σ.length 0 0) (σ++[⟨1,t,cs.length,true,[cs]⟩])
  else bif Nat.beq (P.cellsOf e) 1&&cs.all Kw then K (.ptr σ.length 0 0) (σ++[⟨1,t,1,false,cs.map fun c=>[c]⟩])
  else none
 |_=>K (.ptr σ.length 0 0) (σ++[⟨1,t,cs.length,true,[cs]⟩])
def cy(e:TypeId):AV×Store:=(.sl true σ.length 0 none,σ++[⟨1,e,P.cellsOf e,false,[]⟩])
def zeros:List CK->List Value->Store->Option (List AV×Store)
 |[],[],σ=>some ([],σ)
 |k::ks,c::cs,σ=>
  match k,c with
  | .sl e _,.slice none 0 0=>
   match zeros ks cs (cy P σ e).2 with
   |none=>none
   |some (r,σ')=>some ((cy P σ e).1::r,σ')
  | .sl _ _,_=>none
  | .x,_=>none
  |_,c=>
   bif !(oN (.v c))then none else
   match zeros ks cs σ with
   |none=>none
   |some (r,σ')=>some (.v c::r,σ')
 |_,_,_=>none
def zeroOf(t:TypeId)(σ:Store):Option (List AV×Store):=
 match(P.info? t).bind (·.zero)with
 |none=>none
 |some z=>zeros P (uo P t) z.cells.toList σ
def gU(t:TypeId):Option R:=
 match zeroOf P t σ with
 |none=>none
 |some (cs,σ')=>jD P σ' K t cs
def qa(t:TypeId)(a:AV):Option R:=
 match cells a with
 |none=>none
 |some cs=>bif Nat.beq cs.length (P.cellsOf t)then jD P σ K t cs else none
def placeOf(t:TypeId)(i:Nat):Option (Nat×Nat):=
 match P.underlying t with
 |some (.struct fs)=>(fs[i]?).map fun f=>(f.offset,P.cellsOf f.type)
 |some (.array n e)=>bif Nat.blt i n then some (i*P.cellsOf e,P.cellsOf e)else none
 |_=>none
def lC(place:Nat->Option (Nat×Nat))(cs:List AV):List (Nat×AV)->Option (List AV)
 |[]=>some cs
 |(i,a)::r=>
  match place i with
  |none=>none
  |some (off,size)=>
   match cells a with
   |none=>none
   |some p=>bif Nat.beq p.length size&&Nat.ble (off+size) cs.length then lC place (cs.take off++p++cs.drop (off+size)) r else none
def MR(t:TypeId):Bool:=
 match P.underlying t with
 |some (.struct fs)=>fs.toList.all fun f=>(P.info? f.type).isSome
 |some (.array _ e)=>(P.info? e).isSome
 |_=>false
def gV(t:TypeId)(parts:List (Nat×AV)):Option R:=
 bif !(MR P t)then none else
 match zeroOf P t σ with
 |none=>none
 |some (cs,σ')=>
  match lC (placeOf P t) cs parts with
  |none=>none
  |some cs'=>K (.agg cs') σ'
def chunks(size:Nat):Nat->List AV->List (List AV)
 |0,_=>[]
 |n+1,cs=>cs.take size::chunks size n (cs.drop size)
def cg(t:TypeId)(n:Nat)(parts:List (Nat×AV)):Option R:=
 match P.underlying t with
 |some (.slice e)=>
  match zeroOf P e σ with
  |none=>none
  |some (z,σ')=>
   match lC (fun i=>bif Nat.blt i n then some (i*P.cellsOf e,P.cellsOf e)else none) ((List.replicate n z).flatten) parts with
   |none=>none
   |some cs=>
    match qu P e σ' cs with
    |none=>none
    |some (cs',gH)=>
     bif Nat.beq z.length (P.cellsOf e)&&Nat.ble (n*P.cellsOf e) 16777216&&Nat.blt 0 (P.cellsOf e)then
      K (.sl false gH.length 0 none) (gH++[⟨1,e,P.cellsOf e,false,chunks (P.cellsOf e) n cs'⟩])
     else none
 |_=>none
def Ra(t:TypeId)(b:gC)(i j:Nat):Bool:=eO P t&&Nat.beq b.sz 1&&Nat.beq b.ty t&&Nat.beq i 0&&Nat.beq j 0&&Nat.blt 16 (P.cellsOf t)
def Aa(e:List AV):Bool:=match e with|[.v x]=>oN (.v x)|_=>false
def iu(t:TypeId)(a:AV):Option R:=
 bif !(Kq P t)then none else
 match a with
 | .ptr l i j=>
  match σ[l]? with
  |none=>none
  |some b=>
   bif Nat.beq b.mode 0 then none else
   bif b.obj then
    bif Nat.ble (j+P.cellsOf t) (aw b.xs 0).length&&Nat.beq i 0 then K (Ym (eO P t) (((aw b.xs 0).drop j).take (P.cellsOf t))) σ else none
   else bif Ra P t b i j then cond (decide (b.xs.length=P.cellsOf t)&&b.xs.all Aa) (K (.agg (b.xs.map fun e=>cellAt e 0)) σ) none
   else
    cond (decide (i<b.xs.length)&&nM (uo P t) j (aw b.xs i)) (K (Ym (eO P t) (jB (uo P t) j (aw b.xs i))) σ) none
 | .px l j n i=>
  match σ[l]? with
  |none=>none
  |some b=>
   bif Nat.beq b.mode 0|| !b.obj||eO P t|| !(Nat.ble (j+n) (aw b.xs 0).length)then none
   else K (GF i 0 (((aw b.xs 0).drop j).take n)) σ
 | .ep cs off=>cond (nM (uo P t) off cs) (K (Ym (eO P t) (jB (uo P t) off cs)) σ) none
 |_=>none
def gW(t:TypeId)(a x:AV)(K:Store->Option R):Option R:=
 bif !(Kq P t)then none else
 match a with
 | .ptr l i j=>
  match σ[l]? with
  |none=>none
  |some b=>
   match cells x with
   |none=>none
   |some xc=>
   bif Ra P t b i j&& !b.obj then
    bif Nat.beq b.mode 1 then cond (decide (b.xs.length=P.cellsOf t)&&(decide (xc.length=P.cellsOf t)&&xc.all Kw)) (K (σ.set l {b with xs:=xc.map fun c=>[c]})) none else none
   else
   bif !(Nat.beq b.mode 1)|| !(Nat.beq xc.length (P.cellsOf t))then none else
   bif b.obj then
    bif Nat.ble (j+P.cellsOf t) (aw b.xs 0).length&&Nat.beq i 0 then
     K (σ.set l {b with xs:=[(aw b.xs 0).take j++xc++(aw b.xs 0).drop (j+P.cellsOf t)]})
    else none
   else
    match gG σ xc with
    |none=>none
    |some (cs,σ')=>
     cond (decide (j+P.cellsOf t<=b.sz)&&(match σ'[l]? with|some b'=>Nat.beq b'.mode 1|none=>false))
      (cond (decide (i<b.xs.length))
       (bif Nat.beq (P.cellsOf t) b.sz then K (σ'.set l {b with xs:=b.xs.set i cs})
        else K (σ'.set l {b with xs:=b.xs.set i ((aw b.xs i).take j++cs++(aw b.xs i).drop (j+P.cellsOf t))})) none)
      none
 | .px l j n i=>
  match σ[l]?,x with
  |some b,.v y=>
   bif !(oN (.v y))|| !(Nat.beq b.mode 1)|| !b.obj||eO P t|| !(Nat.ble (j+n) (aw b.xs 0).length)then none
   else K (σ.set l {b with xs:=[(aw b.xs 0).take j++zY i (.v y) 0 (((aw b.xs 0).drop j).take n)++(aw b.xs 0).drop (j+n)]})
  |_,_=>none
 |_=>none
def Kx:CK->AV->AV->Option Bool
 | .i _,.v (.int k n),.v (.int k' m)=>if k=k' then some (n==m)else none
 | .b,.v (.bool a),.v (.bool b)=>some (a==b)
 | .s,.v (.string a),.v (.string b)=>some (a.toList==b.toList)
 |_,_,_=>none
def jo:List CK->List AV->List AV->Option Bool
 |[],[],[]=>some true
 |[k],[x],[y]=>Kx k x y
 |k::ks,x::xs,y::ys=>
  match Kx k x y,jo ks xs ys with
  |some a,some b=>some (a&&b)
  |_,_=>none
 |_,_,_=>none
def uy(tot:Nat):Nat->List Field->Bool
 |o,[]=>Nat.beq o tot
 |o,f::fs=>Nat.beq f.offset o&&uy tot (o+P.cellsOf f.type) fs
def Vy:Nat->TypeId->Bool
 |0,_=>false
 |n+1,t=>
  match P.underlying t with
  |some .bool=>Nat.beq (P.cellsOf t) 1
  |some (.int _)=>Nat.beq (P.cellsOf t) 1
  |some .string=>Nat.beq (P.cellsOf t) 1
  |some (.array len e)=>Nat.beq (len*P.cellsOf e) (P.cellsOf t)&&Vy n e&&Kq P e
  | some (.struct fs) => uy P (P.cellsOf t) 0 fs.toList && fs.toList.all (fun f => f.name != "_" && Vy n f.type && Kq P f.type) && !P.stoodInHeld t
  |_=>false
def Yn(t:TypeId)(xs ys:List AV):Option Bool:=
 bif eO P t&&Vy P 12 t&& !(P.eqGuardType P.depth t)&&Nat.beq xs.length (P.cellsOf t)&&Nat.beq ys.length (P.cellsOf t)then jo (uo P t) xs ys else none
def ZM(t:TypeId)(a b:AV):Option Bool:=
 match a,b with
 | .v (.int k n),.v (.int k' m)=>if k=k' then some (n==m)else none
 | .v (.string a),.v (.string b)=>some (a.toList==b.toList)
 |a,b=>
  match P.underlying t with
  |some .bool=>match a,b with| .v (.bool a),.v (.bool b)=>some (a==b)|_,_=>none
  |some (.pointer _)=>
   match a,b with
   | .v (.pointer none),.v (.pointer none)=>some true
   | .ptr _ _ _,.v (.pointer none)=>some false
   | .v (.pointer none),.ptr _ _ _=>some false
   | .ep _ _,.v (.pointer none)=>some false
   |_,_=>none
  |some (.slice _)=>
   match a,b with
   | .sl n _ _ _,.aq true _ []=>some n
   | .aq n _ _,.aq true _ []=>some n
   |_,_=>none
  |some (.func _ _ _)=>match a,b with| .eN _ _ _,.v .nilFunc=>some false|_,_=>none
  |_=>none
def MS(t:TypeId)(a b:AV):Option Bool:=
 match a,b with
 | .agg xs,.agg ys=>Yn P t xs ys
 |a,b=>ZM P t a b
def sP(op:BinOp)(t:TypeId)(a b:AV):Option R:=
 match op with
 | .eql=>match MS P t a b with|some x=>K (.v (.bool x)) σ|none=>none
 | .neq=>match MS P t a b with|some x=>K (.v (.bool (!x))) σ|none=>none
 |op=>
  match a,b with
  | .v (.int k x),.v (.int k' y)=>
   match op with
   | .shl=>cond (decide (y<0)) none (K (.v (.int k (k.wrap (x*2^(min y.toNat k.bits))))) σ)
   | .shr=>cond (decide (y<0)) none (K (.v (.int k (x.fdiv (2^(min y.toNat k.bits))))) σ)
   |op=>
    if k=k' then
     match op with
     | .add=>K (.v (.int k (k.wrap (x+y)))) σ
     | .sub=>K (.v (.int k (k.wrap (x-y)))) σ
     | .mul=>K (.v (.int k (k.wrap (x*y)))) σ
     | .quo=>cond (decide (y=0)) none (K (.v (.int k (k.wrap (x.tdiv y)))) σ)
     | .rem=>cond (decide (y=0)) none (K (.v (.int k (x.tmod y))) σ)
     | .and=>K (.v (.int k (bits .and k x y))) σ
     | .or=>K (.v (.int k (bits .or k x y))) σ
     | .xor=>K (.v (.int k (bits .xor k x y))) σ
     | .andNot=>K (.v (.int k (bits .andNot k x y))) σ
     | .lss=>K (.v (.bool (decide (x<y)))) σ
     | .leq=>K (.v (.bool (decide (x<=y)))) σ
     | .gtr=>K (.v (.bool (decide (x>y)))) σ
     | .geq=>K (.v (.bool (decide (x≥y)))) σ
     |_=>none
    else none
  | .v (.string x),.v (.string y)=>
   match op with
   | .add=>cond (decide (x.size+y.size<=9223372036854775807)) (K (.v (.string (x++y))) σ) none
   | .lss=>K (.v (.bool (Op.bytesLess x.toList y.toList))) σ
   |_=>none
  |_,_=>none
def CS(op:UnOp)(a:AV):Option R:=
 match op,a with
 | .not,.v (.bool b)=>K (.v (.bool (!b))) σ
 | .neg,.v (.int k n)=>K (.v (.int k (k.wrap (0-n)))) σ
 | .xor,.v (.int k n)=>K (.v (.int k (bits .xor k (if k.signed then-1 else k.max) n))) σ
 |_,_=>none
def GG(σ:Store):AV->Option (List (List AV))
 | .aq _ _ xs=>some xs
 | .sl _ l off cut=>
  match σ[l]? with
  |none=>none
  |some b=>bif Nat.beq b.mode 0||b.obj then none else some (mm b.xs off cut)
 |_=>none
def byteOf(c:List AV):UInt8:=UInt8.ofNat (ai (cellAt c 0)).toNat
def isByte(c:List AV):Bool:=match c with|[.v (.int .u8 _)]=>true|_=>false
def mn(b:UInt8):List AV:=[.v (.int .u8 (b.toNat:Int))]
def lD(src dst:TypeId)(a:AV):Option R:=
 match P.underlying src,P.underlying dst,a with
 |some (.int _),some (.int k),.v (.int _ n)=>K (.v (.int k (k.wrap n))) σ
 |some .string,some .string,.v (.string s)=>K (.v (.string s)) σ
 |some .string,some (.slice e),.v (.string s)=>
  match P.underlying e with
  |some (.int .u8)=>K (.sl false σ.length 0 none) (σ++[⟨1,e,1,false,s.data.toList.map mn⟩])
  |_=>none
 |some (.slice e),some .string,a=>
  match P.underlying e,GG σ a with
  |some (.int .u8),some xs=>cond (xs.all isByte) (K (.v (.string ⟨(xs.map byteOf).toArray⟩)) σ) none
  |_,_=>none
 |_,_,_=>none
def ZN(src dst:TypeId):Bool:=
 match P.underlying src,P.underlying dst with
 |some (.slice _),some (.slice _)=>true
 |_,_=>false
def lE(src dst:TypeId)(a:AV):Option R:=
 match P.underlying dst,a with
 |some (.slice e),.sl false l off cut=>
  match P.underlying e,σ[l]? with
  |some (.int .u8),some b=>bif Nat.beq src dst&&Nat.beq b.mode 1&& !b.obj&&Nat.beq off 0&&Nat.beq b.sz 1 then K (.sl false l off cut) σ else none
  |_,_=>none
 |_,_=>none
def kL(σ:Store):AV->Option Nat
 | .aq _ _ xs=>some xs.length
 | .sl _ l off cut=>
  match σ[l]? with
  |none=>none
  |some b=>bif Nat.beq b.mode 0||b.obj then none else some (match cut with|some n=>n|none=>b.xs.length-off)
 |_=>none
def Rb:Option AV->Option (Option Int)
 |none=>some none
 |some (.v (.int _ n))=>some (some n)
 |_=>none
def gX(t:TypeId)(a:AV)(lo hi:Option AV):Option R:=
 match P.underlying t,a,Rb lo,Rb hi with
 |some .string,.v (.string s),some lo,some hi=>
  let l:=lo.getD 0
  let h:=hi.getD (s.size:Int)
  cond (decide (0<=l)&&decide (l<=h)&&decide (h<=(s.size:Int))) (K (.v (.string (s.extract l.toNat h.toNat))) σ) none
 |some (.slice e),.aq nil sz xs,some lo,some hi=>
  bif !(Nat.beq sz (P.cellsOf e)&&(P.info? e).isSome)then none else
  match lo,hi with
  |none,none=>K (.aq nil sz xs) σ
  |some l,none=>cond (decide (0<=l)&&decide (l<=(xs.length:Int))) (K (.aq nil sz (xs.drop l.toNat)) σ) none
  |none,some h=>cond (decide (0<=h)&&decide (h<=(xs.length:Int))) (K (.aq nil sz (xs.take h.toNat)) σ) none
  |some l,some h=>cond (decide (0<=l)&&decide (l<=h)&&decide (h<=(xs.length:Int))) (K (.aq nil sz ((xs.drop l.toNat).take (h.toNat-l.toNat))) σ) none
 |some (.slice e),.sl nil i off cut,some lo,some hi=>
  match kL σ (.sl nil i off cut),σ[i]? with
  |some n,some b=>
   bif !(Nat.beq b.sz (P.cellsOf e)&&(P.info? e).isSome)then none else
   match lo,hi with
   |none,none=>K (.sl nil i off cut) σ
   |some l,none=>cond (decide (0<=l)&&decide (l<=(n:Int))) (K (.sl nil i (off+l.toNat) (Ow (n-l.toNat) cut)) σ) none
   |none,some h=>cond (decide (0<=h)&&decide (h<=(n:Int))) (K (.sl nil i off (some h.toNat)) σ) none
   |some l,some h=>cond (decide (0<=l)&&decide (l<=h)&&decide (h<=(n:Int))) (K (.sl nil i (off+l.toNat) (some (h.toNat-l.toNat))) σ) none
  |_,_=>none
 |_,_,_,_=>none
def qd(t:TypeId)(a:AV)(hi:Option AV):Option R:=
 match P.underlying t,a,hi with
 |some (.slice e),.sl nil l 0 none,some (.v (.int _ h))=>
  match σ[l]? with
  |some b=>
   bif Nat.beq b.mode 1&& !b.obj&&Nat.beq b.sz (P.cellsOf e)&&(P.info? e).isSome then
    cond (decide (0<=h)&&decide (h<=(b.xs.length:Int))) (K (.sl nil σ.length 0 none) (σ.set l {b with mode:=0}++[⟨1,b.ty,b.sz,false,b.xs.take h.toNat⟩])) none
   else none
  |none=>none
 |_,_,_=>none
def dQ(t:TypeId)(a:AV)(f:Nat):Option R:=
 match P.underlying t with
 |some (.struct fs)=>
  match fs[f]? with
  |none=>none
  |some fd=>
   bif Nat.beq (P.cellsOf fd.type) 0 then none else
   match a with
   | .ptr l i j=>K (.ptr l i (j+fd.offset)) σ
   | .ep cs off=>K (.ep cs (off+fd.offset)) σ
   |_=>none
 |_=>none
def kF(t:TypeId)(a:AV)(f:Nat):Option R:=
 match P.underlying t,a with
 |some (.struct fs),.agg cs=>
  match fs[f]? with
  |none=>none
  |some fd=>
   bif Nat.ble (fd.offset+P.cellsOf fd.type) cs.length&&Kq P fd.type then
    K (Ym (eO P fd.type) ((cs.drop fd.offset).take (P.cellsOf fd.type))) σ
   else none
 |_,_=>none
def isConst:Operand->Bool
 | .const _=>true
 |_=>false
def cH(t:TypeId)(a i:AV)(const:Bool):Option R:=
 match P.underlying t,i with
 |some (.slice e),.v (.int _ n)=>
  bif !(Kq P e&&Nat.blt 0 (P.cellsOf e))then none else
  match a with
  | .aq _ sz xs=>bif Nat.beq sz (P.cellsOf e)then cond (decide (0<=n)&&decide (n<(xs.length:Int))) (K (.ep (aw xs n.toNat) 0) σ) none else none
  | .sl _ l off cut=>
   match kL σ a,σ[l]? with
   |some len,some b=>
    bif Nat.beq b.sz (P.cellsOf e)then
     cond (decide (0<=n)&&decide (n<(len:Int))) (K (.ptr l (off+n.toNat) 0) σ) none
    else none
   |_,_=>none
  |_=>none
 |some (.array len e),.v (.int _ n)=>
  bif !(Kq P e)then none else
  match a with
  | .ptr l i j=>
   match σ[l]? with
   |none=>none
   |some b=>
    bif b.obj then
     bif const then cond (decide (0<=n)&&decide (n<(len:Int))) (K (.ptr l i (j+n.toNat*P.cellsOf e)) σ) none
     else bif Nat.beq (P.cellsOf e) 1&&Nat.beq i 0 then cond (decide (0<=n)&&decide (n<(len:Int))) (K (.px l j len n.toNat) σ) none
     else none
    else
     bif !(Nat.beq b.mode 0)&&Nat.beq b.ty t&&Nat.beq i 0&&Nat.beq j 0&&Nat.beq (P.cellsOf e) b.sz then cond (decide (0<=n)&&decide (n<(len:Int))) (K (.ptr l n.toNat 0) σ) none
     else cond (decide (0<=n)&&decide (n<(len:Int))) (K (.ptr l i (j+n.toNat*P.cellsOf e)) σ) none
  | .ep cs off=>cond (decide (0<=n)&&decide (n<(len:Int))) (K (.ep cs (off+n.toNat*P.cellsOf e)) σ) none
  |_=>none
 |_,_=>none
def kG(t:TypeId)(a i:AV)(const:Bool):Option R:=
 match P.underlying t,a,i with
 |some (.array len e),.agg cs,.v (.int _ n)=>
  bif Nat.beq (len*P.cellsOf e) cs.length&&Kq P e then
   bif const then
    cond (decide (0<=n)&&decide (n<(len:Int)))
     (K (Ym (eO P e) ((cs.drop (n.toNat*P.cellsOf e)).take (P.cellsOf e))) σ) none
   else bif Nat.beq (P.cellsOf e) 1&& !(eO P e)then
    cond (decide (0<=n)&&decide (n<(len:Int))) (K (GF n.toNat 0 cs) σ) none
   else none
  else none
 |some .string,.v (.string s),.v (.int _ n)=>
  cond (decide (0<=n)&&decide (n<(s.size:Int))) (K (.v (.int .u8 ((s.data.getD n.toNat 0).toNat:Int))) σ) none
 |_,_,_=>none
def cI(t:TypeId)(a b:AV):Option R:=
 match P.underlying t,a,b with
 |some (.slice e),.v (.int _ n),.v (.int _ c)=>
  match zeroOf P e σ with
  |none=>none
  |some (z,σ')=>
   match qu P e σ' z with
   |none=>none
   |some (z',gH)=>
    bif Nat.beq z'.length (P.cellsOf e)&&Nat.blt 0 (P.cellsOf e)then
     cond (decide (0<=n)&&decide (n<=c)&&decide (c*(P.bytesOf e:Int)<=281474976710656)&&decide (c<=281474976710656))
      (K (.sl false gH.length 0 none) (gH++[⟨1,e,P.cellsOf e,false,List.replicate n.toNat z'⟩])) none
    else none
 |_,_,_=>none
def qe(t:TypeId)(a:AV):Option R:=
 match P.underlying t,a with
 |some .string,.v (.string s)=>K (.v (.int .i64 (s.size:Int))) σ
 |some (.array n _),_=>K (.v (.int .i64 (n:Int))) σ
 |some (.pointer e),_=>
  match P.underlying e with
  |some (.array n _)=>K (.v (.int .i64 (n:Int))) σ
  |_=>none
 |some (.slice _),a=>
  match kL σ a with
  |some n=>K (.v (.int .i64 (n:Int))) σ
  |none=>none
 |_,_=>none
def qf(σ:Store):AV->Option (Nat×List (List AV))
 | .v (.string s)=>some (1,s.data.toList.map mn)
 | .aq _ sz xs=>some (sz,xs)
 | .sl _ l off cut=>
  match σ[l]? with
  |none=>none
  |some b=>bif Nat.beq b.mode 0||b.obj then none else some (b.sz,mm b.xs off cut)
 |_=>none
def Vz:TypeDesc->Bool
 | .string=>true
 | .slice _=>true
 |_=>false
def zOk(t:TypeId):Bool:=
 match(P.info? t).bind (·.zero)with
 |none=>false
 |some z=>Nat.beq z.cells.size (P.cellsOf t)
def fJ{α:Type}(xs:List α):Option Nat->List α
 |none=>xs
 |some n=>xs.take n
def fw(t:TypeId)(t2:TypeId)(s x:AV):Option R:=
 match P.underlying t,P.underlying t2 with
 |some (.slice e),some d=>
  bif !(Vz d)|| !(Nat.blt 0 (P.bytesOf e)&&Nat.blt 0 (P.cellsOf e)&&zOk P e)then none else
  match qf σ x with
  |none=>none
  |some (EE,ys)=>
   bif !(Nat.beq EE (P.cellsOf e)||ys.isEmpty)then none else
   match s with
   | .aq true _ _=>
    cond (decide (ys.length*P.bytesOf e<=140737488355328))
     (K (.sl (ys.isEmpty) σ.length 0 none) (σ++[⟨1,e,P.cellsOf e,false,ys⟩])) none
   | .sl nil l off cut=>
    match σ[l]? with
    |none=>none
    |some b=>
     bif Nat.beq b.mode 1&& !b.obj&&Nat.beq off 0&&Nat.beq b.ty e&&Nat.beq b.sz (P.cellsOf e)then
      cond (decide (((fJ b.xs cut).length+ys.length)*P.bytesOf e<=140737488355328))
       (K (.sl (ys.isEmpty&&nil) σ.length 0 none) (σ.set l {b with mode:=0}++[⟨1,e,P.cellsOf e,false,fJ b.xs cut++ys⟩])) none
     else none
   |_=>none
 |_,_=>none
def lF(t:TypeId)(d s:AV):Option R:=
 match P.underlying t with
 |some (.slice e)=>
  match qf σ s,d with
  |some (EE,ys),.sl _ l off cut=>
   match σ[l]?,kL σ d with
   |some b,some n=>
    bif Nat.beq b.mode 1&& !b.obj&&Nat.beq b.sz (P.cellsOf e)&&(Nat.beq EE (P.cellsOf e)||ys.isEmpty)&&Nat.blt 0 (P.cellsOf e)then
     K (.v (.int .i64 ((min ys.length n:Nat):Int))) (σ.set l {b with xs:=b.xs.take off++ys.take (min ys.length n)++b.xs.drop (off+min ys.length n)})
    else none
   |_,_=>none
  |_,_=>none
 |_=>none
def Rc(a b:AV):Option AV:=
 match a,b with
 | .v (.int k x),.v (.int _ y)=>some (.v (.int k (if y<x then y else x)))
 |_,_=>none
def Rd(a b:AV):Option AV:=
 match a,b with
 | .v (.int k x),.v (.int _ y)=>some (.v (.int k (if y>x then y else x)))
 |_,_=>none
end ops
end
section
inductive Upd where
 |row (g:List (List AV)->Option (List (List AV)))
 |mv (g:Nat->Nat->List (List AV)->List AV->Option (List (List AV)))
structure gD where
 rw:FuncId->List Bool
 dat:FuncId->Bool
 inl:FuncId->Bool
 roll:FuncId->Nat
 join:FuncId->Bool
 ext:FuncId->Option (List AV->Option (List AV)):=fun _=>none
 /--no own block is ever Ab to it:a call that finds one is refused;so it is quiet whatever it answers-/
 cl:FuncId->Bool:=fun _=>false
 /--what it makes of the one slice that it is handed is told:it works in place and hands back nothing-/
 CM:FuncId->Option Upd:=fun _=>none
 /--slicings `x[:h]` (by the slice's type and the slot that is written) behind which the whole row is not looked at again:it becomes the shorter row-/
 eat:Nat->Nat->Bool:=fun _ _=>false
 /--functions without a body (the model's own):on which plain values they are told,and what they answer-/
 pr:FuncId->Option ((List Value->Bool)×(List Value->List Value)):=fun _=>none
 /--which of the rows handed over come back-/
 bk:FuncId->List Bool:=fun _=>[]
structure St where
 fr:List (Nat×AV)
 bl:Store
def ax:List (Nat×AV)->Nat->AV
 |[],_=>.un
 |(i,a)::r,t=>bif Nat.beq i t then a else ax r t
def GH:List (Nat×AV)->Nat->List (Nat×AV)
 |[],_=>[]
 |(i,a)::r,t=>bif Nat.beq i t then GH r t else(i,a)::GH r t
def iQ(fr:List (Nat×AV))(dst:Option Nat)(a:AV):List (Nat×AV):=
 match dst with
 |none=>fr
 |some d=>(d,a)::GH fr d
def EF(fr:List (Nat×AV))(t:Nat):AV:=bif Nat.blt t 1000000 then ax fr t else .un
def fP(fr:List (Nat×AV)):Operand->AV
 | .tmp t=>EF fr t
 | .const v=>ofV v
 | .func f=>.eN f [] []
 | .global _=>.un
def gI(σ:Store):Nat->AV->Option AV
 |0,_=>none
 |n+1,a=>
  match a with
  | .v x=>bif oN (.v x)then some (.v x)else none
  | .aq b sz xs=>some (.aq b sz xs)
  | .ep cs off=>some (.ep cs off)
  | .sl b l off cut=>
   match σ[l]? with
   |none=>none
   |some k=>bif Nat.beq k.mode 0||k.obj then none else some (.aq b k.sz (mm k.xs off cut))
  | .ptr l i j=>
   match σ[l]? with
   |none=>none
   |some k=>
    bif Nat.beq k.mode 0 then none else
    bif k.obj then
     bif Nat.beq i 0 then
      match(aw k.xs 0).mapM (gI σ n)with
      |none=>none
      |some cs=>some (.ep cs j)
     else none
    else bif Nat.beq k.sz 1 then some (.ep k.xs.flatten (i+j))
    else some (.ep (aw k.xs i) j)
  | .eN f first cX=>
   match first.mapM (gI σ n),cX.mapM (gI σ n)with
   |some x,some y=>some (.eN f x y)
   |_,_=>none
  | .agg cs=>
   match cs.mapM (gI σ n)with
   |none=>none
   |some cs=>some (.agg cs)
  |_=>none
def Ox(σ:Store)(a:AV):Option AV:=gI σ 4 a
def qF(σ:Store)(c:AV):Option (AV×Store):=
 match c with
 | .v x=>bif oN (.v x)then some (.v x,σ)else none
 | .aq b sz xs=>some (.aq b sz xs,σ)
 | .sl b l off cut=>
  match σ[l]? with
  |none=>none
  |some k=>bif Nat.beq k.mode 1&& !k.obj&&Nat.beq off 0 then some (.ow b k.ty k.sz (mm k.xs off cut),σ.set l {k with mode:=0})else none
 |_=>none
def qG(σ:Store):List AV->Option (List AV×Store)
 |[]=>some ([],σ)
 |c::cs=>
  match qF σ c with
  |none=>none
  |some (c',σ')=>
   match qG σ' cs with
   |none=>none
   |some (cs',gH)=>some (c'::cs',gH)
def uz(σ:Store)(l:Nat):Option (AV×Store):=
 match σ[l]? with
 |none=>none
 |some k=>
  bif Nat.beq k.mode 1&&k.obj then
   match qG (σ.set l {k with mode:=0}) (aw k.xs 0)with
   |none=>none
   |some (cs,σ')=>some (.ob k.ty cs,σ')
  else none
def nh(σ:Store)(a:AV):Option (AV×Store×List Nat):=
 match a with
 | .ptr l i j=>bif Nat.beq i 0&&Nat.beq j 0 then match uz σ l with|none=>none|some (b,σ')=>some (b,σ',[l])else none
 |a=>match qF σ a with|none=>none|some (b,σ')=>some (b,σ',[])
def oh(σ:Store):List AV->Option (List AV×Store×List Nat)
 |[]=>some ([],σ,[])
 |a::as=>
  match nh σ a with
  |none=>none
  |some (b,σ',r)=>
   match oh σ' as with
   |none=>none
   |some (bs,gH,r')=>some (b::bs,gH,r++r')
def GI(σ:Store)(a:AV):Option (AV×Store×List Nat):=
 match a with
 | .agg cs=>match oh σ cs with|none=>none|some (bs,σ',r)=>some (.agg bs,σ',r)
 | .eN f first cX=>bif !first.isEmpty then none else match oh σ cX with|none=>none|some (bs,σ',r)=>some (.eN f first bs,σ',r)
 |a=>nh σ a
def wA(σ:Store)(a:AV):Option (AV×Store×List Nat):=
 match a with
 | .sl _ l 0 none=>
  match σ[l]? with
  |none=>none
  |some k=>bif Nat.beq k.mode 1&& !k.obj then some (.kK [.ow false k.ty k.sz k.xs],σ.set l {k with mode:=0},[l])else none
 |_=>none
def Ad:List Bool->List Bool->List AV->Bool
 |_,_,[]=>true
 |m,q,a::as=>(bif m.headD false&&q.headD false then !bM a else true)&&Ad m.tail q.tail as
def gn(σ:Store):List Bool->List Bool->List AV->Option (List AV×Store×List Nat)
 |_,_,[]=>some ([],σ,[])
 |m,q,a::as=>
  match(match m.headD false with
   |true=>(match q.headD false with|true=>wA σ a|false=>GI σ a)
   |false=>match Ox σ a with|none=>none|some b=>some (b,σ,[]))with
  |none=>none
  |some (b,σ',r)=>
   match gn σ' m.tail q.tail as with
   |none=>none
   |some (bs,gH,r')=>some (b::bs,gH,r++r')
def om(σ:Store)(c:AV):Option (AV×Store):=
 match c with
 | .v x=>some (.v x,σ)
 | .aq b sz xs=>some (.aq b sz xs,σ)
 | .ep cs off=>some (.ep cs off,σ)
 | .ow b ty sz xs=>some (.sl b σ.length 0 none,σ++[⟨1,ty,sz,false,xs⟩])
 |_=>none
def oq(σ:Store):List AV->Option (List AV×Store)
 |[]=>some ([],σ)
 |c::cs=>
  match om σ c with
  |none=>none
  |some (c',σ')=>
   match oq σ' cs with
   |none=>none
   |some (cs',gH)=>some (c'::cs',gH)
def sF(σ:Store)(a:AV):Option (AV×Store×List AV):=
 match a with
 | .ob ty cs=>
  match oq σ cs with
  |none=>none
  |some (cs',σ')=>some (.ptr σ'.length 0 0,σ'++[⟨1,ty,cs.length,true,[cs']⟩],[.ptr σ'.length 0 0])
 | .kK [c]=>match om σ c with|none=>none|some (b,σ')=>some (b,σ',[b])
 |a=>match om σ a with|none=>none|some (b,σ')=>some (b,σ',[])
def yQ(σ:Store):List AV->Option (List AV×Store×List AV)
 |[]=>some ([],σ,[])
 |a::as=>
  match sF σ a with
  |none=>none
  |some (b,σ',r)=>
   match yQ σ' as with
   |none=>none
   |some (bs,gH,r')=>some (b::bs,gH,r++r')
def imp(σ:Store)(a:AV):Option (AV×Store×List AV):=
 match a with
 | .agg cs=>match yQ σ cs with|none=>none|some (bs,σ',r)=>some (.agg bs,σ',r)
 | .eN f first cX=>match yQ σ cX with|none=>none|some (bs,σ',r)=>some (.eN f first bs,σ',r)
 |a=>sF σ a
def fk(σ:Store):List AV->Option (List AV×Store×List AV)
 |[]=>some ([],σ,[])
 |a::as=>
  match imp σ a with
  |none=>none
  |some (b,σ',r)=>
   match fk σ' as with
   |none=>none
   |some (bs,gH,r')=>some (b::bs,gH,r++r')
def lT(ty sz:Nat):AV->Bool
 | .ow _ t s _=>Nat.beq t ty&&Nat.beq s sz
 |_=>false
def GJ(ty:Nat):AV->Bool
 | .ob t _=>Nat.beq t ty
 |_=>false
def aA:AV->List AV
 | .ob _ cs=>cs
 | .agg cs=>cs
 |_=>[]
def isAgg(n:Nat):AV->Bool
 | .agg cs=>Nat.beq cs.length n
 |_=>false
def EG:AV->Bool
 | .aq true _ []=>true
 |_=>false
def oO:CK->AV->Bool×AV
 | .sl e sz,c=>(lT e sz c||EG c,.ow (bM c) e sz (bU c))
 |k,c=>iq k c
def zw:List CK->Nat->List AV->Bool
 |[],_,_=>true
 |[k],j,cs=>(oO k (cellAt cs j)).1
 |k::ks,j,cs=>(oO k (cellAt cs j)).1&&zw ks (j+1) cs
def zx:List CK->Nat->List AV->List AV
 |[],_,_=>[]
 |k::ks,j,cs=>(oO k (cellAt cs j)).2::zx ks (j+1) cs
section shape
variable{R:Type}(P:Program)
def Vd(dat:Bool)(t:TypeId)(r:AV)(K:AV->Option R):Option R:=
 bif eO P t then
  bif Nat.blt 16 (uo P t).length&&jC P t then cond (isAgg (uo P t).length r&&(aA r).all Kw) (K (.agg (aA r))) none else
  cond (isAgg (uo P t).length r&&nM (uo P t) 0 (aA r)) (K (.agg (jB (uo P t) 0 (aA r)))) none
 else
  match P.underlying t with
  |some (.slice e)=>
   bif dat then cond (GD (P.cellsOf e) r) (K (.aq (bM r) (P.cellsOf e) (bU r))) none
   else cond (lT e (P.cellsOf e) r) (K (.ow (bM r) e (P.cellsOf e) (bU r))) none
  |some (.pointer e)=>
   cond (ED r) (K (.v (.pointer none)))
    (cond (GJ e r&&Nat.beq (aA r).length (uo P e).length&&zw (uo P e) 0 (aA r)) (K (.ob e (zx (uo P e) 0 (aA r)))) none)
  |some (.int k)=>cond (eE k r) (K (.v (.int k (ai r)))) none
  |some .bool=>cond (Dp r) (K (.v (.bool (eW r)))) none
  |some .string=>cond (MP r) (K (.v (.string (xK r)))) none
  |_=>none
def tv(dat:Bool):List TypeId->Nat->List AV->(List AV->Option R)->Option R
 |[],_,_,K=>K []
 |t::ts,j,rs,K=>Vd P dat t (cellAt rs j) fun a=>tv dat ts (j+1) rs fun as=>K (a::as)
def sQ:AV->AV->Bool×AV
 | .v (.int k _),c=>(eE k c,.v (.int k (ai c)))
 | .v (.bool _),c=>(Dp c,.v (.bool (eW c)))
 | .v (.string _),c=>(MP c,.v (.string (xK c)))
 | .v (.pointer none),c=>(ED c,.v (.pointer none))
 | .aq _ sz _,c=>(GD sz c,.aq (bM c) sz (bU c))
 | .ow _ ty sz _,c=>(lT ty sz c||EG c,.ow (bM c) ty sz (bU c))
 |_,_=>(false,.un)
def xL:List AV->Nat->List AV->Bool
 |[],_,_=>true
 |[t],j,cs=>(sQ t (cellAt cs j)).1
 |t::ts,j,cs=>(sQ t (cellAt cs j)).1&&xL ts (j+1) cs
def Ae:List AV->Nat->List AV->List AV
 |[],_,_=>[]
 |t::ts,j,cs=>(sQ t (cellAt cs j)).2::Ae ts (j+1) cs
def cJ:List AV->List (Nat×List AV)
 |[]=>[]
 | .ob ty cs::r=>(ty,cs)::cJ r
 | .kK [c]::r=>(0,[.kK [c]])::cJ r
 | .agg cs::r=>(cs.filterMap fun| .ob ty cs=>some (ty,cs)|_=>none)++cJ r
 | .eN _ _ cX::r=>(cX.filterMap fun| .ob ty cs=>some (ty,cs)|_=>none)++cJ r
 |_::r=>cJ r
def Af:List AV->Option (Nat×Nat)
 |[.kK [.ow _ ty sz _]]=>some (ty,sz)
 |_=>none
def isRow(ty sz:Nat):AV->Bool
 | .kK [.ow b t s _]=> !b&&(Nat.beq t ty&&Nat.beq s sz)
 |_=>false
def rowLen:List AV->Nat
 |[.kK [.ow _ _ _ xs]]=>xs.length
 |_=>0
def Re:AV->AV
 | .kK [c]=>c
 |_=>.un
def lG:List (Nat×List AV)->Nat->List AV->(List (List AV)->Option R)->Option R
 |[],_,_,K=>K []
 |(ty,Rf)::ts,j,rs,K=>
  match Af Rf with
  |some (t,z)=>cond (isRow t z (cellAt rs j)&&Nat.beq (bU (Re (cellAt rs j))).length (rowLen Rf)) (lG ts (j+1) rs fun os=>K ([.kK [.ow false t z (bU (Re (cellAt rs j)))]]::os)) none
  |none=>
  cond (GJ ty (cellAt rs j)&&Nat.beq (aA (cellAt rs j)).length Rf.length&&xL Rf 0 (aA (cellAt rs j)))
   (lG ts (j+1) rs fun os=>K (Ae Rf 0 (aA (cellAt rs j))::os)) none
end shape
def kM(σ:Store):List Nat->List (List AV)->Option Store
 |[],[]=>some σ
 |l::ls,cs::os=>
  match σ[l]? with
  |none=>none
  |some k=>
   bif k.obj then
    match oq σ cs with
    |some (cs',σ')=>kM (σ'.set l {k with mode:=1,xs:=[cs']}) ls os
    |none=>none
   else
    match cs with
    |[.kK [.ow false ty sz xs]]=>kM (σ.set l {k with mode:=1,xs:=xs}) ls os
    |_=>none
 |_,_=>none
def Oy(e:List AV):Bool:=e.all Kw
def oP:AV->Bool
 | .v x=>oN (.v x)
 | .ow _ _ _ xs=>xs.all Oy
 | .kK [.ow _ _ _ xs]=>xs.all Oy
 |_=>false
def Ag{α:Type}(p:α->Bool):List α->Bool
 |[]=>true
 |[a]=>p a
 |a::as=>p a&&Ag p as
def EH:AV->Bool
 | .ob _ cs=>Ag oP cs
 |a=>oP a
def EI:AV->Bool
 | .agg cs=>Ag EH cs
 |a=>EH a
def Dq(P:Program)(dat:Bool)(t:TypeId):Bool:=
 match P.underlying t with
 |some (.slice e)=>dat|| !(uo P e).all rQ
 |some (.pointer e)=> !(uo P e).all fun| .sl d _=>(uo P d).all rQ|k=>rQ k
 |_=> !(uo P t).all rQ
def Dr(P:Program):List (Nat×List AV)->Bool
 |[]=>false
 |(_,cs)::r=>cs.any (fun| .aq _ _ _=>true| .ow _ ty _ _=> !(uo P ty).all rQ|_=>false)||Dr P r
def xM(P:Program)(C:gD)(f:FuncId)(fn:Func):Bool:=(C.CM f).isSome||(!(C.cl f)&&fn.resultTypes.any (Dq P (C.dat f)))
def fL(σ:Store):List Nat->Bool
 |[]=>false
 |l::ls=>(match σ[l]? with|some k=>Nat.beq k.mode 1|none=>false)||fL σ ls
def bI(σ:Store):Nat->AV->List Nat
 |0,_=>[]
 |n+1,a=>
  match a with
  | .sl _ l _ _=>[l]
  | .px l _ _ _=>[l]
  | .ptr l _ _=>
   match σ[l]? with
   |some k=>bif k.obj then l::(aw k.xs 0).flatMap (bI σ n)else [l]
   |none=>[l]
  | .eN _ first cX=>first.flatMap (bI σ n)++cX.flatMap (bI σ n)
  | .agg cs=>cs.flatMap (bI σ n)
  | .kK cs=>cs.flatMap (bI σ n)
  |_=>[]
def refs(σ:Store)(a:AV):List Nat:=bI σ 5 a
def bN(σ:Store):List Nat->Store
 |[]=>σ
 |l::ls=>
  match σ[l]? with
  |some k=>bN (bif Nat.beq k.mode 0 then σ else σ.set l {k with mode:=2}) ls
  |none=>bN σ ls
abbrev cK:=FuncId->List AV->Option (List AV)
abbrev iv:=(R:Type)->FuncId->List AV->Store->(List AV->Store->Option R)->Option R
def GK(n:Nat)(rs:List AV):AV:=bif Nat.beq n 1 then cellAt rs 0 else .kK rs
section call
variable{R:Type}(P:Program)(C:gD)(call:cK)(inl:iv)
def cC(σ:Store):List Bool->List AV->List Nat
 |_,[]=>[]
 |m,a::as=>(bif m.headD false then []else refs σ a)++cC σ m.tail as
def MT(g:List (List AV)->Option (List (List AV)))(σ:Store)(K:AV->Store->Option R)(args:List AV):Option R:=
 match args with
 |[.sl _ l 0 none]=>
  match σ[l]? with
  |none=>none
  |some b=>
   bif Nat.beq b.mode 1&& !b.obj&&Nat.beq b.sz 1 then
    match g b.xs with
    |none=>none
    |some ys=>cond (decide (b.xs.length<=1000000)) (K (.kK []) (σ.set l {b with xs:=ys})) none
   else none
 |_=>none
def uA(σ:Store)(l:Nat):AV->Option AV
 | .v x=>bif oN (.v x)then some (.v x)else none
 | .sl nil m 0 none=>
  match σ[m]? with
  |some b=>bif Nat.beq b.mode 1&& !b.obj&& !(Nat.beq m l)then some (.aq nil b.sz b.xs)else none
  |none=>none
 |_=>none
def Ah(g:Nat->Nat->List (List AV)->List AV->Option (List (List AV)))(σ:Store)(K:AV->Store->Option R)(args:List AV):Option R:=
 match args with
 | .sl nil l 0 none::rest=>
  match σ[l]? with
  |none=>none
  |some b=>
   bif Nat.beq b.mode 1&& !b.obj then
    match rest.mapM (uA σ l)with
    |none=>none
    |some ds=>
     match g b.ty b.sz b.xs ds with
     |none=>none
     |some ys=>cond (decide (b.xs.length<=1000000)) (K (.sl (nil&&ys.isEmpty) σ.length 0 none) (σ.set l {b with mode:=0}++[⟨1,b.ty,b.sz,false,ys⟩])) none
   else none
 |_=>none
def Rg(u:Upd)(σ:Store)(K:AV->Store->Option R)(args:List AV):Option R:=
 match u with
 | .row g=>MT g σ K args
 | .mv g=>Ah g σ K args
def Rh(t:TypeId)(a:AV):AV:=
 match a with
 | .aq b s xs=>
  bif Nat.beq s 0 then
   match b,xs with
   |true,[]=>match P.underlying t with|some (.slice e)=>.aq true (P.cellsOf e) []|_=>.aq true s []
   |b,xs=>.aq b s xs
  else .aq b s xs
 |a=>a
def sG:List TypeId->List AV->List AV
 |t::ts,a::as=>Rh P t a::sG ts as
 |_,as=>as
def gJ(σ:Store)(K:AV->Store->Option R)(f:FuncId)(args:List AV):Option R:=
 match P.funcs[f]? with
 |none=>none
 |some fn=>
  bif fn.body.isNone || fn.name == "runtime.NumGoroutine" then none else
  match C.CM f with
  |some g=>Rg g σ K args
  |none=>
  bif C.inl f then inl R f args σ fun rs σ'=>K (GK fn.resultTypes.size rs) σ'
  else
  cond (Ad (C.rw f) (C.bk f) (sG P fn.params.toList args)) (match gn σ (C.rw f) (C.bk f) (sG P fn.params.toList args)with
  |none=>none
  |some (bs,σ1,roots)=>
   bif !((cC σ (C.rw f) (sG P fn.params.toList args)).all fun l=>match σ1[l]? with|some k=> !(Nat.beq k.mode 0)|none=>false)then none else
   bif C.cl f&&fL σ (cC σ (C.rw f) (sG P fn.params.toList args))then none else
   (call f bs).bind fun rs=>
    tv P (C.dat f) fn.resultTypes.toList 0 rs fun as=>
     lG (cJ bs) fn.resultTypes.size rs fun os=>
      cond (!(fL σ (cC σ (C.rw f) (sG P fn.params.toList args)))||(fn.resultTypes.any (Dq P (C.dat f))||Dr P (cJ bs))||(Ag EI as&&Ag (Ag oP) os))
       (match kM (bif fL σ (cC σ (C.rw f) (sG P fn.params.toList args))&&(fn.resultTypes.any (Dq P (C.dat f))||Dr P (cJ bs))then bN σ1 (cC σ (C.rw f) (sG P fn.params.toList args))else σ1) roots os with
       |none=>none
       |some σ2=>
        match fk σ2 as with
        |none=>none
        |some (vs,σ3,_)=>K (GK fn.resultTypes.size vs) σ3) none) none
def VB(o:Oper):Bool:=
 match o.op,o.dst with
 | .slice t _ none (some _) none,some d=>C.eat t d
 |_,_=>false
def Ai(f:FuncId):Bool:=match C.CM f with|some (.mv _)=>(C.pr f).isNone|_=>false
def EJ:AV->Option Value
 | .v x=>some x
 |_=>none
def EK(g:(List Value->Bool)×(List Value->List Value))(σ:Store)(K:AV->Store->Option R)(args:List AV):Option R:=
 match args.mapM EJ with
 |none=>none
 |some xs=>cond (g.1 xs) (K (.kK ((g.2 xs).map .v)) σ) none
def bC(o:Oper)(fr:List (Nat×AV))(σ:Store)(K:AV->Store->Option R):Option R:=
 let g:=fP fr
 match o.op with
 | .move x| .assign x=>
  match x with
  | .const (.slice none 0 0)=>
   match P.underlying o.type with
   |some (.slice e)=>K (cy P σ e).1 (cy P σ e).2
   |_=>none
  |x=>K (g x) σ
 | .pick c a b=>
  match g c with
  | .v (.bool t)=>cond t (K (g a) σ) (K (g b) σ)
  |_=>none
 | .alloc t=>gU P σ K t
 | .box t x=>qa P σ K t (g x)
 | .build t parts=>gV P σ K t (parts.toList.map fun(i,x)=>(i,g x))
 | .buildSlice t n parts=>cg P σ K t n (parts.toList.map fun(i,x)=>(i,g x))
 | .load t x=>iu P σ K t (g x)
 | .store t x y=>gW P σ t (g x) (g y) fun σ'=>K .un σ'
 | .nilCheck x=>
  match g x with
  | .ptr l i j=>K (.ptr l i j) σ
  | .ep cs off=>K (.ep cs off) σ
  | .eN f a b=>K (.eN f a b) σ
  |_=>none
 | .binOp op t x y _=>sP P σ K op t (g x) (g y)
 | .unOp op _ x=>CS σ K op (g x)
 | .convert a b x=>bif ZN P a b then lE P σ K a b (g x)else lD P σ K a b (g x)
 | .slice t x lo hi none=>bif VB C o then qd P σ K t (g x) (hi.map g)else gX P σ K t (g x) (lo.map g) (hi.map g)
 | .fieldAddr t x f=>dQ P σ K t (g x) f
 | .field t x f=>kF P σ K t (g x) f
 | .indexAddr t x i=>cH P σ K t (g x) (g i) (isConst i)
 | .index t x i=>kG P σ K t (g x) (g i) (isConst i)
 | .extract x i=>
  match g x with
  | .kK vs=>bif Nat.blt i vs.length then K (cellAt vs i) σ else none
  |_=>none
 | .makeSlice t a b=>cI P σ K t (g a) (g b)
 | .makeFunc (.func f) first cX=>bif (first.toList.map g).all oN&&(cX.toList.map g).all oN then K (.eN f (first.toList.map g) (cX.toList.map g)) σ else none
 | .call c=>
  match c.callee with
  | .builtin .len=>
   match c.args.toList,c.argTypes.toList with
   |[x],[t]=>qe P σ K t (g x)
   |_,_=>none
  | .builtin .append=>
   match c.args.toList,c.argTypes.toList with
   |[x,y],[t,u]=>fw P σ K t u (g x) (g y)
   |_,_=>none
  | .builtin .copy=>
   match c.args.toList,c.argTypes.toList with
   |[x,y],[t,_]=>lF P σ K t (g x) (g y)
   |_,_=>none
  | .builtin .min=>
   match c.args.toList with
   |[x,y]=>match Rc (g x) (g y)with|some a=>K a σ|none=>none
   |_=>none
  | .builtin .max=>
   match c.args.toList with
   |[x,y]=>match Rd (g x) (g y)with|some a=>K a σ|none=>none
   |_=>none
  | .value f=>
   match g f with
   | .eN fn first cX=>
    match C.pr fn with
    |some h=>EK h σ K (first++c.args.toList.map g++cX)
    |none=>gJ P C call inl σ K fn (first++c.args.toList.map g++cX)
   |_=>none
  |_=>none
 |_=>none
def aY(o:Oper):Nat:=
 match o.op with
 | .move (.const (.slice _ _ _))| .assign (.const (.slice _ _ _))=>1
 | .move _| .assign _| .pick _ _ _| .nilCheck _| .binOp _ _ _ _ _| .unOp _ _ _| .fieldAddr _ _ _| .field _ _ _| .index _ _ _| .extract _ _| .makeFunc _ _ _=>0
 | .convert a b _=>bif ZN P a b then 2 else 1
 | .alloc _| .box _ _| .build _ _| .load _ _| .indexAddr _ _ _=>1
 | .slice _ _ _ _ _=>bif VB C o then 2 else 1
 | .buildSlice t _ _| .makeSlice t _ _=>match P.underlying t with|some (.slice e)=>bif jC P e then 1 else 2|_=>2
 | .call c=>
  match c.callee with
  | .builtin .len=>1
  | .builtin .min=>0
  | .builtin .max=>0
  | .value (.func f)=>
   match P.funcs[f]? with
   |some fn=>bif C.inl f||(C.rw f).any id||xM P C f fn then 2 else 1
   |none=>2
  |_=>2
 |_=>2
def Kz(n:Nat):List Nat->List Nat
 |[]=>[n]
 |m::r=>bif Nat.beq n m then m::r else bif Nat.blt n m then n::m::r else m::Kz n r
def Ri:List Nat->List Nat->List Nat
 |[],b=>b
 |a::as,b=>Ri as (Kz a b)
def gY(n:Nat):List Nat->Bool
 |[]=>false
 |m::r=>Nat.beq n m||gY n r
def Oz(acc:List (List Nat))(o:Oper):List Nat:=
 o.after.toList.foldl (fun s e=>bif Region.binds .any e then Ri (Kz e.on (acc.getD e.on [])) s else s) []
def xN(ops:List Oper):List (List Nat):=
 ops.foldl (fun acc o=>acc++[Oz acc o]) []
def nN(ops:Array Oper)(o:Oper):List Nat:=
 (o.op.operands.toList.filterMap fun| .tmp t=>some t|_=>none)++
 (match o.guard with
  |some (j,_)=>match ops[j]? with|some oj=>oj.dst.toList|none=>[]
  |none=>[])
def Aj(ops:Array Oper)(a b:Oper):Bool:=
 (match a.dst with|some d=> !(gY d (nN ops b))&&(match b.dst with|some e=> !(Nat.beq d e)|none=>true)|none=>true)&&
 (match b.dst with|some e=> !(gY e (nN ops a))|none=>true)
def uB(ops:Array Oper)(b:Oper)(cl:List Nat):Nat->List Oper->Bool
 |_,[]=>true
 |i,a::r=>(gY i cl||Aj ops a b)&&uB ops b cl (i+1) r
def zy(ops:Array Oper)(all:List Oper):Nat->List Oper->List (List Nat)->Bool
 |_,[],_=>true
 |j,b::r,cls=>
  (b.after.all fun e=> !(Region.binds .any e)||Nat.blt e.on j)&&uB ops b (cls.headD []) 0 (all.take j)&&zy ops all (j+1) r cls.tail
def EL(ops:Array Oper):Bool:=
 Region.noSelect ops&&zy ops ops.toList 0 ops.toList (xN ops.toList)
structure cD where
 look:Option (List Nat)
 put:Option (List Nat)
 nw:Bool
def cD.no:cD:=⟨some [],some [],false⟩
def cD.top:cD:=⟨none,none,true⟩
def bh:AV->List Nat
 | .sl _ l _ _=>[l]
 | .ptr l _ _=>[l]
 | .px l _ _ _=>[l]
 |_=>[]
def Rj:AV->Bool
 | .v _=>true
 | .aq _ _ _=>true
 |_=>false
def Rk(a:AV):List Nat:=match cells a with|some cs=>cs.flatMap (fun c=>match c with| .sl _ l _ _=>[l]|_=>[])|none=>[]
def VC(a:AV):Bool:=match cells a with|some cs=>cs.all Rj|none=>false
def aR(o:Oper)(fr:List (Nat×AV))(σ:Store):cD:=
 let g:=fP fr
 match o.op with
 | .move (.const (.slice _ _ _))| .assign (.const (.slice _ _ _))=>⟨some [],some [],true⟩
 | .move _| .assign _| .pick _ _ _| .nilCheck _| .binOp _ _ _ _ _| .unOp _ _ _| .fieldAddr _ _ _| .field _ _ _| .index _ _ _| .extract _ _| .makeFunc _ _ _=>.no
 | .alloc _| .box _ _| .build _ _| .makeSlice _ _ _=>⟨some [],some [],true⟩
 | .load _ x| .indexAddr _ x _=>⟨some (bh (g x)),some [],false⟩
 | .slice _ x _ _ _=>bif VB C o then⟨some (bh (g x)),some (bh (g x)),true⟩else⟨some (bh (g x)),some [],false⟩
 | .convert _ _ x=>⟨some (bh (g x)),some [],true⟩
 | .buildSlice _ _ ps=>⟨some (ps.toList.flatMap fun p=>Rk (g p.2)),some (ps.toList.flatMap fun p=>Rk (g p.2)),true⟩
 | .store _ x y=>
  bif VC (g y)then⟨some (bh (g x)),some (bh (g x)),true⟩else
  match g x with
  | .ptr l _ _=>match σ[l]? with|some b=>bif b.obj then⟨some [l],some [l],true⟩else .top|none=>.top
  |_=>.top
 | .call c=>
  match c.callee with
  | .builtin .len=>match c.args.toList with|[x]=>⟨some (bh (g x)),some [],false⟩|_=>.top
  | .builtin .append=>match c.args.toList with|[x,y]=>⟨some (bh (g x)++bh (g y)),some (bh (g x)),true⟩|_=>.top
  | .builtin .copy=>match c.args.toList with|[x,y]=>⟨some (bh (g x)++bh (g y)),some (bh (g x)),true⟩|_=>.top
  | .builtin .min=>.no
  | .builtin .max=>.no
  | .value (.func f)=>
   match P.funcs[f]? with
   |some fn=>bif Ai C f then⟨some (c.args.toList.flatMap fun x=>bh (g x)),some (match c.args.toList with|x::_=>bh (g x)|[]=>[]),true⟩else bif C.inl f||(C.CM f).isSome||(C.pr f).isSome then .top else bif (C.rw f).any id||xM P C f fn then⟨none,some (c.args.toList.flatMap fun x=>refs σ (g x)),true⟩else⟨none,some [],true⟩
   |none=>.top
  |_=>.top
 |_=>.top
def ldB(o:Oper):Bool:=(match o.op with| .call c=>(match c.callee with| .value (.func f)=> !(Ai C f)| .value _=>true|_=>false)|_=>false)&&Nat.beq (aY P C o) 2
def KA:Option (List Nat)->Bool
 |none=>true
 |some l=> !l.isEmpty
def MU:List Nat->List Nat->Bool
 |[],_=>false
 |a::as,b=>gY a b||MU as b
def meet:Option (List Nat)->Option (List Nat)->Bool
 |some a,some b=>MU a b
 |some a,none=> !a.isEmpty
 |none,b=>KA b
def cD.touch(f:cD):Bool:=f.nw||KA f.look||KA f.put
structure Trace where
 f:cD
 lo:Nat
 hi:Nat
 ld:Bool
def Trace.no:Trace:=⟨.no,0,0,false⟩
def MV(lo hi:Nat):List Nat->Bool
 |[]=>false
 |l::r=>(Nat.ble lo l&&Nat.blt l hi)||MV lo hi r
def clash(a:Trace)(g:cD):Bool:=
 (a.ld&&g.nw)||(a.f.put.isNone&&g.touch)||(g.put.isNone&&(a.f.touch||Nat.blt a.lo a.hi))||meet a.f.put g.look||meet a.f.look g.put||meet a.f.put g.put||(match g.put with|some l=>MV a.lo a.hi l|none=>false)
def Ak(cl:List Nat)(f:cD):Nat->List Trace->Bool
 |_,[]=>true
 |i,g::r=>(gY i cl|| !(clash g f))&&Ak cl f (i+1) r
def lQ(ops:Array Oper):List Oper->St->(St->Option R)->Option R
 |[],s,K=>K s
 |o::rest,s,K=>
  match o.guard with
  |none=>bC P C call inl o s.fr s.bl fun a σ=>lQ ops rest ⟨iQ s.fr o.dst a,σ⟩ K
  |some (j,want)=>
   match ops[j]? with
   |none=>none
   |some oj=>
    match oj.dst with
    |none=>none
    |some d=>
     match ax s.fr d with
     | .v (.bool b)=>
      let yes (_:Unit):Option R:=
       bC P C call inl o (iQ s.fr d (.v (.bool want))) s.bl fun a σ=>lQ ops rest ⟨iQ (iQ s.fr d (.v (.bool want))) o.dst a,σ⟩ K
      let no (_:Unit):Option R:=lQ ops rest ⟨iQ (iQ s.fr d (.v (.bool (!want)))) o.dst (.v (.tuple #[])),s.bl⟩ K
      match want with
      |true=>cond b (yes ()) (no ())
      |false=>cond b (no ()) (yes ())
     | .v (.tuple _)=>lQ ops rest ⟨iQ s.fr o.dst (.v (.tuple #[])),s.bl⟩ K
     |_=>none
def iw(ops:Array Oper):List Oper->List (List Nat)->List Trace->St->(St->Option R)->Option R
 |[],_,_,s,K=>K s
 |o::rest,cls,acc,s,K=>
  let yes (fr:List (Nat×AV)):Option R:=
   bif Ak (cls.headD []) (aR P C o fr s.bl) 0 acc then
    bC P C call inl o fr s.bl fun a σ=>iw ops rest cls.tail (acc++[⟨aR P C o fr s.bl,s.bl.length,σ.length,ldB P C o⟩]) ⟨iQ fr o.dst a,σ⟩ K
   else none
  let no (fr:List (Nat×AV)):Option R:=iw ops rest cls.tail (acc++[.no]) ⟨iQ fr o.dst (.v (.tuple #[])),s.bl⟩ K
  match o.guard with
  |none=>yes s.fr
  |some (j,want)=>
   match ops[j]? with
   |none=>none
   |some oj=>
    match oj.dst with
    |none=>none
    |some d=>
     match ax s.fr d with
     | .v (.bool b)=>
      match want with
      |true=>cond b (yes (iQ s.fr d (.v (.bool want)))) (no (iQ s.fr d (.v (.bool (!want)))))
      |false=>cond b (no (iQ s.fr d (.v (.bool (!want))))) (yes (iQ s.fr d (.v (.bool want))))
     | .v (.tuple _)=>no s.fr
     |_=>none
end call
end
section
def ZO(n:Nat):List Nat->List Nat
 |[]=>[n]
 |m::r=>bif Nat.beq n m then m::r else bif Nat.blt n m then n::m::r else m::ZO n r
def GL:List Nat->List Nat->List Nat
 |[],b=>b
 |a::as,b=>GL as (ZO a b)
def mY(n:Nat):List Nat->Bool
 |[]=>false
 |m::r=>Nat.beq n m||mY n r
def ab2(n:Nat):List Nat->List Nat
 |[]=>[]
 |m::r=>bif Nat.beq n m then r else m::ab2 n r
structure LE where
 blk:List (Nat×List Nat)
 ret:List Nat
def sR:List (Nat×List Nat)->Nat->List Nat
 |[],_=>[]
 |(i,a)::r,t=>bif Nat.beq i t then a else sR r t
def ZP(o:Oper):List Nat:=o.op.operands.toList.filterMap fun| .tmp t=>some t|_=>none
def MW:List Oper->List Nat->List Nat
 |[],out=>out
 |o::r,out=>
  let l:=MW r out
  GL (ZP o) (match o.dst with|some d=>ab2 d l|none=>l)
def live:Code->List Nat->LE->List Nat
 | .skip,out,_=>out
 | .region _ ops _,out,_=>MW ops.toList out
 | .seq a b,out,E=>live a (live b out E) E
 | .cond c a b,out,E=>GL (match c with| .tmp t=>[t]|_=>[]) (GL (live a out E) (live b out E))
 | .block id c,out,E=>live c out {E with blk:=(id,out)::E.blk}
 | .loop c,_,E=>live c (live c (live c [] E) E) E
 | .exit id,_,E=>sR E.blk id
 | .ret,_,E=>E.ret
 |_,_,_=>[]
def lU:Code->List Nat->List Nat
 | .seq a b,bd=>GL (lU a bd) (lU b bd)
 | .cond _ a b,bd=>GL (lU a bd) (lU b bd)
 | .block id c,bd=>lU c (id::bd)
 | .loop c,bd=>lU c bd
 | .exit id,bd=>bif mY id bd then []else [id]
 |_,_=>[]
def oQ(σ:Store):Nat->List Nat->AV->List Nat
 |0,vs,_=>vs
 |n+1,vs,a=>
  match a with
  | .sl _ l _ _=>bif mY l vs then vs else vs++[l]
  | .px l _ _ _=>bif mY l vs then vs else(match σ[l]? with|some k=>(aw k.xs 0).foldl (oQ σ n) (vs++[l])|none=>vs++[l])
  | .ptr l _ _=>
   bif mY l vs then vs else
   match σ[l]? with
   |some k=>bif k.obj then(aw k.xs 0).foldl (oQ σ n) (vs++[l])else vs++[l]
   |none=>vs++[l]
  | .eN _ first cX=>cX.foldl (oQ σ n) (first.foldl (oQ σ n) vs)
  | .agg cs=>cs.foldl (oQ σ n) vs
  | .kK cs=>cs.foldl (oQ σ n) vs
  |_=>vs
def KC(l:Nat):List Nat->Nat
 |[]=>0
 |m::r=>bif Nat.beq l m then 0 else KC l r+1
def qH(vs:List Nat):Nat->AV->AV
 |0,_=>.un
 |n+1,a=>
  match a with
  | .sl b l off cut=>bif mY l vs then .sl b (KC l vs) off cut else .un
  | .px l j k i=>bif mY l vs then .px (KC l vs) j k i else .un
  | .ptr l i j=>bif mY l vs then .ptr (KC l vs) i j else .un
  | .eN f first cX=>.eN f (first.map (qH vs n)) (cX.map (qH vs n))
  | .agg cs=>.agg (cs.map (qH vs n))
  | .kK cs=>.kK (cs.map (qH vs n))
  |a=>a
def GM(vs:List Nat)(k:gC):gC:=bif k.obj then{k with xs:=[(aw k.xs 0).map (qH vs 6)]}else k
def canon(keep:List Nat)(s:St):St:=
 let fr:=(keep.filterMap fun t=>match ax s.fr t with| .un=>none|a=>some (t,a))++(s.fr.filter fun p=>Nat.ble 1000000 p.1)
 let vs:=fr.foldl (fun vs p=>oQ s.bl 6 vs p.2) []
 ⟨fr.map fun p=>(p.1,qH vs 6 p.2),vs.map fun l=>match s.bl[l]? with|some k=>GM vs k|none=>⟨0,0,0,false,[]⟩⟩
structure LR where
 ex:Option Nat
 st:St
 outs:List AV
inductive Ex where
 |normal
 |exit (id:Nat)
 |ret
def nO(id:Nat)(r:LR):Bool:=match r.ex with|some i=>Nat.beq i id|none=>false
def sH(r:LR):Bool:=r.ex.isNone
def yR(l:Nat)(full:Bool):AV->Bool
 | .sl _ m _ c=>Nat.beq l m&&(match c with|none=>full|some _=> !full)
 |_=>false
def uC:AV->Nat
 | .sl _ _ o _=>o
 |_=>0
def Yo:AV->Nat
 | .sl _ _ _ (some n)=>n
 |_=>0
def Ds(l i j:Nat):AV->Bool
 | .ptr l' i' j'=>Nat.beq l l'&&Nat.beq i i'&&Nat.beq j j'
 |_=>false
def Rl(n off:Nat):AV->Bool
 | .ep cs o=>Nat.beq cs.length n&&Nat.beq o off
 |_=>false
def Rm(f:FuncId):AV->Bool
 | .eN g [] []=>Nat.beq f g
 |_=>false
def iK:AV->AV->Bool×AV
 | .v (.int k _),c=>(eE k c,.v (.int k (ai c)))
 | .v (.bool _),c=>(Dp c,.v (.bool (eW c)))
 | .v (.string _),c=>(MP c,.v (.string (xK c)))
 | .v (.pointer none),c=>(ED c,.v (.pointer none))
 | .aq _ sz _,c=>(GD sz c,.aq (bM c) sz (bU c))
 | .sl _ l off none,c=>(yR l true c&&Nat.beq (uC c) off,.sl (bM c) l off none)
 | .sl _ l off (some _),c=>(yR l false c&&Nat.beq (uC c) off,.sl (bM c) l off (some (Yo c)))
 | .ptr l i j,c=>(Ds l i j c,.ptr l i j)
 | .eN f [] [],c=>(Rm f c,.eN f [] [])
 |_,_=>(false,.un)
def iU:List AV->Nat->List AV->Bool
 |[],_,_=>true
 |[t],j,cs=>(iK t (cellAt cs j)).1
 |t::ts,j,cs=>(iK t (cellAt cs j)).1&&iU ts (j+1) cs
def tA:List AV->Nat->List AV->List AV
 |[],_,_=>[]
 |t::ts,j,cs=>(iK t (cellAt cs j)).2::tA ts (j+1) cs
def uD:AV->List AV
 | .ep cs _=>cs
 |_=>[]
def lR:AV->AV->Bool×AV
 | .ep ts o,c=>(Rl ts.length o c&&iU ts 0 (uD c),.ep (tA ts 0 (uD c)) o)
 | .agg ts,c=>(isAgg ts.length c&&iU ts 0 (aA c),.agg (tA ts 0 (aA c)))
 |t,c=>iK t c
def gK(fr:List (Nat×AV))(j:Nat):Nat×AV:=fr.getD j (0,.un)
def qI:List (Nat×AV)->Nat->List (Nat×AV)->Bool
 |[],_,_=>true
 |(t,a)::r,j,fr=>Nat.beq t (gK fr j).1&&(lR a (gK fr j).2).1&&qI r (j+1) fr
def EM:List (Nat×AV)->Nat->List (Nat×AV)->List (Nat×AV)
 |[],_,_=>[]
 |(t,a)::r,j,fr=>(t,(lR a (gK fr j).2).2)::EM r (j+1) fr
def cR(bl:Store)(j:Nat):gC:=bl.getD j ⟨0,0,0,false,[]⟩
def nP:Store->Nat->Store->Bool
 |[],_,_=>true
 |k::r,j,bl=>
  (Nat.beq k.mode (cR bl j).mode&&Nat.beq k.ty (cR bl j).ty&&Nat.beq k.sz (cR bl j).sz&&(k.obj==(cR bl j).obj)&&
   (match k.obj with|true=>Nat.beq (cR bl j).xs.length 1&&Nat.beq (aw (cR bl j).xs 0).length (aw k.xs 0).length&&iU (aw k.xs 0) 0 (aw (cR bl j).xs 0)|false=>true))&&nP r (j+1) bl
def nQ:Store->Nat->Store->Store
 |[],_,_=>[]
 |k::r,j,bl=>
  {k with xs:=match k.obj with|true=>[tA (aw k.xs 0) 0 (aw (cR bl j).xs 0)]|false=>(cR bl j).xs}::nQ r (j+1) bl
def dx(T s:St):Bool:=Nat.beq T.fr.length s.fr.length&&qI T.fr 0 s.fr&&(Nat.beq T.bl.length s.bl.length&&nP T.bl 0 s.bl)
def ni(T s:St):St:=⟨EM T.fr 0 s.fr,nQ T.bl 0 s.bl⟩
def sS(c:Code)(E:LE):List Nat:=
 GL (live (.loop c) [] E) ((lU c []).foldl (fun acc id=>GL (sR E.blk id) acc) [])
abbrev mo:=Code->LE->(St->Option (List AV))->St->Option LR
def EN:Code->Nat
 | .seq (.region _ ops _) _=>ops.toList.foldl (fun acc o=>match o.op with| .binOp .lss _ _ (.const (.int _ n)) _=>n.toNat|_=>acc) 0
 |_=>0
def xO{R:Type}(step:St->(Ex->St->Option R)->Option R):Nat->St->(Ex->St->Option R)->Option R
 |0,_,_=>none
 |n+1,s,K=>step s fun e s'=>match e with| .normal=>xO step n s' K|e=>K e s'
def wB:Code->Bool
 | .seq a b=>wB a&&wB b
 | .cond _ a b=>wB a||wB b
 | .exit _=>false
 | .ret=>false
 | .loop _=>false
 |_=>true
def Dt:Code->Bool
 | .region _ ops _=>ops.toList.any fun o=>o.guard.isSome
 | .seq a b=>Dt a||Dt b
 | .cond _ a b=>(wB a&&wB b)||Dt a||Dt b
 | .block _ c=>Dt c
 |_=>false
def ZQ(o:Oper):Bool:=match o.op with| .call _=>true|_=>false
def heavy:Code->Bool
 | .region _ ops _=>ops.toList.any fun o=>o.guard.isSome||ZQ o
 | .seq a b=>heavy a||heavy b
 | .cond _ _ _=>true
 | .block _ _=>true
 | .loop _=>true
 |_=>false
def Al:Code->Nat->Option TypeId
 | .region _ ops _,t=>ops.toList.findSome? fun o=>match o.dst with|some d=>bif Nat.beq d t then some o.type else none|none=>none
 | .seq a b,t=>match Al a t with|some u=>some u|none=>Al b t
 | .cond _ a b,t=>match Al a t with|some u=>some u|none=>Al b t
 | .block _ c,t=>Al c t
 | .loop c,t=>Al c t
 |_,_=>none
def ab3:AV->Bool
 | .un=>true
 |_=>false
def ZR(P:Program)(t:TypeId):AV:=
 match P.underlying t with
 |some (.int k)=>.v (.int k 0)
 |some .bool=>.v (.bool false)
 |some .string=>.v (.string .empty)
 |_=>.un
def GN(P:Program)(a:Code)(s:St):List Nat->List (Nat×AV)
 |[]=>[]
 |t::ts=>
  bif ab3 (ax s.fr t)then(match Al a t with|some u=>(t,ZR P u)::GN P a s ts|none=>GN P a s ts)else GN P a s ts
def Yp(P:Program)(a:Code)(keep:List Nat)(s:St):St:=canon keep ⟨GN P a s keep++s.fr,s.bl⟩
def ab4(P:Program)(a b:Code)(keep:List Nat)(s:St):Bool:=
 Dt a&&heavy b&&(GN P a s keep).all fun p=> !(ab3 p.2)
def wC:Nat:=1000001
def GP(bg:St->Option (List AV))(keep:List Nat)(E:LE)(e:Ex)(s:St):Option LR:=
 match e with
 | .normal=>some ⟨some wC,canon keep s,[]⟩
 | .exit id=>bif Nat.beq id wC then none else some ⟨some id,canon (sR E.blk id) s,[]⟩
 | .ret=>(bg s).bind fun outs=>some ⟨none,⟨[],[]⟩,outs⟩
def sI(s:St)(c:Operand)(v:Bool):St:=
 match c with
 | .tmp t=>⟨iQ s.fr (some t) (.v (.bool v)),s.bl⟩
 |_=>s
section code
variable(P:Program)(C:gD)(call:cK)(inl:iv)(loop:mo)(iV:Nat)(jn:Bool)
def lV{R:Type}(T:List Nat->St)(E:LE)(K:Ex->St->Option R)(fin:List AV->Option R)(r:LR):List Nat->Option R
 |[]=>cond (sH r) (fin r.outs) none
 |id::ids=>
  cond (nO id r) (cond (dx (T (sR E.blk id)) r.st) (K (.exit id) (ni (T (sR E.blk id)) r.st)) none) (lV T E K fin r ids)
def ck(bg:St->Option (List AV)):Code->(R:Type)->(List AV->Option R)->List Nat->LE->St->(Ex->St->Option R)->Option R
 | .skip,_,_,_,_,s,K=>K .normal s
 | .region _ ops d,_,_,_,_,s,K=>bif d then(bif EL ops then iw P C call inl ops ops.toList (xN ops.toList) [] s (K .normal)else none)else lQ P C call inl ops ops.toList s (K .normal)
 | .seq a b,R,fin,out,E,s,K=>
  bif jn&&ab4 P a b (live b out E) s then
   (ck bg a LR (fun outs=>some ⟨none,⟨[],[]⟩,outs⟩) (live b out E) E s (GP bg (live b out E) E)).bind fun r=>
    cond (nO wC r)
     (cond (dx (Yp P a (live b out E) s) r.st) (ck bg b R fin out E (ni (Yp P a (live b out E) s) r.st) K) none)
     (lV (fun keep=>canon keep s) E K fin r (lU a []))
  else
   ck bg a R fin (live b out E) E s fun e s'=>
    match e with
    | .normal=>ck bg b R fin out E s' K
    |e=>K e s'
 | .cond c a b,R,fin,out,E,s,K=>
  match fP s.fr c with
  | .v (.bool t)=>cond t (ck bg a R fin out E (sI s c true) K) (ck bg b R fin out E (sI s c false) K)
  |_=>none
 | .block id c,R,fin,out,E,s,K=>
  ck bg c R fin out {E with blk:=(id,out)::E.blk} s fun e s'=>
   match e with
   | .exit i=>bif Nat.beq i id then K .normal s' else K (.exit i) s'
   |e=>K e s'
 | .loop c,R,fin,_,E,s,K=>
  bif Nat.blt 0 (EN c)&&Nat.ble (EN c) iV then xO (fun s K=>ck bg c R fin (sS c E) E s K) (EN c+1) s K else
  (loop c E bg (canon (sS c E) s)).bind fun r=>
   lV (fun keep=>canon keep (canon (sS c E) s)) E K fin r (lU c [])
 | .exit id,_,_,_,_,s,K=>K (.exit id) s
 | .ret,_,_,_,_,s,K=>K .ret s
 |_,_,_,_,_,_,_=>none
end code
def iW(P:Program)(C:gD)(call:cK)(inl:iv)(iV:Nat)(jn:Bool):Nat->mo
 |0,_,_,_,_=>none
 |n+1,c,E,bg,s=>
  ck P C call inl (iW P C call inl iV jn n) iV jn bg c LR (fun outs=>some ⟨none,⟨[],[]⟩,outs⟩) (sS c E) E s fun e s'=>
   match e with
   | .normal=>iW P C call inl iV jn n c E bg (canon (sS c E) s')
   | .exit id=>some ⟨some id,canon (sR E.blk id) s',[]⟩
   | .ret=>(bg s').bind fun outs=>some ⟨none,⟨[],[]⟩,outs⟩
def MX(dat:Bool)(σ:Store)(a:AV):Option (AV×Store):=
 match a with
 | .v x=>bif oN (.v x)then some (.v x,σ)else none
 | .aq b sz xs=>bif dat then some (.aq b sz xs,σ)else none
 | .sl _ _ _ _=>
  match dat with
  |true=>zZ σ a
  |false=>qF σ a
 | .agg cs=>match gG σ cs with|none=>none|some (cs',σ')=>some (.agg cs',σ')
 | .ptr l i j=>bif Nat.beq i 0&&Nat.beq j 0 then uz σ l else none
 | .eN f first cX=>bif !first.isEmpty then none else match oh σ cX with|none=>none|some (bs,σ',_)=>some (.eN f first bs,σ')
 |_=>none
def Du(dat:Bool)(σ:Store):List AV->Option (List AV×Store)
 |[]=>some ([],σ)
 |c::cs=>
  match MX dat σ c with
  |none=>none
  |some (c',σ')=>
   match Du dat σ' cs with
   |none=>none
   |some (cs',gH)=>some (c'::cs',gH)
def uE(σ:Store)(a:AV):Option (AV×Store):=
 match a with
 | .ptr l i j=>bif Nat.beq i 0&&Nat.beq j 0 then uz σ l else none
 |a=>match wA σ a with|none=>none|some (b,σ',_)=>some (b,σ')
def kN(σ:Store):List AV->Option (List AV×Store)
 |[]=>some ([],σ)
 |a::as=>
  match uE σ a with
  |none=>none
  |some (c',σ')=>
   match kN σ' as with
   |none=>none
   |some (cs',gH)=>some (c'::cs',gH)
def eP(P:Program)(s:St):List ResultVar->Option (List AV)
 |[]=>some []
 | .tmp t::r=>match eP P s r with|none=>none|some vs=>some (EF s.fr t::vs)
 | .cell a t::r=>
  match EF s.fr a with
  | .ptr l i j=>
   match iu P s.bl (fun a _=>some a) t (.ptr l i j)with
   |none=>none
   |some v=>
    match eP P s r with
    |none=>none
    |some vs=>some (v::vs)
  |_=>none
def rR(fr:List (Nat×AV))(ts:List Nat):List AV:=ts.map (ax fr)
def Am(P:Program)(C:gD)(f:FuncId)(fn:Func)(nr:Nat)(s:St):Option (List AV):=
 match eP P s fn.results.toList with
 |some vs=>
  match Du (C.dat f) s.bl vs with
  |none=>none
  |some (rs,σ)=>
   match kN σ (rR s.fr ((List.range nr).map (· +1000000)))with
   |none=>none
   |some (bs,_)=>some (rs++bs)
 |none=>none
def aeD(P:Program)(fn:Func):Bool:=match fn.resultTypes.toList with|[t]=>Nat.blt 16 (uo P t).length|_=>false
def VD(v:AV):Option (List AV):=match v with| .agg cs=>cond (cs.all Kw) (some [.agg cs]) none|_=>none
def nj(P:Program)(C:gD)(f:FuncId)(fn:Func)(nr:Nat)(s:St):Option (List AV):=
 bif aeD P fn&&Nat.beq nr 0 then
  match fn.results.toList with
  |[.tmp t]=>VD (EF s.fr t)
  |[.cell a t]=>
   match EF s.fr a with
   | .ptr l i j=>iu P s.bl (fun v _=>VD v) t (.ptr l i j)
   |_=>none
  |_=>none
 else Am P C f fn nr s
def VE:ResultVar->Nat
 | .tmp t=>t
 | .cell a _=>a
def nk(fn:Func):List Nat:=fn.results.toList.foldl (fun acc r=>ZO (VE r) acc) []
def cQ(n:Nat):List AV->List (Nat×AV)
 |[]=>[]
 |a::as=>(n,a)::cQ (n+1) as
def oR:Code->List Nat->LE->List (Code×LE)
 | .seq a b,out,E=>oR a (live b out E) E++oR b out E
 | .cond _ a b,out,E=>oR a out E++oR b out E
 | .block id c,out,E=>oR c out {E with blk:=(id,out)::E.blk}
 | .loop c,_,E=>(c,E)::oR c (sS c E) E
 |_,_,_=>[]
def nR(P:Program)(f:FuncId)(k:Nat):Code×LE:=
 match P.funcs[f]? with
 |some fn=>match fn.body with|some c=>(oR c (nk fn) ⟨[],nk fn⟩).getD k (.skip,⟨[],[]⟩)|none=>(.skip,⟨[],[]⟩)
 |none=>(.skip,⟨[],[]⟩)
def GQ(P:Program)(C:gD)(f:FuncId)(nr:Nat):St->Option (List AV):=
 match P.funcs[f]? with
 |some fn=>nj P C f fn nr
 |none=>fun _=>none
def dR(n:Nat):Code->Bool
 | .region _ ops _=>ops.toList.all fun o=>match o.dst with|some d=>Nat.blt d n|none=>true
 | .seq a b=>dR n a&&dR n b
 | .cond _ a b=>dR n a&&dR n b
 | .block _ c=>dR n c
 | .loop c=>dR n c
 |_=>true
def KD(P:Program)(C:gD)(call:cK)(inl:iv)(n:Nat)(f:FuncId)(args:List AV):Option (List AV):=
 match P.funcs[f]? with
 |none=>none
 |some fn=>
  match fn.body,fk [] args with
  |some c,some (vs,σ,roots)=>
   bif !(dR fn.ntmps c&&Nat.ble args.length fn.ntmps&&Nat.ble fn.ntmps 1000000&&Nat.beq fn.results.size fn.resultTypes.size)then none else
   let bg:=nj P C f fn roots.length
   ck P C call inl (iW P C call inl (C.roll f) (C.join f) n) (C.roll f) (C.join f) bg c (List AV) some (nk fn) ⟨[],nk fn⟩
    ⟨cQ 0 vs++cQ 1000000 roots,σ⟩ fun e s=>
     match e with
     | .exit _=>none
     |_=>bg s
  |_,_=>none
def rS(P:Program)(C:gD)(call:cK)(inl:iv)(R:Type)(f:FuncId)(args:List AV)(σ:Store)(K:List AV->Store->Option R):Option R:=
 match P.funcs[f]? with
 |none=>none
 |some fn=>
  match fn.body with
  |some c=>
   bif !(dR fn.ntmps c&&Nat.ble args.length fn.ntmps&&Nat.ble fn.ntmps 1000000&&Nat.beq fn.results.size fn.resultTypes.size)then none else
   ck P C call inl (fun _ _ _ _=>none) 0 false (fun _=>none) c R (fun _=>none) (nk fn) ⟨[],nk fn⟩ ⟨cQ 0 args,σ⟩ fun e s=>
    match e with
    | .exit _=>none
    |_=>match eP P s fn.results.toList with|none=>none|some vs=>K vs s.bl
  |none=>none
def iR(P:Program)(C:gD)(call:cK):Nat->iv
 |0=>fun _ _ _ _ _=>none
 |k+1=>fun R f args σ K=>rS P C call (iR P C call k) R f args σ K
def fC(C:gD)(f:FuncId)(args:List AV)(x:Option (List AV)):Option (List AV):=
 match C.ext f with
 |some g=>g args
 |none=>x
def uF(P:Program)(C:gD):Nat->cK
 |0=>fun _ _=>none
 |n+1=>fun f args=>fC C f args (KD P C (uF P C n) (iR P C (uF P C n) 5) n f args)
end
section
structure RB where
 b:Nat
 OB:Nat
 sz:Nat
 n:Nat
 ph:Bool
abbrev bD:=Nat->Option RB
abbrev Mu:=Nat->Option Obj
def gL(μ:Mu)(a:Addr):Option Value:=
 match μ a.block with
 |some (.cells c _ _)=>if a.spot.isSome then none else c[a.off]?
 |_=>none
def qJ(n off:Nat):Option Nat->Nat
 |none=>n-off
 |some m=>m
inductive DR(μ:Mu):AV->Value->Prop
 |v {x:Value} (h:oN (.v x)=true):DR μ (.v x) x
 |aq {nil:Bool} {sz:Nat} {xs:List (List AV)} {A:Option Addr} {c:Nat} (vals:Nat->Nat->Value)
   (hnil:nil=A.isNone) (hA:A=none->xs=[]/\c=0) (hc:xs.length<=c) (hsz:∀e∈xs,e.length=sz)
   (hcell:∀a,A=some a->∀k j,k<xs.length->j<sz->gL μ (a.add (k*sz+j))=some (vals k j))
   (hv:∀k e j u,xs[k]?=some e->e[j]?=some u->DR μ u (vals k j)):DR μ (.aq nil sz xs) (.slice A xs.length c)
 |ep {cs:List AV} {off b o:Nat} (vals:Nat->Value) (hcell:∀j,j<cs.length->gL μ ⟨b,o+j,none⟩=some (vals j))
   (hv:∀j u,cs[j]?=some u->DR μ u (vals j)):DR μ (.ep cs off) (.pointer (some ⟨b,o+off,none⟩))
 |eN {f:FuncId} {first cX:List AV} {fs cs:List Value} (h1:fs.length=first.length) (h2:cs.length=cX.length)
   (hv1:∀(k:Nat) (u:AV) (v:Value),first[k]?=some u->fs[k]?=some v->DR μ u v) (QW:∀(k:Nat) (u:AV) (v:Value),cX[k]?=some u->cs[k]?=some v->DR μ u v):
   DR μ (.eN f first cX) (.func (.func f) fs.toArray cs.toArray)
inductive CR(μ:Mu)(ρ:bD):AV->Value->Prop
 |d {a:AV} {v:Value} (h:DR μ a v):CR μ ρ a v
 |ptr {l i j:Nat} {rb:RB} (h:ρ l=some rb) (hp:rb.ph=false):CR μ ρ (.ptr l i j) (.pointer (some ⟨rb.b,i*rb.sz+j,none⟩))
 |px {l j n i:Nat} {rb:RB} (h:ρ l=some rb) (hp:rb.ph=false) (hi:i<n):CR μ ρ (.px l j n i) (.pointer (some ⟨rb.b,j+i,none⟩))
 |sl {l off:Nat} {cut:Option Nat} {rb:RB} {a:Addr} {len cap:Nat} (h:ρ l=some rb) (hp:rb.ph=false)
   (ha:a=⟨rb.b,off*rb.sz,none⟩\/(cap=0/\0<off)) (hlen:len=qJ rb.n off cut)
   (hoff:off+len<=rb.n) (hcap:len<=cap) (jE:(off+cap)*rb.sz=rb.OB):CR μ ρ (.sl false l off cut) (.slice (some a) len cap)
 |tB {l off:Nat} {cut:Option Nat} {rb:RB} (h:ρ l=some rb) (hn:rb.n=0) (ho:off=0) (Ao:∀n,cut=some n->n=0):
   CR μ ρ (.sl true l off cut) (.slice none 0 0)
 |eN {f:FuncId} {first cX:List AV} {fs cs:List Value} (h1:fs.length=first.length) (h2:cs.length=cX.length)
   (hv1:∀(k:Nat) (u:AV) (v:Value),first[k]?=some u->fs[k]?=some v->CR μ ρ u v) (QW:∀(k:Nat) (u:AV) (v:Value),cX[k]?=some u->cs[k]?=some v->CR μ ρ u v):
   CR μ ρ (.eN f first cX) (.func (.func f) fs.toArray cs.toArray)
 |un {v:Value} (h:v.oneCell'=true):CR μ ρ .un v
def fe(μ:Mu)(ρ:bD)(cs:List AV)(vs:List Value):Prop:=vs.length=cs.length/\∀(k:Nat) (u:AV) (v:Value),cs[k]?=some u->vs[k]?=some v->CR μ ρ u v
def qg(μ:Mu)(cs:List AV)(vs:List Value):Prop:=vs.length=cs.length/\∀(k:Nat) (u:AV) (v:Value),cs[k]?=some u->vs[k]?=some v->DR μ u v
inductive VR(μ:Mu)(ρ:bD):AV->Value->Prop
 |c {a:AV} {v:Value} (h:CR μ ρ a v):VR μ ρ a v
 |agg {cs:List AV} {vs:List Value} (h:fe μ ρ cs vs):VR μ ρ (.agg cs) (.agg vs.toArray)
 |kK {cs:List AV} {vs:List Value} (hl:vs.length=cs.length) (h:∀(k:Nat) (u:AV) (v:Value),cs[k]?=some u->vs[k]?=some v->VR μ ρ u v):VR μ ρ (.kK cs) (.tuple vs.toArray)
 |un {v:Value}:VR μ ρ .un v
 |sk:VR μ ρ (.v (.tuple #[])) (.tuple #[])
def ak(μ μ':Mu):Prop:=∀b o,μ b=some o->μ' b=some o
def bV(ρ ρ':bD):Prop:=∀l rb,ρ l=some rb->ρ' l=some rb
theorem ak.refl(μ:Mu):ak μ μ:=fun _ _ h=>h
theorem bV.refl(ρ:bD):bV ρ ρ:=fun _ _ h=>h
theorem ak.trans{a b c:Mu}(h:ak a b)(k:ak b c):ak a c:=fun x o e=>k x o (h x o e)
theorem bV.trans{a b c:bD}(h:bV a b)(k:bV b c):bV a c:=fun x o e=>k x o (h x o e)
theorem xP{μ μ':Mu}(h:ak μ μ'){a:Addr}(hc:gL μ a=some v):gL μ' a=some v:=by
 unfold gL at*;split at hc
 ·rename_i c t f hm;rw[h _ _ hm];exact hc
 ·cases hc
theorem DR.mono{μ μ':Mu}(h:ak μ μ'){a:AV}{v:Value}(hd:DR μ a v):DR μ' a v:=by
 induction hd with
 |v hx=>exact .v hx
 |aq vals hnil hA hc hsz hcell hv ih=>exact .aq vals hnil hA hc hsz (fun a ha k j hk hj=>xP h (hcell a ha k j hk hj)) ih
 |ep vals hcell hv ih=>exact .ep vals (fun j hj=>xP h (hcell j hj)) ih
 |eN h1 h2 _ _ ih1 ih2=>exact .eN h1 h2 ih1 ih2
theorem CR.mono{μ μ':Mu}{ρ ρ':bD}(h:ak μ μ')(hr:bV ρ ρ'){a:AV}{v:Value}(hd:CR μ ρ a v):CR μ' ρ' a v:=by
 induction hd with
 |d hx=>exact .d (hx.mono h)
 |ptr hl hp=>exact .ptr (hr _ _ hl) hp
 |px hl hp hi=>exact .px (hr _ _ hl) hp hi
 |sl hl hp ha hlen hoff hcap jE=>exact .sl (hr _ _ hl) hp ha hlen hoff hcap jE
 |tB hl hn ho Ao=>exact .tB (hr _ _ hl) hn ho Ao
 |eN h1 h2 _ _ ih1 ih2=>exact .eN h1 h2 ih1 ih2
 |un h=>exact .un h
theorem fe.mono{μ μ':Mu}{ρ ρ':bD}(h:ak μ μ')(hr:bV ρ ρ'){cs:List AV}{vs:List Value}(hd:fe μ ρ cs vs):fe μ' ρ' cs vs:=
 ⟨hd.1,fun k u v hu hv=>(hd.2 k u v hu hv).mono h hr⟩
theorem qg.mono{μ μ':Mu}(h:ak μ μ'){cs:List AV}{vs:List Value}(hd:qg μ cs vs):qg μ' cs vs:=
 ⟨hd.1,fun k u v hu hv=>(hd.2 k u v hu hv).mono h⟩
theorem VR.mono{μ μ':Mu}{ρ ρ':bD}(h:ak μ μ')(hr:bV ρ ρ'){a:AV}{v:Value}(hd:VR μ ρ a v):VR μ' ρ' a v:=by
 induction hd with
 |c hx=>exact .c (hx.mono h hr)
 |agg hx=>exact .agg (hx.mono h hr)
 |kK hl _ ih=>exact .kK hl ih
 |un=>exact .un
 |sk=>exact .sk
theorem EO{x:Value}(h:oN (.v x)=true):x.oneCell'=true:=by
 cases x<;>simp_all [oN,Value.oneCell']
theorem DR.one{μ:Mu}{a:AV}(h:DR μ a v):v.oneCell'=true:=by
 cases h with
 |v hx=>exact EO hx
 |aq=>rfl
 |ep=>rfl
 |eN=>rfl
theorem CR.one{μ:Mu}{ρ:bD}{a:AV}{v:Value}(h:CR μ ρ a v):v.oneCell'=true:=by
 cases h with
 |d hx=>exact hx.one
 |ptr=>rfl
 |px=>rfl
 |sl=>rfl
 |tB=>rfl
 |eN=>rfl
 |un h=>exact h
theorem VR.cell{μ:Mu}{ρ:bD}{a:AV}(h:VR μ ρ a v)(hk:oN a=true):CR μ ρ a v:=by
 cases h with
 |c hx=>exact hx
 |agg=>cases hk
 |kK=>cases hk
 |un=>cases hk
 |sk=>cases hk
def bJ(μ:Mu)(sz:Nat)(xs:List (List AV))(cur:Array Value):Prop:=
 (∀e∈xs,e.length=sz)/\∀i e j c,xs[i]?=some e->e[j]?=some c->∃u,cur[i*sz+j]?=some u/\DR μ c u
def OC(μ:Mu)(ρ:bD)(sz:Nat)(xs:List (List AV))(cur:Array Value):Prop:=
 (∀e∈xs,e.length=sz)/\∀i e j c,xs[i]?=some e->e[j]?=some c->∃u,cur[i*sz+j]?=some u/\CR μ ρ c u
def sJ(obj:Bool)(n:Nat)(fz:Nat×Nat):Prop:=fz=(0,0)\/(obj=false/\n<=fz.1)
def uq(obj:Bool)(sz:Nat):Bool:=obj|| !(Nat.beq sz 1)
def Has(w:World)(b:Nat)(cur:Array Value)(ty:Nat)(obj:Bool):Prop:=∃fz,w.heap[b]?=some (.cells cur ty fz)/\sJ obj cur.size fz
structure Live(μ:Mu)(ρ:bD)(w:World)(k:gC)(rb:RB)(cur:Array Value):Prop where
 size:cur.size=rb.OB
 mq:k.obj=false->bJ μ rb.sz k.xs cur
 wD:k.obj=true->OC μ ρ rb.sz k.xs cur
 at_:(k.mode=1/\Has w rb.b cur k.ty (uq k.obj k.sz)/\μ rb.b=none)\/(k.mode=2/\∃ty fz,μ rb.b=some (.cells cur ty fz))
structure yS(μ:Mu)(ρ:bD)(w:World)(k:gC)(rb:RB):Prop where
 sz:rb.sz=k.sz
 n:rb.n=k.xs.length
 fit:rb.n*rb.sz<=rb.OB
 ph:rb.ph=true->k.xs=[]/\k.obj=false
 one:k.obj=true->k.xs.length=1/\rb.OB=rb.sz
 live:rb.ph=false->∃cur,Live μ ρ w k rb cur
structure Env where
 w0:World
 D:Nat->Prop
 m0:Mu
structure Yq(E:Env)(μ:Mu)(w:World):Prop where
 os:w.os=E.w0.os
 tape:w.tape=E.w0.tape
 output:w.output=E.w0.output
 size:E.w0.heap.size<=w.heap.size
 keep:∀b,b<E.w0.heap.size->¬E.D b->w.heap[b]?=E.w0.heap[b]?
 mu:ak E.m0 μ
 sU:∀b o,μ b=some o->E.m0 b=some o\/E.D b\/E.w0.heap.size<=b
structure SR(E:Env)(μ:Mu)(ρ:bD)(σ:Store)(w:World):Prop where
 blk:∀l rb k,ρ l=some rb->σ[l]?=some k->k.mode≠0->yS μ ρ w k rb
 inj:∀l l' rb fc k k',ρ l=some rb->ρ l'=some fc->σ[l]?=some k->σ[l']?=some k'->k.mode=1->k'.mode=1->rb.ph=false->fc.ph=false->rb.b=fc.b->l=l'
 lW:∀l rb k,ρ l=some rb->σ[l]?=some k->k.mode=1->rb.ph=false->E.D rb.b\/E.w0.heap.size<=rb.b
 gj:∀b o,μ b=some o->w.heap[b]?=some o
 base:Yq E μ w
theorem SR.world{E:Env}{μ:Mu}{ρ:bD}{σ:Store}{w':World}(h:SR E μ ρ σ w)
  (hk:∀b,b<w.heap.size->w'.heap[b]?=w.heap[b]?) (hz:w.heap.size<=w'.heap.size) (ho:w'.os=w.os) (ht:w'.tape=w.tape) (hu:w'.output=w.output):SR E μ ρ σ w':=by
 have hlt:∀b (o:Obj),w.heap[b]?=some o->w'.heap[b]?=some o:=fun b o hb=>by
  rw[hk b (gd.1 hb).1];exact hb
 refine⟨fun l rb k hl hk' hm=>?_,h.inj,h.lW,fun b o hb=>hlt b o (h.gj b o hb),⟨ho.trans h.base.os,ht.trans h.base.tape,hu.trans h.base.output,iS h.base.size hz,fun b hb hD=>?_,h.base.mu,h.base.sU⟩⟩
 ·have hb:=h.blk l rb k hl hk' hm;refine⟨hb.sz,hb.n,hb.fit,hb.ph,hb.one,fun hp=>?_⟩;obtain⟨cur,hc⟩:=hb.live hp;refine⟨cur,hc.size,hc.mq,hc.wD,?_⟩;rcases hc.at_ with⟨h1,h2,h3⟩|h2
  ·exact .inl ⟨h1,h2.imp fun fz h=>⟨hlt _ _ h.1,h.2⟩,h3⟩
  ·exact .inr h2
 ·rw[hk b (wx hb h.base.size)];exact h.base.keep b hb hD
theorem SR.drew{E:Env}{μ:Mu}{ρ:bD}{σ:Store}(h:SR E μ ρ σ w):SR E μ ρ σ w.drew:=
 h.world (fun _ _=>rfl) (dk _) rfl rfl rfl
theorem alloc_old(w:World)(o:Obj)(b:Nat)(h:b<w.heap.size):(w.alloc o).heap[b]?=w.heap[b]?:=by
 show(w.heap.push o)[b]?=_;grind
theorem aZ(w:World)(o:Obj):(w.alloc o).heap[w.heap.size]?=some o:=by
 show(w.heap.push o)[w.heap.size]?=_;simp
theorem SR.alloc{E:Env}{μ:Mu}{ρ:bD}{σ:Store}(h:SR E μ ρ σ w)(o:Obj):SR E μ ρ σ (w.alloc o):=
 h.world (fun b hb=>alloc_old w o b hb) (by simp) rfl rfl rfl
def df(ρ:bD)(l:Nat)(rb:RB):bD:=fun m=>if m=l then some rb else ρ m
theorem bK(ρ:bD)(l:Nat)(rb:RB):df ρ l rb l=some rb:=by simp[df]
theorem rT{ρ:bD}{rb:RB}(h:∀r,ρ l≠some r):bV ρ (df ρ l rb):=fun m r hm=>by
 unfold df;grind
def eF(ρ:bD)(σ:Store):Prop:=ρ σ.length=none
theorem OC.mono{μ μ':Mu}{ρ ρ':bD}(h:ak μ μ')(hr:bV ρ ρ'){sz:Nat}{xs:List (List AV)}{cur:Array Value}(hd:OC μ ρ sz xs cur):OC μ' ρ' sz xs cur:=
 ⟨hd.1,fun i e j c he hc=>let⟨u,h1,h2⟩:=hd.2 i e j c he hc;⟨u,h1,h2.mono h hr⟩⟩
theorem bJ.mono{μ μ':Mu}(h:ak μ μ'){sz:Nat}{xs:List (List AV)}{cur:Array Value}(hd:bJ μ sz xs cur):bJ μ' sz xs cur:=
 ⟨hd.1,fun i e j c he hc=>let⟨u,h1,h2⟩:=hd.2 i e j c he hc;⟨u,h1,h2.mono h⟩⟩
theorem yS.rU{μ:Mu}{ρ ρ':bD}{k:gC}{rb:RB}(h:yS μ ρ w k rb)(hr:bV ρ ρ'):yS μ ρ' w k rb:=
 ⟨h.sz,h.n,h.fit,h.ph,h.one,fun hp=>let⟨cur,hc⟩:=h.live hp;⟨cur,hc.size,hc.mq,fun ho=>(hc.wD ho).mono (ak.refl μ) hr,hc.at_⟩⟩
theorem uG{α:Type}{σ:List α}{k kk:α}(h:(σ++[k])[l]?=some kk):(l<σ.length/\σ[l]?=some kk)\/(l=σ.length/\kk=k):=by
 grind
theorem cZ{ρ:bD}{m:Nat}{r rb:RB}(h:df ρ l r m=some rb):(m=l/\rb=r)\/(m≠l/\ρ m=some rb):=by
 unfold df at h;grind
theorem SR.wE{E:Env}{μ:Mu}{ρ:bD}{σ:Store}(h:SR E μ ρ σ w){rb:RB}{k:gC}(h1:ρ l=some rb)(h2:σ[l]?=some k)(h3:k.mode=1)(h4:rb.ph=false):rb.b<w.heap.size:=by
 obtain⟨c,hc⟩:=(h.blk l rb k h1 h2 (by omega)).live h4;rcases hc.at_ with⟨_,⟨_,h6,_⟩,_⟩|⟨h5,_⟩
 all_goals grind
theorem SR.add{E:Env}{μ:Mu}{ρ:bD}{σ:Store}(h:SR E μ ρ σ w)(hf:eF ρ σ)(k:gC)(rb:RB)
  (hb:yS μ (df ρ σ.length rb) w k rb) (hnew:k.mode=1->rb.ph=false->(E.D rb.b\/E.w0.heap.size<=rb.b)/\∀l fc k',ρ l=some fc->σ[l]?=some k'->k'.mode=1->fc.ph=false->fc.b≠rb.b):
  bV ρ (df ρ σ.length rb)/\SR E μ (df ρ σ.length rb) (σ++[k]) w:=by
 have hle:bV ρ (df ρ σ.length rb):=rT (fun r e=>by rw[hf]at e;cases e);refine⟨hle,fun l r kk hl hk hmm=>?_,fun l l' r r' kk kk' hl hl' hk hk' iT hm2 hp hp' he=>?_,fun l r kk hl hk iT hp=>?_,h.gj,h.base⟩
 ·rcases uG hk with⟨h1,h2⟩|⟨h1,h2⟩
  ·rcases cZ hl with⟨h3,_⟩|⟨_,h4⟩
   ·omega
   ·exact(h.blk l r kk h4 h2 hmm).rU hle
  grind [cZ]
 ·rcases uG hk with⟨h1,h2⟩|⟨h1,h2⟩<;>rcases uG hk' with⟨h1',h2'⟩|⟨h1',h2'⟩
  ·rcases cZ hl with⟨h3,_⟩|⟨_,h4⟩
   ·omega
   rcases cZ hl' with⟨h3,_⟩|⟨_,h4'⟩
   ·omega
   exact h.inj l l' r r' kk kk' h4 h4' h2 h2' iT hm2 hp hp' he
  all_goals grind [cZ]
 ·rcases uG hk with⟨h1,h2⟩|⟨h1,h2⟩
  ·rcases cZ hl with⟨h3,_⟩|⟨_,h4⟩
   ·omega
   ·exact h.lW l r kk h4 h2 iT hp
  grind [cZ]
theorem SR.new{E:Env}{μ:Mu}{ρ:bD}{σ:Store}(h:SR E μ ρ σ w)(hf:eF ρ σ)(k:gC)(cur:Array Value)
  (hm:k.mode=1) (hfit:k.xs.length*k.sz<=cur.size) (hone:k.obj=true->k.xs.length=1/\cur.size=k.sz)
  (hD:k.obj=false->bJ μ k.sz k.xs cur) (hO:k.obj=true->OC μ ρ k.sz k.xs cur):
  bV ρ (df ρ σ.length ⟨w.heap.size,cur.size,k.sz,k.xs.length,false⟩)/\
   SR E μ (df ρ σ.length ⟨w.heap.size,cur.size,k.sz,k.xs.length,false⟩) (σ++[k]) (w.alloc (.cells cur k.ty)):=by
 have hle:bV ρ (df ρ σ.length ⟨w.heap.size,cur.size,k.sz,k.xs.length,false⟩):=rT (fun r e=>by rw[hf]at e;cases e);have ha:=h.alloc (.cells cur k.ty);have yT:μ w.heap.size=none:=by
  cases e:μ w.heap.size with
  |none=>rfl
  |some o=>
   have:=h.gj _ _ e;simp at this
 refine ha.add hf k _ ⟨rfl,rfl,hfit,fun hp=>(by cases hp),hone,fun _=>⟨cur,rfl,hD,fun ho=>(hO ho).mono (ak.refl μ) hle,.inl ⟨hm,⟨_,aZ w _,.inl rfl⟩,yT⟩⟩⟩ fun _ _=>⟨.inr h.base.size,fun l r kk h1 h2 h3 h4=>?_⟩;exact Nat.ne_of_lt (h.wE h1 h2 h3 h4)
theorem SR.aeE{E:Env}{μ:Mu}{ρ:bD}{σ:Store}{w':World}(h:SR E μ ρ σ w)(hf:eF ρ σ)(k:gC)(cur:Array Value)
  (hm:k.mode=1) (Rn:k.obj=false) (hfit:k.xs.length*k.sz<=cur.size) (hD:bJ μ k.sz k.xs cur)
  (hk:∀b,b<w.heap.size->w'.heap[b]?=w.heap[b]?) (hz:w.heap.size<=w'.heap.size) (ho:w'.os=w.os) (ht:w'.tape=w.tape) (hu:w'.output=w.output) (hat:Has w' w.heap.size cur k.ty (uq k.obj k.sz)):
   SR E μ (df ρ σ.length ⟨w.heap.size,cur.size,k.sz,k.xs.length,false⟩) (σ++[k]) w':=by
 have ha:=h.world hk hz ho ht hu;have yT:μ w.heap.size=none:=by
  cases e:μ w.heap.size with
  |none=>rfl
  |some o=>
   have:=h.gj _ _ e;simp at this
 refine(ha.add hf k _ ⟨rfl,rfl,hfit,fun hp=>(by cases hp),fun e=>(by rw[Rn]at e;cases e),fun _=>⟨cur,rfl,fun _=>hD,fun e=>(by rw[Rn]at e;cases e),.inl ⟨hm,hat,yT⟩⟩⟩ fun _ _=>⟨.inr h.base.size,fun l r kk h1 h2 h3 h4=>?_⟩).2;exact Nat.ne_of_lt (h.wE h1 h2 h3 h4)
theorem SR.cy{E:Env}{μ:Mu}{ρ:bD}{σ:Store}(h:SR E μ ρ σ w)(hf:eF ρ σ)(ty sz:Nat):
  bV ρ (df ρ σ.length ⟨0,0,sz,0,true⟩)/\SR E μ (df ρ σ.length ⟨0,0,sz,0,true⟩) (σ++[⟨1,ty,sz,false,[]⟩]) w:=
 h.add hf _ _ ⟨rfl,rfl,by simp,fun _=>⟨rfl,rfl⟩,fun ho=>(by cases ho),fun hp=>(by cases hp)⟩ fun _ hp=>(by cases hp)
end
abbrev Q'(x:Int):AV:=.v (.int .i64 x)
abbrev Z'(x:Int):AV:=.v (.int .u64 x)
