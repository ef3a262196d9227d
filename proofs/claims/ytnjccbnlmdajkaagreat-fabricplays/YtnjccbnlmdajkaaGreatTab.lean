/- The functions of the chapter,as the evaluator has them. -/
import Derived.Test.YtnjccbnlmdajkaaGreatRows
import Derived.Test.YtnjccbnlmdajkaaGreatEv10
set_option linter.all false
namespace Go.Proofs.YtnjccbnlmdajkaaGreat.Tab
open Go.Proofs.Tryz renaming prog->U'
open Go.Ev
def cfg:gD:={rw:=fun _=>[],dat:=fun _=>false,inl:=fun _=>false,roll:=fun _=>0,join:=fun _=>false}
noncomputable def ev(f:FuncId)(args:List AV):Option (List AV):=wq U' cfg f args
noncomputable def lp(f k nr:Nat)(s:St):Option LR:=lpL U' cfg f k nr s
theorem bH(f:FuncId)(args:List AV):ev f args=fC cfg f args (ig U' cfg (jv U' cfg) (iR U' cfg (jv U' cfg) 5) (kV U' cfg f) f args):=Fy f args
theorem oH(f k nr:Nat)(s:St):lp f k nr s=je U' cfg (jv U' cfg) (iR U' cfg (jv U' cfg) 5) (kV U' cfg f) (cfg.roll f) (cfg.join f) (nR U' f k).1 (nR U' f k).2 (GQ U' cfg f nr) s:=xk f _ _ _ s
theorem jx:nX U' cfg:=wZ fun _=>rfl
theorem aeh:ev 127 []=
 (lp 127 0 0 ⟨[(0,(.ptr 0 0 0)),(3,(Q' 0))],[⟨1,179,1,false,[[(Z' 0)],[(Z' 0)],[(Z' 0)],[(Z' 0)],[(Z' 0)],[(Z' 0)],[(Z' 0)],[(Z' 0)],[(Z' 0)],[(Z' 0)],[(Z' 0)],[(Z' 0)],[(Z' 0)],[(Z' 0)],[(Z' 0)],[(Z' 0)],[(Z' 0)],[(Z' 0)],[(Z' 0)],[(Z' 0)],[(Z' 0)],[(Z' 0)],[(Z' 0)],[(Z' 0)],[(Z' 0)],[(Z' 0)],[(Z' 0)],[(Z' 0)],[(Z' 0)],[(Z' 0)],[(Z' 0)],[(Z' 0)],[(Z' 0)],[(Z' 0)],[(Z' 0)],[(Z' 0)],[(Z' 0)],[(Z' 0)],[(Z' 0)],[(Z' 0)],[(Z' 0)],[(Z' 0)],[(Z' 0)],[(Z' 0)],[(Z' 0)],[(Z' 0)],[(Z' 0)],[(Z' 0)],[(Z' 0)],[(Z' 0)],[(Z' 0)],[(Z' 0)],[(Z' 0)],[(Z' 0)],[(Z' 0)],[(Z' 0)],[(Z' 0)],[(Z' 0)],[(Z' 0)],[(Z' 0)],[(Z' 0)],[(Z' 0)],[(Z' 0)],[(Z' 0)],[(Z' 0)],[(Z' 0)],[(Z' 0)],[(Z' 0)],[(Z' 0)],[(Z' 0)],[(Z' 0)],[(Z' 0)],[(Z' 0)],[(Z' 0)],[(Z' 0)],[(Z' 0)],[(Z' 0)],[(Z' 0)],[(Z' 0)],[(Z' 0)],[(Z' 0)],[(Z' 0)],[(Z' 0)],[(Z' 0)],[(Z' 0)],[(Z' 0)],[(Z' 0)],[(Z' 0)],[(Z' 0)],[(Z' 0)],[(Z' 0)],[(Z' 0)],[(Z' 0)],[(Z' 0)],[(Z' 0)],[(Z' 0)],[(Z' 0)],[(Z' 0)],[(Z' 0)],[(Z' 0)],[(Z' 0)],[(Z' 0)],[(Z' 0)],[(Z' 0)],[(Z' 0)],[(Z' 0)],[(Z' 0)],[(Z' 0)],[(Z' 0)],[(Z' 0)],[(Z' 0)],[(Z' 0)],[(Z' 0)],[(Z' 0)],[(Z' 0)],[(Z' 0)],[(Z' 0)],[(Z' 0)],[(Z' 0)],[(Z' 0)],[(Z' 0)],[(Z' 0)],[(Z' 0)],[(Z' 0)],[(Z' 0)],[(Z' 0)],[(Z' 0)],[(Z' 0)],[(Z' 0)],[(Z' 0)],[(Z' 0)],[(Z' 0)],[(Z' 0)],[(Z' 0)],[(Z' 0)],[(Z' 0)],[(Z' 0)],[(Z' 0)],[(Z' 0)],[(Z' 0)],[(Z' 0)],[(Z' 0)],[(Z' 0)],[(Z' 0)],[(Z' 0)],[(Z' 0)],[(Z' 0)],[(Z' 0)],[(Z' 0)],[(Z' 0)],[(Z' 0)],[(Z' 0)],[(Z' 0)],[(Z' 0)],[(Z' 0)],[(Z' 0)],[(Z' 0)],[(Z' 0)],[(Z' 0)],[(Z' 0)],[(Z' 0)],[(Z' 0)],[(Z' 0)],[(Z' 0)],[(Z' 0)],[(Z' 0)],[(Z' 0)],[(Z' 0)],[(Z' 0)],[(Z' 0)],[(Z' 0)],[(Z' 0)],[(Z' 0)],[(Z' 0)],[(Z' 0)],[(Z' 0)],[(Z' 0)],[(Z' 0)],[(Z' 0)],[(Z' 0)],[(Z' 0)],[(Z' 0)],[(Z' 0)],[(Z' 0)],[(Z' 0)],[(Z' 0)],[(Z' 0)],[(Z' 0)],[(Z' 0)],[(Z' 0)],[(Z' 0)],[(Z' 0)],[(Z' 0)],[(Z' 0)],[(Z' 0)],[(Z' 0)],[(Z' 0)],[(Z' 0)],[(Z' 0)],[(Z' 0)],[(Z' 0)],[(Z' 0)],[(Z' 0)],[(Z' 0)],[(Z' 0)],[(Z' 0)],[(Z' 0)],[(Z' 0)],[(Z' 0)],[(Z' 0)],[(Z' 0)],[(Z' 0)],[(Z' 0)],[(Z' 0)],[(Z' 0)],[(Z' 0)],[(Z' 0)],[(Z' 0)],[(Z' 0)],[(Z' 0)],[(Z' 0)],[(Z' 0)],[(Z' 0)],[(Z' 0)],[(Z' 0)],[(Z' 0)],[(Z' 0)],[(Z' 0)],[(Z' 0)],[(Z' 0)],[(Z' 0)],[(Z' 0)],[(Z' 0)],[(Z' 0)],[(Z' 0)],[(Z' 0)],[(Z' 0)],[(Z' 0)],[(Z' 0)],[(Z' 0)],[(Z' 0)],[(Z' 0)],[(Z' 0)],[(Z' 0)],[(Z' 0)],[(Z' 0)],[(Z' 0)],[(Z' 0)],[(Z' 0)],[(Z' 0)],[(Z' 0)],[(Z' 0)],[(Z' 0)],[(Z' 0)],[(Z' 0)],[(Z' 0)]]⟩]⟩).bind fun r0=>
 cond (nO 0 r0)
  (cond (dx ⟨[(0,(.ptr 0 0 0))],[⟨1,179,1,false,[[(Z' 0)],[(Z' 0)],[(Z' 0)],[(Z' 0)],[(Z' 0)],[(Z' 0)],[(Z' 0)],[(Z' 0)],[(Z' 0)],[(Z' 0)],[(Z' 0)],[(Z' 0)],[(Z' 0)],[(Z' 0)],[(Z' 0)],[(Z' 0)],[(Z' 0)],[(Z' 0)],[(Z' 0)],[(Z' 0)],[(Z' 0)],[(Z' 0)],[(Z' 0)],[(Z' 0)],[(Z' 0)],[(Z' 0)],[(Z' 0)],[(Z' 0)],[(Z' 0)],[(Z' 0)],[(Z' 0)],[(Z' 0)],[(Z' 0)],[(Z' 0)],[(Z' 0)],[(Z' 0)],[(Z' 0)],[(Z' 0)],[(Z' 0)],[(Z' 0)],[(Z' 0)],[(Z' 0)],[(Z' 0)],[(Z' 0)],[(Z' 0)],[(Z' 0)],[(Z' 0)],[(Z' 0)],[(Z' 0)],[(Z' 0)],[(Z' 0)],[(Z' 0)],[(Z' 0)],[(Z' 0)],[(Z' 0)],[(Z' 0)],[(Z' 0)],[(Z' 0)],[(Z' 0)],[(Z' 0)],[(Z' 0)],[(Z' 0)],[(Z' 0)],[(Z' 0)],[(Z' 0)],[(Z' 0)],[(Z' 0)],[(Z' 0)],[(Z' 0)],[(Z' 0)],[(Z' 0)],[(Z' 0)],[(Z' 0)],[(Z' 0)],[(Z' 0)],[(Z' 0)],[(Z' 0)],[(Z' 0)],[(Z' 0)],[(Z' 0)],[(Z' 0)],[(Z' 0)],[(Z' 0)],[(Z' 0)],[(Z' 0)],[(Z' 0)],[(Z' 0)],[(Z' 0)],[(Z' 0)],[(Z' 0)],[(Z' 0)],[(Z' 0)],[(Z' 0)],[(Z' 0)],[(Z' 0)],[(Z' 0)],[(Z' 0)],[(Z' 0)],[(Z' 0)],[(Z' 0)],[(Z' 0)],[(Z' 0)],[(Z' 0)],[(Z' 0)],[(Z' 0)],[(Z' 0)],[(Z' 0)],[(Z' 0)],[(Z' 0)],[(Z' 0)],[(Z' 0)],[(Z' 0)],[(Z' 0)],[(Z' 0)],[(Z' 0)],[(Z' 0)],[(Z' 0)],[(Z' 0)],[(Z' 0)],[(Z' 0)],[(Z' 0)],[(Z' 0)],[(Z' 0)],[(Z' 0)],[(Z' 0)],[(Z' 0)],[(Z' 0)],[(Z' 0)],[(Z' 0)],[(Z' 0)],[(Z' 0)],[(Z' 0)],[(Z' 0)],[(Z' 0)],[(Z' 0)],[(Z' 0)],[(Z' 0)],[(Z' 0)],[(Z' 0)],[(Z' 0)],[(Z' 0)],[(Z' 0)],[(Z' 0)],[(Z' 0)],[(Z' 0)],[(Z' 0)],[(Z' 0)],[(Z' 0)],[(Z' 0)],[(Z' 0)],[(Z' 0)],[(Z' 0)],[(Z' 0)],[(Z' 0)],[(Z' 0)],[(Z' 0)],[(Z' 0)],[(Z' 0)],[(Z' 0)],[(Z' 0)],[(Z' 0)],[(Z' 0)],[(Z' 0)],[(Z' 0)],[(Z' 0)],[(Z' 0)],[(Z' 0)],[(Z' 0)],[(Z' 0)],[(Z' 0)],[(Z' 0)],[(Z' 0)],[(Z' 0)],[(Z' 0)],[(Z' 0)],[(Z' 0)],[(Z' 0)],[(Z' 0)],[(Z' 0)],[(Z' 0)],[(Z' 0)],[(Z' 0)],[(Z' 0)],[(Z' 0)],[(Z' 0)],[(Z' 0)],[(Z' 0)],[(Z' 0)],[(Z' 0)],[(Z' 0)],[(Z' 0)],[(Z' 0)],[(Z' 0)],[(Z' 0)],[(Z' 0)],[(Z' 0)],[(Z' 0)],[(Z' 0)],[(Z' 0)],[(Z' 0)],[(Z' 0)],[(Z' 0)],[(Z' 0)],[(Z' 0)],[(Z' 0)],[(Z' 0)],[(Z' 0)],[(Z' 0)],[(Z' 0)],[(Z' 0)],[(Z' 0)],[(Z' 0)],[(Z' 0)],[(Z' 0)],[(Z' 0)],[(Z' 0)],[(Z' 0)],[(Z' 0)],[(Z' 0)],[(Z' 0)],[(Z' 0)],[(Z' 0)],[(Z' 0)],[(Z' 0)],[(Z' 0)],[(Z' 0)],[(Z' 0)],[(Z' 0)],[(Z' 0)],[(Z' 0)],[(Z' 0)],[(Z' 0)],[(Z' 0)],[(Z' 0)],[(Z' 0)],[(Z' 0)],[(Z' 0)],[(Z' 0)],[(Z' 0)],[(Z' 0)],[(Z' 0)],[(Z' 0)],[(Z' 0)],[(Z' 0)],[(Z' 0)],[(Z' 0)],[(Z' 0)],[(Z' 0)],[(Z' 0)],[(Z' 0)],[(Z' 0)],[(Z' 0)],[(Z' 0)],[(Z' 0)],[(Z' 0)],[(Z' 0)]]⟩]⟩ r0.st)
   (cond ((YG (List.length (cR r0.st.bl 0).xs) 256)&&(List.all (cR r0.st.bl 0).xs Aa))
    (cond ((YG (List.length (cR r0.st.bl 0).xs) 256)&&((YG (List.length (List.map (fun e=>cellAt e 0) (cR r0.st.bl 0).xs)) 256)&&(List.all (List.map (fun e=>cellAt e 0) (cR r0.st.bl 0).xs) Kw)))
     (cond ((YG (List.length (List.map (fun c=>[c]) (List.map (fun e=>cellAt e 0) (cR r0.st.bl 0).xs))) 256)&&(List.all (List.map (fun c=>[c]) (List.map (fun e=>cellAt e 0) (cR r0.st.bl 0).xs)) Aa))
      (cond (List.all (List.map (fun e=>cellAt e 0) (List.map (fun c=>[c]) (List.map (fun e=>cellAt e 0) (cR r0.st.bl 0).xs))) Kw)
       (some [(.agg (List.map (fun e=>cellAt e 0) (List.map (fun c=>[c]) (List.map (fun e=>cellAt e 0) (cR r0.st.bl 0).xs))))])
       (none))
      (none))
     (none))
    (none))
   (none))
  (cond (sH r0)
   (some r0.outs)
   (none)):=(bH _ _).trans (by kernel_rfl)
theorem Oa(x3:Int)(b0:List (List AV)):lp 127 0 0 ⟨[(0,(.ptr 0 0 0)),(3,(Q' x3))],[⟨1,179,1,false,b0⟩]⟩=
 cond (cq x3 256)
  ((lp 127 1 0 ⟨[(0,(.ptr 0 0 0)),(1,(Q' x3)),(2,(Z' (IntKind.wrap .u64 x3))),(3,(Q' x3)),(8,(Q' 0))],[⟨1,179,1,false,b0⟩]⟩).bind fun r3=>
   cond (nO 2 r3)
    (cond (dx ⟨[(0,(.ptr 0 0 0)),(1,(Q' x3)),(2,(Z' (IntKind.wrap .u64 x3))),(3,(Q' x3))],[⟨1,179,1,false,b0⟩]⟩ r3.st)
      (cond ((gr 0 (ai (gK r3.st.fr 1).2))&&(cq (ai (gK r3.st.fr 1).2) 256))
        (cond (Lk (Int.toNat (ai (gK r3.st.fr 1).2)) (List.length (cR r3.st.bl 0).xs))
          (lp 127 0 0 ⟨[(0,(.ptr 0 0 0)),(3,(Q' (IntKind.wrap .i64 ((ai (gK r3.st.fr 3).2)+1))))],[⟨1,179,1,false,(List.set (cR r3.st.bl 0).xs (Int.toNat (ai (gK r3.st.fr 1).2)) [(Z' (ai (gK r3.st.fr 2).2))])⟩]⟩)
          (none))
        (none))
      (none))
    (cond (sH r3)
      (some ⟨none,⟨[],[]⟩,r3.outs⟩)
      (none)))
  (some ⟨(some 0),⟨[(0,(.ptr 0 0 0))],[⟨1,179,1,false,b0⟩]⟩,[]⟩):=(oH _ _ _ _).trans (by kernel_rfl)
theorem Ob(x1:Int)(x2:Int)(x3:Int)(x8:Int)(b0:List (List AV)):lp 127 1 0 ⟨[(0,(.ptr 0 0 0)),(1,(Q' x1)),(2,(Z' x2)),(3,(Q' x3)),(8,(Q' x8))],[⟨1,179,1,false,b0⟩]⟩=
 cond (cq x8 8)
  (cond ((bits .and .u64 x2 1)==1)
   (lp 127 1 0 ⟨[(0,(.ptr 0 0 0)),(1,(Q' x1)),(2,(Z' (bits .xor .u64 (Int.fdiv x2 2) 14514072000185962306))),(3,(Q' x3)),(8,(Q' (IntKind.wrap .i64 (x8+1))))],[⟨1,179,1,false,b0⟩]⟩)
   (lp 127 1 0 ⟨[(0,(.ptr 0 0 0)),(1,(Q' x1)),(2,(Z' (Int.fdiv x2 2))),(3,(Q' x3)),(8,(Q' (IntKind.wrap .i64 (x8+1))))],[⟨1,179,1,false,b0⟩]⟩))
  (some ⟨(some 2),⟨[(0,(.ptr 0 0 0)),(1,(Q' x1)),(2,(Z' x2)),(3,(Q' x3))],[⟨1,179,1,false,b0⟩]⟩,[]⟩):=(oH _ _ _ _).trans (by kernel_rfl)
