/- Histories. -/
import Derived.Test.YtnhahcomgeeobaaAtom
set_option linter.all false
namespace Go.Proofs.Ytnhahcomgeeobaa
open Go.Ev
theorem l_bck1 (b : Bool) (xs : List (Bool × Res)) (i : Nat) (p : Bool × Res) (hx : i < xs.length) (e1 : lget (outB xs) (Int.toNat ((i : Nat) : Int)) = p.2.cells p.1) (hl : p.2.rows.length ≤ 1000000) (x3 : Bool) (b0 : List (List AV)) (num : Int) : ∀ (rest done : List Rw) (f : Bool),p.2.rows = done ++ rest →
  ∃ f' : Bool,lp 23 1 0 ⟨[(0,.lst b 2 (outB xs)),(3,.sl x3 0 0 none),(4,.v (.int .i64 ((i : Nat) : Int))),(5,.ptr 1 0 0),(6,.v (.int .i64 ((done.length : Nat) : Int)))],[⟨1,68,2,false,b0⟩,⟨1,68,2,true,[[.sl f 2 0 none,.v (.int .i64 num)]]⟩,⟨1,91,4,false,done.map Rw.row⟩]⟩ =
   some ⟨some 2,⟨[(0,.lst b 2 (outB xs)),(3,.sl x3 0 0 none),(4,.v (.int .i64 ((i : Nat) : Int))),(5,.ptr 1 0 0)],[⟨1,68,2,false,b0⟩,⟨1,68,2,true,[[.sl f' 2 0 none,.v (.int .i64 num)]]⟩,⟨1,91,4,false,p.2.rows.map Rw.row⟩]⟩,[]⟩
 | [],done,f,h => by
  have i1 : (leI 0 ((i : Nat) : Int) && ltI ((i : Nat) : Int) (((List.length (outB xs)) : Nat) : Int)) = true := by rw [leI_t (by omega),ltI_t (by rw [outB_len]; omega)]; rfl
  refine ⟨f,?_⟩
  rw [lp23_1,e1]
  refine cT i1 (cT rfl (cF ?_ ?_))
  ·show ltI ((done.length : Nat) : Int) (((List.length (p.2.rows.map Rw.row)) : Nat) : Int) = false
   exact ltI_f (by rw [List.length_map,h,List.append_nil]; omega)
  ·rw [h,List.append_nil]
 | a :: rest,done,f,h => by
  have i1 : (leI 0 ((i : Nat) : Int) && ltI ((i : Nat) : Int) (((List.length (outB xs)) : Nat) : Int)) = true := by rw [leI_t (by omega),ltI_t (by rw [outB_len]; omega)]; rfl
  have hx' : done.length < p.2.rows.length := by rw [h]; simp
  have f1 : lget (avXs (cellAt (p.2.cells p.1) 0)) (Int.toNat ((done.length : Nat) : Int)) = a.row := by
   show lget (p.2.rows.map Rw.row) _ = _
   rw [Int.toNat_natCast,lget_map _ _ _ hx']; simp [h]
  have j1 : (leI 0 ((done.length : Nat) : Int) && ltI ((done.length : Nat) : Int) (((List.length (p.2.rows.map Rw.row)) : Nat) : Int)) = true := by rw [leI_t (by omega),ltI_t (by rw [List.length_map]; omega)]; rfl
  have hw : IntKind.i64.wrap (((done.length : Nat) : Int) + 1) = (((done ++ [a]).length : Nat) : Int) := by rw [w_i64,List.length_append,List.length_singleton]; omega
  obtain ⟨f',ih⟩ := l_bck1 b xs i p hx e1 hl x3 b0 num rest (done ++ [a]) false (by rw [h]; simp)
  refine ⟨f',?_⟩
  rw [List.map_append] at ih
  rw [lp23_1,e1,f1,hw]
  exact cT i1 (cT rfl (cT (ltI_t (by show ((done.length : Nat) : Int) < (((List.length (p.2.rows.map Rw.row)) : Nat) : Int); rw [List.length_map]; omega)) (cT i1 (cT rfl (cT j1 (cT rfl (cT i1 (cT rfl (cT j1 (cT rfl (cT (leN_t (by rw [List.length_map]; omega)) ih)))))))))))
theorem l_bck (b : Bool) (xs : List (Bool × Res)) (hl : xs.length ≤ 1000000) (hb : bdR xs) : ∀ (rest done ys : List (Bool × Res)) (f : Bool),xs = done ++ rest → ys.map Prod.snd = done.map Prod.snd →
  ∃ (f' : Bool) (zs : List (Bool × Res)),zs.map Prod.snd = xs.map Prod.snd∧lp 23 0 0 ⟨[(0,.lst b 2 (outB xs)),(3,.sl f 0 0 none),(4,.v (.int .i64 ((done.length : Nat) : Int)))],[⟨1,68,2,false,outB ys⟩]⟩ = some ⟨some 0,⟨[(3,.sl f' 0 0 none)],[⟨1,68,2,false,outB zs⟩]⟩,[]⟩
 | [],done,ys,f,h,hy => by
  refine ⟨f,ys,by rw [hy,h,List.append_nil],?_⟩
  rw [lp23_0]
  exact cF (ltI_f (by rw [outB_len,h,List.append_nil]; omega)) rfl
 | p :: rest,done,ys,f,h,hy => by
  have hx : done.length < xs.length := by rw [h]; simp
  have e1 := outB_get xs done rest p h
  have i1 : (leI 0 ((done.length : Nat) : Int) && ltI ((done.length : Nat) : Int) (((List.length (outB xs)) : Nat) : Int)) = true := by rw [leI_t (by omega),ltI_t (by rw [outB_len]; omega)]; rfl
  have hw : IntKind.i64.wrap (((done.length : Nat) : Int) + 1) = (((done ++ [p]).length : Nat) : Int) := by rw [w_i64,List.length_append,List.length_singleton]; omega
  obtain ⟨g,hin⟩ := l_bck1 b xs done.length p hx e1 (hb p (by rw [h]; simp)) f (outB ys) p.2.num p.2.rows [] true rfl
  have hys : ys.length = done.length := by have := congrArg List.length hy; simpa using this
  obtain ⟨f',zs,hz,ih⟩ := l_bck b xs hl hb rest (done ++ [p]) (ys ++ [(g,p.2)]) false (by rw [h]; simp) (by simp [hy])
  refine ⟨f',zs,hz,?_⟩
  rw [outB_snoc] at ih
  rw [lp23_0,e1]
  refine cT (ltI_t (by rw [outB_len]; omega)) (cT i1 (cT rfl (bnd hin (cT rfl (cT rfl (cT (leN_t ?_) ?_))))))
  ·show (List.length (outB ys) + 1) * 32 ≤ 140737488355328
   rw [outB_len]; omega
  ·show lp 23 0 0 ⟨[(0,.lst b 2 (outB xs)),(3,.sl false 0 0 none),(4,.v (.int .i64 (IntKind.i64.wrap (((done.length : Nat) : Int) + 1))))],[⟨1,68,2,false,outB ys ++ [[.lst g 4 (p.2.rows.map Rw.row),.v (.int .i64 p.2.num)]]⟩]⟩ = _
   rw [hw]
   exact ih
theorem s_back (b : Bool) (xs : List (Bool × Res)) (hl : xs.length ≤ 1000000) (hb : bdR xs) : ∃ (f : Bool) (zs : List (Bool × Res)),zs.map Prod.snd = xs.map Prod.snd∧ev 23 [.lst b 2 (outB xs)] = some [.lst f 2 (outB zs)] := by
 obtain ⟨f',zs,hz,h⟩ := l_bck b xs hl hb xs [] [] true rfl rfl
 refine ⟨f',zs,hz,?_⟩
 rw [ev23]
 exact bnd h (cT rfl (cT rfl rfl))
set_option maxRecDepth 100000
structure Mv where
 b : Int
 l : Int
 f : Int
 s : Int
 pn : Bool
 p : List Raw
def Mv.row (m : Mv) : List AV := [.v (.int .i64 m.b),.v (.int .i64 m.l),.v (.int .i64 m.f),.v (.int .i64 m.s),.lst m.pn 7 (m.p.map Raw.row)]
theorem l_heavy (b : Bool) (ms : List Mv) (hlen : ms.length ≤ 1000000) : ∀ (rest done : List Mv),ms = done ++ rest →
  ∃ hv : Bool,lp 10 0 0 ⟨[(0,.lst b 5 (ms.map Mv.row)),(5,.v (.int .i64 ((done.length : Nat) : Int)))],[]⟩ = bif hv then some ⟨none,⟨[],[]⟩,[.v (.bool true)]⟩ else some ⟨some 0,⟨[],[]⟩,[]⟩
 | [],done,h => by
  refine ⟨false,?_⟩
  rw [lp10_0]
  exact cF (ltI_f (by rw [List.length_map,h,List.append_nil]; omega)) rfl
 | m :: rest,done,h => by
  have hlt : done.length < ms.length := by rw [h]; simp
  have hrow : lget (ms.map Mv.row) (Int.toNat ((done.length : Nat) : Int)) = m.row := by
   rw [Int.toNat_natCast,lget_map _ _ _ hlt]
   subst h
   simp
  have hw : IntKind.i64.wrap (((done.length : Nat) : Int) + 1) = (((done ++ [m]).length : Nat) : Int) := by rw [w_i64,List.length_append,List.length_singleton]; omega
  have hin : (leI 0 ((done.length : Nat) : Int) && ltI ((done.length : Nat) : Int) (((List.length (ms.map Mv.row)) : Nat) : Int)) = true := by rw [leI_t (by omega),ltI_t (by rw [List.length_map]; omega)]; rfl
  obtain ⟨hv,ih⟩ := l_heavy b ms hlen rest (done ++ [m]) (by rw [h]; simp)
  rw [lp10_0,hrow,hw]
  cases h6 : ltI 6 (((List.length (m.p.map Raw.row)) : Nat) : Int) with
  | true => exact ⟨true,cT (ltI_t (by rw [List.length_map]; omega)) (cT hin (cT rfl (cT h6 rfl)))⟩
  | false => exact ⟨hv,cT (ltI_t (by rw [List.length_map]; omega)) (cT hin (cT rfl (cF h6 ih)))⟩
theorem s_heavy (b : Bool) (ms : List Mv) (most : Int) (hm : most ≤ 1000) : ∃ hv : Bool,ev 10 [.lst b 5 (ms.map Mv.row),.v (.int .i64 most)] = some [.v (.bool hv)]∧(hv = false → (ms.length : Int) ≤ most) := by
 rw [ev10]
 by_cases h : most < ms.length
 ·exact ⟨true,cT (ltI_t (by rw [List.length_map]; exact h)) rfl,fun e => by cases e⟩
 ·obtain ⟨hv,h1⟩ := l_heavy b ms (by omega) ms [] rfl
  refine ⟨hv,cF (ltI_f (by rw [List.length_map]; omega)) ?_,fun _ => by omega⟩
  cases hv with
  | true => exact bnd h1 (cF rfl (cT rfl rfl))
  | false => exact bnd h1 (cT rfl (cT rfl rfl))
structure Cl where
 inv : Int
 ret : Int
 pn : Bool
 prog : List Stm
 fate : Int
 code : Int
 at_ : Int
 rn : Bool
 sz : Nat
 res : List (Bool × Res)
def Cl.row (c : Cl) : List AV := [.v (.int .i64 c.inv),.v (.int .i64 c.ret),.lst c.pn 12 (c.prog.map Stm.row),.v (.int .i64 c.fate),.v (.int .i64 c.code),.v (.int .i64 c.at_),.lst c.rn c.sz (outB c.res)]
structure Cl.wf (c : Cl) : Prop where
 p1 : 1 ≤ c.prog.length
 p5 : c.prog.length ≤ 5
 pok : ∀ s ∈ c.prog,s.ok
 nil : c.sz = 2 ∨ (c.rn = true∧c.res = [])
 rl : c.res.length ≤ 8
 rb : RB (c.res.map Prod.snd)
def StepC (i : Nat) (now : List Rw) (c : Cl) (now' : List Rw) : Prop :=
 (applyM now c.prog).2.2.2 ≠ 1∧c.wf∧(0 ≤ c.inv∧c.inv ≤ 10 * (i : Int)) ∧
 ((c.fate = 1∧c.code = (applyM now c.prog).2.2.2∧c.at_ = (((applyM now c.prog).2.2.1 : Nat) : Int)∧c.res.map Prod.snd = (applyM now c.prog).2.1∧(10 * (i : Int) + 1 ≤ c.ret∧c.ret ≤ 10 * (i : Int) + 40)∧now' = (applyM now c.prog).1) ∨
  (c.fate = 3∧c.ret = -1∧c.code = 0∧c.at_ = 0∧c.res = []∧(now' = (applyM now c.prog).1 ∨ now' = now)) ∨
  (c.fate = 2∧(10 * (i : Int) + 1 ≤ c.ret∧c.ret ≤ 10 * (i : Int) + 40)∧c.code = 0∧c.at_ = 0∧c.res = []∧now' = now))
def HistOk : Nat → List Rw → List Cl → Prop
 | _,_,[] => True
 | i,now,c :: cs => ∃ now',StepC i now c now'∧HistOk (i + 1) now' cs
theorem inv_rng {i : Nat} (hi : i ≤ 1000) {x : Int} (hx : 0 ≤ x∧x < 40) : 0 ≤ (if IntKind.i64.wrap (IntKind.i64.wrap (10 * (i : Int)) - x) > 0 then IntKind.i64.wrap (IntKind.i64.wrap (10 * (i : Int)) - x) else 0)∧(if IntKind.i64.wrap (IntKind.i64.wrap (10 * (i : Int)) - x) > 0 then IntKind.i64.wrap (IntKind.i64.wrap (10 * (i : Int)) - x) else 0) ≤ 10 * (i : Int) := by
 rw [show IntKind.i64.wrap (10 * (i : Int)) = 10 * (i : Int) by rw [w_i64]; omega,show IntKind.i64.wrap (10 * (i : Int) - x) = 10 * (i : Int) - x by rw [w_i64]; omega]
 split <;> omega
theorem ret_rng {i : Nat} (hi : i ≤ 1000) {x : Int} (hx : 0 ≤ x∧x < 40) : 10 * (i : Int) + 1 ≤ IntKind.i64.wrap (IntKind.i64.wrap (IntKind.i64.wrap (10 * (i : Int)) + 1) + x)∧IntKind.i64.wrap (IntKind.i64.wrap (IntKind.i64.wrap (10 * (i : Int)) + 1) + x) ≤ 10 * (i : Int) + 40 := by
 rw [show IntKind.i64.wrap (10 * (i : Int)) = 10 * (i : Int) by rw [w_i64]; omega,show IntKind.i64.wrap (10 * (i : Int) + 1) = 10 * (i : Int) + 1 by rw [w_i64]; omega,show IntKind.i64.wrap (10 * (i : Int) + 1 + x) = 10 * (i : Int) + 1 + x by rw [w_i64]; omega]
 omega
def QH (i : Nat) (now : List Rw) (k : Nat) (acc : List Cl) (e : Option LR) : Prop :=
 (∃ (f : Bool) (cs : List Cl),e = some ⟨some 0,⟨[(6,.sl f 0 0 none)],[⟨1,56,7,false,(acc ++ cs).map Cl.row⟩]⟩,[]⟩∧cs.length = k∧HistOk i now cs) ∨ e = some ⟨none,⟨[],[]⟩,[.ow true 56 7 [],.v (.bool false)]⟩
theorem QH_step {i : Nat} {now now' : List Rw} {k : Nat} {acc : List Cl} {c : Cl} {e e' : Option LR} (hs : StepC i now c now') (h : QH (i + 1) now' k (acc ++ [c]) e) (he : e' = e) : QH i now (k + 1) acc e' := by
 rw [he]
 rcases h with ⟨f,cs,h1,h2,h3⟩ | h
 ·exact .inl ⟨f,c :: cs,by rw [h1]; simp,by simp [h2],now',hs,h3⟩
 ·exact .inr h
theorem l_hist (mn : Bool) (ms : List Mv) (hlen : ms.length ≤ 100) : ∀ (rest done : List Mv) (now : List Rw) (nn f : Bool) (acc : List Cl),ms = done ++ rest → now.length ≤ 20 + 8 * done.length → OkT now → acc.length = done.length →
  QH done.length now rest.length acc (lp 12 0 0 ⟨[(1,.lst mn 5 (ms.map Mv.row)),(6,.sl f 0 0 none),(7,.lst nn 4 (now.map Rw.row)),(8,.v (.int .i64 ((done.length : Nat) : Int)))],[⟨1,56,7,false,acc.map Cl.row⟩]⟩)
 | [],done,now,nn,f,acc,h,hn,hT,ha => by
  refine .inl ⟨f,[],?_,rfl,trivial⟩
  rw [List.append_nil,lp12_0]
  exact cF (ltI_f (by rw [List.length_map,h,List.append_nil]; omega)) rfl
 | m :: rest,done,now,nn,f,acc,h,hn,hT,ha => by
  have hlt : done.length < ms.length := by rw [h]; simp
  have hrow : lget (ms.map Mv.row) (Int.toNat ((done.length : Nat) : Int)) = m.row := by
   rw [Int.toNat_natCast,lget_map _ _ _ hlt]
   subst h
   simp
  have hw : IntKind.i64.wrap (((done.length : Nat) : Int) + 1) = (((done ++ [m]).length : Nat) : Int) := by rw [w_i64,List.length_append,List.length_singleton]; omega
  have hdl : (done ++ [m]).length = done.length + 1 := by simp
  have hin : (leI 0 ((done.length : Nat) : Int) && ltI ((done.length : Nat) : Int) (((List.length (ms.map Mv.row)) : Nat) : Int)) = true := by rw [leI_t (by omega),ltI_t (by rw [List.length_map]; omega)]; rfl
  have hN : leN (((List.length (acc.map Cl.row)) + 1) * 88) 140737488355328 = true := leN_t (by rw [List.length_map]; omega)
  have h1 : ltI ((done.length : Nat) : Int) (((List.length (ms.map Mv.row)) : Nat) : Int) = true := ltI_t (by rw [List.length_map]; omega)
  obtain ⟨fp,p,hp,p1,p2,p3⟩ := s_program m.pn m.p
  obtain ⟨fo,ho⟩ := s_own fp p (by omega)
  obtain ⟨b4,b5,bcc,hb,h22⟩ := s_RApply nn now (by omega) hT fo p (by omega) p3
  obtain ⟨k1,k2,k3,k4,k5,k6⟩ := applyM_ok now p hT p3 (by omega) (by omega)
  have hbl := len_of hb
  obtain ⟨fz,zs,hz,hbk⟩ := s_back b5 bcc (by omega) (bdR_of hb k3)
  have hzl := len_of (hz.trans hb)
  have x1 := pick_rng m.b 40 (by decide)
  have x2 := pick_rng m.l 40 (by decide)
  have hiv := inv_rng (i := done.length) (by omega) x1
  have hrt := ret_rng (i := done.length) (by omega) x2
  have ih := fun (now' : List Rw) (nn' : Bool) (c : Cl) h2 h3 => l_hist mn ms hlen rest (done ++ [m]) now' nn' false (acc ++ [c]) (by rw [h]; simp) h2 h3 (by simp [ha])
  rw [hdl] at ih
  rw [lp12_0,hrow,hw,hdl]
  by_cases hc : (applyM now p).2.2.2 = 1
  ·exact .inr (cT h1 (cT hin (cT rfl (bnd hp (cT rfl (bnd ho (cT rfl (bnd h22 (cT rfl (cT rfl (cT rfl (cT rfl (cT (by show ((applyM now p).2.2.2 == 1) = true; rw [hc]; rfl) rfl)))))))))))))
  ·have hc1 : ((applyM now p).2.2.2 == 1) = false := by rw [beq_eq_false_iff_ne]; exact hc
   have x3 := pick_rng m.f 6 (by decide)
   have wf0 : ∀ (iv rt ft : Int),(⟨iv,rt,fp,p,ft,0,0,true,0,[]⟩ : Cl).wf := fun iv rt ft => ⟨p1,p2,p3,.inr ⟨rfl,rfl⟩,Nat.zero_le _,fun r hr => by cases hr⟩
   have fin : ∀ (c : Cl) (now' : List Rw) (nn' : Bool) (e : Option LR),StepC done.length now c now' → now'.length ≤ 20 + 8 * (done.length + 1) → OkT now' →
     e = lp 12 0 0 ⟨[(1,.lst mn 5 (ms.map Mv.row)),(6,.sl false 0 0 none),(7,.lst nn' 4 (now'.map Rw.row)),(8,.v (.int .i64 ((done.length + 1 : Nat) : Int)))],[⟨1,56,7,false,acc.map Cl.row ++ [c.row]⟩]⟩ → QH done.length now (rest.length + 1) acc e := by
    intro c now' nn' e hs hl2 hT2 he
    have := ih now' nn' c (by simpa using hl2) hT2
    rw [List.map_append] at this
    exact QH_step hs this he
   by_cases f0 : pick m.f 6 = 0
   ·have t0 : (pick m.f 6 == 0) = true := by rw [f0]; rfl
    by_cases hz0 : (applyM now p).2.2.2 = 0
    ·exact fin ⟨_,-1,fp,p,3,0,0,true,0,[]⟩ (applyM now p).1 b4 _ ⟨hc,wf0 _ _ _,hiv,.inr (.inl ⟨rfl,rfl,rfl,rfl,rfl,.inl rfl⟩)⟩ (by omega) k1
      (cT h1 (cT hin (cT rfl (bnd hp (cT rfl (bnd ho (cT rfl (bnd h22 (cT rfl (cT rfl (cT rfl (cT rfl (cF hc1 (cT hin (cT rfl (bnd (s_Pick m.b 40 (by decide) (by decide)) (cT rfl (cT hin (cT rfl (bnd (s_Pick m.l 40 (by decide) (by decide)) (cT rfl (bnd hbk (cT rfl (cF (by show (!((applyM now p).2.2.2 == 0)) = false; rw [hz0]; rfl) (cT hin (cT rfl (bnd (s_Pick m.f 6 (by decide) (by decide)) (cT rfl (cT t0 (cT hN rfl))))))))))))))))))))))))))))))
    ·exact fin ⟨_,-1,fp,p,3,0,0,true,0,[]⟩ (applyM now p).1 b4 _ ⟨hc,wf0 _ _ _,hiv,.inr (.inl ⟨rfl,rfl,rfl,rfl,rfl,.inl rfl⟩)⟩ (by omega) k1
      (cT h1 (cT hin (cT rfl (bnd hp (cT rfl (bnd ho (cT rfl (bnd h22 (cT rfl (cT rfl (cT rfl (cT rfl (cF hc1 (cT hin (cT rfl (bnd (s_Pick m.b 40 (by decide) (by decide)) (cT rfl (cT hin (cT rfl (bnd (s_Pick m.l 40 (by decide) (by decide)) (cT rfl (bnd hbk (cT rfl (cT (by show (!((applyM now p).2.2.2 == 0)) = true; rw [Bool.not_eq_true',beq_eq_false_iff_ne]; exact hz0) (cT hin (cT rfl (bnd (s_Pick m.f 6 (by decide) (by decide)) (cT rfl (cT t0 (cT hN rfl))))))))))))))))))))))))))))))
   have t0 : (pick m.f 6 == 0) = false := by rw [beq_eq_false_iff_ne]; exact f0
   by_cases f1 : pick m.f 6 = 1
   ·have t1 : (pick m.f 6 == 1) = true := by rw [f1]; rfl
    by_cases hz0 : (applyM now p).2.2.2 = 0
    ·exact fin ⟨_,-1,fp,p,3,0,0,true,0,[]⟩ now nn _ ⟨hc,wf0 _ _ _,hiv,.inr (.inl ⟨rfl,rfl,rfl,rfl,rfl,.inr rfl⟩)⟩ (by omega) hT
      (cT h1 (cT hin (cT rfl (bnd hp (cT rfl (bnd ho (cT rfl (bnd h22 (cT rfl (cT rfl (cT rfl (cT rfl (cF hc1 (cT hin (cT rfl (bnd (s_Pick m.b 40 (by decide) (by decide)) (cT rfl (cT hin (cT rfl (bnd (s_Pick m.l 40 (by decide) (by decide)) (cT rfl (bnd hbk (cT rfl (cF (by show (!((applyM now p).2.2.2 == 0)) = false; rw [hz0]; rfl) (cT hin (cT rfl (bnd (s_Pick m.f 6 (by decide) (by decide)) (cT rfl (cF t0 (cT t1 (cT hN rfl)))))))))))))))))))))))))))))))
    ·exact fin ⟨_,-1,fp,p,3,0,0,true,0,[]⟩ now nn _ ⟨hc,wf0 _ _ _,hiv,.inr (.inl ⟨rfl,rfl,rfl,rfl,rfl,.inr rfl⟩)⟩ (by omega) hT
      (cT h1 (cT hin (cT rfl (bnd hp (cT rfl (bnd ho (cT rfl (bnd h22 (cT rfl (cT rfl (cT rfl (cT rfl (cF hc1 (cT hin (cT rfl (bnd (s_Pick m.b 40 (by decide) (by decide)) (cT rfl (cT hin (cT rfl (bnd (s_Pick m.l 40 (by decide) (by decide)) (cT rfl (bnd hbk (cT rfl (cT (by show (!((applyM now p).2.2.2 == 0)) = true; rw [Bool.not_eq_true',beq_eq_false_iff_ne]; exact hz0) (cT hin (cT rfl (bnd (s_Pick m.f 6 (by decide) (by decide)) (cT rfl (cF t0 (cT t1 (cT hN rfl)))))))))))))))))))))))))))))))
   have t1 : (pick m.f 6 == 1) = false := by rw [beq_eq_false_iff_ne]; exact f1
   by_cases f2 : pick m.f 6 = 2
   ·have t2 : (pick m.f 6 == 2) = true := by rw [f2]; rfl
    by_cases hz0 : (applyM now p).2.2.2 = 0
    ·exact fin ⟨_,_,fp,p,2,0,0,true,0,[]⟩ now nn _ ⟨hc,wf0 _ _ _,hiv,.inr (.inr ⟨rfl,hrt,rfl,rfl,rfl,rfl⟩)⟩ (by omega) hT
      (cT h1 (cT hin (cT rfl (bnd hp (cT rfl (bnd ho (cT rfl (bnd h22 (cT rfl (cT rfl (cT rfl (cT rfl (cF hc1 (cT hin (cT rfl (bnd (s_Pick m.b 40 (by decide) (by decide)) (cT rfl (cT hin (cT rfl (bnd (s_Pick m.l 40 (by decide) (by decide)) (cT rfl (bnd hbk (cT rfl (cF (by show (!((applyM now p).2.2.2 == 0)) = false; rw [hz0]; rfl) (cT hin (cT rfl (bnd (s_Pick m.f 6 (by decide) (by decide)) (cT rfl (cF t0 (cF t1 (cT t2 (cT hN rfl))))))))))))))))))))))))))))))))
    ·exact fin ⟨_,_,fp,p,2,0,0,true,0,[]⟩ now nn _ ⟨hc,wf0 _ _ _,hiv,.inr (.inr ⟨rfl,hrt,rfl,rfl,rfl,rfl⟩)⟩ (by omega) hT
      (cT h1 (cT hin (cT rfl (bnd hp (cT rfl (bnd ho (cT rfl (bnd h22 (cT rfl (cT rfl (cT rfl (cT rfl (cF hc1 (cT hin (cT rfl (bnd (s_Pick m.b 40 (by decide) (by decide)) (cT rfl (cT hin (cT rfl (bnd (s_Pick m.l 40 (by decide) (by decide)) (cT rfl (bnd hbk (cT rfl (cT (by show (!((applyM now p).2.2.2 == 0)) = true; rw [Bool.not_eq_true',beq_eq_false_iff_ne]; exact hz0) (cT hin (cT rfl (bnd (s_Pick m.f 6 (by decide) (by decide)) (cT rfl (cF t0 (cF t1 (cT t2 (cT hN rfl))))))))))))))))))))))))))))))))
   have t2 : (pick m.f 6 == 2) = false := by rw [beq_eq_false_iff_ne]; exact f2
   have hwf : ∀ (iv rt at_ : Int),(⟨iv,rt,fp,p,1,(applyM now p).2.2.2,at_,fz,2,zs⟩ : Cl).wf := fun iv rt at_ => ⟨p1,p2,p3,.inl rfl,by show zs.length ≤ 8; omega,by show RB (zs.map Prod.snd); rw [hz,hb]; exact k3⟩
   by_cases hz0 : (applyM now p).2.2.2 = 0
   ·have hat : (applyM now p).2.2.1 = 0 := by
     unfold applyM at hz0 ⊢
     cases hq : okP p && tval 0 now with
     | true => rw [hq] at hz0; exact (appR_at now p now 0 [] hz0).1
     | false => rfl
    exact fin ⟨_,_,fp,p,1,(applyM now p).2.2.2,0,fz,2,zs⟩ (applyM now p).1 b4 _ ⟨hc,hwf _ _ _,hiv,.inl ⟨rfl,rfl,by show (0 : Int) = _; rw [hat]; rfl,hz.trans hb,hrt,rfl⟩⟩ (by omega) k1
      (cT h1 (cT hin (cT rfl (bnd hp (cT rfl (bnd ho (cT rfl (bnd h22 (cT rfl (cT rfl (cT rfl (cT rfl (cF hc1 (cT hin (cT rfl (bnd (s_Pick m.b 40 (by decide) (by decide)) (cT rfl (cT hin (cT rfl (bnd (s_Pick m.l 40 (by decide) (by decide)) (cT rfl (bnd hbk (cT rfl (cF (by show (!((applyM now p).2.2.2 == 0)) = false; rw [hz0]; rfl) (cT hin (cT rfl (bnd (s_Pick m.f 6 (by decide) (by decide)) (cT rfl (cF t0 (cF t1 (cF t2 (cT hN rfl))))))))))))))))))))))))))))))))
   ·exact fin ⟨_,_,fp,p,1,(applyM now p).2.2.2,(((applyM now p).2.2.1 : Nat) : Int),fz,2,zs⟩ (applyM now p).1 b4 _ ⟨hc,hwf _ _ _,hiv,.inl ⟨rfl,rfl,rfl,hz.trans hb,hrt,rfl⟩⟩ (by omega) k1
      (cT h1 (cT hin (cT rfl (bnd hp (cT rfl (bnd ho (cT rfl (bnd h22 (cT rfl (cT rfl (cT rfl (cT rfl (cF hc1 (cT hin (cT rfl (bnd (s_Pick m.b 40 (by decide) (by decide)) (cT rfl (cT hin (cT rfl (bnd (s_Pick m.l 40 (by decide) (by decide)) (cT rfl (bnd hbk (cT rfl (cT (by show (!((applyM now p).2.2.2 == 0)) = true; rw [Bool.not_eq_true',beq_eq_false_iff_ne]; exact hz0) (cT hin (cT rfl (bnd (s_Pick m.f 6 (by decide) (by decide)) (cT rfl (cF t0 (cF t1 (cF t2 (cT hN rfl))))))))))))))))))))))))))))))))
theorem s_history (tn : Bool) (t : List Rw) (ht : t.length ≤ 20) (hT : OkT t) (mn : Bool) (ms : List Mv) (hlen : ms.length ≤ 100) :
  (∃ (f : Bool) (cs : List Cl),ev 12 [.lst tn 4 (t.map Rw.row),.lst mn 5 (ms.map Mv.row)] = some [.ow f 56 7 (cs.map Cl.row),.v (.bool true)]∧cs.length = ms.length∧HistOk 0 t cs) ∨
  ev 12 [.lst tn 4 (t.map Rw.row),.lst mn 5 (ms.map Mv.row)] = some [.ow true 56 7 [],.v (.bool false)] := by
 obtain ⟨f1,htab⟩ := s_table tn t (by omega)
 rw [ev12]
 rcases l_hist mn ms hlen ms [] t f1 true [] rfl (by simp; omega) hT rfl with ⟨f,cs,h1,h2,h3⟩ | h
 ·exact .inl ⟨f,cs,bnd htab (cT rfl (bnd h1 (cT rfl (cT rfl rfl)))),h2,h3⟩
 ·exact .inr (bnd htab (cT rfl (bnd h (cF rfl (cT rfl rfl)))))
end Go.Proofs.Ytnhahcomgeeobaa
