/- SerialChecks: what the statement's function answers. -/
import Derived.Test.YtnhahcomgeeobaaChk6
set_option linter.all false
namespace Go.Proofs.Ytnhahcomgeeobaa
open Go.Ev
set_option maxRecDepth 100000
theorem lp3_0m (x2 : Int) (x4n : Bool) (x4 : List (List AV)) (x11n : Bool) (x11 : List (List AV)) (x12n : Bool) (x14 : Int) (b0 : List (List AV)) : lp 3 0 0 ⟨[(2,(.v (.int .i64 x2))),(4,(.lst x4n 4 x4)),(11,(.lst x11n 4 x11)),(12,(.sl x12n 0 0 none)),(14,(.v (.int .i64 x14)))],[⟨2,56,7,false,b0⟩]⟩ =
 cond (ltI x14 2)
  ((ev 15 [(.lst x11n 4 x11),(.lst x12n 7 b0),(.v (.int .i64 x2))]).bind fun r19 =>
   cond (isOw 3 1 (cellAt r19 0))
    (cond (isB (cellAt r19 1))
      (cond (isI .i64 (cellAt r19 2))
        (cond true
          ((ev 17 [(.lst x11n 4 x11)]).bind fun r24 =>
           cond (isL 4 (cellAt r24 0))
            ((ev 18 [(.lst x12n 7 b0)]).bind fun r27 =>
             cond (isOw 107 7 (cellAt r27 0))
              ((ev 16 [(.lst (avNil (cellAt r24 0)) 4 (avXs (cellAt r24 0))),(.lst (avNil (cellAt r27 0)) 7 (avXs (cellAt r27 0))),(.v (.int .i64 x2))]).bind fun r31 =>
               cond (isL 1 (cellAt r31 0))
                (cond (isB (cellAt r31 1))
                  (cond (isI .i64 (cellAt r31 2))
                    (cond (!((avInt (cellAt r19 2)) == (avInt (cellAt r31 2))))
                      (some ⟨none,⟨[],[]⟩,[(.v (.bool false))]⟩)
                      (cond (!((avBool (cellAt r19 1)) == (avBool (cellAt r31 1))))
                        (some ⟨none,⟨[],[]⟩,[(.v (.bool false))]⟩)
                        ((ev 19 [(.lst (avNil (cellAt r19 0)) 1 (avXs (cellAt r19 0))),(.lst (avNil (cellAt r31 0)) 1 (avXs (cellAt r31 0)))]).bind fun r39 =>
                         cond (isB (cellAt r39 0))
                          (cond (!(avBool (cellAt r39 0)))
                            (some ⟨none,⟨[],[]⟩,[(.v (.bool false))]⟩)
                            ((ev 20 [(.v (.int .i64 x2)),(.v (.int .i64 3000))]).bind fun r42 =>
                             cond (isI .i64 (cellAt r42 0))
                              (cond (x14 == 0)
                                ((ev 20 [(.v (.int .i64 (IntKind.wrap .i64 ((avInt (cellAt r42 0)) + 1)))),(.v (.int .i64 5))]).bind fun r46 =>
                                 cond (isI .i64 (cellAt r46 0))
                                  (cond ((avInt (cellAt r46 0)) == 4)
                                    (lp 3 0 0 ⟨[(2,(.v (.int .i64 (IntKind.wrap .i64 ((avInt (cellAt r42 0)) + 1))))),(4,(.lst x4n 4 x4)),(11,(.lst x4n 4 x4)),(12,(.sl x12n 0 0 none)),(14,(.v (.int .i64 (IntKind.wrap .i64 (x14 + 1)))))],[⟨2,56,7,false,b0⟩]⟩)
                                    (lp 3 0 0 ⟨[(2,(.v (.int .i64 (IntKind.wrap .i64 ((avInt (cellAt r42 0)) + 1))))),(4,(.lst x4n 4 x4)),(11,(.lst x11n 4 x11)),(12,(.sl x12n 0 0 none)),(14,(.v (.int .i64 (IntKind.wrap .i64 (x14 + 1)))))],[⟨2,56,7,false,b0⟩]⟩))
                                  (none))
                                (lp 3 0 0 ⟨[(2,(.v (.int .i64 (IntKind.wrap .i64 ((avInt (cellAt r42 0)) + 1))))),(4,(.lst x4n 4 x4)),(11,(.lst x11n 4 x11)),(12,(.sl x12n 0 0 none)),(14,(.v (.int .i64 (IntKind.wrap .i64 (x14 + 1)))))],[⟨2,56,7,false,b0⟩]⟩))
                              (none)))
                          (none))))
                    (none))
                  (none))
                (none))
              (none))
            (none))
          (none))
        (none))
      (none))
    (none))
  (some ⟨(some 0),⟨[],[]⟩,[]⟩) := (lp_eq _ _ _ _).trans (by kernel_rfl)
theorem ev14 (l : List AV) : ev 14 l = spoilG l := ev_eq 14 l
theorem wf_okC {c : Cl} (h : c.wf) : c.ok := ⟨h.pok,h.nil,h.rl,h.rb⟩
def spC (s : Int) (c : Cl) : Cl :=
 if pick s 18 = 0 then
  match c.res with
  | [] => c
  | p :: ps => { c with rn := false,sz := 2,res := (p.1,⟨p.2.rows,IntKind.i64.wrap (p.2.num + 1)⟩) :: ps }
 else if pick s 18 = 1 then { c with code := 16 }
 else if pick s 18 = 2 then { c with at_ := IntKind.i64.wrap (c.at_ + 1) }
 else if pick s 18 = 3 then { c with inv := IntKind.i64.wrap (c.inv + 30) }
 else if pick s 18 = 4 then { c with ret := IntKind.i64.wrap (c.ret - 30) }
 else if pick s 18 = 5 then { c with fate := pick (IntKind.i64.wrap (s.tdiv 18)) 5 }
 else if pick s 18 = 6 then { c with rn := true,sz := 0,res := [] }
 else c
theorem spC_row (s : Int) (c : Cl) : spA s c.row = (spC s c).row := by
 unfold spA spC
 split
 ·have h6 : avXs (cellAt c.row 6) = outB c.res := rfl
  rw [h6]
  cases hr : c.res with
  | nil => rfl
  | cons p ps =>
   show (bif Nat.beq (outB (p :: ps)).length 0 then c.row else _) = _
   rw [outB_len,nbeq_false (by simp),cond_false]
   rfl
 split
 ·rfl
 split
 ·rfl
 split
 ·rfl
 split
 ·rfl
 split
 ·rfl
 split
 ·rfl
 ·rfl
theorem spC_ok {c : Cl} (h : c.ok) (s : Int) : (spC s c).ok∧(spC s c).prog = c.prog := by
 unfold spC
 split
 ·cases hr : c.res with
  | nil => exact ⟨h,rfl⟩
  | cons p ps =>
   refine ⟨⟨h.pok,.inl rfl,?_,?_⟩,rfl⟩
   ·have := h.rl
    rw [hr] at this
    simpa using this
   ·have := h.rb
    rw [hr] at this
    intro r hrr
    rcases List.mem_cons.1 hrr with rfl | hrr
    ·exact this p.2 (by simp)
    ·exact this r (by rw [List.map_cons]; exact List.mem_cons_of_mem _ hrr)
 split
 ·exact ⟨⟨h.pok,h.nil,h.rl,h.rb⟩,rfl⟩
 split
 ·exact ⟨⟨h.pok,h.nil,h.rl,h.rb⟩,rfl⟩
 split
 ·exact ⟨⟨h.pok,h.nil,h.rl,h.rb⟩,rfl⟩
 split
 ·exact ⟨⟨h.pok,h.nil,h.rl,h.rb⟩,rfl⟩
 split
 ·exact ⟨⟨h.pok,h.nil,h.rl,h.rb⟩,rfl⟩
 split
 ·exact ⟨⟨h.pok,.inr ⟨rfl,rfl⟩,Nat.zero_le _,fun r hr => by cases hr⟩,rfl⟩
 ·exact ⟨h,rfl⟩
def spCs : List Cl → List Mv → List Cl
 | c :: cs,m :: ms => spC m.s c :: spCs cs ms
 | cs,_ => cs
theorem spCs_row : ∀ (cs : List Cl) (ms : List Mv),spL (cs.map Cl.row) (ms.map Mv.row) = (spCs cs ms).map Cl.row
 | [],_ => rfl
 | _ :: _,[] => rfl
 | c :: cs,m :: ms => by
  show spA m.s c.row :: spL (cs.map Cl.row) (ms.map Mv.row) = (spC m.s c).row :: (spCs cs ms).map Cl.row
  rw [spC_row,spCs_row cs ms]
theorem spCs_len : ∀ (cs : List Cl) (ms : List Mv),(spCs cs ms).length = cs.length
 | [],_ => rfl
 | _ :: _,[] => rfl
 | _ :: cs,_ :: ms => congrArg (· + 1) (spCs_len cs ms)
theorem spCs_ok : ∀ (cs : List Cl) (ms : List Mv),(∀ c ∈ cs,c.ok∧c.prog.length ≤ 1000000) → ∀ d ∈ spCs cs ms,d.ok∧d.prog.length ≤ 1000000
 | [],_,h => h
 | _ :: _,[],h => h
 | c :: cs,m :: ms,h => by
  intro d hd
  rcases List.mem_cons.1 hd with rfl | hd
  ·obtain ⟨h1,h2⟩ := h c (by simp)
   obtain ⟨h3,h4⟩ := spC_ok h1 m.s
   exact ⟨h3,by rw [h4]; exact h2⟩
  ·exact spCs_ok cs ms (fun c hc => h c (by simp [hc])) d hd
theorem okX_row {c : Cl} (h : c.ok) : okX c.row = true := by
 have h6 : okR (.lst c.rn c.sz (outB c.res)) = true := by
  rcases h.nil with h2 | ⟨h2,h3⟩
  ·rw [h2]
   unfold okR
   split
   ·rename_i es heq
    injection heq with _ _ heq
    subst heq
    rw [Bool.and_eq_true,List.all_eq_true,decide_eq_true_eq]
    refine ⟨fun e he => ?_,by rw [outB_len]; have := h.rl; omega⟩
    obtain ⟨p,_,rfl⟩ := List.mem_map.1 he
    rfl
   ·rfl
   ·rename_i h7 _
    exact absurd rfl (h7 _ _)
  ·rw [h3]
   unfold okR
   split
   ·rename_i heq
    injection heq with _ _ heq
    rw [← heq]; rfl
   ·rfl
   ·rename_i h7
    exact absurd rfl (h7 _ _)
 show (true && (true && (true && (true && (true && (true && okR (.lst c.rn c.sz (outB c.res)))))))) = true
 rw [h6]; rfl
theorem s_spoil (an : Bool) (cs : List Cl) (hok : ∀ c ∈ cs,c.ok) (hcl : cs.length ≤ 100) (bn : Bool) (ms : List Mv) (hml : cs.length ≤ ms.length) :
  ev 14 [.lst an 7 (cs.map Cl.row),.lst bn 5 (ms.map Mv.row)] = some [.ow (cs.map Cl.row).isEmpty 56 7 ((spCs cs ms).map Cl.row)] := by
 rw [ev14]
 show (bif decide ((cs.map Cl.row).length ≤ 100) && (decide ((cs.map Cl.row).length ≤ (ms.map Mv.row).length) && ((cs.map Cl.row).all okX && (ms.map Mv.row).all okM)) then some [AV.ow (cs.map Cl.row).isEmpty 56 7 (spL (cs.map Cl.row) (ms.map Mv.row))] else none) = _
 have h1 : (cs.map Cl.row).all okX = true := by
  rw [List.all_eq_true]
  intro x hx
  obtain ⟨c,hc,rfl⟩ := List.mem_map.1 hx
  exact okX_row (hok c hc)
 have h2 : (ms.map Mv.row).all okM = true := by
  rw [List.all_eq_true]
  intro x hx
  obtain ⟨m,_,rfl⟩ := List.mem_map.1 hx
  rfl
 rw [h1,h2,List.length_map,List.length_map,decide_eq_true hcl,decide_eq_true hml,spCs_row]; rfl
theorem loop_len (rec : List Rw → List Bool → List Int → Int → Out) (f : Nat) (hr : ∀ t ps os b r,rec t ps os b = .found r → r.length ≤ os.length + f) (cs : List Cl) (t : List Rw) (ps : List Bool) (os : List Int) : ∀ (k i : Nat) (b : Int) (r : List Int),loopM rec cs t ps os k i b = .found r → r.length ≤ os.length + (f + 1)
 | 0,_,_,_,h => by cases h
 | k + 1,i,b,r,h => by
  unfold loopM at h
  cases hm : may cs ps i with
  | false =>
   rw [hm] at h
   exact loop_len rec f hr cs t ps os k (i + 1) b r h
  | true =>
   rw [hm] at h
   cases hb : (b == 0) with
   | true => rw [hb] at h; cases h
   | false =>
    rw [hb] at h
    simp only [cond_true,cond_false] at h
    cases ha : agr (cs.getD i c0) (applyM t (cs.getD i c0).prog) with
    | false =>
     rw [ha] at h
     exact loop_len rec f hr cs t ps os k (i + 1) (b - 1) r h
    | true =>
     rw [ha] at h
     simp only [cond_true] at h
     cases ho : rec (applyM t (cs.getD i c0).prog).1 (ps.set i true) (os ++ [(i : Int)]) (b - 1) with
     | found r' =>
      rw [ho] at h
      have := hr _ _ _ _ _ ho
      injection h with h
      subst h
      rw [List.length_append,List.length_singleton] at this; omega
     | limit => rw [ho] at h; cases h
     | none b' => rw [ho] at h; exact loop_len rec f hr cs t ps os k (i + 1) b' r h
theorem run_len (cs : List Cl) : ∀ (f : Nat) (t : List Rw) (ps : List Bool) (os : List Int) (b : Int) (r : List Int),runM cs f t ps os b = .found r → r.length ≤ os.length + f
 | 0,_,_,_,_,_,h => by cases h
 | f + 1,t,ps,os,b,r,h => by
  unfold runM at h
  cases hc : complR cs ps with
  | true =>
   rw [hc] at h
   injection h with h
   subst h; omega
  | false =>
   rw [hc] at h
   exact loop_len _ f (fun t ps os b r => run_len cs f t ps os b r) cs t ps os _ _ _ r h
theorem ints_rowB (xs : List Int) : List.all (xs.map vRow) rowV = true := by
 rw [List.all_eq_true]
 intro x hx
 obtain ⟨y,_,rfl⟩ := List.mem_map.1 hx
 rfl
theorem s_both (tn : Bool) (t : List Rw) (htn : tn = true → t = []) (ht : t.length ≤ 300) (hT : OkT t) (cn : Bool) (cs : List Cl) (hk : ∀ c ∈ cs,c.ok∧c.prog.length ≤ 1000000) (hcl : cs.length ≤ 1000) (b : Int) :
  ∃ (o1 o2 f17 f18 yes : Bool) (xs : List Int) (e : Int) (es : List Cl),xs.length ≤ 1000000 ∧
   ev 15 [.lst tn 4 (t.map Rw.row),.lst cn 7 (cs.map Cl.row),.v (.int .i64 b)] = some [.ow o1 3 1 (xs.map vRow),.v (.bool yes),.v (.int .i64 e)] ∧
   ev 17 [.lst tn 4 (t.map Rw.row)] = some [.lst f17 4 (t.map Rw.row)] ∧
   ev 18 [.lst cn 7 (cs.map Cl.row)] = some [.ow f18 107 7 (es.map Cl.row)] ∧
   ev 16 [.lst f17 4 (t.map Rw.row),.lst f18 7 (es.map Cl.row),.v (.int .i64 b)] = some [.lst o2 1 (xs.map vRow),.v (.bool yes),.v (.int .i64 e)] := by
 obtain ⟨f17,h17⟩ := s_table tn t (by omega)
 obtain ⟨f18,es,hn,hes,h18⟩ := s_owns cn cs (fun c hc => (hk c hc).1) (fun c hc => (hk c hc).2) (by omega)
 have hel : es.length = cs.length := by have := congrArg List.length hn; simpa using this
 obtain ⟨c1,c2⟩ := s_Check tn t htn ht hT cn cs (fun c hc => (hk c hc).1) hcl b
 obtain ⟨r1,r2⟩ := s_rCheck f17 t ht hT f18 es (fun c hc => (hes c hc).1) (fun c hc => (hes c hc).2) (by omega) b
 have hokH : okH t es b = okH t cs b := by rw [← norm_okH t es,hn,norm_okH]
 have hsr : srch t es b = srch t cs b := by rw [← norm_srch t es,hn,norm_srch]
 rw [hokH] at r1 r2
 rw [hsr] at r2
 cases ho : okH t cs b with
 | false => exact ⟨true,true,f17,f18,false,[],1,es,Nat.zero_le _,c1 ho,h17,h18,r1 ho⟩
 | true =>
  have c2 := c2 ho
  have r2 := r2 ho
  cases hs : srch t cs b with
  | found os =>
   rw [hs] at c2 r2
   obtain ⟨o1,c2⟩ := c2
   obtain ⟨o2,r2⟩ := r2
   have := run_len cs _ _ _ _ _ _ hs
   exact ⟨o1,o2,f17,f18,true,os,0,es,by simp at this; omega,c2,h17,h18,r2⟩
  | limit =>
   rw [hs] at c2 r2
   exact ⟨true,true,f17,f18,false,[],18,es,Nat.zero_le _,c2,h17,h18,r2⟩
  | none b' =>
   rw [hs] at c2 r2
   exact ⟨true,true,f17,f18,false,[],0,es,Nat.zero_le _,c2,h17,h18,r2⟩
def S3 (m : Nat) (b : Int) (rn : Bool) (raw : List Rw) (tn : Bool) (t : List Rw) (cn : Bool) (cs : List Cl) (i : Int) : St :=
 ⟨[(2,.v (.int .i64 b)),(4,.lst rn 4 (raw.map Rw.row)),(11,.lst tn 4 (t.map Rw.row)),(12,.sl cn 0 0 none),(14,.v (.int .i64 i))],[⟨m,56,7,false,cs.map Cl.row⟩]⟩
theorem s_Pk (a m : Int) (h1 : 0 < m) (h2 : m ≤ 1000000) : ev 20 [.v (.int .i64 a),.v (.int .i64 m)] = some [.v (.int .i64 (pick a m))] := s_Pick a m h1 (by omega)
theorem l3_1 (b : Int) (rn : Bool) (raw : List Rw) (tn : Bool) (t : List Rw) (htn : tn = true → t = []) (ht : t.length ≤ 300) (hT : OkT t) (cn : Bool) (cs : List Cl) (hk : ∀ c ∈ cs,c.ok∧c.prog.length ≤ 1000000) (hcl : cs.length ≤ 1000) :
  lp 3 0 0 (S3 2 b rn raw tn t cn cs 1) = some ⟨some 0,⟨[],[]⟩,[]⟩ := by
 obtain ⟨o1,o2,f17,f18,yes,xs,e,es,hx,h15,h17,h18,h16⟩ := s_both tn t htn ht hT cn cs hk hcl b
 have h19 := s_ints o1 o2 xs hx
 have hend : ∀ b',lp 3 0 0 (S3 2 b' rn raw tn t cn cs 2) = some ⟨some 0,⟨[],[]⟩,[]⟩ := fun b' => by
  unfold S3
  rw [lp3_0m]
  exact cF rfl rfl
 unfold S3 at hend ⊢
 rw [lp3_0m]
 exact cT rfl (bnd h15 (cT rfl (cT rfl (cT rfl (cT rfl (bnd h17 (cT rfl (bnd h18 (cT rfl (bnd h16 (cT rfl (cT rfl (cT rfl (cF (by show (!(e == e)) = false; rw [beq_self_i]; rfl) (cF (by show (!(yes == yes)) = false; cases yes <;> rfl) (bnd h19 (cT rfl (cF rfl (bnd (s_Pk b 3000 (by decide) (by decide)) (cT rfl (cF rfl (hend _))))))))))))))))))))))
theorem l3_0 (b : Int) (rn : Bool) (raw : List Rw) (hrn : rn = true → raw = []) (hrl : raw.length ≤ 300) (hrT : OkT raw) (tn : Bool) (t : List Rw) (htn : tn = true → t = []) (ht : t.length ≤ 300) (hT : OkT t) (cn : Bool) (cs : List Cl) (hk : ∀ c ∈ cs,c.ok∧c.prog.length ≤ 1000000) (hcl : cs.length ≤ 1000) :
  lp 3 0 0 (S3 1 b rn raw tn t cn cs 0) = some ⟨some 0,⟨[],[]⟩,[]⟩ := by
 obtain ⟨o1,o2,f17,f18,yes,xs,e,es,hx,h15,h17,h18,h16⟩ := s_both tn t htn ht hT cn cs hk hcl b
 have h19 := s_ints o1 o2 xs hx
 have n1 := fun b' => l3_1 b' rn raw tn t htn ht hT cn cs hk hcl
 have n2 := fun b' => l3_1 b' rn raw rn raw hrn hrl hrT cn cs hk hcl
 unfold S3 at n1 n2 ⊢
 rw [lp3_0]
 refine cT rfl (bnd h15 (cT rfl (cT rfl (cT rfl (cT (by show (false || ((List.all (xs.map vRow) rowV && true) && true)) = true; rw [ints_rowB]; rfl) (bnd h17 (cT rfl (bnd h18 (cT rfl (bnd h16 (cT rfl (cT rfl (cT rfl (cF (by show (!(e == e)) = false; rw [beq_self_i]; rfl) (cF (by show (!(yes == yes)) = false; cases yes <;> rfl) (bnd h19 (cT rfl (cF rfl (bnd (s_Pk b 3000 (by decide) (by decide)) (cT rfl (cT rfl (bnd (s_Pk _ 5 (by decide) (by decide)) (cT rfl ?_)))))))))))))))))))))))
 show cond (pick (IntKind.i64.wrap (pick b 3000 + 1)) 5 == 4) _ _ = _
 cases (pick (IntKind.i64.wrap (pick b 3000 + 1)) 5 == 4) with
 | true => exact cT rfl (n2 _)
 | false => exact cF rfl (n1 _)
theorem checks_all {N : Nat} (l : List AV) (h : TypA Try.prog N Try.f3.params.toList l) : ∃ n,evF Try.prog cfg n 3 l = some [.v (.bool true)] := by
 rw [show Try.f3.params.toList = [3,22,3,4,24] by kernel_rfl] at h
 obtain ⟨a0,r,rfl,t0,h⟩ := h
 obtain ⟨a1,r,rfl,t1,h⟩ := h
 obtain ⟨a2,r,rfl,t2,h⟩ := h
 obtain ⟨a3,r,rfl,t3,h⟩ := h
 obtain ⟨a4,r,rfl,t4,h⟩ := h
 obtain rfl : r = [] := h
 obtain ⟨n,rfl,_⟩ := openV3 t0
 obtain ⟨xn,x,rfl,_,_,f1⟩ := openV22 t1
 obtain ⟨b,rfl,_⟩ := openV3 t2
 obtain ⟨wrong,rfl,_⟩ := openV4 t3
 obtain ⟨rn,y,rfl,hrn,_,f4⟩ := openV24 t4
 obtain ⟨ms,rfl⟩ := mvs f1
 obtain ⟨raw,rfl,hraw⟩ := rws f4
 clear t0 t1 t2 t3 t4 f1 f4
 refine evF_of_evL ?_
 refine (ev3 _ _ _ _ _ _ _).trans ?_
 obtain ⟨hv,hh,hms⟩ := s_heavy xn ms 6 (by decide)
 refine bnd hh (cT rfl ?_)
 cases hv with
 | true => exact cT rfl rfl
 | false =>
  have hms' := hms rfl
  refine cF rfl ?_
  by_cases h8 : 8 < raw.length
  ·exact cT (ltI_t (by rw [List.length_map]; omega)) rfl
  ·refine cF (ltI_f (by rw [List.length_map]; omega)) ?_
   obtain ⟨ft,t,hr,q1,q2,q3,q4⟩ := s_rows n
   refine bnd hr (cT rfl ?_)
   have hrn' : rn = true → raw = [] := fun e => by have := hrn e; simpa using this
   rcases s_history ft t (by omega) q2 xn ms (by omega) with ⟨f,cs,h1,h2,h3⟩ | h1
   ·have hg := hist_good cs 0 t h3
    have hk : ∀ c ∈ cs,c.ok∧c.prog.length ≤ 1000000 := fun c hc => ⟨wf_okC (hg c hc).1,by have := (hg c hc).1.p5; omega⟩
    refine bnd h1 (cT rfl (cT rfl (bnd s_awake (cT rfl (cF rfl (cF rfl ?_))))))
    cases wrong with
    | false =>
     exact cF rfl (bnd (l3_0 b rn raw hrn' (by omega) hraw ft t q4 (by omega) q2 f cs hk (by omega)) (cT rfl (cT rfl rfl)))
    | true =>
     have h14 := s_spoil f cs (fun c hc => (hk c hc).1) (by omega) xn ms (by omega)
     have hsl := spCs_len cs ms
     exact cT rfl (bnd h14 (cT rfl (bnd (l3_0 b rn raw hrn' (by omega) hraw ft t q4 (by omega) q2 _ (spCs cs ms) (spCs_ok cs ms hk) (by omega)) (cT rfl (cT rfl rfl)))))
   ·exact bnd h1 (cT rfl (cT rfl (bnd s_awake (cT rfl (cF rfl (cT rfl rfl))))))
end Go.Proofs.Ytnhahcomgeeobaa
