/- The reference's Apply. -/
import Derived.Test.YtnhahcomgeeobaaRef2
import Derived.Test.YtnhahcomgeeobaaEq3
set_option linter.all false
namespace Go.Proofs.Ytnhahcomgeeobaa
open Go.Ev
def S22 (tn : Bool) (t0 : List Rw) (ln : Bool) (l : List Stm) (x8 : Bool) (ts : List Rw) (x9 : Bool) (acc : List (Bool × Res)) (i : Nat) : St :=
 ⟨[(0,.lst tn 4 (t0.map Rw.row)),(1,.lst ln 12 (l.map Stm.row)),(8,.sl x8 0 0 none),(9,.sl x9 1 0 none),(10,.v (.int .i64 ((i : Nat) : Int)))],[⟨1,61,4,false,ts.map Rw.row⟩,⟨1,111,2,false,outB acc⟩]⟩
theorem fin22 {tn : Bool} {t0 : List Rw} {ln : Bool} {l : List Stm} {x8 : Bool} {ts : List Rw} {acc : List (Bool × Res)} {i : Nat} {r : Res} {n : Bool} {rs xs : List (List AV)} {v w : Int}
  (h1 : rs = ts.map Rw.row) (h2 : xs = r.rows.map Rw.row) (h3 : v = r.num) (h4 : w = ((i + 1 : Nat) : Int)) :
  lp 22 0 0 ⟨[(0,.lst tn 4 (t0.map Rw.row)),(1,.lst ln 12 (l.map Stm.row)),(8,.sl x8 0 0 none),(9,.sl false 1 0 none),(10,.v (.int .i64 w))],[⟨1,61,4,false,rs⟩,⟨1,111,2,false,outB acc ++ [[.lst n 4 xs,.v (.int .i64 v)]]⟩]⟩ =
  lp 22 0 0 (S22 tn t0 ln l x8 ts false (acc ++ [(n,r)]) (i + 1)) := by
 subst h1 h2 h3 h4
 unfold S22
 rw [outB_snoc]; rfl
def E22 (tn : Bool) (t0 : List Rw) (i : Nat) (c : Int) : Option LR := some ⟨none,⟨[],[]⟩,[.lst tn 4 (t0.map Rw.row),.lst true 2 [],.v (.int .i64 ((i : Nat) : Int)),.v (.int .i64 c)]⟩
def rgB (s : Stm) (r : Rw) : Bool := leI s.key r.k && leI r.k s.last
theorem l_rcol (tn : Bool) (t0 : List Rw) (ln : Bool) (l : List Stm) (x8 x9 : Bool) (acc : List (Bool × Res)) (i : Nat) (s : Stm) (ts : List Rw) (hlen : ts.length ≤ 1000) (b3n : Bool) (b3 : Int) (b4 : List (List AV)) : ∀ (rest done fs : List Rw) (f : Bool),ts = done ++ rest → fs.length ≤ done.length →
  ∃ f' : Bool,lp 22 1 0 ⟨[(0,.lst tn 4 (t0.map Rw.row)),(1,.lst ln 12 (l.map Stm.row)),(8,.sl x8 0 0 none),(9,.sl x9 1 0 none),(10,.v (.int .i64 ((i : Nat) : Int))),(11,.ptr 2 0 0),(15,.ptr 3 0 0),(16,.sl f 5 0 none),(17,.v (.int .i64 ((done.length : Nat) : Int)))],[⟨1,61,4,false,ts.map Rw.row⟩,⟨1,111,2,false,outB acc⟩,⟨1,64,12,true,[s.row]⟩,⟨1,111,2,true,[[.sl b3n 4 0 none,.v (.int .i64 b3)]]⟩,⟨1,61,4,false,b4⟩,⟨1,61,4,false,fs.map Rw.row⟩]⟩ =
   some ⟨some 3,⟨[(0,.lst tn 4 (t0.map Rw.row)),(1,.lst ln 12 (l.map Stm.row)),(8,.sl x8 0 0 none),(9,.sl x9 1 0 none),(10,.v (.int .i64 ((i : Nat) : Int))),(11,.ptr 2 0 0),(15,.ptr 3 0 0),(16,.sl f' 5 0 none)],[⟨1,61,4,false,ts.map Rw.row⟩,⟨1,111,2,false,outB acc⟩,⟨1,64,12,true,[s.row]⟩,⟨1,111,2,true,[[.sl b3n 4 0 none,.v (.int .i64 b3)]]⟩,⟨1,61,4,false,b4⟩,⟨1,61,4,false,(fs ++ rest.filter (rgB s)).map Rw.row⟩]⟩,[]⟩
 | [],done,fs,f,h,_ => by
  refine ⟨f,?_⟩
  rw [List.filter_nil,List.append_nil]
  unfold Stm.row
  rw [lp22_1]
  exact cF (ltI_f (by rw [List.length_map,h,List.append_nil,Nat.sub_zero]; omega)) rfl
 | r :: rest,done,fs,f,h,hf => by
  have hlt : done.length < ts.length := by rw [h]; simp
  have hrow : lget (ts.map Rw.row) (0 + Int.toNat ((done.length : Nat) : Int)) = r.row := by
   rw [Nat.zero_add,Int.toNat_natCast,lget_map _ _ _ hlt]
   subst h
   simp
  have hw : IntKind.i64.wrap (((done.length : Nat) : Int) + 1) = (((done ++ [r]).length : Nat) : Int) := by rw [w_i64,List.length_append,List.length_singleton]; omega
  have hlt' : ltI ((done.length : Nat) : Int) ((((List.length (ts.map Rw.row)) - 0) : Nat) : Int) = true := ltI_t (by rw [List.length_map]; omega)
  have hin := ix_in ts hlt
  have hixl := ix_lt ts hlt
  have ih := fun fs f hf => l_rcol tn t0 ln l x8 x9 acc i s ts hlen b3n b3 b4 rest (done ++ [r]) fs f (by rw [h]; simp) hf
  rw [List.filter_cons]
  cases h1 : leI s.key r.k with
  | false =>
   have e : rgB s r = false := by unfold rgB; rw [h1]; rfl
   rw [e,if_neg (by decide)]
   obtain ⟨f',ih'⟩ := ih fs f (by rw [List.length_append]; omega)
   refine ⟨f',?_⟩
   unfold Stm.row at ih' ⊢
   rw [lp22_1,hrow,hw]
   refine cT hlt' (cT hin (cT (by rw [hixl]; rfl) ?_))
   exact cF h1 ih'
  | true =>
   cases h2 : leI r.k s.last with
   | false =>
    have e : rgB s r = false := by unfold rgB; rw [h1,h2]; rfl
    rw [e,if_neg (by decide)]
    obtain ⟨f',ih'⟩ := ih fs f (by rw [List.length_append]; omega)
    refine ⟨f',?_⟩
    unfold Stm.row at ih' ⊢
    rw [lp22_1,hrow,hw]
    refine cT hlt' (cT hin (cT (by rw [hixl]; rfl) ?_))
    exact cT h1 (cT hin (cT (by rw [hixl]; rfl) (cF h2 ih')))
   | true =>
    have e : rgB s r = true := by unfold rgB; rw [h1,h2]; rfl
    rw [e,if_pos rfl]
    obtain ⟨f',ih'⟩ := ih (fs ++ [r]) false (by rw [List.length_append,List.length_append]; simp; exact hf)
    refine ⟨f',?_⟩
    rw [show fs ++ r :: List.filter (rgB s) rest = (fs ++ [r]) ++ List.filter (rgB s) rest by simp]
    rw [List.map_append] at ih'
    unfold Stm.row at ih' ⊢
    rw [lp22_1,hrow,hw]
    refine cT hlt' (cT hin (cT (by rw [hixl]; rfl) ?_))
    exact cT h1 (cT hin (cT (by rw [hixl]; rfl) (cT h2 (cT hin (cT (by rw [hixl]; rfl) (cT (leN_t (by rw [List.length_map]; omega)) ih'))))))
theorem stp_chg {s : Stm} {ts : List Rw} (hk : s.k = 2 ∨ s.k = 3) (hh : hasK ts s.key (pl ts s.key) = true) :
  (stp s ts).2.2 = (chg s (ts.getD (pl ts s.key) rz)).2∧((chg s (ts.getD (pl ts s.key) rz)).2 = 0 → (stp s ts).1 = ts.set (pl ts s.key) (chg s (ts.getD (pl ts s.key) rz)).1)∧(stp s ts).2.1 = r0 := by
 unfold stp
 rw [leI_t (by omega)]
 unfold wrR chg
 have h1 : (s.k == 1) = false := by rcases hk with h | h <;> simp [h]
 have h4 : (s.k == 4) = false := by rcases hk with h | h <;> simp [h]
 rw [h1,hh,h4]
 rcases hk with h | h
 ·have h2 : (s.k == 2) = true := by simp [h]
  rw [h2]
  exact ⟨rfl,fun _ => rfl,rfl⟩
 ·have h2 : (s.k == 2) = false := by simp [h]
  have h3 : (s.k == 3) = true := by simp [h]
  rw [h2,h3]
  unfold sumB
  cases decide (-9223372036854775808 ≤ (ts.getD (pl ts s.key) rz).col s.col.toNat + s.v∧(ts.getD (pl ts s.key) rz).col s.col.toNat + s.v ≤ 9223372036854775807) with
  | true => exact ⟨rfl,fun _ => rfl,rfl⟩
  | false => exact ⟨rfl,fun h => absurd (show (2 : Int) = 0 from h) (by decide),rfl⟩
theorem l22_step (tn : Bool) (t0 : List Rw) (ln : Bool) (l : List Stm) (x8 : Bool) (ts : List Rw) (x9 : Bool) (acc : List (Bool × Res)) (i : Nat) (s : Stm) (hi : i < l.length) (hs : l[i]? = some s) (hl : l.length ≤ 8) (hacc : acc.length ≤ 100)
  (hv : s.V) (hok : s.ok) (ht : tval 0 ts = true) (hT : OkT ts) (hlen : ts.length ≤ 1000) :
  ∃ x8' nb : Bool,lp 22 0 0 (S22 tn t0 ln l x8 ts x9 acc i) = bif (stp s ts).2.2 == 0 then lp 22 0 0 (S22 tn t0 ln l x8' (stp s ts).1 false (acc ++ [(nb,(stp s ts).2.1)]) (i + 1)) else E22 tn t0 i (stp s ts).2.2 := by
 have hrow : lget (l.map Stm.row) (Int.toNat ((i : Nat) : Int)) = s.row := by
  rw [Int.toNat_natCast,lget_map _ _ _ hi]
  rw [List.getElem?_eq_getElem hi] at hs
  rw [Option.some.inj hs]
 have hw : IntKind.i64.wrap (((i : Nat) : Int) + 1) = ((i + 1 : Nat) : Int) := by rw [w_i64]; omega
 have hleN : leN (((List.length (outB acc)) + 1) * 32) 140737488355328 = true := leN_t (by rw [outB_len]; omega)
 have h1 : ltI ((i : Nat) : Int) (((List.length (l.map Stm.row)) : Nat) : Int) = true := ltI_t (by rw [List.length_map]; omega)
 have h2 : (leI 0 ((i : Nat) : Int) && ltI ((i : Nat) : Int) (((List.length (l.map Stm.row)) : Nat) : Int)) = true := by rw [leI_t (by omega),h1]; rfl
 have hf := s_rfind x8 ts s.key (by omega)
 obtain ⟨p,hp⟩ : ∃ p,pl ts s.key = p := ⟨_,rfl⟩
 have hple : p ≤ ts.length := by rw [← hp]; exact pl_le _ _
 rw [hp] at hf
 have hpin : (leI 0 (p : Int) && leI (p : Int) ((((List.length (ts.map Rw.row)) - 0) : Nat) : Int)) = true := by rw [leI_t (by omega),leI_t (by rw [List.length_map]; omega)]; rfl
 have hk9 := hv.1
 have hN1 : leN ((0 + List.length (List.take (Int.toNat (p : Int)) (ts.map Rw.row))) * 32) 140737488355328 = true := leN_t (by rw [List.length_take,List.length_map]; omega)
 by_cases k1 : s.k = 1
 ·have hk1 : (s.k == 1) = true := by simp [k1]
  cases hh : hasK ts s.key p with
  | true =>
   rw [hh] at hf
   have e : (stp s ts).2.2 = 17 := by unfold stp wrR; rw [leI_t (by omega),hk1,hp,hh]; rfl
   rw [e]
   refine ⟨true,true,?_⟩
   unfold S22
   rw [lp22_0,hrow]
   exact cT h1 (cT h2 (cT rfl (bnd hf (cT rfl (cT rfl (cT hk1 (cT rfl rfl)))))))
  | false =>
   rw [hh] at hf
   have e : stp s ts = (insT ts p ⟨s.key,s.c0,s.c1,s.c2⟩,r0,0) := by unfold stp wrR; rw [leI_t (by omega),hk1,hp,hh]; rfl
   rw [e]
   apply Exists.intro; apply Exists.intro true
   unfold S22
   rw [lp22_0,hrow]
   refine cT h1 (cT h2 (cT rfl (bnd hf (cT rfl (cT rfl (cT hk1 (cF rfl (cT hpin (cT hN1 (cT ?_ (cT hpin (cT ?_ (cT hleN (fin22 ?_ rfl rfl hw))))))))))))))
   ·show leN ((List.length (List.take (Int.toNat (p : Int)) (ts.map Rw.row)) + 1) * 32) 140737488355328 = true
    exact leN_t (by rw [List.length_take,List.length_map]; omega)
   ·show leN ((List.length (List.take (Int.toNat (p : Int)) (ts.map Rw.row) ++ [Rw.row ⟨s.key,s.c0,s.c1,s.c2⟩]) + List.length (List.drop (0 + Int.toNat (p : Int)) (ts.map Rw.row))) * 32) 140737488355328 = true
    exact leN_t (by rw [List.length_append,List.length_take,List.length_drop,List.length_map,List.length_singleton]; omega)
   ·show (([] ++ List.take (Int.toNat (p : Int)) (ts.map Rw.row)) ++ [Rw.row ⟨s.key,s.c0,s.c1,s.c2⟩]) ++ List.drop (0 + Int.toNat (p : Int)) (ts.map Rw.row) = (insT ts p ⟨s.key,s.c0,s.c1,s.c2⟩).map Rw.row
    unfold insT
    rw [Nat.zero_add,Int.toNat_natCast,List.nil_append,List.map_append,List.map_cons,List.map_take,List.map_drop,List.append_assoc,List.singleton_append]
 have hk1 : (s.k == 1) = false := by simp [k1]
 by_cases k2349 : s.k = 2 ∨ s.k = 3 ∨ s.k = 4 ∨ s.k = 9
 ·cases hh : hasK ts s.key p with
  | false =>
   rw [hh] at hf
   have e : (stp s ts).2.2 = 16 := by
    by_cases k9 : s.k = 9
    ·unfold stp rdR; rw [leI_f (by omega),hp,hh,k9]; rfl
    ·unfold stp wrR; rw [leI_t (by omega),hk1,hp,hh]; rfl
   rw [e]
   refine ⟨true,true,?_⟩
   unfold S22
   rw [lp22_0,hrow]
   refine cT h1 (cT h2 (cT rfl (bnd hf (cT rfl (cT rfl (cF hk1 ?_))))))
   rcases k2349 with k | k | k | k
   ·exact cT (by show (s.k == 2) = true; simp [k]) (cT rfl rfl)
   ·exact cF (by show (s.k == 2) = false; simp [k]) (cT (by show (s.k == 3) = true; simp [k]) (cT rfl rfl))
   ·exact cF (by show (s.k == 2) = false; simp [k]) (cF (by show (s.k == 3) = false; simp [k]) (cT (by show (s.k == 4) = true; simp [k]) (cT rfl rfl)))
   ·exact cF (by show (s.k == 2) = false; simp [k]) (cF (by show (s.k == 3) = false; simp [k]) (cF (by show (s.k == 4) = false; simp [k]) (cT (by show (s.k == 9) = true; simp [k]) (cT rfl rfl))))
  | true =>
   rw [hh] at hf
   have hlt := hasK_lt hh
   have hidx : (ltN (0 + Int.toNat (p : Int)) (List.length (ts.map Rw.row)) && (isI .u32 (cellAt (lget (ts.map Rw.row) (0 + Int.toNat (p : Int))) 0) && (isI .i64 (cellAt (lget (ts.map Rw.row) (0 + Int.toNat (p : Int))) 1) && (isI .i64 (cellAt (lget (ts.map Rw.row) (0 + Int.toNat (p : Int))) 2) && isI .i64 (cellAt (lget (ts.map Rw.row) (0 + Int.toNat (p : Int))) 3))))) = true := by
    rw [ix_lt ts hlt,lget_At ts hlt]; rfl
   have hrowok := hT _ (mem_getD ts rz p hlt)
   by_cases k23 : s.k = 2 ∨ s.k = 3
   ·have hcol : 0 ≤ s.col∧s.col < 3 := by have := hv.2.2.2.2.1; omega
    have hvv : -9223372036854775808 ≤ s.v∧s.v ≤ 9223372036854775807 := by obtain ⟨_,_,_,_,_,_,_,h,_⟩ := hok; exact h
    have hch := s_Change s hcol hvv _ hrowok
    obtain ⟨e1,e2,e3⟩ := stp_chg (s := s) (ts := ts) k23 (by rw [hp]; exact hh)
    rw [hp] at e1 e2
    rw [e1,e3]
    have hch' : ev 42 [.agg s.row,.agg [.v (.int .u32 (avInt (cellAt (lget (ts.map Rw.row) (0 + Int.toNat (p : Int))) 0))),.v (.int .i64 (avInt (cellAt (lget (ts.map Rw.row) (0 + Int.toNat (p : Int))) 1))),.v (.int .i64 (avInt (cellAt (lget (ts.map Rw.row) (0 + Int.toNat (p : Int))) 2))),.v (.int .i64 (avInt (cellAt (lget (ts.map Rw.row) (0 + Int.toNat (p : Int))) 3)))]] = some [.agg (chg s (ts.getD p rz)).1.row,.v (.int .i64 (chg s (ts.getD p rz)).2)] := by
     rw [lget_At ts hlt]; exact hch
    have hN : leN ((0 + List.length (ts.map Rw.row)) * 32) 140737488355328 = true := leN_t (by rw [List.length_map]; omega)
    have h4 : (s.k == 4) = false := by rcases k23 with h | h <;> simp [h]
    have h9 : (s.k == 9) = false := by rcases k23 with h | h <;> simp [h]
    cases hc : ((chg s (ts.getD p rz)).2 == 0) with
    | false =>
     refine ⟨true,true,?_⟩
     unfold S22
     rw [lp22_0,hrow]
     refine cT h1 (cT h2 (cT rfl (bnd hf (cT rfl (cT rfl (cF hk1 ?_))))))
     have hcn : (!((chg s (ts.getD p rz)).2 == 0)) = true := by rw [hc]; rfl
     rcases k23 with k | k
     ·exact cT (by show (s.k == 2) = true; simp [k]) (cF rfl (cF h4 (cF h9 (cT hN (cT (ix_in ts hlt) (cT hidx (bnd hch' (cT rfl (cT rfl (cT (ix_in ts hlt) (cT (ix_lt ts hlt) (cT hcn rfl))))))))))))
     ·exact cF (by show (s.k == 2) = false; simp [k]) (cT (by show (s.k == 3) = true; simp [k]) (cF rfl (cF h4 (cF h9 (cT hN (cT (ix_in ts hlt) (cT hidx (bnd hch' (cT rfl (cT rfl (cT (ix_in ts hlt) (cT (ix_lt ts hlt) (cT hcn rfl)))))))))))))
    | true =>
     have e2' := e2 (by simpa using hc)
     rw [e2']
     apply Exists.intro; apply Exists.intro true
     unfold S22
     rw [lp22_0,hrow]
     refine cT h1 (cT h2 (cT rfl (bnd hf (cT rfl (cT rfl (cF hk1 ?_))))))
     have hcn : (!((chg s (ts.getD p rz)).2 == 0)) = false := by rw [hc]; rfl
     have hset : List.set (ts.map Rw.row) (0 + Int.toNat (p : Int)) (chg s (ts.getD p rz)).1.row = (ts.set p (chg s (ts.getD p rz)).1).map Rw.row := by rw [Nat.zero_add,Int.toNat_natCast,set_map]
     rcases k23 with k | k
     ·exact cT (by show (s.k == 2) = true; simp [k]) (cF rfl (cF h4 (cF h9 (cT hN (cT (ix_in ts hlt) (cT hidx (bnd hch' (cT rfl (cT rfl (cT (ix_in ts hlt) (cT (ix_lt ts hlt) (cF hcn (cT hleN (fin22 hset rfl rfl hw))))))))))))))
     ·exact cF (by show (s.k == 2) = false; simp [k]) (cT (by show (s.k == 3) = true; simp [k]) (cF rfl (cF h4 (cF h9 (cT hN (cT (ix_in ts hlt) (cT hidx (bnd hch' (cT rfl (cT rfl (cT (ix_in ts hlt) (cT (ix_lt ts hlt) (cF hcn (cT hleN (fin22 hset rfl rfl hw)))))))))))))))
   have g2 : (s.k == 2) = false := by simp; omega
   have g3 : (s.k == 3) = false := by simp; omega
   by_cases k4 : s.k = 4
   ·have hk4 : (s.k == 4) = true := by simp [k4]
    have e : stp s ts = (delT ts p,r0,0) := by unfold stp wrR; rw [leI_t (by omega),hk1,hp,hh,hk4]; rfl
    rw [e]
    apply Exists.intro; apply Exists.intro true
    have hwp : IntKind.i64.wrap ((p : Int) + 1) = ((p + 1 : Nat) : Int) := by rw [w_i64]; omega
    unfold S22
    rw [lp22_0,hrow]
    refine cT h1 (cT h2 (cT rfl (bnd hf (cT rfl (cT rfl (cF hk1 (cF g2 (cF g3 (cT hk4 (cF rfl (cT hk4 (cT hpin (cT hN1 (cT ?_ (cT ?_ (cT hleN (fin22 ?_ rfl rfl hw)))))))))))))))))
    ·show (leI 0 (IntKind.i64.wrap ((p : Int) + 1)) && leI (IntKind.i64.wrap ((p : Int) + 1)) ((((List.length (ts.map Rw.row)) - 0) : Nat) : Int)) = true
     rw [hwp,leI_t (by omega),leI_t (by rw [List.length_map]; omega)]; rfl
    ·show leN ((List.length (List.take (Int.toNat (p : Int)) (ts.map Rw.row)) + List.length (List.drop (0 + Int.toNat (IntKind.i64.wrap ((p : Int) + 1))) (ts.map Rw.row))) * 32) 140737488355328 = true
     exact leN_t (by rw [List.length_take,List.length_drop,List.length_map]; omega)
    ·show ([] ++ List.take (Int.toNat (p : Int)) (ts.map Rw.row)) ++ List.drop (0 + Int.toNat (IntKind.i64.wrap ((p : Int) + 1))) (ts.map Rw.row) = (delT ts p).map Rw.row
     unfold delT
     rw [hwp,Nat.zero_add,Int.toNat_natCast,Int.toNat_natCast,List.nil_append,List.map_append,List.map_take,List.map_drop]
   ·have k9 : s.k = 9 := by omega
    have g4 : (s.k == 4) = false := by simp [k9]
    have hk9 : (s.k == 9) = true := by simp [k9]
    have hhold : ev 41 [.agg [.v (.int .i64 s.wc),.v (.int .i64 s.wo),.v (.int .i64 s.wv)],.agg [.v (.int .u32 (avInt (cellAt (lget (ts.map Rw.row) (0 + Int.toNat (p : Int))) 0))),.v (.int .i64 (avInt (cellAt (lget (ts.map Rw.row) (0 + Int.toNat (p : Int))) 1))),.v (.int .i64 (avInt (cellAt (lget (ts.map Rw.row) (0 + Int.toNat (p : Int))) 2))),.v (.int .i64 (avInt (cellAt (lget (ts.map Rw.row) (0 + Int.toNat (p : Int))) 3)))]] = some [.v (.bool (holdB s.wc s.wo s.wv (ts.getD p rz).a (ts.getD p rz).b (ts.getD p rz).c))] := by
     rw [lget_At ts hlt]
     exact s_RHolds s.wc s.wo s.wv _ _ _ _
    cases hd : holdB s.wc s.wo s.wv (ts.getD p rz).a (ts.getD p rz).b (ts.getD p rz).c with
    | true =>
     rw [hd] at hhold
     have e : stp s ts = (ts,r0,0) := by unfold stp rdR; rw [leI_f (by omega),hp,hh,hd,k9]; rfl
     rw [e]
     apply Exists.intro; apply Exists.intro true
     unfold S22
     rw [lp22_0,hrow]
     exact cT h1 (cT h2 (cT rfl (bnd hf (cT rfl (cT rfl (cF hk1 (cF g2 (cF g3 (cF g4 (cT hk9 (cF rfl (cF g4 (cT hk9 (cT (ix_in ts hlt) (cT hidx (bnd hhold (cT rfl (cF rfl (cT hleN (fin22 rfl rfl rfl hw))))))))))))))))))))
    | false =>
     rw [hd] at hhold
     have e : (stp s ts).2.2 = 20 := by unfold stp rdR; rw [leI_f (by omega),hp,hh,hd,k9]; rfl
     rw [e]
     refine ⟨true,true,?_⟩
     unfold S22
     rw [lp22_0,hrow]
     exact cT h1 (cT h2 (cT rfl (bnd hf (cT rfl (cT rfl (cF hk1 (cF g2 (cF g3 (cF g4 (cT hk9 (cF rfl (cF g4 (cT hk9 (cT (ix_in ts hlt) (cT hidx (bnd hhold (cT rfl (cT rfl rfl))))))))))))))))))
 have g2 : (s.k == 2) = false := by simp; omega
 have g3 : (s.k == 3) = false := by simp; omega
 have g4 : (s.k == 4) = false := by simp; omega
 have g9 : (s.k == 9) = false := by simp; omega
 by_cases k5 : s.k = 5
 ·have hk5 : (s.k == 5) = true := by simp [k5]
  cases hh : hasK ts s.key p with
  | true =>
   rw [hh] at hf
   have hlt := hasK_lt hh
   have e : stp s ts = (ts,⟨[ts.getD p rz],0⟩,0) := by unfold stp rdR; rw [leI_f (by omega),hp,hh,k5]; rfl
   rw [e]
   apply Exists.intro; apply Exists.intro
   unfold S22
   rw [lp22_0,hrow]
   refine cT h1 (cT h2 (cT rfl (bnd hf (cT rfl (cT rfl (cF hk1 (cF g2 (cF g3 (cF g4 (cF g9 (cT hk5 (cT rfl (cT (ix_in ts hlt) (cT ?_ (cT hleN (fin22 rfl ?_ rfl hw))))))))))))))))
   ·show (ltN (0 + Int.toNat (p : Int)) (List.length (ts.map Rw.row)) && (isI .u32 (cellAt (lget (ts.map Rw.row) (0 + Int.toNat (p : Int))) 0) && (isI .i64 (cellAt (lget (ts.map Rw.row) (0 + Int.toNat (p : Int))) 1) && (isI .i64 (cellAt (lget (ts.map Rw.row) (0 + Int.toNat (p : Int))) 2) && isI .i64 (cellAt (lget (ts.map Rw.row) (0 + Int.toNat (p : Int))) 3))))) = true
    rw [ix_lt ts hlt,lget_At ts hlt]; rfl
   ·show [[AV.v (.int .u32 (avInt (cellAt (lget (ts.map Rw.row) (0 + Int.toNat (p : Int))) 0))),AV.v (.int .i64 (avInt (cellAt (lget (ts.map Rw.row) (0 + Int.toNat (p : Int))) 1))),AV.v (.int .i64 (avInt (cellAt (lget (ts.map Rw.row) (0 + Int.toNat (p : Int))) 2))),AV.v (.int .i64 (avInt (cellAt (lget (ts.map Rw.row) (0 + Int.toNat (p : Int))) 3)))]] = _
    rw [lget_At ts hlt]; rfl
  | false =>
   rw [hh] at hf
   have e : stp s ts = (ts,r0,0) := by unfold stp rdR; rw [leI_f (by omega),hp,hh,k5]; rfl
   rw [e]
   apply Exists.intro; apply Exists.intro true
   unfold S22
   rw [lp22_0,hrow]
   exact cT h1 (cT h2 (cT rfl (bnd hf (cT rfl (cT rfl (cF hk1 (cF g2 (cF g3 (cF g4 (cF g9 (cT hk5 (cF rfl (cT hleN (fin22 rfl rfl rfl hw))))))))))))))
 ·have hk5 : (s.k == 5) = false := by simp [k5]
  have es : stp s ts = (ts,rdR s ts) := by unfold stp; rw [leI_f (by omega)]; rfl
  rw [es]
  obtain ⟨f',hcol⟩ := l_rcol tn t0 ln l x8 x9 acc i s ts hlen true 0 [] ts [] [] true rfl (Nat.le_refl _)
  rw [List.nil_append] at hcol
  obtain ⟨nb,hr⟩ := s_Range s hv (by omega) f' ts (ts.filter (rgB s)) rfl hT hlen
  cases hc : ((rdR s ts).2 == 0) with
  | false =>
   refine ⟨true,true,?_⟩
   unfold S22
   rw [lp22_0,hrow]
   exact cT h1 (cT h2 (cT rfl (bnd hf (cT rfl (cT rfl (cF hk1 (cF g2 (cF g3 (cF g4 (cF g9 (cF hk5 (bnd hcol (cT rfl (cT rfl (bnd hr (cT rfl (cT rfl (cT (by show (!((rdR s ts).2 == 0)) = true; rw [hc]; rfl) rfl))))))))))))))))))
  | true =>
   apply Exists.intro; apply Exists.intro nb
   unfold S22
   rw [lp22_0,hrow]
   exact cT h1 (cT h2 (cT rfl (bnd hf (cT rfl (cT rfl (cF hk1 (cF g2 (cF g3 (cF g4 (cF g9 (cF hk5 (bnd hcol (cT rfl (cT rfl (bnd hr (cT rfl (cT rfl (cF (by show (!((rdR s ts).2 == 0)) = false; rw [hc]; rfl) (cT hleN (fin22 rfl rfl rfl hw))))))))))))))))))))
theorem l22 (tn : Bool) (t0 : List Rw) (ln : Bool) (l : List Stm) (hl : l.length ≤ 8) (hv : ∀ s ∈ l,s.V∧s.ok) : ∀ (rest done : List Stm) (x8 : Bool) (ts : List Rw) (x9 : Bool) (acc : List (Bool × Res)),l = done ++ rest → tval 0 ts = true → OkT ts → ts.length ≤ 900 + done.length → acc.length ≤ done.length →
  ∃ (a4 a5 : Bool) (accF : List (Bool × Res)),accF.map Prod.snd = (appR t0 rest ts done.length (acc.map Prod.snd)).2.1 ∧
   lp 22 0 0 (S22 tn t0 ln l x8 ts x9 acc done.length) = bif (appR t0 rest ts done.length (acc.map Prod.snd)).2.2.2 == 0 then
    some ⟨some 0,⟨[(8,.sl a4 0 0 none),(9,.sl a5 1 0 none)],[⟨1,61,4,false,(appR t0 rest ts done.length (acc.map Prod.snd)).1.map Rw.row⟩,⟨1,111,2,false,outB accF⟩]⟩,[]⟩ else
    some ⟨none,⟨[],[]⟩,[.lst a4 4 ((appR t0 rest ts done.length (acc.map Prod.snd)).1.map Rw.row),.lst a5 2 (outB accF),.v (.int .i64 (((appR t0 rest ts done.length (acc.map Prod.snd)).2.2.1 : Nat) : Int)),.v (.int .i64 (appR t0 rest ts done.length (acc.map Prod.snd)).2.2.2)]⟩
 | [],done,x8,ts,x9,acc,h,_,_,_,_ => by
  refine ⟨x8,x9,acc,rfl,?_⟩
  unfold S22
  rw [lp22_0]
  exact cF (ltI_f (by rw [List.length_map,h,List.append_nil]; omega)) rfl
 | s :: rest,done,x8,ts,x9,acc,h,ht,hT,hlen,hacc => by
  have hi : done.length < l.length := by rw [h]; simp
  obtain ⟨hsv,hsok⟩ := hv s (by rw [h]; simp)
  obtain ⟨x8',nb,h2⟩ := l22_step tn t0 ln l x8 ts x9 acc done.length s hi (by rw [h]; simp) hl (by omega) hsv hsok ht hT (by omega)
  obtain ⟨k1,k2,k3⟩ := w_mem hsv hsok ht hT
  rw [h2]
  unfold appR
  cases hc : ((stp s ts).2.2 == 0) with
  | true =>
   have ih := l22 tn t0 ln l hl hv rest (done ++ [s]) x8' (stp s ts).1 false (acc ++ [(nb,(stp s ts).2.1)]) (by rw [h]; simp) k1 k2 (by rw [List.length_append,List.length_singleton]; omega) (by simp; exact hacc)
   rw [List.length_append,List.length_singleton,List.map_append] at ih
   exact ih
  | false =>
   refine ⟨tn,true,[],rfl,?_⟩
   show E22 tn t0 done.length (stp s ts).2.2 = bif ((stp s ts).2.2 == 0) then _ else _
   rw [hc]; rfl
theorem s_RApply (tn : Bool) (t : List Rw) (ht : t.length ≤ 900) (hT : OkT t) (ln : Bool) (l : List Stm) (hlen : l.length ≤ 1000000) (hok : ∀ s ∈ l,s.ok) :
  ∃ (a4 a5 : Bool) (accF : List (Bool × Res)),accF.map Prod.snd = (applyM t l).2.1 ∧
   ev 22 [.lst tn 4 (t.map Rw.row),.lst ln 12 (l.map Stm.row)] = some [.lst a4 4 ((applyM t l).1.map Rw.row),.lst a5 2 (outB accF),.v (.int .i64 (((applyM t l).2.2.1 : Nat) : Int)),.v (.int .i64 (applyM t l).2.2.2)] := by
 have hval := s_rval tn t (by omega)
 have hprog := s_rprog ln l hlen
 unfold applyM
 cases hv : tval 0 t with
 | false =>
  rw [hv] at hval
  rw [Bool.and_false]
  refine ⟨tn,true,[],rfl,?_⟩
  rw [ev22]
  exact bnd hval (cT rfl (cT rfl rfl))
 | true =>
  rw [hv] at hval
  cases hp : okP l with
  | false =>
   rw [hp] at hprog
   refine ⟨tn,true,[],rfl,?_⟩
   rw [ev22]
   exact bnd hval (cT rfl (cF rfl (bnd hprog (cT rfl (cT rfl rfl)))))
  | true =>
   rw [hp] at hprog
   obtain ⟨hl8,hV⟩ := okP_V hp
   obtain ⟨a4,a5,accF,h2,h3⟩ := l22 tn t ln l hl8 (fun s hs => ⟨hV s hs,hok s hs⟩) l [] (List.isEmpty (t.map Rw.row) && false) t true [] rfl hv hT (by simp; omega) (Nat.le_refl _)
   have h3' : lp 22 0 0 (S22 tn t ln l (List.isEmpty (t.map Rw.row) && false) t true [] 0) = bif (appR t l t 0 []).2.2.2 == 0 then
    some ⟨some 0,⟨[(8,.sl a4 0 0 none),(9,.sl a5 1 0 none)],[⟨1,61,4,false,(appR t l t 0 []).1.map Rw.row⟩,⟨1,111,2,false,outB accF⟩]⟩,[]⟩ else
    some ⟨none,⟨[],[]⟩,[.lst a4 4 ((appR t l t 0 []).1.map Rw.row),.lst a5 2 (outB accF),.v (.int .i64 (((appR t l t 0 []).2.2.1 : Nat) : Int)),.v (.int .i64 (appR t l t 0 []).2.2.2)]⟩ := h3
   refine ⟨a4,a5,accF,h2,?_⟩
   rw [ev22]
   show _ = some [AV.lst a4 4 ((appR t l t 0 []).1.map Rw.row),AV.lst a5 2 (outB accF),AV.v (.int .i64 (((appR t l t 0 []).2.2.1 : Nat) : Int)),AV.v (.int .i64 (appR t l t 0 []).2.2.2)]
   have hN : leN ((0 + List.length (t.map Rw.row)) * 32) 140737488355328 = true := leN_t (by rw [List.length_map]; omega)
   cases hc : ((appR t l t 0 []).2.2.2 == 0) with
   | true =>
    rw [hc] at h3'
    obtain ⟨e1,e2⟩ := appR_at t l t 0 [] (by simpa using hc)
    rw [e1]
    rw [show (appR t l t 0 []).2.2.2 = 0 by simpa using hc]
    exact bnd hval (cT rfl (cF rfl (bnd hprog (cT rfl (cF rfl (cT hN (bnd h3' (cT rfl (cT rfl rfl)))))))))
   | false =>
    rw [hc] at h3'
    exact bnd hval (cT rfl (cF rfl (bnd hprog (cT rfl (cF rfl (cT hN (bnd h3' (cF rfl (cT rfl rfl)))))))))
end Go.Proofs.Ytnhahcomgeeobaa
