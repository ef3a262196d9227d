/- The search's small parts. -/
import Derived.Test.YtnhahcomgeeobaaFinal
import Derived.Test.YtnhahcomgeeobaaEq5
set_option linter.all false
namespace Go.Proofs.Ytnhahcomgeeobaa
open Go.Ev
set_option maxRecDepth 100000
theorem l_rowsEq (b1 b2 : Bool) (xs ys : List Rw) (hl : xs.length ≤ 1000000) : ∀ (r1 r2 d1 d2 : List Rw),xs = d1 ++ r1 → ys = d2 ++ r2 → d1.length = d2.length → r1.length = r2.length →
  lp 91 0 0 ⟨[(0,.lst b1 4 (xs.map Rw.row)),(1,.lst b2 4 (ys.map Rw.row)),(12,.v (.int .i64 (((List.length (xs.map Rw.row)) : Nat) : Int))),(13,.v (.int .i64 ((d1.length : Nat) : Int)))],[]⟩ = bif lsEq rwEq r1 r2 then some ⟨some 0,⟨[],[]⟩,[]⟩ else some ⟨none,⟨[],[]⟩,[.v (.bool false)]⟩
 | [],[],d1,d2,h1,h2,h3,_ => by
  rw [lp91_0]
  exact cF (ltI_f (by rw [List.length_map,h1,List.append_nil]; omega)) rfl
 | [],b :: r2,d1,d2,h1,h2,h3,h4 => by simp at h4
 | a :: r1,[],d1,d2,h1,h2,h3,h4 => by simp at h4
 | a :: r1,b :: r2,d1,d2,h1,h2,h3,h4 => by
  have hx : d1.length < xs.length := by rw [h1]; simp
  have hy : d1.length < ys.length := by rw [h2,h3]; simp
  have e1 : lget (xs.map Rw.row) (Int.toNat ((d1.length : Nat) : Int)) = a.row := by
   rw [Int.toNat_natCast,lget_map _ _ _ hx]; subst h1; simp
  have e2 : lget (ys.map Rw.row) (Int.toNat ((d1.length : Nat) : Int)) = b.row := by
   rw [Int.toNat_natCast,lget_map _ _ _ hy]; subst h2; simp [h3]
  have hw : IntKind.i64.wrap (((d1.length : Nat) : Int) + 1) = (((d1 ++ [a]).length : Nat) : Int) := by rw [w_i64,List.length_append,List.length_singleton]; omega
  have ih := l_rowsEq b1 b2 xs ys hl r1 r2 (d1 ++ [a]) (d2 ++ [b]) (by rw [h1]; simp) (by rw [h2]; simp) (by simp [h3]) (by simpa using h4)
  rw [lp91_0,e1,e2,hw]
  refine cT (ltI_t (by rw [List.length_map]; omega)) (cT (by rw [leI_t (by omega),ltI_t (by rw [List.length_map]; omega)]; rfl) (cT rfl (cT (by rw [leI_t (by omega),ltI_t (by rw [List.length_map]; omega)]; rfl) (cT rfl ?_))))
  show cond (!(rwEq a b)) _ _ = bif (rwEq a b && lsEq rwEq r1 r2) then _ else _
  cases rwEq a b with
  | true => exact cF rfl ih
  | false => exact cT rfl rfl
theorem s_rowsEq (b1 b2 : Bool) (xs ys : List Rw) (hl : xs.length ≤ 1000000) : ev 91 [.lst b1 4 (xs.map Rw.row),.lst b2 4 (ys.map Rw.row)] = some [.v (.bool (lsEq rwEq xs ys))] := by
 rw [ev91]
 by_cases h : xs.length = ys.length
 ·have hl2 := l_rowsEq b1 b2 xs ys hl xs ys [] [] rfl rfl rfl h
  refine cF (by rw [List.length_map,List.length_map,h,beq_self_i]; rfl) ?_
  cases hc : lsEq rwEq xs ys with
  | true => rw [hc] at hl2; exact bnd hl2 (cT rfl (cT rfl rfl))
  | false => rw [hc] at hl2; exact bnd hl2 (cF rfl (cT rfl rfl))
 ·rw [lsEq_len _ _ h]
  refine cT ?_ rfl
  rw [List.length_map,List.length_map,Bool.not_eq_true',beq_eq_false_iff_ne]
  omega
theorem s_resEq (p q : Bool × Res) (hl : p.2.rows.length ≤ 1000000) : ev 90 [.agg (p.2.cells p.1),.agg (q.2.cells q.1)] = some [.v (.bool (rsEq p.2 q.2))] := by
 have h := s_rowsEq p.1 q.1 p.2.rows q.2.rows hl
 show ev 90 [.agg [.lst p.1 4 (p.2.rows.map Rw.row),.v (.int .i64 p.2.num)],.agg [.lst q.1 4 (q.2.rows.map Rw.row),.v (.int .i64 q.2.num)]] = _
 rw [ev90]
 unfold rsEq
 cases (p.2.num == q.2.num) with
 | true => exact cT rfl (bnd h (cT rfl rfl))
 | false => exact cF rfl rfl
theorem l_qsame (b1 b2 : Bool) (xs ys : List (Bool × Res)) (hl : xs.length ≤ 1000000) (hb : bdR xs) : ∀ (r1 r2 d1 d2 : List (Bool × Res)),xs = d1 ++ r1 → ys = d2 ++ r2 → d1.length = d2.length → r1.length = r2.length →
  lp 89 0 0 ⟨[(1,.lst b2 2 (outB ys)),(2,.clo 90 [] []),(15,.lst b1 2 (outB xs)),(16,.v (.int .i64 (((List.length (outB xs)) : Nat) : Int))),(17,.v (.int .i64 ((d1.length : Nat) : Int)))],[]⟩ = bif lsEq rsEq (r1.map Prod.snd) (r2.map Prod.snd) then some ⟨some 0,⟨[],[]⟩,[]⟩ else some ⟨none,⟨[],[]⟩,[.v (.bool false)]⟩
 | [],[],d1,d2,h1,h2,h3,_ => by
  rw [lp89_0]
  exact cF (ltI_f (by rw [outB_len,h1,List.append_nil]; omega)) rfl
 | [],b :: r2,d1,d2,h1,h2,h3,h4 => by simp at h4
 | a :: r1,[],d1,d2,h1,h2,h3,h4 => by simp at h4
 | p :: r1,q :: r2,d1,d2,h1,h2,h3,h4 => by
  have hx : d1.length < xs.length := by rw [h1]; simp
  have hy : d1.length < ys.length := by rw [h2,h3]; simp
  have e1 := outB_get xs d1 r1 p h1
  have e2 := outB_get ys d2 r2 q h2
  rw [← h3] at e2
  have hw : IntKind.i64.wrap (((d1.length : Nat) : Int) + 1) = (((d1 ++ [p]).length : Nat) : Int) := by rw [w_i64,List.length_append,List.length_singleton]; omega
  have ih := l_qsame b1 b2 xs ys hl hb r1 r2 (d1 ++ [p]) (d2 ++ [q]) (by rw [h1]; simp) (by rw [h2]; simp) (by simp [h3]) (by simpa using h4)
  have i1 : (leI 0 ((d1.length : Nat) : Int) && ltI ((d1.length : Nat) : Int) (((List.length (outB xs)) : Nat) : Int)) = true := by rw [leI_t (by omega),ltI_t (by rw [outB_len]; omega)]; rfl
  have i2 : (leI 0 ((d1.length : Nat) : Int) && ltI ((d1.length : Nat) : Int) (((List.length (outB ys)) : Nat) : Int)) = true := by rw [leI_t (by omega),ltI_t (by rw [outB_len]; omega)]; rfl
  have hre := s_resEq p q (hb p (by rw [h1]; simp))
  have sh : ∀ p : Bool × Res,(isL 4 (cellAt (p.2.cells p.1) 0) && isI .i64 (cellAt (p.2.cells p.1) 1)) = true := fun p => by
   show ((Nat.beq 4 4 || p.1) && true) = true
   simp
  rw [lp89_0,e1,e2,hw]
  refine cT (ltI_t (by rw [outB_len]; omega)) (cT i1 (cT (sh p) (cT i2 (cT (sh q) (bnd hre (cT rfl ?_))))))
  show cond (!(rsEq p.2 q.2)) _ _ = bif (rsEq p.2 q.2) && lsEq rsEq (r1.map Prod.snd) (r2.map Prod.snd) then _ else _
  cases rsEq p.2 q.2 with
  | true => exact cF rfl ih
  | false => exact cT rfl rfl
theorem s_qsame (b1 b2 : Bool) (xs ys : List (Bool × Res)) (hl : xs.length ≤ 1000000) (hb : bdR xs) : ev 73 [.lst b1 2 (outB xs),.lst b2 2 (outB ys)] = some [.v (.bool (lsEq rsEq (xs.map Prod.snd) (ys.map Prod.snd)))] := by
 have h89 : ev 89 [.lst b1 2 (outB xs),.lst b2 2 (outB ys),.clo 90 [] []] = some [.v (.bool (lsEq rsEq (xs.map Prod.snd) (ys.map Prod.snd)))] := by
  rw [ev89]
  by_cases h : xs.length = ys.length
  ·have hl2 := l_qsame b1 b2 xs ys hl hb xs ys [] [] rfl rfl rfl h
   refine cF (by rw [outB_len,outB_len,h,beq_self_i]; rfl) ?_
   cases hc : lsEq rsEq (xs.map Prod.snd) (ys.map Prod.snd) with
   | true => rw [hc] at hl2; exact bnd hl2 (cT rfl (cT rfl rfl))
   | false => rw [hc] at hl2; exact bnd hl2 (cF rfl (cT rfl rfl))
  ·rw [lsEq_len _ _ (by rw [List.length_map,List.length_map]; exact h)]
   refine cT ?_ rfl
   rw [outB_len,outB_len,Bool.not_eq_true',beq_eq_false_iff_ne]
   omega
 rw [ev73]
 exact bnd h89 (cT rfl rfl)
def agr (c : Cl) (o : List Rw × List Res × Nat × Int) : Bool :=
 bif c.fate == 3 then true else bif !(c.code == o.2.2.2) then false else bif !(o.2.2.2 == 0) then c.at_ == ((o.2.2.1 : Nat) : Int) else lsEq rsEq (c.res.map Prod.snd) o.2.1
def Cl.arg (c : Cl) : List AV := [.v (.int .i64 c.inv),.v (.int .i64 c.ret),.lst c.pn 12 (c.prog.map Stm.row),.v (.int .i64 c.fate),.v (.int .i64 c.code),.v (.int .i64 c.at_),.lst c.rn 2 (outB c.res)]
structure Cl.ok (c : Cl) : Prop where
 pok : ∀ s ∈ c.prog,s.ok
 nil : c.sz = 2 ∨ (c.rn = true∧c.res = [])
 rl : c.res.length ≤ 8
 rb : RB (c.res.map Prod.snd)
theorem bdR_rb {xs : List (Bool × Res)} (h : RB (xs.map Prod.snd)) : bdR xs := bdR_of rfl h
theorem s_agrees (c : Cl) (hc : c.ok) (an : Bool) (acc : List (Bool × Res)) (o : List Rw × List Res × Nat × Int) (ha : acc.map Prod.snd = o.2.1) :
  ev 55 [.agg c.arg,.lst an 2 (outB acc),.v (.int .i64 ((o.2.2.1 : Nat) : Int)),.v (.int .i64 o.2.2.2)] = some [.v (.bool (agr c o))] := by
 have hq := s_qsame c.rn an c.res acc (by have := hc.rl; omega) (bdR_rb hc.rb)
 rw [ha] at hq
 unfold Cl.arg
 rw [ev55]
 unfold agr
 cases (c.fate == 3) with
 | true => exact cT rfl rfl
 | false =>
  refine cF rfl ?_
  cases (c.code == o.2.2.2) with
  | false => exact cT rfl rfl
  | true =>
   refine cF rfl ?_
   cases (o.2.2.2 == 0) with
   | false => exact cT rfl rfl
   | true => exact cF rfl (bnd hq (cT rfl rfl))
theorem cl_shape (c : Cl) (hc : c.ok) : (isI .i64 (cellAt c.row 0) && (isI .i64 (cellAt c.row 1) && (isL 12 (cellAt c.row 2) && (isI .i64 (cellAt c.row 3) && (isI .i64 (cellAt c.row 4) && (isI .i64 (cellAt c.row 5) && isL 2 (cellAt c.row 6))))))) = true := by
 show (true && (true && ((Nat.beq 12 12 || c.pn) && (true && (true && (true && (Nat.beq c.sz 2 || c.rn))))))) = true
 rcases hc.nil with h | ⟨h,_⟩
 ·rw [h]; simp
 ·rw [h]; simp
def vCall (c : Cl) : Bool := bif ltI c.fate 1 then false else bif ltI 3 c.fate then false else bif !(okP c.prog) then false else bif ltI c.inv 0 then false else bif c.fate == 3 then c.ret == -1 else ltI c.inv c.ret
theorem s_validCall (c : Cl) (hc : c.ok) : ev 36 [.agg c.arg] = some [.v (.bool (vCall c))] := by
 have hF := s_Format c.prog c.pn hc.pok
 have : ∃ x,ev 46 [.lst c.pn 12 (c.prog.map Stm.row)] = some [.v (.string x),.v (.int .i64 (bif okP c.prog then 0 else 1))] := by
  rw [hF]
  unfold okP fmtR
  cases decide (1 ≤ c.prog.length∧c.prog.length ≤ 8) with
  | false => exact ⟨_,rfl⟩
  | true =>
   cases c.prog.all Stm.valid with
   | false => exact ⟨_,rfl⟩
   | true => exact ⟨_,rfl⟩
 obtain ⟨x,hx⟩ := this
 unfold Cl.arg
 rw [ev36]
 refine bnd hx (cT rfl (cT rfl ?_))
 show cond (ltI c.fate 1) _ (cond (ltI 3 c.fate) _ (cond (!((bif okP c.prog then (0 : Int) else 1) == 0)) _ (cond (ltI c.inv 0) _ (cond (c.fate == 3) (some [AV.v (.bool (c.ret == -1))]) (some [AV.v (.bool (ltI c.inv c.ret))]))))) = _
 unfold vCall
 cases ltI c.fate 1 with
 | true => rfl
 | false =>
  cases ltI 3 c.fate with
  | true => rfl
  | false =>
   cases okP c.prog with
   | false => rfl
   | true =>
    cases ltI c.inv 0 with
    | true => rfl
    | false => cases (c.fate == 3) <;> rfl
theorem s_clo35 (c : Cl) (hc : c.ok) : ev 35 [.agg c.arg] = some [.v (.bool (!(vCall c)))] := by
 have h := s_validCall c hc
 unfold Cl.arg at h ⊢
 rw [ev35]
 exact bnd h (cT rfl rfl)
theorem l_contF (cn : Bool) (cs : List Cl) (hok : ∀ c ∈ cs,c.ok) (hl : cs.length ≤ 1000000) : ∀ (rest done : List Cl),cs = done ++ rest →
  ∃ r : Int,(leI 0 r = !(rest.all vCall))∧lp 52 0 0 ⟨[(0,.lst cn 7 (cs.map Cl.row)),(1,.clo 35 [] []),(7,.v (.int .i64 (((List.length (cs.map Cl.row)) : Nat) : Int))),(8,.v (.int .i64 ((done.length : Nat) : Int)))],[]⟩ = bif leI 0 r then some ⟨none,⟨[],[]⟩,[.v (.int .i64 r)]⟩ else some ⟨some 0,⟨[],[]⟩,[]⟩
 | [],done,h => by
  refine ⟨-1,rfl,?_⟩
  rw [lp52_0]
  exact cF (ltI_f (by rw [List.length_map,h,List.append_nil]; omega)) rfl
 | c :: rest,done,h => by
  have hlt : done.length < cs.length := by rw [h]; simp
  have hrow : lget (cs.map Cl.row) (Int.toNat ((done.length : Nat) : Int)) = c.row := by
   rw [Int.toNat_natCast,lget_map _ _ _ hlt]
   subst h
   simp
  have hco := hok c (by rw [h]; simp)
  have hw : IntKind.i64.wrap (((done.length : Nat) : Int) + 1) = (((done ++ [c]).length : Nat) : Int) := by rw [w_i64,List.length_append,List.length_singleton]; omega
  have hin : (leI 0 ((done.length : Nat) : Int) && ltI ((done.length : Nat) : Int) (((List.length (cs.map Cl.row)) : Nat) : Int)) = true := by rw [leI_t (by omega),ltI_t (by rw [List.length_map]; omega)]; rfl
  obtain ⟨r,hr,ih⟩ := l_contF cn cs hok hl rest (done ++ [c]) (by rw [h]; simp)
  rw [lp52_0,hrow,hw,List.all_cons]
  have h35 := s_clo35 c hco
  cases hv : vCall c with
  | true =>
   rw [hv] at h35
   exact ⟨r,hr,cT (ltI_t (by rw [List.length_map]; omega)) (cT hin (cT (cl_shape c hco) (bnd h35 (cT rfl (cF rfl ih)))))⟩
  | false =>
   rw [hv] at h35
   refine ⟨done.length,by rw [leI_t (by omega)]; rfl,?_⟩
   rw [leI_t (by omega)]
   exact cT (ltI_t (by rw [List.length_map]; omega)) (cT hin (cT (cl_shape c hco) (bnd h35 (cT rfl (cT rfl rfl)))))
theorem s_contF (cn : Bool) (cs : List Cl) (hok : ∀ c ∈ cs,c.ok) (hl : cs.length ≤ 1000000) : ev 34 [.lst cn 7 (cs.map Cl.row),.clo 35 [] []] = some [.v (.bool (!(cs.all vCall)))] := by
 obtain ⟨r,hr,h⟩ := l_contF cn cs hok hl cs [] rfl
 have h52 : ∃ r' : Int,leI 0 r' = leI 0 r∧ev 52 [.lst cn 7 (cs.map Cl.row),.clo 35 [] []] = some [.v (.int .i64 r')] := by
  rw [ev52]
  cases h0 : leI 0 r with
  | true => rw [h0] at h; exact ⟨r,h0,bnd h (cF rfl (cT rfl rfl))⟩
  | false => rw [h0] at h; exact ⟨-1,rfl,bnd h (cT rfl (cT rfl rfl))⟩
 obtain ⟨r',h1,h2⟩ := h52
 rw [ev34]
 refine bnd h2 (cT rfl ?_)
 show some [AV.v (.bool (leI 0 r'))] = _
 rw [h1,hr]
end Go.Proofs.Ytnhahcomgeeobaa
