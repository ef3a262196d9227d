/- The law's helpers: tables,programs,results. -/
import Derived.Test.YtnhahcomgeeobaaRef3
set_option linter.all false
namespace Go.Proofs.Ytnhahcomgeeobaa
open Go.Ev
theorem l_table (b : Bool) (ts : List Rw) (hlen : ts.length ≤ 1000000) : ∀ (rest done : List Rw) (f : Bool),ts = done ++ rest →
  ∃ f' : Bool,lp 17 0 0 ⟨[(0,.lst b 4 (ts.map Rw.row)),(3,.sl f 0 0 none),(4,.v (.int .i64 ((done.length : Nat) : Int)))],[⟨1,61,4,false,done.map Rw.row⟩]⟩ = some ⟨some 0,⟨[(3,.sl f' 0 0 none)],[⟨1,61,4,false,ts.map Rw.row⟩]⟩,[]⟩
 | [],done,f,h => by
  refine ⟨f,?_⟩
  rw [lp17_0]
  exact cF (ltI_f (by rw [List.length_map,h,List.append_nil]; omega)) (by rw [h,List.append_nil])
 | r :: rest,done,f,h => by
  have hlt : done.length < ts.length := by rw [h]; simp
  have hrow : lget (ts.map Rw.row) (Int.toNat ((done.length : Nat) : Int)) = r.row := by
   rw [Int.toNat_natCast,lget_map _ _ _ hlt]
   subst h
   simp
  have hw : IntKind.i64.wrap (((done.length : Nat) : Int) + 1) = (((done ++ [r]).length : Nat) : Int) := by rw [w_i64,List.length_append,List.length_singleton]; omega
  have hin : (leI 0 ((done.length : Nat) : Int) && ltI ((done.length : Nat) : Int) (((List.length (ts.map Rw.row)) : Nat) : Int)) = true := by rw [leI_t (by omega),ltI_t (by rw [List.length_map]; omega)]; rfl
  obtain ⟨f',ih⟩ := l_table b ts hlen rest (done ++ [r]) false (by rw [h]; simp)
  refine ⟨f',?_⟩
  rw [List.map_append] at ih
  rw [lp17_0,hrow,hw]
  exact cT (ltI_t (by rw [List.length_map]; omega)) (cT hin (cT rfl (cT hin (cT rfl (cT (leN_t (by rw [List.length_map]; omega)) ih)))))
theorem s_table (b : Bool) (ts : List Rw) (hlen : ts.length ≤ 1000000) : ∃ f : Bool,ev 17 [.lst b 4 (ts.map Rw.row)] = some [.lst f 4 (ts.map Rw.row)] := by
 obtain ⟨f',h⟩ := l_table b ts hlen ts [] true rfl
 refine ⟨f',?_⟩
 rw [ev17]
 exact bnd h (cT rfl (cT rfl rfl))
theorem l_own (b : Bool) (l : List Stm) (hlen : l.length ≤ 1000000) : ∀ (rest done : List Stm) (f : Bool),l = done ++ rest →
  ∃ f' : Bool,lp 26 0 0 ⟨[(0,.lst b 12 (l.map Stm.row)),(3,.sl f 0 0 none),(4,.v (.int .i64 ((done.length : Nat) : Int)))],[⟨1,64,12,false,done.map Stm.row⟩]⟩ = some ⟨some 0,⟨[(3,.sl f' 0 0 none)],[⟨1,64,12,false,l.map Stm.row⟩]⟩,[]⟩
 | [],done,f,h => by
  refine ⟨f,?_⟩
  rw [lp26_0]
  exact cF (ltI_f (by rw [List.length_map,h,List.append_nil]; omega)) (by rw [h,List.append_nil])
 | r :: rest,done,f,h => by
  have hlt : done.length < l.length := by rw [h]; simp
  have hrow : lget (l.map Stm.row) (Int.toNat ((done.length : Nat) : Int)) = r.row := by
   rw [Int.toNat_natCast,lget_map _ _ _ hlt]
   subst h
   simp
  have hw : IntKind.i64.wrap (((done.length : Nat) : Int) + 1) = (((done ++ [r]).length : Nat) : Int) := by rw [w_i64,List.length_append,List.length_singleton]; omega
  have hin : (leI 0 ((done.length : Nat) : Int) && ltI ((done.length : Nat) : Int) (((List.length (l.map Stm.row)) : Nat) : Int)) = true := by rw [leI_t (by omega),ltI_t (by rw [List.length_map]; omega)]; rfl
  obtain ⟨f',ih⟩ := l_own b l hlen rest (done ++ [r]) false (by rw [h]; simp)
  refine ⟨f',?_⟩
  rw [List.map_append] at ih
  rw [lp26_0,hrow,hw]
  exact cT (ltI_t (by rw [List.length_map]; omega)) (cT hin (cT rfl (cT (leN_t (by rw [List.length_map]; omega)) ih)))
theorem s_own (b : Bool) (l : List Stm) (hlen : l.length ≤ 1000000) : ∃ f : Bool,ev 26 [.lst b 12 (l.map Stm.row)] = some [.lst f 12 (l.map Stm.row)] := by
 obtain ⟨f',h⟩ := l_own b l hlen l [] true rfl
 refine ⟨f',?_⟩
 rw [ev26]
 exact bnd h (cT rfl (cT rfl rfl))
theorem tval_snoc : ∀ (ts : List Rw) (last : Int) (x : Rw),tval last ts = true → (∀ r ∈ ts,r.k < x.k) → last < x.k → x.k ≤ 4294967294 → tval last (ts ++ [x]) = true
 | [],last,x,_,_,h1,h2 => by
  show tval last [x] = true
  unfold tval
  rw [leI_f h1,ltI_f h2]; rfl
 | r :: rs,last,x,h,h0,h1,h2 => by
  show tval last (r :: (rs ++ [x])) = true
  unfold tval at h ⊢
  cases h3 : leI r.k last with
  | true => rw [h3] at h; cases h
  | false =>
   rw [h3] at h
   cases h4 : ltI 4294967294 r.k with
   | true => rw [h4] at h; cases h
   | false =>
    rw [h4] at h
    exact tval_snoc rs r.k x h (fun y hy => h0 y (by simp [hy])) (h0 r (by simp)) h2
theorem pick_rng (a m : Int) (hm : 0 < m) : 0 ≤ pick a m∧pick a m < m := by
 unfold pick
 have h1 := Int.emod_nonneg a (b := m) (by omega)
 have h2 := Int.emod_lt_of_pos a hm
 first | exact ⟨h1,h2⟩ | omega
def QR (e : Option LR) : Prop := ∃ (f' : Bool) (ts : List Rw),e = some ⟨some 0,⟨[(3,.sl f' 0 0 none)],[⟨1,91,4,false,ts.map Rw.row⟩]⟩,[]⟩∧ts.length ≤ 5∧OkT ts∧tval 0 ts = true∧(f' = true → ts = [])
theorem QR_of {X Y : Option LR} (hX : QR X) (e : Y = X) : QR Y := by rw [e]; exact hX
theorem l_rows (n : Int) : ∀ (d i : Nat) (acc : List Rw) (f : Bool),i + d = 5 → acc.length ≤ i → OkT acc → tval 0 acc = true → (∀ r ∈ acc,r.k ≤ (i : Int)) → (f = true → acc = []) →
  QR (lp 11 0 0 ⟨[(0,.v (.int .i64 n)),(3,.sl f 0 0 none),(4,.v (.int .i64 ((i : Nat) : Int)))],[⟨1,91,4,false,acc.map Rw.row⟩]⟩)
 | 0,i,acc,f,h,h1,h2,h3,h4,h5 => by
  refine ⟨f,acc,?_,by omega,h2,h3,h5⟩
  rw [lp11_0]
  exact cF (ltI_f (by omega)) rfl
 | d + 1,i,acc,f,h,h1,h2,h3,h4,h5 => by
  have hw : IntKind.i64.wrap (((i : Nat) : Int) + 1) = ((i + 1 : Nat) : Int) := by rw [w_i64]; omega
  have hu : ltI (IntKind.u64.wrap ((i : Nat) : Int)) 0 = false := ltI_f (by rw [w_u64]; omega)
  have hw2 : IntKind.u32.wrap ((i + 1 : Nat) : Int) = ((i + 1 : Nat) : Int) := by rw [w_u32]; omega
  rw [lp11_0,hw]
  cases hb : (bits .and .i64 (Int.fdiv (pick n 32) (2 ^ (min (Int.toNat (IntKind.u64.wrap ((i : Nat) : Int))) 64))) 1 == 1) with
  | true =>
   have hp := pick_rng (IntKind.i64.wrap (Int.tdiv n 32)) 4 (by decide)
   have ih := l_rows n d (i + 1) (acc ++ [⟨((i + 1 : Nat) : Int),pick (IntKind.i64.wrap (Int.tdiv n 32)) 4,((i : Nat) : Int),9223372036854775807⟩]) false (by omega) (by rw [List.length_append,List.length_singleton]; omega)
    (fun x hx => by
     rcases List.mem_append.1 hx with hx | hx
     ·exact h2 x hx
     ·rcases List.mem_singleton.1 hx with rfl
      exact ⟨⟨by simp only; omega,by simp only; omega⟩,⟨by simp only; omega,by simp only; omega⟩,⟨by simp only; omega,by simp only; omega⟩,by simp only; omega,by simp only; omega⟩)
    (tval_snoc acc 0 _ h3 (fun r hr => by have := h4 r hr; simp only; omega) (by simp only; omega) (by simp only; omega))
    (fun x hx => by
     rcases List.mem_append.1 hx with hx | hx
     ·have := h4 x hx; omega
     ·rcases List.mem_singleton.1 hx with rfl
      simp)
    (fun e => by cases e)
   refine QR_of ih ?_
   refine cT (ltI_t (by omega)) (bnd (s_Pick n 32 (by decide) (by decide)) (cT rfl (cF hu (cT hb (bnd (s_Pick _ 4 (by decide) (by decide)) (cT rfl (cT (leN_t (by rw [List.length_map]; omega)) ?_)))))))
   rw [hw2,List.map_append]; rfl
  | false =>
   have ih := l_rows n d (i + 1) acc f (by omega) (by omega) h2 h3 (fun r hr => by have := h4 r hr; omega) h5
   refine QR_of ih ?_
   exact cT (ltI_t (by omega)) (bnd (s_Pick n 32 (by decide) (by decide)) (cT rfl (cF hu (cF hb rfl))))
theorem s_rows (n : Int) : ∃ (f : Bool) (ts : List Rw),ev 11 [.v (.int .i64 n)] = some [.lst f 4 (ts.map Rw.row)]∧ts.length ≤ 5∧OkT ts∧tval 0 ts = true∧(f = true → ts = []) := by
 obtain ⟨f,ts,h,h1⟩ := l_rows n 5 0 [] true rfl (Nat.le_refl _) (fun x hx => by cases hx) rfl (fun x hx => by cases hx) (fun _ => rfl)
 refine ⟨f,ts,?_,h1⟩
 rw [ev11]
 exact bnd h (cT rfl (cT rfl rfl))
def lsEq {α : Type} (p : α → α → Bool) : List α → List α → Bool
 | [],[] => true
 | a :: xs,b :: ys => p a b && lsEq p xs ys
 | _,_ => false
theorem lsEq_iff {α : Type} {p : α → α → Bool} (h : ∀ a b,p a b = true ↔ a = b) : ∀ xs ys : List α,lsEq p xs ys = true ↔ xs = ys
 | [],[] => by simp [lsEq]
 | [],b :: ys => by simp [lsEq]
 | a :: xs,[] => by simp [lsEq]
 | a :: xs,b :: ys => by simp [lsEq,h,lsEq_iff h xs ys]
theorem lsEq_len {α : Type} {p : α → α → Bool} : ∀ xs ys : List α,xs.length ≠ ys.length → lsEq p xs ys = false
 | [],[],h => by simp at h
 | [],b :: ys,_ => rfl
 | a :: xs,[],_ => rfl
 | a :: xs,b :: ys,h => by simp [lsEq,lsEq_len xs ys (by simpa using h)]
def rwEq (x y : Rw) : Bool := (x.k == y.k) && ((x.a == y.a) && ((x.b == y.b) && (x.c == y.c)))
theorem rwEq_iff (x y : Rw) : rwEq x y = true ↔ x = y := by
 obtain ⟨a,b,c,d⟩ := x
 obtain ⟨a',b',c',d'⟩ := y
 simp [rwEq]
def rsEq (x y : Res) : Bool := (x.num == y.num) && lsEq rwEq x.rows y.rows
theorem rsEq_iff (x y : Res) : rsEq x y = true ↔ x = y := by
 obtain ⟨a,b⟩ := x
 obtain ⟨a',b'⟩ := y
 simp [rsEq,lsEq_iff rwEq_iff,and_comm]
theorem outB_get (acc : List (Bool × Res)) (d rest : List (Bool × Res)) (p : Bool × Res) (h : acc = d ++ p :: rest) : lget (outB acc) (Int.toNat ((d.length : Nat) : Int)) = p.2.cells p.1 := by
 rw [Int.toNat_natCast]
 unfold outB
 rw [lget_map _ _ _ (by rw [h]; simp)]
 subst h
 simp
theorem l_sres1 (b1 b2 : Bool) (xs ys : List (Bool × Res)) (i : Nat) (p q : Bool × Res) (hx : i < xs.length) (hy : i < ys.length) (e1 : lget (outB xs) (Int.toNat ((i : Nat) : Int)) = p.2.cells p.1) (e2 : lget (outB ys) (Int.toNat ((i : Nat) : Int)) = q.2.cells q.1) (hl : p.2.rows.length ≤ 1000000) : ∀ (r1 r2 d1 d2 : List Rw),p.2.rows = d1 ++ r1 → q.2.rows = d2 ++ r2 → d1.length = d2.length → r1.length = r2.length →
  lp 29 1 0 ⟨[(0,.lst b1 2 (outB xs)),(1,.lst b2 2 (outB ys)),(5,.v (.int .i64 ((i : Nat) : Int))),(6,.v (.int .i64 ((d1.length : Nat) : Int)))],[]⟩ = bif lsEq rwEq r1 r2 then some ⟨some 2,⟨[(0,.lst b1 2 (outB xs)),(1,.lst b2 2 (outB ys)),(5,.v (.int .i64 ((i : Nat) : Int)))],[]⟩,[]⟩ else some ⟨none,⟨[],[]⟩,[.v (.bool false)]⟩
 | [],[],d1,d2,h1,h2,h3,_ => by
  rw [lp29_1,e1]
  refine cT (by rw [leI_t (by omega),ltI_t (by rw [outB_len]; omega)]; rfl) (cT rfl (cF ?_ rfl))
  show ltI ((d1.length : Nat) : Int) (((List.length (p.2.rows.map Rw.row)) : Nat) : Int) = false
  exact ltI_f (by rw [List.length_map,h1,List.append_nil]; omega)
 | [],b :: r2,d1,d2,h1,h2,h3,h4 => by simp at h4
 | a :: r1,[],d1,d2,h1,h2,h3,h4 => by simp at h4
 | a :: r1,b :: r2,d1,d2,h1,h2,h3,h4 => by
  have hx' : d1.length < p.2.rows.length := by rw [h1]; simp
  have hy' : d1.length < q.2.rows.length := by rw [h2,h3]; simp
  have f1 : lget (avXs (cellAt (p.2.cells p.1) 0)) (Int.toNat ((d1.length : Nat) : Int)) = a.row := by
   show lget (p.2.rows.map Rw.row) _ = _
   rw [Int.toNat_natCast,lget_map _ _ _ hx']; simp [h1]
  have f2 : lget (avXs (cellAt (q.2.cells q.1) 0)) (Int.toNat ((d1.length : Nat) : Int)) = b.row := by
   show lget (q.2.rows.map Rw.row) _ = _
   rw [Int.toNat_natCast,lget_map _ _ _ hy']; simp [h2,h3]
  have hw : IntKind.i64.wrap (((d1.length : Nat) : Int) + 1) = (((d1 ++ [a]).length : Nat) : Int) := by rw [w_i64,List.length_append,List.length_singleton]; omega
  have ih := l_sres1 b1 b2 xs ys i p q hx hy e1 e2 hl r1 r2 (d1 ++ [a]) (d2 ++ [b]) (by rw [h1]; simp) (by rw [h2]; simp) (by simp [h3]) (by simpa using h4)
  have i1 : (leI 0 ((i : Nat) : Int) && ltI ((i : Nat) : Int) (((List.length (outB xs)) : Nat) : Int)) = true := by rw [leI_t (by omega),ltI_t (by rw [outB_len]; omega)]; rfl
  have i2 : (leI 0 ((i : Nat) : Int) && ltI ((i : Nat) : Int) (((List.length (outB ys)) : Nat) : Int)) = true := by rw [leI_t (by omega),ltI_t (by rw [outB_len]; omega)]; rfl
  have j1 : (leI 0 ((d1.length : Nat) : Int) && ltI ((d1.length : Nat) : Int) (((List.length (p.2.rows.map Rw.row)) : Nat) : Int)) = true := by rw [leI_t (by omega),ltI_t (by rw [List.length_map]; omega)]; rfl
  have j2 : (leI 0 ((d1.length : Nat) : Int) && ltI ((d1.length : Nat) : Int) (((List.length (q.2.rows.map Rw.row)) : Nat) : Int)) = true := by rw [leI_t (by omega),ltI_t (by rw [List.length_map]; omega)]; rfl
  rw [lp29_1,e1,e2,f1,f2,hw]
  refine cT i1 (cT rfl (cT (ltI_t (by show ((d1.length : Nat) : Int) < (((List.length (p.2.rows.map Rw.row)) : Nat) : Int); rw [List.length_map]; omega)) (cT i1 (cT rfl (cT j1 (cT rfl (cT i2 (cT rfl (cT j2 (cT rfl ?_))))))))))
  show cond (!(rwEq a b)) _ _ = bif (rwEq a b && lsEq rwEq r1 r2) then _ else _
  cases rwEq a b with
  | true => exact cF rfl ih
  | false => exact cT rfl rfl
def bdR (acc : List (Bool × Res)) : Prop := ∀ p ∈ acc,p.2.rows.length ≤ 1000000
theorem l_sres (b1 b2 : Bool) (xs ys : List (Bool × Res)) (hl : xs.length ≤ 1000000) (hb : bdR xs) : ∀ (r1 r2 d1 d2 : List (Bool × Res)),xs = d1 ++ r1 → ys = d2 ++ r2 → d1.length = d2.length → r1.length = r2.length →
  lp 29 0 0 ⟨[(0,.lst b1 2 (outB xs)),(1,.lst b2 2 (outB ys)),(5,.v (.int .i64 ((d1.length : Nat) : Int)))],[]⟩ = bif lsEq rsEq (r1.map Prod.snd) (r2.map Prod.snd) then some ⟨some 0,⟨[],[]⟩,[]⟩ else some ⟨none,⟨[],[]⟩,[.v (.bool false)]⟩
 | [],[],d1,d2,h1,h2,h3,_ => by
  rw [lp29_0]
  exact cF (ltI_f (by rw [outB_len,h1,List.append_nil]; omega)) rfl
 | [],b :: r2,d1,d2,h1,h2,h3,h4 => by simp at h4
 | a :: r1,[],d1,d2,h1,h2,h3,h4 => by simp at h4
 | p :: r1,q :: r2,d1,d2,h1,h2,h3,h4 => by
  have hx : d1.length < xs.length := by rw [h1]; simp
  have hy : d1.length < ys.length := by rw [h2,h3]; simp
  have e1 := outB_get xs d1 r1 p h1
  have e2 := outB_get ys d2 r2 q h2
  rw [← h3] at e2
  have hw : IntKind.i64.wrap (((d1.length : Nat) : Int) + 1) = (((d1 ++ [p]).length : Nat) : Int) := by rw [w_i64,List.length_append,List.length_singleton]; omega
  have ih := l_sres b1 b2 xs ys hl hb r1 r2 (d1 ++ [p]) (d2 ++ [q]) (by rw [h1]; simp) (by rw [h2]; simp) (by simp [h3]) (by simpa using h4)
  have i1 : (leI 0 ((d1.length : Nat) : Int) && ltI ((d1.length : Nat) : Int) (((List.length (outB xs)) : Nat) : Int)) = true := by rw [leI_t (by omega),ltI_t (by rw [outB_len]; omega)]; rfl
  have i2 : (leI 0 ((d1.length : Nat) : Int) && ltI ((d1.length : Nat) : Int) (((List.length (outB ys)) : Nat) : Int)) = true := by rw [leI_t (by omega),ltI_t (by rw [outB_len]; omega)]; rfl
  rw [lp29_0,e1,e2]
  refine cT (ltI_t (by rw [outB_len]; omega)) (cT i1 (cT rfl (cT i2 (cT rfl ?_))))
  show cond (!(p.2.num == q.2.num)) _ _ = bif ((p.2.num == q.2.num) && lsEq rwEq p.2.rows q.2.rows) && lsEq rsEq (r1.map Prod.snd) (r2.map Prod.snd) then _ else _
  cases hn : (p.2.num == q.2.num) with
  | false => exact cT rfl rfl
  | true =>
   refine cF rfl (cT i1 (cT rfl (cT i2 (cT rfl ?_))))
   show cond (!((((List.length (p.2.rows.map Rw.row)) : Nat) : Int) == (((List.length (q.2.rows.map Rw.row)) : Nat) : Int))) _ _ = _
   rw [List.length_map,List.length_map]
   by_cases hl2 : p.2.rows.length = q.2.rows.length
   ·rw [hl2,beq_self_i]
    have hin := l_sres1 b1 b2 xs ys d1.length p q hx hy e1 e2 (hb p (by rw [h1]; simp)) p.2.rows q.2.rows [] [] rfl rfl rfl hl2
    cases hc : lsEq rwEq p.2.rows q.2.rows with
    | false =>
     rw [hc] at hin
     exact cF rfl (bnd hin (cF rfl (cT rfl rfl)))
    | true =>
     rw [hc] at hin
     refine cF rfl (bnd hin (cT rfl (cT rfl ?_)))
     show lp 29 0 0 ⟨[(0,.lst b1 2 (outB xs)),(1,.lst b2 2 (outB ys)),(5,.v (.int .i64 (IntKind.i64.wrap (((d1.length : Nat) : Int) + 1))))],[]⟩ = _
     rw [hw]
     exact ih
   ·rw [lsEq_len _ _ hl2]
    refine cT ?_ rfl
    rw [Bool.not_eq_true',beq_eq_false_iff_ne]
    omega
theorem s_sres (b1 b2 : Bool) (xs ys : List (Bool × Res)) (hl : xs.length ≤ 1000000) (hb : bdR xs) : ev 29 [.lst b1 2 (outB xs),.lst b2 2 (outB ys)] = some [.v (.bool (lsEq rsEq (xs.map Prod.snd) (ys.map Prod.snd)))] := by
 rw [ev29]
 by_cases h : xs.length = ys.length
 ·have hl2 := l_sres b1 b2 xs ys hl hb xs ys [] [] rfl rfl rfl h
  refine cF (by rw [outB_len,outB_len,h,beq_self_i]; rfl) ?_
  cases hc : lsEq rsEq (xs.map Prod.snd) (ys.map Prod.snd) with
  | true => rw [hc] at hl2; exact bnd hl2 (cT rfl (cT rfl rfl))
  | false => rw [hc] at hl2; exact bnd hl2 (cF rfl (cT rfl rfl))
 ·rw [lsEq_len _ _ (by rw [List.length_map,List.length_map]; exact h)]
  refine cT ?_ rfl
  rw [outB_len,outB_len,Bool.not_eq_true',beq_eq_false_iff_ne]
  omega
end Go.Proofs.Ytnhahcomgeeobaa
