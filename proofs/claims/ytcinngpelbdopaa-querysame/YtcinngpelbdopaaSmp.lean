/- SameResults and results: what they answer. -/
import Derived.Test.YtcinngpelbdopaaAwake
import Derived.Test.YtcinngpelbdopaaEq9
import Derived.Test.YtcinngpelbdopaaEv12
set_option linter.all false
namespace Go.Proofs.Ytcinngpelbdopaa
open Go.Ev
set_option maxRecDepth 100000
theorem cT {α : Type} {c : Bool} {A B : α} {r : α} (h : c = true) (h2 : A = r) : cond c A B = r := by rw [h]; exact h2
theorem cF {α : Type} {c : Bool} {A B : α} {r : α} (h : c = false) (h2 : B = r) : cond c A B = r := by rw [h]; exact h2
structure Rw where
  k : Int
  a : Int
  b : Int
  c : Int
def Rw.row (r : Rw) : List AV := [.v (.int .u32 r.k), .v (.int .i64 r.a), .v (.int .i64 r.b), .v (.int .i64 r.c)]
structure Res where
  rows : List Rw
  num : Int
def Res.cells (b : Bool) (r : Res) : List AV := [.lst b 4 (r.rows.map Rw.row), .v (.int .i64 r.num)]
def outB (l : List (Bool × Res)) : List (List AV) := l.map fun p => p.2.cells p.1
theorem outB_snoc (acc : List (Bool × Res)) (n : Bool) (r : Res) : outB (acc ++ [(n, r)]) = outB acc ++ [r.cells n] := by simp [outB]
theorem outB_len (acc : List (Bool × Res)) : (outB acc).length = acc.length := by simp [outB]
def lsEq {α : Type} (p : α → α → Bool) : List α → List α → Bool
  | [], [] => true
  | a :: xs, b :: ys => p a b && lsEq p xs ys
  | _, _ => false
theorem lsEq_iff {α : Type} {p : α → α → Bool} (h : ∀ a b, p a b = true ↔ a = b) : ∀ xs ys : List α, lsEq p xs ys = true ↔ xs = ys
  | [], [] => by simp [lsEq]
  | [], b :: ys => by simp [lsEq]
  | a :: xs, [] => by simp [lsEq]
  | a :: xs, b :: ys => by simp [lsEq, h, lsEq_iff h xs ys]
theorem lsEq_len {α : Type} {p : α → α → Bool} : ∀ xs ys : List α, xs.length ≠ ys.length → lsEq p xs ys = false
  | [], [], h => by simp at h
  | [], b :: ys, _ => rfl
  | a :: xs, [], _ => rfl
  | a :: xs, b :: ys, h => by simp [lsEq, lsEq_len xs ys (by simpa using h)]
def rwEq (x y : Rw) : Bool := (x.k == y.k) && ((x.a == y.a) && ((x.b == y.b) && (x.c == y.c)))
theorem rwEq_iff (x y : Rw) : rwEq x y = true ↔ x = y := by
  obtain ⟨a, b, c, d⟩ := x
  obtain ⟨a', b', c', d'⟩ := y
  simp [rwEq]
def rsEq (x y : Res) : Bool := (x.num == y.num) && lsEq rwEq x.rows y.rows
theorem rsEq_iff (x y : Res) : rsEq x y = true ↔ x = y := by
  obtain ⟨a, b⟩ := x
  obtain ⟨a', b'⟩ := y
  simp [rsEq, lsEq_iff rwEq_iff, and_comm]
theorem outB_get (acc : List (Bool × Res)) (d rest : List (Bool × Res)) (p : Bool × Res) (h : acc = d ++ p :: rest) : lget (outB acc) (Int.toNat ((d.length : Nat) : Int)) = p.2.cells p.1 := by
  rw [Int.toNat_natCast]
  unfold outB
  rw [lget_map _ _ _ (by rw [h]; simp)]
  subst h
  simp
theorem l_sres1 (b1 b2 : Bool) (xs ys : List (Bool × Res)) (i : Nat) (p q : Bool × Res) (hx : i < xs.length) (hy : i < ys.length) (e1 : lget (outB xs) (Int.toNat ((i : Nat) : Int)) = p.2.cells p.1) (e2 : lget (outB ys) (Int.toNat ((i : Nat) : Int)) = q.2.cells q.1) (hl : p.2.rows.length ≤ 1000000) : ∀ (r1 r2 d1 d2 : List Rw), p.2.rows = d1 ++ r1 → q.2.rows = d2 ++ r2 → d1.length = d2.length → r1.length = r2.length →
    lp 31 1 0 ⟨[(0, .lst b1 2 (outB xs)), (1, .lst b2 2 (outB ys)), (5, .v (.int .i64 ((i : Nat) : Int))), (6, .v (.int .i64 ((d1.length : Nat) : Int)))], []⟩ = bif lsEq rwEq r1 r2 then some ⟨some 2, ⟨[(0, .lst b1 2 (outB xs)), (1, .lst b2 2 (outB ys)), (5, .v (.int .i64 ((i : Nat) : Int)))], []⟩, []⟩ else some ⟨none, ⟨[], []⟩, [.v (.bool false)]⟩
  | [], [], d1, d2, h1, h2, h3, _ => by
    rw [lp31_1, e1]
    refine cT (by rw [leI_t (by omega), ltI_t (by rw [outB_len]; omega)]; rfl) (cT rfl (cF ?_ rfl))
    show ltI ((d1.length : Nat) : Int) (((List.length (p.2.rows.map Rw.row)) : Nat) : Int) = false
    exact ltI_f (by rw [List.length_map, h1, List.append_nil]; omega)
  | [], b :: r2, d1, d2, h1, h2, h3, h4 => by simp at h4
  | a :: r1, [], d1, d2, h1, h2, h3, h4 => by simp at h4
  | a :: r1, b :: r2, d1, d2, h1, h2, h3, h4 => by
    have hx' : d1.length < p.2.rows.length := by rw [h1]; simp
    have hy' : d1.length < q.2.rows.length := by rw [h2, h3]; simp
    have f1 : lget (avXs (cellAt (p.2.cells p.1) 0)) (Int.toNat ((d1.length : Nat) : Int)) = a.row := by
      show lget (p.2.rows.map Rw.row) _ = _
      rw [Int.toNat_natCast, lget_map _ _ _ hx']; simp [h1]
    have f2 : lget (avXs (cellAt (q.2.cells q.1) 0)) (Int.toNat ((d1.length : Nat) : Int)) = b.row := by
      show lget (q.2.rows.map Rw.row) _ = _
      rw [Int.toNat_natCast, lget_map _ _ _ hy']; simp [h2, h3]
    have hw : IntKind.i64.wrap (((d1.length : Nat) : Int) + 1) = (((d1 ++ [a]).length : Nat) : Int) := by rw [w_i64, List.length_append, List.length_singleton]; omega
    have ih := l_sres1 b1 b2 xs ys i p q hx hy e1 e2 hl r1 r2 (d1 ++ [a]) (d2 ++ [b]) (by rw [h1]; simp) (by rw [h2]; simp) (by simp [h3]) (by simpa using h4)
    have i1 : (leI 0 ((i : Nat) : Int) && ltI ((i : Nat) : Int) (((List.length (outB xs)) : Nat) : Int)) = true := by rw [leI_t (by omega), ltI_t (by rw [outB_len]; omega)]; rfl
    have i2 : (leI 0 ((i : Nat) : Int) && ltI ((i : Nat) : Int) (((List.length (outB ys)) : Nat) : Int)) = true := by rw [leI_t (by omega), ltI_t (by rw [outB_len]; omega)]; rfl
    have j1 : (leI 0 ((d1.length : Nat) : Int) && ltI ((d1.length : Nat) : Int) (((List.length (p.2.rows.map Rw.row)) : Nat) : Int)) = true := by rw [leI_t (by omega), ltI_t (by rw [List.length_map]; omega)]; rfl
    have j2 : (leI 0 ((d1.length : Nat) : Int) && ltI ((d1.length : Nat) : Int) (((List.length (q.2.rows.map Rw.row)) : Nat) : Int)) = true := by rw [leI_t (by omega), ltI_t (by rw [List.length_map]; omega)]; rfl
    rw [lp31_1, e1, e2, f1, f2, hw]
    refine cT i1 (cT rfl (cT (ltI_t (by show ((d1.length : Nat) : Int) < (((List.length (p.2.rows.map Rw.row)) : Nat) : Int); rw [List.length_map]; omega)) (cT i1 (cT rfl (cT j1 (cT rfl (cT i2 (cT rfl (cT j2 (cT rfl ?_))))))))))
    show cond (!(rwEq a b)) _ _ = bif (rwEq a b && lsEq rwEq r1 r2) then _ else _
    cases rwEq a b with
    | true => exact cF rfl ih
    | false => exact cT rfl rfl
def bdR (acc : List (Bool × Res)) : Prop := ∀ p ∈ acc, p.2.rows.length ≤ 1000000
theorem l_sres (b1 b2 : Bool) (xs ys : List (Bool × Res)) (hl : xs.length ≤ 1000000) (hb : bdR xs) : ∀ (r1 r2 d1 d2 : List (Bool × Res)), xs = d1 ++ r1 → ys = d2 ++ r2 → d1.length = d2.length → r1.length = r2.length →
    lp 31 0 0 ⟨[(0, .lst b1 2 (outB xs)), (1, .lst b2 2 (outB ys)), (5, .v (.int .i64 ((d1.length : Nat) : Int)))], []⟩ = bif lsEq rsEq (r1.map Prod.snd) (r2.map Prod.snd) then some ⟨some 0, ⟨[], []⟩, []⟩ else some ⟨none, ⟨[], []⟩, [.v (.bool false)]⟩
  | [], [], d1, d2, h1, h2, h3, _ => by
    rw [lp31_0]
    exact cF (ltI_f (by rw [outB_len, h1, List.append_nil]; omega)) rfl
  | [], b :: r2, d1, d2, h1, h2, h3, h4 => by simp at h4
  | a :: r1, [], d1, d2, h1, h2, h3, h4 => by simp at h4
  | p :: r1, q :: r2, d1, d2, h1, h2, h3, h4 => by
    have hx : d1.length < xs.length := by rw [h1]; simp
    have hy : d1.length < ys.length := by rw [h2, h3]; simp
    have e1 := outB_get xs d1 r1 p h1
    have e2 := outB_get ys d2 r2 q h2
    rw [← h3] at e2
    have hw : IntKind.i64.wrap (((d1.length : Nat) : Int) + 1) = (((d1 ++ [p]).length : Nat) : Int) := by rw [w_i64, List.length_append, List.length_singleton]; omega
    have ih := l_sres b1 b2 xs ys hl hb r1 r2 (d1 ++ [p]) (d2 ++ [q]) (by rw [h1]; simp) (by rw [h2]; simp) (by simp [h3]) (by simpa using h4)
    have i1 : (leI 0 ((d1.length : Nat) : Int) && ltI ((d1.length : Nat) : Int) (((List.length (outB xs)) : Nat) : Int)) = true := by rw [leI_t (by omega), ltI_t (by rw [outB_len]; omega)]; rfl
    have i2 : (leI 0 ((d1.length : Nat) : Int) && ltI ((d1.length : Nat) : Int) (((List.length (outB ys)) : Nat) : Int)) = true := by rw [leI_t (by omega), ltI_t (by rw [outB_len]; omega)]; rfl
    rw [lp31_0, e1, e2]
    refine cT (ltI_t (by rw [outB_len]; omega)) (cT i1 (cT rfl (cT i2 (cT rfl ?_))))
    show cond (!(p.2.num == q.2.num)) _ _ = bif ((p.2.num == q.2.num) && lsEq rwEq p.2.rows q.2.rows) && lsEq rsEq (r1.map Prod.snd) (r2.map Prod.snd) then _ else _
    cases hn : (p.2.num == q.2.num) with
    | false => exact cT rfl rfl
    | true =>
      refine cF rfl (cT i1 (cT rfl (cT i2 (cT rfl ?_))))
      show cond (!((((List.length (p.2.rows.map Rw.row)) : Nat) : Int) == (((List.length (q.2.rows.map Rw.row)) : Nat) : Int))) _ _ = _
      rw [List.length_map, List.length_map]
      by_cases hl2 : p.2.rows.length = q.2.rows.length
      · rw [hl2, beq_self_i]
        have hin := l_sres1 b1 b2 xs ys d1.length p q hx hy e1 e2 (hb p (by rw [h1]; simp)) p.2.rows q.2.rows [] [] rfl rfl rfl hl2
        cases hc : lsEq rwEq p.2.rows q.2.rows with
        | false =>
          rw [hc] at hin
          exact cF rfl (bnd hin (cF rfl (cT rfl rfl)))
        | true =>
          rw [hc] at hin
          refine cF rfl (bnd hin (cT rfl (cT rfl ?_)))
          show lp 31 0 0 ⟨[(0, .lst b1 2 (outB xs)), (1, .lst b2 2 (outB ys)), (5, .v (.int .i64 (IntKind.i64.wrap (((d1.length : Nat) : Int) + 1))))], []⟩ = _
          rw [hw]
          exact ih
      · rw [lsEq_len _ _ hl2]
        refine cT ?_ rfl
        rw [Bool.not_eq_true', beq_eq_false_iff_ne]
        omega
theorem s_sres (b1 b2 : Bool) (xs ys : List (Bool × Res)) (hl : xs.length ≤ 1000000) (hb : bdR xs) : ev 31 [.lst b1 2 (outB xs), .lst b2 2 (outB ys)] = some [.v (.bool (lsEq rsEq (xs.map Prod.snd) (ys.map Prod.snd)))] := by
  rw [ev31]
  by_cases h : xs.length = ys.length
  · have hl2 := l_sres b1 b2 xs ys hl hb xs ys [] [] rfl rfl rfl h
    refine cF (by rw [outB_len, outB_len, h, beq_self_i]; rfl) ?_
    cases hc : lsEq rsEq (xs.map Prod.snd) (ys.map Prod.snd) with
    | true => rw [hc] at hl2; exact bnd hl2 (cT rfl (cT rfl rfl))
    | false => rw [hc] at hl2; exact bnd hl2 (cF rfl (cT rfl rfl))
  · rw [lsEq_len _ _ (by rw [List.length_map, List.length_map]; exact h)]
    refine cT ?_ rfl
    rw [outB_len, outB_len, Bool.not_eq_true', beq_eq_false_iff_ne]
    omega
theorem l_rowsEq (b1 b2 : Bool) (xs ys : List Rw) (hl : xs.length ≤ 1000000) : ∀ (r1 r2 d1 d2 : List Rw), xs = d1 ++ r1 → ys = d2 ++ r2 → d1.length = d2.length → r1.length = r2.length →
    lp 50 0 0 ⟨[(0, .lst b1 4 (xs.map Rw.row)), (1, .lst b2 4 (ys.map Rw.row)), (12, .v (.int .i64 (((List.length (xs.map Rw.row)) : Nat) : Int))), (13, .v (.int .i64 ((d1.length : Nat) : Int)))], []⟩ = bif lsEq rwEq r1 r2 then some ⟨some 0, ⟨[], []⟩, []⟩ else some ⟨none, ⟨[], []⟩, [.v (.bool false)]⟩
  | [], [], d1, d2, h1, h2, h3, _ => by
    rw [lp50_0]
    exact cF (ltI_f (by rw [List.length_map, h1, List.append_nil]; omega)) rfl
  | [], b :: r2, d1, d2, h1, h2, h3, h4 => by simp at h4
  | a :: r1, [], d1, d2, h1, h2, h3, h4 => by simp at h4
  | a :: r1, b :: r2, d1, d2, h1, h2, h3, h4 => by
    have hx : d1.length < xs.length := by rw [h1]; simp
    have hy : d1.length < ys.length := by rw [h2, h3]; simp
    have e1 : lget (xs.map Rw.row) (Int.toNat ((d1.length : Nat) : Int)) = a.row := by
      rw [Int.toNat_natCast, lget_map _ _ _ hx]; subst h1; simp
    have e2 : lget (ys.map Rw.row) (Int.toNat ((d1.length : Nat) : Int)) = b.row := by
      rw [Int.toNat_natCast, lget_map _ _ _ hy]; subst h2; simp [h3]
    have hw : IntKind.i64.wrap (((d1.length : Nat) : Int) + 1) = (((d1 ++ [a]).length : Nat) : Int) := by rw [w_i64, List.length_append, List.length_singleton]; omega
    have ih := l_rowsEq b1 b2 xs ys hl r1 r2 (d1 ++ [a]) (d2 ++ [b]) (by rw [h1]; simp) (by rw [h2]; simp) (by simp [h3]) (by simpa using h4)
    rw [lp50_0, e1, e2, hw]
    refine cT (ltI_t (by rw [List.length_map]; omega)) (cT (by rw [leI_t (by omega), ltI_t (by rw [List.length_map]; omega)]; rfl) (cT rfl (cT (by rw [leI_t (by omega), ltI_t (by rw [List.length_map]; omega)]; rfl) (cT rfl ?_))))
    show cond (!(rwEq a b)) _ _ = bif (rwEq a b && lsEq rwEq r1 r2) then _ else _
    cases rwEq a b with
    | true => exact cF rfl ih
    | false => exact cT rfl rfl
theorem s_rowsEq (b1 b2 : Bool) (xs ys : List Rw) (hl : xs.length ≤ 1000000) : ev 50 [.lst b1 4 (xs.map Rw.row), .lst b2 4 (ys.map Rw.row)] = some [.v (.bool (lsEq rwEq xs ys))] := by
  rw [ev50]
  by_cases h : xs.length = ys.length
  · have hl2 := l_rowsEq b1 b2 xs ys hl xs ys [] [] rfl rfl rfl h
    refine cF (by rw [List.length_map, List.length_map, h, beq_self_i]; rfl) ?_
    cases hc : lsEq rwEq xs ys with
    | true => rw [hc] at hl2; exact bnd hl2 (cT rfl (cT rfl rfl))
    | false => rw [hc] at hl2; exact bnd hl2 (cF rfl (cT rfl rfl))
  · rw [lsEq_len _ _ h]
    refine cT ?_ rfl
    rw [List.length_map, List.length_map, Bool.not_eq_true', beq_eq_false_iff_ne]
    omega
theorem s_resEq (p q : Bool × Res) (hl : p.2.rows.length ≤ 1000000) : ev 49 [.agg (p.2.cells p.1), .agg (q.2.cells q.1)] = some [.v (.bool (rsEq p.2 q.2))] := by
  have h := s_rowsEq p.1 q.1 p.2.rows q.2.rows hl
  show ev 49 [.agg [.lst p.1 4 (p.2.rows.map Rw.row), .v (.int .i64 p.2.num)], .agg [.lst q.1 4 (q.2.rows.map Rw.row), .v (.int .i64 q.2.num)]] = _
  rw [ev49]
  unfold rsEq
  cases (p.2.num == q.2.num) with
  | true => exact cT rfl (bnd h (cT rfl rfl))
  | false => exact cF rfl rfl
theorem l_qsame (b1 b2 : Bool) (xs ys : List (Bool × Res)) (hl : xs.length ≤ 1000000) (hb : bdR xs) : ∀ (r1 r2 d1 d2 : List (Bool × Res)), xs = d1 ++ r1 → ys = d2 ++ r2 → d1.length = d2.length → r1.length = r2.length →
    lp 48 0 0 ⟨[(1, .lst b2 2 (outB ys)), (2, .clo 49 [] []), (15, .lst b1 2 (outB xs)), (16, .v (.int .i64 (((List.length (outB xs)) : Nat) : Int))), (17, .v (.int .i64 ((d1.length : Nat) : Int)))], []⟩ = bif lsEq rsEq (r1.map Prod.snd) (r2.map Prod.snd) then some ⟨some 0, ⟨[], []⟩, []⟩ else some ⟨none, ⟨[], []⟩, [.v (.bool false)]⟩
  | [], [], d1, d2, h1, h2, h3, _ => by
    rw [lp48_0]
    exact cF (ltI_f (by rw [outB_len, h1, List.append_nil]; omega)) rfl
  | [], b :: r2, d1, d2, h1, h2, h3, h4 => by simp at h4
  | a :: r1, [], d1, d2, h1, h2, h3, h4 => by simp at h4
  | p :: r1, q :: r2, d1, d2, h1, h2, h3, h4 => by
    have hx : d1.length < xs.length := by rw [h1]; simp
    have hy : d1.length < ys.length := by rw [h2, h3]; simp
    have e1 := outB_get xs d1 r1 p h1
    have e2 := outB_get ys d2 r2 q h2
    rw [← h3] at e2
    have hw : IntKind.i64.wrap (((d1.length : Nat) : Int) + 1) = (((d1 ++ [p]).length : Nat) : Int) := by rw [w_i64, List.length_append, List.length_singleton]; omega
    have ih := l_qsame b1 b2 xs ys hl hb r1 r2 (d1 ++ [p]) (d2 ++ [q]) (by rw [h1]; simp) (by rw [h2]; simp) (by simp [h3]) (by simpa using h4)
    have i1 : (leI 0 ((d1.length : Nat) : Int) && ltI ((d1.length : Nat) : Int) (((List.length (outB xs)) : Nat) : Int)) = true := by rw [leI_t (by omega), ltI_t (by rw [outB_len]; omega)]; rfl
    have i2 : (leI 0 ((d1.length : Nat) : Int) && ltI ((d1.length : Nat) : Int) (((List.length (outB ys)) : Nat) : Int)) = true := by rw [leI_t (by omega), ltI_t (by rw [outB_len]; omega)]; rfl
    have hre := s_resEq p q (hb p (by rw [h1]; simp))
    have sh : ∀ p : Bool × Res, (isL 4 (cellAt (p.2.cells p.1) 0) && isI .i64 (cellAt (p.2.cells p.1) 1)) = true := fun p => by
      show ((Nat.beq 4 4 || p.1) && true) = true
      simp
    rw [lp48_0, e1, e2, hw]
    refine cT (ltI_t (by rw [outB_len]; omega)) (cT i1 (cT (sh p) (cT i2 (cT (sh q) (bnd hre (cT rfl ?_))))))
    show cond (!(rsEq p.2 q.2)) _ _ = bif (rsEq p.2 q.2) && lsEq rsEq (r1.map Prod.snd) (r2.map Prod.snd) then _ else _
    cases rsEq p.2 q.2 with
    | true => exact cF rfl ih
    | false => exact cT rfl rfl
theorem s_qsame (b1 b2 : Bool) (xs ys : List (Bool × Res)) (hl : xs.length ≤ 1000000) (hb : bdR xs) : ev 30 [.lst b1 2 (outB xs), .lst b2 2 (outB ys)] = some [.v (.bool (lsEq rsEq (xs.map Prod.snd) (ys.map Prod.snd)))] := by
  have h89 : ev 48 [.lst b1 2 (outB xs), .lst b2 2 (outB ys), .clo 49 [] []] = some [.v (.bool (lsEq rsEq (xs.map Prod.snd) (ys.map Prod.snd)))] := by
    rw [ev48]
    by_cases h : xs.length = ys.length
    · have hl2 := l_qsame b1 b2 xs ys hl hb xs ys [] [] rfl rfl rfl h
      refine cF (by rw [outB_len, outB_len, h, beq_self_i]; rfl) ?_
      cases hc : lsEq rsEq (xs.map Prod.snd) (ys.map Prod.snd) with
      | true => rw [hc] at hl2; exact bnd hl2 (cT rfl (cT rfl rfl))
      | false => rw [hc] at hl2; exact bnd hl2 (cF rfl (cT rfl rfl))
    · rw [lsEq_len _ _ (by rw [List.length_map, List.length_map]; exact h)]
      refine cT ?_ rfl
      rw [outB_len, outB_len, Bool.not_eq_true', beq_eq_false_iff_ne]
      omega
  rw [ev30]
  exact bnd h89 (cT rfl rfl)
theorem l_res1 (b : Bool) (xs : List (Bool × Res)) (i : Nat) (p : Bool × Res) (hx : i < xs.length) (e1 : lget (outB xs) (Int.toNat ((i : Nat) : Int)) = p.2.cells p.1) (hl : p.2.rows.length ≤ 1000000) (x3 : Bool) (b0 : List (List AV)) (num : Int) : ∀ (rest done : List Rw) (f : Bool), p.2.rows = done ++ rest →
    ∃ f' : Bool, lp 32 1 0 ⟨[(0, .lst b 2 (outB xs)), (3, .sl x3 0 0 none), (4, .v (.int .i64 ((i : Nat) : Int))), (5, .ptr 1 0 0), (6, .v (.int .i64 ((done.length : Nat) : Int)))], [⟨1, 117, 2, false, b0⟩, ⟨1, 117, 2, true, [[.sl f 2 0 none, .v (.int .i64 num)]]⟩, ⟨1, 68, 4, false, done.map Rw.row⟩]⟩ =
      some ⟨some 2, ⟨[(0, .lst b 2 (outB xs)), (3, .sl x3 0 0 none), (4, .v (.int .i64 ((i : Nat) : Int))), (5, .ptr 1 0 0)], [⟨1, 117, 2, false, b0⟩, ⟨1, 117, 2, true, [[.sl f' 2 0 none, .v (.int .i64 num)]]⟩, ⟨1, 68, 4, false, p.2.rows.map Rw.row⟩]⟩, []⟩
  | [], done, f, h => by
    have i1 : (leI 0 ((i : Nat) : Int) && ltI ((i : Nat) : Int) (((List.length (outB xs)) : Nat) : Int)) = true := by rw [leI_t (by omega), ltI_t (by rw [outB_len]; omega)]; rfl
    refine ⟨f, ?_⟩
    rw [lp32_1, e1]
    refine cT i1 (cT rfl (cF ?_ ?_))
    · show ltI ((done.length : Nat) : Int) (((List.length (p.2.rows.map Rw.row)) : Nat) : Int) = false
      exact ltI_f (by rw [List.length_map, h, List.append_nil]; omega)
    · rw [h, List.append_nil]
  | a :: rest, done, f, h => by
    have i1 : (leI 0 ((i : Nat) : Int) && ltI ((i : Nat) : Int) (((List.length (outB xs)) : Nat) : Int)) = true := by rw [leI_t (by omega), ltI_t (by rw [outB_len]; omega)]; rfl
    have hx' : done.length < p.2.rows.length := by rw [h]; simp
    have f1 : lget (avXs (cellAt (p.2.cells p.1) 0)) (Int.toNat ((done.length : Nat) : Int)) = a.row := by
      show lget (p.2.rows.map Rw.row) _ = _
      rw [Int.toNat_natCast, lget_map _ _ _ hx']; simp [h]
    have j1 : (leI 0 ((done.length : Nat) : Int) && ltI ((done.length : Nat) : Int) (((List.length (p.2.rows.map Rw.row)) : Nat) : Int)) = true := by rw [leI_t (by omega), ltI_t (by rw [List.length_map]; omega)]; rfl
    have hw : IntKind.i64.wrap (((done.length : Nat) : Int) + 1) = (((done ++ [a]).length : Nat) : Int) := by rw [w_i64, List.length_append, List.length_singleton]; omega
    obtain ⟨f', ih⟩ := l_res1 b xs i p hx e1 hl x3 b0 num rest (done ++ [a]) false (by rw [h]; simp)
    refine ⟨f', ?_⟩
    rw [List.map_append] at ih
    rw [lp32_1, e1, f1, hw]
    exact cT i1 (cT rfl (cT (ltI_t (by show ((done.length : Nat) : Int) < (((List.length (p.2.rows.map Rw.row)) : Nat) : Int); rw [List.length_map]; omega)) (cT i1 (cT rfl (cT j1 (cT rfl (cT i1 (cT rfl (cT j1 (cT rfl (cT (leN_t (by rw [List.length_map]; omega)) ih)))))))))))
theorem l_res (b : Bool) (xs : List (Bool × Res)) (hl : xs.length ≤ 1000000) (hb : bdR xs) : ∀ (rest done ys : List (Bool × Res)) (f : Bool), xs = done ++ rest → ys.map Prod.snd = done.map Prod.snd →
    ∃ (f' : Bool) (zs : List (Bool × Res)), zs.map Prod.snd = xs.map Prod.snd ∧ lp 32 0 0 ⟨[(0, .lst b 2 (outB xs)), (3, .sl f 0 0 none), (4, .v (.int .i64 ((done.length : Nat) : Int)))], [⟨1, 117, 2, false, outB ys⟩]⟩ = some ⟨some 0, ⟨[(3, .sl f' 0 0 none)], [⟨1, 117, 2, false, outB zs⟩]⟩, []⟩
  | [], done, ys, f, h, hy => by
    refine ⟨f, ys, by rw [hy, h, List.append_nil], ?_⟩
    rw [lp32_0]
    exact cF (ltI_f (by rw [outB_len, h, List.append_nil]; omega)) rfl
  | p :: rest, done, ys, f, h, hy => by
    have hx : done.length < xs.length := by rw [h]; simp
    have e1 := outB_get xs done rest p h
    have i1 : (leI 0 ((done.length : Nat) : Int) && ltI ((done.length : Nat) : Int) (((List.length (outB xs)) : Nat) : Int)) = true := by rw [leI_t (by omega), ltI_t (by rw [outB_len]; omega)]; rfl
    have hw : IntKind.i64.wrap (((done.length : Nat) : Int) + 1) = (((done ++ [p]).length : Nat) : Int) := by rw [w_i64, List.length_append, List.length_singleton]; omega
    obtain ⟨g, hin⟩ := l_res1 b xs done.length p hx e1 (hb p (by rw [h]; simp)) f (outB ys) p.2.num p.2.rows [] true rfl
    have hys : ys.length = done.length := by have := congrArg List.length hy; simpa using this
    obtain ⟨f', zs, hz, ih⟩ := l_res b xs hl hb rest (done ++ [p]) (ys ++ [(g, p.2)]) false (by rw [h]; simp) (by simp [hy])
    refine ⟨f', zs, hz, ?_⟩
    rw [outB_snoc] at ih
    rw [lp32_0, e1]
    refine cT (ltI_t (by rw [outB_len]; omega)) (cT i1 (cT rfl (bnd hin (cT rfl (cT rfl (cT (leN_t ?_) ?_))))))
    · show (List.length (outB ys) + 1) * 32 ≤ 140737488355328
      rw [outB_len]; omega
    · show lp 32 0 0 ⟨[(0, .lst b 2 (outB xs)), (3, .sl false 0 0 none), (4, .v (.int .i64 (IntKind.i64.wrap (((done.length : Nat) : Int) + 1))))], [⟨1, 117, 2, false, outB ys ++ [[.lst g 4 (p.2.rows.map Rw.row), .v (.int .i64 p.2.num)]]⟩]⟩ = _
      rw [hw]
      exact ih
theorem s_results (b : Bool) (xs : List (Bool × Res)) (hl : xs.length ≤ 1000000) (hb : bdR xs) : ∃ (f : Bool) (zs : List (Bool × Res)), zs.map Prod.snd = xs.map Prod.snd ∧ ev 32 [.lst b 2 (outB xs)] = some [.ow f 117 2 (outB zs)] := by
  obtain ⟨f', zs, hz, h⟩ := l_res b xs hl hb xs [] [] true rfl rfl
  refine ⟨f', zs, hz, ?_⟩
  rw [ev32]
  exact bnd h (cT rfl (cT rfl rfl))
end Go.Proofs.Ytcinngpelbdopaa
