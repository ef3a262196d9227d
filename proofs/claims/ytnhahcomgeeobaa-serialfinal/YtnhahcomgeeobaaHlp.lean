/- The law's helpers: tables, programs, results. -/
import Derived.Test.YtnhahcomgeeobaaRef3
set_option linter.all false
namespace Go.Proofs.Ytnhahcomgeeobaa
open Go.Ev
theorem l_table (b : Bool) (ts : List Rw) (hlen : ts.length ≤ 1000000) : ∀ (rest done : List Rw) (f : Bool), ts = done ++ rest →
    ∃ f' : Bool, lp 17 0 0 ⟨[(0, .lst b 4 (ts.map Rw.row)), (3, .sl f 0 0 none), (4, .v (.int .i64 ((done.length : Nat) : Int)))], [⟨1, 61, 4, false, done.map Rw.row⟩]⟩ = some ⟨some 0, ⟨[(3, .sl f' 0 0 none)], [⟨1, 61, 4, false, ts.map Rw.row⟩]⟩, []⟩
  | [], done, f, h => by
    refine ⟨f, ?_⟩
    rw [lp17_0]
    exact cF (ltI_f (by rw [List.length_map, h, List.append_nil]; omega)) (by rw [h, List.append_nil])
  | r :: rest, done, f, h => by
    have hlt : done.length < ts.length := by rw [h]; simp
    have hrow : lget (ts.map Rw.row) (Int.toNat ((done.length : Nat) : Int)) = r.row := by
      rw [Int.toNat_natCast, lget_map _ _ _ hlt]
      subst h
      simp
    have hw : IntKind.i64.wrap (((done.length : Nat) : Int) + 1) = (((done ++ [r]).length : Nat) : Int) := by rw [w_i64, List.length_append, List.length_singleton]; omega
    have hin : (leI 0 ((done.length : Nat) : Int) && ltI ((done.length : Nat) : Int) (((List.length (ts.map Rw.row)) : Nat) : Int)) = true := by rw [leI_t (by omega), ltI_t (by rw [List.length_map]; omega)]; rfl
    obtain ⟨f', ih⟩ := l_table b ts hlen rest (done ++ [r]) false (by rw [h]; simp)
    refine ⟨f', ?_⟩
    rw [List.map_append] at ih
    rw [lp17_0, hrow, hw]
    exact cT (ltI_t (by rw [List.length_map]; omega)) (cT hin (cT rfl (cT hin (cT rfl (cT (leN_t (by rw [List.length_map]; omega)) ih)))))
theorem s_table (b : Bool) (ts : List Rw) (hlen : ts.length ≤ 1000000) : ∃ f : Bool, ev 17 [.lst b 4 (ts.map Rw.row)] = some [.lst f 4 (ts.map Rw.row)] := by
  obtain ⟨f', h⟩ := l_table b ts hlen ts [] true rfl
  refine ⟨f', ?_⟩
  rw [ev17]
  exact bnd h (cT rfl (cT rfl rfl))
theorem l_own (b : Bool) (l : List Stm) (hlen : l.length ≤ 1000000) : ∀ (rest done : List Stm) (f : Bool), l = done ++ rest →
    ∃ f' : Bool, lp 26 0 0 ⟨[(0, .lst b 12 (l.map Stm.row)), (3, .sl f 0 0 none), (4, .v (.int .i64 ((done.length : Nat) : Int)))], [⟨1, 64, 12, false, done.map Stm.row⟩]⟩ = some ⟨some 0, ⟨[(3, .sl f' 0 0 none)], [⟨1, 64, 12, false, l.map Stm.row⟩]⟩, []⟩
  | [], done, f, h => by
    refine ⟨f, ?_⟩
    rw [lp26_0]
    exact cF (ltI_f (by rw [List.length_map, h, List.append_nil]; omega)) (by rw [h, List.append_nil])
  | r :: rest, done, f, h => by
    have hlt : done.length < l.length := by rw [h]; simp
    have hrow : lget (l.map Stm.row) (Int.toNat ((done.length : Nat) : Int)) = r.row := by
      rw [Int.toNat_natCast, lget_map _ _ _ hlt]
      subst h
      simp
    have hw : IntKind.i64.wrap (((done.length : Nat) : Int) + 1) = (((done ++ [r]).length : Nat) : Int) := by rw [w_i64, List.length_append, List.length_singleton]; omega
    have hin : (leI 0 ((done.length : Nat) : Int) && ltI ((done.length : Nat) : Int) (((List.length (l.map Stm.row)) : Nat) : Int)) = true := by rw [leI_t (by omega), ltI_t (by rw [List.length_map]; omega)]; rfl
    obtain ⟨f', ih⟩ := l_own b l hlen rest (done ++ [r]) false (by rw [h]; simp)
    refine ⟨f', ?_⟩
    rw [List.map_append] at ih
    rw [lp26_0, hrow, hw]
    exact cT (ltI_t (by rw [List.length_map]; omega)) (cT hin (cT rfl (cT (leN_t (by rw [List.length_map]; omega)) ih)))
theorem s_own (b : Bool) (l : List Stm) (hlen : l.length ≤ 1000000) : ∃ f : Bool, ev 26 [.lst b 12 (l.map Stm.row)] = some [.lst f 12 (l.map Stm.row)] := by
  obtain ⟨f', h⟩ := l_own b l hlen l [] true rfl
  refine ⟨f', ?_⟩
  rw [ev26]
  exact bnd h (cT rfl (cT rfl rfl))
theorem tval_snoc : ∀ (ts : List Rw) (last : Int) (x : Rw), tval last ts = true → (∀ r ∈ ts, r.k < x.k) → last < x.k → x.k ≤ 4294967294 → tval last (ts ++ [x]) = true
  | [], last, x, _, _, h1, h2 => by
    show tval last [x] = true
    unfold tval
    rw [leI_f h1, ltI_f h2]; rfl
  | r :: rs, last, x, h, h0, h1, h2 => by
    show tval last (r :: (rs ++ [x])) = true
    unfold tval at h ⊢
    cases h3 : leI r.k last with
    | true => rw [h3] at h; cases h
    | false =>
      rw [h3] at h
      cases h4 : ltI 4294967294 r.k with
      | true => rw [h4] at h; cases h
      | false =>
        rw [h4] at h
        exact tval_snoc rs r.k x h (fun y hy => h0 y (by simp [hy])) (h0 r (by simp)) h2
theorem pick_rng (a m : Int) (hm : 0 < m) : 0 ≤ pick a m ∧ pick a m < m := by
  unfold pick
  have h1 := Int.emod_nonneg a (b := m) (by omega)
  have h2 := Int.emod_lt_of_pos a hm
  first | exact ⟨h1, h2⟩ | omega
def QR (e : Option LR) : Prop := ∃ (f' : Bool) (ts : List Rw), e = some ⟨some 0, ⟨[(3, .sl f' 0 0 none)], [⟨1, 91, 4, false, ts.map Rw.row⟩]⟩, []⟩ ∧ ts.length ≤ 5 ∧ OkT ts ∧ tval 0 ts = true ∧ (f' = true → ts = [])
theorem QR_of {X Y : Option LR} (hX : QR X) (e : Y = X) : QR Y := by rw [e]; exact hX
theorem l_rows (n : Int) : ∀ (d i : Nat) (acc : List Rw) (f : Bool), i + d = 5 → acc.length ≤ i → OkT acc → tval 0 acc = true → (∀ r ∈ acc, r.k ≤ (i : Int)) → (f = true → acc = []) →
    QR (lp 11 0 0 ⟨[(0, .v (.int .i64 n)), (3, .sl f 0 0 none), (4, .v (.int .i64 ((i : Nat) : Int)))], [⟨1, 91, 4, false, acc.map Rw.row⟩]⟩)
  | 0, i, acc, f, h, h1, h2, h3, h4, h5 => by
    refine ⟨f, acc, ?_, by omega, h2, h3, h5⟩
    rw [lp11_0]
    exact cF (ltI_f (by omega)) rfl
  | d + 1, i, acc, f, h, h1, h2, h3, h4, h5 => by
    have hw : IntKind.i64.wrap (((i : Nat) : Int) + 1) = ((i + 1 : Nat) : Int) := by rw [w_i64]; omega
    have hu : ltI (IntKind.u64.wrap ((i : Nat) : Int)) 0 = false := ltI_f (by rw [w_u64]; omega)
    have hw2 : IntKind.u32.wrap ((i + 1 : Nat) : Int) = ((i + 1 : Nat) : Int) := by rw [w_u32]; omega
    rw [lp11_0, hw]
    cases hb : (bits .and .i64 (Int.fdiv (pick n 32) (2 ^ (min (Int.toNat (IntKind.u64.wrap ((i : Nat) : Int))) 64))) 1 == 1) with
    | true =>
      have hp := pick_rng (IntKind.i64.wrap (Int.tdiv n 32)) 4 (by decide)
      have ih := l_rows n d (i + 1) (acc ++ [⟨((i + 1 : Nat) : Int), pick (IntKind.i64.wrap (Int.tdiv n 32)) 4, ((i : Nat) : Int), 9223372036854775807⟩]) false (by omega) (by rw [List.length_append, List.length_singleton]; omega)
        (fun x hx => by
          rcases List.mem_append.1 hx with hx | hx
          · exact h2 x hx
          · rcases List.mem_singleton.1 hx with rfl
            exact ⟨⟨by simp only; omega, by simp only; omega⟩, ⟨by simp only; omega, by simp only; omega⟩, ⟨by simp only; omega, by simp only; omega⟩, by simp only; omega, by simp only; omega⟩)
        (tval_snoc acc 0 _ h3 (fun r hr => by have := h4 r hr; simp only; omega) (by simp only; omega) (by simp only; omega))
        (fun x hx => by
          rcases List.mem_append.1 hx with hx | hx
          · have := h4 x hx; omega
          · rcases List.mem_singleton.1 hx with rfl
            simp)
        (fun e => by cases e)
      refine QR_of ih ?_
      refine cT (ltI_t (by omega)) (bnd (s_Pick n 32 (by decide) (by decide)) (cT rfl (cF hu (cT hb (bnd (s_Pick _ 4 (by decide) (by decide)) (cT rfl (cT (leN_t (by rw [List.length_map]; omega)) ?_)))))))
      rw [hw2, List.map_append]; rfl
    | false =>
      have ih := l_rows n d (i + 1) acc f (by omega) (by omega) h2 h3 (fun r hr => by have := h4 r hr; omega) h5
      refine QR_of ih ?_
      exact cT (ltI_t (by omega)) (bnd (s_Pick n 32 (by decide) (by decide)) (cT rfl (cF hu (cF hb rfl))))
theorem s_rows (n : Int) : ∃ (f : Bool) (ts : List Rw), ev 11 [.v (.int .i64 n)] = some [.lst f 4 (ts.map Rw.row)] ∧ ts.length ≤ 5 ∧ OkT ts ∧ tval 0 ts = true ∧ (f = true → ts = []) := by
  obtain ⟨f, ts, h, h1⟩ := l_rows n 5 0 [] true rfl (Nat.le_refl _) (fun x hx => by cases hx) rfl (fun x hx => by cases hx) (fun _ => rfl)
  refine ⟨f, ts, ?_, h1⟩
  rw [ev11]
  exact bnd h (cT rfl (cT rfl rfl))
def lsEq {α : Type} (p : α → α → Bool) : List α → List α → Bool
  | [], [] => true
  | a :: xs, b :: ys => p a b && lsEq p xs ys
  | _, _ => false
theorem lsEq_iff {α : Type} {p : α → α → Bool} (h : ∀ a b, p a b = true ↔ a = b) : ∀ xs ys : List α, lsEq p xs ys = true ↔ xs = ys
  | [], [] => by simp [lsEq]
  | [], b :: ys => by simp [lsEq]
  | a :: xs, [] => by simp [lsEq]
  | a :: xs, b :: ys => by simp [lsEq, h, lsEq_iff h xs ys]
theorem lsEq_len {α : Type} {p : α → α → Bool} : ∀ xs ys : List α, xs.length ≠ ys.length → lsEq p xs ys = false
  | [], [], h => by simp at h
  | [], b :: ys, _ => rfl
  | a :: xs, [], _ => rfl
  | a :: xs, b :: ys, h => by simp [lsEq, lsEq_len xs ys (by simpa using h)]
def rwEq (x y : Rw) : Bool := (x.k == y.k) && ((x.a == y.a) && ((x.b == y.b) && (x.c == y.c)))
theorem rwEq_iff (x y : Rw) : rwEq x y = true ↔ x = y := by
  obtain ⟨a, b, c, d⟩ := x
  obtain ⟨a', b', c', d'⟩ := y
  simp [rwEq]
theorem l_same (b1 b2 : Bool) (xs ys : List Rw) (hl : xs.length ≤ 1000000) : ∀ (r1 r2 d1 d2 : List Rw), xs = d1 ++ r1 → ys = d2 ++ r2 → d1.length = d2.length → r1.length = r2.length →
    lp 28 0 0 ⟨[(0, .lst b1 4 (xs.map Rw.row)), (1, .lst b2 4 (ys.map Rw.row)), (5, .v (.int .i64 ((d1.length : Nat) : Int)))], []⟩ = bif lsEq rwEq r1 r2 then some ⟨some 0, ⟨[], []⟩, []⟩ else some ⟨none, ⟨[], []⟩, [.v (.bool false)]⟩
  | [], [], d1, d2, h1, h2, h3, _ => by
    rw [lp28_0]
    exact cF (ltI_f (by rw [List.length_map, h1, List.append_nil]; omega)) rfl
  | [], b :: r2, d1, d2, h1, h2, h3, h4 => by simp at h4
  | a :: r1, [], d1, d2, h1, h2, h3, h4 => by simp at h4
  | a :: r1, b :: r2, d1, d2, h1, h2, h3, h4 => by
    have hx : d1.length < xs.length := by rw [h1]; simp
    have hy : d1.length < ys.length := by rw [h2, h3]; simp
    have e1 : lget (xs.map Rw.row) (Int.toNat ((d1.length : Nat) : Int)) = a.row := by
      rw [Int.toNat_natCast, lget_map _ _ _ hx]; subst h1; simp
    have e2 : lget (ys.map Rw.row) (Int.toNat ((d1.length : Nat) : Int)) = b.row := by
      rw [Int.toNat_natCast, lget_map _ _ _ hy]; subst h2; simp [h3]
    have hw : IntKind.i64.wrap (((d1.length : Nat) : Int) + 1) = (((d1 ++ [a]).length : Nat) : Int) := by rw [w_i64, List.length_append, List.length_singleton]; omega
    have ih := l_same b1 b2 xs ys hl r1 r2 (d1 ++ [a]) (d2 ++ [b]) (by rw [h1]; simp) (by rw [h2]; simp) (by simp [h3]) (by simpa using h4)
    rw [lp28_0, e1, e2, hw]
    refine cT (ltI_t (by rw [List.length_map]; omega)) (cT (by rw [leI_t (by omega), ltI_t (by rw [List.length_map]; omega)]; rfl) (cT rfl (cT (by rw [leI_t (by omega), ltI_t (by rw [List.length_map]; omega)]; rfl) (cT rfl ?_))))
    show cond (!(rwEq a b)) _ _ = bif (rwEq a b && lsEq rwEq r1 r2) then _ else _
    cases rwEq a b with
    | true => exact cF rfl ih
    | false => exact cT rfl rfl
theorem s_same (b1 b2 : Bool) (xs ys : List Rw) (hl : xs.length ≤ 1000000) : ev 28 [.lst b1 4 (xs.map Rw.row), .lst b2 4 (ys.map Rw.row)] = some [.v (.bool (lsEq rwEq xs ys))] := by
  rw [ev28]
  by_cases h : xs.length = ys.length
  · have hl2 := l_same b1 b2 xs ys hl xs ys [] [] rfl rfl rfl h
    refine cF (by rw [List.length_map, List.length_map, h, beq_self_i]; rfl) ?_
    cases hc : lsEq rwEq xs ys with
    | true => rw [hc] at hl2; exact bnd hl2 (cT rfl (cT rfl rfl))
    | false => rw [hc] at hl2; exact bnd hl2 (cF rfl (cT rfl rfl))
  · rw [lsEq_len _ _ h]
    refine cT ?_ rfl
    rw [List.length_map, List.length_map, Bool.not_eq_true', beq_eq_false_iff_ne]
    omega
theorem outB_get (acc : List (Bool × Res)) (d rest : List (Bool × Res)) (p : Bool × Res) (h : acc = d ++ p :: rest) : lget (outB acc) (Int.toNat ((d.length : Nat) : Int)) = p.2.cells p.1 := by
  rw [Int.toNat_natCast]
  unfold outB
  rw [lget_map _ _ _ (by rw [h]; simp)]
  subst h
  simp
def bdR (acc : List (Bool × Res)) : Prop := ∀ p ∈ acc, p.2.rows.length ≤ 1000000
end Go.Proofs.Ytnhahcomgeeobaa
