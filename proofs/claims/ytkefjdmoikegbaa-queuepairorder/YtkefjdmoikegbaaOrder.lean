/- QueuepairOrder. -/
import Derived.Test.YtkefjdmoikegbaaSet
set_option linter.all false
namespace Go.Proofs.Ytkefjdmoikegbaa
open Go.Ev Go.RowKit
attribute [local congr] bind_first cond_first
set_option maxRecDepth 10000
theorem pcs_len8 : ∀ (k : Nat) (a l : Int), l ≤ k → 0 ≤ a → a + l ≤ 1000000 → 0 ≤ l → 8 * ((pcs a l).length : Int) ≤ l + a % 8 + 7
  | 0, a, l, hk, h0, h1, h2 => by rw [pcs_neg hk]; simp only [List.length_nil]; omega
  | k + 1, a, l, hk, h0, h1, h2 => by
    by_cases h : 0 < l
    · have hp := pcN_pos (a := a) h
      have e : pcN a l = if 8 - a % 8 < l then 8 - a % 8 else l := by
        have e : a.tmod 8 = a % 8 := Int.tmod_eq_emod_of_nonneg h0
        have := w8 a
        unfold pcN
        rw [this.1, e]
      have ih := pcs_len8 k (a + pcN a l) (l - pcN a l) (by omega) (by omega) (by omega) (by omega)
      rw [pcs_step h0 h1 h, List.length_cons]
      split at e
      · have : (a + pcN a l) % 8 = 0 := by rw [e]; omega
        omega
      · have hz : (pcs (a + pcN a l) (l - pcN a l)).length = 0 := by rw [pcs_neg (by omega)]; rfl
        rw [hz]; omega
    · rw [pcs_neg (by omega)]; simp only [List.length_nil]; omega
theorem splice_snoc (xs : List Int) (n : Nat) (ys : List Int) (y : Int) (h : n + ys.length < xs.length) : splice xs n (ys ++ [y]) = (splice xs n ys).set (n + ys.length) y := by
  have l1 : (ys ++ [y]).length = ys.length + 1 := by simp
  have e1 := splice_len xs n ys (by omega)
  have e2 := splice_len xs n (ys ++ [y]) (by omega)
  refine ext_getD (by rw [List.length_set]; omega) fun i hi => ?_
  rw [splice_getD _ _ _ (by omega), l1]
  by_cases c : i = n + ys.length
  · subst c
    rw [if_neg (by omega), if_pos (by omega)]
    simp only [List.getD_eq_getElem?_getD]
    rw [List.getElem?_set_self (by omega), show n + ys.length - n = ys.length by omega, List.getElem?_append_right (by omega), Nat.sub_self]
    rfl
  · have e3 : ((splice xs n ys).set (n + ys.length) y).getD i 0 = (splice xs n ys).getD i 0 := by
      simp only [List.getD_eq_getElem?_getD]
      rw [List.getElem?_set_ne (by omega)]
    rw [e3, splice_getD _ _ _ (by omega)]
    by_cases c1 : i < n
    · rw [if_pos c1, if_pos c1]
    · rw [if_neg c1, if_neg c1]
      by_cases c2 : i < n + ys.length
      · rw [if_pos (by omega), if_pos c2]
        simp only [List.getD_eq_getElem?_getD]
        rw [List.getElem?_append_left (by omega)]
      · rw [if_neg (by omega), if_neg c2]
/-- The words of the j-th write. -/
def oY (s j : Int) (k : Nat) : Int := IntKind.u64.wrap (s + IntKind.u64.wrap (IntKind.i64.wrap (IntKind.i64.wrap (100 * j) + (k : Int))))
def oW (s j : Int) (n : Nat) : List Int := (List.range n).map (oY s j)
theorem oW_succ (s j : Int) (n : Nat) : oW s j (n + 1) = oW s j n ++ [oY s j n] := by
  unfold oW; rw [List.range_succ, List.map_append]; rfl
theorem oW_len (s j : Int) (n : Nat) : (oW s j n).length = n := by unfold oW; simp
theorem l_in (x0n : Bool) (x0 : List (List AV)) (s j : Int) (f : Bool) (a : Int) (n : Nat) (hn : n ≤ 100) (ha : 40 ≤ a ∧ a + n ≤ 320) (p : Pr) (ws : List Int) (c inc : Int) (rq : List (List AV)) (rn : Bool) (rw : List (List AV)) (m : List Int) (hm : m.length = 320) : ∀ (k i : Nat) (b : List (List AV)), i + k = n → b.length = n → b.take i = (oW s j i).map wr →
    lp 3 1 0 ⟨[(0, .lst x0n 1 x0), (1, .v (.int .u64 s)), (5, .ptr 0 0 0), (7, .sl f 10 0 none), (8, .v (.int .i64 j)), (9, .v (.int .i64 a)), (10, .v (.int .i64 n)), (11, .sl false 11 0 none), (12, .v (.int .i64 (i : Int)))], qB p ws false (rB c inc rq rn rw true [⟨1, 23, 1, false, (splice m a.toNat (oW s j i)).map wr⟩, ⟨1, 23, 1, false, b⟩])⟩ =
      some ⟨some 2, ⟨[(0, .lst x0n 1 x0), (1, .v (.int .u64 s)), (5, .ptr 0 0 0), (7, .sl f 10 0 none), (8, .v (.int .i64 j)), (9, .v (.int .i64 a)), (11, .sl false 11 0 none)], qB p ws false (rB c inc rq rn rw true [⟨1, 23, 1, false, (splice m a.toNat (oW s j n)).map wr⟩, ⟨1, 23, 1, false, (oW s j n).map wr⟩])⟩, []⟩
  | 0, i, b, hi, hb, ht => by
    obtain rfl : i = n := by omega
    unfold qB rB
    rw [lp3_1, ltI_f (by omega)]
    rw [List.take_of_length_le (by omega)] at ht
    rw [ht]; rfl
  | k + 1, i, b, hi, hb, ht => by
    have ih := l_in x0n x0 s j f a n hn ha p ws c inc rq rn rw m hm k (i + 1) (b.set i (wr (oY s j i))) (by omega) (by rw [List.length_set, hb]) (by rw [take_set _ _ _ (by omega), ht, oW_succ, List.map_append]; rfl)
    have hl : (oW s j i).length = i := oW_len s j i
    have hs := splice_len m a.toNat (oW s j i) (by omega)
    rw [oW_succ, splice_snoc _ _ _ _ (by omega), hl, ← set_wr] at ih
    unfold qB rB at *
    have e1 : IntKind.i64.wrap ((i : Int) + 1) = ((i + 1 : Nat) : Int) := by rw [w_i64]; omega
    have e2 : IntKind.i64.wrap (a + (i : Int)) = a + (i : Int) := by rw [w_i64]; omega
    have hg : lget (b.set i [.v (.int .u64 (oY s j i))]) i = [.v (.int .u64 (oY s j i))] := by
      unfold lget
      rw [List.getD_eq_getElem?_getD, List.getElem?_set_self (by omega)]; rfl
    rw [lp3_1, ltI_t (by omega), leI_t (show (0 : Int) ≤ i by omega), ltI_t (show (i : Int) < (b.length - 0 : Nat) by omega), Int.toNat_natCast, Nat.zero_add, ltN_t (by omega), e1, e2, List.length_map, hs, show 0 + (a + (i : Int)).toNat = a.toNat + i by omega]
    refine cT rfl (cT rfl ?_)
    show cond (true && ltI (i : Int) (((b.set i [.v (.int .u64 (oY s j i))]).length - 0 : Nat) : Int)) _ _ = _
    refine cT (by rw [List.length_set, ltI_t (by omega)]; rfl) ?_
    show cond (ltN i (b.set i [.v (.int .u64 (oY s j i))]).length && isI .u64 (cellAt (lget (b.set i [.v (.int .u64 (oY s j i))]) i) 0)) _ _ = _
    refine cT (by rw [hg, List.length_set, ltN_t (by omega)]; rfl) (cT (by rw [leI_t (by omega), ltI_t (by omega)]; rfl) (cT (ltN_t (by omega)) ?_))
    show lp 3 1 0 ⟨[_, _, _, _, _, _, _, _, _], [_, _, _, _, _, _, _, _, _, _, ⟨1, 23, 1, false, List.set _ _ [.v (.int .u64 (avInt (cellAt (lget (b.set i [.v (.int .u64 (oY s j i))]) i) 0)))]⟩, _]⟩ = _
    rw [hg]
    exact ih
/-- Writes, one after another. -/
abbrev Wt := Int × List Int
def WsOk (q : List Wt) : Prop := ∀ x ∈ q, WOk x.1 x.2 ∧ x.2.length ≤ 30
def wVs (q : List Wt) : List Vb := q.map fun x => wV x.1 x.2
def apply (q : List Wt) (m : List Int) : List Int := q.foldl (fun m x => splice m x.1.toNat x.2) m
theorem apply_snoc (q : List Wt) (x : Wt) (m : List Int) : apply (q ++ [x]) m = splice (apply q m) x.1.toNat x.2 := by unfold apply; rw [List.foldl_append]; rfl
theorem apply_len : ∀ (q : List Wt) (m : List Int), WsOk q → m.length = 320 → (apply q m).length = 320
  | [], m, _, hm => hm
  | x :: r, m, hq, hm => by
    have hx := (hq x List.mem_cons_self).1
    have h1 := hx.lo; have h3 := hx.hi
    exact apply_len r _ (fun y hy => hq y (List.mem_cons_of_mem _ hy)) (by rw [splice_len _ _ _ (by omega)]; exact hm)
theorem apply_same : ∀ (q : List Wt) (m m' : List Int) (i : Nat), WsOk q → m.length = 320 → m'.length = 320 → m.getD i 0 = m'.getD i 0 → (apply q m).getD i 0 = (apply q m').getD i 0
  | [], m, m', i, _, _, _, h => h
  | x :: r, m, m', i, hq, h1, h2, h => by
    have hx := (hq x List.mem_cons_self).1
    have g1 := hx.lo; have g3 := hx.hi
    refine apply_same r _ _ i (fun y hy => hq y (List.mem_cons_of_mem _ hy)) (by rw [splice_len _ _ _ (by omega)]; exact h1) (by rw [splice_len _ _ _ (by omega)]; exact h2) ?_
    rw [splice_getD _ _ _ (by omega), splice_getD _ _ _ (by omega), h]
def cost (q : List Wt) : Nat := (q.map fun x => (pcs x.1 x.2.length).length).sum
/-- The node when i pieces of the first write have been executed. -/
def part (m : List Int) : List Wt → Nat → List Int
  | [], _ => m
  | x :: _, i => splice m x.1.toNat (x.2.take (((pcs x.1 x.2.length).getD i (0, 0)).1 - x.1).toNat)
theorem pcs_at {a : Int} {w : List Int} (hw : WOk a w) {i : Nat} (hi : i < (pcs a w.length).length) :
    a ≤ ((pcs a w.length).getD i (0, 0)).1 ∧ 1 ≤ ((pcs a w.length).getD i (0, 0)).2 ∧ ((pcs a w.length).getD i (0, 0)).1 + ((pcs a w.length).getD i (0, 0)).2 ≤ a + w.length := by
  have h1 := hw.lo; have h3 := hw.hi
  have := pcs_mem w.length a w.length (Int.le_refl _) (by omega) (by omega) _ (mem_getD _ (0, 0) i hi)
  omega
theorem part_ok {m : List Int} {x : Wt} {r : List Wt} {i : Nat} (hm : MemOk m) (hw : WOk x.1 x.2) (hi : i < (pcs x.1 x.2.length).length) : MemOk (part m (x :: r) i) := by
  have h1 := hw.lo; have h3 := hw.hi
  have := pcs_at hw hi
  exact hm.splice (by omega) (by simp only [List.length_take]; omega)
theorem part_zero {m : List Int} (q : List Wt) (hq : WsOk q) : part m q 0 = m := by
  cases q with
  | nil => rfl
  | cons x r =>
    have hw := (hq x List.mem_cons_self).1
    have h1 := hw.lo; have h2 := hw.pos; have h3 := hw.hi
    show splice m x.1.toNat (x.2.take (((pcs x.1 x.2.length).getD 0 (0, 0)).1 - x.1).toNat) = m
    rw [pcs_head x.1 x.2.length (by omega) (by omega) (by omega), Int.sub_self]
    exact splice_nil _ _
theorem part_step {m : List Int} {x : Wt} {r : List Wt} {i : Nat} (hm : MemOk m) (hw : WOk x.1 x.2) (hi : i < (pcs x.1 x.2.length).length) :
    (wV x.1 x.2).mem ((pcs x.1 x.2.length).getD i (0, 0)) (part m (x :: r) i) = if i + 1 < (pcs x.1 x.2.length).length then part m (x :: r) (i + 1) else splice m x.1.toNat x.2 := by
  have h1 := hw.lo; have h3 := hw.hi
  have g := pcs_at hw hi
  have hl := hm.len
  have hn := pcs_next x.2.length x.1 x.2.length (Int.le_refl _) (by omega) (by omega) i hi
  show splice (part m (x :: r) i) ((pcs x.1 x.2.length).getD i (0, 0)).1.toNat ((x.2.drop (((pcs x.1 x.2.length).getD i (0, 0)).1 - x.1).toNat).take ((pcs x.1 x.2.length).getD i (0, 0)).2.toNat) = _
  unfold part
  have e1 : ((pcs x.1 x.2.length).getD i (0, 0)).1.toNat = x.1.toNat + (((pcs x.1 x.2.length).getD i (0, 0)).1 - x.1).toNat := by omega
  rw [e1, splice_splice _ _ _ _ _ (by omega) (by omega)]
  split
  · rename_i hlt
    rw [if_pos hlt] at hn
    show _ = splice m x.1.toNat (x.2.take (((pcs x.1 x.2.length).getD (i + 1) (0, 0)).1 - x.1).toNat)
    rw [← hn]
    congr 2; omega
  · rename_i hlt
    rw [if_neg hlt] at hn
    rw [List.take_of_length_le (by omega)]
theorem l_run (f : Bool) (c inc : Int) (rq : List (List AV)) (rn : Bool) (rw : List (List AV)) (B : List (List AV)) : ∀ (k : Nat) (q : List Wt) (i : Nat) (m : List Int) (t : Nat) (wn qn : Bool), WsOk q → MemOk m → cost q = i + k → (q = [] → i = 0) → (∀ x r, q = x :: r → i < (pcs x.1 x.2.length).length) →
    t + k ≤ 300 → (qn = true → q = []) → q.length ≤ 1024 → ∃ qn' wn' : Bool,
    lp 3 2 0 ⟨[(5, .ptr 0 0 0), (7, .sl f 10 0 none), (13, .v (.int .i64 (t : Int)))], qB ⟨0, 1, 0, qn, wVs q, i, wn, []⟩ (part m q i) false (rB c inc rq rn rw true [⟨1, 23, 1, false, B⟩])⟩ =
      some ⟨some 4, ⟨[(5, .ptr 0 0 0), (7, .sl f 10 0 none)], qB ⟨0, 1, 0, qn', [], 0, wn', []⟩ (apply q m) false (rB c inc rq rn rw true [⟨1, 23, 1, false, B⟩])⟩, []⟩ := by
  intro k
  induction k with
  | zero =>
    intro q i m t wn qn hq hm hc hi hx ht hqn hql
    cases q with
    | nil =>
      obtain rfl := hi rfl
      refine ⟨qn, wn, ?_⟩
      have hp := s_Pending ⟨0, 1, 0, qn, wVs [], (0 : Nat), wn, []⟩
      unfold pP at hp
      unfold qB rB
      rw [lp3_2]
      exact bnd hp (cT rfl (cF rfl rfl))
    | cons x r =>
      have := hx x r rfl
      unfold cost at hc
      simp only [List.map_cons, List.sum_cons] at hc
      omega
  | succ k ih =>
    intro q i m t wn qn hq hm hc hi hx ht hqn hql
    cases q with
    | nil =>
      exfalso
      have := hi rfl
      unfold cost at hc
      simp only [List.map_nil, List.sum_nil] at hc
      omega
    | cons x r =>
      have hlt := hx x r rfl
      have hw := (hq x List.mem_cons_self).1
      have hqn' : qn = false := by
        cases qn with
        | false => rfl
        | true => cases hqn rfl
      subst hqn'
      have hpo := part_ok (r := r) hm hw hlt
      have hp := s_Pending ⟨0, 1, 0, false, wVs (x :: r), i, wn, []⟩
      have hs := s_Step_w ⟨0, 1, 0, false, wVs (x :: r), i, wn, []⟩ (part m (x :: r) i) (i := i) (r := wVs r) hw hpo rfl rfl rfl rfl (by show (wVs (x :: r)).length ≤ 1024; unfold wVs; rw [List.length_map]; exact hql) rfl hlt rfl
      rw [part_step hm hw hlt] at hs
      have hpl := pcs_len x.1 x.2.length
      have h1 := hw.lo; have h3 := hw.hi
      have e1 : IntKind.i64.wrap ((t : Int) + 1) = ((t + 1 : Nat) : Int) := by rw [w_i64]; omega
      have hpos : ltI 0 (((wVs (x :: r)).length : Nat) : Int) = true := ltI_t (by unfold wVs; simp only [List.length_map, List.length_cons]; omega)
      have hcons : cost (x :: r) = (pcs x.1 x.2.length).length + cost r := by unfold cost; simp only [List.map_cons, List.sum_cons]
      by_cases hlast : i + 1 < (pcs x.1 x.2.length).length
      · rw [if_pos hlast, if_pos hlast] at hs
        obtain ⟨qn', wn', ih⟩ := ih (x :: r) (i + 1) m (t + 1) wn false hq hm (by omega) (fun h => by cases h) (fun y s h => by cases h; exact hlast) (by omega) (fun h => by cases h) hql
        refine ⟨qn', wn', ?_⟩
        unfold pP at hp
        unfold pO at hs
        unfold qB rB at *
        rw [lp3_2, e1]
        exact bnd hp (cT rfl (cT hpos (cF (ltI_f (by omega)) (bnd hs (cT rfl (cT rfl (cT rfl (cT rfl (cF rfl ih)))))))))
      · rw [if_neg hlast, if_neg hlast] at hs
        have hm' : MemOk (splice m x.1.toNat x.2) := hm.splice (by omega) (by omega)
        have hq' : WsOk r := fun y hy => hq y (List.mem_cons_of_mem _ hy)
        obtain ⟨qn', wn', ih⟩ := ih r 0 (splice m x.1.toNat x.2) (t + 1) true false hq' hm' (by omega) (fun _ => rfl) (fun y s h => by
          have hy := (hq' y (by rw [h]; exact List.mem_cons_self)).1
          exact List.length_pos_iff.2 (pcs_ne (by have := hy.pos; omega))) (by omega) (fun h => by cases h) (by simp only [List.length_cons] at hql; omega)
        rw [part_zero r hq'] at ih
        refine ⟨qn', wn', ?_⟩
        unfold pP at hp
        unfold pO pZ at hs
        unfold qB rB at *
        rw [lp3_2, e1]
        exact bnd hp (cT rfl (cT hpos (cF (ltI_f (by omega)) (bnd hs (cT rfl (cT rfl (cT rfl (cT rfl (cT rfl (cF rfl ih))))))))))
theorem wV_fit {a : Int} {w : List Int} (hw : WOk a w) : (wV a w).Wf := ⟨fun h => (by cases h), (by have h1 := hw.lo; have h3 := hw.hi; show w.length ≤ 100000; omega)⟩
theorem post_ok (qn : Bool) (q : List Wt) (a : Int) (w : List Int) (hw : WOk a w) (hl : q.length < 1024) :
    ev 11 [pO ⟨0, 1, 0, qn, wVs q, 0, true, []⟩, .agg (wV a w).row, .v (.int .i64 40)] = some [.v (.int .i64 0), pO ⟨0, 1, 0, false, wVs (q ++ [(a, w)]), 0, true, []⟩] := by
  have hql : (wVs q).length = q.length := by unfold wVs; rw [List.length_map]
  have h := s_Post ⟨0, 1, 0, qn, wVs q, 0, true, []⟩ (wV a w) 40 (wV_fit hw) (by show (wVs q).length ≤ 1024; omega)
  have hE : Pr.postE ⟨0, 1, 0, qn, wVs q, 0, true, []⟩ (wV a w) 40 = 0 := by
    unfold Pr.postE
    rw [bad_zero.2 hw.good, if_neg (by decide), if_neg (by show ¬ ((0 : Int) ≠ 0); decide), if_neg (by show ¬ (1024 ≤ (wVs q).length); omega)]
  unfold Pr.post at h
  rw [hE, if_pos rfl] at h
  rw [h]
  show some [_, pO ⟨0, 1, 0, false, wVs q ++ [wV a w], 0, true, []⟩] = some [_, pO ⟨0, 1, 0, false, wVs (q ++ [(a, w)]), 0, true, []⟩]
  unfold wVs; rw [List.map_append]; rfl
def cntW (a : Int) : Nat := (pick (IntKind.i64.wrap (Int.tdiv a 200)) 30 + 1).toNat
def wt (s : Int) (j : Nat) (a : Int) : Wt := (40 + pick a 200, oW s j (cntW a))
theorem wt_ok (s : Int) (j : Nat) (a : Int) : WOk (wt s j a).1 (wt s j a).2 ∧ (wt s j a).2.length ≤ 30 := by
  have p0 := Int.emod_nonneg a (show (200 : Int) ≠ 0 by decide)
  have p0' := Int.emod_lt_of_pos a (show (0 : Int) < 200 by decide)
  have p1 := Int.emod_nonneg (IntKind.i64.wrap (Int.tdiv a 200)) (show (30 : Int) ≠ 0 by decide)
  have p1' := Int.emod_lt_of_pos (IntKind.i64.wrap (Int.tdiv a 200)) (show (0 : Int) < 30 by decide)
  have hl : (wt s j a).2.length = cntW a := oW_len _ _ _
  unfold cntW pick at hl
  refine ⟨⟨?_, ?_, ?_⟩, ?_⟩
  · show 40 ≤ 40 + a % 200; omega
  · omega
  · show 40 + a % 200 + ((wt s j a).2.length : Int) ≤ 320; omega
  · omega
def wts (s : Int) (ls : List Int) (i : Nat) : List Wt := (List.range i).map fun j => wt s j (ls.getD j 0)
theorem wts_succ (s : Int) (ls : List Int) (i : Nat) : wts s ls (i + 1) = wts s ls i ++ [wt s i (ls.getD i 0)] := by
  unfold wts; rw [List.range_succ, List.map_append]; rfl
theorem wts_len (s : Int) (ls : List Int) (i : Nat) : (wts s ls i).length = i := by unfold wts; simp
theorem wts_ok (s : Int) (ls : List Int) (i : Nat) : WsOk (wts s ls i) := by
  intro x hx
  unfold wts at hx
  obtain ⟨j, _, rfl⟩ := List.mem_map.1 hx
  exact wt_ok _ _ _
abbrev ir (a : Int) : List AV := [.v (.int .i64 a)]
theorem l_out (x0n : Bool) (ls : List Int) (hls : ls.length ≤ 30) (s : Int) (c inc : Int) (rq : List (List AV)) (rn : Bool) (rw : List (List AV)) (W0 : List Int) (hW : W0.length = 320) : ∀ (k i : Nat) (qn : Bool), i + k = ls.length → (qn = true → i = 0) → ∃ qn' : Bool, (qn' = true → ls.length = 0) ∧
    lp 3 0 0 ⟨[(0, .lst x0n 1 (ls.map ir)), (1, .v (.int .u64 s)), (5, .ptr 0 0 0), (7, .sl false 10 0 none), (8, .v (.int .i64 (i : Int)))], qB ⟨0, 1, 0, qn, wVs (wts s ls i), 0, true, []⟩ mem0 false (rB c inc rq rn rw true [⟨1, 23, 1, false, (apply (wts s ls i) W0).map wr⟩])⟩ =
      some ⟨some 0, ⟨[(5, .ptr 0 0 0), (7, .sl false 10 0 none)], qB ⟨0, 1, 0, qn', wVs (wts s ls ls.length), 0, true, []⟩ mem0 false (rB c inc rq rn rw true [⟨1, 23, 1, false, (apply (wts s ls ls.length) W0).map wr⟩])⟩, []⟩
  | 0, i, qn, hi, hq => by
    obtain rfl : i = ls.length := by omega
    refine ⟨qn, hq, ?_⟩
    unfold qB rB
    rw [lp3_0, List.length_map, ltI_f (by omega)]
    rfl
  | k + 1, i, qn, hi, hq => by
    obtain ⟨qn', hq', ih⟩ := l_out x0n ls hls s c inc rq rn rw W0 hW k (i + 1) false (by omega) (fun h => by cases h)
    refine ⟨qn', hq', ?_⟩
    have hlt : i < ls.length := by omega
    have hok := wt_ok s i (ls.getD i 0)
    have hal := apply_len (wts s ls i) W0 (wts_ok s ls i) hW
    have e1 : IntKind.i64.wrap ((i : Int) + 1) = ((i + 1 : Nat) : Int) := by rw [w_i64]; omega
    have hg : lget (ls.map ir) (Int.toNat (i : Int)) = [.v (.int .i64 (ls.getD i 0))] := by rw [Int.toNat_natCast]; exact lget_mapD ir ls 0 i hlt
    have hpo := post_ok qn (wts s ls i) (wt s i (ls.getD i 0)).1 (wt s i (ls.getD i 0)).2 hok.1 (by rw [wts_len]; omega)
    rw [wts_succ, apply_snoc] at ih
    generalize hav : ls.getD i 0 = av at *
    have p0 := Int.emod_nonneg av (show (200 : Int) ≠ 0 by decide)
    have p0' := Int.emod_lt_of_pos av (show (0 : Int) < 200 by decide)
    have p1 := Int.emod_nonneg (IntKind.i64.wrap (Int.tdiv av 200)) (show (30 : Int) ≠ 0 by decide)
    have p1' := Int.emod_lt_of_pos (IntKind.i64.wrap (Int.tdiv av 200)) (show (0 : Int) < 30 by decide)
    have e2 : IntKind.i64.wrap (40 + pick av 200) = 40 + pick av 200 := by unfold pick; rw [w_i64]; omega
    have e3 : IntKind.i64.wrap (pick (IntKind.i64.wrap (Int.tdiv av 200)) 30 + 1) = (cntW av : Int) := by
      unfold cntW pick; rw [w_i64]; omega
    have hcw : 1 ≤ cntW av ∧ cntW av ≤ 30 := by unfold cntW pick; omega
    have hin := l_in x0n (ls.map ir) s i false (40 + pick av 200) (cntW av) (by omega) (by unfold pick; omega) ⟨0, 1, 0, qn, wVs (wts s ls i), 0, true, []⟩ mem0 c inc rq rn rw (apply (wts s ls i) W0) hal (cntW av) 0 (List.replicate (cntW av) [.v (.int .u64 0)]) (by omega) (List.length_replicate ..) (by simp [oW])
    rw [show oW s i 0 = [] from rfl, splice_nil] at hin
    unfold qB rB at *
    rw [lp3_0, List.length_map, ltI_t (by omega), leI_t (show (0 : Int) ≤ i by omega), hg]
    refine cT rfl (cT rfl (cT rfl (bnd (s_Pick av 200 (by decide) (by decide)) (cT rfl (cT rfl (cT rfl (bnd (s_Pick (IntKind.i64.wrap (Int.tdiv av 200)) 30 (by decide) (by decide)) (cT rfl ?_))))))))
    simp -implicitDefEqProofs only [cellAt_zero, avInt_v]
    rw [e2, e3, leI_t (show (0 : Int) ≤ (cntW av : Int) by omega), leI_t (Int.le_refl (cntW av : Int)), leI_t (show (cntW av : Int) * 8 ≤ 281474976710656 by omega), leI_t (show (cntW av : Int) ≤ 281474976710656 by omega), Int.toNat_natCast]
    refine cT rfl (bnd hin (cT rfl (cT rfl (bnd hpo (cT rfl (cT rfl (cF rfl ?_)))))))
    show lp 3 0 0 ⟨[_, _, _, _, (8, .v (.int .i64 (IntKind.i64.wrap ((i : Int) + 1))))], _⟩ = _
    rw [e1]
    exact ih
theorem order_law (x0n : Bool) (ls : List Int) (s : Int) : ev 3 [.lst x0n 1 (ls.map ir), .v (.int .u64 s)] = some [.v (.bool true)] := by
  rw [ev3, List.length_map]
  by_cases hls : 30 < ls.length
  · exact cT (ltI_t (by omega)) rfl
  refine cF (ltI_f (by omega)) ?_
  have hW : (List.replicate 320 (0 : Int)).length = 320 := List.length_replicate ..
  obtain ⟨qn1, hq1, hout⟩ := l_out x0n ls (by omega) s 0 1 [] true (mem0.map wr) (List.replicate 320 0) hW ls.length 0 true (by omega) (fun _ => rfl)
  have hok := wts_ok s ls ls.length
  have hcost : ∀ i, i ≤ ls.length → cost (wts s ls i) ≤ 5 * i := by
    intro i
    induction i with
    | zero => intro _; exact Nat.le_refl 0
    | succ i ih =>
      intro h
      have h1 := ih (by omega)
      have h2 := wt_ok s i (ls.getD i 0)
      have g1 := h2.1.lo; have g3 := h2.1.hi
      have h3 := pcs_len8 _ (wt s i (ls.getD i 0)).1 (wt s i (ls.getD i 0)).2.length (Int.le_refl _) (by omega) (by omega) (by omega)
      have h4 : cost (wts s ls (i + 1)) = cost (wts s ls i) + (pcs (wt s i (ls.getD i 0)).1 (wt s i (ls.getD i 0)).2.length).length := by
        rw [wts_succ]; unfold cost; rw [List.map_append, List.sum_append]; simp
      omega
  have hcost := hcost ls.length (Nat.le_refl _)
  have hne : ∀ x r, wts s ls ls.length = x :: r → 0 < (pcs x.1 x.2.length).length := fun x r h => by
    have hy := (hok x (by rw [h]; exact List.mem_cons_self)).1
    exact List.length_pos_iff.2 (pcs_ne (by have := hy.pos; omega))
  obtain ⟨qn2, wn2, hrun⟩ := l_run false 0 1 [] true (mem0.map wr) ((apply (wts s ls ls.length) (List.replicate 320 0)).map wr) (cost (wts s ls ls.length)) (wts s ls ls.length) 0 mem0 0 true qn1 hok mem0_ok (by omega) (fun _ => rfl) hne (by omega)
    (fun h => by have := hq1 h; exact List.eq_nil_of_length_eq_zero (by rw [wts_len]; exact this)) (by rw [wts_len]; omega)
  rw [part_zero _ hok] at hrun
  have hl1 := apply_len _ _ hok mem0_len
  have hl2 := apply_len _ _ hok hW
  have hsame : ∀ i, 2 ≤ i → (apply (wts s ls ls.length) mem0).getD i 0 = (apply (wts s ls ls.length) (List.replicate 320 0)).getD i 0 := fun i hi => by
    refine apply_same _ _ _ _ hok mem0_len hW ?_
    unfold mem0
    obtain ⟨j, rfl⟩ : ∃ j, i = j + 2 := ⟨i - 2, by omega⟩
    rw [List.getD_cons_succ, List.getD_cons_succ]
    simp only [List.getD_eq_getElem?_getD, List.getElem?_replicate]
    split <;> split <;> rfl
  rw [show wts s ls 0 = [] from rfl] at hout
  generalize apply (wts s ls ls.length) mem0 = m1 at *
  generalize apply (wts s ls ls.length) (List.replicate 320 0) = m2 at *
  have hread := s_Read m1 false 40 230 (by omega) ⟨by decide, by decide⟩
  rw [hl1, if_pos (by rw [acc_ok (by decide) (by decide) (by decide)]; rfl)] at hread
  have heq : (m1.drop (40 : Int).toNat).take (230 : Int).toNat = (m2.drop 40).take 230 := by
    refine ext_getD (by simp only [List.length_take, List.length_drop, hl1, hl2]; rfl) fun i hi => ?_
    rw [getD_take, getD_take, getD_drop, getD_drop]
    show (if i < 230 then m1.getD (40 + i) 0 else 0) = _
    rw [hsame _ (by omega)]
  have hcmp := s_SameWords false false ((m1.drop (40 : Int).toNat).take (230 : Int).toNat) ((m2.drop 40).take 230) (by simp only [List.length_take, List.length_drop]; omega) (by simp only [List.length_take, List.length_drop]; omega)
  rw [decide_eq_true heq, List.map_take, List.map_take, List.map_drop, List.map_drop] at hcmp
  rw [List.map_take, List.map_drop] at hread
  refine bnd (s_Pick 0 6 (by decide) (by decide)) (cT rfl (bnd (s_Pick 1 4 (by decide) (by decide)) (cT rfl (bnd (s_newPair 0 1 (by decide) (by decide)) (cF rfl (cT rfl (cT rfl (bnd (s_New 40 (by decide)) (cF rfl (cT rfl (cT rfl ?_)))))))))))
  refine cT (by simp only [List.length_replicate, List.length_set]; rfl) (cT (by simp only [List.length_replicate, List.length_set]; rfl) (cT (by simp only [List.length_replicate, List.length_set]; rfl) (cT (by simp only [List.length_replicate, List.length_set]; rfl) (cF rfl (cF rfl (bnd s_write0 (cT rfl (cT rfl (cT ?_ (cF rfl (bnd s_awake (cT rfl (cF rfl ?_)))))))))))))
  · show (false || (true && ((mem0.map wr).all rowV && true))) = true
    rw [all_wr]; rfl
  refine bnd hout (cT rfl (cT rfl (bnd hrun (cT rfl (cT rfl (bnd hread (cT rfl (cT rfl (cT ?_ (cT rfl (cT ?_ (bnd hcmp (cT rfl rfl)))))))))))))
  · show (false || (((List.all (((m1.map wr).drop (40 : Int).toNat).take (230 : Int).toNat) rowV) && true) && true)) = true
    rw [← List.map_drop, ← List.map_take, all_wr]; rfl
  · show (true && leI 270 (((m2.map wr).length - 0 : Nat) : Int)) = true
    rw [List.length_map, hl2]; rfl
theorem order_all {N : Nat} (l : List AV) (h : TypA Try.prog N Try.f3.params.toList l) : ∃ n, evF Try.prog cfg n 3 l = some [.v (.bool true)] := by
  rw [show Try.f3.params.toList = [22, 23] by kernel_rfl] at h
  obtain ⟨a0, r, rfl, t0, h⟩ := h
  obtain ⟨a1, r, rfl, t1, h⟩ := h
  obtain rfl : r = [] := h
  obtain ⟨x0n, x0, rfl, _, _, hx⟩ := openV22 t0
  obtain ⟨s, rfl, _⟩ := openV23 t1
  obtain ⟨ls, rfl, _⟩ := rows_of ir (fun _ => True) x0 fun y hy => by
    obtain ⟨x, rfl, _⟩ := openC3 (n := 10) (hx y hy)
    exact ⟨x, rfl, trivial⟩
  exact evF_of_evL (order_law x0n ls s)
end Go.Proofs.Ytkefjdmoikegbaa
