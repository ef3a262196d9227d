/- The law's statements. -/
import Derived.Test.YtcinngpelbdopaaStm
import Derived.Test.YtcinngpelbdopaaCond
set_option linter.all false
namespace Go.Proofs.Ytcinngpelbdopaa
open Go.Ev
attribute [local congr] bind_first cond_first
structure Raw where
  x0 : Int
  x1 : Int
  x2 : Int
  x3 : Int
  x4 : Int
  x5 : Int
  x6 : Int
  x7 : Int
  x8 : Int
  x9 : Int
def Raw.row (r : Raw) : List AV := [.v (.int .i64 r.x0), .v (.int .i64 r.x1), .v (.int .i64 r.x2), .v (.int .i64 r.x3), .v (.int .i64 r.x4), .v (.int .i64 r.x5), .v (.int .i64 r.x6), .v (.int .i64 r.x7), .v (.int .i64 r.x8), .v (.int .i64 r.x9)]
def Raw.ok (r : Raw) : Prop := i64ok r.x0 ∧ i64ok r.x1 ∧ i64ok r.x2 ∧ i64ok r.x3 ∧ i64ok r.x4 ∧ i64ok r.x5 ∧ i64ok r.x6 ∧ i64ok r.x7 ∧ i64ok r.x8 ∧ i64ok r.x9
/-- The fields are numbers of their kinds. -/
def Stm.ok (s : Stm) : Prop := i64ok s.k ∧ (0 ≤ s.key ∧ s.key ≤ 4294967295) ∧ (0 ≤ s.last ∧ s.last ≤ 4294967295) ∧ i64ok s.c0 ∧ i64ok s.c1 ∧ i64ok s.c2 ∧ i64ok s.col ∧ i64ok s.v ∧ i64ok s.wc ∧ i64ok s.wo ∧ i64ok s.wv ∧ i64ok s.lim
theorem cT {α : Type} {c : Bool} {A B : α} {r : α} (h : c = true) (h2 : A = r) : cond c A B = r := by rw [h]; exact h2
theorem cF {α : Type} {c : Bool} {A B : α} {r : α} (h : c = false) (h2 : B = r) : cond c A B = r := by rw [h]; exact h2
def oSt (x : Raw) (s : Stm) : St := ⟨[(1, .ptr 0 0 0), (2, .ptr 1 0 0), (3, .ptr 2 0 0)], [⟨1, 52, 10, true, [x.row]⟩, ⟨1, 49, 12, true, [(stm0 0).row]⟩, ⟨1, 49, 12, true, [s.row]⟩]⟩
def OfQ (k K c l : Int) (e : Option (List AV)) : Prop := ∃ L wc wo wv : Int, (K ≤ L ∧ L ≤ 4294967294) ∧ ((wc = 0 ∧ wo = 0 ∧ wv = 0) ∨ (1 ≤ wo ∧ wo ≤ 6 ∧ 0 ≤ wc ∧ wc < 3)) ∧ i64ok wv ∧ e = some [.agg ({ stm0 k with key := K, last := L, wc := wc, wo := wo, wv := wv, col := if k = 8 then c else 0, lim := if k = 6 then l else 0 } : Stm).row]
theorem exT {α : Type} {k K c l : Int} {x : Option α} {a : α} {f : α → Option (List AV)} (h : x = some a) (h2 : OfQ k K c l (f a)) : OfQ k K c l (x.bind f) := by rw [h]; exact h2
theorem exC {k K c l : Int} {b : Bool} {A B : Option (List AV)} (h : b = true) (h2 : OfQ k K c l A) : OfQ k K c l (cond b A B) := by rw [h]; exact h2
theorem exD {k K c l : Int} {b : Bool} {A B : Option (List AV)} (h : b = false) (h2 : OfQ k K c l B) : OfQ k K c l (cond b A B) := by rw [h]; exact h2
theorem of1 (x0 x1 x2 x3 x4 x5 x6 x7 x8 x9 K kk : Int) (hK : K = (if pick x1 7 = 6 then IntKind.u32.wrap (4294967294 - IntKind.u32.wrap (pick (IntKind.i64.wrap (x1.tdiv 7)) 3)) else IntKind.u32.wrap (IntKind.u32.wrap (pick x1 60) + 1))) (hkk : kk = IntKind.i64.wrap (pick x0 9 + 1)) (g3 : i64ok x3) (g4 : i64ok x4) (g5 : i64ok x5) (hK2 : K ≤ 4294967294) (e1 : kk = 1) : ev 18 [.agg (Raw.mk x0 x1 x2 x3 x4 x5 x6 x7 x8 x9).row] = some [.agg ({ stm0 1 with key := K, c0 := numv x3, c1 := numv x4, c2 := numv x5 } : Stm).row] := by
  refine (ev18 _ _ _ _ _ _ _ _ _ _).trans ?_
  refine bnd (s_Pick _ _ (by decide) (by decide)) ?_
  refine cT rfl ?_
  refine bnd (s_Pick _ _ (by decide) (by decide)) ?_
  refine cT rfl ?_
  refine bnd (a := ⟨some 1000001, oSt ⟨x0, x1, x2, x3, x4, x5, x6, x7, x8, x9⟩ { stm0 kk with key := K }, []⟩) ?_ ?_
  · refine bnd (s_Pick _ _ (by decide) (by decide)) ?_
    refine cT rfl ?_
    by_cases h6 : pick x1 7 = 6
    · rw [if_pos h6] at hK
      refine cT (by simp [h6]) ?_
      refine bnd (s_Pick _ _ (by decide) (by decide)) ?_
      refine cT rfl ?_
      rw [hK, hkk]; rfl
    · rw [if_neg h6] at hK
      refine cF (by simp [h6]) ?_
      rw [hK, hkk]; rfl
  subst e1
  refine cT rfl ?_
  refine cT rfl ?_
  refine cT rfl ?_
  refine bnd (s_number _ g3) ?_
  refine cT rfl ?_
  refine bnd (s_number _ g4) ?_
  refine cT rfl ?_
  refine bnd (s_number _ g5) ?_
  refine cT rfl ?_
  rfl
theorem of2 (x0 x1 x2 x3 x4 x5 x6 x7 x8 x9 K kk : Int) (hK : K = (if pick x1 7 = 6 then IntKind.u32.wrap (4294967294 - IntKind.u32.wrap (pick (IntKind.i64.wrap (x1.tdiv 7)) 3)) else IntKind.u32.wrap (IntKind.u32.wrap (pick x1 60) + 1))) (hkk : kk = IntKind.i64.wrap (pick x0 9 + 1)) (g3 : i64ok x3) (g4 : i64ok x4) (g5 : i64ok x5) (hK2 : K ≤ 4294967294) (e1 : kk = 2) : ev 18 [.agg (Raw.mk x0 x1 x2 x3 x4 x5 x6 x7 x8 x9).row] = some [.agg ({ stm0 2 with key := K, col := pick x6 3, v := numv x3 } : Stm).row] := by
  refine (ev18 _ _ _ _ _ _ _ _ _ _).trans ?_
  refine bnd (s_Pick _ _ (by decide) (by decide)) ?_
  refine cT rfl ?_
  refine bnd (s_Pick _ _ (by decide) (by decide)) ?_
  refine cT rfl ?_
  refine bnd (a := ⟨some 1000001, oSt ⟨x0, x1, x2, x3, x4, x5, x6, x7, x8, x9⟩ { stm0 kk with key := K }, []⟩) ?_ ?_
  · refine bnd (s_Pick _ _ (by decide) (by decide)) ?_
    refine cT rfl ?_
    by_cases h6 : pick x1 7 = 6
    · rw [if_pos h6] at hK
      refine cT (by simp [h6]) ?_
      refine bnd (s_Pick _ _ (by decide) (by decide)) ?_
      refine cT rfl ?_
      rw [hK, hkk]; rfl
    · rw [if_neg h6] at hK
      refine cF (by simp [h6]) ?_
      rw [hK, hkk]; rfl
  subst e1
  refine cT rfl ?_
  refine cT rfl ?_
  refine cF rfl ?_
  refine bnd (cT rfl rfl) ?_
  refine cT rfl ?_
  refine cT rfl ?_
  refine cT rfl ?_
  refine bnd (s_Pick _ _ (by decide) (by decide)) ?_
  refine cT rfl ?_
  refine bnd (s_number _ g3) ?_
  refine cT rfl ?_
  rfl
theorem of3 (x0 x1 x2 x3 x4 x5 x6 x7 x8 x9 K kk : Int) (hK : K = (if pick x1 7 = 6 then IntKind.u32.wrap (4294967294 - IntKind.u32.wrap (pick (IntKind.i64.wrap (x1.tdiv 7)) 3)) else IntKind.u32.wrap (IntKind.u32.wrap (pick x1 60) + 1))) (hkk : kk = IntKind.i64.wrap (pick x0 9 + 1)) (g3 : i64ok x3) (g4 : i64ok x4) (g5 : i64ok x5) (hK2 : K ≤ 4294967294) (e1 : kk = 3) : ev 18 [.agg (Raw.mk x0 x1 x2 x3 x4 x5 x6 x7 x8 x9).row] = some [.agg ({ stm0 3 with key := K, col := pick x6 3, v := numv x3 } : Stm).row] := by
  refine (ev18 _ _ _ _ _ _ _ _ _ _).trans ?_
  refine bnd (s_Pick _ _ (by decide) (by decide)) ?_
  refine cT rfl ?_
  refine bnd (s_Pick _ _ (by decide) (by decide)) ?_
  refine cT rfl ?_
  refine bnd (a := ⟨some 1000001, oSt ⟨x0, x1, x2, x3, x4, x5, x6, x7, x8, x9⟩ { stm0 kk with key := K }, []⟩) ?_ ?_
  · refine bnd (s_Pick _ _ (by decide) (by decide)) ?_
    refine cT rfl ?_
    by_cases h6 : pick x1 7 = 6
    · rw [if_pos h6] at hK
      refine cT (by simp [h6]) ?_
      refine bnd (s_Pick _ _ (by decide) (by decide)) ?_
      refine cT rfl ?_
      rw [hK, hkk]; rfl
    · rw [if_neg h6] at hK
      refine cF (by simp [h6]) ?_
      rw [hK, hkk]; rfl
  subst e1
  refine cT rfl ?_
  refine cT rfl ?_
  refine cF rfl ?_
  refine bnd (cF rfl rfl) ?_
  refine cT rfl ?_
  refine cT rfl ?_
  refine cT rfl ?_
  refine bnd (s_Pick _ _ (by decide) (by decide)) ?_
  refine cT rfl ?_
  refine bnd (s_number _ g3) ?_
  refine cT rfl ?_
  rfl
theorem of4 (x0 x1 x2 x3 x4 x5 x6 x7 x8 x9 K kk : Int) (hK : K = (if pick x1 7 = 6 then IntKind.u32.wrap (4294967294 - IntKind.u32.wrap (pick (IntKind.i64.wrap (x1.tdiv 7)) 3)) else IntKind.u32.wrap (IntKind.u32.wrap (pick x1 60) + 1))) (hkk : kk = IntKind.i64.wrap (pick x0 9 + 1)) (g3 : i64ok x3) (g4 : i64ok x4) (g5 : i64ok x5) (hK2 : K ≤ 4294967294) (e1 : kk = 4) : ev 18 [.agg (Raw.mk x0 x1 x2 x3 x4 x5 x6 x7 x8 x9).row] = some [.agg ({ stm0 4 with key := K } : Stm).row] := by
  refine (ev18 _ _ _ _ _ _ _ _ _ _).trans ?_
  refine bnd (s_Pick _ _ (by decide) (by decide)) ?_
  refine cT rfl ?_
  refine bnd (s_Pick _ _ (by decide) (by decide)) ?_
  refine cT rfl ?_
  refine bnd (a := ⟨some 1000001, oSt ⟨x0, x1, x2, x3, x4, x5, x6, x7, x8, x9⟩ { stm0 kk with key := K }, []⟩) ?_ ?_
  · refine bnd (s_Pick _ _ (by decide) (by decide)) ?_
    refine cT rfl ?_
    by_cases h6 : pick x1 7 = 6
    · rw [if_pos h6] at hK
      refine cT (by simp [h6]) ?_
      refine bnd (s_Pick _ _ (by decide) (by decide)) ?_
      refine cT rfl ?_
      rw [hK, hkk]; rfl
    · rw [if_neg h6] at hK
      refine cF (by simp [h6]) ?_
      rw [hK, hkk]; rfl
  subst e1
  refine cT rfl ?_
  refine cT rfl ?_
  refine cF rfl ?_
  refine bnd (cF rfl rfl) ?_
  refine cT rfl ?_
  refine cT rfl ?_
  refine cF rfl ?_
  refine bnd (cF rfl (cF rfl rfl)) ?_
  refine cT rfl ?_
  refine cT rfl ?_
  refine cF rfl ?_
  refine cF rfl ?_
  rfl
theorem of5 (x0 x1 x2 x3 x4 x5 x6 x7 x8 x9 K kk : Int) (hK : K = (if pick x1 7 = 6 then IntKind.u32.wrap (4294967294 - IntKind.u32.wrap (pick (IntKind.i64.wrap (x1.tdiv 7)) 3)) else IntKind.u32.wrap (IntKind.u32.wrap (pick x1 60) + 1))) (hkk : kk = IntKind.i64.wrap (pick x0 9 + 1)) (g3 : i64ok x3) (g4 : i64ok x4) (g5 : i64ok x5) (hK2 : K ≤ 4294967294) (e1 : kk = 5) : ev 18 [.agg (Raw.mk x0 x1 x2 x3 x4 x5 x6 x7 x8 x9).row] = some [.agg ({ stm0 5 with key := K } : Stm).row] := by
  refine (ev18 _ _ _ _ _ _ _ _ _ _).trans ?_
  refine bnd (s_Pick _ _ (by decide) (by decide)) ?_
  refine cT rfl ?_
  refine bnd (s_Pick _ _ (by decide) (by decide)) ?_
  refine cT rfl ?_
  refine bnd (a := ⟨some 1000001, oSt ⟨x0, x1, x2, x3, x4, x5, x6, x7, x8, x9⟩ { stm0 kk with key := K }, []⟩) ?_ ?_
  · refine bnd (s_Pick _ _ (by decide) (by decide)) ?_
    refine cT rfl ?_
    by_cases h6 : pick x1 7 = 6
    · rw [if_pos h6] at hK
      refine cT (by simp [h6]) ?_
      refine bnd (s_Pick _ _ (by decide) (by decide)) ?_
      refine cT rfl ?_
      rw [hK, hkk]; rfl
    · rw [if_neg h6] at hK
      refine cF (by simp [h6]) ?_
      rw [hK, hkk]; rfl
  subst e1
  refine cT rfl ?_
  refine cT rfl ?_
  refine cF rfl ?_
  refine bnd (cF rfl rfl) ?_
  refine cT rfl ?_
  refine cT rfl ?_
  refine cF rfl ?_
  refine bnd (cF rfl (cF rfl rfl)) ?_
  refine cT rfl ?_
  refine cT rfl ?_
  refine cF rfl ?_
  refine cF rfl ?_
  rfl
theorem of9 (x0 x1 x2 x3 x4 x5 x6 x7 x8 x9 K kk : Int) (hK : K = (if pick x1 7 = 6 then IntKind.u32.wrap (4294967294 - IntKind.u32.wrap (pick (IntKind.i64.wrap (x1.tdiv 7)) 3)) else IntKind.u32.wrap (IntKind.u32.wrap (pick x1 60) + 1))) (hkk : kk = IntKind.i64.wrap (pick x0 9 + 1)) (g3 : i64ok x3) (g4 : i64ok x4) (g5 : i64ok x5) (hK2 : K ≤ 4294967294) (e1 : kk = 9) : ev 18 [.agg (Raw.mk x0 x1 x2 x3 x4 x5 x6 x7 x8 x9).row] = some [.agg ({ stm0 9 with key := K, wc := pick x4 3, wo := IntKind.i64.wrap (pick x7 6 + 1), wv := numv x5 } : Stm).row] := by
  refine (ev18 _ _ _ _ _ _ _ _ _ _).trans ?_
  refine bnd (s_Pick _ _ (by decide) (by decide)) ?_
  refine cT rfl ?_
  refine bnd (s_Pick _ _ (by decide) (by decide)) ?_
  refine cT rfl ?_
  refine bnd (a := ⟨some 1000001, oSt ⟨x0, x1, x2, x3, x4, x5, x6, x7, x8, x9⟩ { stm0 kk with key := K }, []⟩) ?_ ?_
  · refine bnd (s_Pick _ _ (by decide) (by decide)) ?_
    refine cT rfl ?_
    by_cases h6 : pick x1 7 = 6
    · rw [if_pos h6] at hK
      refine cT (by simp [h6]) ?_
      refine bnd (s_Pick _ _ (by decide) (by decide)) ?_
      refine cT rfl ?_
      rw [hK, hkk]; rfl
    · rw [if_neg h6] at hK
      refine cF (by simp [h6]) ?_
      rw [hK, hkk]; rfl
  subst e1
  refine cT rfl ?_
  refine cT rfl ?_
  refine cF rfl ?_
  refine bnd (cF rfl rfl) ?_
  refine cT rfl ?_
  refine cT rfl ?_
  refine cF rfl ?_
  refine bnd (cF rfl (cF rfl rfl)) ?_
  refine cT rfl ?_
  refine cT rfl ?_
  refine cF rfl ?_
  refine cT rfl ?_
  refine bnd (s_Pick _ _ (by decide) (by decide)) ?_
  refine cT rfl ?_
  refine bnd (s_Pick _ _ (by decide) (by decide)) ?_
  refine cT rfl ?_
  refine bnd (s_number _ g5) ?_
  refine cT rfl ?_
  rfl
theorem of6 (x0 x1 x2 x3 x4 x5 x6 x7 x8 x9 K kk : Int) (hK : K = (if pick x1 7 = 6 then IntKind.u32.wrap (4294967294 - IntKind.u32.wrap (pick (IntKind.i64.wrap (x1.tdiv 7)) 3)) else IntKind.u32.wrap (IntKind.u32.wrap (pick x1 60) + 1))) (hkk : kk = IntKind.i64.wrap (pick x0 9 + 1)) (g3 : i64ok x3) (g4 : i64ok x4) (g5 : i64ok x5) (hK2 : K ≤ 4294967294) (e1 : kk = 6) : OfQ 6 K (pick x6 3) (pick x8 65) (ev 18 [.agg (Raw.mk x0 x1 x2 x3 x4 x5 x6 x7 x8 x9).row]) := by
  rw [show ev 18 [.agg (Raw.mk x0 x1 x2 x3 x4 x5 x6 x7 x8 x9).row] = _ from ev18 _ _ _ _ _ _ _ _ _ _]
  refine exT (s_Pick _ _ (by decide) (by decide)) ?_
  refine exC rfl ?_
  refine exT (s_Pick _ _ (by decide) (by decide)) ?_
  refine exC rfl ?_
  refine exT (a := ⟨some 1000001, oSt ⟨x0, x1, x2, x3, x4, x5, x6, x7, x8, x9⟩ { stm0 kk with key := K }, []⟩) ?_ ?_
  · refine bnd (s_Pick _ _ (by decide) (by decide)) ?_
    refine cT rfl ?_
    by_cases h6 : pick x1 7 = 6
    · rw [if_pos h6] at hK
      refine cT (by simp [h6]) ?_
      refine bnd (s_Pick _ _ (by decide) (by decide)) ?_
      refine cT rfl ?_
      rw [hK, hkk]; rfl
    · rw [if_neg h6] at hK
      refine cF (by simp [h6]) ?_
      rw [hK, hkk]; rfl
  subst e1
  refine exC rfl ?_
  refine exC rfl ?_
  refine exD rfl ?_
  refine exT (cF rfl rfl) ?_
  refine exC rfl ?_
  refine exC rfl ?_
  refine exD rfl ?_
  refine exT (cT rfl rfl) ?_
  refine exC rfl ?_
  refine exC rfl ?_
  refine exC rfl ?_
  refine exT (s_Pick _ _ (by decide) (by decide)) ?_
  refine exC rfl ?_
  obtain ⟨L, hL⟩ : ∃ L, L = if IntKind.u32.wrap (K + IntKind.u32.wrap (pick x2 50)) < K ∨ 4294967294 < IntKind.u32.wrap (K + IntKind.u32.wrap (pick x2 50)) then 4294967294 else IntKind.u32.wrap (K + IntKind.u32.wrap (pick x2 50)) := ⟨_, rfl⟩
  have hL2 : K ≤ L ∧ L ≤ 4294967294 := by clear hK; rw [hL]; split <;> omega
  refine exT (a := ⟨some 1000001, oSt ⟨x0, x1, x2, x3, x4, x5, x6, x7, x8, x9⟩ { stm0 6 with key := K, last := L }, []⟩) ?_ ?_
  · by_cases h1 : IntKind.u32.wrap (K + IntKind.u32.wrap (pick x2 50)) < K
    · refine bnd (cT (ltI_t h1) rfl) ?_
      refine cT rfl ?_
      refine cT rfl ?_
      refine cT rfl ?_
      rw [show L = 4294967294 from hL.trans (if_pos (.inl h1))]; rfl
    · refine bnd (cF (ltI_f (show K ≤ IntKind.u32.wrap (K + IntKind.u32.wrap (pick x2 50)) by omega)) rfl) ?_
      refine cT rfl ?_
      refine cT rfl ?_
      by_cases h2 : 4294967294 < IntKind.u32.wrap (K + IntKind.u32.wrap (pick x2 50))
      · refine cT (ltI_t h2) ?_
        rw [show L = 4294967294 from hL.trans (if_pos (.inr h2))]; rfl
      · refine cF (ltI_f (show IntKind.u32.wrap (K + IntKind.u32.wrap (pick x2 50)) ≤ 4294967294 by omega)) ?_
        rw [show L = IntKind.u32.wrap (K + IntKind.u32.wrap (pick x2 50)) from hL.trans (if_neg (by omega))]; rfl
  refine exC rfl ?_
  refine exC rfl ?_
  refine exT (a := ⟨some 1000001, oSt ⟨x0, x1, x2, x3, x4, x5, x6, x7, x8, x9⟩ { stm0 6 with key := K, last := L }, []⟩) (cF rfl rfl) ?_
  refine exC rfl ?_
  refine exC rfl ?_
  refine exT (a := ⟨some 1000001, oSt ⟨x0, x1, x2, x3, x4, x5, x6, x7, x8, x9⟩ { stm0 6 with key := K, last := L, lim := pick x8 65 }, []⟩) (cT rfl (bnd (s_Pick _ _ (by decide) (by decide)) (cT rfl rfl))) ?_
  refine exC rfl ?_
  refine exC rfl ?_
  refine exT (s_Pick _ _ (by decide) (by decide)) ?_
  refine exC rfl ?_
  have p7 := pick_range (n := x7) (m := 10) (by decide)
  have p4 := pick_range (n := x4) (m := 3) (by decide)
  by_cases h7 : pick x7 10 < 7
  · refine exT (cT (ltI_t h7) rfl) ?_
    refine exC rfl ?_
    refine exC rfl ?_
    by_cases h0 : 0 < pick x7 10
    · refine exC (ltI_t h0) ?_
      refine exT (s_Pick _ _ (by decide) (by decide)) ?_
      refine exC rfl ?_
      refine exT (s_number _ g5) ?_
      refine exC rfl ?_
      exact ⟨L, pick x4 3, pick x7 10, numv x5, hL2, .inr (by omega), numv_ok x5, rfl⟩
    · refine exD (ltI_f (show pick x7 10 ≤ 0 by omega)) ?_
      exact ⟨L, 0, 0, 0, hL2, .inl (by omega), by unfold i64ok; omega, rfl⟩
  · refine exT (cF (ltI_f (show 7 ≤ pick x7 10 by omega)) rfl) ?_
    refine exC rfl ?_
    refine exC rfl ?_
    refine exD rfl ?_
    exact ⟨L, 0, 0, 0, hL2, .inl (by omega), by unfold i64ok; omega, rfl⟩
theorem of7 (x0 x1 x2 x3 x4 x5 x6 x7 x8 x9 K kk : Int) (hK : K = (if pick x1 7 = 6 then IntKind.u32.wrap (4294967294 - IntKind.u32.wrap (pick (IntKind.i64.wrap (x1.tdiv 7)) 3)) else IntKind.u32.wrap (IntKind.u32.wrap (pick x1 60) + 1))) (hkk : kk = IntKind.i64.wrap (pick x0 9 + 1)) (g3 : i64ok x3) (g4 : i64ok x4) (g5 : i64ok x5) (hK2 : K ≤ 4294967294) (e1 : kk = 7) : OfQ 7 K (pick x6 3) (pick x8 65) (ev 18 [.agg (Raw.mk x0 x1 x2 x3 x4 x5 x6 x7 x8 x9).row]) := by
  rw [show ev 18 [.agg (Raw.mk x0 x1 x2 x3 x4 x5 x6 x7 x8 x9).row] = _ from ev18 _ _ _ _ _ _ _ _ _ _]
  refine exT (s_Pick _ _ (by decide) (by decide)) ?_
  refine exC rfl ?_
  refine exT (s_Pick _ _ (by decide) (by decide)) ?_
  refine exC rfl ?_
  refine exT (a := ⟨some 1000001, oSt ⟨x0, x1, x2, x3, x4, x5, x6, x7, x8, x9⟩ { stm0 kk with key := K }, []⟩) ?_ ?_
  · refine bnd (s_Pick _ _ (by decide) (by decide)) ?_
    refine cT rfl ?_
    by_cases h6 : pick x1 7 = 6
    · rw [if_pos h6] at hK
      refine cT (by simp [h6]) ?_
      refine bnd (s_Pick _ _ (by decide) (by decide)) ?_
      refine cT rfl ?_
      rw [hK, hkk]; rfl
    · rw [if_neg h6] at hK
      refine cF (by simp [h6]) ?_
      rw [hK, hkk]; rfl
  subst e1
  refine exC rfl ?_
  refine exC rfl ?_
  refine exD rfl ?_
  refine exT (cF rfl rfl) ?_
  refine exC rfl ?_
  refine exC rfl ?_
  refine exD rfl ?_
  refine exT (cF rfl (cT rfl rfl)) ?_
  refine exC rfl ?_
  refine exC rfl ?_
  refine exC rfl ?_
  refine exT (s_Pick _ _ (by decide) (by decide)) ?_
  refine exC rfl ?_
  obtain ⟨L, hL⟩ : ∃ L, L = if IntKind.u32.wrap (K + IntKind.u32.wrap (pick x2 50)) < K ∨ 4294967294 < IntKind.u32.wrap (K + IntKind.u32.wrap (pick x2 50)) then 4294967294 else IntKind.u32.wrap (K + IntKind.u32.wrap (pick x2 50)) := ⟨_, rfl⟩
  have hL2 : K ≤ L ∧ L ≤ 4294967294 := by clear hK; rw [hL]; split <;> omega
  refine exT (a := ⟨some 1000001, oSt ⟨x0, x1, x2, x3, x4, x5, x6, x7, x8, x9⟩ { stm0 7 with key := K, last := L }, []⟩) ?_ ?_
  · by_cases h1 : IntKind.u32.wrap (K + IntKind.u32.wrap (pick x2 50)) < K
    · refine bnd (cT (ltI_t h1) rfl) ?_
      refine cT rfl ?_
      refine cT rfl ?_
      refine cT rfl ?_
      rw [show L = 4294967294 from hL.trans (if_pos (.inl h1))]; rfl
    · refine bnd (cF (ltI_f (show K ≤ IntKind.u32.wrap (K + IntKind.u32.wrap (pick x2 50)) by omega)) rfl) ?_
      refine cT rfl ?_
      refine cT rfl ?_
      by_cases h2 : 4294967294 < IntKind.u32.wrap (K + IntKind.u32.wrap (pick x2 50))
      · refine cT (ltI_t h2) ?_
        rw [show L = 4294967294 from hL.trans (if_pos (.inr h2))]; rfl
      · refine cF (ltI_f (show IntKind.u32.wrap (K + IntKind.u32.wrap (pick x2 50)) ≤ 4294967294 by omega)) ?_
        rw [show L = IntKind.u32.wrap (K + IntKind.u32.wrap (pick x2 50)) from hL.trans (if_neg (by omega))]; rfl
  refine exC rfl ?_
  refine exC rfl ?_
  refine exT (a := ⟨some 1000001, oSt ⟨x0, x1, x2, x3, x4, x5, x6, x7, x8, x9⟩ { stm0 7 with key := K, last := L }, []⟩) (cF rfl rfl) ?_
  refine exC rfl ?_
  refine exC rfl ?_
  refine exT (a := ⟨some 1000001, oSt ⟨x0, x1, x2, x3, x4, x5, x6, x7, x8, x9⟩ { stm0 7 with key := K, last := L }, []⟩) (cF rfl rfl) ?_
  refine exC rfl ?_
  refine exC rfl ?_
  refine exT (s_Pick _ _ (by decide) (by decide)) ?_
  refine exC rfl ?_
  have p7 := pick_range (n := x7) (m := 10) (by decide)
  have p4 := pick_range (n := x4) (m := 3) (by decide)
  by_cases h7 : pick x7 10 < 7
  · refine exT (cT (ltI_t h7) rfl) ?_
    refine exC rfl ?_
    refine exC rfl ?_
    by_cases h0 : 0 < pick x7 10
    · refine exC (ltI_t h0) ?_
      refine exT (s_Pick _ _ (by decide) (by decide)) ?_
      refine exC rfl ?_
      refine exT (s_number _ g5) ?_
      refine exC rfl ?_
      exact ⟨L, pick x4 3, pick x7 10, numv x5, hL2, .inr (by omega), numv_ok x5, rfl⟩
    · refine exD (ltI_f (show pick x7 10 ≤ 0 by omega)) ?_
      exact ⟨L, 0, 0, 0, hL2, .inl (by omega), by unfold i64ok; omega, rfl⟩
  · refine exT (cF (ltI_f (show 7 ≤ pick x7 10 by omega)) rfl) ?_
    refine exC rfl ?_
    refine exC rfl ?_
    refine exD rfl ?_
    exact ⟨L, 0, 0, 0, hL2, .inl (by omega), by unfold i64ok; omega, rfl⟩
theorem of8 (x0 x1 x2 x3 x4 x5 x6 x7 x8 x9 K kk : Int) (hK : K = (if pick x1 7 = 6 then IntKind.u32.wrap (4294967294 - IntKind.u32.wrap (pick (IntKind.i64.wrap (x1.tdiv 7)) 3)) else IntKind.u32.wrap (IntKind.u32.wrap (pick x1 60) + 1))) (hkk : kk = IntKind.i64.wrap (pick x0 9 + 1)) (g3 : i64ok x3) (g4 : i64ok x4) (g5 : i64ok x5) (hK2 : K ≤ 4294967294) (e1 : kk = 8) : OfQ 8 K (pick x6 3) (pick x8 65) (ev 18 [.agg (Raw.mk x0 x1 x2 x3 x4 x5 x6 x7 x8 x9).row]) := by
  rw [show ev 18 [.agg (Raw.mk x0 x1 x2 x3 x4 x5 x6 x7 x8 x9).row] = _ from ev18 _ _ _ _ _ _ _ _ _ _]
  refine exT (s_Pick _ _ (by decide) (by decide)) ?_
  refine exC rfl ?_
  refine exT (s_Pick _ _ (by decide) (by decide)) ?_
  refine exC rfl ?_
  refine exT (a := ⟨some 1000001, oSt ⟨x0, x1, x2, x3, x4, x5, x6, x7, x8, x9⟩ { stm0 kk with key := K }, []⟩) ?_ ?_
  · refine bnd (s_Pick _ _ (by decide) (by decide)) ?_
    refine cT rfl ?_
    by_cases h6 : pick x1 7 = 6
    · rw [if_pos h6] at hK
      refine cT (by simp [h6]) ?_
      refine bnd (s_Pick _ _ (by decide) (by decide)) ?_
      refine cT rfl ?_
      rw [hK, hkk]; rfl
    · rw [if_neg h6] at hK
      refine cF (by simp [h6]) ?_
      rw [hK, hkk]; rfl
  subst e1
  refine exC rfl ?_
  refine exC rfl ?_
  refine exD rfl ?_
  refine exT (cF rfl rfl) ?_
  refine exC rfl ?_
  refine exC rfl ?_
  refine exD rfl ?_
  refine exT (cF rfl (cF rfl rfl)) ?_
  refine exC rfl ?_
  refine exC rfl ?_
  refine exC rfl ?_
  refine exT (s_Pick _ _ (by decide) (by decide)) ?_
  refine exC rfl ?_
  obtain ⟨L, hL⟩ : ∃ L, L = if IntKind.u32.wrap (K + IntKind.u32.wrap (pick x2 50)) < K ∨ 4294967294 < IntKind.u32.wrap (K + IntKind.u32.wrap (pick x2 50)) then 4294967294 else IntKind.u32.wrap (K + IntKind.u32.wrap (pick x2 50)) := ⟨_, rfl⟩
  have hL2 : K ≤ L ∧ L ≤ 4294967294 := by clear hK; rw [hL]; split <;> omega
  refine exT (a := ⟨some 1000001, oSt ⟨x0, x1, x2, x3, x4, x5, x6, x7, x8, x9⟩ { stm0 8 with key := K, last := L }, []⟩) ?_ ?_
  · by_cases h1 : IntKind.u32.wrap (K + IntKind.u32.wrap (pick x2 50)) < K
    · refine bnd (cT (ltI_t h1) rfl) ?_
      refine cT rfl ?_
      refine cT rfl ?_
      refine cT rfl ?_
      rw [show L = 4294967294 from hL.trans (if_pos (.inl h1))]; rfl
    · refine bnd (cF (ltI_f (show K ≤ IntKind.u32.wrap (K + IntKind.u32.wrap (pick x2 50)) by omega)) rfl) ?_
      refine cT rfl ?_
      refine cT rfl ?_
      by_cases h2 : 4294967294 < IntKind.u32.wrap (K + IntKind.u32.wrap (pick x2 50))
      · refine cT (ltI_t h2) ?_
        rw [show L = 4294967294 from hL.trans (if_pos (.inr h2))]; rfl
      · refine cF (ltI_f (show IntKind.u32.wrap (K + IntKind.u32.wrap (pick x2 50)) ≤ 4294967294 by omega)) ?_
        rw [show L = IntKind.u32.wrap (K + IntKind.u32.wrap (pick x2 50)) from hL.trans (if_neg (by omega))]; rfl
  refine exC rfl ?_
  refine exC rfl ?_
  refine exT (a := ⟨some 1000001, oSt ⟨x0, x1, x2, x3, x4, x5, x6, x7, x8, x9⟩ { stm0 8 with key := K, last := L, col := pick x6 3 }, []⟩) (cT rfl (bnd (s_Pick _ _ (by decide) (by decide)) (cT rfl rfl))) ?_
  refine exC rfl ?_
  refine exC rfl ?_
  refine exT (a := ⟨some 1000001, oSt ⟨x0, x1, x2, x3, x4, x5, x6, x7, x8, x9⟩ { stm0 8 with key := K, last := L, col := pick x6 3 }, []⟩) (cF rfl rfl) ?_
  refine exC rfl ?_
  refine exC rfl ?_
  refine exT (s_Pick _ _ (by decide) (by decide)) ?_
  refine exC rfl ?_
  have p7 := pick_range (n := x7) (m := 10) (by decide)
  have p4 := pick_range (n := x4) (m := 3) (by decide)
  by_cases h7 : pick x7 10 < 7
  · refine exT (cT (ltI_t h7) rfl) ?_
    refine exC rfl ?_
    refine exC rfl ?_
    by_cases h0 : 0 < pick x7 10
    · refine exC (ltI_t h0) ?_
      refine exT (s_Pick _ _ (by decide) (by decide)) ?_
      refine exC rfl ?_
      refine exT (s_number _ g5) ?_
      refine exC rfl ?_
      exact ⟨L, pick x4 3, pick x7 10, numv x5, hL2, .inr (by omega), numv_ok x5, rfl⟩
    · refine exD (ltI_f (show pick x7 10 ≤ 0 by omega)) ?_
      exact ⟨L, 0, 0, 0, hL2, .inl (by omega), by unfold i64ok; omega, rfl⟩
  · refine exT (cF (ltI_f (show 7 ≤ pick x7 10 by omega)) rfl) ?_
    refine exC rfl ?_
    refine exC rfl ?_
    refine exD rfl ?_
    exact ⟨L, 0, 0, 0, hL2, .inl (by omega), by unfold i64ok; omega, rfl⟩
theorem s_of (r : Raw) (h : r.ok) : ∃ s : Stm, ev 18 [.agg r.row] = some [.agg s.row] ∧ s.V ∧ s.ok := by
  obtain ⟨x0, x1, x2, x3, x4, x5, x6, x7, x8, x9⟩ := r
  obtain ⟨g0, g1, g2, g3, g4, g5, g6, g7, g8, g9⟩ := h
  simp only at g0 g1 g2 g3 g4 g5 g6 g7 g8 g9
  have p0 := pick_range (n := x0) (m := 9) (by decide)
  have p1 := pick_range (n := x1) (m := 60) (by decide)
  have p3 := pick_range (n := IntKind.i64.wrap (x1.tdiv 7)) (m := 3) (by decide)
  have p6 := pick_range (n := x6) (m := 3) (by decide)
  have p4 := pick_range (n := x4) (m := 3) (by decide)
  have p76 := pick_range (n := x7) (m := 6) (by decide)
  have p8 := pick_range (n := x8) (m := 65) (by decide)
  have n3 := numv_ok x3
  have n4 := numv_ok x4
  have n5 := numv_ok x5
  obtain ⟨K, hK1, hK2, hK⟩ : ∃ K : Int, 1 ≤ K ∧ K ≤ 4294967294 ∧ K = (if pick x1 7 = 6 then IntKind.u32.wrap (4294967294 - IntKind.u32.wrap (pick (IntKind.i64.wrap (x1.tdiv 7)) 3)) else IntKind.u32.wrap (IntKind.u32.wrap (pick x1 60) + 1)) := by
    refine ⟨_, ?_, ?_, rfl⟩ <;> (split <;> rw [w_u32, w_u32] <;> omega)
  obtain ⟨kk, hk, hkk⟩ : ∃ kk : Int, (1 ≤ kk ∧ kk ≤ 9) ∧ kk = IntKind.i64.wrap (pick x0 9 + 1) := ⟨_, by rw [w_i64]; omega, rfl⟩
  have w6 : IntKind.i64.wrap (pick x7 6 + 1) = pick x7 6 + 1 := by rw [w_i64]; omega
  have q : ∀ k : Int, (k = 6 ∨ k = 7 ∨ k = 8) → ∀ {e : Option (List AV)}, OfQ k K (pick x6 3) (pick x8 65) e → ∃ s : Stm, e = some [.agg s.row] ∧ s.V ∧ s.ok := fun k hk e he => by
    obtain ⟨L, wc, wo, wv, h1, h2, h3, h4⟩ := he
    refine ⟨_, h4, ?_, ?_⟩
    · rcases hk with rfl | rfl | rfl <;> simp only [Stm.V, Stm.T, Stm.Z, stm0, Int.reduceEq, if_true, if_false, false_or, or_false, true_and, and_true, false_and, and_false, true_or, or_true, not_false_eq_true, not_true_eq_false, ne_eq] <;> omega
    · unfold i64ok at h3; rcases hk with rfl | rfl | rfl <;> simp only [Stm.ok, i64ok, stm0, Int.reduceEq, if_true, if_false, false_or, or_false, true_and, and_true, false_and, and_false, true_or, or_true, not_false_eq_true, not_true_eq_false, ne_eq] <;> omega
  unfold i64ok at n3 n4 n5
  rcases kinds hk with e | e | e | e | e | e | e | e | e
  · refine ⟨_, of1 x0 x1 x2 x3 x4 x5 x6 x7 x8 x9 K kk hK hkk g3 g4 g5 hK2 e, ?_, ?_⟩
    · simp only [Stm.V, Stm.T, Stm.Z, stm0, w6, Int.reduceEq, Int.reduceLE, false_or, or_false, true_and, and_true, false_and, and_false, true_or, or_true, not_false_eq_true, not_true_eq_false, ne_eq]; try omega
    · simp only [Stm.ok, i64ok, stm0, w6]; omega
  · refine ⟨_, of2 x0 x1 x2 x3 x4 x5 x6 x7 x8 x9 K kk hK hkk g3 g4 g5 hK2 e, ?_, ?_⟩
    · simp only [Stm.V, Stm.T, Stm.Z, stm0, w6, Int.reduceEq, Int.reduceLE, false_or, or_false, true_and, and_true, false_and, and_false, true_or, or_true, not_false_eq_true, not_true_eq_false, ne_eq]; try omega
    · simp only [Stm.ok, i64ok, stm0, w6]; omega
  · refine ⟨_, of3 x0 x1 x2 x3 x4 x5 x6 x7 x8 x9 K kk hK hkk g3 g4 g5 hK2 e, ?_, ?_⟩
    · simp only [Stm.V, Stm.T, Stm.Z, stm0, w6, Int.reduceEq, Int.reduceLE, false_or, or_false, true_and, and_true, false_and, and_false, true_or, or_true, not_false_eq_true, not_true_eq_false, ne_eq]; try omega
    · simp only [Stm.ok, i64ok, stm0, w6]; omega
  · refine ⟨_, of4 x0 x1 x2 x3 x4 x5 x6 x7 x8 x9 K kk hK hkk g3 g4 g5 hK2 e, ?_, ?_⟩
    · simp only [Stm.V, Stm.T, Stm.Z, stm0, w6, Int.reduceEq, Int.reduceLE, false_or, or_false, true_and, and_true, false_and, and_false, true_or, or_true, not_false_eq_true, not_true_eq_false, ne_eq]; try omega
    · simp only [Stm.ok, i64ok, stm0, w6]; omega
  · refine ⟨_, of5 x0 x1 x2 x3 x4 x5 x6 x7 x8 x9 K kk hK hkk g3 g4 g5 hK2 e, ?_, ?_⟩
    · simp only [Stm.V, Stm.T, Stm.Z, stm0, w6, Int.reduceEq, Int.reduceLE, false_or, or_false, true_and, and_true, false_and, and_false, true_or, or_true, not_false_eq_true, not_true_eq_false, ne_eq]; try omega
    · simp only [Stm.ok, i64ok, stm0, w6]; omega
  · exact q 6 (by decide) (of6 x0 x1 x2 x3 x4 x5 x6 x7 x8 x9 K kk hK hkk g3 g4 g5 hK2 e)
  · exact q 7 (by decide) (of7 x0 x1 x2 x3 x4 x5 x6 x7 x8 x9 K kk hK hkk g3 g4 g5 hK2 e)
  · exact q 8 (by decide) (of8 x0 x1 x2 x3 x4 x5 x6 x7 x8 x9 K kk hK hkk g3 g4 g5 hK2 e)
  · refine ⟨_, of9 x0 x1 x2 x3 x4 x5 x6 x7 x8 x9 K kk hK hkk g3 g4 g5 hK2 e, ?_, ?_⟩
    · simp only [Stm.V, Stm.T, Stm.Z, stm0, w6, Int.reduceEq, Int.reduceLE, false_or, or_false, true_and, and_true, false_and, and_false, true_or, or_true, not_false_eq_true, not_true_eq_false, ne_eq]; try omega
    · simp only [Stm.ok, i64ok, stm0, w6]; omega
end Go.Proofs.Ytcinngpelbdopaa
