/- The order that is found is right. -/
import Derived.Test.YtnhahcomgeeobaaChk3
set_option linter.all false
namespace Go.Proofs.Ytnhahcomgeeobaa
open Go.Ev
set_option maxRecDepth 100000
theorem getD_set {α : Type} (l : List α) (j : Nat) (v d : α) (k : Nat) (hj : j < l.length) : (l.set j v).getD k d = if k = j then v else l.getD k d := by
  simp only [List.getD_eq_getElem?_getD, List.getElem?_set]
  by_cases h : j = k
  · subst h; simp [hj]
  · simp [h, Ne.symm h]
theorem mayR_iff (iv : Int) : ∀ (cs : List Cl) (ps : List Bool), ps.length = cs.length → (mayR iv cs ps = true ↔ ∀ k, k < cs.length → (cs.getD k c0).fate = 1 → ps.getD k false = false → ¬ (cs.getD k c0).ret < iv)
  | [], [], _ => by simp [mayR]
  | [], p :: ps, h => by simp at h
  | c :: cs, [], h => by simp at h
  | c :: cs, p :: ps, h => by
    have ih := mayR_iff iv cs ps (by simpa using h)
    have hsplit : (∀ k, k < (c :: cs).length → ((c :: cs).getD k c0).fate = 1 → (p :: ps).getD k false = false → ¬ ((c :: cs).getD k c0).ret < iv) ↔ ((c.fate = 1 → p = false → ¬ c.ret < iv) ∧ ∀ k, k < cs.length → (cs.getD k c0).fate = 1 → ps.getD k false = false → ¬ (cs.getD k c0).ret < iv) := by
      constructor
      · intro hh
        refine ⟨fun a b => by simpa using hh 0 (by simp) (by simpa using a) (by simpa using b), fun k hk a b => ?_⟩
        have := hh (k + 1) (by simpa using hk) (by simpa using a) (by simpa using b)
        simpa using this
      · rintro ⟨h1, h2⟩ k hk a b
        cases k with
        | zero => simpa using h1 (by simpa using a) (by simpa using b)
        | succ k => simpa using h2 k (by simpa using hk) (by simpa using a) (by simpa using b)
    rw [hsplit, ← ih]
    show (bif (c.fate == 1) then (bif !p then (bif ltI c.ret iv then false else mayR iv cs ps) else mayR iv cs ps) else mayR iv cs ps) = true ↔ _
    by_cases hf : c.fate = 1
    · rw [show (c.fate == 1) = true by simp [hf]]
      cases p with
      | true => simp
      | false =>
        by_cases hr : c.ret < iv
        · rw [ltI_t hr]; simp [hf, hr]
        · rw [ltI_f (by omega)]; simp [hr]
    · rw [show (c.fate == 1) = false by simp [hf]]
      simp [hf]
theorem complR_iff : ∀ (cs : List Cl) (ps : List Bool), ps.length = cs.length → (complR cs ps = true ↔ ∀ k, k < cs.length → (cs.getD k c0).fate = 1 → ps.getD k false = true)
  | [], [], _ => by simp [complR]
  | [], p :: ps, h => by simp at h
  | c :: cs, [], h => by simp at h
  | c :: cs, p :: ps, h => by
    have ih := complR_iff cs ps (by simpa using h)
    have hsplit : (∀ k, k < (c :: cs).length → ((c :: cs).getD k c0).fate = 1 → (p :: ps).getD k false = true) ↔ ((c.fate = 1 → p = true) ∧ ∀ k, k < cs.length → (cs.getD k c0).fate = 1 → ps.getD k false = true) := by
      constructor
      · intro hh
        refine ⟨fun a => by simpa using hh 0 (by simp) (by simpa using a), fun k hk a => ?_⟩
        have := hh (k + 1) (by simpa using hk) (by simpa using a)
        simpa using this
      · rintro ⟨h1, h2⟩ k hk a
        cases k with
        | zero => simpa using h1 (by simpa using a)
        | succ k => simpa using h2 k (by simpa using hk) (by simpa using a)
    rw [hsplit, ← ih]
    show (bif (c.fate == 1) then (bif !p then false else complR cs ps) else complR cs ps) = true ↔ _
    by_cases hf : c.fate = 1
    · rw [show (c.fate == 1) = true by simp [hf]]
      cases p <;> simp [hf]
    · rw [show (c.fate == 1) = false by simp [hf]]
      simp [hf]
theorem may_iff {cs : List Cl} {ps : List Bool} (hp : ps.length = cs.length) {i : Nat} : may cs ps i = true ↔ ps.getD i false = false ∧ (cs.getD i c0).fate ≠ 2 ∧ ∀ k, k < cs.length → (cs.getD k c0).fate = 1 → ps.getD k false = false → ¬ (cs.getD k c0).ret < (cs.getD i c0).inv := by
  rw [← mayR_iff _ cs ps hp]
  unfold may
  cases ps.getD i false with
  | true => simp
  | false =>
    by_cases hf : (cs.getD i c0).fate = 2
    · rw [show ((cs.getD i c0).fate == 2) = true by rw [beq_iff_eq]; exact hf]
      constructor
      · intro h; cases h
      · intro h; exact absurd hf h.2.1
    · rw [show ((cs.getD i c0).fate == 2) = false by rw [beq_eq_false_iff_ne]; exact hf]
      exact ⟨fun h => ⟨rfl, hf, h⟩, fun h => h.2.2⟩
structure PInv (cs : List Cl) (ps : List Bool) (pls : List Int) (m : Nat) : Prop where
  l1 : pls.length = cs.length
  l2 : ps.length = cs.length
  a : ∀ k, k < cs.length → (ps.getD k false = true ↔ pls.getD k 0 ≠ 0)
  b : ∀ k, k < cs.length → 0 ≤ pls.getD k 0 ∧ pls.getD k 0 ≤ m
  c : ∀ k, k < cs.length → pls.getD k 0 ≠ 0 → (cs.getD k c0).fate ≠ 2
  d : ∀ i k, i < cs.length → k < cs.length → 0 < pls.getD k 0 → (pls.getD i 0 = 0 ∨ pls.getD k 0 < pls.getD i 0) → ¬ ((cs.getD i c0).fate = 1 ∧ (cs.getD i c0).ret < (cs.getD k c0).inv)
theorem pinv_step {cs : List Cl} {ps : List Bool} {pls : List Int} {m j : Nat} (h : PInv cs ps pls m) (hj : j < cs.length) (hm : may cs ps j = true) : PInv cs (ps.set j true) (pls.set j ((m + 1 : Nat) : Int)) (m + 1) := by
  obtain ⟨m1, m2, m3⟩ := (may_iff h.l2).1 hm
  have gp : ∀ k, (ps.set j true).getD k false = if k = j then true else ps.getD k false := fun k => getD_set _ _ _ _ _ (by rw [h.l2]; exact hj)
  have gl : ∀ k, (pls.set j ((m + 1 : Nat) : Int)).getD k 0 = if k = j then ((m + 1 : Nat) : Int) else pls.getD k 0 := fun k => getD_set _ _ _ _ _ (by rw [h.l1]; exact hj)
  refine ⟨by rw [List.length_set]; exact h.l1, by rw [List.length_set]; exact h.l2, fun k hk => ?_, fun k hk => ?_, fun k hk => ?_, fun i k hi hk => ?_⟩
  · rw [gp, gl]
    split
    · exact ⟨fun _ => by omega, fun _ => rfl⟩
    · exact h.a k hk
  · rw [gl]
    split
    · omega
    · have := h.b k hk; omega
  · rw [gl]
    split
    · rename_i e; subst e; exact fun _ => m2
    · exact h.c k hk
  · rw [gl, gl]
    have bi := h.b i hi
    by_cases e1 : k = j
    · subst e1
      rw [if_pos rfl]
      by_cases e2 : i = k
      · subst e2
        rw [if_pos rfl]
        intro _ h2; omega
      · rw [if_neg e2]
        intro _ h2
        have hz : pls.getD i 0 = 0 := by omega
        have hpi : ps.getD i false = false := by
          cases hx : ps.getD i false with
          | false => rfl
          | true => exact absurd hz ((h.a i hi).1 hx)
        exact fun hh => m3 i hi hh.1 hpi hh.2
    · rw [if_neg e1]
      by_cases e2 : i = j
      · subst e2
        rw [if_pos rfl]
        intro h1 _
        have hz : pls.getD i 0 = 0 := by
          by_cases hx : pls.getD i 0 = 0
          · exact hx
          · have := (h.a i hi).2 hx; rw [m1] at this; cases this
        exact h.d i k hi hk h1 (.inl hz)
      · rw [if_neg e2]
        exact h.d i k hi hk
def Good (cs : List Cl) (pls : List Int) : Prop := pls.length = cs.length ∧ (∀ i, i < cs.length → (cs.getD i c0).fate = 1 → pls.getD i 0 ≠ 0) ∧ (∀ i k, i < cs.length → k < cs.length → 0 < pls.getD i 0 → 0 < pls.getD k 0 → (cs.getD i c0).ret ≠ -1 → (cs.getD i c0).ret < (cs.getD k c0).inv → ¬ pls.getD k 0 < pls.getD i 0)
theorem vCall_facts {c : Cl} (h : vCall c = true) : (1 ≤ c.fate ∧ c.fate ≤ 3) ∧ 0 ≤ c.inv ∧ (c.fate = 3 → c.ret = -1) ∧ (c.fate ≠ 3 → c.inv < c.ret) := by
  unfold vCall at h
  by_cases h1 : c.fate < 1
  · rw [ltI_t h1] at h; cases h
  · rw [ltI_f (by omega)] at h
    by_cases h2 : 3 < c.fate
    · rw [ltI_t h2] at h; cases h
    · rw [ltI_f (show c.fate ≤ 3 by omega)] at h
      cases h3 : okP c.prog with
      | false => rw [h3] at h; cases h
      | true =>
        rw [h3] at h
        by_cases h4 : c.inv < 0
        · rw [ltI_t h4] at h; cases h
        · rw [ltI_f (show 0 ≤ c.inv by omega)] at h
          refine ⟨by omega, by omega, fun h5 => ?_, fun h5 => ?_⟩
          · rw [show (c.fate == 3) = true by simp [h5]] at h
            simpa using h
          · rw [show (c.fate == 3) = false by simp [h5]] at h
            exact of_decide_eq_true h
theorem pinv_good {cs : List Cl} {ps : List Bool} {pls : List Int} {m : Nat} (h : PInv cs ps pls m) (hv : cs.all vCall = true) (hc : complR cs ps = true) : Good cs pls := by
  refine ⟨h.l1, fun i hi hf => (h.a i hi).1 ((complR_iff cs ps h.l2).1 hc i hi hf), fun i k hi hk h1 h2 h3 h4 h5 => ?_⟩
  have := h.d i k hi hk h2 (.inr h5)
  have hfi := h.c i hi (by omega)
  have hvc := vCall_facts (List.all_eq_true.1 hv _ (mem_getD cs c0 i hi))
  by_cases e3 : (cs.getD i c0).fate = 3
  · exact h3 (hvc.2.2.1 e3)
  · exact this ⟨by omega, h4⟩
theorem pinv_new (cs : List Cl) : PInv cs (List.replicate cs.length false) (List.replicate cs.length 0) 0 := by
  have g1 : ∀ k, k < cs.length → (List.replicate cs.length false).getD k false = false := fun k hk => by simp [hk]
  have g2 : ∀ k, k < cs.length → (List.replicate cs.length (0 : Int)).getD k 0 = 0 := fun k hk => by simp [hk]
  refine ⟨List.length_replicate .., List.length_replicate .., fun k hk => ?_, fun k hk => ?_, fun k hk => ?_, fun i k hi hk => ?_⟩
  · rw [g1 k hk, g2 k hk]; simp
  · rw [g2 k hk]; omega
  · rw [g2 k hk]; intro h; exact absurd rfl h
  · rw [g2 k hk]; intro h; omega
def S212 (cn : Bool) (cs : List Cl) (x7 : Bool) (pls : List Int) (i k : Nat) : St := ⟨[(1, .lst cn 7 (cs.map Cl.row)), (7, .sl x7 0 0 none), (16, .v (.int .i64 ((i : Nat) : Int))), (17, .v (.int .i64 ((k : Nat) : Int)))], [⟨1, 3, 1, false, pls.map vRow⟩]⟩
theorem pl_at {pls : List Int} {k : Nat} (h : k < pls.length) : lget (pls.map vRow) (0 + Int.toNat ((k : Nat) : Int)) = vRow (pls.getD k 0) := by rw [Nat.zero_add, Int.toNat_natCast, lget_mapD _ _ 0 _ h]
theorem cl_at {cs : List Cl} {k : Nat} (h : k < cs.length) : lget (cs.map Cl.row) (Int.toNat ((k : Nat) : Int)) = (cs.getD k c0).row := by rw [Int.toNat_natCast, lget_mapD _ _ c0 _ h]
theorem l212 (cn : Bool) (cs : List Cl) (x7 : Bool) (pls : List Int) (hg : Good cs pls) (hl : cs.length ≤ 1000) (i : Nat) (hi : i < cs.length) : ∀ (d k : Nat), k + d = cs.length →
    lp 21 2 0 (S212 cn cs x7 pls i k) = some ⟨some 4, ⟨[(1, .lst cn 7 (cs.map Cl.row)), (7, .sl x7 0 0 none), (16, .v (.int .i64 ((i : Nat) : Int)))], [⟨1, 3, 1, false, pls.map vRow⟩]⟩, []⟩
  | 0, k, h => by
    unfold S212
    rw [lp21_2]
    exact cF (ltI_f (by rw [List.length_map]; omega)) rfl
  | d + 1, k, h => by
    have hk : k < cs.length := by omega
    have hw : IntKind.i64.wrap (((k : Nat) : Int) + 1) = ((k + 1 : Nat) : Int) := by rw [w_i64]; omega
    have ih := l212 cn cs x7 pls hg hl i hi d (k + 1) (by omega)
    have hpl := hg.1
    have q1 : (leI 0 ((i : Nat) : Int) && ltI ((i : Nat) : Int) ((((List.length (pls.map vRow)) - 0) : Nat) : Int)) = true := by rw [leI_t (by omega), ltI_t (by rw [List.length_map]; omega)]; rfl
    have q2 : (leI 0 ((k : Nat) : Int) && ltI ((k : Nat) : Int) ((((List.length (pls.map vRow)) - 0) : Nat) : Int)) = true := by rw [leI_t (by omega), ltI_t (by rw [List.length_map]; omega)]; rfl
    have q3 : (leI 0 ((i : Nat) : Int) && ltI ((i : Nat) : Int) (((List.length (cs.map Cl.row)) : Nat) : Int)) = true := by rw [leI_t (by omega), ltI_t (by rw [List.length_map]; omega)]; rfl
    have q4 : (leI 0 ((k : Nat) : Int) && ltI ((k : Nat) : Int) (((List.length (cs.map Cl.row)) : Nat) : Int)) = true := by rw [leI_t (by omega), ltI_t (by rw [List.length_map]; omega)]; rfl
    have n1 : ∀ x, (ltN (0 + Int.toNat ((i : Nat) : Int)) (List.length (pls.map vRow)) && isI .i64 (cellAt (vRow x) 0)) = true := fun x => by rw [ltN_t (by rw [List.length_map]; omega)]; rfl
    have n2 : ∀ x, (ltN (0 + Int.toNat ((k : Nat) : Int)) (List.length (pls.map vRow)) && isI .i64 (cellAt (vRow x) 0)) = true := fun x => by rw [ltN_t (by rw [List.length_map]; omega)]; rfl
    unfold S212 at ih ⊢
    rw [lp21_2, pl_at (by omega : i < pls.length), pl_at (by omega : k < pls.length), cl_at hi, cl_at hk, hw]
    refine cT (ltI_t (by rw [List.length_map]; omega)) (cT q1 (cT (n1 _) ?_))
    show cond (ltI 0 (pls.getD i 0)) _ _ = _
    by_cases z1 : 0 < pls.getD i 0
    · refine cT (ltI_t z1) (cT q2 (cT (n2 _) ?_))
      show cond (ltI 0 (pls.getD k 0)) _ _ = _
      by_cases z2 : 0 < pls.getD k 0
      · refine cT (ltI_t z2) (cT q3 (cT rfl ?_))
        show cond (!((cs.getD i c0).ret == (-1))) _ _ = _
        by_cases z3 : (cs.getD i c0).ret = -1
        · exact cF (by rw [z3]; rfl) ih
        · refine cT (by rw [Bool.not_eq_true', beq_eq_false_iff_ne]; exact z3) (cT q3 (cT rfl (cT q4 (cT rfl ?_))))
          show cond (ltI (cs.getD i c0).ret (cs.getD k c0).inv) _ _ = _
          by_cases z4 : (cs.getD i c0).ret < (cs.getD k c0).inv
          · refine cT (ltI_t z4) (cT q1 (cT (n1 _) (cT q2 (cT (n2 _) ?_))))
            show cond (ltI (pls.getD k 0) (pls.getD i 0)) _ _ = _
            have := hg.2.2 i k hi hk z1 z2 z3 z4
            exact cF (ltI_f (by omega)) ih
          · exact cF (ltI_f (by omega)) ih
      · exact cF (ltI_f (by omega)) ih
    · exact cF (ltI_f (by omega)) ih
theorem l211 (cn : Bool) (cs : List Cl) (x7 : Bool) (pls : List Int) (hg : Good cs pls) (hl : cs.length ≤ 1000) : ∀ (d i : Nat), i + d = cs.length →
    lp 21 1 0 ⟨[(1, .lst cn 7 (cs.map Cl.row)), (7, .sl x7 0 0 none), (16, .v (.int .i64 ((i : Nat) : Int)))], [⟨1, 3, 1, false, pls.map vRow⟩]⟩ = some ⟨some 2, ⟨[], []⟩, []⟩
  | 0, i, h => by
    rw [lp21_1]
    exact cF (ltI_f (by rw [List.length_map]; omega)) rfl
  | d + 1, i, h => by
    have hi : i < cs.length := by omega
    have hw : IntKind.i64.wrap (((i : Nat) : Int) + 1) = ((i + 1 : Nat) : Int) := by rw [w_i64]; omega
    have ih := l211 cn cs x7 pls hg hl d (i + 1) (by omega)
    have hpl := hg.1
    have hin := l212 cn cs x7 pls hg hl i hi cs.length 0 (by omega)
    have q1 : (leI 0 ((i : Nat) : Int) && ltI ((i : Nat) : Int) ((((List.length (pls.map vRow)) - 0) : Nat) : Int)) = true := by rw [leI_t (by omega), ltI_t (by rw [List.length_map]; omega)]; rfl
    have q3 : (leI 0 ((i : Nat) : Int) && ltI ((i : Nat) : Int) (((List.length (cs.map Cl.row)) : Nat) : Int)) = true := by rw [leI_t (by omega), ltI_t (by rw [List.length_map]; omega)]; rfl
    have fin : ∀ e, e = lp 21 1 0 ⟨[(1, .lst cn 7 (cs.map Cl.row)), (7, .sl x7 0 0 none), (16, .v (.int .i64 (IntKind.i64.wrap (((i : Nat) : Int) + 1))))], [⟨1, 3, 1, false, pls.map vRow⟩]⟩ → e = some ⟨some 2, ⟨[], []⟩, []⟩ := by
      intro e he
      rw [he, hw]; exact ih
    rw [lp21_1, pl_at (by omega : i < pls.length), cl_at hi]
    refine cT (ltI_t (by rw [List.length_map]; omega)) (cT q3 (cT rfl ?_))
    show cond ((cs.getD i c0).fate == 1) _ _ = _
    by_cases hf : (cs.getD i c0).fate = 1
    · refine cT (by rw [beq_iff_eq]; exact hf) (cT q1 (cT (by rw [ltN_t (by rw [List.length_map]; omega)]; rfl) (cF ?_ (bnd hin (cT rfl (cT rfl (fin _ rfl)))))))
      show (pls.getD i 0 == 0) = false
      rw [beq_eq_false_iff_ne]; exact hg.2.1 i hi hf
    · exact cF (by rw [beq_eq_false_iff_ne]; exact hf) (bnd hin (cT rfl (cT rfl (fin _ rfl))))
theorem l210 (cn : Bool) (cs : List Cl) (hgc : GC cs) (hl : cs.length ≤ 100) (on : Bool) (os : List Int) (hos : os.length ≤ 50) (x7 : Bool) : ∀ (rest : List Nat) (done : List Int) (now : List Rw) (nn : Bool) (ps : List Bool) (pls : List Int), os = done ++ rest.map (fun n : Nat => (n : Int)) → now.length ≤ 20 + 8 * done.length → OkT now → PInv cs ps pls done.length → Ext cs now ps rest →
    ∃ (ps' : List Bool) (pls' : List Int) (m : Nat), PInv cs ps' pls' m ∧ complR cs ps' = true ∧
    lp 21 0 0 ⟨[(1, .lst cn 7 (cs.map Cl.row)), (2, .lst on 1 (os.map vRow)), (7, .sl x7 0 0 none), (8, .lst nn 4 (now.map Rw.row)), (9, .v (.int .i64 ((done.length : Nat) : Int)))], [⟨1, 3, 1, false, pls.map vRow⟩]⟩ = some ⟨some 0, ⟨[(1, .lst cn 7 (cs.map Cl.row)), (7, .sl x7 0 0 none)], [⟨1, 3, 1, false, pls'.map vRow⟩]⟩, []⟩
  | [], done, now, nn, ps, pls, h, hn, hT, hi, he => by
    refine ⟨ps, pls, done.length, hi, he, ?_⟩
    rw [lp21_0]
    exact cF (ltI_f (by rw [List.length_map, h]; simp)) rfl
  | j :: rest, done, now, nn, ps, pls, h, hn, hT, hi, he => by
    obtain ⟨hj, hm, ha, he'⟩ := he
    have hlt : done.length < os.length := by rw [h]; simp
    obtain ⟨hco, hcp⟩ := hgc _ (mem_getD cs c0 j hj)
    have hcp8 := (okP_V hcp).1
    have hrow : lget (os.map vRow) (Int.toNat ((done.length : Nat) : Int)) = vRow (j : Int) := by
      rw [Int.toNat_natCast, lget_map _ _ _ hlt]
      subst h
      simp
    have hw : IntKind.i64.wrap (((done.length : Nat) : Int) + 1) = (((done ++ [(j : Int)]).length : Nat) : Int) := by rw [w_i64, List.length_append, List.length_singleton]; omega
    have hin : (leI 0 ((done.length : Nat) : Int) && ltI ((done.length : Nat) : Int) (((List.length (os.map vRow)) : Nat) : Int)) = true := by rw [leI_t (by omega), ltI_t (by rw [List.length_map]; omega)]; rfl
    have h1 : ltI ((done.length : Nat) : Int) (((List.length (os.map vRow)) : Nat) : Int) = true := ltI_t (by rw [List.length_map]; omega)
    obtain ⟨m1, m2, m3⟩ := (may_iff hi.l2).1 hm
    have hz : pls.getD j 0 = 0 := by
      by_cases hx : pls.getD j 0 = 0
      · exact hx
      · have := (hi.a j hj).2 hx; rw [m1] at this; cases this
    have hpl := hi.l1
    have q1 : (leI 0 ((j : Nat) : Int) && ltI ((j : Nat) : Int) ((((List.length (pls.map vRow)) - 0) : Nat) : Int)) = true := by rw [leI_t (by omega), ltI_t (by rw [List.length_map]; omega)]; rfl
    have q3 : (leI 0 ((j : Nat) : Int) && ltI ((j : Nat) : Int) (((List.length (cs.map Cl.row)) : Nat) : Int)) = true := by rw [leI_t (by omega), ltI_t (by rw [List.length_map]; omega)]; rfl
    obtain ⟨fo, ho⟩ := s_own (cs.getD j c0).pn (cs.getD j c0).prog (by omega)
    obtain ⟨b4, b5, bcc, hb, h22⟩ := s_RApply nn now (by omega) hT fo (cs.getD j c0).prog (by omega) hco.pok
    obtain ⟨k1, k2, k3, k4, k5, k6⟩ := applyM_ok now (cs.getD j c0).prog hT hco.pok (by omega) (by omega)
    have hbl := len_of hb
    obtain ⟨fz, zs, hzs, h30⟩ := s_results (cs.getD j c0).rn (cs.getD j c0).res (by have := hco.rl; omega) (bdR_rb hco.rb)
    have h29 := s_sres b5 fz bcc zs (by omega) (bdR_of hb k3)
    rw [hb, hzs] at h29
    obtain ⟨ps', pls', m, r1, r2, ih⟩ := l210 cn cs hgc hl on os hos x7 rest (done ++ [(j : Int)]) (applyM now (cs.getD j c0).prog).1 b4 (ps.set j true) (pls.set j ((done.length + 1 : Nat) : Int)) (by rw [h]; simp) (by rw [List.length_append, List.length_singleton]; omega) k1 (by rw [List.length_append, List.length_singleton]; exact pinv_step hi hj hm) he'
    refine ⟨ps', pls', m, r1, r2, ?_⟩
    have fin : ∀ e, e = lp 21 0 0 ⟨[(1, .lst cn 7 (cs.map Cl.row)), (2, .lst on 1 (os.map vRow)), (7, .sl x7 0 0 none), (8, .lst b4 4 ((applyM now (cs.getD j c0).prog).1.map Rw.row)), (9, .v (.int .i64 (((done ++ [(j : Int)]).length : Nat) : Int)))], [⟨1, 3, 1, false, List.set (pls.map vRow) (0 + Int.toNat ((j : Nat) : Int)) [.v (.int .i64 (((done ++ [(j : Int)]).length : Nat) : Int))]⟩]⟩ →
        e = some ⟨some 0, ⟨[(1, .lst cn 7 (cs.map Cl.row)), (7, .sl x7 0 0 none)], [⟨1, 3, 1, false, pls'.map vRow⟩]⟩, []⟩ := by
      intro e he
      rw [he, ← ih, List.map_set, Nat.zero_add, Int.toNat_natCast, List.length_append, List.length_singleton]
      rfl
    have hav : avInt (cellAt (vRow ((j : Nat) : Int)) 0) = ((j : Nat) : Int) := rfl
    rw [lp21_0, hrow, hw, hav, pl_at (by omega : j < pls.length), cl_at hj, hz]
    refine cT h1 (cT hin (cT rfl (cF (ltI_f (by omega)) (cF (leI_f (by rw [List.length_map]; omega)) (cT q1 (cT (by rw [ltN_t (by rw [List.length_map]; omega)]; rfl) (cF rfl (cT q3 (cT rfl (cF (by show ((cs.getD j c0).fate == 2) = false; rw [beq_eq_false_iff_ne]; exact m2) (cT q1 (cT (ltN_t (by rw [List.length_map]; omega)) (cT q3 (cT rfl (bnd ho (cT rfl (bnd h22 (cT rfl (cT rfl (cT rfl (cT rfl (cT q3 (cT (cl_shape _ hco) ?_)))))))))))))))))))))))
    show cond ((cs.getD j c0).fate == 1) _ _ = _
    by_cases hf : (cs.getD j c0).fate = 1
    · have hf1 : ((cs.getD j c0).fate == 1) = true := by rw [beq_iff_eq]; exact hf
      unfold agr at ha
      rw [show ((cs.getD j c0).fate == 3) = false by rw [hf]; rfl] at ha
      simp only [cond_false] at ha
      by_cases hcode : (cs.getD j c0).code = (applyM now (cs.getD j c0).prog).2.2.2
      · rw [show ((cs.getD j c0).code == (applyM now (cs.getD j c0).prog).2.2.2) = true by rw [beq_iff_eq]; exact hcode] at ha
        simp only [Bool.not_true, cond_false] at ha
        refine cT hf1 (cF (by show (!((applyM now (cs.getD j c0).prog).2.2.2 == (cs.getD j c0).code)) = false; rw [hcode, beq_self_i]; rfl) ?_)
        by_cases hc0 : (applyM now (cs.getD j c0).prog).2.2.2 = 0
        · have hcz : ((applyM now (cs.getD j c0).prog).2.2.2 == 0) = true := by rw [beq_iff_eq]; exact hc0
          rw [hcz] at ha
          simp only [Bool.not_true, cond_false] at ha
          rw [(lsEq_iff rsEq_iff _ _).2 ((lsEq_iff rsEq_iff _ _).1 ha).symm] at h29
          exact cF (by show (!((applyM now (cs.getD j c0).prog).2.2.2 == 0)) = false; rw [hcz]; rfl) (cT hcz (bnd h30 (cT rfl (bnd h29 (cT rfl (cF rfl (fin _ rfl)))))))
        · have hcz : ((applyM now (cs.getD j c0).prog).2.2.2 == 0) = false := by rw [beq_eq_false_iff_ne]; exact hc0
          rw [hcz] at ha
          simp only [Bool.not_false, cond_true] at ha
          rw [beq_iff_eq] at ha
          exact cT (by show (!((applyM now (cs.getD j c0).prog).2.2.2 == 0)) = true; rw [hcz]; rfl) (cF (by show (!((((applyM now (cs.getD j c0).prog).2.2.1 : Nat) : Int) == (cs.getD j c0).at_)) = false; rw [ha, beq_self_i]; rfl) (cF hcz (fin _ rfl)))
      · rw [show ((cs.getD j c0).code == (applyM now (cs.getD j c0).prog).2.2.2) = false by rw [beq_eq_false_iff_ne]; exact hcode] at ha
        cases ha
    · exact cF (by rw [beq_eq_false_iff_ne]; exact hf) (fin _ rfl)
theorem ints_map (n : Nat) : List.replicate n ([AV.v (.int .i64 0)] : List AV) = (List.replicate n (0 : Int)).map vRow := by rw [List.map_replicate]; rfl
theorem s_right (tn : Bool) (t : List Rw) (ht : t.length ≤ 20) (hT : OkT t) (cn : Bool) (cs : List Cl) (hgc : GC cs) (hv : cs.all vCall = true) (hl : cs.length ≤ 100) (on : Bool) (r : List Nat) (hr : r.length ≤ 50) (he : Ext cs t (List.replicate cs.length false) r) :
    ev 21 [.lst tn 4 (t.map Rw.row), .lst cn 7 (cs.map Cl.row), .lst on 1 ((r.map fun n : Nat => (n : Int)).map vRow)] = some [.v (.bool true)] := by
  obtain ⟨ft, htab⟩ := s_table tn t (by omega)
  obtain ⟨ps', pls', m, h1, h2, h3⟩ := l210 cn cs hgc hl on (r.map fun n : Nat => (n : Int)) (by rw [List.length_map]; exact hr) false r [] t ft (List.replicate cs.length false) (List.replicate cs.length 0) rfl (by simp; omega) hT (pinv_new cs) he
  have h4 := l211 cn cs false pls' (pinv_good h1 hv h2) (by omega) cs.length 0 (by omega)
  rw [ev21]
  refine cT ?_ (bnd htab (cT rfl ?_))
  · rw [List.length_map, leI_t (by omega), leI_t (by omega), leI_t (by omega), leI_t (by omega)]; rfl
  · have harg : (⟨[(1, .lst cn 7 (cs.map Cl.row)), (2, .lst on 1 ((r.map fun n : Nat => (n : Int)).map vRow)), (7, .sl false 0 0 none), (8, .lst ft 4 (t.map Rw.row)), (9, .v (.int .i64 0))], [⟨1, 3, 1, false, List.replicate (Int.toNat (((List.length (cs.map Cl.row)) : Nat) : Int)) [.v (.int .i64 0)]⟩]⟩ : St) = ⟨[(1, .lst cn 7 (cs.map Cl.row)), (2, .lst on 1 ((r.map fun n : Nat => (n : Int)).map vRow)), (7, .sl false 0 0 none), (8, .lst ft 4 (t.map Rw.row)), (9, .v (.int .i64 ((([] : List Int).length : Nat) : Int)))], [⟨1, 3, 1, false, (List.replicate cs.length 0).map vRow⟩]⟩ := by
      rw [List.length_map, Int.toNat_natCast, ints_map]; rfl
    show (lp 21 0 0 ⟨[(1, .lst cn 7 (cs.map Cl.row)), (2, .lst on 1 ((r.map fun n : Nat => (n : Int)).map vRow)), (7, .sl false 0 0 none), (8, .lst ft 4 (t.map Rw.row)), (9, .v (.int .i64 0))], [⟨1, 3, 1, false, List.replicate (Int.toNat (((List.length (cs.map Cl.row)) : Nat) : Int)) [.v (.int .i64 0)]⟩]⟩).bind _ = _
    rw [harg]
    exact bnd h3 (cT rfl (cT rfl (bnd h4 (cT rfl (cT rfl rfl)))))
end Go.Proofs.Ytnhahcomgeeobaa
