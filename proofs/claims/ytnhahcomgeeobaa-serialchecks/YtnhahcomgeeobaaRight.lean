/- The order that is found is right. -/
import Derived.Test.YtnhahcomgeeobaaChk3
set_option linter.all false
namespace Go.Proofs.Ytnhahcomgeeobaa
open Go.Ev
set_option maxRecDepth 100000
theorem mayR_iff (iv : Int) : ∀ (cs : List Cl) (ps : List Bool),ps.length = cs.length → (mayR iv cs ps = true ↔ ∀ k,k < cs.length → (cs.getD k c0).fate = 1 → ps.getD k false = false → ¬ (cs.getD k c0).ret < iv)
 | [],[],_ => by simp [mayR]
 | [],p :: ps,h => by simp at h
 | c :: cs,[],h => by simp at h
 | c :: cs,p :: ps,h => by
  have ih := mayR_iff iv cs ps (by simpa using h)
  have hsplit : (∀ k,k < (c :: cs).length → ((c :: cs).getD k c0).fate = 1 → (p :: ps).getD k false = false → ¬ ((c :: cs).getD k c0).ret < iv) ↔ ((c.fate = 1 → p = false → ¬ c.ret < iv)∧∀ k,k < cs.length → (cs.getD k c0).fate = 1 → ps.getD k false = false → ¬ (cs.getD k c0).ret < iv) := by
   constructor
   ·intro hh
    refine ⟨fun a b => by simpa using hh 0 (by simp) (by simpa using a) (by simpa using b),fun k hk a b => ?_⟩
    have := hh (k + 1) (by simpa using hk) (by simpa using a) (by simpa using b)
    simpa using this
   ·rintro ⟨h1,h2⟩ k hk a b
    cases k with
    | zero => simpa using h1 (by simpa using a) (by simpa using b)
    | succ k => simpa using h2 k (by simpa using hk) (by simpa using a) (by simpa using b)
  rw [hsplit,← ih]
  show (bif (c.fate == 1) then (bif !p then (bif ltI c.ret iv then false else mayR iv cs ps) else mayR iv cs ps) else mayR iv cs ps) = true ↔ _
  by_cases hf : c.fate = 1
  ·rw [show (c.fate == 1) = true by simp [hf]]
   cases p with
   | true => simp
   | false =>
    by_cases hr : c.ret < iv
    ·rw [ltI_t hr]; simp [hf,hr]
    ·rw [ltI_f (by omega)]; simp [hr]
  ·rw [show (c.fate == 1) = false by simp [hf]]
   simp [hf]
theorem may_iff {cs : List Cl} {ps : List Bool} (hp : ps.length = cs.length) {i : Nat} : may cs ps i = true ↔ ps.getD i false = false∧(cs.getD i c0).fate ≠ 2∧∀ k,k < cs.length → (cs.getD k c0).fate = 1 → ps.getD k false = false → ¬ (cs.getD k c0).ret < (cs.getD i c0).inv := by
 rw [← mayR_iff _ cs ps hp]
 unfold may
 cases ps.getD i false with
 | true => simp
 | false =>
  by_cases hf : (cs.getD i c0).fate = 2
  ·rw [show ((cs.getD i c0).fate == 2) = true by rw [beq_iff_eq]; exact hf]
   constructor
   ·intro h; cases h
   ·intro h; exact absurd hf h.2.1
  ·rw [show ((cs.getD i c0).fate == 2) = false by rw [beq_eq_false_iff_ne]; exact hf]
   exact ⟨fun h => ⟨rfl,hf,h⟩,fun h => h.2.2⟩
structure PInv (cs : List Cl) (ps : List Bool) (pls : List Int) (m : Nat) : Prop where
 l1 : pls.length = cs.length
 l2 : ps.length = cs.length
 a : ∀ k,k < cs.length → (ps.getD k false = true ↔ pls.getD k 0 ≠ 0)
 b : ∀ k,k < cs.length → 0 ≤ pls.getD k 0∧pls.getD k 0 ≤ m
 c : ∀ k,k < cs.length → pls.getD k 0 ≠ 0 → (cs.getD k c0).fate ≠ 2
 d : ∀ i k,i < cs.length → k < cs.length → 0 < pls.getD k 0 → (pls.getD i 0 = 0 ∨ pls.getD k 0 < pls.getD i 0) → ¬ ((cs.getD i c0).fate = 1∧(cs.getD i c0).ret < (cs.getD k c0).inv)
theorem vCall_facts {c : Cl} (h : vCall c = true) : (1 ≤ c.fate∧c.fate ≤ 3)∧0 ≤ c.inv∧(c.fate = 3 → c.ret = -1)∧(c.fate ≠ 3 → c.inv < c.ret) := by
 unfold vCall at h
 by_cases h1 : c.fate < 1
 ·rw [ltI_t h1] at h; cases h
 ·rw [ltI_f (by omega)] at h
  by_cases h2 : 3 < c.fate
  ·rw [ltI_t h2] at h; cases h
  ·rw [ltI_f (show c.fate ≤ 3 by omega)] at h
   cases h3 : okP c.prog with
   | false => rw [h3] at h; cases h
   | true =>
    rw [h3] at h
    by_cases h4 : c.inv < 0
    ·rw [ltI_t h4] at h; cases h
    ·rw [ltI_f (show 0 ≤ c.inv by omega)] at h
     refine ⟨by omega,by omega,fun h5 => ?_,fun h5 => ?_⟩
     ·rw [show (c.fate == 3) = true by simp [h5]] at h
      simpa using h
     ·rw [show (c.fate == 3) = false by simp [h5]] at h
      exact of_decide_eq_true h
end Go.Proofs.Ytnhahcomgeeobaa
