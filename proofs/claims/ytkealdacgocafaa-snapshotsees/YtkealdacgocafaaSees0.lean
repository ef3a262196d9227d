/- What SnapshotSees builds, in plain terms. -/
import Derived.Test.YtkealdacgocafaaRepl
set_option linter.all false
namespace Go.Proofs.Ytkealdacgocafaa
open Go.Ev
attribute [local congr] bind_first cond_first
def fr (j : Nat) : Pg := ⟨105 + (j : Int), 256, 257, 0, 0, 0, 0, 0, 0⟩
theorem fr_ok {j : Nat} (h : j ≤ 1000) : (fr j).ok := by
  refine ⟨⟨?_, ?_⟩, ⟨by show (0 : Int) ≤ 256; decide, by show (256 : Int) ≤ _; decide⟩, ⟨by show (0 : Int) ≤ 257; decide, by show (257 : Int) ≤ _; decide⟩, ⟨Int.le_refl 0, by show (0 : Int) ≤ _; decide⟩, ⟨Int.le_refl 0, by show (0 : Int) ≤ _; decide⟩, ⟨Int.le_refl 0, by show (0 : Int) ≤ _; decide⟩, ⟨Int.le_refl 0, by show (0 : Int) ≤ _; decide⟩, ⟨Int.le_refl 0, by show (0 : Int) ≤ _; decide⟩, ⟨Int.le_refl 0, by show (0 : Int) ≤ _; decide⟩⟩
  · show _ ≤ 105 + (j : Int); omega
  · show 105 + (j : Int) ≤ _; omega
theorem fill_fill (p : Pg) (a b : Ver) (hk : p.d0 % 256 = 1) : fillP (fillP p a) b = fillP p b := by
  obtain ⟨f1, f2, _⟩ := fill_d0 p a hk
  show Pg.mk p.l p.h (tag ((fillP p a).d0 % 256) ((fillP p a).d0 / 256 % 16777216) _) _ _ _ _ _ _ = Pg.mk p.l p.h (tag (p.d0 % 256) (p.d0 / 256 % 16777216) _) _ _ _ _ _ _
  rw [f1, f2, hk]
theorem readable_fill (p : Pg) (v : Ver) (hv : v.ok) (h : validV v = true) (hk : p.d0 % 256 = 1) : readable (fillP p v) = true := by
  have := read_fill p v hv h hk
  unfold readR at this
  cases hr : readable (fillP p v) with
  | true => rfl
  | false =>
    rw [hr] at this
    have e : (14 : Int) = 0 := congrArg Prod.snd this
    exact absurd e (by decide)
theorem newV_valid {v : Ver} {j : Nat} (h : validV v = true) (hj : j ≤ 100) : validV (newV (fr j) v) = true := by
  unfold validV at h ⊢
  simp only [Bool.and_eq_true] at h ⊢
  refine ⟨⟨h.1.1, ?_⟩, h.2⟩
  show ((_ && _) || valid (105 + (j : Int)) (257 / 256 % 16777216)) = true
  rw [show valid (105 + (j : Int)) (257 / 256 % 16777216) = true from valid_iff.2 (by omega), Bool.or_true]
section
variable (S : Nat → Int)
def vs (i : Nat) : Ver := ⟨9, (i : Int), 0, 0, false, 0, S i, 0, 0⟩
def VS (i : Nat) : Ver := bif Nat.beq i 0 then vs S 0 else newV (fr i) (vs S i)
/-- The head when version i is the newest one, and the page to which version i was saved. -/
def HP (i : Nat) : Pg := fillP (fr 0) (VS S i)
def QP (i : Nat) : Pg := fillP (fr (i + 1)) (VS S i)
def tl : Nat → List Pg
  | 0 => []
  | m + 1 => tl m ++ [HP S (m + 1), QP S m]
variable {S}
def Sok (S : Nat → Int) (n : Nat) : Prop := ∀ i, i < n → u64ok (S i) ∧ okS (S i) = true
theorem vs_ok {n i : Nat} (hs : Sok S n) (h : i < n) (hn : n ≤ 100) : (vs S i).ok ∧ validV (vs S i) = true ∧ (vs S i).key = 9 := by
  obtain ⟨s1, s2⟩ := hs i h
  have z : i64ok 0 := ⟨by decide, by decide⟩
  have z' : u32ok 0 := ⟨by decide, by decide⟩
  refine ⟨vrI ⟨by decide, by decide⟩ ⟨by omega, by omega⟩ z z z' s1 z z, ?_, rfl⟩
  show (okS (S i) && (leI 1 9 && leI 9 4294967294) && ptrOk 0 0 && _) = true
  rw [s2]; rfl
theorem VS_ok {n i : Nat} (hs : Sok S n) (h : i < n) (hn : n ≤ 100) : (VS S i).ok ∧ validV (VS S i) = true ∧ (VS S i).key = 9 := by
  unfold VS
  cases hi : Nat.beq i 0 with
  | true => exact vs_ok hs (show 0 < n by omega) hn
  | false =>
    obtain ⟨a, b, c⟩ := vs_ok hs h hn
    exact ⟨newV_ok _ _ (fr_ok (by omega)) a, newV_valid b (by omega), c⟩
theorem VS_c0 (i : Nat) : (VS S i).c0 = i := by
  unfold VS
  cases i <;> rfl
theorem VS_st (i : Nat) : (VS S i).st = S i := by
  unfold VS
  cases i <;> rfl
theorem d0_fr (i : Nat) : (fr i).d0 % 256 = 1 := rfl
/-- One replacement. -/
theorem repl_step {n i : Nat} (hs : Sok S n) (h : i + 1 < n) (hn : n ≤ 50) : replR (HP S i) (fr (i + 1)) (vs S (i + 1)) = (false, [(HP S (i + 1)).row, (QP S i).row], 0) := by
  obtain ⟨a1, a2, a3⟩ := VS_ok hs (i := i) (by omega) (by omega)
  obtain ⟨b1, b2, b3⟩ := vs_ok hs (i := i + 1) h (by omega)
  have hk : (fr 0).d0 % 256 = 1 := by decide
  have hr := readable_fill (fr 0) _ a1 a2 hk
  have hw := raw_fill (fr 0) _ a1 a2 hk
  have hv := newV_valid (j := i + 1) b2 (by omega)
  have e1 : VS S (i + 1) = newV (fr (i + 1)) (vs S (i + 1)) := rfl
  unfold HP QP
  have ho : replOk (fillP (fr 0) (VS S i)) (fr (i + 1)) (vs S (i + 1)) = true := by
    unfold replOk
    rw [hw, hv, a3, b3, beq_self_eq_true]
    show ((257 : Int) % 256 == 1 && (valid (105 + ((i + 1 : Nat) : Int)) (257 / 256 % 16777216) && (!(105 + ((i + 1 : Nat) : Int) == 105 + ((0 : Nat) : Int)) && (true && true)))) = true
    rw [show valid (105 + ((i + 1 : Nat) : Int)) (257 / 256 % 16777216) = true from valid_iff.2 (by omega), beq_eq_false_iff_ne.2 (show 105 + ((i + 1 : Nat) : Int) ≠ 105 + ((0 : Nat) : Int) by omega)]
    rfl
  unfold replR replXs
  rw [hr, ho, hw, fill_fill _ _ _ hk, e1]
  rw [show ltI (fr (i + 1)).l (fillP (fr 0) (VS S i)).l = false from ltI_f (by show 105 + ((0 : Nat) : Int) ≤ 105 + ((i + 1 : Nat) : Int); omega)]
  rfl
theorem fill_ok {n i j : Nat} (hs : Sok S n) (h : i < n) (hn : n ≤ 100) (hj : j ≤ 100) : (fillP (fr j) (VS S i)).ok := by
  obtain ⟨a1, a2, a3⟩ := VS_ok hs h hn
  exact fillP_ok _ _ (fr_ok (by omega)) a1
theorem tl_mem : ∀ (m : Nat) (p : Pg), p ∈ tl S m → ∃ i j, i ≤ m ∧ j ≤ m ∧ p = fillP (fr j) (VS S i)
  | 0, p, hp => by cases hp
  | m + 1, p, hp => by
    unfold tl at hp
    rcases List.mem_append.1 hp with hp | hp
    · obtain ⟨i, j, h1, h2, h3⟩ := tl_mem m p hp
      exact ⟨i, j, by omega, by omega, h3⟩
    · simp only [List.mem_cons, List.not_mem_nil, or_false] at hp
      rcases hp with rfl | rfl
      · exact ⟨m + 1, 0, by omega, by omega, rfl⟩
      · exact ⟨m, m + 1, by omega, by omega, rfl⟩
theorem tl_len : ∀ m : Nat, (tl S m).length = 2 * m
  | 0 => rfl
  | m + 1 => by unfold tl; rw [List.length_append, tl_len m]; simp only [List.length_cons, List.length_nil]; omega
/-- What is found under a line: the newest head, or the saved version. -/
theorem lat_tl (F : Pg) (hF : F.l = 105) : ∀ (m : Nat) (x : Int), lat (F :: tl S m) x (F :: tl S m).length =
    if x = 105 then some (if m = 0 then F else HP S m) else if 106 ≤ x ∧ x ≤ 105 + (m : Int) then some (QP S (x - 106).toNat) else none
  | 0, x => by
    show lat [F] x 1 = _
    show cond (F.l == x) (some F) none = _
    rw [hF]
    by_cases h : x = 105
    · rw [if_pos h, if_pos rfl, h]; rfl
    · rw [if_neg h, if_neg (by omega), beq_eq_false_iff_ne.2 (Ne.symm h)]; rfl
  | m + 1, x => by
    have e : F :: tl S (m + 1) = (F :: tl S m ++ [HP S (m + 1)]) ++ [QP S m] := by
      show F :: (tl S m ++ [HP S (m + 1), QP S m]) = _
      simp
    rw [e, lat_snoc, lat_snoc, lat_tl F hF m x]
    have h1 : (QP S m).l = 105 + ((m + 1 : Nat) : Int) := rfl
    have h2 : (HP S (m + 1)).l = 105 := rfl
    rw [h1, h2]
    by_cases c1 : 105 + ((m + 1 : Nat) : Int) = x
    · have g1 : ¬ x = 105 := by omega
      have g2 : 106 ≤ x ∧ x ≤ 105 + ((m + 1 : Nat) : Int) := by omega
      rw [show (105 + ((m + 1 : Nat) : Int) == x) = true by rw [c1]; exact beq_self_eq_true x, cond_true, if_neg g1, if_pos g2, show (x - 106).toNat = m by omega]
    · rw [beq_eq_false_iff_ne.2 c1, cond_false]
      by_cases c2 : x = 105
      · subst c2
        rw [beq_self_eq_true, cond_true, if_pos rfl, if_neg (Nat.succ_ne_zero m)]
      · rw [beq_eq_false_iff_ne.2 (Ne.symm c2), cond_false, if_neg c2, if_neg c2]
        by_cases c3 : 106 ≤ x ∧ x ≤ 105 + (m : Int)
        · have g2 : 106 ≤ x ∧ x ≤ 105 + ((m + 1 : Nat) : Int) := by omega
          rw [if_pos c3, if_pos g2]
        · have g2 : ¬ (106 ≤ x ∧ x ≤ 105 + ((m + 1 : Nat) : Int)) := by omega
          rw [if_neg c3, if_neg g2]
end
end Go.Proofs.Ytkealdacgocafaa
