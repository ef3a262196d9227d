/- What RecordChain builds, in plain terms. -/
import Derived.Test.YthihfpcleejjfaaRepl
set_option linter.all false
namespace Go.Proofs.Ythihfpcleejjfaa
open Go.Ev
attribute [local congr] bind_first cond_first
def fr (j : Nat) : Pg := ⟨105 + (j : Int), 256, 257, 0, 0, 0, 0, 0, 0⟩
theorem fr_ok {j : Nat} (h : j ≤ 1000) : (fr j).ok := by
  refine ⟨⟨?_, ?_⟩, ⟨by show (0 : Int) ≤ 256; decide, by show (256 : Int) ≤ _; decide⟩, ⟨by show (0 : Int) ≤ 257; decide, by show (257 : Int) ≤ _; decide⟩, ⟨Int.le_refl 0, by show (0 : Int) ≤ _; decide⟩, ⟨Int.le_refl 0, by show (0 : Int) ≤ _; decide⟩, ⟨Int.le_refl 0, by show (0 : Int) ≤ _; decide⟩, ⟨Int.le_refl 0, by show (0 : Int) ≤ _; decide⟩, ⟨Int.le_refl 0, by show (0 : Int) ≤ _; decide⟩, ⟨Int.le_refl 0, by show (0 : Int) ≤ _; decide⟩⟩
  · show _ ≤ 105 + (j : Int); omega
  · show 105 + (j : Int) ≤ _; omega
theorem fill_fill (p : Pg) (a b : Ver) (hk : p.d0 % 256 = 1) : fillP (fillP p a) b = fillP p b := by
  obtain ⟨f1, f2, _⟩ := fill_d0 p a hk
  show Pg.mk p.l p.h (tag ((fillP p a).d0 % 256) ((fillP p a).d0 / 256 % 16777216) _) _ _ _ _ _ _ = Pg.mk p.l p.h (tag (p.d0 % 256) (p.d0 / 256 % 16777216) _) _ _ _ _ _ _
  rw [f1, f2, hk]
theorem readable_fill (p : Pg) (v : Ver) (hv : v.ok) (h : validV v = true) (hk : p.d0 % 256 = 1) : readable (fillP p v) = true := by
  have := read_fill p v hv h hk
  unfold readR at this
  cases hr : readable (fillP p v) with
  | true => rfl
  | false =>
    rw [hr] at this
    have e : (14 : Int) = 0 := congrArg Prod.snd this
    exact absurd e (by decide)
def stp (i : Nat) : Int := ((i : Int) + 1) * 256 + ((i : Int) % 6 + 1)
section
variable (k : Int) (C : Nat → Int × Int × Int) (D : Nat → Bool)
def vi (i : Nat) : Ver := bif D i then ⟨k, 0, 0, 0, true, (i : Int), stp i, 0, 0⟩ else ⟨k, (C i).1, (C i).2.1, (C i).2.2, false, 0, stp i, 0, 0⟩
def VI (i : Nat) : Ver := bif Nat.beq i 0 then vi k C D 0 else newV (fr i) (vi k C D i)
def pgs (i : Nat) : List Pg := fillP (fr 0) (VI k C D i) :: (List.range i).map fun j => fillP (fr (j + 1)) (VI k C D j)
def wnt : Nat → List Ver
  | 0 => [vi k C D 0]
  | i + 1 => vi k C D (i + 1) :: wnt i
variable {k C D}
def Cok (k : Int) (C : Nat → Int × Int × Int) : Prop := (1 ≤ k ∧ k ≤ 4294967294) ∧ ∀ i, i64ok (C i).1 ∧ i64ok (C i).2.1 ∧ i64ok (C i).2.2
theorem stp_ok {i : Nat} (h : i ≤ 1000) : u64ok (stp i) ∧ okS (stp i) = true := by
  have hm : 0 ≤ (i : Int) % 6 ∧ (i : Int) % 6 < 6 := by omega
  unfold stp
  generalize (i : Int) % 6 = m at *
  refine ⟨⟨by omega, by omega⟩, ?_⟩
  unfold okS
  rw [show (((i : Int) + 1) * 256 + (m + 1)) % 256 - 1 = m by omega, show (((i : Int) + 1) * 256 + (m + 1)) / 256 = (i : Int) + 1 by omega, okT_iff]
  omega
theorem vi_ok (hc : Cok k C) {i : Nat} (h : i ≤ 1000) : (vi k C D i).ok ∧ validV (vi k C D i) = true ∧ (vi k C D i).key = k ∧ (vi k C D i).pl = 0 ∧ (vi k C D i).pg = 0 := by
  obtain ⟨⟨k1, k2⟩, hC⟩ := hc
  obtain ⟨s1, s2⟩ := stp_ok h
  obtain ⟨c0, c1, c2⟩ := hC i
  have hk : u32ok k := ⟨by omega, by omega⟩
  have z : i64ok 0 := ⟨by decide, by decide⟩
  have z' : u32ok 0 := ⟨by decide, by decide⟩
  have kk : (leI 1 k && leI k 4294967294) = true := by rw [leI_t k1, leI_t k2]; rfl
  unfold vi
  cases D i with
  | true =>
    refine ⟨vrI hk z z z ⟨by omega, by omega⟩ s1 z z, ?_, rfl, rfl, rfl⟩
    show (okS (stp i) && (leI 1 k && leI k 4294967294) && ptrOk 0 0 && _) = true
    rw [s2, kk]; rfl
  | false =>
    refine ⟨vrI hk c0 c1 c2 z' s1 z z, ?_, rfl, rfl, rfl⟩
    show (okS (stp i) && (leI 1 k && leI k 4294967294) && ptrOk 0 0 && _) = true
    rw [s2, kk]; rfl
theorem newV_valid {v : Ver} {j : Nat} (h : validV v = true) (hj : j ≤ 100) : validV (newV (fr j) v) = true := by
  unfold validV at h ⊢
  simp only [Bool.and_eq_true] at h ⊢
  refine ⟨⟨h.1.1, ?_⟩, h.2⟩
  show ((_ && _) || valid (105 + (j : Int)) (257 / 256 % 16777216)) = true
  rw [show valid (105 + (j : Int)) (257 / 256 % 16777216) = true from valid_iff.2 (by omega), Bool.or_true]
theorem VI_ok (hc : Cok k C) {i : Nat} (h : i ≤ 100) : (VI k C D i).ok ∧ validV (VI k C D i) = true ∧ (VI k C D i).key = k := by
  unfold VI
  cases hi : Nat.beq i 0 with
  | true =>
    obtain ⟨a, b, c, _⟩ := vi_ok (D := D) hc (i := 0) (by omega)
    exact ⟨a, b, c⟩
  | false =>
    obtain ⟨a, b, c, _⟩ := vi_ok (D := D) hc (i := i) (by omega)
    exact ⟨newV_ok _ _ (fr_ok (by omega)) a, newV_valid b h, c⟩
theorem pgs_succ (i : Nat) : pgs k C D (i + 1) = fillP (fr 0) (VI k C D (i + 1)) :: (((List.range i).map fun j => fillP (fr (j + 1)) (VI k C D j)) ++ [fillP (fr (i + 1)) (VI k C D i)]) := by
  unfold pgs
  rw [List.range_succ, List.map_append]
  rfl
/-- One replacement. -/
theorem repl_step (hc : Cok k C) {i : Nat} (h : i < 50) : replR (fillP (fr 0) (VI k C D i)) (fr (i + 1)) (vi k C D (i + 1)) = (false, [(fillP (fr 0) (VI k C D (i + 1))).row, (fillP (fr (i + 1)) (VI k C D i)).row], 0) := by
  obtain ⟨a1, a2, a3⟩ := VI_ok (D := D) hc (i := i) (by omega)
  obtain ⟨b1, b2, b3, _⟩ := vi_ok (D := D) hc (i := i + 1) (by omega)
  have hk : (fr 0).d0 % 256 = 1 := by decide
  have hr := readable_fill (fr 0) _ a1 a2 hk
  have hw := raw_fill (fr 0) _ a1 a2 hk
  have hv := newV_valid (j := i + 1) b2 (by omega)
  have e1 : (VI k C D (i + 1)) = newV (fr (i + 1)) (vi k C D (i + 1)) := rfl
  have ho : replOk (fillP (fr 0) (VI k C D i)) (fr (i + 1)) (vi k C D (i + 1)) = true := by
    unfold replOk
    rw [hw, hv, a3, b3, beq_self_eq_true]
    show ((257 : Int) % 256 == 1 && (valid (105 + ((i + 1 : Nat) : Int)) (257 / 256 % 16777216) && (!(105 + ((i + 1 : Nat) : Int) == 105 + ((0 : Nat) : Int)) && (true && true)))) = true
    rw [show valid (105 + ((i + 1 : Nat) : Int)) (257 / 256 % 16777216) = true from valid_iff.2 (by omega), beq_eq_false_iff_ne.2 (show 105 + ((i + 1 : Nat) : Int) ≠ 105 + ((0 : Nat) : Int) by omega)]
    rfl
  unfold replR replXs
  rw [hr, ho, hw, fill_fill _ _ _ hk, e1]
  rw [show ltI (fr (i + 1)).l (fillP (fr 0) (VI k C D i)).l = false from ltI_f (by show 105 + ((0 : Nat) : Int) ≤ 105 + ((i + 1 : Nat) : Int); omega)]
  rfl
end
end Go.Proofs.Ythihfpcleejjfaa
