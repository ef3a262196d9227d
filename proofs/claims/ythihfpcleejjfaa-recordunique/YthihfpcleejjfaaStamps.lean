/- RecordStamps and RecordUnique hold for every input. No conditions. -/
import Derived.Test.YthihfpcleejjfaaDefs
import Derived.Test.YthihfpcleejjfaaEv39
namespace Go.Proofs.Ythihfpcleejjfaa
open Go.Ev

/-- The stamp of a transaction. -/
def stamp (c s : Int) : Int := if 0 ≤ c ∧ c < 6 ∧ 1 ≤ s ∧ s < 1073741824 then s * 256 + c + 1 else 0
theorem stamp_lt (c s : Int) : 0 ≤ stamp c s ∧ stamp c s < 274877906944 := by
  unfold stamp; split <;> omega

theorem pick_9 (n : Nat) (a m : Int) (hm : 0 < m) (hm' : m ≤ 4611686018427387904) : ev (n + 1) 9 [.v (.int .i64 a), .v (.int .i64 m)] = some [.v (.int .i64 (pick a m))] := by
  rw [ev9]
  simp only [ltI_f (show 1 ≤ m by omega), eqI_f (show m ≠ 0 by omega), cond_false, pick_ok hm hm']
theorem stamp_13 (n : Nat) (c s : Int) : ev (n + 1) 13 [.v (.int .i64 c), .v (.int .i64 s)] = some [.v (.int .u64 (stamp c s))] := by
  rw [ev13]
  simp only [cond_ltI, cond_leI]
  unfold stamp
  repeat' split
  all_goals first | omega | skip
  all_goals try rfl
  rw [w_i64, w_u64, w_u64, w_u64]
  rw [or_u64 8 _ _ (by omega) (by omega) (by omega) (by omega) (by omega) (by omega)]
  exact int1 (by omega)
theorem stamp_14 (n : Nat) (c s : Int) : ev (n + 1) 14 [.v (.int .i64 c), .v (.int .i64 s)] = some [.v (.int .u64 (stamp c s))] := by
  rw [ev14]
  simp only [cond_ltI, cond_leI]
  unfold stamp
  repeat' split
  all_goals first | omega | skip
  all_goals try rfl
  simp only [w_u64]
  exact int1 (by omega)

/-- What a number says as a stamp. -/
def origin (x : Int) : List AV := if 1 ≤ x % 256 ∧ x % 256 < 7 ∧ 1 ≤ x / 256 ∧ x / 256 < 1073741824 then [.v (.int .i64 (x % 256 - 1)), .v (.int .i64 (x / 256)), .v (.bool true)] else [.v (.int .i64 0), .v (.int .i64 0), .v (.bool false)]
theorem origin_10 (n : Nat) (x : Int) (h0 : 0 ≤ x) (h1 : x < 18446744073709551616) : ev (n + 2) 10 [.v (.int .u64 x)] = some (origin x) := by
  rw [ev10]
  have e1 : bits .and .u64 x 255 = x % 256 := by rw [and_u64 8 (by decide) x 255 (by decide) h0 h1]; rfl
  have e2 : x.fdiv (2 ^ 8) = x / 256 := by rw [fdiv_pos _ _ (by decide)]; rfl
  have e3 : IntKind.i64.wrap (x % 256) = x % 256 := by rw [w_i64]; omega
  have e4 : IntKind.i64.wrap (x % 256 - 1) = x % 256 - 1 := by rw [w_i64]; omega
  have e5 : IntKind.i64.wrap (x / 256) = x / 256 := by rw [w_i64]; omega
  simp only [e1, e2, e3, e4, e5, stamp_13, some_bind', cellAt_zero, isI_v, avInt_v, cond_true, cond_ltI]
  unfold origin stamp
  by_cases h : x % 256 - 1 < 0
  · rw [if_pos h, if_neg (by omega)]
  · rw [if_neg h]
    by_cases h2 : 1 ≤ x % 256 ∧ x % 256 < 7 ∧ 1 ≤ x / 256 ∧ x / 256 < 1073741824
    · rw [if_pos h2, if_pos (by omega)]
      have : (x / 256 * 256 + (x % 256 - 1) + 1 == 0) = false := by
        rw [beq_eq_false_iff_ne]; omega
      rw [this]; rfl
    · rw [if_neg h2, if_neg (by omega)]; rfl
theorem origin_11 (n : Nat) (x : Int) (h0 : 0 ≤ x) (h1 : x < 18446744073709551616) : ev (n + 2) 11 [.v (.int .u64 x)] = some (origin x) := by
  rw [ev11]
  have e1 : x.tmod 256 = x % 256 := tmod_pos _ _ h0
  have e2 : x.tdiv 256 = x / 256 := tdiv_pos _ _ h0
  have e3 : IntKind.i64.wrap (x % 256) = x % 256 := by rw [w_i64]; omega
  have e4 : IntKind.i64.wrap (x % 256 - 1) = x % 256 - 1 := by rw [w_i64]; omega
  have e5 : IntKind.i64.wrap (x / 256) = x / 256 := by rw [w_i64]; omega
  have e6 : IntKind.u64.wrap (x / 256) = x / 256 := by rw [w_u64]; omega
  simp only [e1, e2, e3, e4, e5, e6, stamp_14, some_bind', cellAt_zero, isI_v, avInt_v, cond_true, cond_leI]
  unfold origin stamp
  by_cases h : x / 256 ≥ 1073741824
  · rw [if_pos h, if_neg (by omega)]
  · rw [if_neg h]
    by_cases h2 : 1 ≤ x % 256 ∧ x % 256 < 7 ∧ 1 ≤ x / 256 ∧ x / 256 < 1073741824
    · rw [if_pos h2, if_pos (by omega)]
      have : (x / 256 * 256 + (x % 256 - 1) + 1 == 0) = false := by
        rw [beq_eq_false_iff_ne]; omega
      rw [this]; rfl
    · rw [if_neg h2, if_neg (by omega)]; rfl

theorem awake_12 (n : Nat) : ev (n + 2) 12 [] = some [.v (.bool true)] := by
  rw [ev12, stamp_13]
  rfl

theorem origin_form (x : Int) : ∃ a b c, origin x = [.v (.int .i64 a), .v (.int .i64 b), .v (.bool c)] := by
  unfold origin
  split <;> exact ⟨_, _, _, rfl⟩

theorem stamps_ev (n : Nat) (c s x : Int) (b : Bool) (h0 : 0 ≤ x) (h1 : x < 18446744073709551616) : ev (n + 3) 3 [.v (.int .i64 c), .v (.int .i64 s), .v (.int .u64 x), .v (.bool b)] = some [.v (.bool true)] := by
  rw [ev3]
  cases b with
  | false =>
    obtain ⟨p, q, r, hor⟩ := origin_form x
    simp only [cond_false, origin_10 n x h0 h1, origin_11 n x h0 h1, hor, some_bind', cellAt_zero, cellAt_succ, isI_v, isB_v, avInt_v, avBool_v, cond_true, awake_12, stamp_13, stamp_14, beq_self_eq_true]
  | true =>
    have p1 := pick_range (n := s) (m := 6) (by decide)
    have p2 := pick_range (n := IntKind.i64.wrap (x.tmod 9)) (m := 9) (by decide)
    have e1 : IntKind.u64.wrap (x.tdiv 9) = x / 9 := by rw [tdiv_pos _ _ h0, w_u64]; omega
    have e2 : (x / 9).tmod 6 = x / 9 % 6 := tmod_pos _ _ (by omega)
    have e3 : IntKind.u64.wrap (pick (IntKind.i64.wrap (x.tmod 9)) 9) = pick (IntKind.i64.wrap (x.tmod 9)) 9 := by rw [w_u64]; omega
    -- the lists' elements
    have hl1 : ∀ i : Nat, i < 6 → ∃ v, lget [[.v (.int .i64 0)], [.v (.int .i64 1)], [.v (.int .i64 2)], [.v (.int .i64 1073741823)], [.v (.int .i64 1073741824)], [.v (.int .i64 (-1))]] i = [.v (.int .i64 v)] := fun i hi => by
      match i, hi with
      | 0, _ => exact ⟨_, rfl⟩
      | 1, _ => exact ⟨_, rfl⟩
      | 2, _ => exact ⟨_, rfl⟩
      | 3, _ => exact ⟨_, rfl⟩
      | 4, _ => exact ⟨_, rfl⟩
      | 5, _ => exact ⟨_, rfl⟩
    have hl2 : ∀ i : Nat, i < 6 → ∃ v, lget [[.v (.int .u64 0)], [.v (.int .u64 1)], [.v (.int .u64 1073741823)], [.v (.int .u64 1073741824)], [.v (.int .u64 1099511627776)], [.v (.int .u64 72057594037927935)]] i = [.v (.int .u64 v)] := fun i hi => by
      match i, hi with
      | 0, _ => exact ⟨_, rfl⟩
      | 1, _ => exact ⟨_, rfl⟩
      | 2, _ => exact ⟨_, rfl⟩
      | 3, _ => exact ⟨_, rfl⟩
      | 4, _ => exact ⟨_, rfl⟩
      | 5, _ => exact ⟨_, rfl⟩
    obtain ⟨v1, hv1⟩ := hl1 (0 + (pick s 6).toNat) (by omega)
    obtain ⟨v2, hv2⟩ := hl2 (0 + (x / 9 % 6).toNat) (by omega)
    have d1 : 0 + (pick s 6).toNat < 6 := by omega
    have d2 : 0 + (x / 9 % 6).toNat < 6 := by omega
    have d3 : pick s 6 < ((6 : Nat) : Int) := by omega
    have d4 : 0 ≤ x / 9 % 6 := by omega
    have d5 : x / 9 % 6 < ((6 : Nat) : Int) := by omega
    have hy := w_u64 (pick (IntKind.i64.wrap (x.tmod 9)) 9 + IntKind.u64.wrap (256 * v2))
    have hy0 : 0 ≤ IntKind.u64.wrap (pick (IntKind.i64.wrap (x.tmod 9)) 9 + IntKind.u64.wrap (256 * v2)) := by omega
    have hy1 : IntKind.u64.wrap (pick (IntKind.i64.wrap (x.tmod 9)) 9 + IntKind.u64.wrap (256 * v2)) < 18446744073709551616 := by omega
    obtain ⟨p, q, r, hor⟩ := origin_form (IntKind.u64.wrap (pick (IntKind.i64.wrap (x.tmod 9)) 9 + IntKind.u64.wrap (256 * v2)))
    simp only [cond_true, pick_9 _ _ 9 (by decide) (by decide), pick_9 _ _ 6 (by decide) (by decide), some_bind', cellAt_zero, isI_v, avInt_v, e1, e2, e3, ltN_t d1, ltN_t d2, leI_t p1.1, ltI_t d3, leI_t d4, ltI_t d5, hv1, hv2, Bool.and_self, origin_10 n _ hy0 hy1, origin_11 n _ hy0 hy1, hor, cellAt_succ, isB_v, avBool_v, awake_12, stamp_13, stamp_14, beq_self_eq_true]

theorem stamps_all {N : Nat} (l : List AV) (h : TypA Try.prog N Try.f3.params.toList l) : ∃ n, evF Try.prog cfg n 3 l = some [.v (.bool true)] := by
  rw [Try.params3] at h
  obtain ⟨a0, r, rfl, h0, h⟩ := h
  obtain ⟨a1, r, rfl, h1, h⟩ := h
  obtain ⟨a2, r, rfl, h2, h⟩ := h
  obtain ⟨a3, r, rfl, h3, h⟩ := h
  obtain rfl : r = [] := h
  obtain ⟨c, rfl, _⟩ := typV_int Try.underlying3 h0
  obtain ⟨s, rfl, _⟩ := typV_int Try.underlying3 h1
  obtain ⟨x, rfl, hx0, hx1⟩ := typV_int Try.underlying22 h2
  obtain ⟨b, rfl⟩ := typV_bool Try.underlying4 h3
  rw [min_u64] at hx0
  rw [max_u64] at hx1
  exact ⟨0 + 3, stamps_ev 0 c s x b hx0 (by omega)⟩

theorem stamp_in {c s : Int} (h1 : 0 ≤ c) (h2 : c < 6) (h3 : 1 ≤ s) (h4 : s < 1073741824) : stamp c s = s * 256 + c + 1 := by
  unfold stamp; rw [if_pos ⟨h1, h2, h3, h4⟩]
theorem beq_f {a b : Int} (h : a ≠ b) : (a == b) = false := beq_eq_false_iff_ne.2 h
theorem unique_ev (n : Nat) (a b s t : Int) : ev (n + 3) 4 [.v (.int .i64 a), .v (.int .i64 b), .v (.int .i64 s), .v (.int .i64 t)] = some [.v (.bool true)] := by
  rw [ev4]
  have p1 := pick_range (n := a) (m := 6) (by decide)
  have p2 := pick_range (n := b) (m := 6) (by decide)
  have p3 := pick_range (n := s) (m := 1073741823) (by decide)
  have p4 := pick_range (n := t) (m := 1073741823) (by decide)
  simp only [pick_9 _ _ 6 (by decide) (by decide), pick_9 _ _ 1073741823 (by decide) (by decide), some_bind', cellAt_zero, isI_v, avInt_v, cond_true]
  generalize pick a 6 = p at *
  generalize pick b 6 = q at *
  generalize pick s 1073741823 = u at *
  generalize pick t 1073741823 = v at *
  have e1 : IntKind.i64.wrap (u + 1) = u + 1 := by rw [w_i64]; omega
  have e2 : IntKind.i64.wrap (v + 1) = v + 1 := by rw [w_i64]; omega
  have hx : stamp p (u + 1) = (u + 1) * 256 + p + 1 := stamp_in (by omega) (by omega) (by omega) (by omega)
  have hy : stamp q (v + 1) = (v + 1) * 256 + q + 1 := stamp_in (by omega) (by omega) (by omega) (by omega)
  have ho : origin ((u + 1) * 256 + p + 1) = [.v (.int .i64 p), .v (.int .i64 (u + 1)), .v (.bool true)] := by
    unfold origin
    rw [if_pos (by omega)]
    have h1 : ((u + 1) * 256 + p + 1) % 256 - 1 = p := by omega
    have h2 : ((u + 1) * 256 + p + 1) / 256 = u + 1 := by omega
    rw [h1, h2]
  have n1 : (u + 1) * 256 + p + 1 ≠ 0 := by omega
  have n2 : (v + 1) * 256 + q + 1 ≠ 0 := by omega
  simp only [e1, e2, stamp_13, hx, hy, some_bind', cellAt_zero, isI_v, avInt_v, cond_true, origin_10 n _ (show 0 ≤ (u + 1) * 256 + p + 1 by omega) (show (u + 1) * 256 + p + 1 < 18446744073709551616 by omega), ho, cellAt_succ, isB_v, avBool_v, awake_12, beq_self_eq_true, beq_f n1, beq_f n2, Bool.not_false]
  by_cases hpq : p = q
  · subst hpq
    simp only [beq_self_eq_true, cond_true, Bool.not_true, cond_false]
    by_cases huv : u = v
    · subst huv
      simp only [beq_self_eq_true, cond_true]
      rw [ltI_f (Int.le_refl _), ltI_f (Int.le_refl _)]; rfl
    · have h1 : (u + 1) * 256 + p + 1 ≠ (v + 1) * 256 + p + 1 := by omega
      have h2 : u + 1 ≠ v + 1 := by omega
      simp only [beq_f h1, beq_f h2, beq_self_eq_true, cond_true]
      by_cases hlt : u < v
      · rw [ltI_t (show (u + 1) * 256 + p + 1 < (v + 1) * 256 + p + 1 by omega), ltI_t (show u + 1 < v + 1 by omega)]; rfl
      · rw [ltI_f (show (v + 1) * 256 + p + 1 ≤ (u + 1) * 256 + p + 1 by omega), ltI_f (show v + 1 ≤ u + 1 by omega)]; rfl
  · have h1 : (u + 1) * 256 + p + 1 ≠ (v + 1) * 256 + q + 1 := by omega
    simp only [beq_f hpq, beq_f h1, beq_self_eq_true, cond_true, cond_false, Bool.not_false]
theorem unique_all {N : Nat} (l : List AV) (h : TypA Try.prog N Try.f4.params.toList l) : ∃ n, evF Try.prog cfg n 4 l = some [.v (.bool true)] := by
  rw [Try.params4] at h
  obtain ⟨a0, r, rfl, h0, h⟩ := h
  obtain ⟨a1, r, rfl, h1, h⟩ := h
  obtain ⟨a2, r, rfl, h2, h⟩ := h
  obtain ⟨a3, r, rfl, h3, h⟩ := h
  obtain rfl : r = [] := h
  obtain ⟨a, rfl, _⟩ := typV_int Try.underlying3 h0
  obtain ⟨b, rfl, _⟩ := typV_int Try.underlying3 h1
  obtain ⟨s, rfl, _⟩ := typV_int Try.underlying3 h2
  obtain ⟨t, rfl, _⟩ := typV_int Try.underlying3 h3
  exact ⟨0 + 3, unique_ev 0 a b s t⟩
end Go.Proofs.Ythihfpcleejjfaa
