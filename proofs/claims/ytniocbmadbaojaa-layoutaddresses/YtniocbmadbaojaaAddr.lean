/- LayoutAddresses holds for every input. No conditions. -/
import Derived.Test.YtniocbmadbaojaaDefs
import Derived.Test.YtniocbmadbaojaaEv39
namespace Go.Proofs.Ytniocbmadbaojaa
open Go.Ev

theorem ev58 (n : Nat) (a b c : Int) : ev (n + 1) 58 [.v (.int .i64 a), .ep [.v (.int .i64 b)] 0, .ep [.v (.int .i64 c)] 0] =
    cond (ltI a 0) (some [.v (.int .i64 (-1))]) (cond (leI b a) (some [.v (.int .i64 (-1))]) (some [.v (.int .i64 (IntKind.wrap .i64 (IntKind.wrap .i64 (c * 8) + a)))])) := by kernel_rfl
theorem pick_9 (n : Nat) (a m : Int) (hm : 0 < m) (hm' : m ≤ 4611686018427387904) : ev (n + 1) 9 [.v (.int .i64 a), .v (.int .i64 m)] = some [.v (.int .i64 (pick a m))] := by
  rw [ev9]
  simp only [ltI_f (show 1 ≤ m by omega), eqI_f (show m ≠ 0 by omega), cond_false, pick_ok hm hm']

/-- One of the nodes, the views .. -/
def within (k b a : Int) : Int := if 0 ≤ a ∧ a < k then b + a else -1
theorem region_58 (n : Nat) (a k c : Int) (hk : k ≤ 1000) (hc : 0 ≤ c ∧ c ≤ 1000) : ev (n + 1) 58 [.v (.int .i64 a), .ep [.v (.int .i64 k)] 0, .ep [.v (.int .i64 c)] 0] = some [.v (.int .i64 (within k (8 * c) a))] := by
  rw [ev58]
  simp only [cond_ltI, cond_leI]
  unfold within
  repeat' split
  all_goals first | omega | rfl | skip
  simp only [w_i64]
  exact int1 (by omega)
theorem client_44 (n : Nat) (a : Int) : ev (n + 1) 44 [.v (.int .i64 a)] = some [.v (.bool (leI 0 a && ltI a 6))] := by
  rw [ev44]
  cases leI 0 a <;> rfl
theorem not_client {a : Int} (h : (leI 0 a && ltI a 6) = false) : ¬ (0 ≤ a ∧ a < 6) := fun ⟨h1, h2⟩ => by
  rw [leI_t h1, ltI_t h2] at h; cases h
theorem is_client {a : Int} (h : (leI 0 a && ltI a 6) = true) : 0 ≤ a ∧ a < 6 := by
  simpa [leI_iff, ltI_iff] using h

section
variable (n : Nat) (a : Int)
theorem s12 : ev (n + 2) 12 [.v (.int .i64 a)] = some [.v (.int .i64 (within 6 24 a))] := by
  rw [ev12, region_58 _ _ _ _ (by decide) (by decide)]; rfl
theorem s14 : ev (n + 2) 14 [.v (.int .i64 a)] = some [.v (.int .i64 (within 6 32 a))] := by
  rw [ev14, region_58 _ _ _ _ (by decide) (by decide)]; rfl
theorem s16 : ev (n + 2) 16 [.v (.int .i64 a)] = some [.v (.int .i64 (within 6 40 a))] := by
  rw [ev16, region_58 _ _ _ _ (by decide) (by decide)]; rfl
theorem s18 : ev (n + 2) 18 [.v (.int .i64 a)] = some [.v (.int .i64 (within 16 8 a))] := by
  rw [ev18, region_58 _ _ _ _ (by decide) (by decide)]; rfl
theorem byClient {f : Nat} {r : Int → Int} {e : Int → Int} (hf : ev (n + 2) f [.v (.int .i64 a)] = cond (!(leI 0 a && ltI a 6)) (some [.v (.int .i64 (-1))]) (some [.v (.int .i64 (r a))])) (hr : 0 ≤ a → a < 6 → r a = e a) :
    ev (n + 2) f [.v (.int .i64 a)] = some [.v (.int .i64 (if 0 ≤ a ∧ a < 6 then e a else -1))] := by
  rw [hf]
  cases h : (leI 0 a && ltI a 6) with
  | false => rw [if_neg (not_client h)]; rfl
  | true => rw [if_pos (is_client h), ← hr (is_client h).1 (is_client h).2]; rfl
theorem s13 : ev (n + 2) 13 [.v (.int .i64 a)] = some [.v (.int .i64 (within 6 24 a))] := by
  refine byClient n a (r := fun a => IntKind.wrap .i64 (24 + a)) (e := fun a => 24 + a) (by rw [ev13, client_44]; rfl) fun h1 h2 => ?_
  show IntKind.wrap .i64 (24 + a) = _
  rw [w_i64]; omega
theorem s15 : ev (n + 2) 15 [.v (.int .i64 a)] = some [.v (.int .i64 (within 6 32 a))] := by
  refine byClient n a (r := fun a => IntKind.wrap .i64 (32 + a)) (e := fun a => 32 + a) (by rw [ev15, client_44]; rfl) fun h1 h2 => ?_
  show IntKind.wrap .i64 (32 + a) = _
  rw [w_i64]; omega
theorem s17 : ev (n + 2) 17 [.v (.int .i64 a)] = some [.v (.int .i64 (within 6 40 a))] := by
  refine byClient n a (r := fun a => IntKind.wrap .i64 (40 + a)) (e := fun a => 40 + a) (by rw [ev17, client_44]; rfl) fun h1 h2 => ?_
  show IntKind.wrap .i64 (40 + a) = _
  rw [w_i64]; omega
theorem s19 : ev (n + 1) 19 [.v (.int .i64 a)] = some [.v (.int .i64 (within 16 8 a))] := by
  rw [ev19]
  simp only [cond_ltI, cond_leI]
  unfold within
  repeat' split
  all_goals first | omega | rfl | skip
  simp only [w_i64]
  exact int1 (by omega)
/-- The mark of a client's log, and what lies behind it. -/
def markAt (k a : Int) : Int := if 0 ≤ a ∧ a < 6 then (6 + a * 15) * 8 + k else -1
theorem s45 (k : Int) (hk : 0 ≤ k ∧ k ≤ 8) : ev (n + 1) 45 [.v (.int .i64 a), .v (.int .i64 k)] = some [.v (.int .i64 (markAt k a))] := by
  rw [ev45]
  simp only [cond_ltI, cond_leI]
  unfold markAt
  repeat' split
  all_goals first | omega | rfl | skip
  simp only [w_i64]
  exact int1 (by omega)
theorem s20 : ev (n + 2) 20 [.v (.int .i64 a)] = some [.v (.int .i64 (markAt 0 a))] := by
  rw [ev20, s45 _ _ _ (by decide)]; rfl
theorem s22 : ev (n + 2) 22 [.v (.int .i64 a)] = some [.v (.int .i64 (markAt 1 a))] := by
  rw [ev22, s45 _ _ _ (by decide)]; rfl
theorem s24 : ev (n + 2) 24 [.v (.int .i64 a)] = some [.v (.int .i64 (markAt 8 a))] := by
  rw [ev24, s45 _ _ _ (by decide)]; rfl
theorem s21 : ev (n + 2) 21 [.v (.int .i64 a)] = some [.v (.int .i64 (markAt 0 a))] := by
  refine byClient n a (r := fun a => IntKind.wrap .i64 (IntKind.wrap .i64 (6 + IntKind.wrap .i64 (a * 15)) * 8)) (e := fun a => (6 + a * 15) * 8 + 0) (by rw [ev21, client_44]; rfl) fun h1 h2 => ?_
  show IntKind.wrap .i64 (IntKind.wrap .i64 (6 + IntKind.wrap .i64 (a * 15)) * 8) = _
  simp only [w_i64]; omega
theorem s23 : ev (n + 3) 23 [.v (.int .i64 a)] = some [.v (.int .i64 (markAt 1 a))] := by
  rw [ev23, client_44, s21]
  simp only [some_bind', cellAt_zero, isI_v, isB_v, avInt_v, avBool_v, cond_true]
  unfold markAt
  cases h : (leI 0 a && ltI a 6) with
  | false => rw [if_neg (not_client h), if_neg (not_client h)]; rfl
  | true =>
    have := is_client h
    rw [if_pos this, if_pos this]
    simp only [w_i64, Bool.not_true, cond_false]
    exact int1 (by omega)
theorem s25 : ev (n + 3) 25 [.v (.int .i64 a)] = some [.v (.int .i64 (markAt 8 a))] := by
  rw [ev25, client_44, s21]
  simp only [some_bind', cellAt_zero, isI_v, isB_v, avInt_v, avBool_v, cond_true]
  unfold markAt
  cases h : (leI 0 a && ltI a 6) with
  | false => rw [if_neg (not_client h), if_neg (not_client h)]; rfl
  | true =>
    have := is_client h
    rw [if_pos this, if_pos this]
    simp only [w_i64, Bool.not_true, cond_false]
    exact int1 (by omega)
def pageAt (a : Int) : Int := if 96 ≤ a ∧ a < 256 then a * 8 else -1
theorem s26 : ev (n + 1) 26 [.v (.int .i64 a)] = some [.v (.int .i64 (pageAt a))] := by
  rw [ev26]
  simp only [cond_ltI, cond_leI]
  unfold pageAt
  repeat' split
  all_goals first | omega | rfl | skip
  simp only [w_i64]
  exact int1 (by omega)
theorem s27 : ev (n + 1) 27 [.v (.int .i64 a)] = some [.v (.int .i64 (pageAt a))] := by
  rw [ev27]
  simp only [cond_ltI, cond_leI]
  unfold pageAt
  repeat' split
  all_goals first | omega | rfl | skip
  simp only [w_i64]
  exact int1 (by omega)
def inHeap (a b : Int) : Bool := leI 98 b && leI b 256 && (leI 96 a && ltI a b)
theorem s46 : ev (n + 1) 46 [.v (.int .i64 a)] = some [.v (.bool (leI 98 a && leI a 256))] := by
  rw [ev46]
  cases leI 98 a <;> rfl
theorem s28 (b : Int) : ev (n + 2) 28 [.v (.int .i64 a), .v (.int .i64 b)] = some [.v (.bool (inHeap a b))] := by
  rw [ev28, s46]
  unfold inHeap
  simp only [some_bind', cellAt_zero, isB_v, avBool_v, cond_true]
  cases leI 98 b <;> cases leI b 256 <;> cases leI 96 a <;> rfl
theorem s29 (b : Int) : ev (n + 1) 29 [.v (.int .i64 a), .v (.int .i64 b)] = some [.v (.bool (inHeap a b))] := by
  rw [ev29]
  unfold inHeap
  cases leI 98 b <;> cases leI b 256 <;> cases leI 96 a <;> rfl
def words (a : Int) : Int := if 1 ≤ a ∧ a ≤ 256 then a * 8 else 0
theorem s30 : ev (n + 1) 30 [.v (.int .i64 a)] = some [.v (.int .i64 (words a))] := by
  rw [ev30]
  simp only [cond_ltI]
  unfold words
  repeat' split
  all_goals first | omega | rfl | skip
  simp only [w_i64]
  exact int1 (by omega)
end
theorem awake_8 : ev 20 8 [] = some [.v (.bool true)] := by kernel_rfl
theorem init_eq (a : Int) : ∃ x y, ev 20 10 [.v (.int .i64 a)] = some [.v (.int .u64 x), .v (.int .i64 y)] ∧ ev 20 11 [.v (.int .i64 a)] = some [.v (.int .u64 x), .v (.int .i64 y)] := by
  by_cases h : a < 1
  · refine ⟨0, 2, ?_, ?_⟩
    · rw [ev10, ltI_t h]; rfl
    · rw [ev11, ltI_t h]; rfl
  · by_cases h2 : 5 < a
    · refine ⟨0, 2, ?_, ?_⟩
      · rw [ev10, ltI_f (by omega), ltI_t h2]; rfl
      · rw [ev11, ltI_f (by omega), ltI_t h2]; rfl
    · have : a = 1 ∨ a = 2 ∨ a = 3 ∨ a = 4 ∨ a = 5 := by omega
      rcases this with rfl | rfl | rfl | rfl | rfl
      · exact ⟨549755813895, 0, by kernel_rfl, by kernel_rfl⟩
      · exact ⟨549755814791, 0, by kernel_rfl, by kernel_rfl⟩
      · exact ⟨549755929479, 0, by kernel_rfl, by kernel_rfl⟩
      · exact ⟨549770609543, 0, by kernel_rfl, by kernel_rfl⟩
      · exact ⟨551649657735, 0, by kernel_rfl, by kernel_rfl⟩

theorem addr_ev (c v l s m : Int) (b : Bool) : ev 21 4 [.v (.int .i64 c), .v (.int .i64 v), .v (.int .i64 l), .v (.int .i64 s), .v (.int .i64 m), .v (.bool b)] = some [.v (.bool true)] := by
  have main : ∀ s : Int, cond (leI 1 s) (cond (leI s 256) (words s == IntKind.i64.wrap (s * 8)) (words s == 0)) (words s == 0) = true := fun s => by
    unfold words
    rw [cond_leI, cond_leI]
    repeat' split
    all_goals first | omega | rfl | (simp only [w_i64, beq_iff_eq]; done) | (simp only [w_i64, beq_iff_eq]; omega)
  have fin : ∀ (s : Int) (k : Bool → Option (List AV)) (h : k = fun x => some [.v (.bool x)]), cond (leI 1 s) (cond (leI s 256) (k (words s == IntKind.i64.wrap (s * 8))) (k (words s == 0))) (k (words s == 0)) = some [.v (.bool true)] := fun s k h => by
    subst h
    have := main s
    cases h1 : leI 1 s <;> cases h2 : leI s 256 <;> rw [h1, h2] at this <;> simp only [cond_true, cond_false] at this ⊢ <;> rw [this]
  rw [ev4]
  cases b with
  | false =>
    obtain ⟨x, y, h1, h2⟩ := init_eq m
    simp only [cond_false, h1, h2, some_bind', cellAt_zero, cellAt_succ, isI_v, isB_v, avInt_v, avBool_v, cond_true, awake_8, s12, s13, s14, s15, s16, s17, s18, s19, s20, s21, s22, s23, s24, s25, s26, s27, s28, s29, s30, beq_self_eq_true]
    exact fin s _ rfl
  | true =>
    simp only [cond_true, pick_9 _ _ 9 (by decide) (by decide), pick_9 _ _ 19 (by decide) (by decide), pick_9 _ _ 270 (by decide) (by decide), pick_9 _ _ 8 (by decide) (by decide), some_bind', cellAt_zero, isI_v, avInt_v]
    obtain ⟨x, y, h1, h2⟩ := init_eq (IntKind.wrap .i64 (pick m 8 - 1))
    simp only [h1, h2, some_bind', cellAt_zero, cellAt_succ, isI_v, isB_v, avInt_v, avBool_v, cond_true, awake_8, s12, s13, s14, s15, s16, s17, s18, s19, s20, s21, s22, s23, s24, s25, s26, s27, s28, s29, s30, beq_self_eq_true]
    exact fin _ _ rfl
theorem addr_all {N : Nat} (l : List AV) (h : TypA Try.prog N Try.f4.params.toList l) : ∃ n, evF Try.prog cfg n 4 l = some [.v (.bool true)] := by
  rw [Try.params4] at h
  obtain ⟨a0, r, rfl, h0, h⟩ := h
  obtain ⟨a1, r, rfl, h1, h⟩ := h
  obtain ⟨a2, r, rfl, h2, h⟩ := h
  obtain ⟨a3, r, rfl, h3, h⟩ := h
  obtain ⟨a4, r, rfl, h4, h⟩ := h
  obtain ⟨a5, r, rfl, h5, h⟩ := h
  obtain rfl : r = [] := h
  obtain ⟨c, rfl, _⟩ := typV_int Try.underlying3 h0
  obtain ⟨v, rfl, _⟩ := typV_int Try.underlying3 h1
  obtain ⟨l, rfl, _⟩ := typV_int Try.underlying3 h2
  obtain ⟨s, rfl, _⟩ := typV_int Try.underlying3 h3
  obtain ⟨m, rfl, _⟩ := typV_int Try.underlying3 h4
  obtain ⟨b, rfl⟩ := typV_bool Try.underlying4 h5
  exact ⟨21, addr_ev c v l s m b⟩
end Go.Proofs.Ytniocbmadbaojaa
