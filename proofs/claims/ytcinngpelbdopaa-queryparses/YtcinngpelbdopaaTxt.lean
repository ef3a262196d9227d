/- Texts of statements, by the reference. -/
import Derived.Test.YtcinngpelbdopaaFmt
set_option linter.all false
namespace Go.Proofs.Ytcinngpelbdopaa
open Go.Ev
attribute [local congr] bind_first cond_first
theorem s_digitsI (x : Int) (h : 0 ≤ x) (h2 : x ≤ 4294967295) : ev 58 [.v (.int .u64 (IntKind.u64.wrap x))] = some [.v (.string (bs (natD x.toNat)))] := by
  have e : IntKind.u64.wrap x = ((x.toNat : Nat) : Int) := by rw [w_u64]; omega
  rw [e]; exact s_digits _ (by omega)
theorem nat_len {x : Int} (h : 0 ≤ x) (h2 : x ≤ 4294967295) : (natD x.toNat).length ≤ 20 := (natD_len20 (by omega)).1
theorem intD_nn {x : Int} (h : 0 ≤ x) : intD x = natD x.toNat := by unfold intD; rw [if_neg (by omega)]
theorem s_column (c : Int) (h : 0 ≤ c ∧ c < 3) : ev 61 [.v (.int .i64 c)] = some [.v (.string (bs (colB c)))] := by
  rw [ev61]
  rcases col3 h with rfl | rfl | rfl <;> rfl
theorem colB_len (c : Int) : (colB c).length = 1 := by unfold colB; repeat' split
                                                       all_goals rfl
theorem opB_len (c : Int) : (opB c).length ≤ 2 := by unfold opB; repeat' split
                                                     all_goals decide
def condB (c o v : Int) : B := colB c ++ [32] ++ opB o ++ [32] ++ intD v
theorem condB_len {c o v : Int} (h : i64ok v) : (condB c o v).length ≤ 30 := by
  have h1 := colB_len c
  have h2 := opB_len o
  have h3 := (intD_len h).1
  unfold condB
  simp only [List.length_append, List.length_cons, List.length_nil]; omega
theorem s_condition (c o v : Int) (hc : 0 ≤ c ∧ c < 3) (ho : 0 ≤ o ∧ o ≤ 6) (hv : i64ok v) : ev 59 [.agg [.v (.int .i64 c), .v (.int .i64 o), .v (.int .i64 v)]] = some [.v (.string (bs (condB c o v)))] := by
  have h1 := colB_len c
  have h2 := opB_len o
  have h3 := (intD_len hv).1
  refine (ev59 _ _ _).trans ?_
  refine bnd (s_column c hc) (cT rfl ?_)
  refine cT (leN_t (by show (bs (colB c)).size + 1 ≤ _; rw [bs_size]; omega)) ?_
  refine bnd ev77 (cT rfl (cT (ops_in ho) (cT (ops_ok ho) ?_)))
  have e : avStr (cellAt (lget (avXs (cellAt [AV.ow false 9 1 ops7] 0)) (0 + o.toNat)) 0) = bs (opB o) := by
    show avStr (cellAt (lget ops7 (0 + o.toNat)) 0) = _
    rw [ops_get ho]; rfl
  have e0 : avStr (cellAt [AV.v (.string (bs (colB c)))] 0) = bs (colB c) := rfl
  refine cT (leN_t ?_) (cT (leN_t ?_) (bnd (s_Number v hv) (cT rfl (cT (leN_t ?_) ?_))))
  · show ((bs (colB c)) ++ (bs [32])).size + (avStr (cellAt (lget ops7 (0 + o.toNat)) 0)).size ≤ _
    rw [ops_get ho]
    show ((bs (colB c)) ++ (bs [32])).size + (bs (opB o)).size ≤ _
    simp only [bs_append, bs_size, List.length_append, List.length_cons, List.length_nil]; omega
  · show (((bs (colB c)) ++ (bs [32])) ++ (avStr (cellAt (lget ops7 (0 + o.toNat)) 0))).size + 1 ≤ _
    rw [ops_get ho]
    show (((bs (colB c)) ++ (bs [32])) ++ (bs (opB o))).size + 1 ≤ _
    simp only [bs_append, bs_size, List.length_append, List.length_cons, List.length_nil]; omega
  · show ((((bs (colB c)) ++ (bs [32])) ++ (avStr (cellAt (lget ops7 (0 + o.toNat)) 0))) ++ bs [32]).size + (bs (intD v)).size ≤ _
    rw [ops_get ho]
    show ((((bs (colB c)) ++ (bs [32])) ++ (bs (opB o))) ++ bs [32]).size + (bs (intD v)).size ≤ _
    simp only [bs_append, bs_size, List.length_append, List.length_cons, List.length_nil]; omega
  · show some [AV.v (.string (((((bs (colB c)) ++ (bs [32])) ++ (avStr (cellAt (lget ops7 (0 + o.toNat)) 0))) ++ bs [32]) ++ (bs (intD v))))] = _
    rw [ops_get ho]
    show some [AV.v (.string (((((bs (colB c)) ++ (bs [32])) ++ (bs (opB o))) ++ bs [32]) ++ (bs (intD v))))] = _
    simp only [bs_append]; rfl
set_option maxHeartbeats 0 in
theorem s_text (s : Stm) (hV : s.V) (hok : s.ok) : ev 37 [.agg s.row] = some [.v (.string (bs (stmT s)))] := by
  obtain ⟨hc, ho, hl⟩ := V_at hV
  obtain ⟨k, key, last, c0, c1, c2, col, v, wc, wo, wv, lim⟩ := s
  obtain ⟨_, hkey, hlast, g0, g1, g2, _, gv, _, _, gwv, glim⟩ := hok
  obtain ⟨hk, _, _, _, _, _, hw, hlm⟩ := hV
  unfold Stm.Z Stm.T at hw
  simp only at hc ho hl hkey hlast g0 g1 g2 gv gwv glim hk hw hlm
  have n1 := nat_len hkey.1 hkey.2
  have n2 := nat_len hlast.1 hlast.2
  have d0 := (intD_len g0).1
  have d1 := (intD_len g1).1
  have d2 := (intD_len g2).1
  have dv := (intD_len gv).1
  have dw := condB_len (c := wc) (o := wo) gwv
  have dc := colB_len col
  have ek := intD_nn hkey.1
  have el := intD_nn hlast.1
  refine (ev37 _ _ _ _ _ _ _ _ _ _ _ _).trans ?_
  rcases kinds hk with rfl | rfl | rfl | rfl | rfl | rfl | rfl | rfl | rfl
  · obtain ⟨rfl, rfl, rfl⟩ : wc = 0 ∧ wo = 0 ∧ wv = 0 := by omega
    repeat (first
      | (refine cT (leN_t ?_) ?_
         · simp only [cellAt_zero, avStr_v, bs_append, bs_size, List.length_append, List.length_cons, List.length_nil]; omega)
      | refine bnd (s_digitsI _ (by omega) (by omega)) ?_
      | refine bnd (s_Number _ (by assumption)) ?_
      | refine bnd (s_column _ (by assumption)) ?_
      | refine bnd (s_condition _ _ _ (by assumption) (by assumption) (by assumption)) ?_
      | refine cT rfl ?_
      | refine cF rfl ?_)
    simp [bs_append, stmT, stmW, kwd, parts, wds, testW, condB, Go.Lib.join_cons, Go.Lib.joinTail, ek, el]
  · obtain ⟨rfl, rfl, rfl⟩ : wc = 0 ∧ wo = 0 ∧ wv = 0 := by omega
    repeat (first
      | (refine cT (leN_t ?_) ?_
         · simp only [cellAt_zero, avStr_v, bs_append, bs_size, List.length_append, List.length_cons, List.length_nil]; omega)
      | refine bnd (s_digitsI _ (by omega) (by omega)) ?_
      | refine bnd (s_Number _ (by assumption)) ?_
      | refine bnd (s_column _ (by assumption)) ?_
      | refine bnd (s_condition _ _ _ (by assumption) (by assumption) (by assumption)) ?_
      | refine cT rfl ?_
      | refine cF rfl ?_)
    simp [bs_append, stmT, stmW, kwd, parts, wds, testW, condB, Go.Lib.join_cons, Go.Lib.joinTail, ek, el]
  · obtain ⟨rfl, rfl, rfl⟩ : wc = 0 ∧ wo = 0 ∧ wv = 0 := by omega
    repeat (first
      | (refine cT (leN_t ?_) ?_
         · simp only [cellAt_zero, avStr_v, bs_append, bs_size, List.length_append, List.length_cons, List.length_nil]; omega)
      | refine bnd (s_digitsI _ (by omega) (by omega)) ?_
      | refine bnd (s_Number _ (by assumption)) ?_
      | refine bnd (s_column _ (by assumption)) ?_
      | refine bnd (s_condition _ _ _ (by assumption) (by assumption) (by assumption)) ?_
      | refine cT rfl ?_
      | refine cF rfl ?_)
    simp [bs_append, stmT, stmW, kwd, parts, wds, testW, condB, Go.Lib.join_cons, Go.Lib.joinTail, ek, el]
  · obtain ⟨rfl, rfl, rfl⟩ : wc = 0 ∧ wo = 0 ∧ wv = 0 := by omega
    repeat (first
      | (refine cT (leN_t ?_) ?_
         · simp only [cellAt_zero, avStr_v, bs_append, bs_size, List.length_append, List.length_cons, List.length_nil]; omega)
      | refine bnd (s_digitsI _ (by omega) (by omega)) ?_
      | refine bnd (s_Number _ (by assumption)) ?_
      | refine bnd (s_column _ (by assumption)) ?_
      | refine bnd (s_condition _ _ _ (by assumption) (by assumption) (by assumption)) ?_
      | refine cT rfl ?_
      | refine cF rfl ?_)
    simp [bs_append, stmT, stmW, kwd, parts, wds, testW, condB, Go.Lib.join_cons, Go.Lib.joinTail, ek, el]
  · obtain ⟨rfl, rfl, rfl⟩ : wc = 0 ∧ wo = 0 ∧ wv = 0 := by omega
    repeat (first
      | (refine cT (leN_t ?_) ?_
         · simp only [cellAt_zero, avStr_v, bs_append, bs_size, List.length_append, List.length_cons, List.length_nil]; omega)
      | refine bnd (s_digitsI _ (by omega) (by omega)) ?_
      | refine bnd (s_Number _ (by assumption)) ?_
      | refine bnd (s_column _ (by assumption)) ?_
      | refine bnd (s_condition _ _ _ (by assumption) (by assumption) (by assumption)) ?_
      | refine cT rfl ?_
      | refine cF rfl ?_)
    simp [bs_append, stmT, stmW, kwd, parts, wds, testW, condB, Go.Lib.join_cons, Go.Lib.joinTail, ek, el]
  · by_cases e0 : wo = 0
    · obtain ⟨rfl, rfl⟩ : wc = 0 ∧ wv = 0 := by omega
      subst e0
      refine bnd (s_digitsI _ (by omega) (by omega)) (cT rfl (cF rfl ?_))
      by_cases e1 : lim = 0
      · subst e1
        repeat (first
      | (refine cT (leN_t ?_) ?_
         · simp only [cellAt_zero, avStr_v, bs_append, bs_size, List.length_append, List.length_cons, List.length_nil]; omega)
      | refine bnd (s_digitsI _ (by omega) (by omega)) ?_
      | refine bnd (s_Number _ (by assumption)) ?_
      | refine bnd (s_column _ (by assumption)) ?_
      | refine bnd (s_condition _ _ _ (by assumption) (by assumption) (by assumption)) ?_
      | refine cT rfl ?_
      | refine cF rfl ?_)
        simp [bs_append, stmT, stmW, kwd, parts, wds, testW, condB, Go.Lib.join_cons, Go.Lib.joinTail, ek, el]
      · have n3 := nat_len (x := lim) (by omega) (by omega)
        have em := intD_nn (x := lim) (by omega)
        have hlp : ltI 0 lim = true := ltI_t (by omega)
        have hl1 : 0 ≤ lim := by omega
        have hl2 : lim ≤ 4294967295 := by omega
        repeat (first | refine cT hlp ?_ | refine bnd (s_digitsI lim hl1 hl2) ?_ | (first
      | (refine cT (leN_t ?_) ?_
         · simp only [cellAt_zero, avStr_v, bs_append, bs_size, List.length_append, List.length_cons, List.length_nil]; omega)
      | refine bnd (s_digitsI _ (by omega) (by omega)) ?_
      | refine bnd (s_Number _ (by assumption)) ?_
      | refine bnd (s_column _ (by assumption)) ?_
      | refine bnd (s_condition _ _ _ (by assumption) (by assumption) (by assumption)) ?_
      | refine cT rfl ?_
      | refine cF rfl ?_))
        simp [bs_append, stmT, stmW, kwd, parts, wds, testW, condB, Go.Lib.join_cons, Go.Lib.joinTail, ek, el, e1, em]
    · have hp : 0 < wo := by omega
      refine bnd (s_digitsI _ (by omega) (by omega)) (cT rfl (cT (ltI_t hp) ?_))
      by_cases e1 : lim = 0
      · subst e1
        repeat (first
      | (refine cT (leN_t ?_) ?_
         · simp only [cellAt_zero, avStr_v, bs_append, bs_size, List.length_append, List.length_cons, List.length_nil]; omega)
      | refine bnd (s_digitsI _ (by omega) (by omega)) ?_
      | refine bnd (s_Number _ (by assumption)) ?_
      | refine bnd (s_column _ (by assumption)) ?_
      | refine bnd (s_condition _ _ _ (by assumption) (by assumption) (by assumption)) ?_
      | refine cT rfl ?_
      | refine cF rfl ?_)
        simp [bs_append, stmT, stmW, kwd, parts, wds, testW, condB, Go.Lib.join_cons, Go.Lib.joinTail, ek, el, e0]
      · have n3 := nat_len (x := lim) (by omega) (by omega)
        have em := intD_nn (x := lim) (by omega)
        have hlp : ltI 0 lim = true := ltI_t (by omega)
        have hl1 : 0 ≤ lim := by omega
        have hl2 : lim ≤ 4294967295 := by omega
        repeat (first | refine cT hlp ?_ | refine bnd (s_digitsI lim hl1 hl2) ?_ | (first
      | (refine cT (leN_t ?_) ?_
         · simp only [cellAt_zero, avStr_v, bs_append, bs_size, List.length_append, List.length_cons, List.length_nil]; omega)
      | refine bnd (s_digitsI _ (by omega) (by omega)) ?_
      | refine bnd (s_Number _ (by assumption)) ?_
      | refine bnd (s_column _ (by assumption)) ?_
      | refine bnd (s_condition _ _ _ (by assumption) (by assumption) (by assumption)) ?_
      | refine cT rfl ?_
      | refine cF rfl ?_))
        simp [bs_append, stmT, stmW, kwd, parts, wds, testW, condB, Go.Lib.join_cons, Go.Lib.joinTail, ek, el, e0, e1, em]
  · by_cases e0 : wo = 0
    · obtain ⟨rfl, rfl⟩ : wc = 0 ∧ wv = 0 := by omega
      subst e0
      repeat (first
      | (refine cT (leN_t ?_) ?_
         · simp only [cellAt_zero, avStr_v, bs_append, bs_size, List.length_append, List.length_cons, List.length_nil]; omega)
      | refine bnd (s_digitsI _ (by omega) (by omega)) ?_
      | refine bnd (s_Number _ (by assumption)) ?_
      | refine bnd (s_column _ (by assumption)) ?_
      | refine bnd (s_condition _ _ _ (by assumption) (by assumption) (by assumption)) ?_
      | refine cT rfl ?_
      | refine cF rfl ?_)
      simp [bs_append, stmT, stmW, kwd, parts, wds, testW, condB, Go.Lib.join_cons, Go.Lib.joinTail, ek, el]
    · have hp : 0 < wo := by omega
      refine bnd (s_digitsI _ (by omega) (by omega)) (cT rfl (cT (ltI_t hp) ?_))
      repeat (first
      | (refine cT (leN_t ?_) ?_
         · simp only [cellAt_zero, avStr_v, bs_append, bs_size, List.length_append, List.length_cons, List.length_nil]; omega)
      | refine bnd (s_digitsI _ (by omega) (by omega)) ?_
      | refine bnd (s_Number _ (by assumption)) ?_
      | refine bnd (s_column _ (by assumption)) ?_
      | refine bnd (s_condition _ _ _ (by assumption) (by assumption) (by assumption)) ?_
      | refine cT rfl ?_
      | refine cF rfl ?_)
      simp [bs_append, stmT, stmW, kwd, parts, wds, testW, condB, Go.Lib.join_cons, Go.Lib.joinTail, ek, el, e0]
  · by_cases e0 : wo = 0
    · obtain ⟨rfl, rfl⟩ : wc = 0 ∧ wv = 0 := by omega
      subst e0
      repeat (first
      | (refine cT (leN_t ?_) ?_
         · simp only [cellAt_zero, avStr_v, bs_append, bs_size, List.length_append, List.length_cons, List.length_nil]; omega)
      | refine bnd (s_digitsI _ (by omega) (by omega)) ?_
      | refine bnd (s_Number _ (by assumption)) ?_
      | refine bnd (s_column _ (by assumption)) ?_
      | refine bnd (s_condition _ _ _ (by assumption) (by assumption) (by assumption)) ?_
      | refine cT rfl ?_
      | refine cF rfl ?_)
      simp [bs_append, stmT, stmW, kwd, parts, wds, testW, condB, Go.Lib.join_cons, Go.Lib.joinTail, ek, el]
    · have hp : 0 < wo := by omega
      refine bnd (s_digitsI _ (by omega) (by omega)) (cT rfl (cT (ltI_t hp) ?_))
      repeat (first
      | (refine cT (leN_t ?_) ?_
         · simp only [cellAt_zero, avStr_v, bs_append, bs_size, List.length_append, List.length_cons, List.length_nil]; omega)
      | refine bnd (s_digitsI _ (by omega) (by omega)) ?_
      | refine bnd (s_Number _ (by assumption)) ?_
      | refine bnd (s_column _ (by assumption)) ?_
      | refine bnd (s_condition _ _ _ (by assumption) (by assumption) (by assumption)) ?_
      | refine cT rfl ?_
      | refine cF rfl ?_)
      simp [bs_append, stmT, stmW, kwd, parts, wds, testW, condB, Go.Lib.join_cons, Go.Lib.joinTail, ek, el, e0]
  · have hp : 0 < wo := by omega
    have e0 : wo ≠ 0 := by omega
    refine bnd (s_digitsI _ (by omega) (by omega)) (cT rfl (cT (ltI_t hp) ?_))
    repeat (first
      | (refine cT (leN_t ?_) ?_
         · simp only [cellAt_zero, avStr_v, bs_append, bs_size, List.length_append, List.length_cons, List.length_nil]; omega)
      | refine bnd (s_digitsI _ (by omega) (by omega)) ?_
      | refine bnd (s_Number _ (by assumption)) ?_
      | refine bnd (s_column _ (by assumption)) ?_
      | refine bnd (s_condition _ _ _ (by assumption) (by assumption) (by assumption)) ?_
      | refine cT rfl ?_
      | refine cF rfl ?_)
    simp [bs_append, stmT, stmW, kwd, parts, wds, testW, condB, Go.Lib.join_cons, Go.Lib.joinTail, ek, el, e0]
end Go.Proofs.Ytcinngpelbdopaa
