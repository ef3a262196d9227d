/- Lists of statements, held side by side. -/
import Derived.Test.YtcinngpelbdopaaRfm
set_option linter.all false
namespace Go.Proofs.Ytcinngpelbdopaa
open Go.Ev
attribute [local congr] bind_first cond_first
/-! ## Alike -/
instance : DecidableEq Stm := fun a b => if h : seq a b = true then isTrue ((seq_iff a b).1 h) else isFalse (fun e => h ((seq_iff a b).2 e))
theorem l_same (l r : List Stm) (nl nr : Bool) (hl : l.length ≤ 1000000) (he : l.length = r.length) : ∀ (k i : Nat), i + k = l.length →
    lp 16 0 0 ⟨[(0, .lst nl 12 (l.map Stm.row)), (1, .lst nr 12 (r.map Stm.row)), (5, .v (.int .i64 (i : Int)))], []⟩ = some (bif decide (l.drop i = r.drop i) then ⟨some 0, ⟨[], []⟩, []⟩ else ⟨none, ⟨[], []⟩, [.v (.bool false)]⟩)
  | 0, i, hi => by
    rw [List.drop_of_length_le (by omega), List.drop_of_length_le (by omega), lp16_0, List.length_map, ltI_f (by omega)]; rfl
  | k + 1, i, hi => by
    have e1 : IntKind.i64.wrap ((i : Int) + 1) = ((i + 1 : Nat) : Int) := by rw [w_i64]; omega
    have ih := l_same l r nl nr hl he k (i + 1) (by omega)
    have hi1 : i < l.length := by omega
    have hi2 : i < r.length := by omega
    have g1 : lget (l.map Stm.row) i = l[i].row := by unfold lget; simp [hi1]
    have g2 : lget (r.map Stm.row) i = r[i].row := by unfold lget; simp [hi2]
    rw [List.drop_eq_getElem_cons hi1, List.drop_eq_getElem_cons hi2, lp16_0, List.length_map, List.length_map, ltI_t (show (i : Int) < ((l.length : Nat) : Int) by omega), ltI_t (show (i : Int) < ((r.length : Nat) : Int) by omega), leI_t (show (0 : Int) ≤ (i : Int) by omega), Int.toNat_natCast, g1, g2, e1, ih]
    refine cT rfl (cT rfl (cT rfl (cT rfl (cT rfl ?_))))
    show cond (!(seq l[i] r[i])) _ _ = _
    by_cases h : l[i] = r[i]
    · rw [(seq_iff _ _).2 h, h]
      refine cF rfl ?_
      refine congrArg some ?_
      by_cases hd : l.drop (i + 1) = r.drop (i + 1)
      · rw [decide_eq_true hd, decide_eq_true (by rw [hd])]
      · rw [decide_eq_false hd, decide_eq_false (fun e => hd (List.cons.inj e).2)]
    · have : seq l[i] r[i] = false := by
        cases hs : seq l[i] r[i] with
        | false => rfl
        | true => exact absurd ((seq_iff _ _).1 hs) h
      rw [this]
      refine cT rfl ?_
      rw [decide_eq_false (fun e => h (List.cons.inj e).1)]; rfl
theorem s_same (l r : List Stm) (nl nr : Bool) (hl : l.length ≤ 1000000) : ev 16 [.lst nl 12 (l.map Stm.row), .lst nr 12 (r.map Stm.row)] = some [.v (.bool (decide (l = r)))] := by
  refine (ev16 _ _ _ _).trans ?_
  rw [List.length_map, List.length_map]
  by_cases he : l.length = r.length
  · refine cF (by rw [he]; simp) ?_
    have key := l_same l r nl nr hl he l.length 0 (by omega)
    rw [List.drop_zero, List.drop_zero] at key
    refine bnd key ?_
    cases decide (l = r) <;> rfl
  · refine cT (by rw [eqB_f (by omega)]; rfl) ?_
    rw [decide_eq_false (fun e => he (by rw [e]))]
end Go.Proofs.Ytcinngpelbdopaa
