/- SerialAtomic: what the statement's function answers. -/
import Derived.Test.YtnhahcomgeeobaaAppl
set_option linter.all false
namespace Go.Proofs.Ytnhahcomgeeobaa
open Go.Ev
set_option maxRecDepth 100000
theorem n1_of {x : Int} (h : x = 0 ∨ x = 2 ∨ x = 16 ∨ x = 17 ∨ x = 20) : x ≠ 1 := by omega
theorem stp_code (s : Stm) (ts : List Rw) : (stp s ts).2.2 ≠ 1 := by
 unfold stp
 cases leI s.k 4 with
 | true =>
  simp only [cond_true]
  unfold wrR
  generalize decide (-9223372036854775808 ≤ (ts.getD (pl ts s.key) rz).col s.col.toNat + s.v∧(ts.getD (pl ts s.key) rz).col s.col.toNat + s.v ≤ 9223372036854775807) = dd
  cases (s.k == 1) <;> cases hasK ts s.key (pl ts s.key) <;> cases (s.k == 4) <;> cases (s.k == 2) <;> cases (s.k == 3) <;> cases dd <;> (refine n1_of ?_; first | exact .inl rfl | exact .inr (.inl rfl) | exact .inr (.inr (.inl rfl)) | exact .inr (.inr (.inr (.inl rfl))) | exact .inr (.inr (.inr (.inr rfl))))
 | false =>
  simp only [cond_false]
  unfold rdR
  cases (s.k == 6) <;> cases (s.k == 7) <;> cases (s.k == 8) <;> cases (s.k == 5) <;> cases sumB (tot s.col.toNat (ts.filter (selB s))) <;> cases hasK ts s.key (pl ts s.key) <;> cases holdB s.wc s.wo s.wv (ts.getD (pl ts s.key) rz).a (ts.getD (pl ts s.key) rz).b (ts.getD (pl ts s.key) rz).c <;> (refine n1_of ?_; first | exact .inl rfl | exact .inr (.inl rfl) | exact .inr (.inr (.inl rfl)) | exact .inr (.inr (.inr (.inl rfl))) | exact .inr (.inr (.inr (.inr rfl))))
theorem appR_code (t0 : List Rw) : ∀ (l : List Stm) (ts : List Rw) (i : Nat) (acc : List Res),(appR t0 l ts i acc).2.2.2 ≠ 1
 | [],_,_,_ => by show ¬ ((0 : Int) = 1); decide
 | s :: ss,ts,i,acc => by
  unfold appR
  cases (stp s ts).2.2 == 0 with
  | true => exact appR_code t0 ss _ _ _
  | false => exact stp_code s ts
theorem applyM_arg (t : List Rw) (l : List Stm) : (applyM t l).2.2.2 = 1 ↔ (okP l && tval 0 t) = false := by
 unfold applyM
 cases okP l && tval 0 t with
 | true => exact ⟨fun h => absurd h (appR_code t l t 0 []),fun h => by cases h⟩
 | false => exact ⟨fun _ => rfl,fun _ => rfl⟩
end Go.Proofs.Ytnhahcomgeeobaa
