/- SerialApplies: what the statement's function answers. -/
import Derived.Test.YtnhahcomgeeobaaPrg2
import Derived.Test.YtnhahcomgeeobaaTy
set_option linter.all false
namespace Go.Proofs.Ytnhahcomgeeobaa
open Go.Ev
set_option maxRecDepth 100000
theorem rws {N : Nat} {n : Nat} {x : List (List AV)} (h : ∀ y ∈ x,TypC Try.prog N (n + 3) 91 y) : ∃ l : List Rw,x = l.map Rw.row∧∀ r ∈ l,r.ok :=
 rows_of Rw.row Rw.ok x fun y hy => by
  obtain ⟨x0,x1,x2,x3,rfl,f0,f1,f2,f3⟩ := openC91 (h y hy)
  exact ⟨⟨x0,x1,x2,x3⟩,rfl,f0,f1,f2,f3⟩
theorem raws {N : Nat} {n : Nat} {x : List (List AV)} (h : ∀ y ∈ x,TypC Try.prog N (n + 2) 119 y) : ∃ l : List Raw,x = l.map Raw.row := by
 obtain ⟨l,h,_⟩ := rows_of Raw.row (fun _ => True) x fun y hy => by
  obtain ⟨x0,x1,x2,x3,x4,x5,x6,rfl,_⟩ := openC119 (h y hy)
  exact ⟨⟨x0,x1,x2,x3,x4,x5,x6⟩,rfl,trivial⟩
 exact ⟨l,h⟩
end Go.Proofs.Ytnhahcomgeeobaa
