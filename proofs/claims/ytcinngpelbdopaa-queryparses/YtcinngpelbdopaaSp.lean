/- Spoilt statements; QueryValid. -/
import Derived.Test.YtcinngpelbdopaaOf
set_option linter.all false
namespace Go.Proofs.Ytcinngpelbdopaa
open Go.Ev
theorem wU (x : Int) : 0 ≤ IntKind.u32.wrap x ∧ IntKind.u32.wrap x ≤ 4294967295 := by rw [w_u32]; omega
theorem s_own (s : Stm) : ev 17 [.agg s.row] = some [.agg s.row] := ev17 _ _ _ _ _ _ _ _ _ _ _ _
end Go.Proofs.Ytcinngpelbdopaa
