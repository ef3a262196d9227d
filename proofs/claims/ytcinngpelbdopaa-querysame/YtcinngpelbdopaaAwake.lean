/- The example of the chapter. -/
import Derived.Test.YtcinngpelbdopaaTold
set_option linter.all false
namespace Go.Proofs.Ytcinngpelbdopaa
open Go.Ev
theorem s_awake : ev 14 [] = some [.v (.bool true)] := evL_of (n := 60) (by kernel_rfl)
end Go.Proofs.Ytcinngpelbdopaa
