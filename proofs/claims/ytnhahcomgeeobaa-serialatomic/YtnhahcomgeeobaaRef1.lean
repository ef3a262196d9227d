/- The reference's small parts: where a key is, validity, sums, changes, ranges. -/
import Derived.Test.YtnhahcomgeeobaaApp
set_option linter.all false
namespace Go.Proofs.Ytnhahcomgeeobaa
open Go.Ev
end Go.Proofs.Ytnhahcomgeeobaa
