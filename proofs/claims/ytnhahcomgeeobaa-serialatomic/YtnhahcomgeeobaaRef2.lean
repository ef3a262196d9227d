/- The reference's sums, changes and ranges. -/
import Derived.Test.YtnhahcomgeeobaaRef1
set_option linter.all false
namespace Go.Proofs.Ytnhahcomgeeobaa
open Go.Ev
end Go.Proofs.Ytnhahcomgeeobaa
