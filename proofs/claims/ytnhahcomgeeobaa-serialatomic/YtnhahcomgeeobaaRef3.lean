/- The reference's Apply. -/
import Derived.Test.YtnhahcomgeeobaaRef2
import Derived.Test.YtnhahcomgeeobaaEq3
set_option linter.all false
namespace Go.Proofs.Ytnhahcomgeeobaa
open Go.Ev
end Go.Proofs.Ytnhahcomgeeobaa
