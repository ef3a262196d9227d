/- Step of an orphan: the walk. -/
import Derived.Test.YtnjccbnlmdajkaaChsX
set_option linter.all false
namespace Go.Proofs.Ytnjccbnlmdajkaa
open Go.RowKit Go.Shelf Go.Lib Go.Ev
attribute [local go_sem] Oper.semAt_some
end Go.Proofs.Ytnjccbnlmdajkaa
