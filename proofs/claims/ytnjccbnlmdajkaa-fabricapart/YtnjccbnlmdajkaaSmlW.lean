/- Small functions of a fabric: the walks. -/
import Derived.Test.YtnjccbnlmdajkaaStpW
set_option linter.all false
namespace Go.Proofs.Ytnjccbnlmdajkaa
open Go.RowKit Go.Shelf Go.Lib Go.Ev
attribute [local go_sem] Oper.semAt_some
attribute [local go_sem] neq_nil neq_some eql_some eql_nil
end Go.Proofs.Ytnjccbnlmdajkaa
