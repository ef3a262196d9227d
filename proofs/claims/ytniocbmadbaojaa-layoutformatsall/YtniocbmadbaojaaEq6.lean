/- queuepair.New, as the evaluator has it. -/
import Derived.Test.YtniocbmadbaojaaEq
set_option linter.all false
namespace Go.Proofs.Ytniocbmadbaojaa
open Go.Ev
theorem ev64 (a0_0 : Int) (a1_0 : Int) (a2_0 : Int) : ev 64 [(.v (.int .i64 a0_0)), (.v (.int .i64 a1_0)), (.v (.int .i64 a2_0))] =
 cond (ltI a0_0 0)
 (some [(.v (.pointer none)), (.v (.int .i64 1))])
 (cond (leI 6 a0_0)
 (some [(.v (.pointer none)), (.v (.int .i64 1))])
 (cond (ltI a1_0 0)
 (some [(.v (.pointer none)), (.v (.int .i64 2))])
 (cond (ltI 59 a1_0)
 (some [(.v (.pointer none)), (.v (.int .i64 2))])
 (cond (ltI a2_0 0)
 (some [(.v (.pointer none)), (.v (.int .i64 2))])
 (cond (leI 5 a2_0)
 (some [(.v (.pointer none)), (.v (.int .i64 2))])
 (some [(.ob 96 [(.v (.int .i64 a0_0)), (.v (.int .i64 a1_0)), (.v (.int .i64 a2_0)), (.ow true 116 9 []), (.v (.int .i64 0)), (.ow true 29 1 [])]), (.v (.int .i64 0))])))))) := (ev_eq _ _).trans (by kernel_rfl)
end Go.Proofs.Ytniocbmadbaojaa
