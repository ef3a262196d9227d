/- The functions of the chapter, as the evaluator has them. -/
import Derived.Test.YtnjccbnlmdajkaaRows
import Derived.Test.YtnjccbnlmdajkaaEv10
import Derived.Test.YtnjccbnlmdajkaaEv12
import Derived.Test.YtnjccbnlmdajkaaPiecesS
set_option linter.all false
namespace Go.Proofs.Ytnjccbnlmdajkaa
open Go.Ev
def rwF : FuncId → List Bool
 | 36 => [true] | 39 => [true, true] | 58 => [true] | 60 => [false, false, true] | 74 => [true] | 75 => [true] | 76 => [true] | _ => []
def extF : FuncId → Option (List AV → Option (List AV))
 | 59 => some pieceG
 | _ => none
def cfg0 : Cfg := { rw := rwF, dat := fun _ => false, inl := fun f => Nat.beq f 58, roll := fun _ => 8, join := fun _ => false, cl := fun f => Nat.beq f 56 || Nat.beq f 68 }
def cfg : Cfg := { cfg0 with ext := extF }
noncomputable def ev (f : FuncId) (args : List AV) : Option (List AV) := evL Try.prog cfg f args
theorem ev_eq (f : FuncId) (args : List AV) : ev f args = evTop cfg f args (evBodyG Try.prog cfg (evL Try.prog cfg) (inlD Try.prog cfg (evL Try.prog cfg) 5) (loopL Try.prog cfg f) f args) := evL_eq f args
theorem ev31 (a0_0 : Int) : ev 31 [(.v (.int .i64 a0_0))] =
 cond (ltI a0_0 1)
 (some [(.v (.pointer none)), (.v (.int .i64 2))])
 (cond (ltI 256 a0_0)
 (some [(.v (.pointer none)), (.v (.int .i64 2))])
 (cond ((((leI 0 (IntKind.wrap .i64 (a0_0 * 8))) && (leI (IntKind.wrap .i64 (a0_0 * 8)) (IntKind.wrap .i64 (a0_0 * 8)))) && (leI ((IntKind.wrap .i64 (a0_0 * 8)) * 8) 281474976710656)) && (leI (IntKind.wrap .i64 (a0_0 * 8)) 281474976710656))
 (some [(.ob 69 [(.ow false 47 1 (List.replicate (Int.toNat (IntKind.wrap .i64 (a0_0 * 8))) ([(.v (.int .u64 0))] : List AV))), (.v (.bool false))]), (.v (.int .i64 0))])
 (none))) := (ev_eq _ _).trans (by kernel_rfl)
theorem ev51 (a0_0 : Int) (a1_0 : Int) (a2_0 : Int) : ev 51 [(.v (.int .i64 a0_0)), (.v (.int .i64 a1_0)), (.v (.int .i64 a2_0))] =
 cond (ltI a0_0 0)
 (some [(.v (.pointer none)), (.v (.int .i64 1))])
 (cond (leI 6 a0_0)
 (some [(.v (.pointer none)), (.v (.int .i64 1))])
 (cond (ltI a1_0 0)
 (some [(.v (.pointer none)), (.v (.int .i64 2))])
 (cond (ltI 59 a1_0)
 (some [(.v (.pointer none)), (.v (.int .i64 2))])
 (cond (ltI a2_0 0)
 (some [(.v (.pointer none)), (.v (.int .i64 2))])
 (cond (leI 5 a2_0)
 (some [(.v (.pointer none)), (.v (.int .i64 2))])
 (some [(.ob 99 [(.v (.int .i64 a0_0)), (.v (.int .i64 a1_0)), (.v (.int .i64 a2_0)), (.ow true 50 9 []), (.v (.int .i64 0)), (.ow true 47 1 [])]), (.v (.int .i64 0))])))))) := (ev_eq _ _).trans (by kernel_rfl)
end Go.Proofs.Ytnjccbnlmdajkaa
