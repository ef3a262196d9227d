/- The functions of the chapter, as the evaluator has them. -/
import Derived.Test.YtcinngpelbdopaaRows
import Derived.Test.YtcinngpelbdopaaEv10
import Derived.Test.YtcinngpelbdopaaEv12
set_option linter.all false
namespace Go.Proofs.Ytcinngpelbdopaa
open Go.Ev
def rwF : FuncId → List Bool
 | 38 => [true] | 39 => [true] | 40 => [true] | 62 => [true] | 64 => [true] | 65 => [true, true] | 83 => [true] | 84 => [true] | 85 => [true] | 86 => [true] | 87 => [true]
 | 41 => [true] | 42 => [true] | 43 => [true] | 66 => [true] | 67 => [true] | 68 => [true] | 69 => [true] | 70 => [true] | 71 => [true] | _ => []
def updF : FuncId → Option Upd
 | 73 => some (.row revG)
 | _ => none
def extF : FuncId → Option (List AV → Option (List AV))
 | 35 => some joinG
 | 63 => some anyG
 | 74 => some (growG 9)
 | _ => none
def cfg : Cfg := { rw := rwF, dat := fun _ => false, inl := fun _ => false, roll := fun _ => 8, join := fun f => Nat.beq f 18 || Nat.beq f 43 || Nat.beq f 70 || Nat.beq f 15, cl := fun f => Nat.beq f 33, upd := updF, ext := extF }
noncomputable def ev (f : FuncId) (args : List AV) : Option (List AV) := evL Try.prog cfg f args
noncomputable def lp (f k nr : Nat) (s : St) : Option LR := lpL Try.prog cfg f k nr s
theorem ev_eq (f : FuncId) (args : List AV) : ev f args = evTop cfg f args (evBodyG Try.prog cfg (evL Try.prog cfg) (inlD Try.prog cfg (evL Try.prog cfg) 5) (loopL Try.prog cfg f) f args) := evL_eq f args
theorem lp_eq (f k nr : Nat) (s : St) : lp f k nr s = evRound Try.prog cfg (evL Try.prog cfg) (inlD Try.prog cfg (evL Try.prog cfg) 5) (loopL Try.prog cfg f) (cfg.roll f) (cfg.join f) (loopAt Try.prog f k).1 (loopAt Try.prog f k).2 (retAt Try.prog cfg f nr) s := loopL_eq f _ _ _ s
end Go.Proofs.Ytcinngpelbdopaa
