/- The functions of the chapter, as the evaluator has them. -/
import Derived.Test.YtkefjdmoikegbaaRows
import Derived.Test.YtkefjdmoikegbaaEv10
import Derived.Test.YtkefjdmoikegbaaPiecesS
set_option linter.all false
namespace Go.Proofs.Ytkefjdmoikegbaa
open Go.Ev

def rwF : FuncId → List Bool
 | 11 => [true] | 13 => [true, true] | 21 => [true] | 22 => [true] | 33 => [true] | 37 => [true] | 39 => [false, false, true] | 48 => [true] | 68 => [true] | 69 => [true]
 | 45 => [true] | 46 => [true, true] | 50 => [true] | 74 => [true] | 23 => [true] | 54 => [true] | 56 => [true] | 57 => [true] | 58 => [true] | 82 => [true] | _ => []
def extF : FuncId → Option (List AV → Option (List AV))
 | 38 => some pieceG
 | _ => none
def cfg0 : Cfg := { rw := rwF, dat := fun _ => false, inl := fun _ => false, roll := fun _ => 8, join := fun _ => false, cl := fun f => Nat.beq f 35 || Nat.beq f 41 }
def cfg : Cfg := { cfg0 with ext := extF }
noncomputable def ev (f : FuncId) (args : List AV) : Option (List AV) := evL Try.prog cfg f args
noncomputable def lp (f k nr : Nat) (s : St) : Option LR := lpL Try.prog cfg f k nr s
theorem ev_eq (f : FuncId) (args : List AV) : ev f args = evTop cfg f args (evBodyG Try.prog cfg (callX Try.prog cfg) (inlD Try.prog cfg (callX Try.prog cfg) 5) (loopL Try.prog cfg f) f args) := evL_eqX f args
theorem lp_eq (f k nr : Nat) (s : St) : lp f k nr s = evRound Try.prog cfg (callX Try.prog cfg) (inlD Try.prog cfg (callX Try.prog cfg) 5) (loopL Try.prog cfg f) (cfg.roll f) (cfg.join f) (loopAt Try.prog f k).1 (loopAt Try.prog f k).2 (retAt Try.prog cfg f nr) s := loopL_eqX f _ _ _ s

-- "bodega/bodegalaw5.QueuepairNew"
theorem ev4 (a0_0 : Int) (a1_0 : Int) (a2_0 : Int) (a3_0 : Bool) : ev 4 [(.v (.int .i64 a0_0)), (.v (.int .i64 a1_0)), (.v (.int .i64 a2_0)), (.v (.bool a3_0))] =
 cond a3_0
 ((ev 10 [(.v (.int .i64 a0_0)), (.v (.int .i64 9))]).bind fun r0 =>
 cond (isI .i64 (cellAt r0 0))
 ((ev 10 [(.v (.int .i64 a1_0)), (.v (.int .i64 210))]).bind fun r3 =>
 cond (isI .i64 (cellAt r3 0))
 ((ev 10 [(.v (.int .i64 a2_0)), (.v (.int .i64 8))]).bind fun r6 =>
 cond (isI .i64 (cellAt r6 0))
 ((ev 16 [(.v (.int .i64 (IntKind.wrap .i64 ((avInt (cellAt r0 0)) - 1)))), (.v (.int .i64 (IntKind.wrap .i64 ((avInt (cellAt r3 0)) - 3)))), (.v (.int .i64 (IntKind.wrap .i64 ((avInt (cellAt r6 0)) - 1))))]).bind fun r9 =>
 cond (isNP (cellAt r9 0))
 (cond (isI .i64 (cellAt r9 1))
 (cond (ltI (IntKind.wrap .i64 ((avInt (cellAt r0 0)) - 1)) 0)
 (cond (!((avInt (cellAt r9 1)) == 1))
 (some [(.v (.bool false))])
 ((ev 9 []).bind fun r13 =>
 cond (isB (cellAt r13 0))
 (cond (!(avBool (cellAt r13 0)))
 (some [(.v (.bool false))])
 (some [(.v (.bool true))]))
 (none)))
 (cond (leI 6 (IntKind.wrap .i64 ((avInt (cellAt r0 0)) - 1)))
 (cond (!((avInt (cellAt r9 1)) == 1))
 (some [(.v (.bool false))])
 ((ev 9 []).bind fun r18 =>
 cond (isB (cellAt r18 0))
 (cond (!(avBool (cellAt r18 0)))
 (some [(.v (.bool false))])
 (some [(.v (.bool true))]))
 (none)))
 (cond (ltI (IntKind.wrap .i64 ((avInt (cellAt r3 0)) - 3)) 0)
 (cond (!((avInt (cellAt r9 1)) == 2))
 (some [(.v (.bool false))])
 ((ev 9 []).bind fun r23 =>
 cond (isB (cellAt r23 0))
 (cond (!(avBool (cellAt r23 0)))
 (some [(.v (.bool false))])
 (some [(.v (.bool true))]))
 (none)))
 (cond (ltI 59 (IntKind.wrap .i64 ((avInt (cellAt r3 0)) - 3)))
 (cond (!((avInt (cellAt r9 1)) == 2))
 (some [(.v (.bool false))])
 ((ev 9 []).bind fun r28 =>
 cond (isB (cellAt r28 0))
 (cond (!(avBool (cellAt r28 0)))
 (some [(.v (.bool false))])
 (some [(.v (.bool true))]))
 (none)))
 (cond (ltI (IntKind.wrap .i64 ((avInt (cellAt r6 0)) - 1)) 0)
 (cond (!((avInt (cellAt r9 1)) == 2))
 (some [(.v (.bool false))])
 ((ev 9 []).bind fun r33 =>
 cond (isB (cellAt r33 0))
 (cond (!(avBool (cellAt r33 0)))
 (some [(.v (.bool false))])
 (some [(.v (.bool true))]))
 (none)))
 (cond (leI 5 (IntKind.wrap .i64 ((avInt (cellAt r6 0)) - 1)))
 (cond (!((avInt (cellAt r9 1)) == 2))
 (some [(.v (.bool false))])
 ((ev 9 []).bind fun r38 =>
 cond (isB (cellAt r38 0))
 (cond (!(avBool (cellAt r38 0)))
 (some [(.v (.bool false))])
 (some [(.v (.bool true))]))
 (none)))
 (cond (!((avInt (cellAt r9 1)) == 0))
 (some [(.v (.bool false))])
 (some [(.v (.bool false))]))))))))
 (none))
 (cond (((isOb 83 (cellAt r9 0)) && (Nat.beq (List.length (obCells (cellAt r9 0))) 6)) && ((isI .i64 (cellAt (obCells (cellAt r9 0)) 0)) && ((isI .i64 (cellAt (obCells (cellAt r9 0)) 1)) && ((isI .i64 (cellAt (obCells (cellAt r9 0)) 2)) && (((isOw 38 9 (cellAt (obCells (cellAt r9 0)) 3)) || (isNilL (cellAt (obCells (cellAt r9 0)) 3))) && ((isI .i64 (cellAt (obCells (cellAt r9 0)) 4)) && ((isOw 23 1 (cellAt (obCells (cellAt r9 0)) 5)) || (isNilL (cellAt (obCells (cellAt r9 0)) 5)))))))))
 (cond (isI .i64 (cellAt r9 1))
 (cond (ltI (IntKind.wrap .i64 ((avInt (cellAt r0 0)) - 1)) 0)
 (cond (!((avInt (cellAt r9 1)) == 1))
 (some [(.v (.bool false))])
 (some [(.v (.bool false))]))
 (cond (leI 6 (IntKind.wrap .i64 ((avInt (cellAt r0 0)) - 1)))
 (cond (!((avInt (cellAt r9 1)) == 1))
 (some [(.v (.bool false))])
 (some [(.v (.bool false))]))
 (cond (ltI (IntKind.wrap .i64 ((avInt (cellAt r3 0)) - 3)) 0)
 (cond (!((avInt (cellAt r9 1)) == 2))
 (some [(.v (.bool false))])
 (some [(.v (.bool false))]))
 (cond (ltI 59 (IntKind.wrap .i64 ((avInt (cellAt r3 0)) - 3)))
 (cond (!((avInt (cellAt r9 1)) == 2))
 (some [(.v (.bool false))])
 (some [(.v (.bool false))]))
 (cond (ltI (IntKind.wrap .i64 ((avInt (cellAt r6 0)) - 1)) 0)
 (cond (!((avInt (cellAt r9 1)) == 2))
 (some [(.v (.bool false))])
 (some [(.v (.bool false))]))
 (cond (leI 5 (IntKind.wrap .i64 ((avInt (cellAt r6 0)) - 1)))
 (cond (!((avInt (cellAt r9 1)) == 2))
 (some [(.v (.bool false))])
 (some [(.v (.bool false))]))
 (cond (!((avInt (cellAt r9 1)) == 0))
 (some [(.v (.bool false))])
 ((ev 9 []).bind fun r64 =>
 cond (isB (cellAt r64 0))
 (cond (!(avBool (cellAt r64 0)))
 (some [(.v (.bool false))])
 ((ev 17 [(.ep [(.v (.int .i64 (avInt (cellAt (obCells (cellAt r9 0)) 0)))), (.v (.int .i64 (avInt (cellAt (obCells (cellAt r9 0)) 1)))), (.v (.int .i64 (avInt (cellAt (obCells (cellAt r9 0)) 2)))), (.lst (avNil (cellAt (obCells (cellAt r9 0)) 3)) 9 (avXs (cellAt (obCells (cellAt r9 0)) 3))), (.v (.int .i64 (avInt (cellAt (obCells (cellAt r9 0)) 4)))), (.lst (avNil (cellAt (obCells (cellAt r9 0)) 5)) 1 (avXs (cellAt (obCells (cellAt r9 0)) 5)))] 0)]).bind fun r67 =>
 cond (isI .i64 (cellAt r67 0))
 (cond ((avInt (cellAt r67 0)) == (IntKind.wrap .i64 ((avInt (cellAt r0 0)) - 1)))
 ((ev 18 [(.ep [(.v (.int .i64 (avInt (cellAt (obCells (cellAt r9 0)) 0)))), (.v (.int .i64 (avInt (cellAt (obCells (cellAt r9 0)) 1)))), (.v (.int .i64 (avInt (cellAt (obCells (cellAt r9 0)) 2)))), (.lst (avNil (cellAt (obCells (cellAt r9 0)) 3)) 9 (avXs (cellAt (obCells (cellAt r9 0)) 3))), (.v (.int .i64 (avInt (cellAt (obCells (cellAt r9 0)) 4)))), (.lst (avNil (cellAt (obCells (cellAt r9 0)) 5)) 1 (avXs (cellAt (obCells (cellAt r9 0)) 5)))] 0)]).bind fun r70 =>
 cond (isI .i64 (cellAt r70 0))
 (cond ((avInt (cellAt r70 0)) == (IntKind.wrap .i64 ((avInt (cellAt r3 0)) - 3)))
 ((ev 19 [(.ep [(.v (.int .i64 (avInt (cellAt (obCells (cellAt r9 0)) 0)))), (.v (.int .i64 (avInt (cellAt (obCells (cellAt r9 0)) 1)))), (.v (.int .i64 (avInt (cellAt (obCells (cellAt r9 0)) 2)))), (.lst (avNil (cellAt (obCells (cellAt r9 0)) 3)) 9 (avXs (cellAt (obCells (cellAt r9 0)) 3))), (.v (.int .i64 (avInt (cellAt (obCells (cellAt r9 0)) 4)))), (.lst (avNil (cellAt (obCells (cellAt r9 0)) 5)) 1 (avXs (cellAt (obCells (cellAt r9 0)) 5)))] 0)]).bind fun r73 =>
 cond (isI .i64 (cellAt r73 0))
 (cond ((avInt (cellAt r73 0)) == (IntKind.wrap .i64 ((avInt (cellAt r6 0)) - 1)))
 ((ev 12 [(.ep [(.v (.int .i64 (avInt (cellAt (obCells (cellAt r9 0)) 0)))), (.v (.int .i64 (avInt (cellAt (obCells (cellAt r9 0)) 1)))), (.v (.int .i64 (avInt (cellAt (obCells (cellAt r9 0)) 2)))), (.lst (avNil (cellAt (obCells (cellAt r9 0)) 3)) 9 (avXs (cellAt (obCells (cellAt r9 0)) 3))), (.v (.int .i64 (avInt (cellAt (obCells (cellAt r9 0)) 4)))), (.lst (avNil (cellAt (obCells (cellAt r9 0)) 5)) 1 (avXs (cellAt (obCells (cellAt r9 0)) 5)))] 0)]).bind fun r76 =>
 cond (isI .i64 (cellAt r76 0))
 (some [(.v (.bool ((avInt (cellAt r76 0)) == 0)))])
 (none))
 (some [(.v (.bool false))]))
 (none))
 (some [(.v (.bool false))]))
 (none))
 (some [(.v (.bool false))]))
 (none)))
 (none)))))))))
 (none))
 (none)))
 (none))
 (none))
 (none))
 ((ev 16 [(.v (.int .i64 a0_0)), (.v (.int .i64 a1_0)), (.v (.int .i64 a2_0))]).bind fun r79 =>
 cond (isNP (cellAt r79 0))
 (cond (isI .i64 (cellAt r79 1))
 (cond (ltI a0_0 0)
 (cond (!((avInt (cellAt r79 1)) == 1))
 (some [(.v (.bool false))])
 ((ev 9 []).bind fun r83 =>
 cond (isB (cellAt r83 0))
 (cond (!(avBool (cellAt r83 0)))
 (some [(.v (.bool false))])
 (some [(.v (.bool true))]))
 (none)))
 (cond (leI 6 a0_0)
 (cond (!((avInt (cellAt r79 1)) == 1))
 (some [(.v (.bool false))])
 ((ev 9 []).bind fun r88 =>
 cond (isB (cellAt r88 0))
 (cond (!(avBool (cellAt r88 0)))
 (some [(.v (.bool false))])
 (some [(.v (.bool true))]))
 (none)))
 (cond (ltI a1_0 0)
 (cond (!((avInt (cellAt r79 1)) == 2))
 (some [(.v (.bool false))])
 ((ev 9 []).bind fun r93 =>
 cond (isB (cellAt r93 0))
 (cond (!(avBool (cellAt r93 0)))
 (some [(.v (.bool false))])
 (some [(.v (.bool true))]))
 (none)))
 (cond (ltI 59 a1_0)
 (cond (!((avInt (cellAt r79 1)) == 2))
 (some [(.v (.bool false))])
 ((ev 9 []).bind fun r98 =>
 cond (isB (cellAt r98 0))
 (cond (!(avBool (cellAt r98 0)))
 (some [(.v (.bool false))])
 (some [(.v (.bool true))]))
 (none)))
 (cond (ltI a2_0 0)
 (cond (!((avInt (cellAt r79 1)) == 2))
 (some [(.v (.bool false))])
 ((ev 9 []).bind fun r103 =>
 cond (isB (cellAt r103 0))
 (cond (!(avBool (cellAt r103 0)))
 (some [(.v (.bool false))])
 (some [(.v (.bool true))]))
 (none)))
 (cond (leI 5 a2_0)
 (cond (!((avInt (cellAt r79 1)) == 2))
 (some [(.v (.bool false))])
 ((ev 9 []).bind fun r108 =>
 cond (isB (cellAt r108 0))
 (cond (!(avBool (cellAt r108 0)))
 (some [(.v (.bool false))])
 (some [(.v (.bool true))]))
 (none)))
 (cond (!((avInt (cellAt r79 1)) == 0))
 (some [(.v (.bool false))])
 (some [(.v (.bool false))]))))))))
 (none))
 (cond (((isOb 83 (cellAt r79 0)) && (Nat.beq (List.length (obCells (cellAt r79 0))) 6)) && ((isI .i64 (cellAt (obCells (cellAt r79 0)) 0)) && ((isI .i64 (cellAt (obCells (cellAt r79 0)) 1)) && ((isI .i64 (cellAt (obCells (cellAt r79 0)) 2)) && (((isOw 38 9 (cellAt (obCells (cellAt r79 0)) 3)) || (isNilL (cellAt (obCells (cellAt r79 0)) 3))) && ((isI .i64 (cellAt (obCells (cellAt r79 0)) 4)) && ((isOw 23 1 (cellAt (obCells (cellAt r79 0)) 5)) || (isNilL (cellAt (obCells (cellAt r79 0)) 5)))))))))
 (cond (isI .i64 (cellAt r79 1))
 (cond (ltI a0_0 0)
 (cond (!((avInt (cellAt r79 1)) == 1))
 (some [(.v (.bool false))])
 (some [(.v (.bool false))]))
 (cond (leI 6 a0_0)
 (cond (!((avInt (cellAt r79 1)) == 1))
 (some [(.v (.bool false))])
 (some [(.v (.bool false))]))
 (cond (ltI a1_0 0)
 (cond (!((avInt (cellAt r79 1)) == 2))
 (some [(.v (.bool false))])
 (some [(.v (.bool false))]))
 (cond (ltI 59 a1_0)
 (cond (!((avInt (cellAt r79 1)) == 2))
 (some [(.v (.bool false))])
 (some [(.v (.bool false))]))
 (cond (ltI a2_0 0)
 (cond (!((avInt (cellAt r79 1)) == 2))
 (some [(.v (.bool false))])
 (some [(.v (.bool false))]))
 (cond (leI 5 a2_0)
 (cond (!((avInt (cellAt r79 1)) == 2))
 (some [(.v (.bool false))])
 (some [(.v (.bool false))]))
 (cond (!((avInt (cellAt r79 1)) == 0))
 (some [(.v (.bool false))])
 ((ev 9 []).bind fun r134 =>
 cond (isB (cellAt r134 0))
 (cond (!(avBool (cellAt r134 0)))
 (some [(.v (.bool false))])
 ((ev 17 [(.ep [(.v (.int .i64 (avInt (cellAt (obCells (cellAt r79 0)) 0)))), (.v (.int .i64 (avInt (cellAt (obCells (cellAt r79 0)) 1)))), (.v (.int .i64 (avInt (cellAt (obCells (cellAt r79 0)) 2)))), (.lst (avNil (cellAt (obCells (cellAt r79 0)) 3)) 9 (avXs (cellAt (obCells (cellAt r79 0)) 3))), (.v (.int .i64 (avInt (cellAt (obCells (cellAt r79 0)) 4)))), (.lst (avNil (cellAt (obCells (cellAt r79 0)) 5)) 1 (avXs (cellAt (obCells (cellAt r79 0)) 5)))] 0)]).bind fun r137 =>
 cond (isI .i64 (cellAt r137 0))
 (cond ((avInt (cellAt r137 0)) == a0_0)
 ((ev 18 [(.ep [(.v (.int .i64 (avInt (cellAt (obCells (cellAt r79 0)) 0)))), (.v (.int .i64 (avInt (cellAt (obCells (cellAt r79 0)) 1)))), (.v (.int .i64 (avInt (cellAt (obCells (cellAt r79 0)) 2)))), (.lst (avNil (cellAt (obCells (cellAt r79 0)) 3)) 9 (avXs (cellAt (obCells (cellAt r79 0)) 3))), (.v (.int .i64 (avInt (cellAt (obCells (cellAt r79 0)) 4)))), (.lst (avNil (cellAt (obCells (cellAt r79 0)) 5)) 1 (avXs (cellAt (obCells (cellAt r79 0)) 5)))] 0)]).bind fun r140 =>
 cond (isI .i64 (cellAt r140 0))
 (cond ((avInt (cellAt r140 0)) == a1_0)
 ((ev 19 [(.ep [(.v (.int .i64 (avInt (cellAt (obCells (cellAt r79 0)) 0)))), (.v (.int .i64 (avInt (cellAt (obCells (cellAt r79 0)) 1)))), (.v (.int .i64 (avInt (cellAt (obCells (cellAt r79 0)) 2)))), (.lst (avNil (cellAt (obCells (cellAt r79 0)) 3)) 9 (avXs (cellAt (obCells (cellAt r79 0)) 3))), (.v (.int .i64 (avInt (cellAt (obCells (cellAt r79 0)) 4)))), (.lst (avNil (cellAt (obCells (cellAt r79 0)) 5)) 1 (avXs (cellAt (obCells (cellAt r79 0)) 5)))] 0)]).bind fun r143 =>
 cond (isI .i64 (cellAt r143 0))
 (cond ((avInt (cellAt r143 0)) == a2_0)
 ((ev 12 [(.ep [(.v (.int .i64 (avInt (cellAt (obCells (cellAt r79 0)) 0)))), (.v (.int .i64 (avInt (cellAt (obCells (cellAt r79 0)) 1)))), (.v (.int .i64 (avInt (cellAt (obCells (cellAt r79 0)) 2)))), (.lst (avNil (cellAt (obCells (cellAt r79 0)) 3)) 9 (avXs (cellAt (obCells (cellAt r79 0)) 3))), (.v (.int .i64 (avInt (cellAt (obCells (cellAt r79 0)) 4)))), (.lst (avNil (cellAt (obCells (cellAt r79 0)) 5)) 1 (avXs (cellAt (obCells (cellAt r79 0)) 5)))] 0)]).bind fun r146 =>
 cond (isI .i64 (cellAt r146 0))
 (some [(.v (.bool ((avInt (cellAt r146 0)) == 0)))])
 (none))
 (some [(.v (.bool false))]))
 (none))
 (some [(.v (.bool false))]))
 (none))
 (some [(.v (.bool false))]))
 (none)))
 (none)))))))))
 (none))
 (none))) := (ev_eq _ _).trans (by kernel_rfl)
-- "bodega/queuepair.New"
theorem ev16 (a0_0 : Int) (a1_0 : Int) (a2_0 : Int) : ev 16 [(.v (.int .i64 a0_0)), (.v (.int .i64 a1_0)), (.v (.int .i64 a2_0))] =
 cond (ltI a0_0 0)
 (some [(.v (.pointer none)), (.v (.int .i64 1))])
 (cond (leI 6 a0_0)
 (some [(.v (.pointer none)), (.v (.int .i64 1))])
 (cond (ltI a1_0 0)
 (some [(.v (.pointer none)), (.v (.int .i64 2))])
 (cond (ltI 59 a1_0)
 (some [(.v (.pointer none)), (.v (.int .i64 2))])
 (cond (ltI a2_0 0)
 (some [(.v (.pointer none)), (.v (.int .i64 2))])
 (cond (leI 5 a2_0)
 (some [(.v (.pointer none)), (.v (.int .i64 2))])
 (some [(.ob 83 [(.v (.int .i64 a0_0)), (.v (.int .i64 a1_0)), (.v (.int .i64 a2_0)), (.ow true 38 9 []), (.v (.int .i64 0)), (.ow true 23 1 [])]), (.v (.int .i64 0))])))))) := (ev_eq _ _).trans (by kernel_rfl)
-- "(*bodega/queuepair.Pair).Client"
theorem ev17 (a0_0_0 : Int) (a0_0_1 : Int) (a0_0_2 : Int) (a0_0_3n : Bool) (a0_0_3 : List (List AV)) (a0_0_4 : Int) (a0_0_5n : Bool) (a0_0_5 : List (List AV)) : ev 17 [(.ep [(.v (.int .i64 a0_0_0)), (.v (.int .i64 a0_0_1)), (.v (.int .i64 a0_0_2)), (.lst a0_0_3n 9 a0_0_3), (.v (.int .i64 a0_0_4)), (.lst a0_0_5n 1 a0_0_5)] 0)] =
 some [(.v (.int .i64 a0_0_0))] := (ev_eq _ _).trans (by kernel_rfl)
-- "(*bodega/queuepair.Pair).Inc"
theorem ev18 (a0_0_0 : Int) (a0_0_1 : Int) (a0_0_2 : Int) (a0_0_3n : Bool) (a0_0_3 : List (List AV)) (a0_0_4 : Int) (a0_0_5n : Bool) (a0_0_5 : List (List AV)) : ev 18 [(.ep [(.v (.int .i64 a0_0_0)), (.v (.int .i64 a0_0_1)), (.v (.int .i64 a0_0_2)), (.lst a0_0_3n 9 a0_0_3), (.v (.int .i64 a0_0_4)), (.lst a0_0_5n 1 a0_0_5)] 0)] =
 some [(.v (.int .i64 a0_0_1))] := (ev_eq _ _).trans (by kernel_rfl)
-- "(*bodega/queuepair.Pair).Node"
theorem ev19 (a0_0_0 : Int) (a0_0_1 : Int) (a0_0_2 : Int) (a0_0_3n : Bool) (a0_0_3 : List (List AV)) (a0_0_4 : Int) (a0_0_5n : Bool) (a0_0_5 : List (List AV)) : ev 19 [(.ep [(.v (.int .i64 a0_0_0)), (.v (.int .i64 a0_0_1)), (.v (.int .i64 a0_0_2)), (.lst a0_0_3n 9 a0_0_3), (.v (.int .i64 a0_0_4)), (.lst a0_0_5n 1 a0_0_5)] 0)] =
 some [(.v (.int .i64 a0_0_2))] := (ev_eq _ _).trans (by kernel_rfl)
-- "(*bodega/queuepair.Pair).Pending"
theorem ev12 (a0_0_0 : Int) (a0_0_1 : Int) (a0_0_2 : Int) (a0_0_3n : Bool) (a0_0_3 : List (List AV)) (a0_0_4 : Int) (a0_0_5n : Bool) (a0_0_5 : List (List AV)) : ev 12 [(.ep [(.v (.int .i64 a0_0_0)), (.v (.int .i64 a0_0_1)), (.v (.int .i64 a0_0_2)), (.lst a0_0_3n 9 a0_0_3), (.v (.int .i64 a0_0_4)), (.lst a0_0_5n 1 a0_0_5)] 0)] =
 some [(.v (.int .i64 (((List.length a0_0_3) : Nat) : Int)))] := (ev_eq _ _).trans (by kernel_rfl)
-- "bodega/bodegahand.Pick"
theorem ev10 (a0_0 : Int) (a1_0 : Int) : ev 10 [(.v (.int .i64 a0_0)), (.v (.int .i64 a1_0))] =
 cond (ltI a1_0 1)
 (some [(.v (.int .i64 0))])
 (cond (eqI a1_0 0)
 (none)
 (cond (eqI a1_0 0)
 (none)
 (some [(.v (.int .i64 (Int.tmod (IntKind.wrap .i64 ((Int.tmod a0_0 a1_0) + a1_0)) a1_0)))]))) := (ev_eq _ _).trans (by kernel_rfl)
end Go.Proofs.Ytkefjdmoikegbaa
