/- The functions of the chapter, as the evaluator has them. -/
import Derived.Test.YtnhahcomgeeobaaRows
import Derived.Test.YtnhahcomgeeobaaEv10
import Derived.Test.YtnhahcomgeeobaaEv12
import Derived.Test.YtnhahcomgeeobaaIns
set_option linter.all false
namespace Go.Proofs.Ytnhahcomgeeobaa
open Go.Ev

def rwF : FuncId → List Bool
 | 37 => [true] | 49 => [true] | _ => []
def updF : FuncId → Option Upd
 | 66 => some (.mv insG)
 | 67 => some (.mv delG)
 | 93 => some (.row revG)
 | _ => none
def extF : FuncId → Option (List AV → Option (List AV))
 | 64 => some joinG
 | 94 => some (growG 9)
 | _ => none
def addC : List Value → Bool
 | [.int .u64 x, .int .u64 y, .int .u64 c] => decide (0 ≤ x) && (decide (0 ≤ y) && (decide (0 ≤ c) && decide (c ≤ 1)))
 | _ => false
def addR : List Value → List Value
 | [.int .u64 x, .int .u64 y, .int .u64 c] => [.int .u64 (IntKind.wrap .u64 (x + y + c)), .int .u64 (Int.fdiv (x + y + c) 18446744073709551616)]
 | _ => []
def prF : FuncId → Option ((List Value → Bool) × (List Value → List Value))
 | 87 => some (addC, addR)
 | _ => none
def datF : FuncId → Bool
 | 11 => true | 17 => true | 22 => true | 24 => true | 26 => true | 23 => true | _ => false
def cfg : Cfg := { rw := rwF, dat := datF, inl := fun f => Nat.beq f 50, roll := fun _ => 8, join := fun _ => false, cl := fun f => Nat.beq f 62 || Nat.beq f 23, upd := updF, pr := prF, eat := fun t d => Nat.beq t 32 && Nat.beq d 112, ext := extF }
noncomputable def ev (f : FuncId) (args : List AV) : Option (List AV) := evL Try.prog cfg f args
noncomputable def lp (f k nr : Nat) (s : St) : Option LR := lpL Try.prog cfg f k nr s
theorem ev_eq (f : FuncId) (args : List AV) : ev f args = evTop cfg f args (evBodyG Try.prog cfg (evL Try.prog cfg) (inlD Try.prog cfg (evL Try.prog cfg) 5) (loopL Try.prog cfg f) f args) := evL_eq f args
theorem lp_eq (f k nr : Nat) (s : St) : lp f k nr s = evRound Try.prog cfg (evL Try.prog cfg) (inlD Try.prog cfg (evL Try.prog cfg) 5) (loopL Try.prog cfg f) (cfg.roll f) (cfg.join f) (loopAt Try.prog f k).1 (loopAt Try.prog f k).2 (retAt Try.prog cfg f nr) s := loopL_eq f _ _ _ s

-- "bodega/bodegahand.Pick"
theorem ev20 (a0_0 : Int) (a1_0 : Int) : ev 20 [(.v (.int .i64 a0_0)), (.v (.int .i64 a1_0))] =
 cond (ltI a1_0 1)
 (some [(.v (.int .i64 0))])
 (cond (eqI a1_0 0)
 (none)
 (cond (eqI a1_0 0)
 (none)
 (some [(.v (.int .i64 (Int.tmod (IntKind.wrap .i64 ((Int.tmod a0_0 a1_0) + a1_0)) a1_0)))]))) := (ev_eq _ _).trans (by kernel_rfl)
-- "bodega/bodegaref29.ValidProgram"
-- "bodega/serial.Apply"
theorem ev27 (a0_0n : Bool) (a0_0 : List (List AV)) (a1_0n : Bool) (a1_0 : List (List AV)) : ev 27 [(.lst a0_0n 4 a0_0), (.lst a1_0n 12 a1_0)] =
 (ev 46 [(.lst a1_0n 12 a1_0)]).bind fun r0 =>
 cond (isS (cellAt r0 0))
 (cond (isI .i64 (cellAt r0 1))
 (cond (!((avInt (cellAt r0 1)) == 0))
 ((ev 47 [(.lst a0_0n 4 a0_0)]).bind fun r4 =>
 cond (isOw 91 4 (cellAt r4 0))
 (some [(.ow (avNil (cellAt r4 0)) 91 4 (avXs (cellAt r4 0))), (.ow true 68 2 []), (.v (.int .i64 0)), (.v (.int .i64 1))])
 (none))
 ((ev 31 [(.lst a0_0n 4 a0_0)]).bind fun r7 =>
 cond (isB (cellAt r7 0))
 (cond (!(avBool (cellAt r7 0)))
 ((ev 47 [(.lst a0_0n 4 a0_0)]).bind fun r10 =>
 cond (isOw 91 4 (cellAt r10 0))
 (some [(.ow (avNil (cellAt r10 0)) 91 4 (avXs (cellAt r10 0))), (.ow true 68 2 []), (.v (.int .i64 0)), (.v (.int .i64 1))])
 (none))
 ((ev 47 [(.lst a0_0n 4 a0_0)]).bind fun r13 =>
 cond (isOw 91 4 (cellAt r13 0))
 ((lp 27 0 0 ⟨[(0, (.lst a0_0n 4 a0_0)), (4, (.sl (avNil (cellAt r13 0)) 0 0 none)), (5, (.sl true 1 0 none)), (30, (.lst a1_0n 12 a1_0)), (31, (.v (.int .i64 (((List.length a1_0) : Nat) : Int)))), (32, (.v (.int .i64 0)))], [⟨1, 91, 4, false, (avXs (cellAt r13 0))⟩, ⟨1, 68, 2, false, []⟩]⟩).bind fun r17 =>
 cond (isEx 0 r17)
 (cond (likeStG ⟨[(4, (.sl (avNil (cellAt r13 0)) 0 0 none)), (5, (.sl true 1 0 none))], [⟨1, 91, 4, false, (avXs (cellAt r13 0))⟩, ⟨1, 68, 2, false, []⟩]⟩ r17.st)
 (some [(.ow (avNil (frAt r17.st.fr 0).2) 91 4 (blAt r17.st.bl 0).xs), (.ow (avNil (frAt r17.st.fr 1).2) 68 2 (blAt r17.st.bl 1).xs), (.v (.int .i64 0)), (.v (.int .i64 0))])
 (none))
 (cond (isRt r17)
 (some r17.outs)
 (none)))
 (none)))
 (none)))
 (none))
 (none) := (ev_eq _ _).trans (by kernel_rfl)
theorem lp27_0 (x0n : Bool) (x0 : List (List AV)) (x4n : Bool) (x5n : Bool) (x30n : Bool) (x30 : List (List AV)) (x31 : Int) (x32 : Int) (b0 : List (List AV)) (b1 : List (List AV)) : lp 27 0 0 ⟨[(0, (.lst x0n 4 x0)), (4, (.sl x4n 0 0 none)), (5, (.sl x5n 1 0 none)), (30, (.lst x30n 12 x30)), (31, (.v (.int .i64 x31))), (32, (.v (.int .i64 x32)))], [⟨1, 91, 4, false, b0⟩, ⟨1, 68, 2, false, b1⟩]⟩ =
 cond (ltI x32 x31)
 (cond ((leI 0 x32) && (ltI x32 (((List.length x30) : Nat) : Int)))
 (cond ((isI .i64 (cellAt (lget x30 (Int.toNat x32)) 0)) && ((isI .u32 (cellAt (lget x30 (Int.toNat x32)) 1)) && ((isI .u32 (cellAt (lget x30 (Int.toNat x32)) 2)) && ((isI .i64 (cellAt (lget x30 (Int.toNat x32)) 3)) && ((isI .i64 (cellAt (lget x30 (Int.toNat x32)) 4)) && ((isI .i64 (cellAt (lget x30 (Int.toNat x32)) 5)) && ((isI .i64 (cellAt (lget x30 (Int.toNat x32)) 6)) && ((isI .i64 (cellAt (lget x30 (Int.toNat x32)) 7)) && ((isI .i64 (cellAt (lget x30 (Int.toNat x32)) 8)) && ((isI .i64 (cellAt (lget x30 (Int.toNat x32)) 9)) && ((isI .i64 (cellAt (lget x30 (Int.toNat x32)) 10)) && (isI .i64 (cellAt (lget x30 (Int.toNat x32)) 11)))))))))))))
 ((ev 48 [(.agg [(.v (.int .i64 (avInt (cellAt (lget x30 (Int.toNat x32)) 0)))), (.v (.int .u32 (avInt (cellAt (lget x30 (Int.toNat x32)) 1)))), (.v (.int .u32 (avInt (cellAt (lget x30 (Int.toNat x32)) 2)))), (.v (.int .i64 (avInt (cellAt (lget x30 (Int.toNat x32)) 3)))), (.v (.int .i64 (avInt (cellAt (lget x30 (Int.toNat x32)) 4)))), (.v (.int .i64 (avInt (cellAt (lget x30 (Int.toNat x32)) 5)))), (.v (.int .i64 (avInt (cellAt (lget x30 (Int.toNat x32)) 6)))), (.v (.int .i64 (avInt (cellAt (lget x30 (Int.toNat x32)) 7)))), (.v (.int .i64 (avInt (cellAt (lget x30 (Int.toNat x32)) 8)))), (.v (.int .i64 (avInt (cellAt (lget x30 (Int.toNat x32)) 9)))), (.v (.int .i64 (avInt (cellAt (lget x30 (Int.toNat x32)) 10)))), (.v (.int .i64 (avInt (cellAt (lget x30 (Int.toNat x32)) 11))))])]).bind fun r34 =>
 cond (isB (cellAt r34 0))
 (cond (avBool (cellAt r34 0))
 ((ev 49 [(.ow x4n 91 4 b0), (.agg [(.v (.int .i64 (avInt (cellAt (lget x30 (Int.toNat x32)) 0)))), (.v (.int .u32 (avInt (cellAt (lget x30 (Int.toNat x32)) 1)))), (.v (.int .u32 (avInt (cellAt (lget x30 (Int.toNat x32)) 2)))), (.v (.int .i64 (avInt (cellAt (lget x30 (Int.toNat x32)) 3)))), (.v (.int .i64 (avInt (cellAt (lget x30 (Int.toNat x32)) 4)))), (.v (.int .i64 (avInt (cellAt (lget x30 (Int.toNat x32)) 5)))), (.v (.int .i64 (avInt (cellAt (lget x30 (Int.toNat x32)) 6)))), (.v (.int .i64 (avInt (cellAt (lget x30 (Int.toNat x32)) 7)))), (.v (.int .i64 (avInt (cellAt (lget x30 (Int.toNat x32)) 8)))), (.v (.int .i64 (avInt (cellAt (lget x30 (Int.toNat x32)) 9)))), (.v (.int .i64 (avInt (cellAt (lget x30 (Int.toNat x32)) 10)))), (.v (.int .i64 (avInt (cellAt (lget x30 (Int.toNat x32)) 11))))])]).bind fun r35 =>
 cond (isOw 91 4 (cellAt r35 0))
 (cond (isI .i64 (cellAt r35 1))
 (cond (!((avInt (cellAt r35 1)) == 0))
 ((ev 47 [(.lst x0n 4 x0)]).bind fun r40 =>
 cond (isOw 91 4 (cellAt r40 0))
 (some ⟨none, ⟨[], []⟩, [(.ow (avNil (cellAt r40 0)) 91 4 (avXs (cellAt r40 0))), (.ow true 68 2 []), (.v (.int .i64 x32)), (.v (.int .i64 (avInt (cellAt r35 1))))]⟩)
 (none))
 (cond (leN (((List.length b1) + 1) * 32) 140737488355328)
 (lp 27 0 0 ⟨[(0, (.lst x0n 4 x0)), (4, (.sl (avNil (cellAt r35 0)) 0 0 none)), (5, (.sl false 1 0 none)), (30, (.lst x30n 12 x30)), (31, (.v (.int .i64 x31))), (32, (.v (.int .i64 (IntKind.wrap .i64 (x32 + 1)))))], [⟨1, 91, 4, false, (avXs (cellAt r35 0))⟩, ⟨1, 68, 2, false, (b1 ++ [[(.lst true 4 []), (.v (.int .i64 0))]])⟩]⟩)
 (none)))
 (none))
 (none))
 (cond ((avInt (cellAt (lget x30 (Int.toNat x32)) 0)) == 6)
 ((ev 69 [(.lst x4n 4 b0), (.agg [(.v (.int .i64 (avInt (cellAt (lget x30 (Int.toNat x32)) 0)))), (.v (.int .u32 (avInt (cellAt (lget x30 (Int.toNat x32)) 1)))), (.v (.int .u32 (avInt (cellAt (lget x30 (Int.toNat x32)) 2)))), (.v (.int .i64 (avInt (cellAt (lget x30 (Int.toNat x32)) 3)))), (.v (.int .i64 (avInt (cellAt (lget x30 (Int.toNat x32)) 4)))), (.v (.int .i64 (avInt (cellAt (lget x30 (Int.toNat x32)) 5)))), (.v (.int .i64 (avInt (cellAt (lget x30 (Int.toNat x32)) 6)))), (.v (.int .i64 (avInt (cellAt (lget x30 (Int.toNat x32)) 7)))), (.v (.int .i64 (avInt (cellAt (lget x30 (Int.toNat x32)) 8)))), (.v (.int .i64 (avInt (cellAt (lget x30 (Int.toNat x32)) 9)))), (.v (.int .i64 (avInt (cellAt (lget x30 (Int.toNat x32)) 10)))), (.v (.int .i64 (avInt (cellAt (lget x30 (Int.toNat x32)) 11))))])]).bind fun r47 =>
 cond (isOw 91 4 (cellAt r47 0))
 (cond (false || ((List.all (avXs (cellAt r47 0)) rowV) && true))
 (cond (ltI 0 (avInt (cellAt (lget x30 (Int.toNat x32)) 11)))
 (cond ((leI 0 (if (avInt (cellAt (lget x30 (Int.toNat x32)) 11)) < ((((List.length (avXs (cellAt r47 0))) - 0) : Nat) : Int) then (avInt (cellAt (lget x30 (Int.toNat x32)) 11)) else ((((List.length (avXs (cellAt r47 0))) - 0) : Nat) : Int))) && (leI (if (avInt (cellAt (lget x30 (Int.toNat x32)) 11)) < ((((List.length (avXs (cellAt r47 0))) - 0) : Nat) : Int) then (avInt (cellAt (lget x30 (Int.toNat x32)) 11)) else ((((List.length (avXs (cellAt r47 0))) - 0) : Nat) : Int)) ((((List.length (avXs (cellAt r47 0))) - 0) : Nat) : Int)))
 (cond (leN (((List.length b1) + 1) * 32) 140737488355328)
 (lp 27 0 0 ⟨[(0, (.lst x0n 4 x0)), (4, (.sl x4n 0 0 none)), (5, (.sl false 1 0 none)), (30, (.lst x30n 12 x30)), (31, (.v (.int .i64 x31))), (32, (.v (.int .i64 (IntKind.wrap .i64 (x32 + 1)))))], [⟨1, 91, 4, false, b0⟩, ⟨1, 68, 2, false, (b1 ++ [[(.lst (avNil (cellAt r47 0)) 4 (List.take (Int.toNat (if (avInt (cellAt (lget x30 (Int.toNat x32)) 11)) < ((((List.length (avXs (cellAt r47 0))) - 0) : Nat) : Int) then (avInt (cellAt (lget x30 (Int.toNat x32)) 11)) else ((((List.length (avXs (cellAt r47 0))) - 0) : Nat) : Int))) (avXs (cellAt r47 0)))), (.v (.int .i64 0))]])⟩]⟩)
 (none))
 (none))
 (cond (leN (((List.length b1) + 1) * 32) 140737488355328)
 (lp 27 0 0 ⟨[(0, (.lst x0n 4 x0)), (4, (.sl x4n 0 0 none)), (5, (.sl false 1 0 none)), (30, (.lst x30n 12 x30)), (31, (.v (.int .i64 x31))), (32, (.v (.int .i64 (IntKind.wrap .i64 (x32 + 1)))))], [⟨1, 91, 4, false, b0⟩, ⟨1, 68, 2, false, (b1 ++ [[(.lst (avNil (cellAt r47 0)) 4 (avXs (cellAt r47 0))), (.v (.int .i64 0))]])⟩]⟩)
 (none)))
 (none))
 (none))
 (cond ((avInt (cellAt (lget x30 (Int.toNat x32)) 0)) == 7)
 ((ev 69 [(.lst x4n 4 b0), (.agg [(.v (.int .i64 (avInt (cellAt (lget x30 (Int.toNat x32)) 0)))), (.v (.int .u32 (avInt (cellAt (lget x30 (Int.toNat x32)) 1)))), (.v (.int .u32 (avInt (cellAt (lget x30 (Int.toNat x32)) 2)))), (.v (.int .i64 (avInt (cellAt (lget x30 (Int.toNat x32)) 3)))), (.v (.int .i64 (avInt (cellAt (lget x30 (Int.toNat x32)) 4)))), (.v (.int .i64 (avInt (cellAt (lget x30 (Int.toNat x32)) 5)))), (.v (.int .i64 (avInt (cellAt (lget x30 (Int.toNat x32)) 6)))), (.v (.int .i64 (avInt (cellAt (lget x30 (Int.toNat x32)) 7)))), (.v (.int .i64 (avInt (cellAt (lget x30 (Int.toNat x32)) 8)))), (.v (.int .i64 (avInt (cellAt (lget x30 (Int.toNat x32)) 9)))), (.v (.int .i64 (avInt (cellAt (lget x30 (Int.toNat x32)) 10)))), (.v (.int .i64 (avInt (cellAt (lget x30 (Int.toNat x32)) 11))))])]).bind fun r64 =>
 cond (isOw 91 4 (cellAt r64 0))
 (cond (false || ((List.all (avXs (cellAt r64 0)) rowV) && true))
 (cond (leN (((List.length b1) + 1) * 32) 140737488355328)
 (lp 27 0 0 ⟨[(0, (.lst x0n 4 x0)), (4, (.sl x4n 0 0 none)), (5, (.sl false 1 0 none)), (30, (.lst x30n 12 x30)), (31, (.v (.int .i64 x31))), (32, (.v (.int .i64 (IntKind.wrap .i64 (x32 + 1)))))], [⟨1, 91, 4, false, b0⟩, ⟨1, 68, 2, false, (b1 ++ [[(.lst true 4 []), (.v (.int .i64 ((((List.length (avXs (cellAt r64 0))) - 0) : Nat) : Int)))]])⟩]⟩)
 (none))
 (none))
 (none))
 (cond ((avInt (cellAt (lget x30 (Int.toNat x32)) 0)) == 8)
 ((ev 69 [(.lst x4n 4 b0), (.agg [(.v (.int .i64 (avInt (cellAt (lget x30 (Int.toNat x32)) 0)))), (.v (.int .u32 (avInt (cellAt (lget x30 (Int.toNat x32)) 1)))), (.v (.int .u32 (avInt (cellAt (lget x30 (Int.toNat x32)) 2)))), (.v (.int .i64 (avInt (cellAt (lget x30 (Int.toNat x32)) 3)))), (.v (.int .i64 (avInt (cellAt (lget x30 (Int.toNat x32)) 4)))), (.v (.int .i64 (avInt (cellAt (lget x30 (Int.toNat x32)) 5)))), (.v (.int .i64 (avInt (cellAt (lget x30 (Int.toNat x32)) 6)))), (.v (.int .i64 (avInt (cellAt (lget x30 (Int.toNat x32)) 7)))), (.v (.int .i64 (avInt (cellAt (lget x30 (Int.toNat x32)) 8)))), (.v (.int .i64 (avInt (cellAt (lget x30 (Int.toNat x32)) 9)))), (.v (.int .i64 (avInt (cellAt (lget x30 (Int.toNat x32)) 10)))), (.v (.int .i64 (avInt (cellAt (lget x30 (Int.toNat x32)) 11))))])]).bind fun r72 =>
 cond (isOw 91 4 (cellAt r72 0))
 (cond (false || ((List.all (avXs (cellAt r72 0)) rowV) && true))
 ((ev 70 [(.lst (avNil (cellAt r72 0)) 4 (avXs (cellAt r72 0))), (.v (.int .i64 (avInt (cellAt (lget x30 (Int.toNat x32)) 6))))]).bind fun r75 =>
 cond (isI .i64 (cellAt r75 0))
 (cond (isB (cellAt r75 1))
 (cond (!(avBool (cellAt r75 1)))
 ((ev 47 [(.lst x0n 4 x0)]).bind fun r78 =>
 cond (isOw 91 4 (cellAt r78 0))
 (some ⟨none, ⟨[], []⟩, [(.ow (avNil (cellAt r78 0)) 91 4 (avXs (cellAt r78 0))), (.ow true 68 2 []), (.v (.int .i64 x32)), (.v (.int .i64 2))]⟩)
 (none))
 (cond (leN (((List.length b1) + 1) * 32) 140737488355328)
 (lp 27 0 0 ⟨[(0, (.lst x0n 4 x0)), (4, (.sl x4n 0 0 none)), (5, (.sl false 1 0 none)), (30, (.lst x30n 12 x30)), (31, (.v (.int .i64 x31))), (32, (.v (.int .i64 (IntKind.wrap .i64 (x32 + 1)))))], [⟨1, 91, 4, false, b0⟩, ⟨1, 68, 2, false, (b1 ++ [[(.lst true 4 []), (.v (.int .i64 (avInt (cellAt r75 0))))]])⟩]⟩)
 (none)))
 (none))
 (none))
 (none))
 (none))
 ((ev 65 [(.lst x4n 4 b0), (.v (.int .u32 (avInt (cellAt (lget x30 (Int.toNat x32)) 1))))]).bind fun r84 =>
 cond (isI .i64 (cellAt r84 0))
 (cond (isB (cellAt r84 1))
 (cond ((avInt (cellAt (lget x30 (Int.toNat x32)) 0)) == 5)
 (cond (avBool (cellAt r84 1))
 (cond ((leI 0 (avInt (cellAt r84 0))) && (ltI (avInt (cellAt r84 0)) ((((List.length b0) - 0) : Nat) : Int)))
 (cond ((ltN (0 + (Int.toNat (avInt (cellAt r84 0)))) (List.length b0)) && ((isI .u32 (cellAt (lget b0 (0 + (Int.toNat (avInt (cellAt r84 0))))) 0)) && ((isI .i64 (cellAt (lget b0 (0 + (Int.toNat (avInt (cellAt r84 0))))) 1)) && ((isI .i64 (cellAt (lget b0 (0 + (Int.toNat (avInt (cellAt r84 0))))) 2)) && (isI .i64 (cellAt (lget b0 (0 + (Int.toNat (avInt (cellAt r84 0))))) 3))))))
 (cond (leN (((List.length b1) + 1) * 32) 140737488355328)
 (lp 27 0 0 ⟨[(0, (.lst x0n 4 x0)), (4, (.sl x4n 0 0 none)), (5, (.sl false 1 0 none)), (30, (.lst x30n 12 x30)), (31, (.v (.int .i64 x31))), (32, (.v (.int .i64 (IntKind.wrap .i64 (x32 + 1)))))], [⟨1, 91, 4, false, b0⟩, ⟨1, 68, 2, false, (b1 ++ [[(.lst false 4 [[(.v (.int .u32 (avInt (cellAt (lget b0 (0 + (Int.toNat (avInt (cellAt r84 0))))) 0)))), (.v (.int .i64 (avInt (cellAt (lget b0 (0 + (Int.toNat (avInt (cellAt r84 0))))) 1)))), (.v (.int .i64 (avInt (cellAt (lget b0 (0 + (Int.toNat (avInt (cellAt r84 0))))) 2)))), (.v (.int .i64 (avInt (cellAt (lget b0 (0 + (Int.toNat (avInt (cellAt r84 0))))) 3))))]]), (.v (.int .i64 0))]])⟩]⟩)
 (none))
 (none))
 (none))
 (cond ((avInt (cellAt (lget x30 (Int.toNat x32)) 0)) == 5)
 (cond (leN (((List.length b1) + 1) * 32) 140737488355328)
 (lp 27 0 0 ⟨[(0, (.lst x0n 4 x0)), (4, (.sl x4n 0 0 none)), (5, (.sl false 1 0 none)), (30, (.lst x30n 12 x30)), (31, (.v (.int .i64 x31))), (32, (.v (.int .i64 (IntKind.wrap .i64 (x32 + 1)))))], [⟨1, 91, 4, false, b0⟩, ⟨1, 68, 2, false, (b1 ++ [[(.lst true 4 []), (.v (.int .i64 0))]])⟩]⟩)
 (none))
 (cond (!(avBool (cellAt r84 1)))
 ((ev 47 [(.lst x0n 4 x0)]).bind fun r101 =>
 cond (isOw 91 4 (cellAt r101 0))
 (some ⟨none, ⟨[], []⟩, [(.ow (avNil (cellAt r101 0)) 91 4 (avXs (cellAt r101 0))), (.ow true 68 2 []), (.v (.int .i64 x32)), (.v (.int .i64 16))]⟩)
 (none))
 (cond ((leI 0 (avInt (cellAt r84 0))) && (ltI (avInt (cellAt r84 0)) ((((List.length b0) - 0) : Nat) : Int)))
 (cond ((ltN (0 + (Int.toNat (avInt (cellAt r84 0)))) (List.length b0)) && ((isI .u32 (cellAt (lget b0 (0 + (Int.toNat (avInt (cellAt r84 0))))) 0)) && ((isI .i64 (cellAt (lget b0 (0 + (Int.toNat (avInt (cellAt r84 0))))) 1)) && ((isI .i64 (cellAt (lget b0 (0 + (Int.toNat (avInt (cellAt r84 0))))) 2)) && (isI .i64 (cellAt (lget b0 (0 + (Int.toNat (avInt (cellAt r84 0))))) 3))))))
 ((ev 71 [(.agg [(.v (.int .i64 (avInt (cellAt (lget x30 (Int.toNat x32)) 8)))), (.v (.int .i64 (avInt (cellAt (lget x30 (Int.toNat x32)) 9)))), (.v (.int .i64 (avInt (cellAt (lget x30 (Int.toNat x32)) 10))))]), (.agg [(.v (.int .u32 (avInt (cellAt (lget b0 (0 + (Int.toNat (avInt (cellAt r84 0))))) 0)))), (.v (.int .i64 (avInt (cellAt (lget b0 (0 + (Int.toNat (avInt (cellAt r84 0))))) 1)))), (.v (.int .i64 (avInt (cellAt (lget b0 (0 + (Int.toNat (avInt (cellAt r84 0))))) 2)))), (.v (.int .i64 (avInt (cellAt (lget b0 (0 + (Int.toNat (avInt (cellAt r84 0))))) 3))))])]).bind fun r109 =>
 cond (isB (cellAt r109 0))
 (cond (!(avBool (cellAt r109 0)))
 ((ev 47 [(.lst x0n 4 x0)]).bind fun r112 =>
 cond (isOw 91 4 (cellAt r112 0))
 (some ⟨none, ⟨[], []⟩, [(.ow (avNil (cellAt r112 0)) 91 4 (avXs (cellAt r112 0))), (.ow true 68 2 []), (.v (.int .i64 x32)), (.v (.int .i64 20))]⟩)
 (none))
 (cond (leN (((List.length b1) + 1) * 32) 140737488355328)
 (lp 27 0 0 ⟨[(0, (.lst x0n 4 x0)), (4, (.sl x4n 0 0 none)), (5, (.sl false 1 0 none)), (30, (.lst x30n 12 x30)), (31, (.v (.int .i64 x31))), (32, (.v (.int .i64 (IntKind.wrap .i64 (x32 + 1)))))], [⟨1, 91, 4, false, b0⟩, ⟨1, 68, 2, false, (b1 ++ [[(.lst true 4 []), (.v (.int .i64 0))]])⟩]⟩)
 (none)))
 (none))
 (none))
 (none)))))
 (cond ((avInt (cellAt (lget x30 (Int.toNat x32)) 0)) == 5)
 (cond (leN (((List.length b1) + 1) * 32) 140737488355328)
 (lp 27 0 0 ⟨[(0, (.lst x0n 4 x0)), (4, (.sl x4n 0 0 none)), (5, (.sl false 1 0 none)), (30, (.lst x30n 12 x30)), (31, (.v (.int .i64 x31))), (32, (.v (.int .i64 (IntKind.wrap .i64 (x32 + 1)))))], [⟨1, 91, 4, false, b0⟩, ⟨1, 68, 2, false, (b1 ++ [[(.lst true 4 []), (.v (.int .i64 0))]])⟩]⟩)
 (none))
 (cond (!(avBool (cellAt r84 1)))
 ((ev 47 [(.lst x0n 4 x0)]).bind fun r123 =>
 cond (isOw 91 4 (cellAt r123 0))
 (some ⟨none, ⟨[], []⟩, [(.ow (avNil (cellAt r123 0)) 91 4 (avXs (cellAt r123 0))), (.ow true 68 2 []), (.v (.int .i64 x32)), (.v (.int .i64 16))]⟩)
 (none))
 (cond ((leI 0 (avInt (cellAt r84 0))) && (ltI (avInt (cellAt r84 0)) ((((List.length b0) - 0) : Nat) : Int)))
 (cond ((ltN (0 + (Int.toNat (avInt (cellAt r84 0)))) (List.length b0)) && ((isI .u32 (cellAt (lget b0 (0 + (Int.toNat (avInt (cellAt r84 0))))) 0)) && ((isI .i64 (cellAt (lget b0 (0 + (Int.toNat (avInt (cellAt r84 0))))) 1)) && ((isI .i64 (cellAt (lget b0 (0 + (Int.toNat (avInt (cellAt r84 0))))) 2)) && (isI .i64 (cellAt (lget b0 (0 + (Int.toNat (avInt (cellAt r84 0))))) 3))))))
 ((ev 71 [(.agg [(.v (.int .i64 (avInt (cellAt (lget x30 (Int.toNat x32)) 8)))), (.v (.int .i64 (avInt (cellAt (lget x30 (Int.toNat x32)) 9)))), (.v (.int .i64 (avInt (cellAt (lget x30 (Int.toNat x32)) 10))))]), (.agg [(.v (.int .u32 (avInt (cellAt (lget b0 (0 + (Int.toNat (avInt (cellAt r84 0))))) 0)))), (.v (.int .i64 (avInt (cellAt (lget b0 (0 + (Int.toNat (avInt (cellAt r84 0))))) 1)))), (.v (.int .i64 (avInt (cellAt (lget b0 (0 + (Int.toNat (avInt (cellAt r84 0))))) 2)))), (.v (.int .i64 (avInt (cellAt (lget b0 (0 + (Int.toNat (avInt (cellAt r84 0))))) 3))))])]).bind fun r131 =>
 cond (isB (cellAt r131 0))
 (cond (!(avBool (cellAt r131 0)))
 ((ev 47 [(.lst x0n 4 x0)]).bind fun r134 =>
 cond (isOw 91 4 (cellAt r134 0))
 (some ⟨none, ⟨[], []⟩, [(.ow (avNil (cellAt r134 0)) 91 4 (avXs (cellAt r134 0))), (.ow true 68 2 []), (.v (.int .i64 x32)), (.v (.int .i64 20))]⟩)
 (none))
 (cond (leN (((List.length b1) + 1) * 32) 140737488355328)
 (lp 27 0 0 ⟨[(0, (.lst x0n 4 x0)), (4, (.sl x4n 0 0 none)), (5, (.sl false 1 0 none)), (30, (.lst x30n 12 x30)), (31, (.v (.int .i64 x31))), (32, (.v (.int .i64 (IntKind.wrap .i64 (x32 + 1)))))], [⟨1, 91, 4, false, b0⟩, ⟨1, 68, 2, false, (b1 ++ [[(.lst true 4 []), (.v (.int .i64 0))]])⟩]⟩)
 (none)))
 (none))
 (none))
 (none)))))
 (none))
 (none))))))
 (none))
 (none))
 (none))
 (some ⟨(some 0), ⟨[(4, (.sl x4n 0 0 none)), (5, (.sl x5n 1 0 none))], [⟨1, 91, 4, false, b0⟩, ⟨1, 68, 2, false, b1⟩]⟩, []⟩) := (lp_eq _ _ _ _).trans (by kernel_rfl)
-- "bodega/bodegalaw34.sameTable"
theorem ev28 (a0_0n : Bool) (a0_0 : List (List AV)) (a1_0n : Bool) (a1_0 : List (List AV)) : ev 28 [(.lst a0_0n 4 a0_0), (.lst a1_0n 4 a1_0)] =
 cond (!((((List.length a0_0) : Nat) : Int) == (((List.length a1_0) : Nat) : Int)))
 (some [(.v (.bool false))])
 ((lp 28 0 0 ⟨[(0, (.lst a0_0n 4 a0_0)), (1, (.lst a1_0n 4 a1_0)), (5, (.v (.int .i64 0)))], []⟩).bind fun r2 =>
 cond (isEx 0 r2)
 (cond (likeStG ⟨[], []⟩ r2.st)
 (some [(.v (.bool true))])
 (none))
 (cond (isRt r2)
 (some r2.outs)
 (none))) := (ev_eq _ _).trans (by kernel_rfl)
theorem lp28_0 (x0n : Bool) (x0 : List (List AV)) (x1n : Bool) (x1 : List (List AV)) (x5 : Int) : lp 28 0 0 ⟨[(0, (.lst x0n 4 x0)), (1, (.lst x1n 4 x1)), (5, (.v (.int .i64 x5)))], []⟩ =
 cond (ltI x5 (((List.length x0) : Nat) : Int))
 (cond ((leI 0 x5) && (ltI x5 (((List.length x0) : Nat) : Int)))
 (cond ((isI .u32 (cellAt (lget x0 (Int.toNat x5)) 0)) && ((isI .i64 (cellAt (lget x0 (Int.toNat x5)) 1)) && ((isI .i64 (cellAt (lget x0 (Int.toNat x5)) 2)) && (isI .i64 (cellAt (lget x0 (Int.toNat x5)) 3)))))
 (cond ((leI 0 x5) && (ltI x5 (((List.length x1) : Nat) : Int)))
 (cond ((isI .u32 (cellAt (lget x1 (Int.toNat x5)) 0)) && ((isI .i64 (cellAt (lget x1 (Int.toNat x5)) 1)) && ((isI .i64 (cellAt (lget x1 (Int.toNat x5)) 2)) && (isI .i64 (cellAt (lget x1 (Int.toNat x5)) 3)))))
 (cond (!(((avInt (cellAt (lget x0 (Int.toNat x5)) 0)) == (avInt (cellAt (lget x1 (Int.toNat x5)) 0))) && (((avInt (cellAt (lget x0 (Int.toNat x5)) 1)) == (avInt (cellAt (lget x1 (Int.toNat x5)) 1))) && (((avInt (cellAt (lget x0 (Int.toNat x5)) 2)) == (avInt (cellAt (lget x1 (Int.toNat x5)) 2))) && ((avInt (cellAt (lget x0 (Int.toNat x5)) 3)) == (avInt (cellAt (lget x1 (Int.toNat x5)) 3)))))))
 (some ⟨none, ⟨[], []⟩, [(.v (.bool false))]⟩)
 (lp 28 0 0 ⟨[(0, (.lst x0n 4 x0)), (1, (.lst x1n 4 x1)), (5, (.v (.int .i64 (IntKind.wrap .i64 (x5 + 1)))))], []⟩))
 (none))
 (none))
 (none))
 (none))
 (some ⟨(some 0), ⟨[], []⟩, []⟩) := (lp_eq _ _ _ _).trans (by kernel_rfl)
-- "bodega/bodegaref29.SameResults"
theorem ev29 (a0_0n : Bool) (a0_0 : List (List AV)) (a1_0n : Bool) (a1_0 : List (List AV)) : ev 29 [(.lst a0_0n 2 a0_0), (.lst a1_0n 2 a1_0)] =
 cond (!((((List.length a0_0) : Nat) : Int) == (((List.length a1_0) : Nat) : Int)))
 (some [(.v (.bool false))])
 ((lp 29 0 0 ⟨[(0, (.lst a0_0n 2 a0_0)), (1, (.lst a1_0n 2 a1_0)), (5, (.v (.int .i64 0)))], []⟩).bind fun r2 =>
 cond (isEx 0 r2)
 (cond (likeStG ⟨[], []⟩ r2.st)
 (some [(.v (.bool true))])
 (none))
 (cond (isRt r2)
 (some r2.outs)
 (none))) := (ev_eq _ _).trans (by kernel_rfl)
theorem lp29_0 (x0n : Bool) (x0 : List (List AV)) (x1n : Bool) (x1 : List (List AV)) (x5 : Int) : lp 29 0 0 ⟨[(0, (.lst x0n 2 x0)), (1, (.lst x1n 2 x1)), (5, (.v (.int .i64 x5)))], []⟩ =
 cond (ltI x5 (((List.length x0) : Nat) : Int))
 (cond ((leI 0 x5) && (ltI x5 (((List.length x0) : Nat) : Int)))
 (cond (isI .i64 (cellAt (lget x0 (Int.toNat x5)) 1))
 (cond ((leI 0 x5) && (ltI x5 (((List.length x1) : Nat) : Int)))
 (cond (isI .i64 (cellAt (lget x1 (Int.toNat x5)) 1))
 (cond (!((avInt (cellAt (lget x0 (Int.toNat x5)) 1)) == (avInt (cellAt (lget x1 (Int.toNat x5)) 1))))
 (some ⟨none, ⟨[], []⟩, [(.v (.bool false))]⟩)
 (cond ((leI 0 x5) && (ltI x5 (((List.length x0) : Nat) : Int)))
 (cond (isL 4 (cellAt (lget x0 (Int.toNat x5)) 0))
 (cond ((leI 0 x5) && (ltI x5 (((List.length x1) : Nat) : Int)))
 (cond (isL 4 (cellAt (lget x1 (Int.toNat x5)) 0))
 (cond (!((((List.length (avXs (cellAt (lget x0 (Int.toNat x5)) 0))) : Nat) : Int) == (((List.length (avXs (cellAt (lget x1 (Int.toNat x5)) 0))) : Nat) : Int)))
 (some ⟨none, ⟨[], []⟩, [(.v (.bool false))]⟩)
 ((lp 29 1 0 ⟨[(0, (.lst x0n 2 x0)), (1, (.lst x1n 2 x1)), (5, (.v (.int .i64 x5))), (6, (.v (.int .i64 0)))], []⟩).bind fun r14 =>
 cond (isEx 2 r14)
 (cond (likeStG ⟨[(0, (.lst x0n 2 x0)), (1, (.lst x1n 2 x1)), (5, (.v (.int .i64 x5)))], []⟩ r14.st)
 (lp 29 0 0 ⟨[(0, (.lst (avNil (frAt r14.st.fr 0).2) 2 (avXs (frAt r14.st.fr 0).2))), (1, (.lst (avNil (frAt r14.st.fr 1).2) 2 (avXs (frAt r14.st.fr 1).2))), (5, (.v (.int .i64 (IntKind.wrap .i64 ((avInt (frAt r14.st.fr 2).2) + 1)))))], []⟩)
 (none))
 (cond (isRt r14)
 (some ⟨none, ⟨[], []⟩, r14.outs⟩)
 (none))))
 (none))
 (none))
 (none))
 (none)))
 (none))
 (none))
 (none))
 (none))
 (some ⟨(some 0), ⟨[], []⟩, []⟩) := (lp_eq _ _ _ _).trans (by kernel_rfl)
theorem lp29_1 (x0n : Bool) (x0 : List (List AV)) (x1n : Bool) (x1 : List (List AV)) (x5 : Int) (x6 : Int) : lp 29 1 0 ⟨[(0, (.lst x0n 2 x0)), (1, (.lst x1n 2 x1)), (5, (.v (.int .i64 x5))), (6, (.v (.int .i64 x6)))], []⟩ =
 cond ((leI 0 x5) && (ltI x5 (((List.length x0) : Nat) : Int)))
 (cond (isL 4 (cellAt (lget x0 (Int.toNat x5)) 0))
 (cond (ltI x6 (((List.length (avXs (cellAt (lget x0 (Int.toNat x5)) 0))) : Nat) : Int))
 (cond ((leI 0 x5) && (ltI x5 (((List.length x0) : Nat) : Int)))
 (cond (isL 4 (cellAt (lget x0 (Int.toNat x5)) 0))
 (cond ((leI 0 x6) && (ltI x6 (((List.length (avXs (cellAt (lget x0 (Int.toNat x5)) 0))) : Nat) : Int)))
 (cond ((isI .u32 (cellAt (lget (avXs (cellAt (lget x0 (Int.toNat x5)) 0)) (Int.toNat x6)) 0)) && ((isI .i64 (cellAt (lget (avXs (cellAt (lget x0 (Int.toNat x5)) 0)) (Int.toNat x6)) 1)) && ((isI .i64 (cellAt (lget (avXs (cellAt (lget x0 (Int.toNat x5)) 0)) (Int.toNat x6)) 2)) && (isI .i64 (cellAt (lget (avXs (cellAt (lget x0 (Int.toNat x5)) 0)) (Int.toNat x6)) 3)))))
 (cond ((leI 0 x5) && (ltI x5 (((List.length x1) : Nat) : Int)))
 (cond (isL 4 (cellAt (lget x1 (Int.toNat x5)) 0))
 (cond ((leI 0 x6) && (ltI x6 (((List.length (avXs (cellAt (lget x1 (Int.toNat x5)) 0))) : Nat) : Int)))
 (cond ((isI .u32 (cellAt (lget (avXs (cellAt (lget x1 (Int.toNat x5)) 0)) (Int.toNat x6)) 0)) && ((isI .i64 (cellAt (lget (avXs (cellAt (lget x1 (Int.toNat x5)) 0)) (Int.toNat x6)) 1)) && ((isI .i64 (cellAt (lget (avXs (cellAt (lget x1 (Int.toNat x5)) 0)) (Int.toNat x6)) 2)) && (isI .i64 (cellAt (lget (avXs (cellAt (lget x1 (Int.toNat x5)) 0)) (Int.toNat x6)) 3)))))
 (cond (!(((avInt (cellAt (lget (avXs (cellAt (lget x0 (Int.toNat x5)) 0)) (Int.toNat x6)) 0)) == (avInt (cellAt (lget (avXs (cellAt (lget x1 (Int.toNat x5)) 0)) (Int.toNat x6)) 0))) && (((avInt (cellAt (lget (avXs (cellAt (lget x0 (Int.toNat x5)) 0)) (Int.toNat x6)) 1)) == (avInt (cellAt (lget (avXs (cellAt (lget x1 (Int.toNat x5)) 0)) (Int.toNat x6)) 1))) && (((avInt (cellAt (lget (avXs (cellAt (lget x0 (Int.toNat x5)) 0)) (Int.toNat x6)) 2)) == (avInt (cellAt (lget (avXs (cellAt (lget x1 (Int.toNat x5)) 0)) (Int.toNat x6)) 2))) && ((avInt (cellAt (lget (avXs (cellAt (lget x0 (Int.toNat x5)) 0)) (Int.toNat x6)) 3)) == (avInt (cellAt (lget (avXs (cellAt (lget x1 (Int.toNat x5)) 0)) (Int.toNat x6)) 3)))))))
 (some ⟨none, ⟨[], []⟩, [(.v (.bool false))]⟩)
 (lp 29 1 0 ⟨[(0, (.lst x0n 2 x0)), (1, (.lst x1n 2 x1)), (5, (.v (.int .i64 x5))), (6, (.v (.int .i64 (IntKind.wrap .i64 (x6 + 1)))))], []⟩))
 (none))
 (none))
 (none))
 (none))
 (none))
 (none))
 (none))
 (none))
 (some ⟨(some 2), ⟨[(0, (.lst x0n 2 x0)), (1, (.lst x1n 2 x1)), (5, (.v (.int .i64 x5)))], []⟩, []⟩))
 (none))
 (none) := (lp_eq _ _ _ _).trans (by kernel_rfl)
-- "bodega/bodegalaw34.results"
theorem ev30 (a0_0n : Bool) (a0_0 : List (List AV)) : ev 30 [(.lst a0_0n 2 a0_0)] =
 (lp 30 0 0 ⟨[(0, (.lst a0_0n 2 a0_0)), (3, (.sl true 0 0 none)), (4, (.v (.int .i64 0)))], [⟨1, 111, 2, false, []⟩]⟩).bind fun r0 =>
 cond (isEx 0 r0)
 (cond (likeStG ⟨[(3, (.sl true 0 0 none))], [⟨1, 111, 2, false, []⟩]⟩ r0.st)
 (some [(.ow (avNil (frAt r0.st.fr 0).2) 111 2 (blAt r0.st.bl 0).xs)])
 (none))
 (cond (isRt r0)
 (some r0.outs)
 (none)) := (ev_eq _ _).trans (by kernel_rfl)
theorem lp30_0 (x0n : Bool) (x0 : List (List AV)) (x3n : Bool) (x4 : Int) (b0 : List (List AV)) : lp 30 0 0 ⟨[(0, (.lst x0n 2 x0)), (3, (.sl x3n 0 0 none)), (4, (.v (.int .i64 x4)))], [⟨1, 111, 2, false, b0⟩]⟩ =
 cond (ltI x4 (((List.length x0) : Nat) : Int))
 (cond ((leI 0 x4) && (ltI x4 (((List.length x0) : Nat) : Int)))
 (cond (isI .i64 (cellAt (lget x0 (Int.toNat x4)) 1))
 ((lp 30 1 0 ⟨[(0, (.lst x0n 2 x0)), (3, (.sl x3n 0 0 none)), (4, (.v (.int .i64 x4))), (5, (.ptr 1 0 0)), (6, (.v (.int .i64 0)))], [⟨1, 111, 2, false, b0⟩, ⟨1, 111, 2, true, [[(.sl true 2 0 none), (.v (.int .i64 (avInt (cellAt (lget x0 (Int.toNat x4)) 1))))]]⟩, ⟨1, 61, 4, false, []⟩]⟩).bind fun r5 =>
 cond (isEx 2 r5)
 (cond (likeStG ⟨[(0, (.lst x0n 2 x0)), (3, (.sl x3n 0 0 none)), (4, (.v (.int .i64 x4))), (5, (.ptr 1 0 0))], [⟨1, 111, 2, false, b0⟩, ⟨1, 111, 2, true, [[(.sl true 2 0 none), (.v (.int .i64 (avInt (cellAt (lget x0 (Int.toNat x4)) 1))))]]⟩, ⟨1, 61, 4, false, []⟩]⟩ r5.st)
 (cond (leN (((List.length (blAt r5.st.bl 0).xs) + 1) * 32) 140737488355328)
 (lp 30 0 0 ⟨[(0, (.lst (avNil (frAt r5.st.fr 0).2) 2 (avXs (frAt r5.st.fr 0).2))), (3, (.sl false 0 0 none)), (4, (.v (.int .i64 (IntKind.wrap .i64 ((avInt (frAt r5.st.fr 2).2) + 1)))))], [⟨1, 111, 2, false, ((blAt r5.st.bl 0).xs ++ [[(.lst (avNil (cellAt (lget (blAt r5.st.bl 1).xs 0) 0)) 4 (blAt r5.st.bl 2).xs), (.v (.int .i64 (avInt (cellAt (lget (blAt r5.st.bl 1).xs 0) 1))))]])⟩]⟩)
 (none))
 (none))
 (cond (isRt r5)
 (some ⟨none, ⟨[], []⟩, r5.outs⟩)
 (none)))
 (none))
 (none))
 (some ⟨(some 0), ⟨[(3, (.sl x3n 0 0 none))], [⟨1, 111, 2, false, b0⟩]⟩, []⟩) := (lp_eq _ _ _ _).trans (by kernel_rfl)
theorem lp30_1 (x0n : Bool) (x0 : List (List AV)) (x3n : Bool) (x4 : Int) (x6 : Int) (b0 : List (List AV)) (b1_0n : Bool) (b1_1 : Int) (b2 : List (List AV)) : lp 30 1 0 ⟨[(0, (.lst x0n 2 x0)), (3, (.sl x3n 0 0 none)), (4, (.v (.int .i64 x4))), (5, (.ptr 1 0 0)), (6, (.v (.int .i64 x6)))], [⟨1, 111, 2, false, b0⟩, ⟨1, 111, 2, true, [[(.sl b1_0n 2 0 none), (.v (.int .i64 b1_1))]]⟩, ⟨1, 61, 4, false, b2⟩]⟩ =
 cond ((leI 0 x4) && (ltI x4 (((List.length x0) : Nat) : Int)))
 (cond (isL 4 (cellAt (lget x0 (Int.toNat x4)) 0))
 (cond (ltI x6 (((List.length (avXs (cellAt (lget x0 (Int.toNat x4)) 0))) : Nat) : Int))
 (cond ((leI 0 x4) && (ltI x4 (((List.length x0) : Nat) : Int)))
 (cond (isL 4 (cellAt (lget x0 (Int.toNat x4)) 0))
 (cond ((leI 0 x6) && (ltI x6 (((List.length (avXs (cellAt (lget x0 (Int.toNat x4)) 0))) : Nat) : Int)))
 (cond (isI .u32 (cellAt (lget (avXs (cellAt (lget x0 (Int.toNat x4)) 0)) (Int.toNat x6)) 0))
 (cond ((leI 0 x4) && (ltI x4 (((List.length x0) : Nat) : Int)))
 (cond (isL 4 (cellAt (lget x0 (Int.toNat x4)) 0))
 (cond ((leI 0 x6) && (ltI x6 (((List.length (avXs (cellAt (lget x0 (Int.toNat x4)) 0))) : Nat) : Int)))
 (cond ((isI .i64 (cellAt (lget (avXs (cellAt (lget x0 (Int.toNat x4)) 0)) (Int.toNat x6)) 1)) && ((isI .i64 (cellAt (lget (avXs (cellAt (lget x0 (Int.toNat x4)) 0)) (Int.toNat x6)) 2)) && (isI .i64 (cellAt (lget (avXs (cellAt (lget x0 (Int.toNat x4)) 0)) (Int.toNat x6)) 3))))
 (cond (leN (((List.length b2) + 1) * 32) 140737488355328)
 (lp 30 1 0 ⟨[(0, (.lst x0n 2 x0)), (3, (.sl x3n 0 0 none)), (4, (.v (.int .i64 x4))), (5, (.ptr 1 0 0)), (6, (.v (.int .i64 (IntKind.wrap .i64 (x6 + 1)))))], [⟨1, 111, 2, false, b0⟩, ⟨1, 111, 2, true, [[(.sl false 2 0 none), (.v (.int .i64 b1_1))]]⟩, ⟨1, 61, 4, false, (b2 ++ [[(.v (.int .u32 (avInt (cellAt (lget (avXs (cellAt (lget x0 (Int.toNat x4)) 0)) (Int.toNat x6)) 0)))), (.v (.int .i64 (avInt (cellAt (lget (avXs (cellAt (lget x0 (Int.toNat x4)) 0)) (Int.toNat x6)) 1)))), (.v (.int .i64 (avInt (cellAt (lget (avXs (cellAt (lget x0 (Int.toNat x4)) 0)) (Int.toNat x6)) 2)))), (.v (.int .i64 (avInt (cellAt (lget (avXs (cellAt (lget x0 (Int.toNat x4)) 0)) (Int.toNat x6)) 3))))]])⟩]⟩)
 (none))
 (none))
 (none))
 (none))
 (none))
 (none))
 (none))
 (none))
 (none))
 (some ⟨(some 2), ⟨[(0, (.lst x0n 2 x0)), (3, (.sl x3n 0 0 none)), (4, (.v (.int .i64 x4))), (5, (.ptr 1 0 0))], [⟨1, 111, 2, false, b0⟩, ⟨1, 111, 2, true, [[(.sl b1_0n 2 0 none), (.v (.int .i64 b1_1))]]⟩, ⟨1, 61, 4, false, b2⟩]⟩, []⟩))
 (none))
 (none) := (lp_eq _ _ _ _).trans (by kernel_rfl)
-- "bodega/serial.Valid"
theorem ev31 (a0_0n : Bool) (a0_0 : List (List AV)) : ev 31 [(.lst a0_0n 4 a0_0)] =
 (lp 31 0 0 ⟨[(3, (.v (.int .u32 0))), (6, (.lst a0_0n 4 a0_0)), (7, (.v (.int .i64 (((List.length a0_0) : Nat) : Int)))), (8, (.v (.int .i64 0)))], []⟩).bind fun r1 =>
 cond (isEx 0 r1)
 (cond (likeStG ⟨[], []⟩ r1.st)
 (some [(.v (.bool true))])
 (none))
 (cond (isRt r1)
 (some r1.outs)
 (none)) := (ev_eq _ _).trans (by kernel_rfl)
theorem lp31_0 (x3 : Int) (x6n : Bool) (x6 : List (List AV)) (x7 : Int) (x8 : Int) : lp 31 0 0 ⟨[(3, (.v (.int .u32 x3))), (6, (.lst x6n 4 x6)), (7, (.v (.int .i64 x7))), (8, (.v (.int .i64 x8)))], []⟩ =
 cond (ltI x8 x7)
 (cond ((leI 0 x8) && (ltI x8 (((List.length x6) : Nat) : Int)))
 (cond ((isI .u32 (cellAt (lget x6 (Int.toNat x8)) 0)) && ((isI .i64 (cellAt (lget x6 (Int.toNat x8)) 1)) && ((isI .i64 (cellAt (lget x6 (Int.toNat x8)) 2)) && (isI .i64 (cellAt (lget x6 (Int.toNat x8)) 3)))))
 (cond (leI (avInt (cellAt (lget x6 (Int.toNat x8)) 0)) x3)
 (some ⟨none, ⟨[], []⟩, [(.v (.bool false))]⟩)
 (cond (ltI 4294967294 (avInt (cellAt (lget x6 (Int.toNat x8)) 0)))
 (some ⟨none, ⟨[], []⟩, [(.v (.bool false))]⟩)
 (lp 31 0 0 ⟨[(3, (.v (.int .u32 (avInt (cellAt (lget x6 (Int.toNat x8)) 0))))), (6, (.lst x6n 4 x6)), (7, (.v (.int .i64 x7))), (8, (.v (.int .i64 (IntKind.wrap .i64 (x8 + 1)))))], []⟩)))
 (none))
 (none))
 (some ⟨(some 0), ⟨[], []⟩, []⟩) := (lp_eq _ _ _ _).trans (by kernel_rfl)
-- "bodega/bodegaref29.ValidTable"
-- "bodega/bodegaref29.find"
-- "bodega/bodegaref29.Holds"
-- "bodega/bodegaref29.Change"
-- "bodega/bodegaref29.Range"
-- "bodega/bodegalaw34.of"
theorem ev44 (a0_0 : Int) (a0_1 : Int) (a0_2 : Int) (a0_3 : Int) (a0_4 : Int) (a0_5 : Int) (a0_6 : Int) : ev 44 [(.agg [(.v (.int .i64 a0_0)), (.v (.int .i64 a0_1)), (.v (.int .i64 a0_2)), (.v (.int .i64 a0_3)), (.v (.int .i64 a0_4)), (.v (.int .i64 a0_5)), (.v (.int .i64 a0_6))])] =
 (ev 20 [(.v (.int .i64 a0_0)), (.v (.int .i64 9))]).bind fun r0 =>
 cond (isI .i64 (cellAt r0 0))
 ((ev 20 [(.v (.int .i64 a0_1)), (.v (.int .i64 5))]).bind fun r3 =>
 cond (isI .i64 (cellAt r3 0))
 ((ev 20 [(.v (.int .i64 a0_3)), (.v (.int .i64 7))]).bind fun r7 =>
 cond (isI .i64 (cellAt r7 0))
 ((ev 20 [(.v (.int .i64 (IntKind.wrap .i64 (Int.tdiv a0_3 7)))), (.v (.int .i64 9))]).bind fun r11 =>
 cond (isI .i64 (cellAt r11 0))
 (cond ((avInt (cellAt r11 0)) == 8)
 ((ev 20 [(.v (.int .i64 a0_3)), (.v (.int .i64 2))]).bind fun r13 =>
 cond (isI .i64 (cellAt r13 0))
 ((ev 20 [(.v (.int .i64 a0_4)), (.v (.int .i64 3))]).bind fun r16 =>
 cond (isI .i64 (cellAt r16 0))
 ((ev 20 [(.v (.int .i64 a0_5)), (.v (.int .i64 6))]).bind fun r18 =>
 cond (isI .i64 (cellAt r18 0))
 (cond ((IntKind.wrap .i64 ((avInt (cellAt r0 0)) + 1)) == 1)
 ((ev 20 [(.v (.int .i64 a0_4)), (.v (.int .i64 4))]).bind fun r22 =>
 cond (isI .i64 (cellAt r22 0))
 ((ev 20 [(.v (.int .i64 a0_6)), (.v (.int .i64 60))]).bind fun r25 =>
 cond (isI .i64 (cellAt r25 0))
 (cond ((avInt (cellAt r25 0)) == 59)
 (some [(.agg [(.v (.int .i64 (IntKind.wrap .i64 ((avInt (cellAt r0 0)) + 1)))), (.v (.int .u32 (IntKind.wrap .u32 ((IntKind.wrap .u32 (avInt (cellAt r3 0))) + 1)))), (.v (.int .u32 0)), (.v (.int .i64 (IntKind.wrap .i64 (9223372036854775807 - (avInt (cellAt r13 0)))))), (.v (.int .i64 (avInt (cellAt r22 0)))), (.v (.int .i64 (IntKind.wrap .i64 (0 - (IntKind.wrap .i64 (9223372036854775807 - (avInt (cellAt r13 0)))))))), (.v (.int .i64 0)), (.v (.int .i64 0)), (.v (.int .i64 0)), (.v (.int .i64 0)), (.v (.int .i64 0)), (.v (.int .i64 65))])])
 (some [(.agg [(.v (.int .i64 (IntKind.wrap .i64 ((avInt (cellAt r0 0)) + 1)))), (.v (.int .u32 (IntKind.wrap .u32 ((IntKind.wrap .u32 (avInt (cellAt r3 0))) + 1)))), (.v (.int .u32 0)), (.v (.int .i64 (IntKind.wrap .i64 (9223372036854775807 - (avInt (cellAt r13 0)))))), (.v (.int .i64 (avInt (cellAt r22 0)))), (.v (.int .i64 (IntKind.wrap .i64 (0 - (IntKind.wrap .i64 (9223372036854775807 - (avInt (cellAt r13 0)))))))), (.v (.int .i64 0)), (.v (.int .i64 0)), (.v (.int .i64 0)), (.v (.int .i64 0)), (.v (.int .i64 0)), (.v (.int .i64 0))])]))
 (none))
 (none))
 (cond ((IntKind.wrap .i64 ((avInt (cellAt r0 0)) + 1)) == 2)
 ((ev 20 [(.v (.int .i64 a0_6)), (.v (.int .i64 60))]).bind fun r28 =>
 cond (isI .i64 (cellAt r28 0))
 (cond ((avInt (cellAt r28 0)) == 59)
 (some [(.agg [(.v (.int .i64 (IntKind.wrap .i64 ((avInt (cellAt r0 0)) + 1)))), (.v (.int .u32 (IntKind.wrap .u32 ((IntKind.wrap .u32 (avInt (cellAt r3 0))) + 1)))), (.v (.int .u32 0)), (.v (.int .i64 0)), (.v (.int .i64 0)), (.v (.int .i64 0)), (.v (.int .i64 (avInt (cellAt r16 0)))), (.v (.int .i64 (IntKind.wrap .i64 (9223372036854775807 - (avInt (cellAt r13 0)))))), (.v (.int .i64 0)), (.v (.int .i64 0)), (.v (.int .i64 0)), (.v (.int .i64 65))])])
 (some [(.agg [(.v (.int .i64 (IntKind.wrap .i64 ((avInt (cellAt r0 0)) + 1)))), (.v (.int .u32 (IntKind.wrap .u32 ((IntKind.wrap .u32 (avInt (cellAt r3 0))) + 1)))), (.v (.int .u32 0)), (.v (.int .i64 0)), (.v (.int .i64 0)), (.v (.int .i64 0)), (.v (.int .i64 (avInt (cellAt r16 0)))), (.v (.int .i64 (IntKind.wrap .i64 (9223372036854775807 - (avInt (cellAt r13 0)))))), (.v (.int .i64 0)), (.v (.int .i64 0)), (.v (.int .i64 0)), (.v (.int .i64 0))])]))
 (none))
 (cond ((IntKind.wrap .i64 ((avInt (cellAt r0 0)) + 1)) == 3)
 ((ev 20 [(.v (.int .i64 a0_6)), (.v (.int .i64 60))]).bind fun r31 =>
 cond (isI .i64 (cellAt r31 0))
 (cond ((avInt (cellAt r31 0)) == 59)
 (some [(.agg [(.v (.int .i64 (IntKind.wrap .i64 ((avInt (cellAt r0 0)) + 1)))), (.v (.int .u32 (IntKind.wrap .u32 ((IntKind.wrap .u32 (avInt (cellAt r3 0))) + 1)))), (.v (.int .u32 0)), (.v (.int .i64 0)), (.v (.int .i64 0)), (.v (.int .i64 0)), (.v (.int .i64 (avInt (cellAt r16 0)))), (.v (.int .i64 (IntKind.wrap .i64 (9223372036854775807 - (avInt (cellAt r13 0)))))), (.v (.int .i64 0)), (.v (.int .i64 0)), (.v (.int .i64 0)), (.v (.int .i64 65))])])
 (some [(.agg [(.v (.int .i64 (IntKind.wrap .i64 ((avInt (cellAt r0 0)) + 1)))), (.v (.int .u32 (IntKind.wrap .u32 ((IntKind.wrap .u32 (avInt (cellAt r3 0))) + 1)))), (.v (.int .u32 0)), (.v (.int .i64 0)), (.v (.int .i64 0)), (.v (.int .i64 0)), (.v (.int .i64 (avInt (cellAt r16 0)))), (.v (.int .i64 (IntKind.wrap .i64 (9223372036854775807 - (avInt (cellAt r13 0)))))), (.v (.int .i64 0)), (.v (.int .i64 0)), (.v (.int .i64 0)), (.v (.int .i64 0))])]))
 (none))
 (cond ((IntKind.wrap .i64 ((avInt (cellAt r0 0)) + 1)) == 6)
 ((ev 20 [(.v (.int .i64 a0_2)), (.v (.int .i64 5))]).bind fun r34 =>
 cond (isI .i64 (cellAt r34 0))
 (cond ((Int.tmod a0_5 2) == 0)
 (cond ((IntKind.wrap .i64 ((avInt (cellAt r0 0)) + 1)) == 8)
 (cond ((IntKind.wrap .i64 ((avInt (cellAt r0 0)) + 1)) == 6)
 ((ev 20 [(.v (.int .i64 a0_6)), (.v (.int .i64 4))]).bind fun r39 =>
 cond (isI .i64 (cellAt r39 0))
 ((ev 20 [(.v (.int .i64 a0_6)), (.v (.int .i64 60))]).bind fun r41 =>
 cond (isI .i64 (cellAt r41 0))
 (cond ((avInt (cellAt r41 0)) == 59)
 (some [(.agg [(.v (.int .i64 (IntKind.wrap .i64 ((avInt (cellAt r0 0)) + 1)))), (.v (.int .u32 (IntKind.wrap .u32 ((IntKind.wrap .u32 (avInt (cellAt r3 0))) + 1)))), (.v (.int .u32 (IntKind.wrap .u32 ((IntKind.wrap .u32 ((IntKind.wrap .u32 (avInt (cellAt r3 0))) + 1)) + (IntKind.wrap .u32 (avInt (cellAt r34 0))))))), (.v (.int .i64 0)), (.v (.int .i64 0)), (.v (.int .i64 0)), (.v (.int .i64 (avInt (cellAt r16 0)))), (.v (.int .i64 0)), (.v (.int .i64 (avInt (cellAt r16 0)))), (.v (.int .i64 (IntKind.wrap .i64 ((avInt (cellAt r18 0)) + 1)))), (.v (.int .i64 (IntKind.wrap .i64 (9223372036854775807 - (avInt (cellAt r13 0)))))), (.v (.int .i64 65))])])
 (some [(.agg [(.v (.int .i64 (IntKind.wrap .i64 ((avInt (cellAt r0 0)) + 1)))), (.v (.int .u32 (IntKind.wrap .u32 ((IntKind.wrap .u32 (avInt (cellAt r3 0))) + 1)))), (.v (.int .u32 (IntKind.wrap .u32 ((IntKind.wrap .u32 ((IntKind.wrap .u32 (avInt (cellAt r3 0))) + 1)) + (IntKind.wrap .u32 (avInt (cellAt r34 0))))))), (.v (.int .i64 0)), (.v (.int .i64 0)), (.v (.int .i64 0)), (.v (.int .i64 (avInt (cellAt r16 0)))), (.v (.int .i64 0)), (.v (.int .i64 (avInt (cellAt r16 0)))), (.v (.int .i64 (IntKind.wrap .i64 ((avInt (cellAt r18 0)) + 1)))), (.v (.int .i64 (IntKind.wrap .i64 (9223372036854775807 - (avInt (cellAt r13 0)))))), (.v (.int .i64 (avInt (cellAt r39 0))))])]))
 (none))
 (none))
 ((ev 20 [(.v (.int .i64 a0_6)), (.v (.int .i64 60))]).bind fun r43 =>
 cond (isI .i64 (cellAt r43 0))
 (cond ((avInt (cellAt r43 0)) == 59)
 (some [(.agg [(.v (.int .i64 (IntKind.wrap .i64 ((avInt (cellAt r0 0)) + 1)))), (.v (.int .u32 (IntKind.wrap .u32 ((IntKind.wrap .u32 (avInt (cellAt r3 0))) + 1)))), (.v (.int .u32 (IntKind.wrap .u32 ((IntKind.wrap .u32 ((IntKind.wrap .u32 (avInt (cellAt r3 0))) + 1)) + (IntKind.wrap .u32 (avInt (cellAt r34 0))))))), (.v (.int .i64 0)), (.v (.int .i64 0)), (.v (.int .i64 0)), (.v (.int .i64 (avInt (cellAt r16 0)))), (.v (.int .i64 0)), (.v (.int .i64 (avInt (cellAt r16 0)))), (.v (.int .i64 (IntKind.wrap .i64 ((avInt (cellAt r18 0)) + 1)))), (.v (.int .i64 (IntKind.wrap .i64 (9223372036854775807 - (avInt (cellAt r13 0)))))), (.v (.int .i64 65))])])
 (some [(.agg [(.v (.int .i64 (IntKind.wrap .i64 ((avInt (cellAt r0 0)) + 1)))), (.v (.int .u32 (IntKind.wrap .u32 ((IntKind.wrap .u32 (avInt (cellAt r3 0))) + 1)))), (.v (.int .u32 (IntKind.wrap .u32 ((IntKind.wrap .u32 ((IntKind.wrap .u32 (avInt (cellAt r3 0))) + 1)) + (IntKind.wrap .u32 (avInt (cellAt r34 0))))))), (.v (.int .i64 0)), (.v (.int .i64 0)), (.v (.int .i64 0)), (.v (.int .i64 (avInt (cellAt r16 0)))), (.v (.int .i64 0)), (.v (.int .i64 (avInt (cellAt r16 0)))), (.v (.int .i64 (IntKind.wrap .i64 ((avInt (cellAt r18 0)) + 1)))), (.v (.int .i64 (IntKind.wrap .i64 (9223372036854775807 - (avInt (cellAt r13 0)))))), (.v (.int .i64 0))])]))
 (none)))
 (cond ((IntKind.wrap .i64 ((avInt (cellAt r0 0)) + 1)) == 6)
 ((ev 20 [(.v (.int .i64 a0_6)), (.v (.int .i64 4))]).bind fun r45 =>
 cond (isI .i64 (cellAt r45 0))
 ((ev 20 [(.v (.int .i64 a0_6)), (.v (.int .i64 60))]).bind fun r47 =>
 cond (isI .i64 (cellAt r47 0))
 (cond ((avInt (cellAt r47 0)) == 59)
 (some [(.agg [(.v (.int .i64 (IntKind.wrap .i64 ((avInt (cellAt r0 0)) + 1)))), (.v (.int .u32 (IntKind.wrap .u32 ((IntKind.wrap .u32 (avInt (cellAt r3 0))) + 1)))), (.v (.int .u32 (IntKind.wrap .u32 ((IntKind.wrap .u32 ((IntKind.wrap .u32 (avInt (cellAt r3 0))) + 1)) + (IntKind.wrap .u32 (avInt (cellAt r34 0))))))), (.v (.int .i64 0)), (.v (.int .i64 0)), (.v (.int .i64 0)), (.v (.int .i64 0)), (.v (.int .i64 0)), (.v (.int .i64 (avInt (cellAt r16 0)))), (.v (.int .i64 (IntKind.wrap .i64 ((avInt (cellAt r18 0)) + 1)))), (.v (.int .i64 (IntKind.wrap .i64 (9223372036854775807 - (avInt (cellAt r13 0)))))), (.v (.int .i64 65))])])
 (some [(.agg [(.v (.int .i64 (IntKind.wrap .i64 ((avInt (cellAt r0 0)) + 1)))), (.v (.int .u32 (IntKind.wrap .u32 ((IntKind.wrap .u32 (avInt (cellAt r3 0))) + 1)))), (.v (.int .u32 (IntKind.wrap .u32 ((IntKind.wrap .u32 ((IntKind.wrap .u32 (avInt (cellAt r3 0))) + 1)) + (IntKind.wrap .u32 (avInt (cellAt r34 0))))))), (.v (.int .i64 0)), (.v (.int .i64 0)), (.v (.int .i64 0)), (.v (.int .i64 0)), (.v (.int .i64 0)), (.v (.int .i64 (avInt (cellAt r16 0)))), (.v (.int .i64 (IntKind.wrap .i64 ((avInt (cellAt r18 0)) + 1)))), (.v (.int .i64 (IntKind.wrap .i64 (9223372036854775807 - (avInt (cellAt r13 0)))))), (.v (.int .i64 (avInt (cellAt r45 0))))])]))
 (none))
 (none))
 ((ev 20 [(.v (.int .i64 a0_6)), (.v (.int .i64 60))]).bind fun r49 =>
 cond (isI .i64 (cellAt r49 0))
 (cond ((avInt (cellAt r49 0)) == 59)
 (some [(.agg [(.v (.int .i64 (IntKind.wrap .i64 ((avInt (cellAt r0 0)) + 1)))), (.v (.int .u32 (IntKind.wrap .u32 ((IntKind.wrap .u32 (avInt (cellAt r3 0))) + 1)))), (.v (.int .u32 (IntKind.wrap .u32 ((IntKind.wrap .u32 ((IntKind.wrap .u32 (avInt (cellAt r3 0))) + 1)) + (IntKind.wrap .u32 (avInt (cellAt r34 0))))))), (.v (.int .i64 0)), (.v (.int .i64 0)), (.v (.int .i64 0)), (.v (.int .i64 0)), (.v (.int .i64 0)), (.v (.int .i64 (avInt (cellAt r16 0)))), (.v (.int .i64 (IntKind.wrap .i64 ((avInt (cellAt r18 0)) + 1)))), (.v (.int .i64 (IntKind.wrap .i64 (9223372036854775807 - (avInt (cellAt r13 0)))))), (.v (.int .i64 65))])])
 (some [(.agg [(.v (.int .i64 (IntKind.wrap .i64 ((avInt (cellAt r0 0)) + 1)))), (.v (.int .u32 (IntKind.wrap .u32 ((IntKind.wrap .u32 (avInt (cellAt r3 0))) + 1)))), (.v (.int .u32 (IntKind.wrap .u32 ((IntKind.wrap .u32 ((IntKind.wrap .u32 (avInt (cellAt r3 0))) + 1)) + (IntKind.wrap .u32 (avInt (cellAt r34 0))))))), (.v (.int .i64 0)), (.v (.int .i64 0)), (.v (.int .i64 0)), (.v (.int .i64 0)), (.v (.int .i64 0)), (.v (.int .i64 (avInt (cellAt r16 0)))), (.v (.int .i64 (IntKind.wrap .i64 ((avInt (cellAt r18 0)) + 1)))), (.v (.int .i64 (IntKind.wrap .i64 (9223372036854775807 - (avInt (cellAt r13 0)))))), (.v (.int .i64 0))])]))
 (none))))
 (cond ((IntKind.wrap .i64 ((avInt (cellAt r0 0)) + 1)) == 8)
 (cond ((IntKind.wrap .i64 ((avInt (cellAt r0 0)) + 1)) == 6)
 ((ev 20 [(.v (.int .i64 a0_6)), (.v (.int .i64 4))]).bind fun r51 =>
 cond (isI .i64 (cellAt r51 0))
 ((ev 20 [(.v (.int .i64 a0_6)), (.v (.int .i64 60))]).bind fun r53 =>
 cond (isI .i64 (cellAt r53 0))
 (cond ((avInt (cellAt r53 0)) == 59)
 (some [(.agg [(.v (.int .i64 (IntKind.wrap .i64 ((avInt (cellAt r0 0)) + 1)))), (.v (.int .u32 (IntKind.wrap .u32 ((IntKind.wrap .u32 (avInt (cellAt r3 0))) + 1)))), (.v (.int .u32 (IntKind.wrap .u32 ((IntKind.wrap .u32 ((IntKind.wrap .u32 (avInt (cellAt r3 0))) + 1)) + (IntKind.wrap .u32 (avInt (cellAt r34 0))))))), (.v (.int .i64 0)), (.v (.int .i64 0)), (.v (.int .i64 0)), (.v (.int .i64 (avInt (cellAt r16 0)))), (.v (.int .i64 0)), (.v (.int .i64 0)), (.v (.int .i64 0)), (.v (.int .i64 0)), (.v (.int .i64 65))])])
 (some [(.agg [(.v (.int .i64 (IntKind.wrap .i64 ((avInt (cellAt r0 0)) + 1)))), (.v (.int .u32 (IntKind.wrap .u32 ((IntKind.wrap .u32 (avInt (cellAt r3 0))) + 1)))), (.v (.int .u32 (IntKind.wrap .u32 ((IntKind.wrap .u32 ((IntKind.wrap .u32 (avInt (cellAt r3 0))) + 1)) + (IntKind.wrap .u32 (avInt (cellAt r34 0))))))), (.v (.int .i64 0)), (.v (.int .i64 0)), (.v (.int .i64 0)), (.v (.int .i64 (avInt (cellAt r16 0)))), (.v (.int .i64 0)), (.v (.int .i64 0)), (.v (.int .i64 0)), (.v (.int .i64 0)), (.v (.int .i64 (avInt (cellAt r51 0))))])]))
 (none))
 (none))
 ((ev 20 [(.v (.int .i64 a0_6)), (.v (.int .i64 60))]).bind fun r55 =>
 cond (isI .i64 (cellAt r55 0))
 (cond ((avInt (cellAt r55 0)) == 59)
 (some [(.agg [(.v (.int .i64 (IntKind.wrap .i64 ((avInt (cellAt r0 0)) + 1)))), (.v (.int .u32 (IntKind.wrap .u32 ((IntKind.wrap .u32 (avInt (cellAt r3 0))) + 1)))), (.v (.int .u32 (IntKind.wrap .u32 ((IntKind.wrap .u32 ((IntKind.wrap .u32 (avInt (cellAt r3 0))) + 1)) + (IntKind.wrap .u32 (avInt (cellAt r34 0))))))), (.v (.int .i64 0)), (.v (.int .i64 0)), (.v (.int .i64 0)), (.v (.int .i64 (avInt (cellAt r16 0)))), (.v (.int .i64 0)), (.v (.int .i64 0)), (.v (.int .i64 0)), (.v (.int .i64 0)), (.v (.int .i64 65))])])
 (some [(.agg [(.v (.int .i64 (IntKind.wrap .i64 ((avInt (cellAt r0 0)) + 1)))), (.v (.int .u32 (IntKind.wrap .u32 ((IntKind.wrap .u32 (avInt (cellAt r3 0))) + 1)))), (.v (.int .u32 (IntKind.wrap .u32 ((IntKind.wrap .u32 ((IntKind.wrap .u32 (avInt (cellAt r3 0))) + 1)) + (IntKind.wrap .u32 (avInt (cellAt r34 0))))))), (.v (.int .i64 0)), (.v (.int .i64 0)), (.v (.int .i64 0)), (.v (.int .i64 (avInt (cellAt r16 0)))), (.v (.int .i64 0)), (.v (.int .i64 0)), (.v (.int .i64 0)), (.v (.int .i64 0)), (.v (.int .i64 0))])]))
 (none)))
 (cond ((IntKind.wrap .i64 ((avInt (cellAt r0 0)) + 1)) == 6)
 ((ev 20 [(.v (.int .i64 a0_6)), (.v (.int .i64 4))]).bind fun r57 =>
 cond (isI .i64 (cellAt r57 0))
 ((ev 20 [(.v (.int .i64 a0_6)), (.v (.int .i64 60))]).bind fun r59 =>
 cond (isI .i64 (cellAt r59 0))
 (cond ((avInt (cellAt r59 0)) == 59)
 (some [(.agg [(.v (.int .i64 (IntKind.wrap .i64 ((avInt (cellAt r0 0)) + 1)))), (.v (.int .u32 (IntKind.wrap .u32 ((IntKind.wrap .u32 (avInt (cellAt r3 0))) + 1)))), (.v (.int .u32 (IntKind.wrap .u32 ((IntKind.wrap .u32 ((IntKind.wrap .u32 (avInt (cellAt r3 0))) + 1)) + (IntKind.wrap .u32 (avInt (cellAt r34 0))))))), (.v (.int .i64 0)), (.v (.int .i64 0)), (.v (.int .i64 0)), (.v (.int .i64 0)), (.v (.int .i64 0)), (.v (.int .i64 0)), (.v (.int .i64 0)), (.v (.int .i64 0)), (.v (.int .i64 65))])])
 (some [(.agg [(.v (.int .i64 (IntKind.wrap .i64 ((avInt (cellAt r0 0)) + 1)))), (.v (.int .u32 (IntKind.wrap .u32 ((IntKind.wrap .u32 (avInt (cellAt r3 0))) + 1)))), (.v (.int .u32 (IntKind.wrap .u32 ((IntKind.wrap .u32 ((IntKind.wrap .u32 (avInt (cellAt r3 0))) + 1)) + (IntKind.wrap .u32 (avInt (cellAt r34 0))))))), (.v (.int .i64 0)), (.v (.int .i64 0)), (.v (.int .i64 0)), (.v (.int .i64 0)), (.v (.int .i64 0)), (.v (.int .i64 0)), (.v (.int .i64 0)), (.v (.int .i64 0)), (.v (.int .i64 (avInt (cellAt r57 0))))])]))
 (none))
 (none))
 ((ev 20 [(.v (.int .i64 a0_6)), (.v (.int .i64 60))]).bind fun r61 =>
 cond (isI .i64 (cellAt r61 0))
 (cond ((avInt (cellAt r61 0)) == 59)
 (some [(.agg [(.v (.int .i64 (IntKind.wrap .i64 ((avInt (cellAt r0 0)) + 1)))), (.v (.int .u32 (IntKind.wrap .u32 ((IntKind.wrap .u32 (avInt (cellAt r3 0))) + 1)))), (.v (.int .u32 (IntKind.wrap .u32 ((IntKind.wrap .u32 ((IntKind.wrap .u32 (avInt (cellAt r3 0))) + 1)) + (IntKind.wrap .u32 (avInt (cellAt r34 0))))))), (.v (.int .i64 0)), (.v (.int .i64 0)), (.v (.int .i64 0)), (.v (.int .i64 0)), (.v (.int .i64 0)), (.v (.int .i64 0)), (.v (.int .i64 0)), (.v (.int .i64 0)), (.v (.int .i64 65))])])
 (some [(.agg [(.v (.int .i64 (IntKind.wrap .i64 ((avInt (cellAt r0 0)) + 1)))), (.v (.int .u32 (IntKind.wrap .u32 ((IntKind.wrap .u32 (avInt (cellAt r3 0))) + 1)))), (.v (.int .u32 (IntKind.wrap .u32 ((IntKind.wrap .u32 ((IntKind.wrap .u32 (avInt (cellAt r3 0))) + 1)) + (IntKind.wrap .u32 (avInt (cellAt r34 0))))))), (.v (.int .i64 0)), (.v (.int .i64 0)), (.v (.int .i64 0)), (.v (.int .i64 0)), (.v (.int .i64 0)), (.v (.int .i64 0)), (.v (.int .i64 0)), (.v (.int .i64 0)), (.v (.int .i64 0))])]))
 (none)))))
 (none))
 (cond ((IntKind.wrap .i64 ((avInt (cellAt r0 0)) + 1)) == 7)
 ((ev 20 [(.v (.int .i64 a0_2)), (.v (.int .i64 5))]).bind fun r64 =>
 cond (isI .i64 (cellAt r64 0))
 (cond ((Int.tmod a0_5 2) == 0)
 (cond ((IntKind.wrap .i64 ((avInt (cellAt r0 0)) + 1)) == 8)
 (cond ((IntKind.wrap .i64 ((avInt (cellAt r0 0)) + 1)) == 6)
 ((ev 20 [(.v (.int .i64 a0_6)), (.v (.int .i64 4))]).bind fun r69 =>
 cond (isI .i64 (cellAt r69 0))
 ((ev 20 [(.v (.int .i64 a0_6)), (.v (.int .i64 60))]).bind fun r71 =>
 cond (isI .i64 (cellAt r71 0))
 (cond ((avInt (cellAt r71 0)) == 59)
 (some [(.agg [(.v (.int .i64 (IntKind.wrap .i64 ((avInt (cellAt r0 0)) + 1)))), (.v (.int .u32 (IntKind.wrap .u32 ((IntKind.wrap .u32 (avInt (cellAt r3 0))) + 1)))), (.v (.int .u32 (IntKind.wrap .u32 ((IntKind.wrap .u32 ((IntKind.wrap .u32 (avInt (cellAt r3 0))) + 1)) + (IntKind.wrap .u32 (avInt (cellAt r64 0))))))), (.v (.int .i64 0)), (.v (.int .i64 0)), (.v (.int .i64 0)), (.v (.int .i64 (avInt (cellAt r16 0)))), (.v (.int .i64 0)), (.v (.int .i64 (avInt (cellAt r16 0)))), (.v (.int .i64 (IntKind.wrap .i64 ((avInt (cellAt r18 0)) + 1)))), (.v (.int .i64 (IntKind.wrap .i64 (9223372036854775807 - (avInt (cellAt r13 0)))))), (.v (.int .i64 65))])])
 (some [(.agg [(.v (.int .i64 (IntKind.wrap .i64 ((avInt (cellAt r0 0)) + 1)))), (.v (.int .u32 (IntKind.wrap .u32 ((IntKind.wrap .u32 (avInt (cellAt r3 0))) + 1)))), (.v (.int .u32 (IntKind.wrap .u32 ((IntKind.wrap .u32 ((IntKind.wrap .u32 (avInt (cellAt r3 0))) + 1)) + (IntKind.wrap .u32 (avInt (cellAt r64 0))))))), (.v (.int .i64 0)), (.v (.int .i64 0)), (.v (.int .i64 0)), (.v (.int .i64 (avInt (cellAt r16 0)))), (.v (.int .i64 0)), (.v (.int .i64 (avInt (cellAt r16 0)))), (.v (.int .i64 (IntKind.wrap .i64 ((avInt (cellAt r18 0)) + 1)))), (.v (.int .i64 (IntKind.wrap .i64 (9223372036854775807 - (avInt (cellAt r13 0)))))), (.v (.int .i64 (avInt (cellAt r69 0))))])]))
 (none))
 (none))
 ((ev 20 [(.v (.int .i64 a0_6)), (.v (.int .i64 60))]).bind fun r73 =>
 cond (isI .i64 (cellAt r73 0))
 (cond ((avInt (cellAt r73 0)) == 59)
 (some [(.agg [(.v (.int .i64 (IntKind.wrap .i64 ((avInt (cellAt r0 0)) + 1)))), (.v (.int .u32 (IntKind.wrap .u32 ((IntKind.wrap .u32 (avInt (cellAt r3 0))) + 1)))), (.v (.int .u32 (IntKind.wrap .u32 ((IntKind.wrap .u32 ((IntKind.wrap .u32 (avInt (cellAt r3 0))) + 1)) + (IntKind.wrap .u32 (avInt (cellAt r64 0))))))), (.v (.int .i64 0)), (.v (.int .i64 0)), (.v (.int .i64 0)), (.v (.int .i64 (avInt (cellAt r16 0)))), (.v (.int .i64 0)), (.v (.int .i64 (avInt (cellAt r16 0)))), (.v (.int .i64 (IntKind.wrap .i64 ((avInt (cellAt r18 0)) + 1)))), (.v (.int .i64 (IntKind.wrap .i64 (9223372036854775807 - (avInt (cellAt r13 0)))))), (.v (.int .i64 65))])])
 (some [(.agg [(.v (.int .i64 (IntKind.wrap .i64 ((avInt (cellAt r0 0)) + 1)))), (.v (.int .u32 (IntKind.wrap .u32 ((IntKind.wrap .u32 (avInt (cellAt r3 0))) + 1)))), (.v (.int .u32 (IntKind.wrap .u32 ((IntKind.wrap .u32 ((IntKind.wrap .u32 (avInt (cellAt r3 0))) + 1)) + (IntKind.wrap .u32 (avInt (cellAt r64 0))))))), (.v (.int .i64 0)), (.v (.int .i64 0)), (.v (.int .i64 0)), (.v (.int .i64 (avInt (cellAt r16 0)))), (.v (.int .i64 0)), (.v (.int .i64 (avInt (cellAt r16 0)))), (.v (.int .i64 (IntKind.wrap .i64 ((avInt (cellAt r18 0)) + 1)))), (.v (.int .i64 (IntKind.wrap .i64 (9223372036854775807 - (avInt (cellAt r13 0)))))), (.v (.int .i64 0))])]))
 (none)))
 (cond ((IntKind.wrap .i64 ((avInt (cellAt r0 0)) + 1)) == 6)
 ((ev 20 [(.v (.int .i64 a0_6)), (.v (.int .i64 4))]).bind fun r75 =>
 cond (isI .i64 (cellAt r75 0))
 ((ev 20 [(.v (.int .i64 a0_6)), (.v (.int .i64 60))]).bind fun r77 =>
 cond (isI .i64 (cellAt r77 0))
 (cond ((avInt (cellAt r77 0)) == 59)
 (some [(.agg [(.v (.int .i64 (IntKind.wrap .i64 ((avInt (cellAt r0 0)) + 1)))), (.v (.int .u32 (IntKind.wrap .u32 ((IntKind.wrap .u32 (avInt (cellAt r3 0))) + 1)))), (.v (.int .u32 (IntKind.wrap .u32 ((IntKind.wrap .u32 ((IntKind.wrap .u32 (avInt (cellAt r3 0))) + 1)) + (IntKind.wrap .u32 (avInt (cellAt r64 0))))))), (.v (.int .i64 0)), (.v (.int .i64 0)), (.v (.int .i64 0)), (.v (.int .i64 0)), (.v (.int .i64 0)), (.v (.int .i64 (avInt (cellAt r16 0)))), (.v (.int .i64 (IntKind.wrap .i64 ((avInt (cellAt r18 0)) + 1)))), (.v (.int .i64 (IntKind.wrap .i64 (9223372036854775807 - (avInt (cellAt r13 0)))))), (.v (.int .i64 65))])])
 (some [(.agg [(.v (.int .i64 (IntKind.wrap .i64 ((avInt (cellAt r0 0)) + 1)))), (.v (.int .u32 (IntKind.wrap .u32 ((IntKind.wrap .u32 (avInt (cellAt r3 0))) + 1)))), (.v (.int .u32 (IntKind.wrap .u32 ((IntKind.wrap .u32 ((IntKind.wrap .u32 (avInt (cellAt r3 0))) + 1)) + (IntKind.wrap .u32 (avInt (cellAt r64 0))))))), (.v (.int .i64 0)), (.v (.int .i64 0)), (.v (.int .i64 0)), (.v (.int .i64 0)), (.v (.int .i64 0)), (.v (.int .i64 (avInt (cellAt r16 0)))), (.v (.int .i64 (IntKind.wrap .i64 ((avInt (cellAt r18 0)) + 1)))), (.v (.int .i64 (IntKind.wrap .i64 (9223372036854775807 - (avInt (cellAt r13 0)))))), (.v (.int .i64 (avInt (cellAt r75 0))))])]))
 (none))
 (none))
 ((ev 20 [(.v (.int .i64 a0_6)), (.v (.int .i64 60))]).bind fun r79 =>
 cond (isI .i64 (cellAt r79 0))
 (cond ((avInt (cellAt r79 0)) == 59)
 (some [(.agg [(.v (.int .i64 (IntKind.wrap .i64 ((avInt (cellAt r0 0)) + 1)))), (.v (.int .u32 (IntKind.wrap .u32 ((IntKind.wrap .u32 (avInt (cellAt r3 0))) + 1)))), (.v (.int .u32 (IntKind.wrap .u32 ((IntKind.wrap .u32 ((IntKind.wrap .u32 (avInt (cellAt r3 0))) + 1)) + (IntKind.wrap .u32 (avInt (cellAt r64 0))))))), (.v (.int .i64 0)), (.v (.int .i64 0)), (.v (.int .i64 0)), (.v (.int .i64 0)), (.v (.int .i64 0)), (.v (.int .i64 (avInt (cellAt r16 0)))), (.v (.int .i64 (IntKind.wrap .i64 ((avInt (cellAt r18 0)) + 1)))), (.v (.int .i64 (IntKind.wrap .i64 (9223372036854775807 - (avInt (cellAt r13 0)))))), (.v (.int .i64 65))])])
 (some [(.agg [(.v (.int .i64 (IntKind.wrap .i64 ((avInt (cellAt r0 0)) + 1)))), (.v (.int .u32 (IntKind.wrap .u32 ((IntKind.wrap .u32 (avInt (cellAt r3 0))) + 1)))), (.v (.int .u32 (IntKind.wrap .u32 ((IntKind.wrap .u32 ((IntKind.wrap .u32 (avInt (cellAt r3 0))) + 1)) + (IntKind.wrap .u32 (avInt (cellAt r64 0))))))), (.v (.int .i64 0)), (.v (.int .i64 0)), (.v (.int .i64 0)), (.v (.int .i64 0)), (.v (.int .i64 0)), (.v (.int .i64 (avInt (cellAt r16 0)))), (.v (.int .i64 (IntKind.wrap .i64 ((avInt (cellAt r18 0)) + 1)))), (.v (.int .i64 (IntKind.wrap .i64 (9223372036854775807 - (avInt (cellAt r13 0)))))), (.v (.int .i64 0))])]))
 (none))))
 (cond ((IntKind.wrap .i64 ((avInt (cellAt r0 0)) + 1)) == 8)
 (cond ((IntKind.wrap .i64 ((avInt (cellAt r0 0)) + 1)) == 6)
 ((ev 20 [(.v (.int .i64 a0_6)), (.v (.int .i64 4))]).bind fun r81 =>
 cond (isI .i64 (cellAt r81 0))
 ((ev 20 [(.v (.int .i64 a0_6)), (.v (.int .i64 60))]).bind fun r83 =>
 cond (isI .i64 (cellAt r83 0))
 (cond ((avInt (cellAt r83 0)) == 59)
 (some [(.agg [(.v (.int .i64 (IntKind.wrap .i64 ((avInt (cellAt r0 0)) + 1)))), (.v (.int .u32 (IntKind.wrap .u32 ((IntKind.wrap .u32 (avInt (cellAt r3 0))) + 1)))), (.v (.int .u32 (IntKind.wrap .u32 ((IntKind.wrap .u32 ((IntKind.wrap .u32 (avInt (cellAt r3 0))) + 1)) + (IntKind.wrap .u32 (avInt (cellAt r64 0))))))), (.v (.int .i64 0)), (.v (.int .i64 0)), (.v (.int .i64 0)), (.v (.int .i64 (avInt (cellAt r16 0)))), (.v (.int .i64 0)), (.v (.int .i64 0)), (.v (.int .i64 0)), (.v (.int .i64 0)), (.v (.int .i64 65))])])
 (some [(.agg [(.v (.int .i64 (IntKind.wrap .i64 ((avInt (cellAt r0 0)) + 1)))), (.v (.int .u32 (IntKind.wrap .u32 ((IntKind.wrap .u32 (avInt (cellAt r3 0))) + 1)))), (.v (.int .u32 (IntKind.wrap .u32 ((IntKind.wrap .u32 ((IntKind.wrap .u32 (avInt (cellAt r3 0))) + 1)) + (IntKind.wrap .u32 (avInt (cellAt r64 0))))))), (.v (.int .i64 0)), (.v (.int .i64 0)), (.v (.int .i64 0)), (.v (.int .i64 (avInt (cellAt r16 0)))), (.v (.int .i64 0)), (.v (.int .i64 0)), (.v (.int .i64 0)), (.v (.int .i64 0)), (.v (.int .i64 (avInt (cellAt r81 0))))])]))
 (none))
 (none))
 ((ev 20 [(.v (.int .i64 a0_6)), (.v (.int .i64 60))]).bind fun r85 =>
 cond (isI .i64 (cellAt r85 0))
 (cond ((avInt (cellAt r85 0)) == 59)
 (some [(.agg [(.v (.int .i64 (IntKind.wrap .i64 ((avInt (cellAt r0 0)) + 1)))), (.v (.int .u32 (IntKind.wrap .u32 ((IntKind.wrap .u32 (avInt (cellAt r3 0))) + 1)))), (.v (.int .u32 (IntKind.wrap .u32 ((IntKind.wrap .u32 ((IntKind.wrap .u32 (avInt (cellAt r3 0))) + 1)) + (IntKind.wrap .u32 (avInt (cellAt r64 0))))))), (.v (.int .i64 0)), (.v (.int .i64 0)), (.v (.int .i64 0)), (.v (.int .i64 (avInt (cellAt r16 0)))), (.v (.int .i64 0)), (.v (.int .i64 0)), (.v (.int .i64 0)), (.v (.int .i64 0)), (.v (.int .i64 65))])])
 (some [(.agg [(.v (.int .i64 (IntKind.wrap .i64 ((avInt (cellAt r0 0)) + 1)))), (.v (.int .u32 (IntKind.wrap .u32 ((IntKind.wrap .u32 (avInt (cellAt r3 0))) + 1)))), (.v (.int .u32 (IntKind.wrap .u32 ((IntKind.wrap .u32 ((IntKind.wrap .u32 (avInt (cellAt r3 0))) + 1)) + (IntKind.wrap .u32 (avInt (cellAt r64 0))))))), (.v (.int .i64 0)), (.v (.int .i64 0)), (.v (.int .i64 0)), (.v (.int .i64 (avInt (cellAt r16 0)))), (.v (.int .i64 0)), (.v (.int .i64 0)), (.v (.int .i64 0)), (.v (.int .i64 0)), (.v (.int .i64 0))])]))
 (none)))
 (cond ((IntKind.wrap .i64 ((avInt (cellAt r0 0)) + 1)) == 6)
 ((ev 20 [(.v (.int .i64 a0_6)), (.v (.int .i64 4))]).bind fun r87 =>
 cond (isI .i64 (cellAt r87 0))
 ((ev 20 [(.v (.int .i64 a0_6)), (.v (.int .i64 60))]).bind fun r89 =>
 cond (isI .i64 (cellAt r89 0))
 (cond ((avInt (cellAt r89 0)) == 59)
 (some [(.agg [(.v (.int .i64 (IntKind.wrap .i64 ((avInt (cellAt r0 0)) + 1)))), (.v (.int .u32 (IntKind.wrap .u32 ((IntKind.wrap .u32 (avInt (cellAt r3 0))) + 1)))), (.v (.int .u32 (IntKind.wrap .u32 ((IntKind.wrap .u32 ((IntKind.wrap .u32 (avInt (cellAt r3 0))) + 1)) + (IntKind.wrap .u32 (avInt (cellAt r64 0))))))), (.v (.int .i64 0)), (.v (.int .i64 0)), (.v (.int .i64 0)), (.v (.int .i64 0)), (.v (.int .i64 0)), (.v (.int .i64 0)), (.v (.int .i64 0)), (.v (.int .i64 0)), (.v (.int .i64 65))])])
 (some [(.agg [(.v (.int .i64 (IntKind.wrap .i64 ((avInt (cellAt r0 0)) + 1)))), (.v (.int .u32 (IntKind.wrap .u32 ((IntKind.wrap .u32 (avInt (cellAt r3 0))) + 1)))), (.v (.int .u32 (IntKind.wrap .u32 ((IntKind.wrap .u32 ((IntKind.wrap .u32 (avInt (cellAt r3 0))) + 1)) + (IntKind.wrap .u32 (avInt (cellAt r64 0))))))), (.v (.int .i64 0)), (.v (.int .i64 0)), (.v (.int .i64 0)), (.v (.int .i64 0)), (.v (.int .i64 0)), (.v (.int .i64 0)), (.v (.int .i64 0)), (.v (.int .i64 0)), (.v (.int .i64 (avInt (cellAt r87 0))))])]))
 (none))
 (none))
 ((ev 20 [(.v (.int .i64 a0_6)), (.v (.int .i64 60))]).bind fun r91 =>
 cond (isI .i64 (cellAt r91 0))
 (cond ((avInt (cellAt r91 0)) == 59)
 (some [(.agg [(.v (.int .i64 (IntKind.wrap .i64 ((avInt (cellAt r0 0)) + 1)))), (.v (.int .u32 (IntKind.wrap .u32 ((IntKind.wrap .u32 (avInt (cellAt r3 0))) + 1)))), (.v (.int .u32 (IntKind.wrap .u32 ((IntKind.wrap .u32 ((IntKind.wrap .u32 (avInt (cellAt r3 0))) + 1)) + (IntKind.wrap .u32 (avInt (cellAt r64 0))))))), (.v (.int .i64 0)), (.v (.int .i64 0)), (.v (.int .i64 0)), (.v (.int .i64 0)), (.v (.int .i64 0)), (.v (.int .i64 0)), (.v (.int .i64 0)), (.v (.int .i64 0)), (.v (.int .i64 65))])])
 (some [(.agg [(.v (.int .i64 (IntKind.wrap .i64 ((avInt (cellAt r0 0)) + 1)))), (.v (.int .u32 (IntKind.wrap .u32 ((IntKind.wrap .u32 (avInt (cellAt r3 0))) + 1)))), (.v (.int .u32 (IntKind.wrap .u32 ((IntKind.wrap .u32 ((IntKind.wrap .u32 (avInt (cellAt r3 0))) + 1)) + (IntKind.wrap .u32 (avInt (cellAt r64 0))))))), (.v (.int .i64 0)), (.v (.int .i64 0)), (.v (.int .i64 0)), (.v (.int .i64 0)), (.v (.int .i64 0)), (.v (.int .i64 0)), (.v (.int .i64 0)), (.v (.int .i64 0)), (.v (.int .i64 0))])]))
 (none)))))
 (none))
 (cond ((IntKind.wrap .i64 ((avInt (cellAt r0 0)) + 1)) == 8)
 ((ev 20 [(.v (.int .i64 a0_2)), (.v (.int .i64 5))]).bind fun r94 =>
 cond (isI .i64 (cellAt r94 0))
 (cond ((Int.tmod a0_5 2) == 0)
 (cond ((IntKind.wrap .i64 ((avInt (cellAt r0 0)) + 1)) == 8)
 (cond ((IntKind.wrap .i64 ((avInt (cellAt r0 0)) + 1)) == 6)
 ((ev 20 [(.v (.int .i64 a0_6)), (.v (.int .i64 4))]).bind fun r99 =>
 cond (isI .i64 (cellAt r99 0))
 ((ev 20 [(.v (.int .i64 a0_6)), (.v (.int .i64 60))]).bind fun r101 =>
 cond (isI .i64 (cellAt r101 0))
 (cond ((avInt (cellAt r101 0)) == 59)
 (some [(.agg [(.v (.int .i64 (IntKind.wrap .i64 ((avInt (cellAt r0 0)) + 1)))), (.v (.int .u32 (IntKind.wrap .u32 ((IntKind.wrap .u32 (avInt (cellAt r3 0))) + 1)))), (.v (.int .u32 (IntKind.wrap .u32 ((IntKind.wrap .u32 ((IntKind.wrap .u32 (avInt (cellAt r3 0))) + 1)) + (IntKind.wrap .u32 (avInt (cellAt r94 0))))))), (.v (.int .i64 0)), (.v (.int .i64 0)), (.v (.int .i64 0)), (.v (.int .i64 (avInt (cellAt r16 0)))), (.v (.int .i64 0)), (.v (.int .i64 (avInt (cellAt r16 0)))), (.v (.int .i64 (IntKind.wrap .i64 ((avInt (cellAt r18 0)) + 1)))), (.v (.int .i64 (IntKind.wrap .i64 (9223372036854775807 - (avInt (cellAt r13 0)))))), (.v (.int .i64 65))])])
 (some [(.agg [(.v (.int .i64 (IntKind.wrap .i64 ((avInt (cellAt r0 0)) + 1)))), (.v (.int .u32 (IntKind.wrap .u32 ((IntKind.wrap .u32 (avInt (cellAt r3 0))) + 1)))), (.v (.int .u32 (IntKind.wrap .u32 ((IntKind.wrap .u32 ((IntKind.wrap .u32 (avInt (cellAt r3 0))) + 1)) + (IntKind.wrap .u32 (avInt (cellAt r94 0))))))), (.v (.int .i64 0)), (.v (.int .i64 0)), (.v (.int .i64 0)), (.v (.int .i64 (avInt (cellAt r16 0)))), (.v (.int .i64 0)), (.v (.int .i64 (avInt (cellAt r16 0)))), (.v (.int .i64 (IntKind.wrap .i64 ((avInt (cellAt r18 0)) + 1)))), (.v (.int .i64 (IntKind.wrap .i64 (9223372036854775807 - (avInt (cellAt r13 0)))))), (.v (.int .i64 (avInt (cellAt r99 0))))])]))
 (none))
 (none))
 ((ev 20 [(.v (.int .i64 a0_6)), (.v (.int .i64 60))]).bind fun r103 =>
 cond (isI .i64 (cellAt r103 0))
 (cond ((avInt (cellAt r103 0)) == 59)
 (some [(.agg [(.v (.int .i64 (IntKind.wrap .i64 ((avInt (cellAt r0 0)) + 1)))), (.v (.int .u32 (IntKind.wrap .u32 ((IntKind.wrap .u32 (avInt (cellAt r3 0))) + 1)))), (.v (.int .u32 (IntKind.wrap .u32 ((IntKind.wrap .u32 ((IntKind.wrap .u32 (avInt (cellAt r3 0))) + 1)) + (IntKind.wrap .u32 (avInt (cellAt r94 0))))))), (.v (.int .i64 0)), (.v (.int .i64 0)), (.v (.int .i64 0)), (.v (.int .i64 (avInt (cellAt r16 0)))), (.v (.int .i64 0)), (.v (.int .i64 (avInt (cellAt r16 0)))), (.v (.int .i64 (IntKind.wrap .i64 ((avInt (cellAt r18 0)) + 1)))), (.v (.int .i64 (IntKind.wrap .i64 (9223372036854775807 - (avInt (cellAt r13 0)))))), (.v (.int .i64 65))])])
 (some [(.agg [(.v (.int .i64 (IntKind.wrap .i64 ((avInt (cellAt r0 0)) + 1)))), (.v (.int .u32 (IntKind.wrap .u32 ((IntKind.wrap .u32 (avInt (cellAt r3 0))) + 1)))), (.v (.int .u32 (IntKind.wrap .u32 ((IntKind.wrap .u32 ((IntKind.wrap .u32 (avInt (cellAt r3 0))) + 1)) + (IntKind.wrap .u32 (avInt (cellAt r94 0))))))), (.v (.int .i64 0)), (.v (.int .i64 0)), (.v (.int .i64 0)), (.v (.int .i64 (avInt (cellAt r16 0)))), (.v (.int .i64 0)), (.v (.int .i64 (avInt (cellAt r16 0)))), (.v (.int .i64 (IntKind.wrap .i64 ((avInt (cellAt r18 0)) + 1)))), (.v (.int .i64 (IntKind.wrap .i64 (9223372036854775807 - (avInt (cellAt r13 0)))))), (.v (.int .i64 0))])]))
 (none)))
 (cond ((IntKind.wrap .i64 ((avInt (cellAt r0 0)) + 1)) == 6)
 ((ev 20 [(.v (.int .i64 a0_6)), (.v (.int .i64 4))]).bind fun r105 =>
 cond (isI .i64 (cellAt r105 0))
 ((ev 20 [(.v (.int .i64 a0_6)), (.v (.int .i64 60))]).bind fun r107 =>
 cond (isI .i64 (cellAt r107 0))
 (cond ((avInt (cellAt r107 0)) == 59)
 (some [(.agg [(.v (.int .i64 (IntKind.wrap .i64 ((avInt (cellAt r0 0)) + 1)))), (.v (.int .u32 (IntKind.wrap .u32 ((IntKind.wrap .u32 (avInt (cellAt r3 0))) + 1)))), (.v (.int .u32 (IntKind.wrap .u32 ((IntKind.wrap .u32 ((IntKind.wrap .u32 (avInt (cellAt r3 0))) + 1)) + (IntKind.wrap .u32 (avInt (cellAt r94 0))))))), (.v (.int .i64 0)), (.v (.int .i64 0)), (.v (.int .i64 0)), (.v (.int .i64 0)), (.v (.int .i64 0)), (.v (.int .i64 (avInt (cellAt r16 0)))), (.v (.int .i64 (IntKind.wrap .i64 ((avInt (cellAt r18 0)) + 1)))), (.v (.int .i64 (IntKind.wrap .i64 (9223372036854775807 - (avInt (cellAt r13 0)))))), (.v (.int .i64 65))])])
 (some [(.agg [(.v (.int .i64 (IntKind.wrap .i64 ((avInt (cellAt r0 0)) + 1)))), (.v (.int .u32 (IntKind.wrap .u32 ((IntKind.wrap .u32 (avInt (cellAt r3 0))) + 1)))), (.v (.int .u32 (IntKind.wrap .u32 ((IntKind.wrap .u32 ((IntKind.wrap .u32 (avInt (cellAt r3 0))) + 1)) + (IntKind.wrap .u32 (avInt (cellAt r94 0))))))), (.v (.int .i64 0)), (.v (.int .i64 0)), (.v (.int .i64 0)), (.v (.int .i64 0)), (.v (.int .i64 0)), (.v (.int .i64 (avInt (cellAt r16 0)))), (.v (.int .i64 (IntKind.wrap .i64 ((avInt (cellAt r18 0)) + 1)))), (.v (.int .i64 (IntKind.wrap .i64 (9223372036854775807 - (avInt (cellAt r13 0)))))), (.v (.int .i64 (avInt (cellAt r105 0))))])]))
 (none))
 (none))
 ((ev 20 [(.v (.int .i64 a0_6)), (.v (.int .i64 60))]).bind fun r109 =>
 cond (isI .i64 (cellAt r109 0))
 (cond ((avInt (cellAt r109 0)) == 59)
 (some [(.agg [(.v (.int .i64 (IntKind.wrap .i64 ((avInt (cellAt r0 0)) + 1)))), (.v (.int .u32 (IntKind.wrap .u32 ((IntKind.wrap .u32 (avInt (cellAt r3 0))) + 1)))), (.v (.int .u32 (IntKind.wrap .u32 ((IntKind.wrap .u32 ((IntKind.wrap .u32 (avInt (cellAt r3 0))) + 1)) + (IntKind.wrap .u32 (avInt (cellAt r94 0))))))), (.v (.int .i64 0)), (.v (.int .i64 0)), (.v (.int .i64 0)), (.v (.int .i64 0)), (.v (.int .i64 0)), (.v (.int .i64 (avInt (cellAt r16 0)))), (.v (.int .i64 (IntKind.wrap .i64 ((avInt (cellAt r18 0)) + 1)))), (.v (.int .i64 (IntKind.wrap .i64 (9223372036854775807 - (avInt (cellAt r13 0)))))), (.v (.int .i64 65))])])
 (some [(.agg [(.v (.int .i64 (IntKind.wrap .i64 ((avInt (cellAt r0 0)) + 1)))), (.v (.int .u32 (IntKind.wrap .u32 ((IntKind.wrap .u32 (avInt (cellAt r3 0))) + 1)))), (.v (.int .u32 (IntKind.wrap .u32 ((IntKind.wrap .u32 ((IntKind.wrap .u32 (avInt (cellAt r3 0))) + 1)) + (IntKind.wrap .u32 (avInt (cellAt r94 0))))))), (.v (.int .i64 0)), (.v (.int .i64 0)), (.v (.int .i64 0)), (.v (.int .i64 0)), (.v (.int .i64 0)), (.v (.int .i64 (avInt (cellAt r16 0)))), (.v (.int .i64 (IntKind.wrap .i64 ((avInt (cellAt r18 0)) + 1)))), (.v (.int .i64 (IntKind.wrap .i64 (9223372036854775807 - (avInt (cellAt r13 0)))))), (.v (.int .i64 0))])]))
 (none))))
 (cond ((IntKind.wrap .i64 ((avInt (cellAt r0 0)) + 1)) == 8)
 (cond ((IntKind.wrap .i64 ((avInt (cellAt r0 0)) + 1)) == 6)
 ((ev 20 [(.v (.int .i64 a0_6)), (.v (.int .i64 4))]).bind fun r111 =>
 cond (isI .i64 (cellAt r111 0))
 ((ev 20 [(.v (.int .i64 a0_6)), (.v (.int .i64 60))]).bind fun r113 =>
 cond (isI .i64 (cellAt r113 0))
 (cond ((avInt (cellAt r113 0)) == 59)
 (some [(.agg [(.v (.int .i64 (IntKind.wrap .i64 ((avInt (cellAt r0 0)) + 1)))), (.v (.int .u32 (IntKind.wrap .u32 ((IntKind.wrap .u32 (avInt (cellAt r3 0))) + 1)))), (.v (.int .u32 (IntKind.wrap .u32 ((IntKind.wrap .u32 ((IntKind.wrap .u32 (avInt (cellAt r3 0))) + 1)) + (IntKind.wrap .u32 (avInt (cellAt r94 0))))))), (.v (.int .i64 0)), (.v (.int .i64 0)), (.v (.int .i64 0)), (.v (.int .i64 (avInt (cellAt r16 0)))), (.v (.int .i64 0)), (.v (.int .i64 0)), (.v (.int .i64 0)), (.v (.int .i64 0)), (.v (.int .i64 65))])])
 (some [(.agg [(.v (.int .i64 (IntKind.wrap .i64 ((avInt (cellAt r0 0)) + 1)))), (.v (.int .u32 (IntKind.wrap .u32 ((IntKind.wrap .u32 (avInt (cellAt r3 0))) + 1)))), (.v (.int .u32 (IntKind.wrap .u32 ((IntKind.wrap .u32 ((IntKind.wrap .u32 (avInt (cellAt r3 0))) + 1)) + (IntKind.wrap .u32 (avInt (cellAt r94 0))))))), (.v (.int .i64 0)), (.v (.int .i64 0)), (.v (.int .i64 0)), (.v (.int .i64 (avInt (cellAt r16 0)))), (.v (.int .i64 0)), (.v (.int .i64 0)), (.v (.int .i64 0)), (.v (.int .i64 0)), (.v (.int .i64 (avInt (cellAt r111 0))))])]))
 (none))
 (none))
 ((ev 20 [(.v (.int .i64 a0_6)), (.v (.int .i64 60))]).bind fun r115 =>
 cond (isI .i64 (cellAt r115 0))
 (cond ((avInt (cellAt r115 0)) == 59)
 (some [(.agg [(.v (.int .i64 (IntKind.wrap .i64 ((avInt (cellAt r0 0)) + 1)))), (.v (.int .u32 (IntKind.wrap .u32 ((IntKind.wrap .u32 (avInt (cellAt r3 0))) + 1)))), (.v (.int .u32 (IntKind.wrap .u32 ((IntKind.wrap .u32 ((IntKind.wrap .u32 (avInt (cellAt r3 0))) + 1)) + (IntKind.wrap .u32 (avInt (cellAt r94 0))))))), (.v (.int .i64 0)), (.v (.int .i64 0)), (.v (.int .i64 0)), (.v (.int .i64 (avInt (cellAt r16 0)))), (.v (.int .i64 0)), (.v (.int .i64 0)), (.v (.int .i64 0)), (.v (.int .i64 0)), (.v (.int .i64 65))])])
 (some [(.agg [(.v (.int .i64 (IntKind.wrap .i64 ((avInt (cellAt r0 0)) + 1)))), (.v (.int .u32 (IntKind.wrap .u32 ((IntKind.wrap .u32 (avInt (cellAt r3 0))) + 1)))), (.v (.int .u32 (IntKind.wrap .u32 ((IntKind.wrap .u32 ((IntKind.wrap .u32 (avInt (cellAt r3 0))) + 1)) + (IntKind.wrap .u32 (avInt (cellAt r94 0))))))), (.v (.int .i64 0)), (.v (.int .i64 0)), (.v (.int .i64 0)), (.v (.int .i64 (avInt (cellAt r16 0)))), (.v (.int .i64 0)), (.v (.int .i64 0)), (.v (.int .i64 0)), (.v (.int .i64 0)), (.v (.int .i64 0))])]))
 (none)))
 (cond ((IntKind.wrap .i64 ((avInt (cellAt r0 0)) + 1)) == 6)
 ((ev 20 [(.v (.int .i64 a0_6)), (.v (.int .i64 4))]).bind fun r117 =>
 cond (isI .i64 (cellAt r117 0))
 ((ev 20 [(.v (.int .i64 a0_6)), (.v (.int .i64 60))]).bind fun r119 =>
 cond (isI .i64 (cellAt r119 0))
 (cond ((avInt (cellAt r119 0)) == 59)
 (some [(.agg [(.v (.int .i64 (IntKind.wrap .i64 ((avInt (cellAt r0 0)) + 1)))), (.v (.int .u32 (IntKind.wrap .u32 ((IntKind.wrap .u32 (avInt (cellAt r3 0))) + 1)))), (.v (.int .u32 (IntKind.wrap .u32 ((IntKind.wrap .u32 ((IntKind.wrap .u32 (avInt (cellAt r3 0))) + 1)) + (IntKind.wrap .u32 (avInt (cellAt r94 0))))))), (.v (.int .i64 0)), (.v (.int .i64 0)), (.v (.int .i64 0)), (.v (.int .i64 0)), (.v (.int .i64 0)), (.v (.int .i64 0)), (.v (.int .i64 0)), (.v (.int .i64 0)), (.v (.int .i64 65))])])
 (some [(.agg [(.v (.int .i64 (IntKind.wrap .i64 ((avInt (cellAt r0 0)) + 1)))), (.v (.int .u32 (IntKind.wrap .u32 ((IntKind.wrap .u32 (avInt (cellAt r3 0))) + 1)))), (.v (.int .u32 (IntKind.wrap .u32 ((IntKind.wrap .u32 ((IntKind.wrap .u32 (avInt (cellAt r3 0))) + 1)) + (IntKind.wrap .u32 (avInt (cellAt r94 0))))))), (.v (.int .i64 0)), (.v (.int .i64 0)), (.v (.int .i64 0)), (.v (.int .i64 0)), (.v (.int .i64 0)), (.v (.int .i64 0)), (.v (.int .i64 0)), (.v (.int .i64 0)), (.v (.int .i64 (avInt (cellAt r117 0))))])]))
 (none))
 (none))
 ((ev 20 [(.v (.int .i64 a0_6)), (.v (.int .i64 60))]).bind fun r121 =>
 cond (isI .i64 (cellAt r121 0))
 (cond ((avInt (cellAt r121 0)) == 59)
 (some [(.agg [(.v (.int .i64 (IntKind.wrap .i64 ((avInt (cellAt r0 0)) + 1)))), (.v (.int .u32 (IntKind.wrap .u32 ((IntKind.wrap .u32 (avInt (cellAt r3 0))) + 1)))), (.v (.int .u32 (IntKind.wrap .u32 ((IntKind.wrap .u32 ((IntKind.wrap .u32 (avInt (cellAt r3 0))) + 1)) + (IntKind.wrap .u32 (avInt (cellAt r94 0))))))), (.v (.int .i64 0)), (.v (.int .i64 0)), (.v (.int .i64 0)), (.v (.int .i64 0)), (.v (.int .i64 0)), (.v (.int .i64 0)), (.v (.int .i64 0)), (.v (.int .i64 0)), (.v (.int .i64 65))])])
 (some [(.agg [(.v (.int .i64 (IntKind.wrap .i64 ((avInt (cellAt r0 0)) + 1)))), (.v (.int .u32 (IntKind.wrap .u32 ((IntKind.wrap .u32 (avInt (cellAt r3 0))) + 1)))), (.v (.int .u32 (IntKind.wrap .u32 ((IntKind.wrap .u32 ((IntKind.wrap .u32 (avInt (cellAt r3 0))) + 1)) + (IntKind.wrap .u32 (avInt (cellAt r94 0))))))), (.v (.int .i64 0)), (.v (.int .i64 0)), (.v (.int .i64 0)), (.v (.int .i64 0)), (.v (.int .i64 0)), (.v (.int .i64 0)), (.v (.int .i64 0)), (.v (.int .i64 0)), (.v (.int .i64 0))])]))
 (none)))))
 (none))
 (cond ((IntKind.wrap .i64 ((avInt (cellAt r0 0)) + 1)) == 9)
 ((ev 20 [(.v (.int .i64 a0_6)), (.v (.int .i64 60))]).bind fun r124 =>
 cond (isI .i64 (cellAt r124 0))
 (cond ((avInt (cellAt r124 0)) == 59)
 (some [(.agg [(.v (.int .i64 (IntKind.wrap .i64 ((avInt (cellAt r0 0)) + 1)))), (.v (.int .u32 (IntKind.wrap .u32 ((IntKind.wrap .u32 (avInt (cellAt r3 0))) + 1)))), (.v (.int .u32 0)), (.v (.int .i64 0)), (.v (.int .i64 0)), (.v (.int .i64 0)), (.v (.int .i64 0)), (.v (.int .i64 0)), (.v (.int .i64 (avInt (cellAt r16 0)))), (.v (.int .i64 (IntKind.wrap .i64 ((avInt (cellAt r18 0)) + 1)))), (.v (.int .i64 (IntKind.wrap .i64 (9223372036854775807 - (avInt (cellAt r13 0)))))), (.v (.int .i64 65))])])
 (some [(.agg [(.v (.int .i64 (IntKind.wrap .i64 ((avInt (cellAt r0 0)) + 1)))), (.v (.int .u32 (IntKind.wrap .u32 ((IntKind.wrap .u32 (avInt (cellAt r3 0))) + 1)))), (.v (.int .u32 0)), (.v (.int .i64 0)), (.v (.int .i64 0)), (.v (.int .i64 0)), (.v (.int .i64 0)), (.v (.int .i64 0)), (.v (.int .i64 (avInt (cellAt r16 0)))), (.v (.int .i64 (IntKind.wrap .i64 ((avInt (cellAt r18 0)) + 1)))), (.v (.int .i64 (IntKind.wrap .i64 (9223372036854775807 - (avInt (cellAt r13 0)))))), (.v (.int .i64 0))])]))
 (none))
 ((ev 20 [(.v (.int .i64 a0_6)), (.v (.int .i64 60))]).bind fun r126 =>
 cond (isI .i64 (cellAt r126 0))
 (cond ((avInt (cellAt r126 0)) == 59)
 (some [(.agg [(.v (.int .i64 (IntKind.wrap .i64 ((avInt (cellAt r0 0)) + 1)))), (.v (.int .u32 (IntKind.wrap .u32 ((IntKind.wrap .u32 (avInt (cellAt r3 0))) + 1)))), (.v (.int .u32 0)), (.v (.int .i64 0)), (.v (.int .i64 0)), (.v (.int .i64 0)), (.v (.int .i64 0)), (.v (.int .i64 0)), (.v (.int .i64 0)), (.v (.int .i64 0)), (.v (.int .i64 0)), (.v (.int .i64 65))])])
 (some [(.agg [(.v (.int .i64 (IntKind.wrap .i64 ((avInt (cellAt r0 0)) + 1)))), (.v (.int .u32 (IntKind.wrap .u32 ((IntKind.wrap .u32 (avInt (cellAt r3 0))) + 1)))), (.v (.int .u32 0)), (.v (.int .i64 0)), (.v (.int .i64 0)), (.v (.int .i64 0)), (.v (.int .i64 0)), (.v (.int .i64 0)), (.v (.int .i64 0)), (.v (.int .i64 0)), (.v (.int .i64 0)), (.v (.int .i64 0))])]))
 (none)))))))))
 (none))
 (none))
 (none))
 ((ev 20 [(.v (.int .i64 a0_4)), (.v (.int .i64 3))]).bind fun r128 =>
 cond (isI .i64 (cellAt r128 0))
 ((ev 20 [(.v (.int .i64 a0_5)), (.v (.int .i64 6))]).bind fun r130 =>
 cond (isI .i64 (cellAt r130 0))
 (cond ((IntKind.wrap .i64 ((avInt (cellAt r0 0)) + 1)) == 1)
 ((ev 20 [(.v (.int .i64 a0_4)), (.v (.int .i64 4))]).bind fun r134 =>
 cond (isI .i64 (cellAt r134 0))
 ((ev 20 [(.v (.int .i64 a0_6)), (.v (.int .i64 60))]).bind fun r137 =>
 cond (isI .i64 (cellAt r137 0))
 (cond ((avInt (cellAt r137 0)) == 59)
 (some [(.agg [(.v (.int .i64 (IntKind.wrap .i64 ((avInt (cellAt r0 0)) + 1)))), (.v (.int .u32 (IntKind.wrap .u32 ((IntKind.wrap .u32 (avInt (cellAt r3 0))) + 1)))), (.v (.int .u32 0)), (.v (.int .i64 (IntKind.wrap .i64 ((avInt (cellAt r7 0)) - 3)))), (.v (.int .i64 (avInt (cellAt r134 0)))), (.v (.int .i64 (IntKind.wrap .i64 (0 - (IntKind.wrap .i64 ((avInt (cellAt r7 0)) - 3)))))), (.v (.int .i64 0)), (.v (.int .i64 0)), (.v (.int .i64 0)), (.v (.int .i64 0)), (.v (.int .i64 0)), (.v (.int .i64 65))])])
 (some [(.agg [(.v (.int .i64 (IntKind.wrap .i64 ((avInt (cellAt r0 0)) + 1)))), (.v (.int .u32 (IntKind.wrap .u32 ((IntKind.wrap .u32 (avInt (cellAt r3 0))) + 1)))), (.v (.int .u32 0)), (.v (.int .i64 (IntKind.wrap .i64 ((avInt (cellAt r7 0)) - 3)))), (.v (.int .i64 (avInt (cellAt r134 0)))), (.v (.int .i64 (IntKind.wrap .i64 (0 - (IntKind.wrap .i64 ((avInt (cellAt r7 0)) - 3)))))), (.v (.int .i64 0)), (.v (.int .i64 0)), (.v (.int .i64 0)), (.v (.int .i64 0)), (.v (.int .i64 0)), (.v (.int .i64 0))])]))
 (none))
 (none))
 (cond ((IntKind.wrap .i64 ((avInt (cellAt r0 0)) + 1)) == 2)
 ((ev 20 [(.v (.int .i64 a0_6)), (.v (.int .i64 60))]).bind fun r140 =>
 cond (isI .i64 (cellAt r140 0))
 (cond ((avInt (cellAt r140 0)) == 59)
 (some [(.agg [(.v (.int .i64 (IntKind.wrap .i64 ((avInt (cellAt r0 0)) + 1)))), (.v (.int .u32 (IntKind.wrap .u32 ((IntKind.wrap .u32 (avInt (cellAt r3 0))) + 1)))), (.v (.int .u32 0)), (.v (.int .i64 0)), (.v (.int .i64 0)), (.v (.int .i64 0)), (.v (.int .i64 (avInt (cellAt r128 0)))), (.v (.int .i64 (IntKind.wrap .i64 ((avInt (cellAt r7 0)) - 3)))), (.v (.int .i64 0)), (.v (.int .i64 0)), (.v (.int .i64 0)), (.v (.int .i64 65))])])
 (some [(.agg [(.v (.int .i64 (IntKind.wrap .i64 ((avInt (cellAt r0 0)) + 1)))), (.v (.int .u32 (IntKind.wrap .u32 ((IntKind.wrap .u32 (avInt (cellAt r3 0))) + 1)))), (.v (.int .u32 0)), (.v (.int .i64 0)), (.v (.int .i64 0)), (.v (.int .i64 0)), (.v (.int .i64 (avInt (cellAt r128 0)))), (.v (.int .i64 (IntKind.wrap .i64 ((avInt (cellAt r7 0)) - 3)))), (.v (.int .i64 0)), (.v (.int .i64 0)), (.v (.int .i64 0)), (.v (.int .i64 0))])]))
 (none))
 (cond ((IntKind.wrap .i64 ((avInt (cellAt r0 0)) + 1)) == 3)
 ((ev 20 [(.v (.int .i64 a0_6)), (.v (.int .i64 60))]).bind fun r143 =>
 cond (isI .i64 (cellAt r143 0))
 (cond ((avInt (cellAt r143 0)) == 59)
 (some [(.agg [(.v (.int .i64 (IntKind.wrap .i64 ((avInt (cellAt r0 0)) + 1)))), (.v (.int .u32 (IntKind.wrap .u32 ((IntKind.wrap .u32 (avInt (cellAt r3 0))) + 1)))), (.v (.int .u32 0)), (.v (.int .i64 0)), (.v (.int .i64 0)), (.v (.int .i64 0)), (.v (.int .i64 (avInt (cellAt r128 0)))), (.v (.int .i64 (IntKind.wrap .i64 ((avInt (cellAt r7 0)) - 3)))), (.v (.int .i64 0)), (.v (.int .i64 0)), (.v (.int .i64 0)), (.v (.int .i64 65))])])
 (some [(.agg [(.v (.int .i64 (IntKind.wrap .i64 ((avInt (cellAt r0 0)) + 1)))), (.v (.int .u32 (IntKind.wrap .u32 ((IntKind.wrap .u32 (avInt (cellAt r3 0))) + 1)))), (.v (.int .u32 0)), (.v (.int .i64 0)), (.v (.int .i64 0)), (.v (.int .i64 0)), (.v (.int .i64 (avInt (cellAt r128 0)))), (.v (.int .i64 (IntKind.wrap .i64 ((avInt (cellAt r7 0)) - 3)))), (.v (.int .i64 0)), (.v (.int .i64 0)), (.v (.int .i64 0)), (.v (.int .i64 0))])]))
 (none))
 (cond ((IntKind.wrap .i64 ((avInt (cellAt r0 0)) + 1)) == 6)
 ((ev 20 [(.v (.int .i64 a0_2)), (.v (.int .i64 5))]).bind fun r146 =>
 cond (isI .i64 (cellAt r146 0))
 (cond ((Int.tmod a0_5 2) == 0)
 (cond ((IntKind.wrap .i64 ((avInt (cellAt r0 0)) + 1)) == 8)
 (cond ((IntKind.wrap .i64 ((avInt (cellAt r0 0)) + 1)) == 6)
 ((ev 20 [(.v (.int .i64 a0_6)), (.v (.int .i64 4))]).bind fun r151 =>
 cond (isI .i64 (cellAt r151 0))
 ((ev 20 [(.v (.int .i64 a0_6)), (.v (.int .i64 60))]).bind fun r153 =>
 cond (isI .i64 (cellAt r153 0))
 (cond ((avInt (cellAt r153 0)) == 59)
 (some [(.agg [(.v (.int .i64 (IntKind.wrap .i64 ((avInt (cellAt r0 0)) + 1)))), (.v (.int .u32 (IntKind.wrap .u32 ((IntKind.wrap .u32 (avInt (cellAt r3 0))) + 1)))), (.v (.int .u32 (IntKind.wrap .u32 ((IntKind.wrap .u32 ((IntKind.wrap .u32 (avInt (cellAt r3 0))) + 1)) + (IntKind.wrap .u32 (avInt (cellAt r146 0))))))), (.v (.int .i64 0)), (.v (.int .i64 0)), (.v (.int .i64 0)), (.v (.int .i64 (avInt (cellAt r128 0)))), (.v (.int .i64 0)), (.v (.int .i64 (avInt (cellAt r128 0)))), (.v (.int .i64 (IntKind.wrap .i64 ((avInt (cellAt r130 0)) + 1)))), (.v (.int .i64 (IntKind.wrap .i64 ((avInt (cellAt r7 0)) - 3)))), (.v (.int .i64 65))])])
 (some [(.agg [(.v (.int .i64 (IntKind.wrap .i64 ((avInt (cellAt r0 0)) + 1)))), (.v (.int .u32 (IntKind.wrap .u32 ((IntKind.wrap .u32 (avInt (cellAt r3 0))) + 1)))), (.v (.int .u32 (IntKind.wrap .u32 ((IntKind.wrap .u32 ((IntKind.wrap .u32 (avInt (cellAt r3 0))) + 1)) + (IntKind.wrap .u32 (avInt (cellAt r146 0))))))), (.v (.int .i64 0)), (.v (.int .i64 0)), (.v (.int .i64 0)), (.v (.int .i64 (avInt (cellAt r128 0)))), (.v (.int .i64 0)), (.v (.int .i64 (avInt (cellAt r128 0)))), (.v (.int .i64 (IntKind.wrap .i64 ((avInt (cellAt r130 0)) + 1)))), (.v (.int .i64 (IntKind.wrap .i64 ((avInt (cellAt r7 0)) - 3)))), (.v (.int .i64 (avInt (cellAt r151 0))))])]))
 (none))
 (none))
 ((ev 20 [(.v (.int .i64 a0_6)), (.v (.int .i64 60))]).bind fun r155 =>
 cond (isI .i64 (cellAt r155 0))
 (cond ((avInt (cellAt r155 0)) == 59)
 (some [(.agg [(.v (.int .i64 (IntKind.wrap .i64 ((avInt (cellAt r0 0)) + 1)))), (.v (.int .u32 (IntKind.wrap .u32 ((IntKind.wrap .u32 (avInt (cellAt r3 0))) + 1)))), (.v (.int .u32 (IntKind.wrap .u32 ((IntKind.wrap .u32 ((IntKind.wrap .u32 (avInt (cellAt r3 0))) + 1)) + (IntKind.wrap .u32 (avInt (cellAt r146 0))))))), (.v (.int .i64 0)), (.v (.int .i64 0)), (.v (.int .i64 0)), (.v (.int .i64 (avInt (cellAt r128 0)))), (.v (.int .i64 0)), (.v (.int .i64 (avInt (cellAt r128 0)))), (.v (.int .i64 (IntKind.wrap .i64 ((avInt (cellAt r130 0)) + 1)))), (.v (.int .i64 (IntKind.wrap .i64 ((avInt (cellAt r7 0)) - 3)))), (.v (.int .i64 65))])])
 (some [(.agg [(.v (.int .i64 (IntKind.wrap .i64 ((avInt (cellAt r0 0)) + 1)))), (.v (.int .u32 (IntKind.wrap .u32 ((IntKind.wrap .u32 (avInt (cellAt r3 0))) + 1)))), (.v (.int .u32 (IntKind.wrap .u32 ((IntKind.wrap .u32 ((IntKind.wrap .u32 (avInt (cellAt r3 0))) + 1)) + (IntKind.wrap .u32 (avInt (cellAt r146 0))))))), (.v (.int .i64 0)), (.v (.int .i64 0)), (.v (.int .i64 0)), (.v (.int .i64 (avInt (cellAt r128 0)))), (.v (.int .i64 0)), (.v (.int .i64 (avInt (cellAt r128 0)))), (.v (.int .i64 (IntKind.wrap .i64 ((avInt (cellAt r130 0)) + 1)))), (.v (.int .i64 (IntKind.wrap .i64 ((avInt (cellAt r7 0)) - 3)))), (.v (.int .i64 0))])]))
 (none)))
 (cond ((IntKind.wrap .i64 ((avInt (cellAt r0 0)) + 1)) == 6)
 ((ev 20 [(.v (.int .i64 a0_6)), (.v (.int .i64 4))]).bind fun r157 =>
 cond (isI .i64 (cellAt r157 0))
 ((ev 20 [(.v (.int .i64 a0_6)), (.v (.int .i64 60))]).bind fun r159 =>
 cond (isI .i64 (cellAt r159 0))
 (cond ((avInt (cellAt r159 0)) == 59)
 (some [(.agg [(.v (.int .i64 (IntKind.wrap .i64 ((avInt (cellAt r0 0)) + 1)))), (.v (.int .u32 (IntKind.wrap .u32 ((IntKind.wrap .u32 (avInt (cellAt r3 0))) + 1)))), (.v (.int .u32 (IntKind.wrap .u32 ((IntKind.wrap .u32 ((IntKind.wrap .u32 (avInt (cellAt r3 0))) + 1)) + (IntKind.wrap .u32 (avInt (cellAt r146 0))))))), (.v (.int .i64 0)), (.v (.int .i64 0)), (.v (.int .i64 0)), (.v (.int .i64 0)), (.v (.int .i64 0)), (.v (.int .i64 (avInt (cellAt r128 0)))), (.v (.int .i64 (IntKind.wrap .i64 ((avInt (cellAt r130 0)) + 1)))), (.v (.int .i64 (IntKind.wrap .i64 ((avInt (cellAt r7 0)) - 3)))), (.v (.int .i64 65))])])
 (some [(.agg [(.v (.int .i64 (IntKind.wrap .i64 ((avInt (cellAt r0 0)) + 1)))), (.v (.int .u32 (IntKind.wrap .u32 ((IntKind.wrap .u32 (avInt (cellAt r3 0))) + 1)))), (.v (.int .u32 (IntKind.wrap .u32 ((IntKind.wrap .u32 ((IntKind.wrap .u32 (avInt (cellAt r3 0))) + 1)) + (IntKind.wrap .u32 (avInt (cellAt r146 0))))))), (.v (.int .i64 0)), (.v (.int .i64 0)), (.v (.int .i64 0)), (.v (.int .i64 0)), (.v (.int .i64 0)), (.v (.int .i64 (avInt (cellAt r128 0)))), (.v (.int .i64 (IntKind.wrap .i64 ((avInt (cellAt r130 0)) + 1)))), (.v (.int .i64 (IntKind.wrap .i64 ((avInt (cellAt r7 0)) - 3)))), (.v (.int .i64 (avInt (cellAt r157 0))))])]))
 (none))
 (none))
 ((ev 20 [(.v (.int .i64 a0_6)), (.v (.int .i64 60))]).bind fun r161 =>
 cond (isI .i64 (cellAt r161 0))
 (cond ((avInt (cellAt r161 0)) == 59)
 (some [(.agg [(.v (.int .i64 (IntKind.wrap .i64 ((avInt (cellAt r0 0)) + 1)))), (.v (.int .u32 (IntKind.wrap .u32 ((IntKind.wrap .u32 (avInt (cellAt r3 0))) + 1)))), (.v (.int .u32 (IntKind.wrap .u32 ((IntKind.wrap .u32 ((IntKind.wrap .u32 (avInt (cellAt r3 0))) + 1)) + (IntKind.wrap .u32 (avInt (cellAt r146 0))))))), (.v (.int .i64 0)), (.v (.int .i64 0)), (.v (.int .i64 0)), (.v (.int .i64 0)), (.v (.int .i64 0)), (.v (.int .i64 (avInt (cellAt r128 0)))), (.v (.int .i64 (IntKind.wrap .i64 ((avInt (cellAt r130 0)) + 1)))), (.v (.int .i64 (IntKind.wrap .i64 ((avInt (cellAt r7 0)) - 3)))), (.v (.int .i64 65))])])
 (some [(.agg [(.v (.int .i64 (IntKind.wrap .i64 ((avInt (cellAt r0 0)) + 1)))), (.v (.int .u32 (IntKind.wrap .u32 ((IntKind.wrap .u32 (avInt (cellAt r3 0))) + 1)))), (.v (.int .u32 (IntKind.wrap .u32 ((IntKind.wrap .u32 ((IntKind.wrap .u32 (avInt (cellAt r3 0))) + 1)) + (IntKind.wrap .u32 (avInt (cellAt r146 0))))))), (.v (.int .i64 0)), (.v (.int .i64 0)), (.v (.int .i64 0)), (.v (.int .i64 0)), (.v (.int .i64 0)), (.v (.int .i64 (avInt (cellAt r128 0)))), (.v (.int .i64 (IntKind.wrap .i64 ((avInt (cellAt r130 0)) + 1)))), (.v (.int .i64 (IntKind.wrap .i64 ((avInt (cellAt r7 0)) - 3)))), (.v (.int .i64 0))])]))
 (none))))
 (cond ((IntKind.wrap .i64 ((avInt (cellAt r0 0)) + 1)) == 8)
 (cond ((IntKind.wrap .i64 ((avInt (cellAt r0 0)) + 1)) == 6)
 ((ev 20 [(.v (.int .i64 a0_6)), (.v (.int .i64 4))]).bind fun r163 =>
 cond (isI .i64 (cellAt r163 0))
 ((ev 20 [(.v (.int .i64 a0_6)), (.v (.int .i64 60))]).bind fun r165 =>
 cond (isI .i64 (cellAt r165 0))
 (cond ((avInt (cellAt r165 0)) == 59)
 (some [(.agg [(.v (.int .i64 (IntKind.wrap .i64 ((avInt (cellAt r0 0)) + 1)))), (.v (.int .u32 (IntKind.wrap .u32 ((IntKind.wrap .u32 (avInt (cellAt r3 0))) + 1)))), (.v (.int .u32 (IntKind.wrap .u32 ((IntKind.wrap .u32 ((IntKind.wrap .u32 (avInt (cellAt r3 0))) + 1)) + (IntKind.wrap .u32 (avInt (cellAt r146 0))))))), (.v (.int .i64 0)), (.v (.int .i64 0)), (.v (.int .i64 0)), (.v (.int .i64 (avInt (cellAt r128 0)))), (.v (.int .i64 0)), (.v (.int .i64 0)), (.v (.int .i64 0)), (.v (.int .i64 0)), (.v (.int .i64 65))])])
 (some [(.agg [(.v (.int .i64 (IntKind.wrap .i64 ((avInt (cellAt r0 0)) + 1)))), (.v (.int .u32 (IntKind.wrap .u32 ((IntKind.wrap .u32 (avInt (cellAt r3 0))) + 1)))), (.v (.int .u32 (IntKind.wrap .u32 ((IntKind.wrap .u32 ((IntKind.wrap .u32 (avInt (cellAt r3 0))) + 1)) + (IntKind.wrap .u32 (avInt (cellAt r146 0))))))), (.v (.int .i64 0)), (.v (.int .i64 0)), (.v (.int .i64 0)), (.v (.int .i64 (avInt (cellAt r128 0)))), (.v (.int .i64 0)), (.v (.int .i64 0)), (.v (.int .i64 0)), (.v (.int .i64 0)), (.v (.int .i64 (avInt (cellAt r163 0))))])]))
 (none))
 (none))
 ((ev 20 [(.v (.int .i64 a0_6)), (.v (.int .i64 60))]).bind fun r167 =>
 cond (isI .i64 (cellAt r167 0))
 (cond ((avInt (cellAt r167 0)) == 59)
 (some [(.agg [(.v (.int .i64 (IntKind.wrap .i64 ((avInt (cellAt r0 0)) + 1)))), (.v (.int .u32 (IntKind.wrap .u32 ((IntKind.wrap .u32 (avInt (cellAt r3 0))) + 1)))), (.v (.int .u32 (IntKind.wrap .u32 ((IntKind.wrap .u32 ((IntKind.wrap .u32 (avInt (cellAt r3 0))) + 1)) + (IntKind.wrap .u32 (avInt (cellAt r146 0))))))), (.v (.int .i64 0)), (.v (.int .i64 0)), (.v (.int .i64 0)), (.v (.int .i64 (avInt (cellAt r128 0)))), (.v (.int .i64 0)), (.v (.int .i64 0)), (.v (.int .i64 0)), (.v (.int .i64 0)), (.v (.int .i64 65))])])
 (some [(.agg [(.v (.int .i64 (IntKind.wrap .i64 ((avInt (cellAt r0 0)) + 1)))), (.v (.int .u32 (IntKind.wrap .u32 ((IntKind.wrap .u32 (avInt (cellAt r3 0))) + 1)))), (.v (.int .u32 (IntKind.wrap .u32 ((IntKind.wrap .u32 ((IntKind.wrap .u32 (avInt (cellAt r3 0))) + 1)) + (IntKind.wrap .u32 (avInt (cellAt r146 0))))))), (.v (.int .i64 0)), (.v (.int .i64 0)), (.v (.int .i64 0)), (.v (.int .i64 (avInt (cellAt r128 0)))), (.v (.int .i64 0)), (.v (.int .i64 0)), (.v (.int .i64 0)), (.v (.int .i64 0)), (.v (.int .i64 0))])]))
 (none)))
 (cond ((IntKind.wrap .i64 ((avInt (cellAt r0 0)) + 1)) == 6)
 ((ev 20 [(.v (.int .i64 a0_6)), (.v (.int .i64 4))]).bind fun r169 =>
 cond (isI .i64 (cellAt r169 0))
 ((ev 20 [(.v (.int .i64 a0_6)), (.v (.int .i64 60))]).bind fun r171 =>
 cond (isI .i64 (cellAt r171 0))
 (cond ((avInt (cellAt r171 0)) == 59)
 (some [(.agg [(.v (.int .i64 (IntKind.wrap .i64 ((avInt (cellAt r0 0)) + 1)))), (.v (.int .u32 (IntKind.wrap .u32 ((IntKind.wrap .u32 (avInt (cellAt r3 0))) + 1)))), (.v (.int .u32 (IntKind.wrap .u32 ((IntKind.wrap .u32 ((IntKind.wrap .u32 (avInt (cellAt r3 0))) + 1)) + (IntKind.wrap .u32 (avInt (cellAt r146 0))))))), (.v (.int .i64 0)), (.v (.int .i64 0)), (.v (.int .i64 0)), (.v (.int .i64 0)), (.v (.int .i64 0)), (.v (.int .i64 0)), (.v (.int .i64 0)), (.v (.int .i64 0)), (.v (.int .i64 65))])])
 (some [(.agg [(.v (.int .i64 (IntKind.wrap .i64 ((avInt (cellAt r0 0)) + 1)))), (.v (.int .u32 (IntKind.wrap .u32 ((IntKind.wrap .u32 (avInt (cellAt r3 0))) + 1)))), (.v (.int .u32 (IntKind.wrap .u32 ((IntKind.wrap .u32 ((IntKind.wrap .u32 (avInt (cellAt r3 0))) + 1)) + (IntKind.wrap .u32 (avInt (cellAt r146 0))))))), (.v (.int .i64 0)), (.v (.int .i64 0)), (.v (.int .i64 0)), (.v (.int .i64 0)), (.v (.int .i64 0)), (.v (.int .i64 0)), (.v (.int .i64 0)), (.v (.int .i64 0)), (.v (.int .i64 (avInt (cellAt r169 0))))])]))
 (none))
 (none))
 ((ev 20 [(.v (.int .i64 a0_6)), (.v (.int .i64 60))]).bind fun r173 =>
 cond (isI .i64 (cellAt r173 0))
 (cond ((avInt (cellAt r173 0)) == 59)
 (some [(.agg [(.v (.int .i64 (IntKind.wrap .i64 ((avInt (cellAt r0 0)) + 1)))), (.v (.int .u32 (IntKind.wrap .u32 ((IntKind.wrap .u32 (avInt (cellAt r3 0))) + 1)))), (.v (.int .u32 (IntKind.wrap .u32 ((IntKind.wrap .u32 ((IntKind.wrap .u32 (avInt (cellAt r3 0))) + 1)) + (IntKind.wrap .u32 (avInt (cellAt r146 0))))))), (.v (.int .i64 0)), (.v (.int .i64 0)), (.v (.int .i64 0)), (.v (.int .i64 0)), (.v (.int .i64 0)), (.v (.int .i64 0)), (.v (.int .i64 0)), (.v (.int .i64 0)), (.v (.int .i64 65))])])
 (some [(.agg [(.v (.int .i64 (IntKind.wrap .i64 ((avInt (cellAt r0 0)) + 1)))), (.v (.int .u32 (IntKind.wrap .u32 ((IntKind.wrap .u32 (avInt (cellAt r3 0))) + 1)))), (.v (.int .u32 (IntKind.wrap .u32 ((IntKind.wrap .u32 ((IntKind.wrap .u32 (avInt (cellAt r3 0))) + 1)) + (IntKind.wrap .u32 (avInt (cellAt r146 0))))))), (.v (.int .i64 0)), (.v (.int .i64 0)), (.v (.int .i64 0)), (.v (.int .i64 0)), (.v (.int .i64 0)), (.v (.int .i64 0)), (.v (.int .i64 0)), (.v (.int .i64 0)), (.v (.int .i64 0))])]))
 (none)))))
 (none))
 (cond ((IntKind.wrap .i64 ((avInt (cellAt r0 0)) + 1)) == 7)
 ((ev 20 [(.v (.int .i64 a0_2)), (.v (.int .i64 5))]).bind fun r176 =>
 cond (isI .i64 (cellAt r176 0))
 (cond ((Int.tmod a0_5 2) == 0)
 (cond ((IntKind.wrap .i64 ((avInt (cellAt r0 0)) + 1)) == 8)
 (cond ((IntKind.wrap .i64 ((avInt (cellAt r0 0)) + 1)) == 6)
 ((ev 20 [(.v (.int .i64 a0_6)), (.v (.int .i64 4))]).bind fun r181 =>
 cond (isI .i64 (cellAt r181 0))
 ((ev 20 [(.v (.int .i64 a0_6)), (.v (.int .i64 60))]).bind fun r183 =>
 cond (isI .i64 (cellAt r183 0))
 (cond ((avInt (cellAt r183 0)) == 59)
 (some [(.agg [(.v (.int .i64 (IntKind.wrap .i64 ((avInt (cellAt r0 0)) + 1)))), (.v (.int .u32 (IntKind.wrap .u32 ((IntKind.wrap .u32 (avInt (cellAt r3 0))) + 1)))), (.v (.int .u32 (IntKind.wrap .u32 ((IntKind.wrap .u32 ((IntKind.wrap .u32 (avInt (cellAt r3 0))) + 1)) + (IntKind.wrap .u32 (avInt (cellAt r176 0))))))), (.v (.int .i64 0)), (.v (.int .i64 0)), (.v (.int .i64 0)), (.v (.int .i64 (avInt (cellAt r128 0)))), (.v (.int .i64 0)), (.v (.int .i64 (avInt (cellAt r128 0)))), (.v (.int .i64 (IntKind.wrap .i64 ((avInt (cellAt r130 0)) + 1)))), (.v (.int .i64 (IntKind.wrap .i64 ((avInt (cellAt r7 0)) - 3)))), (.v (.int .i64 65))])])
 (some [(.agg [(.v (.int .i64 (IntKind.wrap .i64 ((avInt (cellAt r0 0)) + 1)))), (.v (.int .u32 (IntKind.wrap .u32 ((IntKind.wrap .u32 (avInt (cellAt r3 0))) + 1)))), (.v (.int .u32 (IntKind.wrap .u32 ((IntKind.wrap .u32 ((IntKind.wrap .u32 (avInt (cellAt r3 0))) + 1)) + (IntKind.wrap .u32 (avInt (cellAt r176 0))))))), (.v (.int .i64 0)), (.v (.int .i64 0)), (.v (.int .i64 0)), (.v (.int .i64 (avInt (cellAt r128 0)))), (.v (.int .i64 0)), (.v (.int .i64 (avInt (cellAt r128 0)))), (.v (.int .i64 (IntKind.wrap .i64 ((avInt (cellAt r130 0)) + 1)))), (.v (.int .i64 (IntKind.wrap .i64 ((avInt (cellAt r7 0)) - 3)))), (.v (.int .i64 (avInt (cellAt r181 0))))])]))
 (none))
 (none))
 ((ev 20 [(.v (.int .i64 a0_6)), (.v (.int .i64 60))]).bind fun r185 =>
 cond (isI .i64 (cellAt r185 0))
 (cond ((avInt (cellAt r185 0)) == 59)
 (some [(.agg [(.v (.int .i64 (IntKind.wrap .i64 ((avInt (cellAt r0 0)) + 1)))), (.v (.int .u32 (IntKind.wrap .u32 ((IntKind.wrap .u32 (avInt (cellAt r3 0))) + 1)))), (.v (.int .u32 (IntKind.wrap .u32 ((IntKind.wrap .u32 ((IntKind.wrap .u32 (avInt (cellAt r3 0))) + 1)) + (IntKind.wrap .u32 (avInt (cellAt r176 0))))))), (.v (.int .i64 0)), (.v (.int .i64 0)), (.v (.int .i64 0)), (.v (.int .i64 (avInt (cellAt r128 0)))), (.v (.int .i64 0)), (.v (.int .i64 (avInt (cellAt r128 0)))), (.v (.int .i64 (IntKind.wrap .i64 ((avInt (cellAt r130 0)) + 1)))), (.v (.int .i64 (IntKind.wrap .i64 ((avInt (cellAt r7 0)) - 3)))), (.v (.int .i64 65))])])
 (some [(.agg [(.v (.int .i64 (IntKind.wrap .i64 ((avInt (cellAt r0 0)) + 1)))), (.v (.int .u32 (IntKind.wrap .u32 ((IntKind.wrap .u32 (avInt (cellAt r3 0))) + 1)))), (.v (.int .u32 (IntKind.wrap .u32 ((IntKind.wrap .u32 ((IntKind.wrap .u32 (avInt (cellAt r3 0))) + 1)) + (IntKind.wrap .u32 (avInt (cellAt r176 0))))))), (.v (.int .i64 0)), (.v (.int .i64 0)), (.v (.int .i64 0)), (.v (.int .i64 (avInt (cellAt r128 0)))), (.v (.int .i64 0)), (.v (.int .i64 (avInt (cellAt r128 0)))), (.v (.int .i64 (IntKind.wrap .i64 ((avInt (cellAt r130 0)) + 1)))), (.v (.int .i64 (IntKind.wrap .i64 ((avInt (cellAt r7 0)) - 3)))), (.v (.int .i64 0))])]))
 (none)))
 (cond ((IntKind.wrap .i64 ((avInt (cellAt r0 0)) + 1)) == 6)
 ((ev 20 [(.v (.int .i64 a0_6)), (.v (.int .i64 4))]).bind fun r187 =>
 cond (isI .i64 (cellAt r187 0))
 ((ev 20 [(.v (.int .i64 a0_6)), (.v (.int .i64 60))]).bind fun r189 =>
 cond (isI .i64 (cellAt r189 0))
 (cond ((avInt (cellAt r189 0)) == 59)
 (some [(.agg [(.v (.int .i64 (IntKind.wrap .i64 ((avInt (cellAt r0 0)) + 1)))), (.v (.int .u32 (IntKind.wrap .u32 ((IntKind.wrap .u32 (avInt (cellAt r3 0))) + 1)))), (.v (.int .u32 (IntKind.wrap .u32 ((IntKind.wrap .u32 ((IntKind.wrap .u32 (avInt (cellAt r3 0))) + 1)) + (IntKind.wrap .u32 (avInt (cellAt r176 0))))))), (.v (.int .i64 0)), (.v (.int .i64 0)), (.v (.int .i64 0)), (.v (.int .i64 0)), (.v (.int .i64 0)), (.v (.int .i64 (avInt (cellAt r128 0)))), (.v (.int .i64 (IntKind.wrap .i64 ((avInt (cellAt r130 0)) + 1)))), (.v (.int .i64 (IntKind.wrap .i64 ((avInt (cellAt r7 0)) - 3)))), (.v (.int .i64 65))])])
 (some [(.agg [(.v (.int .i64 (IntKind.wrap .i64 ((avInt (cellAt r0 0)) + 1)))), (.v (.int .u32 (IntKind.wrap .u32 ((IntKind.wrap .u32 (avInt (cellAt r3 0))) + 1)))), (.v (.int .u32 (IntKind.wrap .u32 ((IntKind.wrap .u32 ((IntKind.wrap .u32 (avInt (cellAt r3 0))) + 1)) + (IntKind.wrap .u32 (avInt (cellAt r176 0))))))), (.v (.int .i64 0)), (.v (.int .i64 0)), (.v (.int .i64 0)), (.v (.int .i64 0)), (.v (.int .i64 0)), (.v (.int .i64 (avInt (cellAt r128 0)))), (.v (.int .i64 (IntKind.wrap .i64 ((avInt (cellAt r130 0)) + 1)))), (.v (.int .i64 (IntKind.wrap .i64 ((avInt (cellAt r7 0)) - 3)))), (.v (.int .i64 (avInt (cellAt r187 0))))])]))
 (none))
 (none))
 ((ev 20 [(.v (.int .i64 a0_6)), (.v (.int .i64 60))]).bind fun r191 =>
 cond (isI .i64 (cellAt r191 0))
 (cond ((avInt (cellAt r191 0)) == 59)
 (some [(.agg [(.v (.int .i64 (IntKind.wrap .i64 ((avInt (cellAt r0 0)) + 1)))), (.v (.int .u32 (IntKind.wrap .u32 ((IntKind.wrap .u32 (avInt (cellAt r3 0))) + 1)))), (.v (.int .u32 (IntKind.wrap .u32 ((IntKind.wrap .u32 ((IntKind.wrap .u32 (avInt (cellAt r3 0))) + 1)) + (IntKind.wrap .u32 (avInt (cellAt r176 0))))))), (.v (.int .i64 0)), (.v (.int .i64 0)), (.v (.int .i64 0)), (.v (.int .i64 0)), (.v (.int .i64 0)), (.v (.int .i64 (avInt (cellAt r128 0)))), (.v (.int .i64 (IntKind.wrap .i64 ((avInt (cellAt r130 0)) + 1)))), (.v (.int .i64 (IntKind.wrap .i64 ((avInt (cellAt r7 0)) - 3)))), (.v (.int .i64 65))])])
 (some [(.agg [(.v (.int .i64 (IntKind.wrap .i64 ((avInt (cellAt r0 0)) + 1)))), (.v (.int .u32 (IntKind.wrap .u32 ((IntKind.wrap .u32 (avInt (cellAt r3 0))) + 1)))), (.v (.int .u32 (IntKind.wrap .u32 ((IntKind.wrap .u32 ((IntKind.wrap .u32 (avInt (cellAt r3 0))) + 1)) + (IntKind.wrap .u32 (avInt (cellAt r176 0))))))), (.v (.int .i64 0)), (.v (.int .i64 0)), (.v (.int .i64 0)), (.v (.int .i64 0)), (.v (.int .i64 0)), (.v (.int .i64 (avInt (cellAt r128 0)))), (.v (.int .i64 (IntKind.wrap .i64 ((avInt (cellAt r130 0)) + 1)))), (.v (.int .i64 (IntKind.wrap .i64 ((avInt (cellAt r7 0)) - 3)))), (.v (.int .i64 0))])]))
 (none))))
 (cond ((IntKind.wrap .i64 ((avInt (cellAt r0 0)) + 1)) == 8)
 (cond ((IntKind.wrap .i64 ((avInt (cellAt r0 0)) + 1)) == 6)
 ((ev 20 [(.v (.int .i64 a0_6)), (.v (.int .i64 4))]).bind fun r193 =>
 cond (isI .i64 (cellAt r193 0))
 ((ev 20 [(.v (.int .i64 a0_6)), (.v (.int .i64 60))]).bind fun r195 =>
 cond (isI .i64 (cellAt r195 0))
 (cond ((avInt (cellAt r195 0)) == 59)
 (some [(.agg [(.v (.int .i64 (IntKind.wrap .i64 ((avInt (cellAt r0 0)) + 1)))), (.v (.int .u32 (IntKind.wrap .u32 ((IntKind.wrap .u32 (avInt (cellAt r3 0))) + 1)))), (.v (.int .u32 (IntKind.wrap .u32 ((IntKind.wrap .u32 ((IntKind.wrap .u32 (avInt (cellAt r3 0))) + 1)) + (IntKind.wrap .u32 (avInt (cellAt r176 0))))))), (.v (.int .i64 0)), (.v (.int .i64 0)), (.v (.int .i64 0)), (.v (.int .i64 (avInt (cellAt r128 0)))), (.v (.int .i64 0)), (.v (.int .i64 0)), (.v (.int .i64 0)), (.v (.int .i64 0)), (.v (.int .i64 65))])])
 (some [(.agg [(.v (.int .i64 (IntKind.wrap .i64 ((avInt (cellAt r0 0)) + 1)))), (.v (.int .u32 (IntKind.wrap .u32 ((IntKind.wrap .u32 (avInt (cellAt r3 0))) + 1)))), (.v (.int .u32 (IntKind.wrap .u32 ((IntKind.wrap .u32 ((IntKind.wrap .u32 (avInt (cellAt r3 0))) + 1)) + (IntKind.wrap .u32 (avInt (cellAt r176 0))))))), (.v (.int .i64 0)), (.v (.int .i64 0)), (.v (.int .i64 0)), (.v (.int .i64 (avInt (cellAt r128 0)))), (.v (.int .i64 0)), (.v (.int .i64 0)), (.v (.int .i64 0)), (.v (.int .i64 0)), (.v (.int .i64 (avInt (cellAt r193 0))))])]))
 (none))
 (none))
 ((ev 20 [(.v (.int .i64 a0_6)), (.v (.int .i64 60))]).bind fun r197 =>
 cond (isI .i64 (cellAt r197 0))
 (cond ((avInt (cellAt r197 0)) == 59)
 (some [(.agg [(.v (.int .i64 (IntKind.wrap .i64 ((avInt (cellAt r0 0)) + 1)))), (.v (.int .u32 (IntKind.wrap .u32 ((IntKind.wrap .u32 (avInt (cellAt r3 0))) + 1)))), (.v (.int .u32 (IntKind.wrap .u32 ((IntKind.wrap .u32 ((IntKind.wrap .u32 (avInt (cellAt r3 0))) + 1)) + (IntKind.wrap .u32 (avInt (cellAt r176 0))))))), (.v (.int .i64 0)), (.v (.int .i64 0)), (.v (.int .i64 0)), (.v (.int .i64 (avInt (cellAt r128 0)))), (.v (.int .i64 0)), (.v (.int .i64 0)), (.v (.int .i64 0)), (.v (.int .i64 0)), (.v (.int .i64 65))])])
 (some [(.agg [(.v (.int .i64 (IntKind.wrap .i64 ((avInt (cellAt r0 0)) + 1)))), (.v (.int .u32 (IntKind.wrap .u32 ((IntKind.wrap .u32 (avInt (cellAt r3 0))) + 1)))), (.v (.int .u32 (IntKind.wrap .u32 ((IntKind.wrap .u32 ((IntKind.wrap .u32 (avInt (cellAt r3 0))) + 1)) + (IntKind.wrap .u32 (avInt (cellAt r176 0))))))), (.v (.int .i64 0)), (.v (.int .i64 0)), (.v (.int .i64 0)), (.v (.int .i64 (avInt (cellAt r128 0)))), (.v (.int .i64 0)), (.v (.int .i64 0)), (.v (.int .i64 0)), (.v (.int .i64 0)), (.v (.int .i64 0))])]))
 (none)))
 (cond ((IntKind.wrap .i64 ((avInt (cellAt r0 0)) + 1)) == 6)
 ((ev 20 [(.v (.int .i64 a0_6)), (.v (.int .i64 4))]).bind fun r199 =>
 cond (isI .i64 (cellAt r199 0))
 ((ev 20 [(.v (.int .i64 a0_6)), (.v (.int .i64 60))]).bind fun r201 =>
 cond (isI .i64 (cellAt r201 0))
 (cond ((avInt (cellAt r201 0)) == 59)
 (some [(.agg [(.v (.int .i64 (IntKind.wrap .i64 ((avInt (cellAt r0 0)) + 1)))), (.v (.int .u32 (IntKind.wrap .u32 ((IntKind.wrap .u32 (avInt (cellAt r3 0))) + 1)))), (.v (.int .u32 (IntKind.wrap .u32 ((IntKind.wrap .u32 ((IntKind.wrap .u32 (avInt (cellAt r3 0))) + 1)) + (IntKind.wrap .u32 (avInt (cellAt r176 0))))))), (.v (.int .i64 0)), (.v (.int .i64 0)), (.v (.int .i64 0)), (.v (.int .i64 0)), (.v (.int .i64 0)), (.v (.int .i64 0)), (.v (.int .i64 0)), (.v (.int .i64 0)), (.v (.int .i64 65))])])
 (some [(.agg [(.v (.int .i64 (IntKind.wrap .i64 ((avInt (cellAt r0 0)) + 1)))), (.v (.int .u32 (IntKind.wrap .u32 ((IntKind.wrap .u32 (avInt (cellAt r3 0))) + 1)))), (.v (.int .u32 (IntKind.wrap .u32 ((IntKind.wrap .u32 ((IntKind.wrap .u32 (avInt (cellAt r3 0))) + 1)) + (IntKind.wrap .u32 (avInt (cellAt r176 0))))))), (.v (.int .i64 0)), (.v (.int .i64 0)), (.v (.int .i64 0)), (.v (.int .i64 0)), (.v (.int .i64 0)), (.v (.int .i64 0)), (.v (.int .i64 0)), (.v (.int .i64 0)), (.v (.int .i64 (avInt (cellAt r199 0))))])]))
 (none))
 (none))
 ((ev 20 [(.v (.int .i64 a0_6)), (.v (.int .i64 60))]).bind fun r203 =>
 cond (isI .i64 (cellAt r203 0))
 (cond ((avInt (cellAt r203 0)) == 59)
 (some [(.agg [(.v (.int .i64 (IntKind.wrap .i64 ((avInt (cellAt r0 0)) + 1)))), (.v (.int .u32 (IntKind.wrap .u32 ((IntKind.wrap .u32 (avInt (cellAt r3 0))) + 1)))), (.v (.int .u32 (IntKind.wrap .u32 ((IntKind.wrap .u32 ((IntKind.wrap .u32 (avInt (cellAt r3 0))) + 1)) + (IntKind.wrap .u32 (avInt (cellAt r176 0))))))), (.v (.int .i64 0)), (.v (.int .i64 0)), (.v (.int .i64 0)), (.v (.int .i64 0)), (.v (.int .i64 0)), (.v (.int .i64 0)), (.v (.int .i64 0)), (.v (.int .i64 0)), (.v (.int .i64 65))])])
 (some [(.agg [(.v (.int .i64 (IntKind.wrap .i64 ((avInt (cellAt r0 0)) + 1)))), (.v (.int .u32 (IntKind.wrap .u32 ((IntKind.wrap .u32 (avInt (cellAt r3 0))) + 1)))), (.v (.int .u32 (IntKind.wrap .u32 ((IntKind.wrap .u32 ((IntKind.wrap .u32 (avInt (cellAt r3 0))) + 1)) + (IntKind.wrap .u32 (avInt (cellAt r176 0))))))), (.v (.int .i64 0)), (.v (.int .i64 0)), (.v (.int .i64 0)), (.v (.int .i64 0)), (.v (.int .i64 0)), (.v (.int .i64 0)), (.v (.int .i64 0)), (.v (.int .i64 0)), (.v (.int .i64 0))])]))
 (none)))))
 (none))
 (cond ((IntKind.wrap .i64 ((avInt (cellAt r0 0)) + 1)) == 8)
 ((ev 20 [(.v (.int .i64 a0_2)), (.v (.int .i64 5))]).bind fun r206 =>
 cond (isI .i64 (cellAt r206 0))
 (cond ((Int.tmod a0_5 2) == 0)
 (cond ((IntKind.wrap .i64 ((avInt (cellAt r0 0)) + 1)) == 8)
 (cond ((IntKind.wrap .i64 ((avInt (cellAt r0 0)) + 1)) == 6)
 ((ev 20 [(.v (.int .i64 a0_6)), (.v (.int .i64 4))]).bind fun r211 =>
 cond (isI .i64 (cellAt r211 0))
 ((ev 20 [(.v (.int .i64 a0_6)), (.v (.int .i64 60))]).bind fun r213 =>
 cond (isI .i64 (cellAt r213 0))
 (cond ((avInt (cellAt r213 0)) == 59)
 (some [(.agg [(.v (.int .i64 (IntKind.wrap .i64 ((avInt (cellAt r0 0)) + 1)))), (.v (.int .u32 (IntKind.wrap .u32 ((IntKind.wrap .u32 (avInt (cellAt r3 0))) + 1)))), (.v (.int .u32 (IntKind.wrap .u32 ((IntKind.wrap .u32 ((IntKind.wrap .u32 (avInt (cellAt r3 0))) + 1)) + (IntKind.wrap .u32 (avInt (cellAt r206 0))))))), (.v (.int .i64 0)), (.v (.int .i64 0)), (.v (.int .i64 0)), (.v (.int .i64 (avInt (cellAt r128 0)))), (.v (.int .i64 0)), (.v (.int .i64 (avInt (cellAt r128 0)))), (.v (.int .i64 (IntKind.wrap .i64 ((avInt (cellAt r130 0)) + 1)))), (.v (.int .i64 (IntKind.wrap .i64 ((avInt (cellAt r7 0)) - 3)))), (.v (.int .i64 65))])])
 (some [(.agg [(.v (.int .i64 (IntKind.wrap .i64 ((avInt (cellAt r0 0)) + 1)))), (.v (.int .u32 (IntKind.wrap .u32 ((IntKind.wrap .u32 (avInt (cellAt r3 0))) + 1)))), (.v (.int .u32 (IntKind.wrap .u32 ((IntKind.wrap .u32 ((IntKind.wrap .u32 (avInt (cellAt r3 0))) + 1)) + (IntKind.wrap .u32 (avInt (cellAt r206 0))))))), (.v (.int .i64 0)), (.v (.int .i64 0)), (.v (.int .i64 0)), (.v (.int .i64 (avInt (cellAt r128 0)))), (.v (.int .i64 0)), (.v (.int .i64 (avInt (cellAt r128 0)))), (.v (.int .i64 (IntKind.wrap .i64 ((avInt (cellAt r130 0)) + 1)))), (.v (.int .i64 (IntKind.wrap .i64 ((avInt (cellAt r7 0)) - 3)))), (.v (.int .i64 (avInt (cellAt r211 0))))])]))
 (none))
 (none))
 ((ev 20 [(.v (.int .i64 a0_6)), (.v (.int .i64 60))]).bind fun r215 =>
 cond (isI .i64 (cellAt r215 0))
 (cond ((avInt (cellAt r215 0)) == 59)
 (some [(.agg [(.v (.int .i64 (IntKind.wrap .i64 ((avInt (cellAt r0 0)) + 1)))), (.v (.int .u32 (IntKind.wrap .u32 ((IntKind.wrap .u32 (avInt (cellAt r3 0))) + 1)))), (.v (.int .u32 (IntKind.wrap .u32 ((IntKind.wrap .u32 ((IntKind.wrap .u32 (avInt (cellAt r3 0))) + 1)) + (IntKind.wrap .u32 (avInt (cellAt r206 0))))))), (.v (.int .i64 0)), (.v (.int .i64 0)), (.v (.int .i64 0)), (.v (.int .i64 (avInt (cellAt r128 0)))), (.v (.int .i64 0)), (.v (.int .i64 (avInt (cellAt r128 0)))), (.v (.int .i64 (IntKind.wrap .i64 ((avInt (cellAt r130 0)) + 1)))), (.v (.int .i64 (IntKind.wrap .i64 ((avInt (cellAt r7 0)) - 3)))), (.v (.int .i64 65))])])
 (some [(.agg [(.v (.int .i64 (IntKind.wrap .i64 ((avInt (cellAt r0 0)) + 1)))), (.v (.int .u32 (IntKind.wrap .u32 ((IntKind.wrap .u32 (avInt (cellAt r3 0))) + 1)))), (.v (.int .u32 (IntKind.wrap .u32 ((IntKind.wrap .u32 ((IntKind.wrap .u32 (avInt (cellAt r3 0))) + 1)) + (IntKind.wrap .u32 (avInt (cellAt r206 0))))))), (.v (.int .i64 0)), (.v (.int .i64 0)), (.v (.int .i64 0)), (.v (.int .i64 (avInt (cellAt r128 0)))), (.v (.int .i64 0)), (.v (.int .i64 (avInt (cellAt r128 0)))), (.v (.int .i64 (IntKind.wrap .i64 ((avInt (cellAt r130 0)) + 1)))), (.v (.int .i64 (IntKind.wrap .i64 ((avInt (cellAt r7 0)) - 3)))), (.v (.int .i64 0))])]))
 (none)))
 (cond ((IntKind.wrap .i64 ((avInt (cellAt r0 0)) + 1)) == 6)
 ((ev 20 [(.v (.int .i64 a0_6)), (.v (.int .i64 4))]).bind fun r217 =>
 cond (isI .i64 (cellAt r217 0))
 ((ev 20 [(.v (.int .i64 a0_6)), (.v (.int .i64 60))]).bind fun r219 =>
 cond (isI .i64 (cellAt r219 0))
 (cond ((avInt (cellAt r219 0)) == 59)
 (some [(.agg [(.v (.int .i64 (IntKind.wrap .i64 ((avInt (cellAt r0 0)) + 1)))), (.v (.int .u32 (IntKind.wrap .u32 ((IntKind.wrap .u32 (avInt (cellAt r3 0))) + 1)))), (.v (.int .u32 (IntKind.wrap .u32 ((IntKind.wrap .u32 ((IntKind.wrap .u32 (avInt (cellAt r3 0))) + 1)) + (IntKind.wrap .u32 (avInt (cellAt r206 0))))))), (.v (.int .i64 0)), (.v (.int .i64 0)), (.v (.int .i64 0)), (.v (.int .i64 0)), (.v (.int .i64 0)), (.v (.int .i64 (avInt (cellAt r128 0)))), (.v (.int .i64 (IntKind.wrap .i64 ((avInt (cellAt r130 0)) + 1)))), (.v (.int .i64 (IntKind.wrap .i64 ((avInt (cellAt r7 0)) - 3)))), (.v (.int .i64 65))])])
 (some [(.agg [(.v (.int .i64 (IntKind.wrap .i64 ((avInt (cellAt r0 0)) + 1)))), (.v (.int .u32 (IntKind.wrap .u32 ((IntKind.wrap .u32 (avInt (cellAt r3 0))) + 1)))), (.v (.int .u32 (IntKind.wrap .u32 ((IntKind.wrap .u32 ((IntKind.wrap .u32 (avInt (cellAt r3 0))) + 1)) + (IntKind.wrap .u32 (avInt (cellAt r206 0))))))), (.v (.int .i64 0)), (.v (.int .i64 0)), (.v (.int .i64 0)), (.v (.int .i64 0)), (.v (.int .i64 0)), (.v (.int .i64 (avInt (cellAt r128 0)))), (.v (.int .i64 (IntKind.wrap .i64 ((avInt (cellAt r130 0)) + 1)))), (.v (.int .i64 (IntKind.wrap .i64 ((avInt (cellAt r7 0)) - 3)))), (.v (.int .i64 (avInt (cellAt r217 0))))])]))
 (none))
 (none))
 ((ev 20 [(.v (.int .i64 a0_6)), (.v (.int .i64 60))]).bind fun r221 =>
 cond (isI .i64 (cellAt r221 0))
 (cond ((avInt (cellAt r221 0)) == 59)
 (some [(.agg [(.v (.int .i64 (IntKind.wrap .i64 ((avInt (cellAt r0 0)) + 1)))), (.v (.int .u32 (IntKind.wrap .u32 ((IntKind.wrap .u32 (avInt (cellAt r3 0))) + 1)))), (.v (.int .u32 (IntKind.wrap .u32 ((IntKind.wrap .u32 ((IntKind.wrap .u32 (avInt (cellAt r3 0))) + 1)) + (IntKind.wrap .u32 (avInt (cellAt r206 0))))))), (.v (.int .i64 0)), (.v (.int .i64 0)), (.v (.int .i64 0)), (.v (.int .i64 0)), (.v (.int .i64 0)), (.v (.int .i64 (avInt (cellAt r128 0)))), (.v (.int .i64 (IntKind.wrap .i64 ((avInt (cellAt r130 0)) + 1)))), (.v (.int .i64 (IntKind.wrap .i64 ((avInt (cellAt r7 0)) - 3)))), (.v (.int .i64 65))])])
 (some [(.agg [(.v (.int .i64 (IntKind.wrap .i64 ((avInt (cellAt r0 0)) + 1)))), (.v (.int .u32 (IntKind.wrap .u32 ((IntKind.wrap .u32 (avInt (cellAt r3 0))) + 1)))), (.v (.int .u32 (IntKind.wrap .u32 ((IntKind.wrap .u32 ((IntKind.wrap .u32 (avInt (cellAt r3 0))) + 1)) + (IntKind.wrap .u32 (avInt (cellAt r206 0))))))), (.v (.int .i64 0)), (.v (.int .i64 0)), (.v (.int .i64 0)), (.v (.int .i64 0)), (.v (.int .i64 0)), (.v (.int .i64 (avInt (cellAt r128 0)))), (.v (.int .i64 (IntKind.wrap .i64 ((avInt (cellAt r130 0)) + 1)))), (.v (.int .i64 (IntKind.wrap .i64 ((avInt (cellAt r7 0)) - 3)))), (.v (.int .i64 0))])]))
 (none))))
 (cond ((IntKind.wrap .i64 ((avInt (cellAt r0 0)) + 1)) == 8)
 (cond ((IntKind.wrap .i64 ((avInt (cellAt r0 0)) + 1)) == 6)
 ((ev 20 [(.v (.int .i64 a0_6)), (.v (.int .i64 4))]).bind fun r223 =>
 cond (isI .i64 (cellAt r223 0))
 ((ev 20 [(.v (.int .i64 a0_6)), (.v (.int .i64 60))]).bind fun r225 =>
 cond (isI .i64 (cellAt r225 0))
 (cond ((avInt (cellAt r225 0)) == 59)
 (some [(.agg [(.v (.int .i64 (IntKind.wrap .i64 ((avInt (cellAt r0 0)) + 1)))), (.v (.int .u32 (IntKind.wrap .u32 ((IntKind.wrap .u32 (avInt (cellAt r3 0))) + 1)))), (.v (.int .u32 (IntKind.wrap .u32 ((IntKind.wrap .u32 ((IntKind.wrap .u32 (avInt (cellAt r3 0))) + 1)) + (IntKind.wrap .u32 (avInt (cellAt r206 0))))))), (.v (.int .i64 0)), (.v (.int .i64 0)), (.v (.int .i64 0)), (.v (.int .i64 (avInt (cellAt r128 0)))), (.v (.int .i64 0)), (.v (.int .i64 0)), (.v (.int .i64 0)), (.v (.int .i64 0)), (.v (.int .i64 65))])])
 (some [(.agg [(.v (.int .i64 (IntKind.wrap .i64 ((avInt (cellAt r0 0)) + 1)))), (.v (.int .u32 (IntKind.wrap .u32 ((IntKind.wrap .u32 (avInt (cellAt r3 0))) + 1)))), (.v (.int .u32 (IntKind.wrap .u32 ((IntKind.wrap .u32 ((IntKind.wrap .u32 (avInt (cellAt r3 0))) + 1)) + (IntKind.wrap .u32 (avInt (cellAt r206 0))))))), (.v (.int .i64 0)), (.v (.int .i64 0)), (.v (.int .i64 0)), (.v (.int .i64 (avInt (cellAt r128 0)))), (.v (.int .i64 0)), (.v (.int .i64 0)), (.v (.int .i64 0)), (.v (.int .i64 0)), (.v (.int .i64 (avInt (cellAt r223 0))))])]))
 (none))
 (none))
 ((ev 20 [(.v (.int .i64 a0_6)), (.v (.int .i64 60))]).bind fun r227 =>
 cond (isI .i64 (cellAt r227 0))
 (cond ((avInt (cellAt r227 0)) == 59)
 (some [(.agg [(.v (.int .i64 (IntKind.wrap .i64 ((avInt (cellAt r0 0)) + 1)))), (.v (.int .u32 (IntKind.wrap .u32 ((IntKind.wrap .u32 (avInt (cellAt r3 0))) + 1)))), (.v (.int .u32 (IntKind.wrap .u32 ((IntKind.wrap .u32 ((IntKind.wrap .u32 (avInt (cellAt r3 0))) + 1)) + (IntKind.wrap .u32 (avInt (cellAt r206 0))))))), (.v (.int .i64 0)), (.v (.int .i64 0)), (.v (.int .i64 0)), (.v (.int .i64 (avInt (cellAt r128 0)))), (.v (.int .i64 0)), (.v (.int .i64 0)), (.v (.int .i64 0)), (.v (.int .i64 0)), (.v (.int .i64 65))])])
 (some [(.agg [(.v (.int .i64 (IntKind.wrap .i64 ((avInt (cellAt r0 0)) + 1)))), (.v (.int .u32 (IntKind.wrap .u32 ((IntKind.wrap .u32 (avInt (cellAt r3 0))) + 1)))), (.v (.int .u32 (IntKind.wrap .u32 ((IntKind.wrap .u32 ((IntKind.wrap .u32 (avInt (cellAt r3 0))) + 1)) + (IntKind.wrap .u32 (avInt (cellAt r206 0))))))), (.v (.int .i64 0)), (.v (.int .i64 0)), (.v (.int .i64 0)), (.v (.int .i64 (avInt (cellAt r128 0)))), (.v (.int .i64 0)), (.v (.int .i64 0)), (.v (.int .i64 0)), (.v (.int .i64 0)), (.v (.int .i64 0))])]))
 (none)))
 (cond ((IntKind.wrap .i64 ((avInt (cellAt r0 0)) + 1)) == 6)
 ((ev 20 [(.v (.int .i64 a0_6)), (.v (.int .i64 4))]).bind fun r229 =>
 cond (isI .i64 (cellAt r229 0))
 ((ev 20 [(.v (.int .i64 a0_6)), (.v (.int .i64 60))]).bind fun r231 =>
 cond (isI .i64 (cellAt r231 0))
 (cond ((avInt (cellAt r231 0)) == 59)
 (some [(.agg [(.v (.int .i64 (IntKind.wrap .i64 ((avInt (cellAt r0 0)) + 1)))), (.v (.int .u32 (IntKind.wrap .u32 ((IntKind.wrap .u32 (avInt (cellAt r3 0))) + 1)))), (.v (.int .u32 (IntKind.wrap .u32 ((IntKind.wrap .u32 ((IntKind.wrap .u32 (avInt (cellAt r3 0))) + 1)) + (IntKind.wrap .u32 (avInt (cellAt r206 0))))))), (.v (.int .i64 0)), (.v (.int .i64 0)), (.v (.int .i64 0)), (.v (.int .i64 0)), (.v (.int .i64 0)), (.v (.int .i64 0)), (.v (.int .i64 0)), (.v (.int .i64 0)), (.v (.int .i64 65))])])
 (some [(.agg [(.v (.int .i64 (IntKind.wrap .i64 ((avInt (cellAt r0 0)) + 1)))), (.v (.int .u32 (IntKind.wrap .u32 ((IntKind.wrap .u32 (avInt (cellAt r3 0))) + 1)))), (.v (.int .u32 (IntKind.wrap .u32 ((IntKind.wrap .u32 ((IntKind.wrap .u32 (avInt (cellAt r3 0))) + 1)) + (IntKind.wrap .u32 (avInt (cellAt r206 0))))))), (.v (.int .i64 0)), (.v (.int .i64 0)), (.v (.int .i64 0)), (.v (.int .i64 0)), (.v (.int .i64 0)), (.v (.int .i64 0)), (.v (.int .i64 0)), (.v (.int .i64 0)), (.v (.int .i64 (avInt (cellAt r229 0))))])]))
 (none))
 (none))
 ((ev 20 [(.v (.int .i64 a0_6)), (.v (.int .i64 60))]).bind fun r233 =>
 cond (isI .i64 (cellAt r233 0))
 (cond ((avInt (cellAt r233 0)) == 59)
 (some [(.agg [(.v (.int .i64 (IntKind.wrap .i64 ((avInt (cellAt r0 0)) + 1)))), (.v (.int .u32 (IntKind.wrap .u32 ((IntKind.wrap .u32 (avInt (cellAt r3 0))) + 1)))), (.v (.int .u32 (IntKind.wrap .u32 ((IntKind.wrap .u32 ((IntKind.wrap .u32 (avInt (cellAt r3 0))) + 1)) + (IntKind.wrap .u32 (avInt (cellAt r206 0))))))), (.v (.int .i64 0)), (.v (.int .i64 0)), (.v (.int .i64 0)), (.v (.int .i64 0)), (.v (.int .i64 0)), (.v (.int .i64 0)), (.v (.int .i64 0)), (.v (.int .i64 0)), (.v (.int .i64 65))])])
 (some [(.agg [(.v (.int .i64 (IntKind.wrap .i64 ((avInt (cellAt r0 0)) + 1)))), (.v (.int .u32 (IntKind.wrap .u32 ((IntKind.wrap .u32 (avInt (cellAt r3 0))) + 1)))), (.v (.int .u32 (IntKind.wrap .u32 ((IntKind.wrap .u32 ((IntKind.wrap .u32 (avInt (cellAt r3 0))) + 1)) + (IntKind.wrap .u32 (avInt (cellAt r206 0))))))), (.v (.int .i64 0)), (.v (.int .i64 0)), (.v (.int .i64 0)), (.v (.int .i64 0)), (.v (.int .i64 0)), (.v (.int .i64 0)), (.v (.int .i64 0)), (.v (.int .i64 0)), (.v (.int .i64 0))])]))
 (none)))))
 (none))
 (cond ((IntKind.wrap .i64 ((avInt (cellAt r0 0)) + 1)) == 9)
 ((ev 20 [(.v (.int .i64 a0_6)), (.v (.int .i64 60))]).bind fun r236 =>
 cond (isI .i64 (cellAt r236 0))
 (cond ((avInt (cellAt r236 0)) == 59)
 (some [(.agg [(.v (.int .i64 (IntKind.wrap .i64 ((avInt (cellAt r0 0)) + 1)))), (.v (.int .u32 (IntKind.wrap .u32 ((IntKind.wrap .u32 (avInt (cellAt r3 0))) + 1)))), (.v (.int .u32 0)), (.v (.int .i64 0)), (.v (.int .i64 0)), (.v (.int .i64 0)), (.v (.int .i64 0)), (.v (.int .i64 0)), (.v (.int .i64 (avInt (cellAt r128 0)))), (.v (.int .i64 (IntKind.wrap .i64 ((avInt (cellAt r130 0)) + 1)))), (.v (.int .i64 (IntKind.wrap .i64 ((avInt (cellAt r7 0)) - 3)))), (.v (.int .i64 65))])])
 (some [(.agg [(.v (.int .i64 (IntKind.wrap .i64 ((avInt (cellAt r0 0)) + 1)))), (.v (.int .u32 (IntKind.wrap .u32 ((IntKind.wrap .u32 (avInt (cellAt r3 0))) + 1)))), (.v (.int .u32 0)), (.v (.int .i64 0)), (.v (.int .i64 0)), (.v (.int .i64 0)), (.v (.int .i64 0)), (.v (.int .i64 0)), (.v (.int .i64 (avInt (cellAt r128 0)))), (.v (.int .i64 (IntKind.wrap .i64 ((avInt (cellAt r130 0)) + 1)))), (.v (.int .i64 (IntKind.wrap .i64 ((avInt (cellAt r7 0)) - 3)))), (.v (.int .i64 0))])]))
 (none))
 ((ev 20 [(.v (.int .i64 a0_6)), (.v (.int .i64 60))]).bind fun r238 =>
 cond (isI .i64 (cellAt r238 0))
 (cond ((avInt (cellAt r238 0)) == 59)
 (some [(.agg [(.v (.int .i64 (IntKind.wrap .i64 ((avInt (cellAt r0 0)) + 1)))), (.v (.int .u32 (IntKind.wrap .u32 ((IntKind.wrap .u32 (avInt (cellAt r3 0))) + 1)))), (.v (.int .u32 0)), (.v (.int .i64 0)), (.v (.int .i64 0)), (.v (.int .i64 0)), (.v (.int .i64 0)), (.v (.int .i64 0)), (.v (.int .i64 0)), (.v (.int .i64 0)), (.v (.int .i64 0)), (.v (.int .i64 65))])])
 (some [(.agg [(.v (.int .i64 (IntKind.wrap .i64 ((avInt (cellAt r0 0)) + 1)))), (.v (.int .u32 (IntKind.wrap .u32 ((IntKind.wrap .u32 (avInt (cellAt r3 0))) + 1)))), (.v (.int .u32 0)), (.v (.int .i64 0)), (.v (.int .i64 0)), (.v (.int .i64 0)), (.v (.int .i64 0)), (.v (.int .i64 0)), (.v (.int .i64 0)), (.v (.int .i64 0)), (.v (.int .i64 0)), (.v (.int .i64 0))])]))
 (none)))))))))
 (none))
 (none)))
 (none))
 (none))
 (none))
 (none) := (ev_eq _ _).trans (by kernel_rfl)
-- "bodega/bodegaref29.ValidStatement"
-- "bodega/query.Format"
theorem ev46 (a0_0n : Bool) (a0_0 : List (List AV)) : ev 46 [(.lst a0_0n 12 a0_0)] =
 cond (ltI (((List.length a0_0) : Nat) : Int) 1)
 (some [(.v (.string (bs []))), (.v (.int .i64 1))])
 (cond (ltI 8 (((List.length a0_0) : Nat) : Int))
 (some [(.v (.string (bs []))), (.v (.int .i64 1))])
 ((lp 46 0 0 ⟨[(4, (.sl true 0 0 none)), (19, (.lst a0_0n 12 a0_0)), (20, (.v (.int .i64 (((List.length a0_0) : Nat) : Int)))), (21, (.v (.int .i64 0)))], [⟨1, 9, 1, false, []⟩]⟩).bind fun r8 =>
 cond (isEx 0 r8)
 (cond (likeStG ⟨[(4, (.sl true 0 0 none))], [⟨1, 9, 1, false, []⟩]⟩ r8.st)
 ((ev 64 [(.lst (avNil (frAt r8.st.fr 0).2) 1 (blAt r8.st.bl 0).xs), (.v (.string (bs [59, 32])))]).bind fun r11 =>
 cond (isS (cellAt r11 0))
 (some [(.v (.string (avStr (cellAt r11 0)))), (.v (.int .i64 0))])
 (none))
 (none))
 (cond (isRt r8)
 (some r8.outs)
 (none)))) := (ev_eq _ _).trans (by kernel_rfl)
theorem lp46_0 (x4n : Bool) (x19n : Bool) (x19 : List (List AV)) (x20 : Int) (x21 : Int) (b0 : List (List AV)) : lp 46 0 0 ⟨[(4, (.sl x4n 0 0 none)), (19, (.lst x19n 12 x19)), (20, (.v (.int .i64 x20))), (21, (.v (.int .i64 x21)))], [⟨1, 9, 1, false, b0⟩]⟩ =
 cond (ltI x21 x20)
 (cond ((leI 0 x21) && (ltI x21 (((List.length x19) : Nat) : Int)))
 (cond ((isI .i64 (cellAt (lget x19 (Int.toNat x21)) 0)) && ((isI .u32 (cellAt (lget x19 (Int.toNat x21)) 1)) && ((isI .u32 (cellAt (lget x19 (Int.toNat x21)) 2)) && ((isI .i64 (cellAt (lget x19 (Int.toNat x21)) 3)) && ((isI .i64 (cellAt (lget x19 (Int.toNat x21)) 4)) && ((isI .i64 (cellAt (lget x19 (Int.toNat x21)) 5)) && ((isI .i64 (cellAt (lget x19 (Int.toNat x21)) 6)) && ((isI .i64 (cellAt (lget x19 (Int.toNat x21)) 7)) && ((isI .i64 (cellAt (lget x19 (Int.toNat x21)) 8)) && ((isI .i64 (cellAt (lget x19 (Int.toNat x21)) 9)) && ((isI .i64 (cellAt (lget x19 (Int.toNat x21)) 10)) && (isI .i64 (cellAt (lget x19 (Int.toNat x21)) 11)))))))))))))
 ((ev 61 [(.agg [(.v (.int .i64 (avInt (cellAt (lget x19 (Int.toNat x21)) 0)))), (.v (.int .u32 (avInt (cellAt (lget x19 (Int.toNat x21)) 1)))), (.v (.int .u32 (avInt (cellAt (lget x19 (Int.toNat x21)) 2)))), (.v (.int .i64 (avInt (cellAt (lget x19 (Int.toNat x21)) 3)))), (.v (.int .i64 (avInt (cellAt (lget x19 (Int.toNat x21)) 4)))), (.v (.int .i64 (avInt (cellAt (lget x19 (Int.toNat x21)) 5)))), (.v (.int .i64 (avInt (cellAt (lget x19 (Int.toNat x21)) 6)))), (.v (.int .i64 (avInt (cellAt (lget x19 (Int.toNat x21)) 7)))), (.v (.int .i64 (avInt (cellAt (lget x19 (Int.toNat x21)) 8)))), (.v (.int .i64 (avInt (cellAt (lget x19 (Int.toNat x21)) 9)))), (.v (.int .i64 (avInt (cellAt (lget x19 (Int.toNat x21)) 10)))), (.v (.int .i64 (avInt (cellAt (lget x19 (Int.toNat x21)) 11))))])]).bind fun r25 =>
 cond (isB (cellAt r25 0))
 (cond (!(avBool (cellAt r25 0)))
 (some ⟨none, ⟨[], []⟩, [(.v (.string (bs []))), (.v (.int .i64 1))]⟩)
 ((ev 62 []).bind fun r28 =>
 cond (isOw 143 2 (cellAt r28 0))
 (cond ((leI 0 (avInt (cellAt (lget x19 (Int.toNat x21)) 0))) && (ltI (avInt (cellAt (lget x19 (Int.toNat x21)) 0)) ((((List.length (avXs (cellAt r28 0))) - 0) : Nat) : Int)))
 (cond ((ltN (0 + (Int.toNat (avInt (cellAt (lget x19 (Int.toNat x21)) 0)))) (List.length (avXs (cellAt r28 0)))) && ((isS (cellAt (lget (avXs (cellAt r28 0)) (0 + (Int.toNat (avInt (cellAt (lget x19 (Int.toNat x21)) 0))))) 0)) && (isL 1 (cellAt (lget (avXs (cellAt r28 0)) (0 + (Int.toNat (avInt (cellAt (lget x19 (Int.toNat x21)) 0))))) 1))))
 ((lp 46 1 0 ⟨[(4, (.sl x4n 0 0 none)), (6, (.ptr 1 0 0)), (8, (.sl false 2 0 none)), (19, (.lst x19n 12 x19)), (20, (.v (.int .i64 x20))), (21, (.v (.int .i64 x21))), (37, (.lst (avNil (cellAt (lget (avXs (cellAt r28 0)) (0 + (Int.toNat (avInt (cellAt (lget x19 (Int.toNat x21)) 0))))) 1)) 1 (avXs (cellAt (lget (avXs (cellAt r28 0)) (0 + (Int.toNat (avInt (cellAt (lget x19 (Int.toNat x21)) 0))))) 1)))), (38, (.v (.int .i64 (((List.length (avXs (cellAt (lget (avXs (cellAt r28 0)) (0 + (Int.toNat (avInt (cellAt (lget x19 (Int.toNat x21)) 0))))) 1))) : Nat) : Int)))), (39, (.v (.int .i64 0)))], [⟨1, 9, 1, false, b0⟩, ⟨1, 52, 12, true, [[(.v (.int .i64 (avInt (cellAt (lget x19 (Int.toNat x21)) 0)))), (.v (.int .u32 (avInt (cellAt (lget x19 (Int.toNat x21)) 1)))), (.v (.int .u32 (avInt (cellAt (lget x19 (Int.toNat x21)) 2)))), (.v (.int .i64 (avInt (cellAt (lget x19 (Int.toNat x21)) 3)))), (.v (.int .i64 (avInt (cellAt (lget x19 (Int.toNat x21)) 4)))), (.v (.int .i64 (avInt (cellAt (lget x19 (Int.toNat x21)) 5)))), (.v (.int .i64 (avInt (cellAt (lget x19 (Int.toNat x21)) 6)))), (.v (.int .i64 (avInt (cellAt (lget x19 (Int.toNat x21)) 7)))), (.v (.int .i64 (avInt (cellAt (lget x19 (Int.toNat x21)) 8)))), (.v (.int .i64 (avInt (cellAt (lget x19 (Int.toNat x21)) 9)))), (.v (.int .i64 (avInt (cellAt (lget x19 (Int.toNat x21)) 10)))), (.v (.int .i64 (avInt (cellAt (lget x19 (Int.toNat x21)) 11))))]]⟩, ⟨1, 9, 1, false, [[(.v (.string (avStr (cellAt (lget (avXs (cellAt r28 0)) (0 + (Int.toNat (avInt (cellAt (lget x19 (Int.toNat x21)) 0))))) 0))))]]⟩]⟩).bind fun r37 =>
 cond (isEx 2 r37)
 (cond (likeStG ⟨[(4, (.sl x4n 0 0 none)), (8, (.sl false 1 0 none)), (19, (.lst x19n 12 x19)), (20, (.v (.int .i64 x20))), (21, (.v (.int .i64 x21)))], [⟨1, 9, 1, false, b0⟩, ⟨1, 9, 1, false, [[(.v (.string (avStr (cellAt (lget (avXs (cellAt r28 0)) (0 + (Int.toNat (avInt (cellAt (lget x19 (Int.toNat x21)) 0))))) 0))))]]⟩]⟩ r37.st)
 ((ev 64 [(.lst (avNil (frAt r37.st.fr 1).2) 1 (blAt r37.st.bl 1).xs), (.v (.string (bs [32])))]).bind fun r46 =>
 cond (isS (cellAt r46 0))
 (cond (leN (((List.length (blAt r37.st.bl 0).xs) + 1) * 16) 140737488355328)
 (lp 46 0 0 ⟨[(4, (.sl false 0 0 none)), (19, (.lst (avNil (frAt r37.st.fr 2).2) 12 (avXs (frAt r37.st.fr 2).2))), (20, (.v (.int .i64 (avInt (frAt r37.st.fr 3).2)))), (21, (.v (.int .i64 (IntKind.wrap .i64 ((avInt (frAt r37.st.fr 4).2) + 1)))))], [⟨1, 9, 1, false, ((blAt r37.st.bl 0).xs ++ [[(.v (.string (avStr (cellAt r46 0))))]])⟩]⟩)
 (none))
 (none))
 (none))
 (cond (isRt r37)
 (some ⟨none, ⟨[], []⟩, r37.outs⟩)
 (none)))
 (none))
 (none))
 (none)))
 (none))
 (none))
 (none))
 (some ⟨(some 0), ⟨[(4, (.sl x4n 0 0 none))], [⟨1, 9, 1, false, b0⟩]⟩, []⟩) := (lp_eq _ _ _ _).trans (by kernel_rfl)
theorem lp46_1 (x4n : Bool) (x8n : Bool) (x19n : Bool) (x19 : List (List AV)) (x20 : Int) (x21 : Int) (x37n : Bool) (x37 : List (List AV)) (x38 : Int) (x39 : Int) (b0 : List (List AV)) (b1_0 : Int) (b1_1 : Int) (b1_2 : Int) (b1_3 : Int) (b1_4 : Int) (b1_5 : Int) (b1_6 : Int) (b1_7 : Int) (b1_8 : Int) (b1_9 : Int) (b1_10 : Int) (b1_11 : Int) (b2 : List (List AV)) : lp 46 1 0 ⟨[(4, (.sl x4n 0 0 none)), (6, (.ptr 1 0 0)), (8, (.sl x8n 2 0 none)), (19, (.lst x19n 12 x19)), (20, (.v (.int .i64 x20))), (21, (.v (.int .i64 x21))), (37, (.lst x37n 1 x37)), (38, (.v (.int .i64 x38))), (39, (.v (.int .i64 x39)))], [⟨1, 9, 1, false, b0⟩, ⟨1, 52, 12, true, [[(.v (.int .i64 b1_0)), (.v (.int .u32 b1_1)), (.v (.int .u32 b1_2)), (.v (.int .i64 b1_3)), (.v (.int .i64 b1_4)), (.v (.int .i64 b1_5)), (.v (.int .i64 b1_6)), (.v (.int .i64 b1_7)), (.v (.int .i64 b1_8)), (.v (.int .i64 b1_9)), (.v (.int .i64 b1_10)), (.v (.int .i64 b1_11))]]⟩, ⟨1, 9, 1, false, b2⟩]⟩ =
 cond (ltI x39 x38)
 (cond ((leI 0 x39) && (ltI x39 (((List.length x37) : Nat) : Int)))
 (cond (isI .i64 (cellAt (lget x37 (Int.toNat x39)) 0))
 ((ev 63 [(.agg [(.v (.int .i64 b1_0)), (.v (.int .u32 b1_1)), (.v (.int .u32 b1_2)), (.v (.int .i64 b1_3)), (.v (.int .i64 b1_4)), (.v (.int .i64 b1_5)), (.v (.int .i64 b1_6)), (.v (.int .i64 b1_7)), (.v (.int .i64 b1_8)), (.v (.int .i64 b1_9)), (.v (.int .i64 b1_10)), (.v (.int .i64 b1_11))]), (.v (.int .i64 (avInt (cellAt (lget x37 (Int.toNat x39)) 0))))]).bind fun r52 =>
 cond (isOw 9 1 (cellAt r52 0))
 (cond (leN (((List.length b2) + (List.length (avXs (cellAt r52 0)))) * 16) 140737488355328)
 (lp 46 1 0 ⟨[(4, (.sl x4n 0 0 none)), (6, (.ptr 1 0 0)), (8, (.sl ((List.isEmpty (avXs (cellAt r52 0))) && x8n) 2 0 none)), (19, (.lst x19n 12 x19)), (20, (.v (.int .i64 x20))), (21, (.v (.int .i64 x21))), (37, (.lst x37n 1 x37)), (38, (.v (.int .i64 x38))), (39, (.v (.int .i64 (IntKind.wrap .i64 (x39 + 1)))))], [⟨1, 9, 1, false, b0⟩, ⟨1, 52, 12, true, [[(.v (.int .i64 b1_0)), (.v (.int .u32 b1_1)), (.v (.int .u32 b1_2)), (.v (.int .i64 b1_3)), (.v (.int .i64 b1_4)), (.v (.int .i64 b1_5)), (.v (.int .i64 b1_6)), (.v (.int .i64 b1_7)), (.v (.int .i64 b1_8)), (.v (.int .i64 b1_9)), (.v (.int .i64 b1_10)), (.v (.int .i64 b1_11))]]⟩, ⟨1, 9, 1, false, (b2 ++ (avXs (cellAt r52 0)))⟩]⟩)
 (none))
 (none))
 (none))
 (none))
 (some ⟨(some 2), ⟨[(4, (.sl x4n 0 0 none)), (8, (.sl x8n 1 0 none)), (19, (.lst x19n 12 x19)), (20, (.v (.int .i64 x20))), (21, (.v (.int .i64 x21)))], [⟨1, 9, 1, false, b0⟩, ⟨1, 9, 1, false, b2⟩]⟩, []⟩) := (lp_eq _ _ _ _).trans (by kernel_rfl)
-- "slices.Clone[bodega/serial.Table,bodega/record.Row]"
theorem ev47 (a0_0n : Bool) (a0_0 : List (List AV)) : ev 47 [(.lst a0_0n 4 a0_0)] =
 cond a0_0n
 (some [(.ow true 91 4 [])])
 (cond (leN ((0 + (List.length a0_0)) * 32) 140737488355328)
 (some [(.ow ((List.isEmpty a0_0) && false) 91 4 ([] ++ a0_0))])
 (none)) := (ev_eq _ _).trans (by kernel_rfl)
-- "bodega/query.Writes"
theorem ev48 (a0_0 : Int) (a0_1 : Int) (a0_2 : Int) (a0_3 : Int) (a0_4 : Int) (a0_5 : Int) (a0_6 : Int) (a0_7 : Int) (a0_8 : Int) (a0_9 : Int) (a0_10 : Int) (a0_11 : Int) : ev 48 [(.agg [(.v (.int .i64 a0_0)), (.v (.int .u32 a0_1)), (.v (.int .u32 a0_2)), (.v (.int .i64 a0_3)), (.v (.int .i64 a0_4)), (.v (.int .i64 a0_5)), (.v (.int .i64 a0_6)), (.v (.int .i64 a0_7)), (.v (.int .i64 a0_8)), (.v (.int .i64 a0_9)), (.v (.int .i64 a0_10)), (.v (.int .i64 a0_11))])] =
 cond (leI 1 a0_0)
 (some [(.v (.bool (leI a0_0 4)))])
 (some [(.v (.bool false))]) := (ev_eq _ _).trans (by kernel_rfl)
-- "bodega/serial.write"
theorem ev49 (a0_0n : Bool) (a0_0 : List (List AV)) (a1_0 : Int) (a1_1 : Int) (a1_2 : Int) (a1_3 : Int) (a1_4 : Int) (a1_5 : Int) (a1_6 : Int) (a1_7 : Int) (a1_8 : Int) (a1_9 : Int) (a1_10 : Int) (a1_11 : Int) : ev 49 [(.ow a0_0n 91 4 a0_0), (.agg [(.v (.int .i64 a1_0)), (.v (.int .u32 a1_1)), (.v (.int .u32 a1_2)), (.v (.int .i64 a1_3)), (.v (.int .i64 a1_4)), (.v (.int .i64 a1_5)), (.v (.int .i64 a1_6)), (.v (.int .i64 a1_7)), (.v (.int .i64 a1_8)), (.v (.int .i64 a1_9)), (.v (.int .i64 a1_10)), (.v (.int .i64 a1_11))])] =
 (ev 65 [(.lst a0_0n 4 a0_0), (.v (.int .u32 a1_1))]).bind fun r0 =>
 cond (isI .i64 (cellAt r0 0))
 (cond (isB (cellAt r0 1))
 (cond (a1_0 == 1)
 (cond (avBool (cellAt r0 1))
 (some [(.ow a0_0n 91 4 a0_0), (.v (.int .i64 17))])
 ((insG 91 4 a0_0 [(.v (.int .i64 (avInt (cellAt r0 0)))), (.lst false 4 [[(.v (.int .u32 a1_1)), (.v (.int .i64 a1_3)), (.v (.int .i64 a1_4)), (.v (.int .i64 a1_5))]])]).bind fun r3 =>
 cond (leN (List.length a0_0) 1000000)
 (some [(.ow (a0_0n && (List.isEmpty r3)) 91 4 r3), (.v (.int .i64 0))])
 (none)))
 (cond (!(avBool (cellAt r0 1)))
 (some [(.ow a0_0n 91 4 a0_0), (.v (.int .i64 16))])
 (cond (a1_0 == 4)
 ((delG 91 4 a0_0 [(.v (.int .i64 (avInt (cellAt r0 0)))), (.v (.int .i64 (IntKind.wrap .i64 ((avInt (cellAt r0 0)) + 1))))]).bind fun r8 =>
 cond (leN (List.length a0_0) 1000000)
 (some [(.ow (a0_0n && (List.isEmpty r8)) 91 4 r8), (.v (.int .i64 0))])
 (none))
 (cond (a1_0 == 2)
 (cond ((leI 0 (avInt (cellAt r0 0))) && (ltI (avInt (cellAt r0 0)) ((((List.length a0_0) - 0) : Nat) : Int)))
 (cond ((leI 0 a1_6) && (ltI a1_6 3))
 (cond ((leN ((1 + ((Int.toNat a1_6) * 1)) + 1) 4) && true)
 (cond (ltN (0 + (Int.toNat (avInt (cellAt r0 0)))) (List.length a0_0))
 (some [(.ow a0_0n 91 4 (List.set a0_0 (0 + (Int.toNat (avInt (cellAt r0 0)))) (((List.take (1 + ((Int.toNat a1_6) * 1)) (lget a0_0 (0 + (Int.toNat (avInt (cellAt r0 0)))))) ++ [(.v (.int .i64 a1_7))]) ++ (List.drop ((1 + ((Int.toNat a1_6) * 1)) + 1) (lget a0_0 (0 + (Int.toNat (avInt (cellAt r0 0))))))))), (.v (.int .i64 0))])
 (none))
 (none))
 (none))
 (none))
 (cond (a1_0 == 3)
 (cond ((leI 0 (avInt (cellAt r0 0))) && (ltI (avInt (cellAt r0 0)) ((((List.length a0_0) - 0) : Nat) : Int)))
 (cond ((leI 0 a1_6) && (ltI a1_6 3))
 (cond ((ltN (0 + (Int.toNat (avInt (cellAt r0 0)))) (List.length a0_0)) && (isI .i64 (cellAt (lget a0_0 (0 + (Int.toNat (avInt (cellAt r0 0))))) (1 + ((Int.toNat a1_6) * 1)))))
 ((ev 68 [(.v (.int .i64 (avInt (cellAt (lget a0_0 (0 + (Int.toNat (avInt (cellAt r0 0))))) (1 + ((Int.toNat a1_6) * 1)))))), (.v (.int .i64 a1_7))]).bind fun r19 =>
 cond (isI .i64 (cellAt r19 0))
 (cond (isB (cellAt r19 1))
 (cond (!(avBool (cellAt r19 1)))
 (some [(.ow a0_0n 91 4 a0_0), (.v (.int .i64 2))])
 (cond ((leI 0 (avInt (cellAt r0 0))) && (ltI (avInt (cellAt r0 0)) ((((List.length a0_0) - 0) : Nat) : Int)))
 (cond ((leI 0 a1_6) && (ltI a1_6 3))
 (cond ((leN ((1 + ((Int.toNat a1_6) * 1)) + 1) 4) && true)
 (cond (ltN (0 + (Int.toNat (avInt (cellAt r0 0)))) (List.length a0_0))
 (some [(.ow a0_0n 91 4 (List.set a0_0 (0 + (Int.toNat (avInt (cellAt r0 0)))) (((List.take (1 + ((Int.toNat a1_6) * 1)) (lget a0_0 (0 + (Int.toNat (avInt (cellAt r0 0)))))) ++ [(.v (.int .i64 (avInt (cellAt r19 0))))]) ++ (List.drop ((1 + ((Int.toNat a1_6) * 1)) + 1) (lget a0_0 (0 + (Int.toNat (avInt (cellAt r0 0))))))))), (.v (.int .i64 0))])
 (none))
 (none))
 (none))
 (none)))
 (none))
 (none))
 (none))
 (none))
 (none))
 (some [(.ow a0_0n 91 4 a0_0), (.v (.int .i64 0))]))))))
 (none))
 (none) := (ev_eq _ _).trans (by kernel_rfl)
-- "bodega/bodegaref29.in"
-- "bodega/bodegaref29.Add"
-- "bodega/bodegaref29.Sum"
-- "bodega/bodegaref29.plain"
-- "bodega/query.Valid"
theorem ev61 (a0_0 : Int) (a0_1 : Int) (a0_2 : Int) (a0_3 : Int) (a0_4 : Int) (a0_5 : Int) (a0_6 : Int) (a0_7 : Int) (a0_8 : Int) (a0_9 : Int) (a0_10 : Int) (a0_11 : Int) : ev 61 [(.agg [(.v (.int .i64 a0_0)), (.v (.int .u32 a0_1)), (.v (.int .u32 a0_2)), (.v (.int .i64 a0_3)), (.v (.int .i64 a0_4)), (.v (.int .i64 a0_5)), (.v (.int .i64 a0_6)), (.v (.int .i64 a0_7)), (.v (.int .i64 a0_8)), (.v (.int .i64 a0_9)), (.v (.int .i64 a0_10)), (.v (.int .i64 a0_11))])] =
 cond (ltI a0_0 1)
 (some [(.v (.bool false))])
 (cond (ltI 9 a0_0)
 (some [(.v (.bool false))])
 ((ev 62 []).bind fun r2 =>
 cond (isOw 143 2 (cellAt r2 0))
 (cond ((leI 0 a0_0) && (ltI a0_0 ((((List.length (avXs (cellAt r2 0))) - 0) : Nat) : Int)))
 (cond ((ltN (0 + (Int.toNat a0_0)) (List.length (avXs (cellAt r2 0)))) && (isL 1 (cellAt (lget (avXs (cellAt r2 0)) (0 + (Int.toNat a0_0))) 1)))
 ((lp 61 0 0 ⟨[(1, (.ptr 0 0 0)), (3, (.ptr 1 0 0)), (23, (.lst (avNil (cellAt (lget (avXs (cellAt r2 0)) (0 + (Int.toNat a0_0))) 1)) 1 (avXs (cellAt (lget (avXs (cellAt r2 0)) (0 + (Int.toNat a0_0))) 1)))), (24, (.v (.int .i64 (((List.length (avXs (cellAt (lget (avXs (cellAt r2 0)) (0 + (Int.toNat a0_0))) 1))) : Nat) : Int)))), (25, (.v (.int .i64 0)))], [⟨1, 52, 12, true, [[(.v (.int .i64 a0_0)), (.v (.int .u32 a0_1)), (.v (.int .u32 a0_2)), (.v (.int .i64 a0_3)), (.v (.int .i64 a0_4)), (.v (.int .i64 a0_5)), (.v (.int .i64 a0_6)), (.v (.int .i64 a0_7)), (.v (.int .i64 a0_8)), (.v (.int .i64 a0_9)), (.v (.int .i64 a0_10)), (.v (.int .i64 a0_11))]]⟩, ⟨1, 52, 12, true, [[(.v (.int .i64 a0_0)), (.v (.int .u32 0)), (.v (.int .u32 0)), (.v (.int .i64 0)), (.v (.int .i64 0)), (.v (.int .i64 0)), (.v (.int .i64 0)), (.v (.int .i64 0)), (.v (.int .i64 0)), (.v (.int .i64 0)), (.v (.int .i64 0)), (.v (.int .i64 0))]]⟩]⟩).bind fun r9 =>
 cond (isEx 0 r9)
 (cond (likeStG ⟨[(1, (.ptr 0 0 0)), (3, (.ptr 1 0 0))], [⟨1, 52, 12, true, [[(.v (.int .i64 a0_0)), (.v (.int .u32 a0_1)), (.v (.int .u32 a0_2)), (.v (.int .i64 a0_3)), (.v (.int .i64 a0_4)), (.v (.int .i64 a0_5)), (.v (.int .i64 a0_6)), (.v (.int .i64 a0_7)), (.v (.int .i64 a0_8)), (.v (.int .i64 a0_9)), (.v (.int .i64 a0_10)), (.v (.int .i64 a0_11))]]⟩, ⟨1, 52, 12, true, [[(.v (.int .i64 a0_0)), (.v (.int .u32 0)), (.v (.int .u32 0)), (.v (.int .i64 0)), (.v (.int .i64 0)), (.v (.int .i64 0)), (.v (.int .i64 0)), (.v (.int .i64 0)), (.v (.int .i64 0)), (.v (.int .i64 0)), (.v (.int .i64 0)), (.v (.int .i64 0))]]⟩]⟩ r9.st)
 (some [(.v (.bool (((avInt (cellAt (lget (blAt r9.st.bl 1).xs 0) 0)) == (avInt (cellAt (lget (blAt r9.st.bl 0).xs 0) 0))) && (((avInt (cellAt (lget (blAt r9.st.bl 1).xs 0) 1)) == (avInt (cellAt (lget (blAt r9.st.bl 0).xs 0) 1))) && (((avInt (cellAt (lget (blAt r9.st.bl 1).xs 0) 2)) == (avInt (cellAt (lget (blAt r9.st.bl 0).xs 0) 2))) && (((avInt (cellAt (lget (blAt r9.st.bl 1).xs 0) 3)) == (avInt (cellAt (lget (blAt r9.st.bl 0).xs 0) 3))) && (((avInt (cellAt (lget (blAt r9.st.bl 1).xs 0) 4)) == (avInt (cellAt (lget (blAt r9.st.bl 0).xs 0) 4))) && (((avInt (cellAt (lget (blAt r9.st.bl 1).xs 0) 5)) == (avInt (cellAt (lget (blAt r9.st.bl 0).xs 0) 5))) && (((avInt (cellAt (lget (blAt r9.st.bl 1).xs 0) 6)) == (avInt (cellAt (lget (blAt r9.st.bl 0).xs 0) 6))) && (((avInt (cellAt (lget (blAt r9.st.bl 1).xs 0) 7)) == (avInt (cellAt (lget (blAt r9.st.bl 0).xs 0) 7))) && (((avInt (cellAt (lget (blAt r9.st.bl 1).xs 0) 8)) == (avInt (cellAt (lget (blAt r9.st.bl 0).xs 0) 8))) && (((avInt (cellAt (lget (blAt r9.st.bl 1).xs 0) 9)) == (avInt (cellAt (lget (blAt r9.st.bl 0).xs 0) 9))) && (((avInt (cellAt (lget (blAt r9.st.bl 1).xs 0) 10)) == (avInt (cellAt (lget (blAt r9.st.bl 0).xs 0) 10))) && ((avInt (cellAt (lget (blAt r9.st.bl 1).xs 0) 11)) == (avInt (cellAt (lget (blAt r9.st.bl 0).xs 0) 11))))))))))))))))])
 (none))
 (cond (isRt r9)
 (some r9.outs)
 (none)))
 (none))
 (none))
 (none))) := (ev_eq _ _).trans (by kernel_rfl)
theorem lp61_0 (x23n : Bool) (x23 : List (List AV)) (x24 : Int) (x25 : Int) (b0_0 : Int) (b0_1 : Int) (b0_2 : Int) (b0_3 : Int) (b0_4 : Int) (b0_5 : Int) (b0_6 : Int) (b0_7 : Int) (b0_8 : Int) (b0_9 : Int) (b0_10 : Int) (b0_11 : Int) (b1_0 : Int) (b1_1 : Int) (b1_2 : Int) (b1_3 : Int) (b1_4 : Int) (b1_5 : Int) (b1_6 : Int) (b1_7 : Int) (b1_8 : Int) (b1_9 : Int) (b1_10 : Int) (b1_11 : Int) : lp 61 0 0 ⟨[(1, (.ptr 0 0 0)), (3, (.ptr 1 0 0)), (23, (.lst x23n 1 x23)), (24, (.v (.int .i64 x24))), (25, (.v (.int .i64 x25)))], [⟨1, 52, 12, true, [[(.v (.int .i64 b0_0)), (.v (.int .u32 b0_1)), (.v (.int .u32 b0_2)), (.v (.int .i64 b0_3)), (.v (.int .i64 b0_4)), (.v (.int .i64 b0_5)), (.v (.int .i64 b0_6)), (.v (.int .i64 b0_7)), (.v (.int .i64 b0_8)), (.v (.int .i64 b0_9)), (.v (.int .i64 b0_10)), (.v (.int .i64 b0_11))]]⟩, ⟨1, 52, 12, true, [[(.v (.int .i64 b1_0)), (.v (.int .u32 b1_1)), (.v (.int .u32 b1_2)), (.v (.int .i64 b1_3)), (.v (.int .i64 b1_4)), (.v (.int .i64 b1_5)), (.v (.int .i64 b1_6)), (.v (.int .i64 b1_7)), (.v (.int .i64 b1_8)), (.v (.int .i64 b1_9)), (.v (.int .i64 b1_10)), (.v (.int .i64 b1_11))]]⟩]⟩ =
 cond (ltI x25 x24)
 (cond ((leI 0 x25) && (ltI x25 (((List.length x23) : Nat) : Int)))
 (cond (isI .i64 (cellAt (lget x23 (Int.toNat x25)) 0))
 ((ev 74 [(.agg [(.v (.int .i64 b0_0)), (.v (.int .u32 b0_1)), (.v (.int .u32 b0_2)), (.v (.int .i64 b0_3)), (.v (.int .i64 b0_4)), (.v (.int .i64 b0_5)), (.v (.int .i64 b0_6)), (.v (.int .i64 b0_7)), (.v (.int .i64 b0_8)), (.v (.int .i64 b0_9)), (.v (.int .i64 b0_10)), (.v (.int .i64 b0_11))]), (.agg [(.v (.int .i64 b1_0)), (.v (.int .u32 b1_1)), (.v (.int .u32 b1_2)), (.v (.int .i64 b1_3)), (.v (.int .i64 b1_4)), (.v (.int .i64 b1_5)), (.v (.int .i64 b1_6)), (.v (.int .i64 b1_7)), (.v (.int .i64 b1_8)), (.v (.int .i64 b1_9)), (.v (.int .i64 b1_10)), (.v (.int .i64 b1_11))]), (.v (.int .i64 (avInt (cellAt (lget x23 (Int.toNat x25)) 0))))]).bind fun r36 =>
 cond ((Ev.isAgg 12 (cellAt r36 0)) && ((isI .i64 (cellAt (obCells (cellAt r36 0)) 0)) && ((isI .u32 (cellAt (obCells (cellAt r36 0)) 1)) && ((isI .u32 (cellAt (obCells (cellAt r36 0)) 2)) && ((isI .i64 (cellAt (obCells (cellAt r36 0)) 3)) && ((isI .i64 (cellAt (obCells (cellAt r36 0)) 4)) && ((isI .i64 (cellAt (obCells (cellAt r36 0)) 5)) && ((isI .i64 (cellAt (obCells (cellAt r36 0)) 6)) && ((isI .i64 (cellAt (obCells (cellAt r36 0)) 7)) && ((isI .i64 (cellAt (obCells (cellAt r36 0)) 8)) && ((isI .i64 (cellAt (obCells (cellAt r36 0)) 9)) && ((isI .i64 (cellAt (obCells (cellAt r36 0)) 10)) && (isI .i64 (cellAt (obCells (cellAt r36 0)) 11))))))))))))))
 (cond (isB (cellAt r36 1))
 (cond (!(avBool (cellAt r36 1)))
 (some ⟨none, ⟨[], []⟩, [(.v (.bool false))]⟩)
 (lp 61 0 0 ⟨[(1, (.ptr 0 0 0)), (3, (.ptr 1 0 0)), (23, (.lst x23n 1 x23)), (24, (.v (.int .i64 x24))), (25, (.v (.int .i64 (IntKind.wrap .i64 (x25 + 1)))))], [⟨1, 52, 12, true, [[(.v (.int .i64 b0_0)), (.v (.int .u32 b0_1)), (.v (.int .u32 b0_2)), (.v (.int .i64 b0_3)), (.v (.int .i64 b0_4)), (.v (.int .i64 b0_5)), (.v (.int .i64 b0_6)), (.v (.int .i64 b0_7)), (.v (.int .i64 b0_8)), (.v (.int .i64 b0_9)), (.v (.int .i64 b0_10)), (.v (.int .i64 b0_11))]]⟩, ⟨1, 52, 12, true, [[(.v (.int .i64 (avInt (cellAt (obCells (cellAt r36 0)) 0)))), (.v (.int .u32 (avInt (cellAt (obCells (cellAt r36 0)) 1)))), (.v (.int .u32 (avInt (cellAt (obCells (cellAt r36 0)) 2)))), (.v (.int .i64 (avInt (cellAt (obCells (cellAt r36 0)) 3)))), (.v (.int .i64 (avInt (cellAt (obCells (cellAt r36 0)) 4)))), (.v (.int .i64 (avInt (cellAt (obCells (cellAt r36 0)) 5)))), (.v (.int .i64 (avInt (cellAt (obCells (cellAt r36 0)) 6)))), (.v (.int .i64 (avInt (cellAt (obCells (cellAt r36 0)) 7)))), (.v (.int .i64 (avInt (cellAt (obCells (cellAt r36 0)) 8)))), (.v (.int .i64 (avInt (cellAt (obCells (cellAt r36 0)) 9)))), (.v (.int .i64 (avInt (cellAt (obCells (cellAt r36 0)) 10)))), (.v (.int .i64 (avInt (cellAt (obCells (cellAt r36 0)) 11))))]]⟩]⟩))
 (none))
 (none))
 (none))
 (none))
 (some ⟨(some 0), ⟨[(1, (.ptr 0 0 0)), (3, (.ptr 1 0 0))], [⟨1, 52, 12, true, [[(.v (.int .i64 b0_0)), (.v (.int .u32 b0_1)), (.v (.int .u32 b0_2)), (.v (.int .i64 b0_3)), (.v (.int .i64 b0_4)), (.v (.int .i64 b0_5)), (.v (.int .i64 b0_6)), (.v (.int .i64 b0_7)), (.v (.int .i64 b0_8)), (.v (.int .i64 b0_9)), (.v (.int .i64 b0_10)), (.v (.int .i64 b0_11))]]⟩, ⟨1, 52, 12, true, [[(.v (.int .i64 b1_0)), (.v (.int .u32 b1_1)), (.v (.int .u32 b1_2)), (.v (.int .i64 b1_3)), (.v (.int .i64 b1_4)), (.v (.int .i64 b1_5)), (.v (.int .i64 b1_6)), (.v (.int .i64 b1_7)), (.v (.int .i64 b1_8)), (.v (.int .i64 b1_9)), (.v (.int .i64 b1_10)), (.v (.int .i64 b1_11))]]⟩]⟩, []⟩) := (lp_eq _ _ _ _).trans (by kernel_rfl)
-- "bodega/query.forms"
theorem ev62  : ev 62 [] =
 some [(.ow false 143 2 [[(.v (.string (bs []))), (.lst true 1 [])], [(.v (.string (bs [105, 110, 115, 101, 114, 116]))), (.lst false 1 [[(.v (.int .i64 0))], [(.v (.int .i64 2))]])], [(.v (.string (bs [115, 101, 116]))), (.lst false 1 [[(.v (.int .i64 0))], [(.v (.int .i64 3))], [(.v (.int .i64 4))]])], [(.v (.string (bs [97, 100, 100]))), (.lst false 1 [[(.v (.int .i64 0))], [(.v (.int .i64 3))], [(.v (.int .i64 4))]])], [(.v (.string (bs [100, 101, 108, 101, 116, 101]))), (.lst false 1 [[(.v (.int .i64 0))]])], [(.v (.string (bs [103, 101, 116]))), (.lst false 1 [[(.v (.int .i64 0))]])], [(.v (.string (bs [115, 99, 97, 110]))), (.lst false 1 [[(.v (.int .i64 0))], [(.v (.int .i64 1))], [(.v (.int .i64 6))], [(.v (.int .i64 7))]])], [(.v (.string (bs [99, 111, 117, 110, 116]))), (.lst false 1 [[(.v (.int .i64 0))], [(.v (.int .i64 1))], [(.v (.int .i64 6))]])], [(.v (.string (bs [115, 117, 109]))), (.lst false 1 [[(.v (.int .i64 3))], [(.v (.int .i64 0))], [(.v (.int .i64 1))], [(.v (.int .i64 6))]])], [(.v (.string (bs [99, 104, 101, 99, 107]))), (.lst false 1 [[(.v (.int .i64 0))], [(.v (.int .i64 5))]])]])] := (ev_eq _ _).trans (by kernel_rfl)
-- "bodega/query.words"
theorem ev63 (a0_0 : Int) (a0_1 : Int) (a0_2 : Int) (a0_3 : Int) (a0_4 : Int) (a0_5 : Int) (a0_6 : Int) (a0_7 : Int) (a0_8 : Int) (a0_9 : Int) (a0_10 : Int) (a0_11 : Int) (a1_0 : Int) : ev 63 [(.agg [(.v (.int .i64 a0_0)), (.v (.int .u32 a0_1)), (.v (.int .u32 a0_2)), (.v (.int .i64 a0_3)), (.v (.int .i64 a0_4)), (.v (.int .i64 a0_5)), (.v (.int .i64 a0_6)), (.v (.int .i64 a0_7)), (.v (.int .i64 a0_8)), (.v (.int .i64 a0_9)), (.v (.int .i64 a0_10)), (.v (.int .i64 a0_11))]), (.v (.int .i64 a1_0))] =
 (ev 75 []).bind fun r0 =>
 cond (isOw 9 1 (cellAt r0 0))
 (cond ((leI 0 a0_8) && (ltI a0_8 ((((List.length (avXs (cellAt r0 0))) - 0) : Nat) : Int)))
 (cond ((ltN (0 + (Int.toNat a0_8)) (List.length (avXs (cellAt r0 0)))) && (isS (cellAt (lget (avXs (cellAt r0 0)) (0 + (Int.toNat a0_8))) 0)))
 ((ev 76 []).bind fun r5 =>
 cond (isOw 9 1 (cellAt r5 0))
 (cond ((leI 0 a0_9) && (ltI a0_9 ((((List.length (avXs (cellAt r5 0))) - 0) : Nat) : Int)))
 (cond ((ltN (0 + (Int.toNat a0_9)) (List.length (avXs (cellAt r5 0)))) && (isS (cellAt (lget (avXs (cellAt r5 0)) (0 + (Int.toNat a0_9))) 0)))
 ((ev 77 [(.v (.int .i64 a0_10))]).bind fun r10 =>
 cond (isS (cellAt r10 0))
 (cond (a1_0 == 0)
 ((ev 77 [(.v (.int .i64 (IntKind.wrap .i64 a0_1)))]).bind fun r14 =>
 cond (isS (cellAt r14 0))
 (some [(.ow false 9 1 [[(.v (.string (avStr (cellAt r14 0))))]])])
 (none))
 (cond (a1_0 == 1)
 ((ev 77 [(.v (.int .i64 (IntKind.wrap .i64 a0_2)))]).bind fun r18 =>
 cond (isS (cellAt r18 0))
 (some [(.ow false 9 1 [[(.v (.string (avStr (cellAt r18 0))))]])])
 (none))
 (cond (a1_0 == 2)
 ((ev 77 [(.v (.int .i64 a0_3))]).bind fun r22 =>
 cond (isS (cellAt r22 0))
 ((ev 77 [(.v (.int .i64 a0_4))]).bind fun r25 =>
 cond (isS (cellAt r25 0))
 ((ev 77 [(.v (.int .i64 a0_5))]).bind fun r28 =>
 cond (isS (cellAt r28 0))
 (some [(.ow false 9 1 [[(.v (.string (avStr (cellAt r22 0))))], [(.v (.string (avStr (cellAt r25 0))))], [(.v (.string (avStr (cellAt r28 0))))]])])
 (none))
 (none))
 (none))
 (cond (a1_0 == 3)
 ((ev 75 []).bind fun r31 =>
 cond (isOw 9 1 (cellAt r31 0))
 (cond ((leI 0 a0_6) && (ltI a0_6 ((((List.length (avXs (cellAt r31 0))) - 0) : Nat) : Int)))
 (cond ((ltN (0 + (Int.toNat a0_6)) (List.length (avXs (cellAt r31 0)))) && (isS (cellAt (lget (avXs (cellAt r31 0)) (0 + (Int.toNat a0_6))) 0)))
 (some [(.ow false 9 1 [[(.v (.string (avStr (cellAt (lget (avXs (cellAt r31 0)) (0 + (Int.toNat a0_6))) 0))))]])])
 (none))
 (none))
 (none))
 (cond (a1_0 == 4)
 ((ev 77 [(.v (.int .i64 a0_7))]).bind fun r37 =>
 cond (isS (cellAt r37 0))
 (some [(.ow false 9 1 [[(.v (.string (avStr (cellAt r37 0))))]])])
 (none))
 (cond (a1_0 == 5)
 (some [(.ow false 9 1 [[(.v (.string (avStr (cellAt (lget (avXs (cellAt r0 0)) (0 + (Int.toNat a0_8))) 0))))], [(.v (.string (avStr (cellAt (lget (avXs (cellAt r5 0)) (0 + (Int.toNat a0_9))) 0))))], [(.v (.string (avStr (cellAt r10 0))))]])])
 (cond (a1_0 == 6)
 (cond (!(a0_9 == 0))
 ((ev 78 [(.lst false 1 [[(.lst false 1 [[(.v (.string (bs [119, 104, 101, 114, 101])))]])], [(.lst false 1 [[(.v (.string (avStr (cellAt (lget (avXs (cellAt r0 0)) (0 + (Int.toNat a0_8))) 0))))], [(.v (.string (avStr (cellAt (lget (avXs (cellAt r5 0)) (0 + (Int.toNat a0_9))) 0))))], [(.v (.string (avStr (cellAt r10 0))))]])]])]).bind fun r42 =>
 cond (isOw 9 1 (cellAt r42 0))
 (cond (false || ((List.all (avXs (cellAt r42 0)) rowV) && true))
 (some [(.ow (avNil (cellAt r42 0)) 9 1 (avXs (cellAt r42 0)))])
 (none))
 (none))
 (some [(.ow true 9 1 [])]))
 (cond (a1_0 == 7)
 (cond (!(a0_11 == 0))
 ((ev 77 [(.v (.int .i64 a0_11))]).bind fun r46 =>
 cond (isS (cellAt r46 0))
 (some [(.ow false 9 1 [[(.v (.string (bs [108, 105, 109, 105, 116])))], [(.v (.string (avStr (cellAt r46 0))))]])])
 (none))
 (some [(.ow true 9 1 [])]))
 (some [(.ow true 9 1 [])])))))))))
 (none))
 (none))
 (none))
 (none))
 (none))
 (none))
 (none) := (ev_eq _ _).trans (by kernel_rfl)
-- "bodega/serial.find"
theorem ev65 (a0_0n : Bool) (a0_0 : List (List AV)) (a1_0 : Int) : ev 65 [(.lst a0_0n 4 a0_0), (.v (.int .u32 a1_0))] =
 (ev 82 [(.lst a0_0n 4 a0_0), (.v (.int .u32 a1_0)), (.clo 83 [] [])]).bind fun r0 =>
 cond (isI .i64 (cellAt r0 0))
 (cond (isB (cellAt r0 1))
 (some [(.v (.int .i64 (avInt (cellAt r0 0)))), (.v (.bool (avBool (cellAt r0 1))))])
 (none))
 (none) := (ev_eq _ _).trans (by kernel_rfl)
-- "bodega/serial.plus"
theorem ev68 (a0_0 : Int) (a1_0 : Int) : ev 68 [(.v (.int .i64 a0_0)), (.v (.int .i64 a1_0))] =
 cond (leI 0 a1_0)
 (some [(.v (.int .i64 (IntKind.wrap .i64 (a0_0 + a1_0)))), (.v (.bool (leI a0_0 (IntKind.wrap .i64 (a0_0 + a1_0)))))])
 (some [(.v (.int .i64 (IntKind.wrap .i64 (a0_0 + a1_0)))), (.v (.bool (ltI (IntKind.wrap .i64 (a0_0 + a1_0)) a0_0)))]) := (ev_eq _ _).trans (by kernel_rfl)
-- "bodega/serial.span"
theorem ev69 (a0_0n : Bool) (a0_0 : List (List AV)) (a1_0 : Int) (a1_1 : Int) (a1_2 : Int) (a1_3 : Int) (a1_4 : Int) (a1_5 : Int) (a1_6 : Int) (a1_7 : Int) (a1_8 : Int) (a1_9 : Int) (a1_10 : Int) (a1_11 : Int) : ev 69 [(.lst a0_0n 4 a0_0), (.agg [(.v (.int .i64 a1_0)), (.v (.int .u32 a1_1)), (.v (.int .u32 a1_2)), (.v (.int .i64 a1_3)), (.v (.int .i64 a1_4)), (.v (.int .i64 a1_5)), (.v (.int .i64 a1_6)), (.v (.int .i64 a1_7)), (.v (.int .i64 a1_8)), (.v (.int .i64 a1_9)), (.v (.int .i64 a1_10)), (.v (.int .i64 a1_11))])] =
 (lp 69 0 0 ⟨[(3, (.ptr 0 0 0)), (5, (.sl true 1 0 none)), (8, (.lst a0_0n 4 a0_0)), (9, (.v (.int .i64 (((List.length a0_0) : Nat) : Int)))), (10, (.v (.int .i64 0)))], [⟨1, 52, 12, true, [[(.v (.int .i64 a1_0)), (.v (.int .u32 a1_1)), (.v (.int .u32 a1_2)), (.v (.int .i64 a1_3)), (.v (.int .i64 a1_4)), (.v (.int .i64 a1_5)), (.v (.int .i64 a1_6)), (.v (.int .i64 a1_7)), (.v (.int .i64 a1_8)), (.v (.int .i64 a1_9)), (.v (.int .i64 a1_10)), (.v (.int .i64 a1_11))]]⟩, ⟨1, 91, 4, false, []⟩]⟩).bind fun r1 =>
 cond (isEx 0 r1)
 (cond (likeStG ⟨[(5, (.sl true 0 0 none))], [⟨1, 91, 4, false, []⟩]⟩ r1.st)
 (some [(.ow (avNil (frAt r1.st.fr 0).2) 91 4 (blAt r1.st.bl 0).xs)])
 (none))
 (cond (isRt r1)
 (some r1.outs)
 (none)) := (ev_eq _ _).trans (by kernel_rfl)
theorem lp69_0 (x5n : Bool) (x8n : Bool) (x8 : List (List AV)) (x9 : Int) (x10 : Int) (b0_0 : Int) (b0_1 : Int) (b0_2 : Int) (b0_3 : Int) (b0_4 : Int) (b0_5 : Int) (b0_6 : Int) (b0_7 : Int) (b0_8 : Int) (b0_9 : Int) (b0_10 : Int) (b0_11 : Int) (b1 : List (List AV)) : lp 69 0 0 ⟨[(3, (.ptr 0 0 0)), (5, (.sl x5n 1 0 none)), (8, (.lst x8n 4 x8)), (9, (.v (.int .i64 x9))), (10, (.v (.int .i64 x10)))], [⟨1, 52, 12, true, [[(.v (.int .i64 b0_0)), (.v (.int .u32 b0_1)), (.v (.int .u32 b0_2)), (.v (.int .i64 b0_3)), (.v (.int .i64 b0_4)), (.v (.int .i64 b0_5)), (.v (.int .i64 b0_6)), (.v (.int .i64 b0_7)), (.v (.int .i64 b0_8)), (.v (.int .i64 b0_9)), (.v (.int .i64 b0_10)), (.v (.int .i64 b0_11))]]⟩, ⟨1, 91, 4, false, b1⟩]⟩ =
 cond (ltI x10 x9)
 (cond ((leI 0 x10) && (ltI x10 (((List.length x8) : Nat) : Int)))
 (cond ((isI .u32 (cellAt (lget x8 (Int.toNat x10)) 0)) && ((isI .i64 (cellAt (lget x8 (Int.toNat x10)) 1)) && ((isI .i64 (cellAt (lget x8 (Int.toNat x10)) 2)) && (isI .i64 (cellAt (lget x8 (Int.toNat x10)) 3)))))
 (cond (leI b0_1 (avInt (cellAt (lget x8 (Int.toNat x10)) 0)))
 (cond (leI (avInt (cellAt (lget x8 (Int.toNat x10)) 0)) b0_2)
 ((ev 71 [(.agg [(.v (.int .i64 b0_8)), (.v (.int .i64 b0_9)), (.v (.int .i64 b0_10))]), (.agg [(.v (.int .u32 (avInt (cellAt (lget x8 (Int.toNat x10)) 0)))), (.v (.int .i64 (avInt (cellAt (lget x8 (Int.toNat x10)) 1)))), (.v (.int .i64 (avInt (cellAt (lget x8 (Int.toNat x10)) 2)))), (.v (.int .i64 (avInt (cellAt (lget x8 (Int.toNat x10)) 3))))])]).bind fun r10 =>
 cond (isB (cellAt r10 0))
 (cond (avBool (cellAt r10 0))
 (cond (leN (((List.length b1) + 1) * 32) 140737488355328)
 (lp 69 0 0 ⟨[(3, (.ptr 0 0 0)), (5, (.sl false 1 0 none)), (8, (.lst x8n 4 x8)), (9, (.v (.int .i64 x9))), (10, (.v (.int .i64 (IntKind.wrap .i64 (x10 + 1)))))], [⟨1, 52, 12, true, [[(.v (.int .i64 b0_0)), (.v (.int .u32 b0_1)), (.v (.int .u32 b0_2)), (.v (.int .i64 b0_3)), (.v (.int .i64 b0_4)), (.v (.int .i64 b0_5)), (.v (.int .i64 b0_6)), (.v (.int .i64 b0_7)), (.v (.int .i64 b0_8)), (.v (.int .i64 b0_9)), (.v (.int .i64 b0_10)), (.v (.int .i64 b0_11))]]⟩, ⟨1, 91, 4, false, (b1 ++ [[(.v (.int .u32 (avInt (cellAt (lget x8 (Int.toNat x10)) 0)))), (.v (.int .i64 (avInt (cellAt (lget x8 (Int.toNat x10)) 1)))), (.v (.int .i64 (avInt (cellAt (lget x8 (Int.toNat x10)) 2)))), (.v (.int .i64 (avInt (cellAt (lget x8 (Int.toNat x10)) 3))))]])⟩]⟩)
 (none))
 (lp 69 0 0 ⟨[(3, (.ptr 0 0 0)), (5, (.sl x5n 1 0 none)), (8, (.lst x8n 4 x8)), (9, (.v (.int .i64 x9))), (10, (.v (.int .i64 (IntKind.wrap .i64 (x10 + 1)))))], [⟨1, 52, 12, true, [[(.v (.int .i64 b0_0)), (.v (.int .u32 b0_1)), (.v (.int .u32 b0_2)), (.v (.int .i64 b0_3)), (.v (.int .i64 b0_4)), (.v (.int .i64 b0_5)), (.v (.int .i64 b0_6)), (.v (.int .i64 b0_7)), (.v (.int .i64 b0_8)), (.v (.int .i64 b0_9)), (.v (.int .i64 b0_10)), (.v (.int .i64 b0_11))]]⟩, ⟨1, 91, 4, false, b1⟩]⟩))
 (none))
 (lp 69 0 0 ⟨[(3, (.ptr 0 0 0)), (5, (.sl x5n 1 0 none)), (8, (.lst x8n 4 x8)), (9, (.v (.int .i64 x9))), (10, (.v (.int .i64 (IntKind.wrap .i64 (x10 + 1)))))], [⟨1, 52, 12, true, [[(.v (.int .i64 b0_0)), (.v (.int .u32 b0_1)), (.v (.int .u32 b0_2)), (.v (.int .i64 b0_3)), (.v (.int .i64 b0_4)), (.v (.int .i64 b0_5)), (.v (.int .i64 b0_6)), (.v (.int .i64 b0_7)), (.v (.int .i64 b0_8)), (.v (.int .i64 b0_9)), (.v (.int .i64 b0_10)), (.v (.int .i64 b0_11))]]⟩, ⟨1, 91, 4, false, b1⟩]⟩))
 (lp 69 0 0 ⟨[(3, (.ptr 0 0 0)), (5, (.sl x5n 1 0 none)), (8, (.lst x8n 4 x8)), (9, (.v (.int .i64 x9))), (10, (.v (.int .i64 (IntKind.wrap .i64 (x10 + 1)))))], [⟨1, 52, 12, true, [[(.v (.int .i64 b0_0)), (.v (.int .u32 b0_1)), (.v (.int .u32 b0_2)), (.v (.int .i64 b0_3)), (.v (.int .i64 b0_4)), (.v (.int .i64 b0_5)), (.v (.int .i64 b0_6)), (.v (.int .i64 b0_7)), (.v (.int .i64 b0_8)), (.v (.int .i64 b0_9)), (.v (.int .i64 b0_10)), (.v (.int .i64 b0_11))]]⟩, ⟨1, 91, 4, false, b1⟩]⟩))
 (none))
 (none))
 (some ⟨(some 0), ⟨[(5, (.sl x5n 0 0 none))], [⟨1, 91, 4, false, b1⟩]⟩, []⟩) := (lp_eq _ _ _ _).trans (by kernel_rfl)
-- "bodega/serial.total"
theorem ev70 (a0_0n : Bool) (a0_0 : List (List AV)) (a1_0 : Int) : ev 70 [(.lst a0_0n 4 a0_0), (.v (.int .i64 a1_0))] =
 (lp 70 0 0 ⟨[(1, (.v (.int .i64 a1_0))), (6, (.v (.int .u64 0))), (7, (.v (.int .u64 0))), (12, (.lst a0_0n 4 a0_0)), (13, (.v (.int .i64 (((List.length a0_0) : Nat) : Int)))), (14, (.v (.int .i64 0)))], []⟩).bind fun r1 =>
 cond (isEx 0 r1)
 (cond (likeStG ⟨[(6, (.v (.int .u64 0))), (7, (.v (.int .u64 0)))], []⟩ r1.st)
 (some [(.v (.int .i64 (IntKind.wrap .i64 (avInt (frAt r1.st.fr 1).2)))), (.v (.bool ((avInt (frAt r1.st.fr 0).2) == (IntKind.wrap .u64 (Int.fdiv (IntKind.wrap .i64 (avInt (frAt r1.st.fr 1).2)) 9223372036854775808)))))])
 (none))
 (cond (isRt r1)
 (some r1.outs)
 (none)) := (ev_eq _ _).trans (by kernel_rfl)
theorem lp70_0 (x1 : Int) (x6 : Int) (x7 : Int) (x12n : Bool) (x12 : List (List AV)) (x13 : Int) (x14 : Int) : lp 70 0 0 ⟨[(1, (.v (.int .i64 x1))), (6, (.v (.int .u64 x6))), (7, (.v (.int .u64 x7))), (12, (.lst x12n 4 x12)), (13, (.v (.int .i64 x13))), (14, (.v (.int .i64 x14)))], []⟩ =
 cond (ltI x14 x13)
 (cond ((leI 0 x14) && (ltI x14 (((List.length x12) : Nat) : Int)))
 (cond ((isI .u32 (cellAt (lget x12 (Int.toNat x14)) 0)) && ((isI .i64 (cellAt (lget x12 (Int.toNat x14)) 1)) && ((isI .i64 (cellAt (lget x12 (Int.toNat x14)) 2)) && (isI .i64 (cellAt (lget x12 (Int.toNat x14)) 3)))))
 (cond ((leI 0 x1) && (ltI x1 3))
 (cond ((leI 0 x7) && ((leI 0 (IntKind.wrap .u64 (cond (Nat.beq (Int.toNat x1) 0) (avInt (cellAt (lget x12 (Int.toNat x14)) 1)) (cond (Nat.beq (Int.toNat x1) 1) (avInt (cellAt (lget x12 (Int.toNat x14)) 2)) (avInt (cellAt (lget x12 (Int.toNat x14)) 3)))))) && true))
 (cond ((leI 0 x6) && ((leI 0 (IntKind.wrap .u64 (Int.fdiv (cond (Nat.beq (Int.toNat x1) 0) (avInt (cellAt (lget x12 (Int.toNat x14)) 1)) (cond (Nat.beq (Int.toNat x1) 1) (avInt (cellAt (lget x12 (Int.toNat x14)) 2)) (avInt (cellAt (lget x12 (Int.toNat x14)) 3)))) 9223372036854775808))) && ((leI 0 (Int.fdiv ((x7 + (IntKind.wrap .u64 (cond (Nat.beq (Int.toNat x1) 0) (avInt (cellAt (lget x12 (Int.toNat x14)) 1)) (cond (Nat.beq (Int.toNat x1) 1) (avInt (cellAt (lget x12 (Int.toNat x14)) 2)) (avInt (cellAt (lget x12 (Int.toNat x14)) 3)))))) + 0) 18446744073709551616)) && (leI (Int.fdiv ((x7 + (IntKind.wrap .u64 (cond (Nat.beq (Int.toNat x1) 0) (avInt (cellAt (lget x12 (Int.toNat x14)) 1)) (cond (Nat.beq (Int.toNat x1) 1) (avInt (cellAt (lget x12 (Int.toNat x14)) 2)) (avInt (cellAt (lget x12 (Int.toNat x14)) 3)))))) + 0) 18446744073709551616) 1))))
 (lp 70 0 0 ⟨[(1, (.v (.int .i64 x1))), (6, (.v (.int .u64 (IntKind.wrap .u64 ((x6 + (IntKind.wrap .u64 (Int.fdiv (cond (Nat.beq (Int.toNat x1) 0) (avInt (cellAt (lget x12 (Int.toNat x14)) 1)) (cond (Nat.beq (Int.toNat x1) 1) (avInt (cellAt (lget x12 (Int.toNat x14)) 2)) (avInt (cellAt (lget x12 (Int.toNat x14)) 3)))) 9223372036854775808))) + (Int.fdiv ((x7 + (IntKind.wrap .u64 (cond (Nat.beq (Int.toNat x1) 0) (avInt (cellAt (lget x12 (Int.toNat x14)) 1)) (cond (Nat.beq (Int.toNat x1) 1) (avInt (cellAt (lget x12 (Int.toNat x14)) 2)) (avInt (cellAt (lget x12 (Int.toNat x14)) 3)))))) + 0) 18446744073709551616)))))), (7, (.v (.int .u64 (IntKind.wrap .u64 ((x7 + (IntKind.wrap .u64 (cond (Nat.beq (Int.toNat x1) 0) (avInt (cellAt (lget x12 (Int.toNat x14)) 1)) (cond (Nat.beq (Int.toNat x1) 1) (avInt (cellAt (lget x12 (Int.toNat x14)) 2)) (avInt (cellAt (lget x12 (Int.toNat x14)) 3)))))) + 0))))), (12, (.lst x12n 4 x12)), (13, (.v (.int .i64 x13))), (14, (.v (.int .i64 (IntKind.wrap .i64 (x14 + 1)))))], []⟩)
 (none))
 (none))
 (none))
 (none))
 (none))
 (some ⟨(some 0), ⟨[(6, (.v (.int .u64 x6))), (7, (.v (.int .u64 x7)))], []⟩, []⟩) := (lp_eq _ _ _ _).trans (by kernel_rfl)
-- "bodega/query.Holds"
theorem ev71 (a0_0 : Int) (a0_1 : Int) (a0_2 : Int) (a1_0 : Int) (a1_1 : Int) (a1_2 : Int) (a1_3 : Int) : ev 71 [(.agg [(.v (.int .i64 a0_0)), (.v (.int .i64 a0_1)), (.v (.int .i64 a0_2))]), (.agg [(.v (.int .u32 a1_0)), (.v (.int .i64 a1_1)), (.v (.int .i64 a1_2)), (.v (.int .i64 a1_3))])] =
 cond (a0_1 == 0)
 (some [(.v (.bool true))])
 ((ev 88 [(.agg [(.v (.int .i64 a0_0)), (.v (.int .i64 a0_1)), (.v (.int .i64 a0_2))])]).bind fun r0 =>
 cond (isB (cellAt r0 0))
 (cond (!(avBool (cellAt r0 0)))
 (some [(.v (.bool false))])
 (cond ((leI 0 a0_0) && (ltI a0_0 3))
 (cond (a0_1 == 1)
 (some [(.v (.bool ((cond (Nat.beq (Int.toNat a0_0) 0) a1_1 (cond (Nat.beq (Int.toNat a0_0) 1) a1_2 a1_3)) == a0_2)))])
 (cond (a0_1 == 2)
 (some [(.v (.bool (!((cond (Nat.beq (Int.toNat a0_0) 0) a1_1 (cond (Nat.beq (Int.toNat a0_0) 1) a1_2 a1_3)) == a0_2))))])
 (cond (a0_1 == 3)
 (some [(.v (.bool (ltI (cond (Nat.beq (Int.toNat a0_0) 0) a1_1 (cond (Nat.beq (Int.toNat a0_0) 1) a1_2 a1_3)) a0_2)))])
 (cond (a0_1 == 4)
 (some [(.v (.bool (leI (cond (Nat.beq (Int.toNat a0_0) 0) a1_1 (cond (Nat.beq (Int.toNat a0_0) 1) a1_2 a1_3)) a0_2)))])
 (cond (a0_1 == 5)
 (some [(.v (.bool (ltI a0_2 (cond (Nat.beq (Int.toNat a0_0) 0) a1_1 (cond (Nat.beq (Int.toNat a0_0) 1) a1_2 a1_3)))))])
 (some [(.v (.bool (leI a0_2 (cond (Nat.beq (Int.toNat a0_0) 0) a1_1 (cond (Nat.beq (Int.toNat a0_0) 1) a1_2 a1_3)))))]))))))
 (none)))
 (none)) := (ev_eq _ _).trans (by kernel_rfl)
-- "bodega/query.kept"
theorem ev74 (a0_0 : Int) (a0_1 : Int) (a0_2 : Int) (a0_3 : Int) (a0_4 : Int) (a0_5 : Int) (a0_6 : Int) (a0_7 : Int) (a0_8 : Int) (a0_9 : Int) (a0_10 : Int) (a0_11 : Int) (a1_0 : Int) (a1_1 : Int) (a1_2 : Int) (a1_3 : Int) (a1_4 : Int) (a1_5 : Int) (a1_6 : Int) (a1_7 : Int) (a1_8 : Int) (a1_9 : Int) (a1_10 : Int) (a1_11 : Int) (a2_0 : Int) : ev 74 [(.agg [(.v (.int .i64 a0_0)), (.v (.int .u32 a0_1)), (.v (.int .u32 a0_2)), (.v (.int .i64 a0_3)), (.v (.int .i64 a0_4)), (.v (.int .i64 a0_5)), (.v (.int .i64 a0_6)), (.v (.int .i64 a0_7)), (.v (.int .i64 a0_8)), (.v (.int .i64 a0_9)), (.v (.int .i64 a0_10)), (.v (.int .i64 a0_11))]), (.agg [(.v (.int .i64 a1_0)), (.v (.int .u32 a1_1)), (.v (.int .u32 a1_2)), (.v (.int .i64 a1_3)), (.v (.int .i64 a1_4)), (.v (.int .i64 a1_5)), (.v (.int .i64 a1_6)), (.v (.int .i64 a1_7)), (.v (.int .i64 a1_8)), (.v (.int .i64 a1_9)), (.v (.int .i64 a1_10)), (.v (.int .i64 a1_11))]), (.v (.int .i64 a2_0))] =
 cond (a2_0 == 0)
 (cond (leI 1 a0_1)
 (some [(.agg [(.v (.int .i64 a1_0)), (.v (.int .u32 a0_1)), (.v (.int .u32 a1_2)), (.v (.int .i64 a1_3)), (.v (.int .i64 a1_4)), (.v (.int .i64 a1_5)), (.v (.int .i64 a1_6)), (.v (.int .i64 a1_7)), (.v (.int .i64 a1_8)), (.v (.int .i64 a1_9)), (.v (.int .i64 a1_10)), (.v (.int .i64 a1_11))]), (.v (.bool (leI a0_1 4294967294)))])
 (some [(.agg [(.v (.int .i64 a1_0)), (.v (.int .u32 a0_1)), (.v (.int .u32 a1_2)), (.v (.int .i64 a1_3)), (.v (.int .i64 a1_4)), (.v (.int .i64 a1_5)), (.v (.int .i64 a1_6)), (.v (.int .i64 a1_7)), (.v (.int .i64 a1_8)), (.v (.int .i64 a1_9)), (.v (.int .i64 a1_10)), (.v (.int .i64 a1_11))]), (.v (.bool false))]))
 (cond (a2_0 == 1)
 (cond (leI a0_1 a0_2)
 (some [(.agg [(.v (.int .i64 a1_0)), (.v (.int .u32 a1_1)), (.v (.int .u32 a0_2)), (.v (.int .i64 a1_3)), (.v (.int .i64 a1_4)), (.v (.int .i64 a1_5)), (.v (.int .i64 a1_6)), (.v (.int .i64 a1_7)), (.v (.int .i64 a1_8)), (.v (.int .i64 a1_9)), (.v (.int .i64 a1_10)), (.v (.int .i64 a1_11))]), (.v (.bool (leI a0_2 4294967294)))])
 (some [(.agg [(.v (.int .i64 a1_0)), (.v (.int .u32 a1_1)), (.v (.int .u32 a0_2)), (.v (.int .i64 a1_3)), (.v (.int .i64 a1_4)), (.v (.int .i64 a1_5)), (.v (.int .i64 a1_6)), (.v (.int .i64 a1_7)), (.v (.int .i64 a1_8)), (.v (.int .i64 a1_9)), (.v (.int .i64 a1_10)), (.v (.int .i64 a1_11))]), (.v (.bool false))]))
 (cond (a2_0 == 2)
 (some [(.agg [(.v (.int .i64 a1_0)), (.v (.int .u32 a1_1)), (.v (.int .u32 a1_2)), (.v (.int .i64 a0_3)), (.v (.int .i64 a0_4)), (.v (.int .i64 a0_5)), (.v (.int .i64 a1_6)), (.v (.int .i64 a1_7)), (.v (.int .i64 a1_8)), (.v (.int .i64 a1_9)), (.v (.int .i64 a1_10)), (.v (.int .i64 a1_11))]), (.v (.bool true))])
 (cond (a2_0 == 3)
 ((ev 92 [(.v (.int .i64 a0_6))]).bind fun r8 =>
 cond (isB (cellAt r8 0))
 (some [(.agg [(.v (.int .i64 a1_0)), (.v (.int .u32 a1_1)), (.v (.int .u32 a1_2)), (.v (.int .i64 a1_3)), (.v (.int .i64 a1_4)), (.v (.int .i64 a1_5)), (.v (.int .i64 a0_6)), (.v (.int .i64 a1_7)), (.v (.int .i64 a1_8)), (.v (.int .i64 a1_9)), (.v (.int .i64 a1_10)), (.v (.int .i64 a1_11))]), (.v (.bool (avBool (cellAt r8 0))))])
 (none))
 (cond (a2_0 == 4)
 (some [(.agg [(.v (.int .i64 a1_0)), (.v (.int .u32 a1_1)), (.v (.int .u32 a1_2)), (.v (.int .i64 a1_3)), (.v (.int .i64 a1_4)), (.v (.int .i64 a1_5)), (.v (.int .i64 a1_6)), (.v (.int .i64 a0_7)), (.v (.int .i64 a1_8)), (.v (.int .i64 a1_9)), (.v (.int .i64 a1_10)), (.v (.int .i64 a1_11))]), (.v (.bool true))])
 (cond (a2_0 == 5)
 ((ev 88 [(.agg [(.v (.int .i64 a0_8)), (.v (.int .i64 a0_9)), (.v (.int .i64 a0_10))])]).bind fun r12 =>
 cond (isB (cellAt r12 0))
 (some [(.agg [(.v (.int .i64 a1_0)), (.v (.int .u32 a1_1)), (.v (.int .u32 a1_2)), (.v (.int .i64 a1_3)), (.v (.int .i64 a1_4)), (.v (.int .i64 a1_5)), (.v (.int .i64 a1_6)), (.v (.int .i64 a1_7)), (.v (.int .i64 a0_8)), (.v (.int .i64 a0_9)), (.v (.int .i64 a0_10)), (.v (.int .i64 a1_11))]), (.v (.bool (avBool (cellAt r12 0))))])
 (none))
 (cond (a2_0 == 6)
 (cond ((a0_8 == 0) && ((a0_9 == 0) && (a0_10 == 0)))
 (some [(.agg [(.v (.int .i64 a1_0)), (.v (.int .u32 a1_1)), (.v (.int .u32 a1_2)), (.v (.int .i64 a1_3)), (.v (.int .i64 a1_4)), (.v (.int .i64 a1_5)), (.v (.int .i64 a1_6)), (.v (.int .i64 a1_7)), (.v (.int .i64 a0_8)), (.v (.int .i64 a0_9)), (.v (.int .i64 a0_10)), (.v (.int .i64 a1_11))]), (.v (.bool true))])
 ((ev 88 [(.agg [(.v (.int .i64 a0_8)), (.v (.int .i64 a0_9)), (.v (.int .i64 a0_10))])]).bind fun r16 =>
 cond (isB (cellAt r16 0))
 (some [(.agg [(.v (.int .i64 a1_0)), (.v (.int .u32 a1_1)), (.v (.int .u32 a1_2)), (.v (.int .i64 a1_3)), (.v (.int .i64 a1_4)), (.v (.int .i64 a1_5)), (.v (.int .i64 a1_6)), (.v (.int .i64 a1_7)), (.v (.int .i64 a0_8)), (.v (.int .i64 a0_9)), (.v (.int .i64 a0_10)), (.v (.int .i64 a1_11))]), (.v (.bool (avBool (cellAt r16 0))))])
 (none)))
 (cond (a2_0 == 7)
 (cond (leI 0 a0_11)
 (some [(.agg [(.v (.int .i64 a1_0)), (.v (.int .u32 a1_1)), (.v (.int .u32 a1_2)), (.v (.int .i64 a1_3)), (.v (.int .i64 a1_4)), (.v (.int .i64 a1_5)), (.v (.int .i64 a1_6)), (.v (.int .i64 a1_7)), (.v (.int .i64 a1_8)), (.v (.int .i64 a1_9)), (.v (.int .i64 a1_10)), (.v (.int .i64 a0_11))]), (.v (.bool (leI a0_11 64)))])
 (some [(.agg [(.v (.int .i64 a1_0)), (.v (.int .u32 a1_1)), (.v (.int .u32 a1_2)), (.v (.int .i64 a1_3)), (.v (.int .i64 a1_4)), (.v (.int .i64 a1_5)), (.v (.int .i64 a1_6)), (.v (.int .i64 a1_7)), (.v (.int .i64 a1_8)), (.v (.int .i64 a1_9)), (.v (.int .i64 a1_10)), (.v (.int .i64 a0_11))]), (.v (.bool false))]))
 (some [(.agg [(.v (.int .i64 a1_0)), (.v (.int .u32 a1_1)), (.v (.int .u32 a1_2)), (.v (.int .i64 a1_3)), (.v (.int .i64 a1_4)), (.v (.int .i64 a1_5)), (.v (.int .i64 a1_6)), (.v (.int .i64 a1_7)), (.v (.int .i64 a1_8)), (.v (.int .i64 a1_9)), (.v (.int .i64 a1_10)), (.v (.int .i64 a1_11))]), (.v (.bool true))])))))))) := (ev_eq _ _).trans (by kernel_rfl)
-- "bodega/query.columns"
theorem ev75  : ev 75 [] =
 some [(.ow false 9 1 [[(.v (.string (bs [97])))], [(.v (.string (bs [98])))], [(.v (.string (bs [99])))]])] := (ev_eq _ _).trans (by kernel_rfl)
-- "bodega/query.comparisons"
theorem ev76  : ev 76 [] =
 some [(.ow false 9 1 [[(.v (.string (bs [])))], [(.v (.string (bs [61])))], [(.v (.string (bs [33, 61])))], [(.v (.string (bs [60])))], [(.v (.string (bs [60, 61])))], [(.v (.string (bs [62])))], [(.v (.string (bs [62, 61])))]])] := (ev_eq _ _).trans (by kernel_rfl)
-- "bodega/query.decimal"
theorem ev77 (a0_0 : Int) : ev 77 [(.v (.int .i64 a0_0))] =
 cond (ltI a0_0 0)
 ((lp 77 0 0 ⟨[(3, (.v (.int .u64 (IntKind.wrap .u64 (0 - (IntKind.wrap .u64 a0_0)))))), (4, (.v (.string (bs [45])))), (5, (.sl true 0 0 none))], [⟨1, 5, 1, false, []⟩]⟩).bind fun r5 =>
 cond (isEx 0 r5)
 (cond (likeStG ⟨[(4, (.v (.string (bs [45])))), (5, (.sl true 0 0 none))], [⟨1, 5, 1, false, []⟩]⟩ r5.st)
 (cond (leN (List.length (blAt r5.st.bl 0).xs) 1000000)
 (cond (List.all (List.reverse (blAt r5.st.bl 0).xs) Ev.isByte)
 (cond (leN ((ByteArray.size (avStr (frAt r5.st.fr 0).2)) + (ByteArray.size ⟨(List.map Ev.byteOf (List.reverse (blAt r5.st.bl 0).xs)).toArray⟩)) 9223372036854775807)
 (some [(.v (.string ((avStr (frAt r5.st.fr 0).2) ++ ⟨(List.map Ev.byteOf (List.reverse (blAt r5.st.bl 0).xs)).toArray⟩)))])
 (none))
 (none))
 (none))
 (none))
 (cond (isRt r5)
 (some r5.outs)
 (none)))
 ((lp 77 0 0 ⟨[(3, (.v (.int .u64 (IntKind.wrap .u64 a0_0)))), (4, (.v (.string (bs [])))), (5, (.sl true 0 0 none))], [⟨1, 5, 1, false, []⟩]⟩).bind fun r12 =>
 cond (isEx 0 r12)
 (cond (likeStG ⟨[(4, (.v (.string (bs [])))), (5, (.sl true 0 0 none))], [⟨1, 5, 1, false, []⟩]⟩ r12.st)
 (cond (leN (List.length (blAt r12.st.bl 0).xs) 1000000)
 (cond (List.all (List.reverse (blAt r12.st.bl 0).xs) Ev.isByte)
 (cond (leN ((ByteArray.size (avStr (frAt r12.st.fr 0).2)) + (ByteArray.size ⟨(List.map Ev.byteOf (List.reverse (blAt r12.st.bl 0).xs)).toArray⟩)) 9223372036854775807)
 (some [(.v (.string ((avStr (frAt r12.st.fr 0).2) ++ ⟨(List.map Ev.byteOf (List.reverse (blAt r12.st.bl 0).xs)).toArray⟩)))])
 (none))
 (none))
 (none))
 (none))
 (cond (isRt r12)
 (some r12.outs)
 (none))) := (ev_eq _ _).trans (by kernel_rfl)
theorem lp77_0 (x3 : Int) (x4 : ByteArray) (x5n : Bool) (b0 : List (List AV)) : lp 77 0 0 ⟨[(3, (.v (.int .u64 x3))), (4, (.v (.string x4))), (5, (.sl x5n 0 0 none))], [⟨1, 5, 1, false, b0⟩]⟩ =
 cond (ltI 0 x3)
 (cond (leN (((List.length b0) + 1) * 1) 140737488355328)
 (lp 77 0 0 ⟨[(3, (.v (.int .u64 (IntKind.wrap .u64 (Int.tdiv x3 10))))), (4, (.v (.string x4))), (5, (.sl false 0 0 none))], [⟨1, 5, 1, false, (b0 ++ [[(.v (.int .u8 (IntKind.wrap .u8 (IntKind.wrap .u64 (48 + (Int.tmod x3 10))))))]])⟩]⟩)
 (none))
 (cond (((((List.length b0) - 0) : Nat) : Int) == 0)
 (cond (leN (((List.length b0) + 1) * 1) 140737488355328)
 (lp 77 0 0 ⟨[(3, (.v (.int .u64 (IntKind.wrap .u64 (Int.tdiv x3 10))))), (4, (.v (.string x4))), (5, (.sl false 0 0 none))], [⟨1, 5, 1, false, (b0 ++ [[(.v (.int .u8 (IntKind.wrap .u8 (IntKind.wrap .u64 (48 + (Int.tmod x3 10))))))]])⟩]⟩)
 (none))
 (some ⟨(some 0), ⟨[(4, (.v (.string x4))), (5, (.sl x5n 0 0 none))], [⟨1, 5, 1, false, b0⟩]⟩, []⟩)) := (lp_eq _ _ _ _).trans (by kernel_rfl)
-- "slices.BinarySearchFunc[bodega/serial.Table,bodega/record.Row,uint32]"
theorem ev82 (a0_0n : Bool) (a0_0 : List (List AV)) (a1_0 : Int) (a2_0 : Int) : ev 82 [(.lst a0_0n 4 a0_0), (.v (.int .u32 a1_0)), (.clo 83 [] [])] =
 (lp 82 0 0 ⟨[(0, (.lst a0_0n 4 a0_0)), (1, (.v (.int .u32 a1_0))), (2, (.clo 83 [] [])), (8, (.v (.int .i64 (((List.length a0_0) : Nat) : Int)))), (9, (.v (.int .i64 0))), (10, (.v (.int .i64 (((List.length a0_0) : Nat) : Int))))], []⟩).bind fun r1 =>
 cond (isEx 0 r1)
 (cond (likeStG ⟨[(0, (.lst a0_0n 4 a0_0)), (1, (.v (.int .u32 a1_0))), (2, (.clo 83 [] [])), (8, (.v (.int .i64 (((List.length a0_0) : Nat) : Int)))), (9, (.v (.int .i64 0)))], []⟩ r1.st)
 (cond (ltI (avInt (frAt r1.st.fr 4).2) (avInt (frAt r1.st.fr 3).2))
 (cond ((leI 0 (avInt (frAt r1.st.fr 4).2)) && (ltI (avInt (frAt r1.st.fr 4).2) (((List.length (avXs (frAt r1.st.fr 0).2)) : Nat) : Int)))
 (cond ((isI .u32 (cellAt (lget (avXs (frAt r1.st.fr 0).2) (Int.toNat (avInt (frAt r1.st.fr 4).2))) 0)) && ((isI .i64 (cellAt (lget (avXs (frAt r1.st.fr 0).2) (Int.toNat (avInt (frAt r1.st.fr 4).2))) 1)) && ((isI .i64 (cellAt (lget (avXs (frAt r1.st.fr 0).2) (Int.toNat (avInt (frAt r1.st.fr 4).2))) 2)) && (isI .i64 (cellAt (lget (avXs (frAt r1.st.fr 0).2) (Int.toNat (avInt (frAt r1.st.fr 4).2))) 3)))))
 ((ev 83 [(.agg [(.v (.int .u32 (avInt (cellAt (lget (avXs (frAt r1.st.fr 0).2) (Int.toNat (avInt (frAt r1.st.fr 4).2))) 0)))), (.v (.int .i64 (avInt (cellAt (lget (avXs (frAt r1.st.fr 0).2) (Int.toNat (avInt (frAt r1.st.fr 4).2))) 1)))), (.v (.int .i64 (avInt (cellAt (lget (avXs (frAt r1.st.fr 0).2) (Int.toNat (avInt (frAt r1.st.fr 4).2))) 2)))), (.v (.int .i64 (avInt (cellAt (lget (avXs (frAt r1.st.fr 0).2) (Int.toNat (avInt (frAt r1.st.fr 4).2))) 3))))]), (.v (.int .u32 (avInt (frAt r1.st.fr 1).2)))]).bind fun r12 =>
 cond (isI .i64 (cellAt r12 0))
 (some [(.v (.int .i64 (avInt (frAt r1.st.fr 4).2))), (.v (.bool ((avInt (cellAt r12 0)) == 0)))])
 (none))
 (none))
 (none))
 (some [(.v (.int .i64 (avInt (frAt r1.st.fr 4).2))), (.v (.bool false))]))
 (none))
 (cond (isRt r1)
 (some r1.outs)
 (none)) := (ev_eq _ _).trans (by kernel_rfl)
theorem lp82_0 (x0n : Bool) (x0 : List (List AV)) (x1 : Int) (x8 : Int) (x9 : Int) (x10 : Int) : lp 82 0 0 ⟨[(0, (.lst x0n 4 x0)), (1, (.v (.int .u32 x1))), (2, (.clo 83 [] [])), (8, (.v (.int .i64 x8))), (9, (.v (.int .i64 x9))), (10, (.v (.int .i64 x10)))], []⟩ =
 cond (ltI x9 x10)
 (cond ((leI 0 (IntKind.wrap .i64 (Int.fdiv (IntKind.wrap .u64 (IntKind.wrap .i64 (x9 + x10))) 2))) && (ltI (IntKind.wrap .i64 (Int.fdiv (IntKind.wrap .u64 (IntKind.wrap .i64 (x9 + x10))) 2)) (((List.length x0) : Nat) : Int)))
 (cond ((isI .u32 (cellAt (lget x0 (Int.toNat (IntKind.wrap .i64 (Int.fdiv (IntKind.wrap .u64 (IntKind.wrap .i64 (x9 + x10))) 2)))) 0)) && ((isI .i64 (cellAt (lget x0 (Int.toNat (IntKind.wrap .i64 (Int.fdiv (IntKind.wrap .u64 (IntKind.wrap .i64 (x9 + x10))) 2)))) 1)) && ((isI .i64 (cellAt (lget x0 (Int.toNat (IntKind.wrap .i64 (Int.fdiv (IntKind.wrap .u64 (IntKind.wrap .i64 (x9 + x10))) 2)))) 2)) && (isI .i64 (cellAt (lget x0 (Int.toNat (IntKind.wrap .i64 (Int.fdiv (IntKind.wrap .u64 (IntKind.wrap .i64 (x9 + x10))) 2)))) 3)))))
 ((ev 83 [(.agg [(.v (.int .u32 (avInt (cellAt (lget x0 (Int.toNat (IntKind.wrap .i64 (Int.fdiv (IntKind.wrap .u64 (IntKind.wrap .i64 (x9 + x10))) 2)))) 0)))), (.v (.int .i64 (avInt (cellAt (lget x0 (Int.toNat (IntKind.wrap .i64 (Int.fdiv (IntKind.wrap .u64 (IntKind.wrap .i64 (x9 + x10))) 2)))) 1)))), (.v (.int .i64 (avInt (cellAt (lget x0 (Int.toNat (IntKind.wrap .i64 (Int.fdiv (IntKind.wrap .u64 (IntKind.wrap .i64 (x9 + x10))) 2)))) 2)))), (.v (.int .i64 (avInt (cellAt (lget x0 (Int.toNat (IntKind.wrap .i64 (Int.fdiv (IntKind.wrap .u64 (IntKind.wrap .i64 (x9 + x10))) 2)))) 3))))]), (.v (.int .u32 x1))]).bind fun r23 =>
 cond (isI .i64 (cellAt r23 0))
 (cond (ltI (avInt (cellAt r23 0)) 0)
 (lp 82 0 0 ⟨[(0, (.lst x0n 4 x0)), (1, (.v (.int .u32 x1))), (2, (.clo 83 [] [])), (8, (.v (.int .i64 x8))), (9, (.v (.int .i64 (IntKind.wrap .i64 ((IntKind.wrap .i64 (Int.fdiv (IntKind.wrap .u64 (IntKind.wrap .i64 (x9 + x10))) 2)) + 1))))), (10, (.v (.int .i64 x10)))], []⟩)
 (lp 82 0 0 ⟨[(0, (.lst x0n 4 x0)), (1, (.v (.int .u32 x1))), (2, (.clo 83 [] [])), (8, (.v (.int .i64 x8))), (9, (.v (.int .i64 x9))), (10, (.v (.int .i64 (IntKind.wrap .i64 (Int.fdiv (IntKind.wrap .u64 (IntKind.wrap .i64 (x9 + x10))) 2)))))], []⟩))
 (none))
 (none))
 (none))
 (some ⟨(some 0), ⟨[(0, (.lst x0n 4 x0)), (1, (.v (.int .u32 x1))), (2, (.clo 83 [] [])), (8, (.v (.int .i64 x8))), (9, (.v (.int .i64 x9)))], []⟩, []⟩) := (lp_eq _ _ _ _).trans (by kernel_rfl)
-- "bodega/serial.find$1"
theorem ev83 (a0_0 : Int) (a0_1 : Int) (a0_2 : Int) (a0_3 : Int) (a1_0 : Int) : ev 83 [(.agg [(.v (.int .u32 a0_0)), (.v (.int .i64 a0_1)), (.v (.int .i64 a0_2)), (.v (.int .i64 a0_3))]), (.v (.int .u32 a1_0))] =
 (ev 84 [(.v (.int .u32 a0_0)), (.v (.int .u32 a1_0))]).bind fun r0 =>
 cond (isI .i64 (cellAt r0 0))
 (some [(.v (.int .i64 (avInt (cellAt r0 0))))])
 (none) := (ev_eq _ _).trans (by kernel_rfl)
-- "cmp.Compare[uint32]"
theorem ev84 (a0_0 : Int) (a1_0 : Int) : ev 84 [(.v (.int .u32 a0_0)), (.v (.int .u32 a1_0))] =
 (ev 97 [(.v (.int .u32 a0_0))]).bind fun r0 =>
 cond (isB (cellAt r0 0))
 ((ev 97 [(.v (.int .u32 a1_0))]).bind fun r2 =>
 cond (isB (cellAt r2 0))
 (cond (avBool (cellAt r0 0))
 (cond (avBool (cellAt r2 0))
 (some [(.v (.int .i64 0))])
 (some [(.v (.int .i64 (-1)))]))
 (cond (avBool (cellAt r2 0))
 (some [(.v (.int .i64 1))])
 (cond (ltI a0_0 a1_0)
 (some [(.v (.int .i64 (-1)))])
 (cond (ltI a1_0 a0_0)
 (some [(.v (.int .i64 1))])
 (some [(.v (.int .i64 0))])))))
 (none))
 (none) := (ev_eq _ _).trans (by kernel_rfl)
-- "cmp.isNaN[uint32]"
theorem ev97 (a0_0 : Int) : ev 97 [(.v (.int .u32 a0_0))] =
 some [(.v (.bool (!(a0_0 == a0_0))))] := (ev_eq _ _).trans (by kernel_rfl)
-- "bodega/query.isTest"
theorem ev88 (a0_0 : Int) (a0_1 : Int) (a0_2 : Int) : ev 88 [(.agg [(.v (.int .i64 a0_0)), (.v (.int .i64 a0_1)), (.v (.int .i64 a0_2))])] =
 cond (leI 1 a0_1)
 (cond (leI a0_1 6)
 ((ev 92 [(.v (.int .i64 a0_0))]).bind fun r2 =>
 cond (isB (cellAt r2 0))
 (some [(.v (.bool (avBool (cellAt r2 0))))])
 (none))
 (some [(.v (.bool false))]))
 (some [(.v (.bool false))]) := (ev_eq _ _).trans (by kernel_rfl)
-- "bodega/query.isColumn"
theorem ev92 (a0_0 : Int) : ev 92 [(.v (.int .i64 a0_0))] =
 cond (leI 0 a0_0)
 (some [(.v (.bool (ltI a0_0 3)))])
 (some [(.v (.bool false))]) := (ev_eq _ _).trans (by kernel_rfl)
-- "slices.Index[[]int,int]"
-- "slices.Contains[[]int,int]"
end Go.Proofs.Ytnhahcomgeeobaa
