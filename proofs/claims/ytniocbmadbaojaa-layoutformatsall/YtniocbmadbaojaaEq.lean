/- The functions of the chapter, as the evaluator has them. -/
import Derived.Test.YtniocbmadbaojaaRows
import Derived.Test.YtniocbmadbaojaaEv10
set_option linter.all false
namespace Go.Proofs.Ytniocbmadbaojaa
open Go.Ev
def rwF : FuncId → List Bool
 | 32 => [true] | 33 => [true] | 35 => [true] | 49 => [true] | _ => []
def stepN (r : Nat) : Nat := bif Nat.beq (r % 2) 1 then Nat.xor (r / 2) 14514072000185962306 else r / 2
def tabN (i : Nat) : Nat := stepN (stepN (stepN (stepN (stepN (stepN (stepN (stepN i)))))))
def tabL : List AV := (List.range 256).map fun i => .v (.int .u64 (tabN i : Nat))
def extF : FuncId → Option (List AV → Option (List AV))
 | 65 => some fun l => match l with | [] => some [.agg tabL] | _ => none
 | _ => none
def cfg : Cfg := { rw := rwF, dat := fun _ => false, inl := fun f => Nat.beq f 43, roll := fun f => bif Nat.beq f 49 then 8 else 0, join := fun _ => false, ext := extF }
noncomputable def ev (f : FuncId) (args : List AV) : Option (List AV) := evL Try.prog cfg f args
noncomputable def lp (f k nr : Nat) (s : St) : Option LR := lpL Try.prog cfg f k nr s
theorem ev_eq (f : FuncId) (args : List AV) : ev f args = evTop cfg f args (evBodyG Try.prog cfg (callX Try.prog cfg) (inlD Try.prog cfg (callX Try.prog cfg) 5) (loopL Try.prog cfg f) f args) := evL_eqX f args
theorem lp_eq (f k nr : Nat) (s : St) : lp f k nr s = evRound Try.prog cfg (callX Try.prog cfg) (inlD Try.prog cfg (callX Try.prog cfg) 5) (loopL Try.prog cfg f) (cfg.roll f) (cfg.join f) (loopAt Try.prog f k).1 (loopAt Try.prog f k).2 (retAt Try.prog cfg f nr) s := loopL_eqX f _ _ _ s
theorem ev10 (a0_0 : Int) : ev 10 [(.v (.int .i64 a0_0))] =
 cond (ltI a0_0 1)
 (some [(.v (.int .u64 0)), (.v (.int .i64 2))])
 (cond (ltI 5 a0_0)
 (some [(.v (.int .u64 0)), (.v (.int .i64 2))])
 ((lp 10 0 0 ⟨[(4, (.v (.int .u64 549755813888))), (12, (.v (.int .i64 a0_0))), (13, (.v (.int .i64 0)))], []⟩).bind fun r2 =>
 cond (isEx 0 r2)
 (cond (likeStG ⟨[(4, (.v (.int .u64 549755813888)))], []⟩ r2.st)
 (some [(.v (.int .u64 (avInt (frAt r2.st.fr 0).2))), (.v (.int .i64 0))])
 (none))
 (cond (isRt r2)
 (some r2.outs)
 (none)))) := (ev_eq _ _).trans (by kernel_rfl)
theorem ev13 (a0_0 : Int) : ev 13 [(.v (.int .i64 a0_0))] =
 (ev 44 [(.v (.int .i64 a0_0))]).bind fun r0 =>
 cond (isB (cellAt r0 0))
 (cond (!(avBool (cellAt r0 0)))
 (some [(.v (.int .i64 (-1)))])
 (some [(.v (.int .i64 (IntKind.wrap .i64 (24 + a0_0))))]))
 (none) := (ev_eq _ _).trans (by kernel_rfl)
theorem ev26 (a0_0 : Int) : ev 26 [(.v (.int .i64 a0_0))] =
 cond (ltI a0_0 96)
 (some [(.v (.int .i64 (-1)))])
 (cond (leI 256 a0_0)
 (some [(.v (.int .i64 (-1)))])
 (some [(.v (.int .i64 (IntKind.wrap .i64 (a0_0 * 8))))])) := (ev_eq _ _).trans (by kernel_rfl)
theorem ev30 (a0_0 : Int) : ev 30 [(.v (.int .i64 a0_0))] =
 cond (ltI a0_0 1)
 (some [(.v (.int .i64 0))])
 (cond (ltI 256 a0_0)
 (some [(.v (.int .i64 0))])
 (some [(.v (.int .i64 (IntKind.wrap .i64 (a0_0 * 8))))])) := (ev_eq _ _).trans (by kernel_rfl)
theorem ev31 (a0_0 : Int) : ev 31 [(.v (.int .i64 a0_0))] =
 cond (ltI a0_0 1)
 (some [(.v (.pointer none)), (.v (.int .i64 2))])
 (cond (ltI 256 a0_0)
 (some [(.v (.pointer none)), (.v (.int .i64 2))])
 (cond ((((leI 0 (IntKind.wrap .i64 (a0_0 * 8))) && (leI (IntKind.wrap .i64 (a0_0 * 8)) (IntKind.wrap .i64 (a0_0 * 8)))) && (leI ((IntKind.wrap .i64 (a0_0 * 8)) * 8) 281474976710656)) && (leI (IntKind.wrap .i64 (a0_0 * 8)) 281474976710656))
 (some [(.ob 61 [(.ow false 29 1 (List.replicate (Int.toNat (IntKind.wrap .i64 (a0_0 * 8))) ([(.v (.int .u64 0))] : List AV))), (.v (.bool false))]), (.v (.int .i64 0))])
 (none))) := (ev_eq _ _).trans (by kernel_rfl)
theorem ev32 (a0_0_0n : Bool) (a0_0_0 : List (List AV)) (a0_0_1 : Bool) (a1_0 : Int) (a2_0n : Bool) (a2_0 : List (List AV)) : ev 32 [(.ob 61 [(.ow a0_0_0n 29 1 a0_0_0), (.v (.bool a0_0_1))]), (.v (.int .i64 a1_0)), (.lst a2_0n 1 a2_0)] =
 (ev 47 [(.ep [(.lst a0_0_0n 1 a0_0_0), (.v (.bool a0_0_1))] 0), (.v (.int .i64 a1_0)), (.v (.int .i64 (((List.length a2_0) : Nat) : Int)))]).bind fun r1 =>
 cond (isI .i64 (cellAt r1 0))
 (cond (!((avInt (cellAt r1 0)) == 0))
 (some [(.v (.int .i64 (avInt (cellAt r1 0)))), (.ob 61 [(.ow a0_0_0n 29 1 a0_0_0), (.v (.bool a0_0_1))])])
 (cond ((leI 0 a1_0) && (leI a1_0 ((((List.length a0_0_0) - 0) : Nat) : Int)))
 (some [(.v (.int .i64 0)), (.ob 61 [(.ow a0_0_0n 29 1 (((List.take (0 + (Int.toNat a1_0)) a0_0_0) ++ (List.take (min (List.length a2_0) ((List.length a0_0_0) - (0 + (Int.toNat a1_0)))) a2_0)) ++ (List.drop ((0 + (Int.toNat a1_0)) + (min (List.length a2_0) ((List.length a0_0_0) - (0 + (Int.toNat a1_0))))) a0_0_0))), (.v (.bool a0_0_1))])])
 (none)))
 (none) := (ev_eq _ _).trans (by kernel_rfl)
theorem ev33 (a0_0_0n : Bool) (a0_0_0 : List (List AV)) (a0_0_1 : Bool) : ev 33 [(.ob 61 [(.ow a0_0_0n 29 1 a0_0_0), (.v (.bool a0_0_1))])] =
 some [(.ob 61 [(.ow a0_0_0n 29 1 a0_0_0), (.v (.bool true))])] := (ev_eq _ _).trans (by kernel_rfl)
theorem ev34 (a0_0_0n : Bool) (a0_0_0 : List (List AV)) (a0_0_1 : Bool) : ev 34 [(.ep [(.lst a0_0_0n 1 a0_0_0), (.v (.bool a0_0_1))] 0)] =
 (ev 48 [(.ep [(.lst a0_0_0n 1 a0_0_0), (.v (.bool a0_0_1))] 0)]).bind fun r0 =>
 cond (isI .i64 (cellAt r0 0))
 ((ev 48 [(.ep [(.lst a0_0_0n 1 a0_0_0), (.v (.bool a0_0_1))] 0)]).bind fun r3 =>
 cond (isI .i64 (cellAt r3 0))
 (cond a0_0_1
 ((lp 34 0 0 ⟨[(3, (.sl false 0 0 none)), (26, (.lst a0_0_0n 1 a0_0_0)), (27, (.v (.int .i64 (((List.length a0_0_0) : Nat) : Int)))), (28, (.v (.int .i64 0)))], [⟨1, 5, 1, false, [[(.v (.int .u8 77))], [(.v (.int .u8 69))], [(.v (.int .u8 77))], [(.v (.int .u8 49))], [(.v (.int .u8 (IntKind.wrap .u8 (avInt (cellAt r0 0)))))], [(.v (.int .u8 (IntKind.wrap .u8 (Int.fdiv (avInt (cellAt r3 0)) 256))))], [(.v (.int .u8 0))]]⟩]⟩).bind fun r10 =>
 cond (isEx 0 r10)
 (cond (likeStG ⟨[(3, (.sl false 0 0 none))], [⟨1, 5, 1, false, [[(.v (.int .u8 77))], [(.v (.int .u8 69))], [(.v (.int .u8 77))], [(.v (.int .u8 49))], [(.v (.int .u8 (IntKind.wrap .u8 (avInt (cellAt r0 0)))))], [(.v (.int .u8 (IntKind.wrap .u8 (Int.fdiv (avInt (cellAt r3 0)) 256))))], [(.v (.int .u8 0))]]⟩]⟩ r10.st)
 ((ev 50 [(.lst (avNil (frAt r10.st.fr 0).2) 1 (blAt r10.st.bl 0).xs)]).bind fun r13 =>
 cond (isI .u64 (cellAt r13 0))
 ((ev 49 [(.ow (avNil (frAt r10.st.fr 0).2) 5 1 (blAt r10.st.bl 0).xs), (.v (.int .u64 (avInt (cellAt r13 0))))]).bind fun r15 =>
 cond (isOw 5 1 (cellAt r15 0))
 (some [(.ow (avNil (cellAt r15 0)) 5 1 (avXs (cellAt r15 0)))])
 (none))
 (none))
 (none))
 (cond (isRt r10)
 (some r10.outs)
 (none)))
 ((lp 34 0 0 ⟨[(3, (.sl false 0 0 none)), (26, (.lst a0_0_0n 1 a0_0_0)), (27, (.v (.int .i64 (((List.length a0_0_0) : Nat) : Int)))), (28, (.v (.int .i64 0)))], [⟨1, 5, 1, false, [[(.v (.int .u8 77))], [(.v (.int .u8 69))], [(.v (.int .u8 77))], [(.v (.int .u8 49))], [(.v (.int .u8 (IntKind.wrap .u8 (avInt (cellAt r0 0)))))], [(.v (.int .u8 (IntKind.wrap .u8 (Int.fdiv (avInt (cellAt r3 0)) 256))))], [(.v (.int .u8 1))]]⟩]⟩).bind fun r22 =>
 cond (isEx 0 r22)
 (cond (likeStG ⟨[(3, (.sl false 0 0 none))], [⟨1, 5, 1, false, [[(.v (.int .u8 77))], [(.v (.int .u8 69))], [(.v (.int .u8 77))], [(.v (.int .u8 49))], [(.v (.int .u8 (IntKind.wrap .u8 (avInt (cellAt r0 0)))))], [(.v (.int .u8 (IntKind.wrap .u8 (Int.fdiv (avInt (cellAt r3 0)) 256))))], [(.v (.int .u8 1))]]⟩]⟩ r22.st)
 ((ev 50 [(.lst (avNil (frAt r22.st.fr 0).2) 1 (blAt r22.st.bl 0).xs)]).bind fun r25 =>
 cond (isI .u64 (cellAt r25 0))
 ((ev 49 [(.ow (avNil (frAt r22.st.fr 0).2) 5 1 (blAt r22.st.bl 0).xs), (.v (.int .u64 (avInt (cellAt r25 0))))]).bind fun r27 =>
 cond (isOw 5 1 (cellAt r27 0))
 (some [(.ow (avNil (cellAt r27 0)) 5 1 (avXs (cellAt r27 0)))])
 (none))
 (none))
 (none))
 (cond (isRt r22)
 (some r22.outs)
 (none))))
 (none))
 (none) := (ev_eq _ _).trans (by kernel_rfl)
theorem lp34_0 (x3n : Bool) (x26n : Bool) (x26 : List (List AV)) (x27 : Int) (x28 : Int) (b0 : List (List AV)) : lp 34 0 0 ⟨[(3, (.sl x3n 0 0 none)), (26, (.lst x26n 1 x26)), (27, (.v (.int .i64 x27))), (28, (.v (.int .i64 x28)))], [⟨1, 5, 1, false, b0⟩]⟩ =
 cond (ltI x28 x27)
 (cond ((leI 0 x28) && (ltI x28 (((List.length x26) : Nat) : Int)))
 (cond (isI .u64 (cellAt (lget x26 (Int.toNat x28)) 0))
 ((ev 49 [(.ow x3n 5 1 b0), (.v (.int .u64 (avInt (cellAt (lget x26 (Int.toNat x28)) 0))))]).bind fun r32 =>
 cond (isOw 5 1 (cellAt r32 0))
 (lp 34 0 0 ⟨[(3, (.sl (avNil (cellAt r32 0)) 0 0 none)), (26, (.lst x26n 1 x26)), (27, (.v (.int .i64 x27))), (28, (.v (.int .i64 (IntKind.wrap .i64 (x28 + 1)))))], [⟨1, 5, 1, false, (avXs (cellAt r32 0))⟩]⟩)
 (none))
 (none))
 (none))
 (some ⟨(some 0), ⟨[(3, (.sl x3n 0 0 none))], [⟨1, 5, 1, false, b0⟩]⟩, []⟩) := (lp_eq _ _ _ _).trans (by kernel_rfl)
theorem ev35 (a0_0_0n : Bool) (a0_0_0 : List (List AV)) (a0_0_1 : Bool) (a1_0 : Int) : ev 35 [(.ob 61 [(.ow a0_0_0n 29 1 a0_0_0), (.v (.bool a0_0_1))]), (.v (.int .i64 a1_0))] =
 (ev 10 [(.v (.int .i64 a1_0))]).bind fun r0 =>
 cond (isI .u64 (cellAt r0 0))
 (cond (isI .i64 (cellAt r0 1))
 (cond (!((avInt (cellAt r0 1)) == 0))
 (some [(.v (.int .i64 1)), (.ob 61 [(.ow a0_0_0n 29 1 a0_0_0), (.v (.bool a0_0_1))])])
 ((ev 48 [(.ep [(.lst a0_0_0n 1 a0_0_0), (.v (.bool a0_0_1))] 0)]).bind fun r4 =>
 cond (isI .i64 (cellAt r4 0))
 (cond (ltI (avInt (cellAt r4 0)) 98)
 (some [(.v (.int .i64 18)), (.ob 61 [(.ow a0_0_0n 29 1 a0_0_0), (.v (.bool a0_0_1))])])
 ((ev 51 [(.ep [(.lst a0_0_0n 1 a0_0_0), (.v (.bool a0_0_1))] 0)]).bind fun r7 =>
 cond (isB (cellAt r7 0))
 (cond (!(avBool (cellAt r7 0)))
 (some [(.v (.int .i64 4)), (.ob 61 [(.ow a0_0_0n 29 1 a0_0_0), (.v (.bool a0_0_1))])])
 ((ev 48 [(.ep [(.lst a0_0_0n 1 a0_0_0), (.v (.bool a0_0_1))] 0)]).bind fun r10 =>
 cond (isI .i64 (cellAt r10 0))
 ((ev 30 [(.v (.int .i64 (avInt (cellAt r10 0))))]).bind fun r12 =>
 cond (isI .i64 (cellAt r12 0))
 (cond ((((leI 0 (avInt (cellAt r12 0))) && (leI (avInt (cellAt r12 0)) (avInt (cellAt r12 0)))) && (leI ((avInt (cellAt r12 0)) * 8) 281474976710656)) && (leI (avInt (cellAt r12 0)) 281474976710656))
 ((ev 52 [(.v (.int .i64 0)), (.v (.bool true))]).bind fun r15 =>
 cond (isI .u64 (cellAt r15 0))
 (cond (isI .i64 (cellAt r15 1))
 (cond (true && (ltI 0 ((((List.length (List.replicate (Int.toNat (avInt (cellAt r12 0))) ([(.v (.int .u64 0))] : List AV))) - 0) : Nat) : Int)))
 (cond (ltN 0 (List.length (List.replicate (Int.toNat (avInt (cellAt r12 0))) ([(.v (.int .u64 0))] : List AV))))
 (cond (true && (ltI 1 ((((List.length (List.set (List.replicate (Int.toNat (avInt (cellAt r12 0))) ([(.v (.int .u64 0))] : List AV)) 0 [(.v (.int .u64 (avInt (cellAt r15 0))))])) - 0) : Nat) : Int)))
 (cond (ltN 1 (List.length (List.set (List.replicate (Int.toNat (avInt (cellAt r12 0))) ([(.v (.int .u64 0))] : List AV)) 0 [(.v (.int .u64 (avInt (cellAt r15 0))))])))
 ((ev 18 [(.v (.int .i64 0))]).bind fun r20 =>
 cond (isI .i64 (cellAt r20 0))
 ((ev 53 [(.v (.int .u64 1)), (.v (.int .u64 1)), (.v (.int .u64 (avInt (cellAt r0 0))))]).bind fun r22 =>
 cond (isI .u64 (cellAt r22 0))
 (cond (isI .i64 (cellAt r22 1))
 (cond ((leI 0 (avInt (cellAt r20 0))) && (ltI (avInt (cellAt r20 0)) ((((List.length (List.set (List.set (List.replicate (Int.toNat (avInt (cellAt r12 0))) ([(.v (.int .u64 0))] : List AV)) 0 [(.v (.int .u64 (avInt (cellAt r15 0))))]) 1 [(.v (.int .u64 1))])) - 0) : Nat) : Int)))
 (cond (ltN (0 + (Int.toNat (avInt (cellAt r20 0)))) (List.length (List.set (List.set (List.replicate (Int.toNat (avInt (cellAt r12 0))) ([(.v (.int .u64 0))] : List AV)) 0 [(.v (.int .u64 (avInt (cellAt r15 0))))]) 1 [(.v (.int .u64 1))])))
 ((lp 35 0 1 ⟨[(0, (.ptr 0 0 0)), (7, (.sl false 2 0 none)), (46, (.v (.int .i64 0))), (1000000, (.ptr 0 0 0))], [⟨1, 61, 2, true, [[(.sl a0_0_0n 1 0 none), (.v (.bool a0_0_1))]]⟩, ⟨1, 29, 1, false, a0_0_0⟩, ⟨1, 29, 1, false, (List.set (List.set (List.set (List.replicate (Int.toNat (avInt (cellAt r12 0))) ([(.v (.int .u64 0))] : List AV)) 0 [(.v (.int .u64 (avInt (cellAt r15 0))))]) 1 [(.v (.int .u64 1))]) (0 + (Int.toNat (avInt (cellAt r20 0)))) [(.v (.int .u64 (avInt (cellAt r22 0))))])⟩]⟩).bind fun r27 =>
 cond (isEx 1 r27)
 (cond (likeStG ⟨[(0, (.ptr 0 0 0)), (7, (.sl false 2 0 none)), (1000000, (.ptr 0 0 0))], [⟨1, 61, 2, true, [[(.sl a0_0_0n 1 0 none), (.v (.bool a0_0_1))]]⟩, ⟨1, 29, 1, false, a0_0_0⟩, ⟨1, 29, 1, false, (List.set (List.set (List.set (List.replicate (Int.toNat (avInt (cellAt r12 0))) ([(.v (.int .u64 0))] : List AV)) 0 [(.v (.int .u64 (avInt (cellAt r15 0))))]) 1 [(.v (.int .u64 1))]) (0 + (Int.toNat (avInt (cellAt r20 0)))) [(.v (.int .u64 (avInt (cellAt r22 0))))])⟩]⟩ r27.st)
 ((lp 35 1 1 ⟨[(0, (.ptr 0 0 0)), (7, (.sl (avNil (frAt r27.st.fr 1).2) 2 0 none)), (9, (.v (.int .i64 96))), (1000000, (.ptr 0 0 0))], [⟨1, 61, 2, true, [[(.sl (avNil (cellAt (lget (blAt r27.st.bl 0).xs 0) 0)) 1 0 none), (.v (.bool (avBool (cellAt (lget (blAt r27.st.bl 0).xs 0) 1))))]]⟩, ⟨1, 29, 1, false, (blAt r27.st.bl 1).xs⟩, ⟨1, 29, 1, false, (blAt r27.st.bl 2).xs⟩]⟩).bind fun r33 =>
 cond (isEx 3 r33)
 (cond (likeStG ⟨[(0, (.ptr 0 0 0)), (7, (.sl (avNil (frAt r27.st.fr 1).2) 2 0 none)), (1000000, (.ptr 0 0 0))], [⟨1, 61, 2, true, [[(.sl (avNil (cellAt (lget (blAt r27.st.bl 0).xs 0) 0)) 1 0 none), (.v (.bool (avBool (cellAt (lget (blAt r27.st.bl 0).xs 0) 1))))]]⟩, ⟨1, 29, 1, false, (blAt r27.st.bl 1).xs⟩, ⟨1, 29, 1, false, (blAt r27.st.bl 2).xs⟩]⟩ r33.st)
 ((ev 32 [(.ob 61 [(.ow (avNil (cellAt (lget (blAt r33.st.bl 0).xs 0) 0)) 29 1 (blAt r33.st.bl 1).xs), (.v (.bool (avBool (cellAt (lget (blAt r33.st.bl 0).xs 0) 1))))]), (.v (.int .i64 0)), (.lst (avNil (frAt r33.st.fr 1).2) 1 (blAt r33.st.bl 2).xs)]).bind fun r39 =>
 cond (isI .i64 (cellAt r39 0))
 (cond (((isOb 61 (cellAt r39 1)) && (Nat.beq (List.length (obCells (cellAt r39 1))) 2)) && (likeG [(.ow (avNil (cellAt (lget (blAt r33.st.bl 0).xs 0) 0)) 29 1 (blAt r33.st.bl 1).xs), (.v (.bool (avBool (cellAt (lget (blAt r33.st.bl 0).xs 0) 1))))] 0 (obCells (cellAt r39 1))))
 (cond (false || (true && ((List.all (avXs (cellAt (obCells (cellAt r39 1)) 0)) rowV) && true)))
 (some [(.v (.int .i64 (avInt (cellAt r39 0)))), (.ob 61 [(.ow (avNil (cellAt (obCells (cellAt r39 1)) 0)) 29 1 (avXs (cellAt (obCells (cellAt r39 1)) 0))), (.v (.bool (avBool (cellAt (obCells (cellAt r39 1)) 1))))])])
 (none))
 (none))
 (none))
 (none))
 (cond (isRt r33)
 (some r33.outs)
 (none)))
 (none))
 (cond (isRt r27)
 (some r27.outs)
 (none)))
 (none))
 (none))
 (none))
 (none))
 (none))
 (none))
 (none))
 (none))
 (none))
 (none))
 (none))
 (none))
 (none))
 (none)))
 (none)))
 (none)))
 (none))
 (none) := (ev_eq _ _).trans (by kernel_rfl)
theorem lp35_0 (x7n : Bool) (x46 : Int) (b0_0n : Bool) (b0_1 : Bool) (b1 : List (List AV)) (b2 : List (List AV)) : lp 35 0 1 ⟨[(0, (.ptr 0 0 0)), (7, (.sl x7n 2 0 none)), (46, (.v (.int .i64 x46))), (1000000, (.ptr 0 0 0))], [⟨1, 61, 2, true, [[(.sl b0_0n 1 0 none), (.v (.bool b0_1))]]⟩, ⟨1, 29, 1, false, b1⟩, ⟨1, 29, 1, false, b2⟩]⟩ =
 cond (ltI x46 6)
 ((ev 12 [(.v (.int .i64 x46))]).bind fun r45 =>
 cond (isI .i64 (cellAt r45 0))
 (cond ((leI 0 (avInt (cellAt r45 0))) && (ltI (avInt (cellAt r45 0)) ((((List.length b2) - 0) : Nat) : Int)))
 (cond (ltN (0 + (Int.toNat (avInt (cellAt r45 0)))) (List.length b2))
 (lp 35 0 1 ⟨[(0, (.ptr 0 0 0)), (7, (.sl x7n 2 0 none)), (46, (.v (.int .i64 (IntKind.wrap .i64 (x46 + 1))))), (1000000, (.ptr 0 0 0))], [⟨1, 61, 2, true, [[(.sl b0_0n 1 0 none), (.v (.bool b0_1))]]⟩, ⟨1, 29, 1, false, b1⟩, ⟨1, 29, 1, false, (List.set b2 (0 + (Int.toNat (avInt (cellAt r45 0)))) [(.v (.int .u64 1))])⟩]⟩)
 (none))
 (none))
 (none))
 (some ⟨(some 1), ⟨[(0, (.ptr 0 0 0)), (7, (.sl x7n 2 0 none)), (1000000, (.ptr 0 0 0))], [⟨1, 61, 2, true, [[(.sl b0_0n 1 0 none), (.v (.bool b0_1))]]⟩, ⟨1, 29, 1, false, b1⟩, ⟨1, 29, 1, false, b2⟩]⟩, []⟩) := (lp_eq _ _ _ _).trans (by kernel_rfl)
theorem lp35_1 (x7n : Bool) (x9 : Int) (b0_0n : Bool) (b0_1 : Bool) (b1 : List (List AV)) (b2 : List (List AV)) : lp 35 1 1 ⟨[(0, (.ptr 0 0 0)), (7, (.sl x7n 2 0 none)), (9, (.v (.int .i64 x9))), (1000000, (.ptr 0 0 0))], [⟨1, 61, 2, true, [[(.sl b0_0n 1 0 none), (.v (.bool b0_1))]]⟩, ⟨1, 29, 1, false, b1⟩, ⟨1, 29, 1, false, b2⟩]⟩ =
 (ev 48 [(.ep [(.lst b0_0n 1 b1), (.v (.bool b0_1))] 0)]).bind fun r50 =>
 cond (isI .i64 (cellAt r50 0))
 (cond (ltI x9 (avInt (cellAt r50 0)))
 ((ev 26 [(.v (.int .i64 x9))]).bind fun r52 =>
 cond (isI .i64 (cellAt r52 0))
 ((ev 54 [(.v (.int .u64 1)), (.v (.int .i64 0))]).bind fun r54 =>
 cond (isI .u64 (cellAt r54 0))
 (cond (isI .i64 (cellAt r54 1))
 (cond ((leI 0 (avInt (cellAt r52 0))) && (ltI (avInt (cellAt r52 0)) ((((List.length b2) - 0) : Nat) : Int)))
 (cond (ltN (0 + (Int.toNat (avInt (cellAt r52 0)))) (List.length b2))
 (lp 35 1 1 ⟨[(0, (.ptr 0 0 0)), (7, (.sl x7n 2 0 none)), (9, (.v (.int .i64 (IntKind.wrap .i64 (x9 + 1))))), (1000000, (.ptr 0 0 0))], [⟨1, 61, 2, true, [[(.sl b0_0n 1 0 none), (.v (.bool b0_1))]]⟩, ⟨1, 29, 1, false, b1⟩, ⟨1, 29, 1, false, (List.set b2 (0 + (Int.toNat (avInt (cellAt r52 0)))) [(.v (.int .u64 (avInt (cellAt r54 0))))])⟩]⟩)
 (none))
 (none))
 (none))
 (none))
 (none))
 (some ⟨(some 3), ⟨[(0, (.ptr 0 0 0)), (7, (.sl x7n 2 0 none)), (1000000, (.ptr 0 0 0))], [⟨1, 61, 2, true, [[(.sl b0_0n 1 0 none), (.v (.bool b0_1))]]⟩, ⟨1, 29, 1, false, b1⟩, ⟨1, 29, 1, false, b2⟩]⟩, []⟩))
 (none) := (lp_eq _ _ _ _).trans (by kernel_rfl)
theorem ev37 (a0_0 : Int) (a1_0 : Int) : ev 37 [(.v (.int .i64 a0_0)), (.v (.int .i64 a1_0))] =
 cond ((((leI 0 (IntKind.wrap .i64 (a1_0 * 8))) && (leI (IntKind.wrap .i64 (a1_0 * 8)) (IntKind.wrap .i64 (a1_0 * 8)))) && (leI ((IntKind.wrap .i64 (a1_0 * 8)) * 8) 281474976710656)) && (leI (IntKind.wrap .i64 (a1_0 * 8)) 281474976710656))
 (cond (true && (ltI 0 ((((List.length (List.replicate (Int.toNat (IntKind.wrap .i64 (a1_0 * 8))) ([(.v (.int .u64 0))] : List AV))) - 0) : Nat) : Int)))
 (cond (ltN 0 (List.length (List.replicate (Int.toNat (IntKind.wrap .i64 (a1_0 * 8))) ([(.v (.int .u64 0))] : List AV))))
 (cond (true && (ltI 1 ((((List.length (List.set (List.replicate (Int.toNat (IntKind.wrap .i64 (a1_0 * 8))) ([(.v (.int .u64 0))] : List AV)) 0 [(.v (.int .u64 1))])) - 0) : Nat) : Int)))
 (cond (ltN 1 (List.length (List.set (List.replicate (Int.toNat (IntKind.wrap .i64 (a1_0 * 8))) ([(.v (.int .u64 0))] : List AV)) 0 [(.v (.int .u64 1))])))
 ((ev 11 [(.v (.int .i64 a0_0))]).bind fun r4 =>
 cond (isI .u64 (cellAt r4 0))
 (cond (isI .i64 (cellAt r4 1))
 ((ev 19 [(.v (.int .i64 0))]).bind fun r7 =>
 cond (isI .i64 (cellAt r7 0))
 (cond ((leI 0 (avInt (cellAt r7 0))) && (ltI (avInt (cellAt r7 0)) ((((List.length (List.set (List.set (List.replicate (Int.toNat (IntKind.wrap .i64 (a1_0 * 8))) ([(.v (.int .u64 0))] : List AV)) 0 [(.v (.int .u64 1))]) 1 [(.v (.int .u64 1))])) - 0) : Nat) : Int)))
 (cond (ltN (0 + (Int.toNat (avInt (cellAt r7 0)))) (List.length (List.set (List.set (List.replicate (Int.toNat (IntKind.wrap .i64 (a1_0 * 8))) ([(.v (.int .u64 0))] : List AV)) 0 [(.v (.int .u64 1))]) 1 [(.v (.int .u64 1))])))
 ((lp 37 0 0 ⟨[(1, (.v (.int .i64 a1_0))), (5, (.sl false 0 0 none)), (8, (.v (.int .i64 0)))], [⟨1, 29, 1, false, (List.set (List.set (List.set (List.replicate (Int.toNat (IntKind.wrap .i64 (a1_0 * 8))) ([(.v (.int .u64 0))] : List AV)) 0 [(.v (.int .u64 1))]) 1 [(.v (.int .u64 1))]) (0 + (Int.toNat (avInt (cellAt r7 0)))) [(.v (.int .u64 (bits .or .u64 4504699138998272 (avInt (cellAt r4 0)))))])⟩]⟩).bind fun r12 =>
 cond (isEx 0 r12)
 (cond (likeStG ⟨[(1, (.v (.int .i64 a1_0))), (5, (.sl false 0 0 none))], [⟨1, 29, 1, false, (List.set (List.set (List.set (List.replicate (Int.toNat (IntKind.wrap .i64 (a1_0 * 8))) ([(.v (.int .u64 0))] : List AV)) 0 [(.v (.int .u64 1))]) 1 [(.v (.int .u64 1))]) (0 + (Int.toNat (avInt (cellAt r7 0)))) [(.v (.int .u64 (bits .or .u64 4504699138998272 (avInt (cellAt r4 0)))))])⟩]⟩ r12.st)
 ((lp 37 1 0 ⟨[(1, (.v (.int .i64 (avInt (frAt r12.st.fr 0).2)))), (5, (.sl (avNil (frAt r12.st.fr 1).2) 0 0 none)), (9, (.v (.int .i64 96)))], [⟨1, 29, 1, false, (blAt r12.st.bl 0).xs⟩]⟩).bind fun r16 =>
 cond (isEx 2 r16)
 (cond (likeStG ⟨[(5, (.sl (avNil (frAt r12.st.fr 1).2) 0 0 none))], [⟨1, 29, 1, false, (blAt r12.st.bl 0).xs⟩]⟩ r16.st)
 (some [(.ow (avNil (frAt r16.st.fr 0).2) 29 1 (blAt r16.st.bl 0).xs)])
 (none))
 (cond (isRt r16)
 (some r16.outs)
 (none)))
 (none))
 (cond (isRt r12)
 (some r12.outs)
 (none)))
 (none))
 (none))
 (none))
 (none))
 (none))
 (none))
 (none))
 (none))
 (none))
 (none) := (ev_eq _ _).trans (by kernel_rfl)
theorem lp37_0 (x1 : Int) (x5n : Bool) (x8 : Int) (b0 : List (List AV)) : lp 37 0 0 ⟨[(1, (.v (.int .i64 x1))), (5, (.sl x5n 0 0 none)), (8, (.v (.int .i64 x8)))], [⟨1, 29, 1, false, b0⟩]⟩ =
 cond (ltI x8 6)
 ((ev 13 [(.v (.int .i64 x8))]).bind fun r19 =>
 cond (isI .i64 (cellAt r19 0))
 (cond ((leI 0 (avInt (cellAt r19 0))) && (ltI (avInt (cellAt r19 0)) ((((List.length b0) - 0) : Nat) : Int)))
 (cond (ltN (0 + (Int.toNat (avInt (cellAt r19 0)))) (List.length b0))
 (lp 37 0 0 ⟨[(1, (.v (.int .i64 x1))), (5, (.sl x5n 0 0 none)), (8, (.v (.int .i64 (IntKind.wrap .i64 (x8 + 1)))))], [⟨1, 29, 1, false, (List.set b0 (0 + (Int.toNat (avInt (cellAt r19 0)))) [(.v (.int .u64 1))])⟩]⟩)
 (none))
 (none))
 (none))
 (some ⟨(some 0), ⟨[(1, (.v (.int .i64 x1))), (5, (.sl x5n 0 0 none))], [⟨1, 29, 1, false, b0⟩]⟩, []⟩) := (lp_eq _ _ _ _).trans (by kernel_rfl)
theorem lp37_1 (x1 : Int) (x5n : Bool) (x9 : Int) (b0 : List (List AV)) : lp 37 1 0 ⟨[(1, (.v (.int .i64 x1))), (5, (.sl x5n 0 0 none)), (9, (.v (.int .i64 x9)))], [⟨1, 29, 1, false, b0⟩]⟩ =
 cond (ltI x9 x1)
 (cond ((leI 0 (IntKind.wrap .i64 (x9 * 8))) && (ltI (IntKind.wrap .i64 (x9 * 8)) ((((List.length b0) - 0) : Nat) : Int)))
 (cond (ltN (0 + (Int.toNat (IntKind.wrap .i64 (x9 * 8)))) (List.length b0))
 (lp 37 1 0 ⟨[(1, (.v (.int .i64 x1))), (5, (.sl x5n 0 0 none)), (9, (.v (.int .i64 (IntKind.wrap .i64 (x9 + 1)))))], [⟨1, 29, 1, false, (List.set b0 (0 + (Int.toNat (IntKind.wrap .i64 (x9 * 8)))) [(.v (.int .u64 256))])⟩]⟩)
 (none))
 (none))
 (some ⟨(some 2), ⟨[(5, (.sl x5n 0 0 none))], [⟨1, 29, 1, false, b0⟩]⟩, []⟩) := (lp_eq _ _ _ _).trans (by kernel_rfl)
theorem ev38 (a0_0n : Bool) (a0_0 : List (List AV)) (a1_0_0n : Bool) (a1_0_0 : List (List AV)) (a1_0_1 : Bool) : ev 38 [(.lst a0_0n 1 a0_0), (.ep [(.lst a1_0_0n 1 a1_0_0), (.v (.bool a1_0_1))] 0)] =
 cond (List.all a0_0 Ev.isByte)
 ((ev 55 [(.ep [(.lst a1_0_0n 1 a1_0_0), (.v (.bool a1_0_1))] 0)]).bind fun r1 =>
 cond (isOw 5 1 (cellAt r1 0))
 (cond (List.all (avXs (cellAt r1 0)) Ev.isByte)
 (some [(.v (.bool ((ByteArray.toList ⟨(List.map Ev.byteOf a0_0).toArray⟩) == (ByteArray.toList ⟨(List.map Ev.byteOf (avXs (cellAt r1 0))).toArray⟩))))])
 (none))
 (none))
 (none) := (ev_eq _ _).trans (by kernel_rfl)
theorem ev42 (a0_0 : Int) : ev 42 [(.v (.int .i64 a0_0))] =
 cond ((((leI 0 (IntKind.wrap .i64 (a0_0 * 8))) && (leI (IntKind.wrap .i64 (a0_0 * 8)) (IntKind.wrap .i64 (a0_0 * 8)))) && (leI ((IntKind.wrap .i64 (a0_0 * 8)) * 8) 281474976710656)) && (leI (IntKind.wrap .i64 (a0_0 * 8)) 281474976710656))
 (some [(.agg [(.lst false 1 (List.replicate (Int.toNat (IntKind.wrap .i64 (a0_0 * 8))) ([(.v (.int .u64 0))] : List AV))), (.v (.bool true))])])
 (none) := (ev_eq _ _).trans (by kernel_rfl)
theorem ev44 (a0_0 : Int) : ev 44 [(.v (.int .i64 a0_0))] =
 cond (leI 0 a0_0)
 (some [(.v (.bool (ltI a0_0 6)))])
 (some [(.v (.bool false))]) := (ev_eq _ _).trans (by kernel_rfl)
theorem ev47 (a0_0_0n : Bool) (a0_0_0 : List (List AV)) (a0_0_1 : Bool) (a1_0 : Int) (a2_0 : Int) : ev 47 [(.ep [(.lst a0_0_0n 1 a0_0_0), (.v (.bool a0_0_1))] 0), (.v (.int .i64 a1_0)), (.v (.int .i64 a2_0))] =
 cond (ltI a2_0 1)
 (some [(.v (.int .i64 2))])
 (cond (ltI a1_0 0)
 (some [(.v (.int .i64 2))])
 (cond (leI (((List.length a0_0_0) : Nat) : Int) a1_0)
 (some [(.v (.int .i64 2))])
 (cond (ltI (IntKind.wrap .i64 ((((List.length a0_0_0) : Nat) : Int) - a1_0)) a2_0)
 (some [(.v (.int .i64 2))])
 (cond a0_0_1
 (some [(.v (.int .i64 4))])
 (some [(.v (.int .i64 0))]))))) := (ev_eq _ _).trans (by kernel_rfl)
theorem ev48 (a0_0_0n : Bool) (a0_0_0 : List (List AV)) (a0_0_1 : Bool) : ev 48 [(.ep [(.lst a0_0_0n 1 a0_0_0), (.v (.bool a0_0_1))] 0)] =
 some [(.v (.int .i64 (IntKind.wrap .i64 (Int.tdiv (((List.length a0_0_0) : Nat) : Int) 8))))] := (ev_eq _ _).trans (by kernel_rfl)
theorem ev49 (a0_0n : Bool) (a0_0 : List (List AV)) (a1_0 : Int) : ev 49 [(.ow a0_0n 5 1 a0_0), (.v (.int .u64 a1_0))] =
 cond (leN (((List.length a0_0) + 1) * 1) 140737488355328)
 (cond (leN (((List.length (a0_0 ++ [[(.v (.int .u8 (IntKind.wrap .u8 a1_0)))]])) + 1) * 1) 140737488355328)
 (cond (leN (((List.length ((a0_0 ++ [[(.v (.int .u8 (IntKind.wrap .u8 a1_0)))]]) ++ [[(.v (.int .u8 (IntKind.wrap .u8 (Int.fdiv a1_0 256))))]])) + 1) * 1) 140737488355328)
 (cond (leN (((List.length (((a0_0 ++ [[(.v (.int .u8 (IntKind.wrap .u8 a1_0)))]]) ++ [[(.v (.int .u8 (IntKind.wrap .u8 (Int.fdiv a1_0 256))))]]) ++ [[(.v (.int .u8 (IntKind.wrap .u8 (Int.fdiv (Int.fdiv a1_0 256) 256))))]])) + 1) * 1) 140737488355328)
 (cond (leN (((List.length ((((a0_0 ++ [[(.v (.int .u8 (IntKind.wrap .u8 a1_0)))]]) ++ [[(.v (.int .u8 (IntKind.wrap .u8 (Int.fdiv a1_0 256))))]]) ++ [[(.v (.int .u8 (IntKind.wrap .u8 (Int.fdiv (Int.fdiv a1_0 256) 256))))]]) ++ [[(.v (.int .u8 (IntKind.wrap .u8 (Int.fdiv (Int.fdiv (Int.fdiv a1_0 256) 256) 256))))]])) + 1) * 1) 140737488355328)
 (cond (leN (((List.length (((((a0_0 ++ [[(.v (.int .u8 (IntKind.wrap .u8 a1_0)))]]) ++ [[(.v (.int .u8 (IntKind.wrap .u8 (Int.fdiv a1_0 256))))]]) ++ [[(.v (.int .u8 (IntKind.wrap .u8 (Int.fdiv (Int.fdiv a1_0 256) 256))))]]) ++ [[(.v (.int .u8 (IntKind.wrap .u8 (Int.fdiv (Int.fdiv (Int.fdiv a1_0 256) 256) 256))))]]) ++ [[(.v (.int .u8 (IntKind.wrap .u8 (Int.fdiv (Int.fdiv (Int.fdiv (Int.fdiv a1_0 256) 256) 256) 256))))]])) + 1) * 1) 140737488355328)
 (cond (leN (((List.length ((((((a0_0 ++ [[(.v (.int .u8 (IntKind.wrap .u8 a1_0)))]]) ++ [[(.v (.int .u8 (IntKind.wrap .u8 (Int.fdiv a1_0 256))))]]) ++ [[(.v (.int .u8 (IntKind.wrap .u8 (Int.fdiv (Int.fdiv a1_0 256) 256))))]]) ++ [[(.v (.int .u8 (IntKind.wrap .u8 (Int.fdiv (Int.fdiv (Int.fdiv a1_0 256) 256) 256))))]]) ++ [[(.v (.int .u8 (IntKind.wrap .u8 (Int.fdiv (Int.fdiv (Int.fdiv (Int.fdiv a1_0 256) 256) 256) 256))))]]) ++ [[(.v (.int .u8 (IntKind.wrap .u8 (Int.fdiv (Int.fdiv (Int.fdiv (Int.fdiv (Int.fdiv a1_0 256) 256) 256) 256) 256))))]])) + 1) * 1) 140737488355328)
 (cond (leN (((List.length (((((((a0_0 ++ [[(.v (.int .u8 (IntKind.wrap .u8 a1_0)))]]) ++ [[(.v (.int .u8 (IntKind.wrap .u8 (Int.fdiv a1_0 256))))]]) ++ [[(.v (.int .u8 (IntKind.wrap .u8 (Int.fdiv (Int.fdiv a1_0 256) 256))))]]) ++ [[(.v (.int .u8 (IntKind.wrap .u8 (Int.fdiv (Int.fdiv (Int.fdiv a1_0 256) 256) 256))))]]) ++ [[(.v (.int .u8 (IntKind.wrap .u8 (Int.fdiv (Int.fdiv (Int.fdiv (Int.fdiv a1_0 256) 256) 256) 256))))]]) ++ [[(.v (.int .u8 (IntKind.wrap .u8 (Int.fdiv (Int.fdiv (Int.fdiv (Int.fdiv (Int.fdiv a1_0 256) 256) 256) 256) 256))))]]) ++ [[(.v (.int .u8 (IntKind.wrap .u8 (Int.fdiv (Int.fdiv (Int.fdiv (Int.fdiv (Int.fdiv (Int.fdiv a1_0 256) 256) 256) 256) 256) 256))))]])) + 1) * 1) 140737488355328)
 (some [(.ow false 5 1 ((((((((a0_0 ++ [[(.v (.int .u8 (IntKind.wrap .u8 a1_0)))]]) ++ [[(.v (.int .u8 (IntKind.wrap .u8 (Int.fdiv a1_0 256))))]]) ++ [[(.v (.int .u8 (IntKind.wrap .u8 (Int.fdiv (Int.fdiv a1_0 256) 256))))]]) ++ [[(.v (.int .u8 (IntKind.wrap .u8 (Int.fdiv (Int.fdiv (Int.fdiv a1_0 256) 256) 256))))]]) ++ [[(.v (.int .u8 (IntKind.wrap .u8 (Int.fdiv (Int.fdiv (Int.fdiv (Int.fdiv a1_0 256) 256) 256) 256))))]]) ++ [[(.v (.int .u8 (IntKind.wrap .u8 (Int.fdiv (Int.fdiv (Int.fdiv (Int.fdiv (Int.fdiv a1_0 256) 256) 256) 256) 256))))]]) ++ [[(.v (.int .u8 (IntKind.wrap .u8 (Int.fdiv (Int.fdiv (Int.fdiv (Int.fdiv (Int.fdiv (Int.fdiv a1_0 256) 256) 256) 256) 256) 256))))]]) ++ [[(.v (.int .u8 (IntKind.wrap .u8 (Int.fdiv (Int.fdiv (Int.fdiv (Int.fdiv (Int.fdiv (Int.fdiv (Int.fdiv a1_0 256) 256) 256) 256) 256) 256) 256))))]]))])
 (none))
 (none))
 (none))
 (none))
 (none))
 (none))
 (none))
 (none) := (ev_eq _ _).trans (by kernel_rfl)
theorem ev50 (a0_0n : Bool) (a0_0 : List (List AV)) : ev 50 [(.lst a0_0n 1 a0_0)] =
 (ev 59 [(.v (.int .u64 0)), (.lst a0_0n 1 a0_0)]).bind fun r0 =>
 cond (isI .u64 (cellAt r0 0))
 (some [(.v (.int .u64 (avInt (cellAt r0 0))))])
 (none) := (ev_eq _ _).trans (by kernel_rfl)
theorem ev51 (a0_0_0n : Bool) (a0_0_0 : List (List AV)) (a0_0_1 : Bool) : ev 51 [(.ep [(.lst a0_0_0n 1 a0_0_0), (.v (.bool a0_0_1))] 0)] =
 some [(.v (.bool (!a0_0_1)))] := (ev_eq _ _).trans (by kernel_rfl)
theorem ev55 (a0_0_0n : Bool) (a0_0_0 : List (List AV)) (a0_0_1 : Bool) : ev 55 [(.ep [(.lst a0_0_0n 1 a0_0_0), (.v (.bool a0_0_1))] 0)] =
 cond a0_0_1
 ((lp 55 0 0 ⟨[(0, (.ep [(.lst a0_0_0n 1 a0_0_0), (.v (.bool a0_0_1))] 0)), (4, (.sl false 0 0 none)), (5, (.v (.int .i64 0)))], [⟨1, 5, 1, false, [[(.v (.int .u8 77))], [(.v (.int .u8 69))], [(.v (.int .u8 77))], [(.v (.int .u8 49))], [(.v (.int .u8 (IntKind.wrap .u8 (IntKind.wrap .i64 (Int.tdiv (((List.length a0_0_0) : Nat) : Int) 8)))))], [(.v (.int .u8 (IntKind.wrap .u8 (Int.fdiv (IntKind.wrap .i64 (Int.tdiv (((List.length a0_0_0) : Nat) : Int) 8)) 256))))], [(.v (.int .u8 1))]]⟩]⟩).bind fun r7 =>
 cond (isEx 0 r7)
 (cond (likeStG ⟨[(4, (.sl false 0 0 none))], [⟨1, 5, 1, false, [[(.v (.int .u8 77))], [(.v (.int .u8 69))], [(.v (.int .u8 77))], [(.v (.int .u8 49))], [(.v (.int .u8 (IntKind.wrap .u8 (IntKind.wrap .i64 (Int.tdiv (((List.length a0_0_0) : Nat) : Int) 8)))))], [(.v (.int .u8 (IntKind.wrap .u8 (Int.fdiv (IntKind.wrap .i64 (Int.tdiv (((List.length a0_0_0) : Nat) : Int) 8)) 256))))], [(.v (.int .u8 1))]]⟩]⟩ r7.st)
 ((ev 63 [(.lst (avNil (frAt r7.st.fr 0).2) 1 (blAt r7.st.bl 0).xs)]).bind fun r10 =>
 cond (isI .u64 (cellAt r10 0))
 ((ev 62 [(.v (.int .u64 (avInt (cellAt r10 0))))]).bind fun r12 =>
 cond (isOw 5 1 (cellAt r12 0))
 (cond (leN (((List.length (blAt r7.st.bl 0).xs) + (List.length (avXs (cellAt r12 0)))) * 1) 140737488355328)
 (some [(.ow ((List.isEmpty (avXs (cellAt r12 0))) && (avNil (frAt r7.st.fr 0).2)) 5 1 ((blAt r7.st.bl 0).xs ++ (avXs (cellAt r12 0))))])
 (none))
 (none))
 (none))
 (none))
 (cond (isRt r7)
 (some r7.outs)
 (none)))
 ((lp 55 0 0 ⟨[(0, (.ep [(.lst a0_0_0n 1 a0_0_0), (.v (.bool a0_0_1))] 0)), (4, (.sl false 0 0 none)), (5, (.v (.int .i64 0)))], [⟨1, 5, 1, false, [[(.v (.int .u8 77))], [(.v (.int .u8 69))], [(.v (.int .u8 77))], [(.v (.int .u8 49))], [(.v (.int .u8 (IntKind.wrap .u8 (IntKind.wrap .i64 (Int.tdiv (((List.length a0_0_0) : Nat) : Int) 8)))))], [(.v (.int .u8 (IntKind.wrap .u8 (Int.fdiv (IntKind.wrap .i64 (Int.tdiv (((List.length a0_0_0) : Nat) : Int) 8)) 256))))], [(.v (.int .u8 0))]]⟩]⟩).bind fun r18 =>
 cond (isEx 0 r18)
 (cond (likeStG ⟨[(4, (.sl false 0 0 none))], [⟨1, 5, 1, false, [[(.v (.int .u8 77))], [(.v (.int .u8 69))], [(.v (.int .u8 77))], [(.v (.int .u8 49))], [(.v (.int .u8 (IntKind.wrap .u8 (IntKind.wrap .i64 (Int.tdiv (((List.length a0_0_0) : Nat) : Int) 8)))))], [(.v (.int .u8 (IntKind.wrap .u8 (Int.fdiv (IntKind.wrap .i64 (Int.tdiv (((List.length a0_0_0) : Nat) : Int) 8)) 256))))], [(.v (.int .u8 0))]]⟩]⟩ r18.st)
 ((ev 63 [(.lst (avNil (frAt r18.st.fr 0).2) 1 (blAt r18.st.bl 0).xs)]).bind fun r21 =>
 cond (isI .u64 (cellAt r21 0))
 ((ev 62 [(.v (.int .u64 (avInt (cellAt r21 0))))]).bind fun r23 =>
 cond (isOw 5 1 (cellAt r23 0))
 (cond (leN (((List.length (blAt r18.st.bl 0).xs) + (List.length (avXs (cellAt r23 0)))) * 1) 140737488355328)
 (some [(.ow ((List.isEmpty (avXs (cellAt r23 0))) && (avNil (frAt r18.st.fr 0).2)) 5 1 ((blAt r18.st.bl 0).xs ++ (avXs (cellAt r23 0))))])
 (none))
 (none))
 (none))
 (none))
 (cond (isRt r18)
 (some r18.outs)
 (none))) := (ev_eq _ _).trans (by kernel_rfl)
theorem lp55_0 (x0_0n : Bool) (x0_0 : List (List AV)) (x0_1 : Bool) (x4n : Bool) (x5 : Int) (b0 : List (List AV)) : lp 55 0 0 ⟨[(0, (.ep [(.lst x0_0n 1 x0_0), (.v (.bool x0_1))] 0)), (4, (.sl x4n 0 0 none)), (5, (.v (.int .i64 x5)))], [⟨1, 5, 1, false, b0⟩]⟩ =
 cond (ltI x5 (((List.length x0_0) : Nat) : Int))
 (cond ((leI 0 x5) && (ltI x5 (((List.length x0_0) : Nat) : Int)))
 (cond (isI .u64 (cellAt (lget x0_0 (Int.toNat x5)) 0))
 ((ev 62 [(.v (.int .u64 (avInt (cellAt (lget x0_0 (Int.toNat x5)) 0))))]).bind fun r35 =>
 cond (isOw 5 1 (cellAt r35 0))
 (cond (leN (((List.length b0) + (List.length (avXs (cellAt r35 0)))) * 1) 140737488355328)
 (lp 55 0 0 ⟨[(0, (.ep [(.lst x0_0n 1 x0_0), (.v (.bool x0_1))] 0)), (4, (.sl ((List.isEmpty (avXs (cellAt r35 0))) && x4n) 0 0 none)), (5, (.v (.int .i64 (IntKind.wrap .i64 (x5 + 1)))))], [⟨1, 5, 1, false, (b0 ++ (avXs (cellAt r35 0)))⟩]⟩)
 (none))
 (none))
 (none))
 (none))
 (some ⟨(some 0), ⟨[(4, (.sl x4n 0 0 none))], [⟨1, 5, 1, false, b0⟩]⟩, []⟩) := (lp_eq _ _ _ _).trans (by kernel_rfl)
theorem ev63 (a0_0n : Bool) (a0_0 : List (List AV)) : ev 63 [(.lst a0_0n 1 a0_0)] =
 (ev 67 [(.v (.int .u64 0)), (.lst a0_0n 1 a0_0)]).bind fun r0 =>
 cond (isI .u64 (cellAt r0 0))
 (some [(.v (.int .u64 (avInt (cellAt r0 0))))])
 (none) := (ev_eq _ _).trans (by kernel_rfl)
theorem ev67 (a0_0 : Int) (a1_0n : Bool) (a1_0 : List (List AV)) : ev 67 [(.v (.int .u64 a0_0)), (.lst a1_0n 1 a1_0)] =
 (lp 67 0 0 ⟨[(1, (.lst a1_0n 1 a1_0)), (5, (.v (.int .u64 (bits .xor .u64 18446744073709551615 a0_0)))), (6, (.v (.int .i64 0)))], []⟩).bind fun r1 =>
 cond (isEx 0 r1)
 (cond (likeStG ⟨[(5, (.v (.int .u64 (bits .xor .u64 18446744073709551615 a0_0))))], []⟩ r1.st)
 (some [(.v (.int .u64 (bits .xor .u64 18446744073709551615 (avInt (frAt r1.st.fr 0).2))))])
 (none))
 (cond (isRt r1)
 (some r1.outs)
 (none)) := (ev_eq _ _).trans (by kernel_rfl)
theorem lp67_0 (x1n : Bool) (x1 : List (List AV)) (x5 : Int) (x6 : Int) : lp 67 0 0 ⟨[(1, (.lst x1n 1 x1)), (5, (.v (.int .u64 x5))), (6, (.v (.int .i64 x6)))], []⟩ =
 cond (ltI x6 (((List.length x1) : Nat) : Int))
 (cond ((leI 0 x6) && (ltI x6 (((List.length x1) : Nat) : Int)))
 (cond (isI .u8 (cellAt (lget x1 (Int.toNat x6)) 0))
 ((lp 67 1 0 ⟨[(1, (.lst x1n 1 x1)), (5, (.v (.int .u64 (bits .xor .u64 x5 (IntKind.wrap .u64 (avInt (cellAt (lget x1 (Int.toNat x6)) 0))))))), (6, (.v (.int .i64 x6))), (7, (.v (.int .i64 0)))], []⟩).bind fun r8 =>
 cond (isEx 2 r8)
 (cond (likeStG ⟨[(1, (.lst x1n 1 x1)), (5, (.v (.int .u64 (bits .xor .u64 x5 (IntKind.wrap .u64 (avInt (cellAt (lget x1 (Int.toNat x6)) 0))))))), (6, (.v (.int .i64 x6)))], []⟩ r8.st)
 (lp 67 0 0 ⟨[(1, (.lst (avNil (frAt r8.st.fr 0).2) 1 (avXs (frAt r8.st.fr 0).2))), (5, (.v (.int .u64 (avInt (frAt r8.st.fr 1).2)))), (6, (.v (.int .i64 (IntKind.wrap .i64 ((avInt (frAt r8.st.fr 2).2) + 1)))))], []⟩)
 (none))
 (cond (isRt r8)
 (some ⟨none, ⟨[], []⟩, r8.outs⟩)
 (none)))
 (none))
 (none))
 (some ⟨(some 0), ⟨[(5, (.v (.int .u64 x5)))], []⟩, []⟩) := (lp_eq _ _ _ _).trans (by kernel_rfl)
theorem lp67_1 (x1n : Bool) (x1 : List (List AV)) (x5 : Int) (x6 : Int) (x7 : Int) : lp 67 1 0 ⟨[(1, (.lst x1n 1 x1)), (5, (.v (.int .u64 x5))), (6, (.v (.int .i64 x6))), (7, (.v (.int .i64 x7)))], []⟩ =
 cond (ltI x7 8)
 (cond ((bits .and .u64 x5 1) == 1)
 (lp 67 1 0 ⟨[(1, (.lst x1n 1 x1)), (5, (.v (.int .u64 (bits .xor .u64 (Int.fdiv x5 2) 14514072000185962306)))), (6, (.v (.int .i64 x6))), (7, (.v (.int .i64 (IntKind.wrap .i64 (x7 + 1)))))], []⟩)
 (lp 67 1 0 ⟨[(1, (.lst x1n 1 x1)), (5, (.v (.int .u64 (Int.fdiv x5 2)))), (6, (.v (.int .i64 x6))), (7, (.v (.int .i64 (IntKind.wrap .i64 (x7 + 1)))))], []⟩))
 (some ⟨(some 2), ⟨[(1, (.lst x1n 1 x1)), (5, (.v (.int .u64 x5))), (6, (.v (.int .i64 x6)))], []⟩, []⟩) := (lp_eq _ _ _ _).trans (by kernel_rfl)
end Go.Proofs.Ytniocbmadbaojaa
