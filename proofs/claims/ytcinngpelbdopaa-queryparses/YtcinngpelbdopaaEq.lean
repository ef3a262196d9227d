/- The functions of the chapter, as the evaluator has them. -/
import Derived.Test.YtcinngpelbdopaaRows
import Derived.Test.YtcinngpelbdopaaEv10
import Derived.Test.YtcinngpelbdopaaEv12
set_option linter.all false
namespace Go.Proofs.Ytcinngpelbdopaa
open Go.Ev

def rwF : FuncId → List Bool
 | 38 => [true] | 39 => [true] | 40 => [true] | 62 => [true] | 64 => [true] | 65 => [true, true] | 83 => [true] | 84 => [true] | 85 => [true] | 86 => [true] | 87 => [true]
 | 41 => [true] | 42 => [true] | 43 => [true] | 66 => [true] | 67 => [true] | 68 => [true] | 69 => [true] | 70 => [true] | 71 => [true] | _ => []
def updF : FuncId → Option (List (List AV) → Option (List (List AV)))
 | 73 => some revG
 | _ => none
def extF : FuncId → Option (List AV → Option (List AV))
 | 35 => some joinG
 | 63 => some anyG
 | 74 => some (growG 9)
 | _ => none
def cfg : Cfg := { rw := rwF, dat := fun _ => false, inl := fun _ => false, roll := fun _ => 8, join := fun f => Nat.beq f 18 || Nat.beq f 43 || Nat.beq f 70 || Nat.beq f 15, cl := fun f => Nat.beq f 33, upd := updF, ext := extF }
noncomputable def ev (f : FuncId) (args : List AV) : Option (List AV) := evL Try.prog cfg f args
noncomputable def lp (f k nr : Nat) (s : St) : Option LR := lpL Try.prog cfg f k nr s
theorem ev_eq (f : FuncId) (args : List AV) : ev f args = evTop cfg f args (evBodyG Try.prog cfg (evL Try.prog cfg) (inlD Try.prog cfg (evL Try.prog cfg) 5) (loopL Try.prog cfg f) f args) := evL_eq f args
theorem lp_eq (f k nr : Nat) (s : St) : lp f k nr s = evRound Try.prog cfg (evL Try.prog cfg) (inlD Try.prog cfg (evL Try.prog cfg) 5) (loopL Try.prog cfg f) (cfg.roll f) (cfg.join f) (loopAt Try.prog f k).1 (loopAt Try.prog f k).2 (retAt Try.prog cfg f nr) s := loopL_eq f _ _ _ s

-- "bodega/bodegahand.Pick"
theorem ev19 (a0_0 : Int) (a1_0 : Int) : ev 19 [(.v (.int .i64 a0_0)), (.v (.int .i64 a1_0))] =
 cond (ltI a1_0 1)
 (some [(.v (.int .i64 0))])
 (cond (eqI a1_0 0)
 (none)
 (cond (eqI a1_0 0)
 (none)
 (some [(.v (.int .i64 (Int.tmod (IntKind.wrap .i64 ((Int.tmod a0_0 a1_0) + a1_0)) a1_0)))]))) := (ev_eq _ _).trans (by kernel_rfl)
-- "bodega/bodegaref29.in"
theorem ev45 (a0_0 : Int) (a1_0 : Int) (a2_0 : Int) : ev 45 [(.v (.int .i64 a0_0)), (.v (.int .i64 a1_0)), (.v (.int .i64 a2_0))] =
 cond (leI a1_0 a0_0)
 (some [(.v (.bool (leI a0_0 a2_0)))])
 (some [(.v (.bool false))]) := (ev_eq _ _).trans (by kernel_rfl)
-- "bodega/bodegaref29.plain"
theorem ev46 (a0_0 : Int) (a0_1 : Int) (a0_2 : Int) (a0_3 : Int) (a0_4 : Int) (a0_5 : Int) (a0_6 : Int) (a0_7 : Int) (a0_8 : Int) (a0_9 : Int) (a0_10 : Int) (a0_11 : Int) : ev 46 [(.agg [(.v (.int .i64 a0_0)), (.v (.int .u32 a0_1)), (.v (.int .u32 a0_2)), (.v (.int .i64 a0_3)), (.v (.int .i64 a0_4)), (.v (.int .i64 a0_5)), (.v (.int .i64 a0_6)), (.v (.int .i64 a0_7)), (.v (.int .i64 a0_8)), (.v (.int .i64 a0_9)), (.v (.int .i64 a0_10)), (.v (.int .i64 a0_11))])] =
 cond (a0_0 == 1)
 (some [(.agg [(.v (.int .i64 a0_0)), (.v (.int .u32 a0_1)), (.v (.int .u32 0)), (.v (.int .i64 a0_3)), (.v (.int .i64 a0_4)), (.v (.int .i64 a0_5)), (.v (.int .i64 0)), (.v (.int .i64 0)), (.v (.int .i64 0)), (.v (.int .i64 0)), (.v (.int .i64 0)), (.v (.int .i64 0))])])
 (cond (a0_0 == 2)
 (some [(.agg [(.v (.int .i64 a0_0)), (.v (.int .u32 a0_1)), (.v (.int .u32 0)), (.v (.int .i64 0)), (.v (.int .i64 0)), (.v (.int .i64 0)), (.v (.int .i64 a0_6)), (.v (.int .i64 a0_7)), (.v (.int .i64 0)), (.v (.int .i64 0)), (.v (.int .i64 0)), (.v (.int .i64 0))])])
 (cond (a0_0 == 3)
 (some [(.agg [(.v (.int .i64 a0_0)), (.v (.int .u32 a0_1)), (.v (.int .u32 0)), (.v (.int .i64 0)), (.v (.int .i64 0)), (.v (.int .i64 0)), (.v (.int .i64 a0_6)), (.v (.int .i64 a0_7)), (.v (.int .i64 0)), (.v (.int .i64 0)), (.v (.int .i64 0)), (.v (.int .i64 0))])])
 (cond (a0_0 == 6)
 (some [(.agg [(.v (.int .i64 a0_0)), (.v (.int .u32 a0_1)), (.v (.int .u32 a0_2)), (.v (.int .i64 0)), (.v (.int .i64 0)), (.v (.int .i64 0)), (.v (.int .i64 0)), (.v (.int .i64 0)), (.v (.int .i64 a0_8)), (.v (.int .i64 a0_9)), (.v (.int .i64 a0_10)), (.v (.int .i64 a0_11))])])
 (cond (a0_0 == 7)
 (some [(.agg [(.v (.int .i64 a0_0)), (.v (.int .u32 a0_1)), (.v (.int .u32 a0_2)), (.v (.int .i64 0)), (.v (.int .i64 0)), (.v (.int .i64 0)), (.v (.int .i64 0)), (.v (.int .i64 0)), (.v (.int .i64 a0_8)), (.v (.int .i64 a0_9)), (.v (.int .i64 a0_10)), (.v (.int .i64 0))])])
 (cond (a0_0 == 8)
 (some [(.agg [(.v (.int .i64 a0_0)), (.v (.int .u32 a0_1)), (.v (.int .u32 a0_2)), (.v (.int .i64 0)), (.v (.int .i64 0)), (.v (.int .i64 0)), (.v (.int .i64 a0_6)), (.v (.int .i64 0)), (.v (.int .i64 a0_8)), (.v (.int .i64 a0_9)), (.v (.int .i64 a0_10)), (.v (.int .i64 0))])])
 (cond (a0_0 == 9)
 (some [(.agg [(.v (.int .i64 a0_0)), (.v (.int .u32 a0_1)), (.v (.int .u32 0)), (.v (.int .i64 0)), (.v (.int .i64 0)), (.v (.int .i64 0)), (.v (.int .i64 0)), (.v (.int .i64 0)), (.v (.int .i64 a0_8)), (.v (.int .i64 a0_9)), (.v (.int .i64 a0_10)), (.v (.int .i64 0))])])
 (some [(.agg [(.v (.int .i64 a0_0)), (.v (.int .u32 a0_1)), (.v (.int .u32 0)), (.v (.int .i64 0)), (.v (.int .i64 0)), (.v (.int .i64 0)), (.v (.int .i64 0)), (.v (.int .i64 0)), (.v (.int .i64 0)), (.v (.int .i64 0)), (.v (.int .i64 0)), (.v (.int .i64 0))])]))))))) := (ev_eq _ _).trans (by kernel_rfl)
-- "bodega/bodegaref29.ValidStatement"
theorem ev24 (a0_0 : Int) (a0_1 : Int) (a0_2 : Int) (a0_3 : Int) (a0_4 : Int) (a0_5 : Int) (a0_6 : Int) (a0_7 : Int) (a0_8 : Int) (a0_9 : Int) (a0_10 : Int) (a0_11 : Int) : ev 24 [(.agg [(.v (.int .i64 a0_0)), (.v (.int .u32 a0_1)), (.v (.int .u32 a0_2)), (.v (.int .i64 a0_3)), (.v (.int .i64 a0_4)), (.v (.int .i64 a0_5)), (.v (.int .i64 a0_6)), (.v (.int .i64 a0_7)), (.v (.int .i64 a0_8)), (.v (.int .i64 a0_9)), (.v (.int .i64 a0_10)), (.v (.int .i64 a0_11))])] =
 (ev 45 [(.v (.int .i64 a0_0)), (.v (.int .i64 1)), (.v (.int .i64 9))]).bind fun r0 =>
 cond (isB (cellAt r0 0))
 (cond (!(avBool (cellAt r0 0)))
 (some [(.v (.bool false))])
 (cond (ltI a0_1 1)
 (some [(.v (.bool false))])
 (cond (ltI 4294967294 a0_1)
 (some [(.v (.bool false))])
 ((ev 46 [(.agg [(.v (.int .i64 a0_0)), (.v (.int .u32 a0_1)), (.v (.int .u32 a0_2)), (.v (.int .i64 a0_3)), (.v (.int .i64 a0_4)), (.v (.int .i64 a0_5)), (.v (.int .i64 a0_6)), (.v (.int .i64 a0_7)), (.v (.int .i64 a0_8)), (.v (.int .i64 a0_9)), (.v (.int .i64 a0_10)), (.v (.int .i64 a0_11))])]).bind fun r5 =>
 cond ((Ev.isAgg 12 (cellAt r5 0)) && ((isI .i64 (cellAt (obCells (cellAt r5 0)) 0)) && ((isI .u32 (cellAt (obCells (cellAt r5 0)) 1)) && ((isI .u32 (cellAt (obCells (cellAt r5 0)) 2)) && ((isI .i64 (cellAt (obCells (cellAt r5 0)) 3)) && ((isI .i64 (cellAt (obCells (cellAt r5 0)) 4)) && ((isI .i64 (cellAt (obCells (cellAt r5 0)) 5)) && ((isI .i64 (cellAt (obCells (cellAt r5 0)) 6)) && ((isI .i64 (cellAt (obCells (cellAt r5 0)) 7)) && ((isI .i64 (cellAt (obCells (cellAt r5 0)) 8)) && ((isI .i64 (cellAt (obCells (cellAt r5 0)) 9)) && ((isI .i64 (cellAt (obCells (cellAt r5 0)) 10)) && (isI .i64 (cellAt (obCells (cellAt r5 0)) 11))))))))))))))
 (cond (!((a0_0 == (avInt (cellAt (obCells (cellAt r5 0)) 0))) && ((a0_1 == (avInt (cellAt (obCells (cellAt r5 0)) 1))) && ((a0_2 == (avInt (cellAt (obCells (cellAt r5 0)) 2))) && ((a0_3 == (avInt (cellAt (obCells (cellAt r5 0)) 3))) && ((a0_4 == (avInt (cellAt (obCells (cellAt r5 0)) 4))) && ((a0_5 == (avInt (cellAt (obCells (cellAt r5 0)) 5))) && ((a0_6 == (avInt (cellAt (obCells (cellAt r5 0)) 6))) && ((a0_7 == (avInt (cellAt (obCells (cellAt r5 0)) 7))) && ((a0_8 == (avInt (cellAt (obCells (cellAt r5 0)) 8))) && ((a0_9 == (avInt (cellAt (obCells (cellAt r5 0)) 9))) && ((a0_10 == (avInt (cellAt (obCells (cellAt r5 0)) 10))) && (a0_11 == (avInt (cellAt (obCells (cellAt r5 0)) 11)))))))))))))))
 (some [(.v (.bool false))])
 ((ev 45 [(.v (.int .i64 a0_0)), (.v (.int .i64 6)), (.v (.int .i64 8))]).bind fun r19 =>
 cond (isB (cellAt r19 0))
 (cond (avBool (cellAt r19 0))
 (cond (ltI a0_2 a0_1)
 (some [(.v (.bool false))])
 (cond (ltI 4294967294 a0_2)
 (some [(.v (.bool false))])
 ((ev 45 [(.v (.int .i64 a0_6)), (.v (.int .i64 0)), (.v (.int .i64 2))]).bind fun r23 =>
 cond (isB (cellAt r23 0))
 (cond (!(avBool (cellAt r23 0)))
 (some [(.v (.bool false))])
 ((ev 45 [(.v (.int .i64 a0_8)), (.v (.int .i64 0)), (.v (.int .i64 2))]).bind fun r26 =>
 cond (isB (cellAt r26 0))
 (cond (!(avBool (cellAt r26 0)))
 (some [(.v (.bool false))])
 ((ev 45 [(.v (.int .i64 a0_9)), (.v (.int .i64 0)), (.v (.int .i64 6))]).bind fun r29 =>
 cond (isB (cellAt r29 0))
 (cond (!(avBool (cellAt r29 0)))
 (some [(.v (.bool false))])
 ((ev 45 [(.v (.int .i64 a0_11)), (.v (.int .i64 0)), (.v (.int .i64 64))]).bind fun r32 =>
 cond (isB (cellAt r32 0))
 (cond (!(avBool (cellAt r32 0)))
 (some [(.v (.bool false))])
 (cond (a0_9 == 0)
 (cond (!((a0_8 == 0) && ((a0_9 == 0) && (a0_10 == 0))))
 (some [(.v (.bool false))])
 (cond (!(a0_0 == 9))
 (some [(.v (.bool true))])
 (some [(.v (.bool (ltI 0 a0_9)))])))
 (cond (!(a0_0 == 9))
 (some [(.v (.bool true))])
 (some [(.v (.bool (ltI 0 a0_9)))]))))
 (none)))
 (none)))
 (none)))
 (none))))
 ((ev 45 [(.v (.int .i64 a0_6)), (.v (.int .i64 0)), (.v (.int .i64 2))]).bind fun r41 =>
 cond (isB (cellAt r41 0))
 (cond (!(avBool (cellAt r41 0)))
 (some [(.v (.bool false))])
 ((ev 45 [(.v (.int .i64 a0_8)), (.v (.int .i64 0)), (.v (.int .i64 2))]).bind fun r44 =>
 cond (isB (cellAt r44 0))
 (cond (!(avBool (cellAt r44 0)))
 (some [(.v (.bool false))])
 ((ev 45 [(.v (.int .i64 a0_9)), (.v (.int .i64 0)), (.v (.int .i64 6))]).bind fun r47 =>
 cond (isB (cellAt r47 0))
 (cond (!(avBool (cellAt r47 0)))
 (some [(.v (.bool false))])
 ((ev 45 [(.v (.int .i64 a0_11)), (.v (.int .i64 0)), (.v (.int .i64 64))]).bind fun r50 =>
 cond (isB (cellAt r50 0))
 (cond (!(avBool (cellAt r50 0)))
 (some [(.v (.bool false))])
 (cond (a0_9 == 0)
 (cond (!((a0_8 == 0) && ((a0_9 == 0) && (a0_10 == 0))))
 (some [(.v (.bool false))])
 (cond (!(a0_0 == 9))
 (some [(.v (.bool true))])
 (some [(.v (.bool (ltI 0 a0_9)))])))
 (cond (!(a0_0 == 9))
 (some [(.v (.bool true))])
 (some [(.v (.bool (ltI 0 a0_9)))]))))
 (none)))
 (none)))
 (none)))
 (none)))
 (none)))
 (none)))))
 (none) := (ev_eq _ _).trans (by kernel_rfl)
-- "bodega/query.Valid"
-- "bodega/query.kept"
-- "bodega/query.isTest"
-- "bodega/query.isColumn"
-- "bodega/query.Writes"
-- "bodega/bodegaref29.Writes"
-- "bodega/query.forms"
theorem ev33  : ev 33 [] =
 some [(.ow false 85 2 [[(.v (.string (bs []))), (.lst true 1 [])], [(.v (.string (bs [105, 110, 115, 101, 114, 116]))), (.lst false 1 [[(.v (.int .i64 0))], [(.v (.int .i64 2))]])], [(.v (.string (bs [115, 101, 116]))), (.lst false 1 [[(.v (.int .i64 0))], [(.v (.int .i64 3))], [(.v (.int .i64 4))]])], [(.v (.string (bs [97, 100, 100]))), (.lst false 1 [[(.v (.int .i64 0))], [(.v (.int .i64 3))], [(.v (.int .i64 4))]])], [(.v (.string (bs [100, 101, 108, 101, 116, 101]))), (.lst false 1 [[(.v (.int .i64 0))]])], [(.v (.string (bs [103, 101, 116]))), (.lst false 1 [[(.v (.int .i64 0))]])], [(.v (.string (bs [115, 99, 97, 110]))), (.lst false 1 [[(.v (.int .i64 0))], [(.v (.int .i64 1))], [(.v (.int .i64 6))], [(.v (.int .i64 7))]])], [(.v (.string (bs [99, 111, 117, 110, 116]))), (.lst false 1 [[(.v (.int .i64 0))], [(.v (.int .i64 1))], [(.v (.int .i64 6))]])], [(.v (.string (bs [115, 117, 109]))), (.lst false 1 [[(.v (.int .i64 3))], [(.v (.int .i64 0))], [(.v (.int .i64 1))], [(.v (.int .i64 6))]])], [(.v (.string (bs [99, 104, 101, 99, 107]))), (.lst false 1 [[(.v (.int .i64 0))], [(.v (.int .i64 5))]])]])] := (ev_eq _ _).trans (by kernel_rfl)
-- "bodega/bodegalaw29.number"
theorem ev27 (a0_0 : Int) : ev 27 [(.v (.int .i64 a0_0))] =
 (ev 19 [(.v (.int .i64 a0_0)), (.v (.int .i64 9))]).bind fun r0 =>
 cond (isI .i64 (cellAt r0 0))
 (cond ((avInt (cellAt r0 0)) == 0)
 ((ev 19 [(.v (.int .i64 (IntKind.wrap .i64 (Int.tdiv a0_0 9)))), (.v (.int .i64 3))]).bind fun r4 =>
 cond (isI .i64 (cellAt r4 0))
 (some [(.v (.int .i64 (IntKind.wrap .i64 (9223372036854775807 - (avInt (cellAt r4 0))))))])
 (none))
 (cond ((avInt (cellAt r0 0)) == 1)
 ((ev 19 [(.v (.int .i64 (IntKind.wrap .i64 (Int.tdiv a0_0 9)))), (.v (.int .i64 3))]).bind fun r9 =>
 cond (isI .i64 (cellAt r9 0))
 (some [(.v (.int .i64 (IntKind.wrap .i64 ((-9223372036854775808) + (avInt (cellAt r9 0))))))])
 (none))
 ((ev 19 [(.v (.int .i64 (IntKind.wrap .i64 (Int.tdiv a0_0 9)))), (.v (.int .i64 400))]).bind fun r13 =>
 cond (isI .i64 (cellAt r13 0))
 (some [(.v (.int .i64 (IntKind.wrap .i64 ((avInt (cellAt r13 0)) - 200))))])
 (none))))
 (none) := (ev_eq _ _).trans (by kernel_rfl)
-- "bodega/bodegalaw29.own"
theorem ev17 (a0_0 : Int) (a0_1 : Int) (a0_2 : Int) (a0_3 : Int) (a0_4 : Int) (a0_5 : Int) (a0_6 : Int) (a0_7 : Int) (a0_8 : Int) (a0_9 : Int) (a0_10 : Int) (a0_11 : Int) : ev 17 [(.agg [(.v (.int .i64 a0_0)), (.v (.int .u32 a0_1)), (.v (.int .u32 a0_2)), (.v (.int .i64 a0_3)), (.v (.int .i64 a0_4)), (.v (.int .i64 a0_5)), (.v (.int .i64 a0_6)), (.v (.int .i64 a0_7)), (.v (.int .i64 a0_8)), (.v (.int .i64 a0_9)), (.v (.int .i64 a0_10)), (.v (.int .i64 a0_11))])] =
 some [(.agg [(.v (.int .i64 a0_0)), (.v (.int .u32 a0_1)), (.v (.int .u32 a0_2)), (.v (.int .i64 a0_3)), (.v (.int .i64 a0_4)), (.v (.int .i64 a0_5)), (.v (.int .i64 a0_6)), (.v (.int .i64 a0_7)), (.v (.int .i64 a0_8)), (.v (.int .i64 a0_9)), (.v (.int .i64 a0_10)), (.v (.int .i64 a0_11))])] := (ev_eq _ _).trans (by kernel_rfl)
-- "bodega/bodegalaw29.owns"
theorem ev13 (a0_0n : Bool) (a0_0 : List (List AV)) : ev 13 [(.lst a0_0n 12 a0_0)] =
 (lp 13 0 0 ⟨[(0, (.lst a0_0n 12 a0_0)), (3, (.sl true 0 0 none)), (4, (.v (.int .i64 0)))], [⟨1, 45, 12, false, []⟩]⟩).bind fun r0 =>
 cond (isEx 0 r0)
 (cond (likeStG ⟨[(3, (.sl true 0 0 none))], [⟨1, 45, 12, false, []⟩]⟩ r0.st)
 (some [(.ow (avNil (frAt r0.st.fr 0).2) 45 12 (blAt r0.st.bl 0).xs)])
 (none))
 (cond (isRt r0)
 (some r0.outs)
 (none)) := (ev_eq _ _).trans (by kernel_rfl)
theorem lp13_0 (x0n : Bool) (x0 : List (List AV)) (x3n : Bool) (x4 : Int) (b0 : List (List AV)) : lp 13 0 0 ⟨[(0, (.lst x0n 12 x0)), (3, (.sl x3n 0 0 none)), (4, (.v (.int .i64 x4)))], [⟨1, 45, 12, false, b0⟩]⟩ =
 cond (ltI x4 (((List.length x0) : Nat) : Int))
 (cond ((leI 0 x4) && (ltI x4 (((List.length x0) : Nat) : Int)))
 (cond ((isI .i64 (cellAt (lget x0 (Int.toNat x4)) 0)) && ((isI .u32 (cellAt (lget x0 (Int.toNat x4)) 1)) && ((isI .u32 (cellAt (lget x0 (Int.toNat x4)) 2)) && ((isI .i64 (cellAt (lget x0 (Int.toNat x4)) 3)) && ((isI .i64 (cellAt (lget x0 (Int.toNat x4)) 4)) && ((isI .i64 (cellAt (lget x0 (Int.toNat x4)) 5)) && ((isI .i64 (cellAt (lget x0 (Int.toNat x4)) 6)) && ((isI .i64 (cellAt (lget x0 (Int.toNat x4)) 7)) && ((isI .i64 (cellAt (lget x0 (Int.toNat x4)) 8)) && ((isI .i64 (cellAt (lget x0 (Int.toNat x4)) 9)) && ((isI .i64 (cellAt (lget x0 (Int.toNat x4)) 10)) && (isI .i64 (cellAt (lget x0 (Int.toNat x4)) 11)))))))))))))
 ((ev 17 [(.agg [(.v (.int .i64 (avInt (cellAt (lget x0 (Int.toNat x4)) 0)))), (.v (.int .u32 (avInt (cellAt (lget x0 (Int.toNat x4)) 1)))), (.v (.int .u32 (avInt (cellAt (lget x0 (Int.toNat x4)) 2)))), (.v (.int .i64 (avInt (cellAt (lget x0 (Int.toNat x4)) 3)))), (.v (.int .i64 (avInt (cellAt (lget x0 (Int.toNat x4)) 4)))), (.v (.int .i64 (avInt (cellAt (lget x0 (Int.toNat x4)) 5)))), (.v (.int .i64 (avInt (cellAt (lget x0 (Int.toNat x4)) 6)))), (.v (.int .i64 (avInt (cellAt (lget x0 (Int.toNat x4)) 7)))), (.v (.int .i64 (avInt (cellAt (lget x0 (Int.toNat x4)) 8)))), (.v (.int .i64 (avInt (cellAt (lget x0 (Int.toNat x4)) 9)))), (.v (.int .i64 (avInt (cellAt (lget x0 (Int.toNat x4)) 10)))), (.v (.int .i64 (avInt (cellAt (lget x0 (Int.toNat x4)) 11))))])]).bind fun r16 =>
 cond ((Ev.isAgg 12 (cellAt r16 0)) && ((isI .i64 (cellAt (obCells (cellAt r16 0)) 0)) && ((isI .u32 (cellAt (obCells (cellAt r16 0)) 1)) && ((isI .u32 (cellAt (obCells (cellAt r16 0)) 2)) && ((isI .i64 (cellAt (obCells (cellAt r16 0)) 3)) && ((isI .i64 (cellAt (obCells (cellAt r16 0)) 4)) && ((isI .i64 (cellAt (obCells (cellAt r16 0)) 5)) && ((isI .i64 (cellAt (obCells (cellAt r16 0)) 6)) && ((isI .i64 (cellAt (obCells (cellAt r16 0)) 7)) && ((isI .i64 (cellAt (obCells (cellAt r16 0)) 8)) && ((isI .i64 (cellAt (obCells (cellAt r16 0)) 9)) && ((isI .i64 (cellAt (obCells (cellAt r16 0)) 10)) && (isI .i64 (cellAt (obCells (cellAt r16 0)) 11))))))))))))))
 (cond (leN (((List.length b0) + 1) * 88) 140737488355328)
 (lp 13 0 0 ⟨[(0, (.lst x0n 12 x0)), (3, (.sl false 0 0 none)), (4, (.v (.int .i64 (IntKind.wrap .i64 (x4 + 1)))))], [⟨1, 45, 12, false, (b0 ++ [[(.v (.int .i64 (avInt (cellAt (obCells (cellAt r16 0)) 0)))), (.v (.int .u32 (avInt (cellAt (obCells (cellAt r16 0)) 1)))), (.v (.int .u32 (avInt (cellAt (obCells (cellAt r16 0)) 2)))), (.v (.int .i64 (avInt (cellAt (obCells (cellAt r16 0)) 3)))), (.v (.int .i64 (avInt (cellAt (obCells (cellAt r16 0)) 4)))), (.v (.int .i64 (avInt (cellAt (obCells (cellAt r16 0)) 5)))), (.v (.int .i64 (avInt (cellAt (obCells (cellAt r16 0)) 6)))), (.v (.int .i64 (avInt (cellAt (obCells (cellAt r16 0)) 7)))), (.v (.int .i64 (avInt (cellAt (obCells (cellAt r16 0)) 8)))), (.v (.int .i64 (avInt (cellAt (obCells (cellAt r16 0)) 9)))), (.v (.int .i64 (avInt (cellAt (obCells (cellAt r16 0)) 10)))), (.v (.int .i64 (avInt (cellAt (obCells (cellAt r16 0)) 11))))]])⟩]⟩)
 (none))
 (none))
 (none))
 (none))
 (some ⟨(some 0), ⟨[(3, (.sl x3n 0 0 none))], [⟨1, 45, 12, false, b0⟩]⟩, []⟩) := (lp_eq _ _ _ _).trans (by kernel_rfl)
-- "bodega/query.Holds"
-- "bodega/bodegaref29.Holds"
-- "bodega/bodegalaw29.same"
theorem ev16 (a0_0n : Bool) (a0_0 : List (List AV)) (a1_0n : Bool) (a1_0 : List (List AV)) : ev 16 [(.lst a0_0n 12 a0_0), (.lst a1_0n 12 a1_0)] =
 cond (!((((List.length a0_0) : Nat) : Int) == (((List.length a1_0) : Nat) : Int)))
 (some [(.v (.bool false))])
 ((lp 16 0 0 ⟨[(0, (.lst a0_0n 12 a0_0)), (1, (.lst a1_0n 12 a1_0)), (5, (.v (.int .i64 0)))], []⟩).bind fun r2 =>
 cond (isEx 0 r2)
 (cond (likeStG ⟨[], []⟩ r2.st)
 (some [(.v (.bool true))])
 (none))
 (cond (isRt r2)
 (some r2.outs)
 (none))) := (ev_eq _ _).trans (by kernel_rfl)
theorem lp16_0 (x0n : Bool) (x0 : List (List AV)) (x1n : Bool) (x1 : List (List AV)) (x5 : Int) : lp 16 0 0 ⟨[(0, (.lst x0n 12 x0)), (1, (.lst x1n 12 x1)), (5, (.v (.int .i64 x5)))], []⟩ =
 cond (ltI x5 (((List.length x0) : Nat) : Int))
 (cond ((leI 0 x5) && (ltI x5 (((List.length x0) : Nat) : Int)))
 (cond ((isI .i64 (cellAt (lget x0 (Int.toNat x5)) 0)) && ((isI .u32 (cellAt (lget x0 (Int.toNat x5)) 1)) && ((isI .u32 (cellAt (lget x0 (Int.toNat x5)) 2)) && ((isI .i64 (cellAt (lget x0 (Int.toNat x5)) 3)) && ((isI .i64 (cellAt (lget x0 (Int.toNat x5)) 4)) && ((isI .i64 (cellAt (lget x0 (Int.toNat x5)) 5)) && ((isI .i64 (cellAt (lget x0 (Int.toNat x5)) 6)) && ((isI .i64 (cellAt (lget x0 (Int.toNat x5)) 7)) && ((isI .i64 (cellAt (lget x0 (Int.toNat x5)) 8)) && ((isI .i64 (cellAt (lget x0 (Int.toNat x5)) 9)) && ((isI .i64 (cellAt (lget x0 (Int.toNat x5)) 10)) && (isI .i64 (cellAt (lget x0 (Int.toNat x5)) 11)))))))))))))
 (cond ((leI 0 x5) && (ltI x5 (((List.length x1) : Nat) : Int)))
 (cond ((isI .i64 (cellAt (lget x1 (Int.toNat x5)) 0)) && ((isI .u32 (cellAt (lget x1 (Int.toNat x5)) 1)) && ((isI .u32 (cellAt (lget x1 (Int.toNat x5)) 2)) && ((isI .i64 (cellAt (lget x1 (Int.toNat x5)) 3)) && ((isI .i64 (cellAt (lget x1 (Int.toNat x5)) 4)) && ((isI .i64 (cellAt (lget x1 (Int.toNat x5)) 5)) && ((isI .i64 (cellAt (lget x1 (Int.toNat x5)) 6)) && ((isI .i64 (cellAt (lget x1 (Int.toNat x5)) 7)) && ((isI .i64 (cellAt (lget x1 (Int.toNat x5)) 8)) && ((isI .i64 (cellAt (lget x1 (Int.toNat x5)) 9)) && ((isI .i64 (cellAt (lget x1 (Int.toNat x5)) 10)) && (isI .i64 (cellAt (lget x1 (Int.toNat x5)) 11)))))))))))))
 (cond (!(((avInt (cellAt (lget x0 (Int.toNat x5)) 0)) == (avInt (cellAt (lget x1 (Int.toNat x5)) 0))) && (((avInt (cellAt (lget x0 (Int.toNat x5)) 1)) == (avInt (cellAt (lget x1 (Int.toNat x5)) 1))) && (((avInt (cellAt (lget x0 (Int.toNat x5)) 2)) == (avInt (cellAt (lget x1 (Int.toNat x5)) 2))) && (((avInt (cellAt (lget x0 (Int.toNat x5)) 3)) == (avInt (cellAt (lget x1 (Int.toNat x5)) 3))) && (((avInt (cellAt (lget x0 (Int.toNat x5)) 4)) == (avInt (cellAt (lget x1 (Int.toNat x5)) 4))) && (((avInt (cellAt (lget x0 (Int.toNat x5)) 5)) == (avInt (cellAt (lget x1 (Int.toNat x5)) 5))) && (((avInt (cellAt (lget x0 (Int.toNat x5)) 6)) == (avInt (cellAt (lget x1 (Int.toNat x5)) 6))) && (((avInt (cellAt (lget x0 (Int.toNat x5)) 7)) == (avInt (cellAt (lget x1 (Int.toNat x5)) 7))) && (((avInt (cellAt (lget x0 (Int.toNat x5)) 8)) == (avInt (cellAt (lget x1 (Int.toNat x5)) 8))) && (((avInt (cellAt (lget x0 (Int.toNat x5)) 9)) == (avInt (cellAt (lget x1 (Int.toNat x5)) 9))) && (((avInt (cellAt (lget x0 (Int.toNat x5)) 10)) == (avInt (cellAt (lget x1 (Int.toNat x5)) 10))) && ((avInt (cellAt (lget x0 (Int.toNat x5)) 11)) == (avInt (cellAt (lget x1 (Int.toNat x5)) 11)))))))))))))))
 (some ⟨none, ⟨[], []⟩, [(.v (.bool false))]⟩)
 (lp 16 0 0 ⟨[(0, (.lst x0n 12 x0)), (1, (.lst x1n 12 x1)), (5, (.v (.int .i64 (IntKind.wrap .i64 (x5 + 1)))))], []⟩))
 (none))
 (none))
 (none))
 (none))
 (some ⟨(some 0), ⟨[], []⟩, []⟩) := (lp_eq _ _ _ _).trans (by kernel_rfl)
-- "bodega/query.columns"
theorem ev51  : ev 51 [] =
 some [(.ow false 9 1 [[(.v (.string (bs [97])))], [(.v (.string (bs [98])))], [(.v (.string (bs [99])))]])] := (ev_eq _ _).trans (by kernel_rfl)
-- "bodega/query.comparisons"
theorem ev52  : ev 52 [] =
 some [(.ow false 9 1 [[(.v (.string (bs [])))], [(.v (.string (bs [61])))], [(.v (.string (bs [33, 61])))], [(.v (.string (bs [60])))], [(.v (.string (bs [60, 61])))], [(.v (.string (bs [62])))], [(.v (.string (bs [62, 61])))]])] := (ev_eq _ _).trans (by kernel_rfl)
-- "bodega/bodegaref29.operators"
theorem ev77  : ev 77 [] =
 some [(.ow false 9 1 [[(.v (.string (bs [])))], [(.v (.string (bs [61])))], [(.v (.string (bs [33, 61])))], [(.v (.string (bs [60])))], [(.v (.string (bs [60, 61])))], [(.v (.string (bs [62])))], [(.v (.string (bs [62, 61])))]])] := (ev_eq _ _).trans (by kernel_rfl)
-- "bodega/query.decimal"
-- "bodega/query.words"
-- "slices.Concat[[]string,string]"
-- "bodega/query.Format"
-- "bodega/bodegaref29.digits"
theorem ev58 (a0_0 : Int) : ev 58 [(.v (.int .u64 a0_0))] =
 (lp 58 0 0 ⟨[(0, (.v (.int .u64 a0_0))), (3, (.v (.string (bs [(Ev.byteOf [(.v (.int .u8 (IntKind.wrap .u8 (IntKind.wrap .u64 (48 + (Int.tmod a0_0 10))))))])]))))], []⟩).bind fun r5 =>
 cond (isEx 0 r5)
 (cond (likeStG ⟨[(3, (.v (.string (bs [(Ev.byteOf [(.v (.int .u8 (IntKind.wrap .u8 (IntKind.wrap .u64 (48 + (Int.tmod a0_0 10))))))])]))))], []⟩ r5.st)
 (some [(.v (.string (avStr (frAt r5.st.fr 0).2)))])
 (none))
 (cond (isRt r5)
 (some r5.outs)
 (none)) := (ev_eq _ _).trans (by kernel_rfl)
theorem lp58_0 (x0 : Int) (x3 : ByteArray) : lp 58 0 0 ⟨[(0, (.v (.int .u64 x0))), (3, (.v (.string x3)))], []⟩ =
 cond (leI 10 x0)
 (cond (leN ((ByteArray.size (bs [(Ev.byteOf [(.v (.int .u8 (IntKind.wrap .u8 (IntKind.wrap .u64 (48 + (Int.tmod (IntKind.wrap .u64 (Int.tdiv x0 10)) 10))))))])])) + (ByteArray.size x3)) 9223372036854775807)
 (lp 58 0 0 ⟨[(0, (.v (.int .u64 (IntKind.wrap .u64 (Int.tdiv x0 10))))), (3, (.v (.string ((bs [(Ev.byteOf [(.v (.int .u8 (IntKind.wrap .u8 (IntKind.wrap .u64 (48 + (Int.tmod (IntKind.wrap .u64 (Int.tdiv x0 10)) 10))))))])]) ++ x3))))], []⟩)
 (none))
 (some ⟨(some 0), ⟨[(3, (.v (.string x3)))], []⟩, []⟩) := (lp_eq _ _ _ _).trans (by kernel_rfl)
-- "bodega/bodegaref29.condition"
theorem ev59 (a0_0 : Int) (a0_1 : Int) (a0_2 : Int) : ev 59 [(.agg [(.v (.int .i64 a0_0)), (.v (.int .i64 a0_1)), (.v (.int .i64 a0_2))])] =
 (ev 61 [(.v (.int .i64 a0_0))]).bind fun r1 =>
 cond (isS (cellAt r1 0))
 (cond (leN ((ByteArray.size (avStr (cellAt r1 0))) + 1) 9223372036854775807)
 ((ev 77 []).bind fun r4 =>
 cond (isOw 9 1 (cellAt r4 0))
 (cond ((leI 0 a0_1) && (ltI a0_1 ((((List.length (avXs (cellAt r4 0))) - 0) : Nat) : Int)))
 (cond ((ltN (0 + (Int.toNat a0_1)) (List.length (avXs (cellAt r4 0)))) && (isS (cellAt (lget (avXs (cellAt r4 0)) (0 + (Int.toNat a0_1))) 0)))
 (cond (leN ((ByteArray.size ((avStr (cellAt r1 0)) ++ (bs [32]))) + (ByteArray.size (avStr (cellAt (lget (avXs (cellAt r4 0)) (0 + (Int.toNat a0_1))) 0)))) 9223372036854775807)
 (cond (leN ((ByteArray.size (((avStr (cellAt r1 0)) ++ (bs [32])) ++ (avStr (cellAt (lget (avXs (cellAt r4 0)) (0 + (Int.toNat a0_1))) 0)))) + 1) 9223372036854775807)
 ((ev 60 [(.v (.int .i64 a0_2))]).bind fun r11 =>
 cond (isS (cellAt r11 0))
 (cond (leN ((ByteArray.size ((((avStr (cellAt r1 0)) ++ (bs [32])) ++ (avStr (cellAt (lget (avXs (cellAt r4 0)) (0 + (Int.toNat a0_1))) 0))) ++ (bs [32]))) + (ByteArray.size (avStr (cellAt r11 0)))) 9223372036854775807)
 (some [(.v (.string (((((avStr (cellAt r1 0)) ++ (bs [32])) ++ (avStr (cellAt (lget (avXs (cellAt r4 0)) (0 + (Int.toNat a0_1))) 0))) ++ (bs [32])) ++ (avStr (cellAt r11 0)))))])
 (none))
 (none))
 (none))
 (none))
 (none))
 (none))
 (none))
 (none))
 (none) := (ev_eq _ _).trans (by kernel_rfl)
-- "bodega/bodegaref29.Number"
theorem ev60 (a0_0 : Int) : ev 60 [(.v (.int .i64 a0_0))] =
 cond (ltI a0_0 0)
 ((ev 58 [(.v (.int .u64 (IntKind.wrap .u64 ((IntKind.wrap .u64 (IntKind.wrap .i64 (0 - (IntKind.wrap .i64 (a0_0 + 1))))) + 1))))]).bind fun r5 =>
 cond (isS (cellAt r5 0))
 (cond (leN (1 + (ByteArray.size (avStr (cellAt r5 0)))) 9223372036854775807)
 (some [(.v (.string ((bs [45]) ++ (avStr (cellAt r5 0)))))])
 (none))
 (none))
 ((ev 58 [(.v (.int .u64 (IntKind.wrap .u64 a0_0)))]).bind fun r9 =>
 cond (isS (cellAt r9 0))
 (some [(.v (.string (avStr (cellAt r9 0))))])
 (none)) := (ev_eq _ _).trans (by kernel_rfl)
-- "bodega/bodegaref29.column"
theorem ev61 (a0_0 : Int) : ev 61 [(.v (.int .i64 a0_0))] =
 some [(.v (.string (bs [(Ev.byteOf [(.v (.int .u8 (IntKind.wrap .u8 (IntKind.wrap .i64 (97 + a0_0)))))])])))] := (ev_eq _ _).trans (by kernel_rfl)
-- "bodega/bodegaref29.text"
theorem ev37 (a0_0 : Int) (a0_1 : Int) (a0_2 : Int) (a0_3 : Int) (a0_4 : Int) (a0_5 : Int) (a0_6 : Int) (a0_7 : Int) (a0_8 : Int) (a0_9 : Int) (a0_10 : Int) (a0_11 : Int) : ev 37 [(.agg [(.v (.int .i64 a0_0)), (.v (.int .u32 a0_1)), (.v (.int .u32 a0_2)), (.v (.int .i64 a0_3)), (.v (.int .i64 a0_4)), (.v (.int .i64 a0_5)), (.v (.int .i64 a0_6)), (.v (.int .i64 a0_7)), (.v (.int .i64 a0_8)), (.v (.int .i64 a0_9)), (.v (.int .i64 a0_10)), (.v (.int .i64 a0_11))])] =
 (ev 58 [(.v (.int .u64 (IntKind.wrap .u64 a0_1)))]).bind fun r2 =>
 cond (isS (cellAt r2 0))
 (cond (ltI 0 a0_9)
 ((ev 59 [(.agg [(.v (.int .i64 a0_8)), (.v (.int .i64 a0_9)), (.v (.int .i64 a0_10))])]).bind fun r5 =>
 cond (isS (cellAt r5 0))
 (cond (leN (7 + (ByteArray.size (avStr (cellAt r5 0)))) 9223372036854775807)
 (cond (leN ((ByteArray.size (avStr (cellAt r2 0))) + 1) 9223372036854775807)
 ((ev 58 [(.v (.int .u64 (IntKind.wrap .u64 a0_2)))]).bind fun r10 =>
 cond (isS (cellAt r10 0))
 (cond (leN ((ByteArray.size ((avStr (cellAt r2 0)) ++ (bs [32]))) + (ByteArray.size (avStr (cellAt r10 0)))) 9223372036854775807)
 (cond (a0_0 == 1)
 (cond (leN (7 + (ByteArray.size (avStr (cellAt r2 0)))) 9223372036854775807)
 (cond (leN ((ByteArray.size ((bs [105, 110, 115, 101, 114, 116, 32]) ++ (avStr (cellAt r2 0)))) + 1) 9223372036854775807)
 ((ev 60 [(.v (.int .i64 a0_3))]).bind fun r16 =>
 cond (isS (cellAt r16 0))
 (cond (leN ((ByteArray.size (((bs [105, 110, 115, 101, 114, 116, 32]) ++ (avStr (cellAt r2 0))) ++ (bs [32]))) + (ByteArray.size (avStr (cellAt r16 0)))) 9223372036854775807)
 (cond (leN ((ByteArray.size ((((bs [105, 110, 115, 101, 114, 116, 32]) ++ (avStr (cellAt r2 0))) ++ (bs [32])) ++ (avStr (cellAt r16 0)))) + 1) 9223372036854775807)
 ((ev 60 [(.v (.int .i64 a0_4))]).bind fun r20 =>
 cond (isS (cellAt r20 0))
 (cond (leN ((ByteArray.size (((((bs [105, 110, 115, 101, 114, 116, 32]) ++ (avStr (cellAt r2 0))) ++ (bs [32])) ++ (avStr (cellAt r16 0))) ++ (bs [32]))) + (ByteArray.size (avStr (cellAt r20 0)))) 9223372036854775807)
 (cond (leN ((ByteArray.size ((((((bs [105, 110, 115, 101, 114, 116, 32]) ++ (avStr (cellAt r2 0))) ++ (bs [32])) ++ (avStr (cellAt r16 0))) ++ (bs [32])) ++ (avStr (cellAt r20 0)))) + 1) 9223372036854775807)
 ((ev 60 [(.v (.int .i64 a0_5))]).bind fun r24 =>
 cond (isS (cellAt r24 0))
 (cond (leN ((ByteArray.size (((((((bs [105, 110, 115, 101, 114, 116, 32]) ++ (avStr (cellAt r2 0))) ++ (bs [32])) ++ (avStr (cellAt r16 0))) ++ (bs [32])) ++ (avStr (cellAt r20 0))) ++ (bs [32]))) + (ByteArray.size (avStr (cellAt r24 0)))) 9223372036854775807)
 (some [(.v (.string ((((((((bs [105, 110, 115, 101, 114, 116, 32]) ++ (avStr (cellAt r2 0))) ++ (bs [32])) ++ (avStr (cellAt r16 0))) ++ (bs [32])) ++ (avStr (cellAt r20 0))) ++ (bs [32])) ++ (avStr (cellAt r24 0)))))])
 (none))
 (none))
 (none))
 (none))
 (none))
 (none))
 (none))
 (none))
 (none))
 (none))
 (cond (a0_0 == 2)
 (cond (leN (4 + (ByteArray.size (avStr (cellAt r2 0)))) 9223372036854775807)
 (cond (leN ((ByteArray.size ((bs [115, 101, 116, 32]) ++ (avStr (cellAt r2 0)))) + 1) 9223372036854775807)
 ((ev 61 [(.v (.int .i64 a0_6))]).bind fun r30 =>
 cond (isS (cellAt r30 0))
 (cond (leN ((ByteArray.size (((bs [115, 101, 116, 32]) ++ (avStr (cellAt r2 0))) ++ (bs [32]))) + (ByteArray.size (avStr (cellAt r30 0)))) 9223372036854775807)
 (cond (leN ((ByteArray.size ((((bs [115, 101, 116, 32]) ++ (avStr (cellAt r2 0))) ++ (bs [32])) ++ (avStr (cellAt r30 0)))) + 1) 9223372036854775807)
 ((ev 60 [(.v (.int .i64 a0_7))]).bind fun r34 =>
 cond (isS (cellAt r34 0))
 (cond (leN ((ByteArray.size (((((bs [115, 101, 116, 32]) ++ (avStr (cellAt r2 0))) ++ (bs [32])) ++ (avStr (cellAt r30 0))) ++ (bs [32]))) + (ByteArray.size (avStr (cellAt r34 0)))) 9223372036854775807)
 (some [(.v (.string ((((((bs [115, 101, 116, 32]) ++ (avStr (cellAt r2 0))) ++ (bs [32])) ++ (avStr (cellAt r30 0))) ++ (bs [32])) ++ (avStr (cellAt r34 0)))))])
 (none))
 (none))
 (none))
 (none))
 (none))
 (none))
 (none))
 (cond (a0_0 == 3)
 (cond (leN (4 + (ByteArray.size (avStr (cellAt r2 0)))) 9223372036854775807)
 (cond (leN ((ByteArray.size ((bs [97, 100, 100, 32]) ++ (avStr (cellAt r2 0)))) + 1) 9223372036854775807)
 ((ev 61 [(.v (.int .i64 a0_6))]).bind fun r40 =>
 cond (isS (cellAt r40 0))
 (cond (leN ((ByteArray.size (((bs [97, 100, 100, 32]) ++ (avStr (cellAt r2 0))) ++ (bs [32]))) + (ByteArray.size (avStr (cellAt r40 0)))) 9223372036854775807)
 (cond (leN ((ByteArray.size ((((bs [97, 100, 100, 32]) ++ (avStr (cellAt r2 0))) ++ (bs [32])) ++ (avStr (cellAt r40 0)))) + 1) 9223372036854775807)
 ((ev 60 [(.v (.int .i64 a0_7))]).bind fun r44 =>
 cond (isS (cellAt r44 0))
 (cond (leN ((ByteArray.size (((((bs [97, 100, 100, 32]) ++ (avStr (cellAt r2 0))) ++ (bs [32])) ++ (avStr (cellAt r40 0))) ++ (bs [32]))) + (ByteArray.size (avStr (cellAt r44 0)))) 9223372036854775807)
 (some [(.v (.string ((((((bs [97, 100, 100, 32]) ++ (avStr (cellAt r2 0))) ++ (bs [32])) ++ (avStr (cellAt r40 0))) ++ (bs [32])) ++ (avStr (cellAt r44 0)))))])
 (none))
 (none))
 (none))
 (none))
 (none))
 (none))
 (none))
 (cond (a0_0 == 4)
 (cond (leN (7 + (ByteArray.size (avStr (cellAt r2 0)))) 9223372036854775807)
 (some [(.v (.string ((bs [100, 101, 108, 101, 116, 101, 32]) ++ (avStr (cellAt r2 0)))))])
 (none))
 (cond (a0_0 == 5)
 (cond (leN (4 + (ByteArray.size (avStr (cellAt r2 0)))) 9223372036854775807)
 (some [(.v (.string ((bs [103, 101, 116, 32]) ++ (avStr (cellAt r2 0)))))])
 (none))
 (cond (a0_0 == 6)
 (cond (ltI 0 a0_11)
 (cond (leN ((ByteArray.size ((bs [32, 119, 104, 101, 114, 101, 32]) ++ (avStr (cellAt r5 0)))) + 7) 9223372036854775807)
 ((ev 58 [(.v (.int .u64 (IntKind.wrap .u64 a0_11)))]).bind fun r54 =>
 cond (isS (cellAt r54 0))
 (cond (leN ((ByteArray.size (((bs [32, 119, 104, 101, 114, 101, 32]) ++ (avStr (cellAt r5 0))) ++ (bs [32, 108, 105, 109, 105, 116, 32]))) + (ByteArray.size (avStr (cellAt r54 0)))) 9223372036854775807)
 (cond (leN (5 + (ByteArray.size (((avStr (cellAt r2 0)) ++ (bs [32])) ++ (avStr (cellAt r10 0))))) 9223372036854775807)
 (cond (leN ((ByteArray.size ((bs [115, 99, 97, 110, 32]) ++ (((avStr (cellAt r2 0)) ++ (bs [32])) ++ (avStr (cellAt r10 0))))) + (ByteArray.size ((((bs [32, 119, 104, 101, 114, 101, 32]) ++ (avStr (cellAt r5 0))) ++ (bs [32, 108, 105, 109, 105, 116, 32])) ++ (avStr (cellAt r54 0))))) 9223372036854775807)
 (some [(.v (.string (((bs [115, 99, 97, 110, 32]) ++ (((avStr (cellAt r2 0)) ++ (bs [32])) ++ (avStr (cellAt r10 0)))) ++ ((((bs [32, 119, 104, 101, 114, 101, 32]) ++ (avStr (cellAt r5 0))) ++ (bs [32, 108, 105, 109, 105, 116, 32])) ++ (avStr (cellAt r54 0))))))])
 (none))
 (none))
 (none))
 (none))
 (none))
 (cond (leN (5 + (ByteArray.size (((avStr (cellAt r2 0)) ++ (bs [32])) ++ (avStr (cellAt r10 0))))) 9223372036854775807)
 (cond (leN ((ByteArray.size ((bs [115, 99, 97, 110, 32]) ++ (((avStr (cellAt r2 0)) ++ (bs [32])) ++ (avStr (cellAt r10 0))))) + (ByteArray.size ((bs [32, 119, 104, 101, 114, 101, 32]) ++ (avStr (cellAt r5 0))))) 9223372036854775807)
 (some [(.v (.string (((bs [115, 99, 97, 110, 32]) ++ (((avStr (cellAt r2 0)) ++ (bs [32])) ++ (avStr (cellAt r10 0)))) ++ ((bs [32, 119, 104, 101, 114, 101, 32]) ++ (avStr (cellAt r5 0))))))])
 (none))
 (none)))
 (cond (a0_0 == 7)
 (cond (leN (6 + (ByteArray.size (((avStr (cellAt r2 0)) ++ (bs [32])) ++ (avStr (cellAt r10 0))))) 9223372036854775807)
 (cond (leN ((ByteArray.size ((bs [99, 111, 117, 110, 116, 32]) ++ (((avStr (cellAt r2 0)) ++ (bs [32])) ++ (avStr (cellAt r10 0))))) + (ByteArray.size ((bs [32, 119, 104, 101, 114, 101, 32]) ++ (avStr (cellAt r5 0))))) 9223372036854775807)
 (some [(.v (.string (((bs [99, 111, 117, 110, 116, 32]) ++ (((avStr (cellAt r2 0)) ++ (bs [32])) ++ (avStr (cellAt r10 0)))) ++ ((bs [32, 119, 104, 101, 114, 101, 32]) ++ (avStr (cellAt r5 0))))))])
 (none))
 (none))
 (cond (a0_0 == 8)
 ((ev 61 [(.v (.int .i64 a0_6))]).bind fun r65 =>
 cond (isS (cellAt r65 0))
 (cond (leN (4 + (ByteArray.size (avStr (cellAt r65 0)))) 9223372036854775807)
 (cond (leN ((ByteArray.size ((bs [115, 117, 109, 32]) ++ (avStr (cellAt r65 0)))) + 1) 9223372036854775807)
 (cond (leN ((ByteArray.size (((bs [115, 117, 109, 32]) ++ (avStr (cellAt r65 0))) ++ (bs [32]))) + (ByteArray.size (((avStr (cellAt r2 0)) ++ (bs [32])) ++ (avStr (cellAt r10 0))))) 9223372036854775807)
 (cond (leN ((ByteArray.size ((((bs [115, 117, 109, 32]) ++ (avStr (cellAt r65 0))) ++ (bs [32])) ++ (((avStr (cellAt r2 0)) ++ (bs [32])) ++ (avStr (cellAt r10 0))))) + (ByteArray.size ((bs [32, 119, 104, 101, 114, 101, 32]) ++ (avStr (cellAt r5 0))))) 9223372036854775807)
 (some [(.v (.string (((((bs [115, 117, 109, 32]) ++ (avStr (cellAt r65 0))) ++ (bs [32])) ++ (((avStr (cellAt r2 0)) ++ (bs [32])) ++ (avStr (cellAt r10 0)))) ++ ((bs [32, 119, 104, 101, 114, 101, 32]) ++ (avStr (cellAt r5 0))))))])
 (none))
 (none))
 (none))
 (none))
 (none))
 (cond (leN (6 + (ByteArray.size (avStr (cellAt r2 0)))) 9223372036854775807)
 (cond (leN ((ByteArray.size ((bs [99, 104, 101, 99, 107, 32]) ++ (avStr (cellAt r2 0)))) + 1) 9223372036854775807)
 ((ev 59 [(.agg [(.v (.int .i64 a0_8)), (.v (.int .i64 a0_9)), (.v (.int .i64 a0_10))])]).bind fun r73 =>
 cond (isS (cellAt r73 0))
 (cond (leN ((ByteArray.size (((bs [99, 104, 101, 99, 107, 32]) ++ (avStr (cellAt r2 0))) ++ (bs [32]))) + (ByteArray.size (avStr (cellAt r73 0)))) 9223372036854775807)
 (some [(.v (.string ((((bs [99, 104, 101, 99, 107, 32]) ++ (avStr (cellAt r2 0))) ++ (bs [32])) ++ (avStr (cellAt r73 0)))))])
 (none))
 (none))
 (none))
 (none))))))))))
 (none))
 (none))
 (none))
 (none))
 (none))
 (cond (leN ((ByteArray.size (avStr (cellAt r2 0))) + 1) 9223372036854775807)
 ((ev 58 [(.v (.int .u64 (IntKind.wrap .u64 a0_2)))]).bind fun r78 =>
 cond (isS (cellAt r78 0))
 (cond (leN ((ByteArray.size ((avStr (cellAt r2 0)) ++ (bs [32]))) + (ByteArray.size (avStr (cellAt r78 0)))) 9223372036854775807)
 (cond (a0_0 == 1)
 (cond (leN (7 + (ByteArray.size (avStr (cellAt r2 0)))) 9223372036854775807)
 (cond (leN ((ByteArray.size ((bs [105, 110, 115, 101, 114, 116, 32]) ++ (avStr (cellAt r2 0)))) + 1) 9223372036854775807)
 ((ev 60 [(.v (.int .i64 a0_3))]).bind fun r84 =>
 cond (isS (cellAt r84 0))
 (cond (leN ((ByteArray.size (((bs [105, 110, 115, 101, 114, 116, 32]) ++ (avStr (cellAt r2 0))) ++ (bs [32]))) + (ByteArray.size (avStr (cellAt r84 0)))) 9223372036854775807)
 (cond (leN ((ByteArray.size ((((bs [105, 110, 115, 101, 114, 116, 32]) ++ (avStr (cellAt r2 0))) ++ (bs [32])) ++ (avStr (cellAt r84 0)))) + 1) 9223372036854775807)
 ((ev 60 [(.v (.int .i64 a0_4))]).bind fun r88 =>
 cond (isS (cellAt r88 0))
 (cond (leN ((ByteArray.size (((((bs [105, 110, 115, 101, 114, 116, 32]) ++ (avStr (cellAt r2 0))) ++ (bs [32])) ++ (avStr (cellAt r84 0))) ++ (bs [32]))) + (ByteArray.size (avStr (cellAt r88 0)))) 9223372036854775807)
 (cond (leN ((ByteArray.size ((((((bs [105, 110, 115, 101, 114, 116, 32]) ++ (avStr (cellAt r2 0))) ++ (bs [32])) ++ (avStr (cellAt r84 0))) ++ (bs [32])) ++ (avStr (cellAt r88 0)))) + 1) 9223372036854775807)
 ((ev 60 [(.v (.int .i64 a0_5))]).bind fun r92 =>
 cond (isS (cellAt r92 0))
 (cond (leN ((ByteArray.size (((((((bs [105, 110, 115, 101, 114, 116, 32]) ++ (avStr (cellAt r2 0))) ++ (bs [32])) ++ (avStr (cellAt r84 0))) ++ (bs [32])) ++ (avStr (cellAt r88 0))) ++ (bs [32]))) + (ByteArray.size (avStr (cellAt r92 0)))) 9223372036854775807)
 (some [(.v (.string ((((((((bs [105, 110, 115, 101, 114, 116, 32]) ++ (avStr (cellAt r2 0))) ++ (bs [32])) ++ (avStr (cellAt r84 0))) ++ (bs [32])) ++ (avStr (cellAt r88 0))) ++ (bs [32])) ++ (avStr (cellAt r92 0)))))])
 (none))
 (none))
 (none))
 (none))
 (none))
 (none))
 (none))
 (none))
 (none))
 (none))
 (cond (a0_0 == 2)
 (cond (leN (4 + (ByteArray.size (avStr (cellAt r2 0)))) 9223372036854775807)
 (cond (leN ((ByteArray.size ((bs [115, 101, 116, 32]) ++ (avStr (cellAt r2 0)))) + 1) 9223372036854775807)
 ((ev 61 [(.v (.int .i64 a0_6))]).bind fun r98 =>
 cond (isS (cellAt r98 0))
 (cond (leN ((ByteArray.size (((bs [115, 101, 116, 32]) ++ (avStr (cellAt r2 0))) ++ (bs [32]))) + (ByteArray.size (avStr (cellAt r98 0)))) 9223372036854775807)
 (cond (leN ((ByteArray.size ((((bs [115, 101, 116, 32]) ++ (avStr (cellAt r2 0))) ++ (bs [32])) ++ (avStr (cellAt r98 0)))) + 1) 9223372036854775807)
 ((ev 60 [(.v (.int .i64 a0_7))]).bind fun r102 =>
 cond (isS (cellAt r102 0))
 (cond (leN ((ByteArray.size (((((bs [115, 101, 116, 32]) ++ (avStr (cellAt r2 0))) ++ (bs [32])) ++ (avStr (cellAt r98 0))) ++ (bs [32]))) + (ByteArray.size (avStr (cellAt r102 0)))) 9223372036854775807)
 (some [(.v (.string ((((((bs [115, 101, 116, 32]) ++ (avStr (cellAt r2 0))) ++ (bs [32])) ++ (avStr (cellAt r98 0))) ++ (bs [32])) ++ (avStr (cellAt r102 0)))))])
 (none))
 (none))
 (none))
 (none))
 (none))
 (none))
 (none))
 (cond (a0_0 == 3)
 (cond (leN (4 + (ByteArray.size (avStr (cellAt r2 0)))) 9223372036854775807)
 (cond (leN ((ByteArray.size ((bs [97, 100, 100, 32]) ++ (avStr (cellAt r2 0)))) + 1) 9223372036854775807)
 ((ev 61 [(.v (.int .i64 a0_6))]).bind fun r108 =>
 cond (isS (cellAt r108 0))
 (cond (leN ((ByteArray.size (((bs [97, 100, 100, 32]) ++ (avStr (cellAt r2 0))) ++ (bs [32]))) + (ByteArray.size (avStr (cellAt r108 0)))) 9223372036854775807)
 (cond (leN ((ByteArray.size ((((bs [97, 100, 100, 32]) ++ (avStr (cellAt r2 0))) ++ (bs [32])) ++ (avStr (cellAt r108 0)))) + 1) 9223372036854775807)
 ((ev 60 [(.v (.int .i64 a0_7))]).bind fun r112 =>
 cond (isS (cellAt r112 0))
 (cond (leN ((ByteArray.size (((((bs [97, 100, 100, 32]) ++ (avStr (cellAt r2 0))) ++ (bs [32])) ++ (avStr (cellAt r108 0))) ++ (bs [32]))) + (ByteArray.size (avStr (cellAt r112 0)))) 9223372036854775807)
 (some [(.v (.string ((((((bs [97, 100, 100, 32]) ++ (avStr (cellAt r2 0))) ++ (bs [32])) ++ (avStr (cellAt r108 0))) ++ (bs [32])) ++ (avStr (cellAt r112 0)))))])
 (none))
 (none))
 (none))
 (none))
 (none))
 (none))
 (none))
 (cond (a0_0 == 4)
 (cond (leN (7 + (ByteArray.size (avStr (cellAt r2 0)))) 9223372036854775807)
 (some [(.v (.string ((bs [100, 101, 108, 101, 116, 101, 32]) ++ (avStr (cellAt r2 0)))))])
 (none))
 (cond (a0_0 == 5)
 (cond (leN (4 + (ByteArray.size (avStr (cellAt r2 0)))) 9223372036854775807)
 (some [(.v (.string ((bs [103, 101, 116, 32]) ++ (avStr (cellAt r2 0)))))])
 (none))
 (cond (a0_0 == 6)
 (cond (ltI 0 a0_11)
 (cond (leN ((ByteArray.size (bs [])) + 7) 9223372036854775807)
 ((ev 58 [(.v (.int .u64 (IntKind.wrap .u64 a0_11)))]).bind fun r122 =>
 cond (isS (cellAt r122 0))
 (cond (leN ((ByteArray.size ((bs []) ++ (bs [32, 108, 105, 109, 105, 116, 32]))) + (ByteArray.size (avStr (cellAt r122 0)))) 9223372036854775807)
 (cond (leN (5 + (ByteArray.size (((avStr (cellAt r2 0)) ++ (bs [32])) ++ (avStr (cellAt r78 0))))) 9223372036854775807)
 (cond (leN ((ByteArray.size ((bs [115, 99, 97, 110, 32]) ++ (((avStr (cellAt r2 0)) ++ (bs [32])) ++ (avStr (cellAt r78 0))))) + (ByteArray.size (((bs []) ++ (bs [32, 108, 105, 109, 105, 116, 32])) ++ (avStr (cellAt r122 0))))) 9223372036854775807)
 (some [(.v (.string (((bs [115, 99, 97, 110, 32]) ++ (((avStr (cellAt r2 0)) ++ (bs [32])) ++ (avStr (cellAt r78 0)))) ++ (((bs []) ++ (bs [32, 108, 105, 109, 105, 116, 32])) ++ (avStr (cellAt r122 0))))))])
 (none))
 (none))
 (none))
 (none))
 (none))
 (cond (leN (5 + (ByteArray.size (((avStr (cellAt r2 0)) ++ (bs [32])) ++ (avStr (cellAt r78 0))))) 9223372036854775807)
 (cond (leN ((ByteArray.size ((bs [115, 99, 97, 110, 32]) ++ (((avStr (cellAt r2 0)) ++ (bs [32])) ++ (avStr (cellAt r78 0))))) + (ByteArray.size (bs []))) 9223372036854775807)
 (some [(.v (.string (((bs [115, 99, 97, 110, 32]) ++ (((avStr (cellAt r2 0)) ++ (bs [32])) ++ (avStr (cellAt r78 0)))) ++ (bs []))))])
 (none))
 (none)))
 (cond (a0_0 == 7)
 (cond (leN (6 + (ByteArray.size (((avStr (cellAt r2 0)) ++ (bs [32])) ++ (avStr (cellAt r78 0))))) 9223372036854775807)
 (cond (leN ((ByteArray.size ((bs [99, 111, 117, 110, 116, 32]) ++ (((avStr (cellAt r2 0)) ++ (bs [32])) ++ (avStr (cellAt r78 0))))) + (ByteArray.size (bs []))) 9223372036854775807)
 (some [(.v (.string (((bs [99, 111, 117, 110, 116, 32]) ++ (((avStr (cellAt r2 0)) ++ (bs [32])) ++ (avStr (cellAt r78 0)))) ++ (bs []))))])
 (none))
 (none))
 (cond (a0_0 == 8)
 ((ev 61 [(.v (.int .i64 a0_6))]).bind fun r133 =>
 cond (isS (cellAt r133 0))
 (cond (leN (4 + (ByteArray.size (avStr (cellAt r133 0)))) 9223372036854775807)
 (cond (leN ((ByteArray.size ((bs [115, 117, 109, 32]) ++ (avStr (cellAt r133 0)))) + 1) 9223372036854775807)
 (cond (leN ((ByteArray.size (((bs [115, 117, 109, 32]) ++ (avStr (cellAt r133 0))) ++ (bs [32]))) + (ByteArray.size (((avStr (cellAt r2 0)) ++ (bs [32])) ++ (avStr (cellAt r78 0))))) 9223372036854775807)
 (cond (leN ((ByteArray.size ((((bs [115, 117, 109, 32]) ++ (avStr (cellAt r133 0))) ++ (bs [32])) ++ (((avStr (cellAt r2 0)) ++ (bs [32])) ++ (avStr (cellAt r78 0))))) + (ByteArray.size (bs []))) 9223372036854775807)
 (some [(.v (.string (((((bs [115, 117, 109, 32]) ++ (avStr (cellAt r133 0))) ++ (bs [32])) ++ (((avStr (cellAt r2 0)) ++ (bs [32])) ++ (avStr (cellAt r78 0)))) ++ (bs []))))])
 (none))
 (none))
 (none))
 (none))
 (none))
 (cond (leN (6 + (ByteArray.size (avStr (cellAt r2 0)))) 9223372036854775807)
 (cond (leN ((ByteArray.size ((bs [99, 104, 101, 99, 107, 32]) ++ (avStr (cellAt r2 0)))) + 1) 9223372036854775807)
 ((ev 59 [(.agg [(.v (.int .i64 a0_8)), (.v (.int .i64 a0_9)), (.v (.int .i64 a0_10))])]).bind fun r141 =>
 cond (isS (cellAt r141 0))
 (cond (leN ((ByteArray.size (((bs [99, 104, 101, 99, 107, 32]) ++ (avStr (cellAt r2 0))) ++ (bs [32]))) + (ByteArray.size (avStr (cellAt r141 0)))) 9223372036854775807)
 (some [(.v (.string ((((bs [99, 104, 101, 99, 107, 32]) ++ (avStr (cellAt r2 0))) ++ (bs [32])) ++ (avStr (cellAt r141 0)))))])
 (none))
 (none))
 (none))
 (none))))))))))
 (none))
 (none))
 (none)))
 (none) := (ev_eq _ _).trans (by kernel_rfl)
-- "bodega/bodegaref29.ValidProgram"
theorem ev36 (a0_0n : Bool) (a0_0 : List (List AV)) : ev 36 [(.lst a0_0n 12 a0_0)] =
 cond (ltI (((List.length a0_0) : Nat) : Int) 1)
 (some [(.v (.bool false))])
 (cond (ltI 8 (((List.length a0_0) : Nat) : Int))
 (some [(.v (.bool false))])
 ((lp 36 0 0 ⟨[(0, (.lst a0_0n 12 a0_0)), (3, (.v (.int .i64 0)))], []⟩).bind fun r4 =>
 cond (isEx 0 r4)
 (cond (likeStG ⟨[], []⟩ r4.st)
 (some [(.v (.bool true))])
 (none))
 (cond (isRt r4)
 (some r4.outs)
 (none)))) := (ev_eq _ _).trans (by kernel_rfl)
theorem lp36_0 (x0n : Bool) (x0 : List (List AV)) (x3 : Int) : lp 36 0 0 ⟨[(0, (.lst x0n 12 x0)), (3, (.v (.int .i64 x3)))], []⟩ =
 cond (ltI x3 (((List.length x0) : Nat) : Int))
 (cond ((leI 0 x3) && (ltI x3 (((List.length x0) : Nat) : Int)))
 (cond ((isI .i64 (cellAt (lget x0 (Int.toNat x3)) 0)) && ((isI .u32 (cellAt (lget x0 (Int.toNat x3)) 1)) && ((isI .u32 (cellAt (lget x0 (Int.toNat x3)) 2)) && ((isI .i64 (cellAt (lget x0 (Int.toNat x3)) 3)) && ((isI .i64 (cellAt (lget x0 (Int.toNat x3)) 4)) && ((isI .i64 (cellAt (lget x0 (Int.toNat x3)) 5)) && ((isI .i64 (cellAt (lget x0 (Int.toNat x3)) 6)) && ((isI .i64 (cellAt (lget x0 (Int.toNat x3)) 7)) && ((isI .i64 (cellAt (lget x0 (Int.toNat x3)) 8)) && ((isI .i64 (cellAt (lget x0 (Int.toNat x3)) 9)) && ((isI .i64 (cellAt (lget x0 (Int.toNat x3)) 10)) && (isI .i64 (cellAt (lget x0 (Int.toNat x3)) 11)))))))))))))
 ((ev 24 [(.agg [(.v (.int .i64 (avInt (cellAt (lget x0 (Int.toNat x3)) 0)))), (.v (.int .u32 (avInt (cellAt (lget x0 (Int.toNat x3)) 1)))), (.v (.int .u32 (avInt (cellAt (lget x0 (Int.toNat x3)) 2)))), (.v (.int .i64 (avInt (cellAt (lget x0 (Int.toNat x3)) 3)))), (.v (.int .i64 (avInt (cellAt (lget x0 (Int.toNat x3)) 4)))), (.v (.int .i64 (avInt (cellAt (lget x0 (Int.toNat x3)) 5)))), (.v (.int .i64 (avInt (cellAt (lget x0 (Int.toNat x3)) 6)))), (.v (.int .i64 (avInt (cellAt (lget x0 (Int.toNat x3)) 7)))), (.v (.int .i64 (avInt (cellAt (lget x0 (Int.toNat x3)) 8)))), (.v (.int .i64 (avInt (cellAt (lget x0 (Int.toNat x3)) 9)))), (.v (.int .i64 (avInt (cellAt (lget x0 (Int.toNat x3)) 10)))), (.v (.int .i64 (avInt (cellAt (lget x0 (Int.toNat x3)) 11))))])]).bind fun r18 =>
 cond (isB (cellAt r18 0))
 (cond (!(avBool (cellAt r18 0)))
 (some ⟨none, ⟨[], []⟩, [(.v (.bool false))]⟩)
 (lp 36 0 0 ⟨[(0, (.lst x0n 12 x0)), (3, (.v (.int .i64 (IntKind.wrap .i64 (x3 + 1)))))], []⟩))
 (none))
 (none))
 (none))
 (some ⟨(some 0), ⟨[], []⟩, []⟩) := (lp_eq _ _ _ _).trans (by kernel_rfl)
-- "bodega/bodegaref29.Format"
theorem ev12 (a0_0n : Bool) (a0_0 : List (List AV)) : ev 12 [(.lst a0_0n 12 a0_0)] =
 (ev 36 [(.lst a0_0n 12 a0_0)]).bind fun r1 =>
 cond (isB (cellAt r1 0))
 (cond (!(avBool (cellAt r1 0)))
 (some [(.v (.string (bs []))), (.v (.int .i64 1))])
 (cond (true && (ltI 0 (((List.length a0_0) : Nat) : Int)))
 (cond ((isI .i64 (cellAt (lget a0_0 0) 0)) && ((isI .u32 (cellAt (lget a0_0 0) 1)) && ((isI .u32 (cellAt (lget a0_0 0) 2)) && ((isI .i64 (cellAt (lget a0_0 0) 3)) && ((isI .i64 (cellAt (lget a0_0 0) 4)) && ((isI .i64 (cellAt (lget a0_0 0) 5)) && ((isI .i64 (cellAt (lget a0_0 0) 6)) && ((isI .i64 (cellAt (lget a0_0 0) 7)) && ((isI .i64 (cellAt (lget a0_0 0) 8)) && ((isI .i64 (cellAt (lget a0_0 0) 9)) && ((isI .i64 (cellAt (lget a0_0 0) 10)) && (isI .i64 (cellAt (lget a0_0 0) 11)))))))))))))
 ((ev 37 [(.agg [(.v (.int .i64 (avInt (cellAt (lget a0_0 0) 0)))), (.v (.int .u32 (avInt (cellAt (lget a0_0 0) 1)))), (.v (.int .u32 (avInt (cellAt (lget a0_0 0) 2)))), (.v (.int .i64 (avInt (cellAt (lget a0_0 0) 3)))), (.v (.int .i64 (avInt (cellAt (lget a0_0 0) 4)))), (.v (.int .i64 (avInt (cellAt (lget a0_0 0) 5)))), (.v (.int .i64 (avInt (cellAt (lget a0_0 0) 6)))), (.v (.int .i64 (avInt (cellAt (lget a0_0 0) 7)))), (.v (.int .i64 (avInt (cellAt (lget a0_0 0) 8)))), (.v (.int .i64 (avInt (cellAt (lget a0_0 0) 9)))), (.v (.int .i64 (avInt (cellAt (lget a0_0 0) 10)))), (.v (.int .i64 (avInt (cellAt (lget a0_0 0) 11))))])]).bind fun r16 =>
 cond (isS (cellAt r16 0))
 ((lp 12 0 0 ⟨[(0, (.lst a0_0n 12 a0_0)), (4, (.v (.string (avStr (cellAt r16 0))))), (5, (.v (.int .i64 1)))], []⟩).bind fun r18 =>
 cond (isEx 0 r18)
 (cond (likeStG ⟨[(4, (.v (.string (avStr (cellAt r16 0)))))], []⟩ r18.st)
 (some [(.v (.string (avStr (frAt r18.st.fr 0).2))), (.v (.int .i64 0))])
 (none))
 (cond (isRt r18)
 (some r18.outs)
 (none)))
 (none))
 (none))
 (none)))
 (none) := (ev_eq _ _).trans (by kernel_rfl)
theorem lp12_0 (x0n : Bool) (x0 : List (List AV)) (x4 : ByteArray) (x5 : Int) : lp 12 0 0 ⟨[(0, (.lst x0n 12 x0)), (4, (.v (.string x4))), (5, (.v (.int .i64 x5)))], []⟩ =
 cond (ltI x5 (((List.length x0) : Nat) : Int))
 (cond (leN ((ByteArray.size x4) + 2) 9223372036854775807)
 (cond ((leI 0 x5) && (ltI x5 (((List.length x0) : Nat) : Int)))
 (cond ((isI .i64 (cellAt (lget x0 (Int.toNat x5)) 0)) && ((isI .u32 (cellAt (lget x0 (Int.toNat x5)) 1)) && ((isI .u32 (cellAt (lget x0 (Int.toNat x5)) 2)) && ((isI .i64 (cellAt (lget x0 (Int.toNat x5)) 3)) && ((isI .i64 (cellAt (lget x0 (Int.toNat x5)) 4)) && ((isI .i64 (cellAt (lget x0 (Int.toNat x5)) 5)) && ((isI .i64 (cellAt (lget x0 (Int.toNat x5)) 6)) && ((isI .i64 (cellAt (lget x0 (Int.toNat x5)) 7)) && ((isI .i64 (cellAt (lget x0 (Int.toNat x5)) 8)) && ((isI .i64 (cellAt (lget x0 (Int.toNat x5)) 9)) && ((isI .i64 (cellAt (lget x0 (Int.toNat x5)) 10)) && (isI .i64 (cellAt (lget x0 (Int.toNat x5)) 11)))))))))))))
 ((ev 37 [(.agg [(.v (.int .i64 (avInt (cellAt (lget x0 (Int.toNat x5)) 0)))), (.v (.int .u32 (avInt (cellAt (lget x0 (Int.toNat x5)) 1)))), (.v (.int .u32 (avInt (cellAt (lget x0 (Int.toNat x5)) 2)))), (.v (.int .i64 (avInt (cellAt (lget x0 (Int.toNat x5)) 3)))), (.v (.int .i64 (avInt (cellAt (lget x0 (Int.toNat x5)) 4)))), (.v (.int .i64 (avInt (cellAt (lget x0 (Int.toNat x5)) 5)))), (.v (.int .i64 (avInt (cellAt (lget x0 (Int.toNat x5)) 6)))), (.v (.int .i64 (avInt (cellAt (lget x0 (Int.toNat x5)) 7)))), (.v (.int .i64 (avInt (cellAt (lget x0 (Int.toNat x5)) 8)))), (.v (.int .i64 (avInt (cellAt (lget x0 (Int.toNat x5)) 9)))), (.v (.int .i64 (avInt (cellAt (lget x0 (Int.toNat x5)) 10)))), (.v (.int .i64 (avInt (cellAt (lget x0 (Int.toNat x5)) 11))))])]).bind fun r34 =>
 cond (isS (cellAt r34 0))
 (cond (leN ((ByteArray.size (x4 ++ (bs [59, 32]))) + (ByteArray.size (avStr (cellAt r34 0)))) 9223372036854775807)
 (lp 12 0 0 ⟨[(0, (.lst x0n 12 x0)), (4, (.v (.string ((x4 ++ (bs [59, 32])) ++ (avStr (cellAt r34 0)))))), (5, (.v (.int .i64 (IntKind.wrap .i64 (x5 + 1)))))], []⟩)
 (none))
 (none))
 (none))
 (none))
 (none))
 (some ⟨(some 0), ⟨[(4, (.v (.string x4)))], []⟩, []⟩) := (lp_eq _ _ _ _).trans (by kernel_rfl)
end Go.Proofs.Ytcinngpelbdopaa
