/- The functions of the chapter, as the evaluator has them. -/
import Derived.Test.YtnhahcomgeeobaaEq
set_option linter.all false
namespace Go.Proofs.Ytnhahcomgeeobaa
open Go.Ev

-- "bodega/bodegalaw34.SerialApplies"
-- "bodega/bodegalaw34.SerialAtomic"
theorem ev8 (a0_0 : Int) (a1_0n : Bool) (a1_0 : List (List AV)) (a2_0n : Bool) (a2_0 : List (List AV)) : ev 8 [(.v (.int .i64 a0_0)), (.lst a1_0n 7 a1_0), (.lst a2_0n 7 a2_0)] =
 cond (ltI 4 (((List.length a1_0) : Nat) : Int))
 (some [(.v (.bool true))])
 (cond (ltI 4 (((List.length a2_0) : Nat) : Int))
 (some [(.v (.bool true))])
 ((ev 11 [(.v (.int .i64 a0_0))]).bind fun r4 =>
 cond (isL 4 (cellAt r4 0))
 ((ev 24 [(.lst a1_0n 7 a1_0)]).bind fun r7 =>
 cond (isL 12 (cellAt r7 0))
 ((ev 24 [(.lst a2_0n 7 a2_0)]).bind fun r10 =>
 cond (isL 12 (cellAt r10 0))
 (cond (ltI 8 (IntKind.wrap .i64 ((((List.length (avXs (cellAt r7 0))) : Nat) : Int) + (((List.length (avXs (cellAt r10 0))) : Nat) : Int))))
 (some [(.v (.bool true))])
 ((ev 27 [(.lst (avNil (cellAt r4 0)) 4 (avXs (cellAt r4 0))), (.lst (avNil (cellAt r7 0)) 12 (avXs (cellAt r7 0)))]).bind fun r16 =>
 cond (isOw 91 4 (cellAt r16 0))
 (cond (isOw 68 2 (cellAt r16 1))
 (cond (isI .i64 (cellAt r16 2))
 (cond (isI .i64 (cellAt r16 3))
 ((ev 13 []).bind fun r23 =>
 cond (isB (cellAt r23 0))
 (cond (!(avBool (cellAt r23 0)))
 (some [(.v (.bool false))])
 ((ev 31 [(.lst (avNil (cellAt r16 0)) 4 (avXs (cellAt r16 0)))]).bind fun r26 =>
 cond (isB (cellAt r26 0))
 (cond (!(avBool (cellAt r26 0)))
 (some [(.v (.bool false))])
 (cond (!((avInt (cellAt r16 3)) == 0))
 ((ev 17 [(.lst (avNil (cellAt r16 0)) 4 (avXs (cellAt r16 0)))]).bind fun r30 =>
 cond (isL 4 (cellAt r30 0))
 ((ev 17 [(.lst (avNil (cellAt r4 0)) 4 (avXs (cellAt r4 0)))]).bind fun r34 =>
 cond (isL 4 (cellAt r34 0))
 ((ev 28 [(.lst (avNil (cellAt r30 0)) 4 (avXs (cellAt r30 0))), (.lst (avNil (cellAt r34 0)) 4 (avXs (cellAt r34 0)))]).bind fun r37 =>
 cond (isB (cellAt r37 0))
 (cond (!(avBool (cellAt r37 0)))
 (some [(.v (.bool false))])
 (cond (!(((((List.length (avXs (cellAt r16 1))) - 0) : Nat) : Int) == 0))
 (some [(.v (.bool false))])
 (cond (ltI (avInt (cellAt r16 2)) 0)
 (some [(.v (.bool false))])
 (cond (leI (((List.length (avXs (cellAt r7 0))) : Nat) : Int) (avInt (cellAt r16 2)))
 (some [(.v (.bool false))])
 (cond (!((avInt (cellAt r16 3)) == 0))
 (some [(.v (.bool true))])
 ((ev 27 [(.lst (avNil (cellAt r16 0)) 4 (avXs (cellAt r16 0))), (.lst (avNil (cellAt r10 0)) 12 (avXs (cellAt r10 0)))]).bind fun r45 =>
 cond (isOw 91 4 (cellAt r45 0))
 (cond (isOw 68 2 (cellAt r45 1))
 (cond (isI .i64 (cellAt r45 2))
 (cond (isI .i64 (cellAt r45 3))
 (cond (leN ((0 + (List.length (avXs (cellAt r7 0)))) * 88) 140737488355328)
 (cond (leN (((List.length ([] ++ (avXs (cellAt r7 0)))) + (List.length (avXs (cellAt r10 0)))) * 88) 140737488355328)
 ((ev 27 [(.lst (avNil (cellAt r4 0)) 4 (avXs (cellAt r4 0))), (.lst ((List.isEmpty (avXs (cellAt r10 0))) && ((List.isEmpty (avXs (cellAt r7 0))) && false)) 12 (([] ++ (avXs (cellAt r7 0))) ++ (avXs (cellAt r10 0))))]).bind fun r57 =>
 cond (isOw 91 4 (cellAt r57 0))
 (cond (isOw 68 2 (cellAt r57 1))
 (cond (isI .i64 (cellAt r57 2))
 (cond (isI .i64 (cellAt r57 3))
 (cond ((avInt (cellAt r45 3)) == 1)
 (some [(.v (.bool ((avInt (cellAt r57 3)) == 1)))])
 (cond (!((avInt (cellAt r45 3)) == 0))
 (cond ((avInt (cellAt r57 3)) == (avInt (cellAt r45 3)))
 (cond ((avInt (cellAt r57 2)) == (IntKind.wrap .i64 ((((List.length (avXs (cellAt r7 0))) : Nat) : Int) + (avInt (cellAt r45 2)))))
 ((ev 17 [(.lst (avNil (cellAt r57 0)) 4 (avXs (cellAt r57 0)))]).bind fun r70 =>
 cond (isL 4 (cellAt r70 0))
 ((ev 17 [(.lst (avNil (cellAt r4 0)) 4 (avXs (cellAt r4 0)))]).bind fun r74 =>
 cond (isL 4 (cellAt r74 0))
 ((ev 28 [(.lst (avNil (cellAt r70 0)) 4 (avXs (cellAt r70 0))), (.lst (avNil (cellAt r74 0)) 4 (avXs (cellAt r74 0)))]).bind fun r77 =>
 cond (isB (cellAt r77 0))
 (some [(.v (.bool (avBool (cellAt r77 0))))])
 (none))
 (none))
 (none))
 (some [(.v (.bool false))]))
 (some [(.v (.bool false))]))
 (cond ((avInt (cellAt r57 3)) == 0)
 ((ev 17 [(.lst (avNil (cellAt r45 0)) 4 (avXs (cellAt r45 0)))]).bind fun r80 =>
 cond (isL 4 (cellAt r80 0))
 ((ev 17 [(.lst (avNil (cellAt r57 0)) 4 (avXs (cellAt r57 0)))]).bind fun r84 =>
 cond (isL 4 (cellAt r84 0))
 ((ev 28 [(.lst (avNil (cellAt r80 0)) 4 (avXs (cellAt r80 0))), (.lst (avNil (cellAt r84 0)) 4 (avXs (cellAt r84 0)))]).bind fun r88 =>
 cond (isB (cellAt r88 0))
 (cond (avBool (cellAt r88 0))
 ((ev 30 [(.lst (avNil (cellAt r16 1)) 2 (avXs (cellAt r16 1)))]).bind fun r90 =>
 cond (isOw 111 2 (cellAt r90 0))
 ((ev 30 [(.lst (avNil (cellAt r45 1)) 2 (avXs (cellAt r45 1)))]).bind fun r94 =>
 cond (isOw 111 2 (cellAt r94 0))
 (cond (leN (((List.length (avXs (cellAt r90 0))) + (List.length (avXs (cellAt r94 0)))) * 32) 140737488355328)
 ((ev 30 [(.lst (avNil (cellAt r57 1)) 2 (avXs (cellAt r57 1)))]).bind fun r101 =>
 cond (isOw 111 2 (cellAt r101 0))
 ((ev 29 [(.lst ((List.isEmpty (avXs (cellAt r94 0))) && (avNil (cellAt r90 0))) 2 ((avXs (cellAt r90 0)) ++ (avXs (cellAt r94 0)))), (.lst (avNil (cellAt r101 0)) 2 (avXs (cellAt r101 0)))]).bind fun r105 =>
 cond (isB (cellAt r105 0))
 (some [(.v (.bool (avBool (cellAt r105 0))))])
 (none))
 (none))
 (none))
 (none))
 (none))
 (some [(.v (.bool false))]))
 (none))
 (none))
 (none))
 (some [(.v (.bool false))]))))
 (none))
 (none))
 (none))
 (none))
 (none))
 (none))
 (none))
 (none))
 (none))
 (none)))))))
 (none))
 (none))
 (none))
 (cond (!((avInt (cellAt r16 3)) == 0))
 (some [(.v (.bool true))])
 ((ev 27 [(.lst (avNil (cellAt r16 0)) 4 (avXs (cellAt r16 0))), (.lst (avNil (cellAt r10 0)) 12 (avXs (cellAt r10 0)))]).bind fun r107 =>
 cond (isOw 91 4 (cellAt r107 0))
 (cond (isOw 68 2 (cellAt r107 1))
 (cond (isI .i64 (cellAt r107 2))
 (cond (isI .i64 (cellAt r107 3))
 (cond (leN ((0 + (List.length (avXs (cellAt r7 0)))) * 88) 140737488355328)
 (cond (leN (((List.length ([] ++ (avXs (cellAt r7 0)))) + (List.length (avXs (cellAt r10 0)))) * 88) 140737488355328)
 ((ev 27 [(.lst (avNil (cellAt r4 0)) 4 (avXs (cellAt r4 0))), (.lst ((List.isEmpty (avXs (cellAt r10 0))) && ((List.isEmpty (avXs (cellAt r7 0))) && false)) 12 (([] ++ (avXs (cellAt r7 0))) ++ (avXs (cellAt r10 0))))]).bind fun r120 =>
 cond (isOw 91 4 (cellAt r120 0))
 (cond (isOw 68 2 (cellAt r120 1))
 (cond (isI .i64 (cellAt r120 2))
 (cond (isI .i64 (cellAt r120 3))
 (cond ((avInt (cellAt r107 3)) == 1)
 (some [(.v (.bool ((avInt (cellAt r120 3)) == 1)))])
 (cond (!((avInt (cellAt r107 3)) == 0))
 (cond ((avInt (cellAt r120 3)) == (avInt (cellAt r107 3)))
 (cond ((avInt (cellAt r120 2)) == (IntKind.wrap .i64 ((((List.length (avXs (cellAt r7 0))) : Nat) : Int) + (avInt (cellAt r107 2)))))
 ((ev 17 [(.lst (avNil (cellAt r120 0)) 4 (avXs (cellAt r120 0)))]).bind fun r133 =>
 cond (isL 4 (cellAt r133 0))
 ((ev 17 [(.lst (avNil (cellAt r4 0)) 4 (avXs (cellAt r4 0)))]).bind fun r137 =>
 cond (isL 4 (cellAt r137 0))
 ((ev 28 [(.lst (avNil (cellAt r133 0)) 4 (avXs (cellAt r133 0))), (.lst (avNil (cellAt r137 0)) 4 (avXs (cellAt r137 0)))]).bind fun r140 =>
 cond (isB (cellAt r140 0))
 (some [(.v (.bool (avBool (cellAt r140 0))))])
 (none))
 (none))
 (none))
 (some [(.v (.bool false))]))
 (some [(.v (.bool false))]))
 (cond ((avInt (cellAt r120 3)) == 0)
 ((ev 17 [(.lst (avNil (cellAt r107 0)) 4 (avXs (cellAt r107 0)))]).bind fun r143 =>
 cond (isL 4 (cellAt r143 0))
 ((ev 17 [(.lst (avNil (cellAt r120 0)) 4 (avXs (cellAt r120 0)))]).bind fun r147 =>
 cond (isL 4 (cellAt r147 0))
 ((ev 28 [(.lst (avNil (cellAt r143 0)) 4 (avXs (cellAt r143 0))), (.lst (avNil (cellAt r147 0)) 4 (avXs (cellAt r147 0)))]).bind fun r151 =>
 cond (isB (cellAt r151 0))
 (cond (avBool (cellAt r151 0))
 ((ev 30 [(.lst (avNil (cellAt r16 1)) 2 (avXs (cellAt r16 1)))]).bind fun r153 =>
 cond (isOw 111 2 (cellAt r153 0))
 ((ev 30 [(.lst (avNil (cellAt r107 1)) 2 (avXs (cellAt r107 1)))]).bind fun r157 =>
 cond (isOw 111 2 (cellAt r157 0))
 (cond (leN (((List.length (avXs (cellAt r153 0))) + (List.length (avXs (cellAt r157 0)))) * 32) 140737488355328)
 ((ev 30 [(.lst (avNil (cellAt r120 1)) 2 (avXs (cellAt r120 1)))]).bind fun r164 =>
 cond (isOw 111 2 (cellAt r164 0))
 ((ev 29 [(.lst ((List.isEmpty (avXs (cellAt r157 0))) && (avNil (cellAt r153 0))) 2 ((avXs (cellAt r153 0)) ++ (avXs (cellAt r157 0)))), (.lst (avNil (cellAt r164 0)) 2 (avXs (cellAt r164 0)))]).bind fun r168 =>
 cond (isB (cellAt r168 0))
 (some [(.v (.bool (avBool (cellAt r168 0))))])
 (none))
 (none))
 (none))
 (none))
 (none))
 (some [(.v (.bool false))]))
 (none))
 (none))
 (none))
 (some [(.v (.bool false))]))))
 (none))
 (none))
 (none))
 (none))
 (none))
 (none))
 (none))
 (none))
 (none))
 (none)))))
 (none)))
 (none))
 (none))
 (none))
 (none))
 (none)))
 (none))
 (none))
 (none))) := (ev_eq _ _).trans (by kernel_rfl)
-- "bodega/bodegalaw34.SerialFinal"
-- "bodega/bodegalaw34.heavy"
-- "bodega/bodegalaw34.rows"
theorem ev11 (a0_0 : Int) : ev 11 [(.v (.int .i64 a0_0))] =
 (lp 11 0 0 ⟨[(0, (.v (.int .i64 a0_0))), (3, (.sl true 0 0 none)), (4, (.v (.int .i64 0)))], [⟨1, 91, 4, false, []⟩]⟩).bind fun r0 =>
 cond (isEx 0 r0)
 (cond (likeStG ⟨[(3, (.sl true 0 0 none))], [⟨1, 91, 4, false, []⟩]⟩ r0.st)
 (some [(.lst (avNil (frAt r0.st.fr 0).2) 4 (blAt r0.st.bl 0).xs)])
 (none))
 (cond (isRt r0)
 (some r0.outs)
 (none)) := (ev_eq _ _).trans (by kernel_rfl)
theorem lp11_0 (x0 : Int) (x3n : Bool) (x4 : Int) (b0 : List (List AV)) : lp 11 0 0 ⟨[(0, (.v (.int .i64 x0))), (3, (.sl x3n 0 0 none)), (4, (.v (.int .i64 x4)))], [⟨1, 91, 4, false, b0⟩]⟩ =
 cond (ltI x4 5)
 ((ev 20 [(.v (.int .i64 x0)), (.v (.int .i64 32))]).bind fun r3 =>
 cond (isI .i64 (cellAt r3 0))
 (cond (ltI (IntKind.wrap .u64 x4) 0)
 (none)
 (cond ((bits .and .i64 (Int.fdiv (avInt (cellAt r3 0)) (2 ^ (min (Int.toNat (IntKind.wrap .u64 x4)) 64))) 1) == 1)
 ((ev 20 [(.v (.int .i64 (IntKind.wrap .i64 (Int.tdiv x0 32)))), (.v (.int .i64 4))]).bind fun r11 =>
 cond (isI .i64 (cellAt r11 0))
 (cond (leN (((List.length b0) + 1) * 32) 140737488355328)
 (lp 11 0 0 ⟨[(0, (.v (.int .i64 x0))), (3, (.sl false 0 0 none)), (4, (.v (.int .i64 (IntKind.wrap .i64 (x4 + 1)))))], [⟨1, 91, 4, false, (b0 ++ [[(.v (.int .u32 (IntKind.wrap .u32 (IntKind.wrap .i64 (x4 + 1))))), (.v (.int .i64 (avInt (cellAt r11 0)))), (.v (.int .i64 x4)), (.v (.int .i64 9223372036854775807))]])⟩]⟩)
 (none))
 (none))
 (lp 11 0 0 ⟨[(0, (.v (.int .i64 x0))), (3, (.sl x3n 0 0 none)), (4, (.v (.int .i64 (IntKind.wrap .i64 (x4 + 1)))))], [⟨1, 91, 4, false, b0⟩]⟩)))
 (none))
 (some ⟨(some 0), ⟨[(3, (.sl x3n 0 0 none))], [⟨1, 91, 4, false, b0⟩]⟩, []⟩) := (lp_eq _ _ _ _).trans (by kernel_rfl)
-- "bodega/bodegalaw34.history"
-- "bodega/bodegalaw34.table"
theorem ev17 (a0_0n : Bool) (a0_0 : List (List AV)) : ev 17 [(.lst a0_0n 4 a0_0)] =
 (lp 17 0 0 ⟨[(0, (.lst a0_0n 4 a0_0)), (3, (.sl true 0 0 none)), (4, (.v (.int .i64 0)))], [⟨1, 61, 4, false, []⟩]⟩).bind fun r0 =>
 cond (isEx 0 r0)
 (cond (likeStG ⟨[(3, (.sl true 0 0 none))], [⟨1, 61, 4, false, []⟩]⟩ r0.st)
 (some [(.lst (avNil (frAt r0.st.fr 0).2) 4 (blAt r0.st.bl 0).xs)])
 (none))
 (cond (isRt r0)
 (some r0.outs)
 (none)) := (ev_eq _ _).trans (by kernel_rfl)
theorem lp17_0 (x0n : Bool) (x0 : List (List AV)) (x3n : Bool) (x4 : Int) (b0 : List (List AV)) : lp 17 0 0 ⟨[(0, (.lst x0n 4 x0)), (3, (.sl x3n 0 0 none)), (4, (.v (.int .i64 x4)))], [⟨1, 61, 4, false, b0⟩]⟩ =
 cond (ltI x4 (((List.length x0) : Nat) : Int))
 (cond ((leI 0 x4) && (ltI x4 (((List.length x0) : Nat) : Int)))
 (cond (isI .u32 (cellAt (lget x0 (Int.toNat x4)) 0))
 (cond ((leI 0 x4) && (ltI x4 (((List.length x0) : Nat) : Int)))
 (cond ((isI .i64 (cellAt (lget x0 (Int.toNat x4)) 1)) && ((isI .i64 (cellAt (lget x0 (Int.toNat x4)) 2)) && (isI .i64 (cellAt (lget x0 (Int.toNat x4)) 3))))
 (cond (leN (((List.length b0) + 1) * 32) 140737488355328)
 (lp 17 0 0 ⟨[(0, (.lst x0n 4 x0)), (3, (.sl false 0 0 none)), (4, (.v (.int .i64 (IntKind.wrap .i64 (x4 + 1)))))], [⟨1, 61, 4, false, (b0 ++ [[(.v (.int .u32 (avInt (cellAt (lget x0 (Int.toNat x4)) 0)))), (.v (.int .i64 (avInt (cellAt (lget x0 (Int.toNat x4)) 1)))), (.v (.int .i64 (avInt (cellAt (lget x0 (Int.toNat x4)) 2)))), (.v (.int .i64 (avInt (cellAt (lget x0 (Int.toNat x4)) 3))))]])⟩]⟩)
 (none))
 (none))
 (none))
 (none))
 (none))
 (some ⟨(some 0), ⟨[(3, (.sl x3n 0 0 none))], [⟨1, 61, 4, false, b0⟩]⟩, []⟩) := (lp_eq _ _ _ _).trans (by kernel_rfl)
-- "bodega/bodegaref29.Apply"
-- "bodega/bodegalaw34.back"
-- "bodega/bodegalaw34.program"
theorem ev24 (a0_0n : Bool) (a0_0 : List (List AV)) : ev 24 [(.lst a0_0n 7 a0_0)] =
 (lp 24 0 0 ⟨[(0, (.lst a0_0n 7 a0_0)), (3, (.sl false 0 0 none)), (4, (.v (.int .i64 0)))], [⟨1, 52, 12, false, []⟩]⟩).bind fun r0 =>
 cond (isEx 0 r0)
 (cond (likeStG ⟨[(3, (.sl false 0 0 none))], [⟨1, 52, 12, false, []⟩]⟩ r0.st)
 (cond (((((List.length (blAt r0.st.bl 0).xs) - 0) : Nat) : Int) == 0)
 (cond (leN (((List.length (blAt r0.st.bl 0).xs) + 1) * 88) 140737488355328)
 (some [(.lst false 12 ((blAt r0.st.bl 0).xs ++ [[(.v (.int .i64 7)), (.v (.int .u32 1)), (.v (.int .u32 9)), (.v (.int .i64 0)), (.v (.int .i64 0)), (.v (.int .i64 0)), (.v (.int .i64 0)), (.v (.int .i64 0)), (.v (.int .i64 0)), (.v (.int .i64 0)), (.v (.int .i64 0)), (.v (.int .i64 0))]]))])
 (none))
 (some [(.lst (avNil (frAt r0.st.fr 0).2) 12 (blAt r0.st.bl 0).xs)]))
 (none))
 (cond (isRt r0)
 (some r0.outs)
 (none)) := (ev_eq _ _).trans (by kernel_rfl)
theorem lp24_0 (x0n : Bool) (x0 : List (List AV)) (x3n : Bool) (x4 : Int) (b0 : List (List AV)) : lp 24 0 0 ⟨[(0, (.lst x0n 7 x0)), (3, (.sl x3n 0 0 none)), (4, (.v (.int .i64 x4)))], [⟨1, 52, 12, false, b0⟩]⟩ =
 cond (ltI x4 (((List.length x0) : Nat) : Int))
 (cond (ltI x4 5)
 (cond ((leI 0 x4) && (ltI x4 (((List.length x0) : Nat) : Int)))
 (cond ((isI .i64 (cellAt (lget x0 (Int.toNat x4)) 0)) && ((isI .i64 (cellAt (lget x0 (Int.toNat x4)) 1)) && ((isI .i64 (cellAt (lget x0 (Int.toNat x4)) 2)) && ((isI .i64 (cellAt (lget x0 (Int.toNat x4)) 3)) && ((isI .i64 (cellAt (lget x0 (Int.toNat x4)) 4)) && ((isI .i64 (cellAt (lget x0 (Int.toNat x4)) 5)) && (isI .i64 (cellAt (lget x0 (Int.toNat x4)) 6))))))))
 ((ev 44 [(.agg [(.v (.int .i64 (avInt (cellAt (lget x0 (Int.toNat x4)) 0)))), (.v (.int .i64 (avInt (cellAt (lget x0 (Int.toNat x4)) 1)))), (.v (.int .i64 (avInt (cellAt (lget x0 (Int.toNat x4)) 2)))), (.v (.int .i64 (avInt (cellAt (lget x0 (Int.toNat x4)) 3)))), (.v (.int .i64 (avInt (cellAt (lget x0 (Int.toNat x4)) 4)))), (.v (.int .i64 (avInt (cellAt (lget x0 (Int.toNat x4)) 5)))), (.v (.int .i64 (avInt (cellAt (lget x0 (Int.toNat x4)) 6))))])]).bind fun r16 =>
 cond ((Ev.isAgg 12 (cellAt r16 0)) && ((isI .i64 (cellAt (obCells (cellAt r16 0)) 0)) && ((isI .u32 (cellAt (obCells (cellAt r16 0)) 1)) && ((isI .u32 (cellAt (obCells (cellAt r16 0)) 2)) && ((isI .i64 (cellAt (obCells (cellAt r16 0)) 3)) && ((isI .i64 (cellAt (obCells (cellAt r16 0)) 4)) && ((isI .i64 (cellAt (obCells (cellAt r16 0)) 5)) && ((isI .i64 (cellAt (obCells (cellAt r16 0)) 6)) && ((isI .i64 (cellAt (obCells (cellAt r16 0)) 7)) && ((isI .i64 (cellAt (obCells (cellAt r16 0)) 8)) && ((isI .i64 (cellAt (obCells (cellAt r16 0)) 9)) && ((isI .i64 (cellAt (obCells (cellAt r16 0)) 10)) && (isI .i64 (cellAt (obCells (cellAt r16 0)) 11))))))))))))))
 (cond (leN (((List.length b0) + 1) * 88) 140737488355328)
 (lp 24 0 0 ⟨[(0, (.lst x0n 7 x0)), (3, (.sl false 0 0 none)), (4, (.v (.int .i64 (IntKind.wrap .i64 (x4 + 1)))))], [⟨1, 52, 12, false, (b0 ++ [[(.v (.int .i64 (avInt (cellAt (obCells (cellAt r16 0)) 0)))), (.v (.int .u32 (avInt (cellAt (obCells (cellAt r16 0)) 1)))), (.v (.int .u32 (avInt (cellAt (obCells (cellAt r16 0)) 2)))), (.v (.int .i64 (avInt (cellAt (obCells (cellAt r16 0)) 3)))), (.v (.int .i64 (avInt (cellAt (obCells (cellAt r16 0)) 4)))), (.v (.int .i64 (avInt (cellAt (obCells (cellAt r16 0)) 5)))), (.v (.int .i64 (avInt (cellAt (obCells (cellAt r16 0)) 6)))), (.v (.int .i64 (avInt (cellAt (obCells (cellAt r16 0)) 7)))), (.v (.int .i64 (avInt (cellAt (obCells (cellAt r16 0)) 8)))), (.v (.int .i64 (avInt (cellAt (obCells (cellAt r16 0)) 9)))), (.v (.int .i64 (avInt (cellAt (obCells (cellAt r16 0)) 10)))), (.v (.int .i64 (avInt (cellAt (obCells (cellAt r16 0)) 11))))]])⟩]⟩)
 (none))
 (none))
 (none))
 (none))
 (some ⟨(some 0), ⟨[(3, (.sl x3n 0 0 none))], [⟨1, 52, 12, false, b0⟩]⟩, []⟩))
 (some ⟨(some 0), ⟨[(3, (.sl x3n 0 0 none))], [⟨1, 52, 12, false, b0⟩]⟩, []⟩) := (lp_eq _ _ _ _).trans (by kernel_rfl)
-- "bodega/bodegalaw34.own"
-- "bodega/serial.Final"
end Go.Proofs.Ytnhahcomgeeobaa
