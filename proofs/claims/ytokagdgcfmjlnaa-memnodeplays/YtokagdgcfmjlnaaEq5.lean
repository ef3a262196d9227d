/- The functions of the chapter, as the evaluator has them. -/
import Derived.Test.YtokagdgcfmjlnaaEq
set_option linter.all false
namespace Go.Proofs.Ytokagdgcfmjlnaa
open Go.Ev

-- "bodega/bodegalaw3.MemnodePlays"
theorem ev5 (a0_0 : Int) (a1_0n : Bool) (a1_0 : List (List AV)) : ev 5 [(.v (.int .i64 a0_0)), (.lst a1_0n 5 a1_0)] =
  (ev 8 [(.v (.int .i64 a0_0)), (.v (.int .i64 5))]).bind fun r0 =>
  cond (isI .i64 (cellAt r0 0))
   ((ev 9 [(.v (.int .i64 (IntKind.wrap .i64 ((avInt (cellAt r0 0)) + 1))))]).bind fun r3 =>
    cond (isNP (cellAt r3 0))
     (cond (isI .i64 (cellAt r3 1))
       (cond (ltI 60 (((List.length a1_0) : Nat) : Int))
         (some [(.v (.bool true))])
         ((ev 10 []).bind fun r6 =>
          cond (isB (cellAt r6 0))
           (cond (!(avBool (cellAt r6 0)))
             (some [(.v (.bool false))])
             (cond (!((avInt (cellAt r3 1)) == 0))
               (some [(.v (.bool false))])
               (some [(.v (.bool false))])))
           (none)))
       (none))
     (cond (((isOb 60 (cellAt r3 0)) && (Nat.beq (List.length (obCells (cellAt r3 0))) 2)) && ((isOw 31 1 (cellAt (obCells (cellAt r3 0)) 0)) && (isB (cellAt (obCells (cellAt r3 0)) 1))))
       (cond (isI .i64 (cellAt r3 1))
         (cond (ltI 60 (((List.length a1_0) : Nat) : Int))
           (some [(.v (.bool true))])
           ((ev 10 []).bind fun r15 =>
            cond (isB (cellAt r15 0))
             (cond (!(avBool (cellAt r15 0)))
               (some [(.v (.bool false))])
               (cond (!((avInt (cellAt r3 1)) == 0))
                 (some [(.v (.bool false))])
                 (cond ((((leI 0 (IntKind.wrap .i64 ((IntKind.wrap .i64 ((avInt (cellAt r0 0)) + 1)) * 8))) && (leI (IntKind.wrap .i64 ((IntKind.wrap .i64 ((avInt (cellAt r0 0)) + 1)) * 8)) (IntKind.wrap .i64 ((IntKind.wrap .i64 ((avInt (cellAt r0 0)) + 1)) * 8)))) && (leI ((IntKind.wrap .i64 ((IntKind.wrap .i64 ((avInt (cellAt r0 0)) + 1)) * 8)) * 8) 281474976710656)) && (leI (IntKind.wrap .i64 ((IntKind.wrap .i64 ((avInt (cellAt r0 0)) + 1)) * 8)) 281474976710656))
                   ((lp 5 0 0 ⟨[(0, (.v (.int .i64 (IntKind.wrap .i64 ((avInt (cellAt r0 0)) + 1))))), (1, (.lst a1_0n 5 a1_0)), (5, (.ptr 0 0 0)), (7, (.ptr 2 0 0)), (8, (.v (.int .i64 0)))], [⟨1, 60, 2, true, [[(.sl (avNil (cellAt (obCells (cellAt r3 0)) 0)) 1 0 none), (.v (.bool (avBool (cellAt (obCells (cellAt r3 0)) 1))))]]⟩, ⟨1, 31, 1, false, (avXs (cellAt (obCells (cellAt r3 0)) 0))⟩, ⟨1, 36, 2, true, [[(.sl false 3 0 none), (.v (.bool true))]]⟩, ⟨1, 31, 1, false, (List.replicate (Int.toNat (IntKind.wrap .i64 ((IntKind.wrap .i64 ((avInt (cellAt r0 0)) + 1)) * 8))) [(.v (.int .u64 0))])⟩]⟩).bind fun r21 =>
                    cond (isEx 0 r21)
                     (cond (likeStG ⟨[(5, (.ptr 0 0 0)), (7, (.ptr 2 0 0))], [⟨1, 60, 2, true, [[(.sl (avNil (cellAt (obCells (cellAt r3 0)) 0)) 1 0 none), (.v (.bool (avBool (cellAt (obCells (cellAt r3 0)) 1))))]]⟩, ⟨1, 31, 1, false, (avXs (cellAt (obCells (cellAt r3 0)) 0))⟩, ⟨1, 36, 2, true, [[(.sl false 3 0 none), (.v (.bool true))]]⟩, ⟨1, 31, 1, false, (List.replicate (Int.toNat (IntKind.wrap .i64 ((IntKind.wrap .i64 ((avInt (cellAt r0 0)) + 1)) * 8))) [(.v (.int .u64 0))])⟩]⟩ r21.st)
                       ((ev 24 [(.ep [(.lst (avNil (cellAt (lget (blAt r21.st.bl 0).xs 0) 0)) 1 (blAt r21.st.bl 1).xs), (.v (.bool (avBool (cellAt (lget (blAt r21.st.bl 0).xs 0) 1))))] 0)]).bind fun r28 =>
                        cond (isOw 5 1 (cellAt r28 0))
                         (cond (false || ((List.all (avXs (cellAt r28 0)) rowV) && true))
                           ((ev 23 [(.lst (avNil (cellAt r28 0)) 1 (avXs (cellAt r28 0))), (.ep [(.lst (avNil (cellAt (lget (blAt r21.st.bl 2).xs 0) 0)) 1 (blAt r21.st.bl 3).xs), (.v (.bool (avBool (cellAt (lget (blAt r21.st.bl 2).xs 0) 1))))] 0)]).bind fun r31 =>
                            cond (isB (cellAt r31 0))
                             (some [(.v (.bool (avBool (cellAt r31 0))))])
                             (none))
                           (none))
                         (none))
                       (none))
                     (cond (isRt r21)
                       (some r21.outs)
                       (none)))
                   (none))))
             (none)))
         (none))
       (none)))
   (none) := (ev_eq _ _).trans (by kernel_rfl)
theorem lp5_0 (x0 : Int) (x1n : Bool) (x1 : List (List AV)) (x8 : Int) (b0_0n : Bool) (b0_1 : Bool) (b1 : List (List AV)) (b2_0n : Bool) (b2_1 : Bool) (b3 : List (List AV)) : lp 5 0 0 ⟨[(0, (.v (.int .i64 x0))), (1, (.lst x1n 5 x1)), (5, (.ptr 0 0 0)), (7, (.ptr 2 0 0)), (8, (.v (.int .i64 x8)))], [⟨1, 60, 2, true, [[(.sl b0_0n 1 0 none), (.v (.bool b0_1))]]⟩, ⟨1, 31, 1, false, b1⟩, ⟨1, 36, 2, true, [[(.sl b2_0n 3 0 none), (.v (.bool b2_1))]]⟩, ⟨1, 31, 1, false, b3⟩]⟩ =
  cond (ltI x8 (((List.length x1) : Nat) : Int))
   (cond ((leI 0 x8) && (ltI x8 (((List.length x1) : Nat) : Int)))
     (cond ((isI .i64 (cellAt (lget x1 (Int.toNat x8)) 0)) && ((isI .i64 (cellAt (lget x1 (Int.toNat x8)) 1)) && ((isI .i64 (cellAt (lget x1 (Int.toNat x8)) 2)) && ((isI .u64 (cellAt (lget x1 (Int.toNat x8)) 3)) && (isI .u64 (cellAt (lget x1 (Int.toNat x8)) 4))))))
       ((ev 14 [(.ob 60 [(.ow b0_0n 31 1 b1), (.v (.bool b0_1))]), (.ob 36 [(.ow b2_0n 31 1 b3), (.v (.bool b2_1))]), (.agg [(.v (.int .i64 (avInt (cellAt (lget x1 (Int.toNat x8)) 0)))), (.v (.int .i64 (avInt (cellAt (lget x1 (Int.toNat x8)) 1)))), (.v (.int .i64 (avInt (cellAt (lget x1 (Int.toNat x8)) 2)))), (.v (.int .u64 (avInt (cellAt (lget x1 (Int.toNat x8)) 3)))), (.v (.int .u64 (avInt (cellAt (lget x1 (Int.toNat x8)) 4))))])]).bind fun r39 =>
        cond (isB (cellAt r39 0))
         (cond (((isOb 60 (cellAt r39 1)) && (Nat.beq (List.length (obCells (cellAt r39 1))) 2)) && (likeG [(.ow b0_0n 31 1 b1), (.v (.bool b0_1))] 0 (obCells (cellAt r39 1))))
           (cond (((isOb 36 (cellAt r39 2)) && (Nat.beq (List.length (obCells (cellAt r39 2))) 2)) && (likeG [(.ow b2_0n 31 1 b3), (.v (.bool b2_1))] 0 (obCells (cellAt r39 2))))
             (cond (!(avBool (cellAt r39 0)))
               (some ⟨none, ⟨[], []⟩, [(.v (.bool false))]⟩)
               ((ev 19 [(.ep [(.lst (avNil (cellAt (obCells (cellAt r39 1)) 0)) 1 (avXs (cellAt (obCells (cellAt r39 1)) 0))), (.v (.bool (avBool (cellAt (obCells (cellAt r39 1)) 1))))] 0)]).bind fun r50 =>
                cond (isB (cellAt r50 0))
                 (cond (!((avBool (cellAt r50 0)) == (avBool (cellAt (obCells (cellAt r39 2)) 1))))
                   (some ⟨none, ⟨[], []⟩, [(.v (.bool false))]⟩)
                   ((ev 12 [(.ep [(.lst (avNil (cellAt (obCells (cellAt r39 1)) 0)) 1 (avXs (cellAt (obCells (cellAt r39 1)) 0))), (.v (.bool (avBool (cellAt (obCells (cellAt r39 1)) 1))))] 0)]).bind fun r53 =>
                    cond (isI .u64 (cellAt r53 0))
                     (cond (true && (ltI 1 ((((List.length (avXs (cellAt (obCells (cellAt r39 2)) 0))) - 0) : Nat) : Int)))
                       (cond ((ltN 1 (List.length (avXs (cellAt (obCells (cellAt r39 2)) 0)))) && (isI .u64 (cellAt (lget (avXs (cellAt (obCells (cellAt r39 2)) 0)) 1) 0)))
                         (cond (!((avInt (cellAt r53 0)) == (avInt (cellAt (lget (avXs (cellAt (obCells (cellAt r39 2)) 0)) 1) 0))))
                           (some ⟨none, ⟨[], []⟩, [(.v (.bool false))]⟩)
                           ((ev 22 [(.ep [(.lst (avNil (cellAt (obCells (cellAt r39 1)) 0)) 1 (avXs (cellAt (obCells (cellAt r39 1)) 0))), (.v (.bool (avBool (cellAt (obCells (cellAt r39 1)) 1))))] 0)]).bind fun r57 =>
                            cond (isI .i64 (cellAt r57 0))
                             (cond (!((avInt (cellAt r57 0)) == x0))
                               (some ⟨none, ⟨[], []⟩, [(.v (.bool false))]⟩)
                               (lp 5 0 0 ⟨[(0, (.v (.int .i64 x0))), (1, (.lst x1n 5 x1)), (5, (.ptr 0 0 0)), (7, (.ptr 2 0 0)), (8, (.v (.int .i64 (IntKind.wrap .i64 (x8 + 1)))))], [⟨1, 60, 2, true, [[(.sl (avNil (cellAt (obCells (cellAt r39 1)) 0)) 1 0 none), (.v (.bool (avBool (cellAt (obCells (cellAt r39 1)) 1))))]]⟩, ⟨1, 31, 1, false, (avXs (cellAt (obCells (cellAt r39 1)) 0))⟩, ⟨1, 36, 2, true, [[(.sl (avNil (cellAt (obCells (cellAt r39 2)) 0)) 3 0 none), (.v (.bool (avBool (cellAt (obCells (cellAt r39 2)) 1))))]]⟩, ⟨1, 31, 1, false, (avXs (cellAt (obCells (cellAt r39 2)) 0))⟩]⟩))
                             (none)))
                         (none))
                       (none))
                     (none)))
                 (none)))
             (none))
           (none))
         (none))
       (none))
     (none))
   (some ⟨(some 0), ⟨[(5, (.ptr 0 0 0)), (7, (.ptr 2 0 0))], [⟨1, 60, 2, true, [[(.sl b0_0n 1 0 none), (.v (.bool b0_1))]]⟩, ⟨1, 31, 1, false, b1⟩, ⟨1, 36, 2, true, [[(.sl b2_0n 3 0 none), (.v (.bool b2_1))]]⟩, ⟨1, 31, 1, false, b3⟩]⟩, []⟩) := (lp_eq _ _ _ _).trans (by kernel_rfl)
end Go.Proofs.Ytokagdgcfmjlnaa
