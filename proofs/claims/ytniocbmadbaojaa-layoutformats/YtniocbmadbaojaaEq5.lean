/- The functions of the chapter, as the evaluator has them. -/
import Derived.Test.YtniocbmadbaojaaEq
set_option linter.all false
namespace Go.Proofs.Ytniocbmadbaojaa
open Go.Ev

-- "bodega/bodegalaw7.LayoutFormats"
theorem ev5 (a0_0 : Int) (a1_0 : Int) (a2_0 : Bool) (a3_0n : Bool) (a3_0 : List (List AV)) : ev 5 [(.v (.int .i64 a0_0)), (.v (.int .i64 a1_0)), (.v (.bool a2_0)), (.lst a3_0n 1 a3_0)] =
  (ev 9 [(.v (.int .i64 a0_0)), (.v (.int .i64 12))]).bind fun r0 =>
  cond (isI .i64 (cellAt r0 0))
   (cond (ltI 200 (((List.length a3_0) : Nat) : Int))
     (some [(.v (.bool true))])
     ((ev 31 [(.v (.int .i64 (IntKind.wrap .i64 ((IntKind.wrap .i64 ((avInt (cellAt r0 0)) + 98)) - 4))))]).bind fun r5 =>
      cond (isNP (cellAt r5 0))
       (cond (isI .i64 (cellAt r5 1))
         (cond (!((avInt (cellAt r5 1)) == 0))
           (some [(.v (.bool false))])
           (some [(.v (.bool false))]))
         (none))
       (cond (((isOb 61 (cellAt r5 0)) && (Nat.beq (List.length (obCells (cellAt r5 0))) 2)) && ((isOw 29 1 (cellAt (obCells (cellAt r5 0)) 0)) && (isB (cellAt (obCells (cellAt r5 0)) 1))))
         (cond (isI .i64 (cellAt r5 1))
           (cond (!((avInt (cellAt r5 1)) == 0))
             (some [(.v (.bool false))])
             ((ev 8 []).bind fun r13 =>
              cond (isB (cellAt r13 0))
               (cond (!(avBool (cellAt r13 0)))
                 (some [(.v (.bool false))])
                 (cond (ltI 0 (((List.length a3_0) : Nat) : Int))
                   ((ev 32 [(.ob 61 [(.ow (avNil (cellAt (obCells (cellAt r5 0)) 0)) 29 1 (avXs (cellAt (obCells (cellAt r5 0)) 0))), (.v (.bool (avBool (cellAt (obCells (cellAt r5 0)) 1))))]), (.v (.int .i64 20)), (.lst a3_0n 1 a3_0)]).bind fun r18 =>
                    cond (isI .i64 (cellAt r18 0))
                     (cond (((isOb 61 (cellAt r18 1)) && (Nat.beq (List.length (obCells (cellAt r18 1))) 2)) && (likeG [(.ow (avNil (cellAt (obCells (cellAt r5 0)) 0)) 29 1 (avXs (cellAt (obCells (cellAt r5 0)) 0))), (.v (.bool (avBool (cellAt (obCells (cellAt r5 0)) 1))))] 0 (obCells (cellAt r18 1))))
                       (cond (!((avInt (cellAt r18 0)) == 0))
                         (some [(.v (.bool false))])
                         (cond a2_0
                           ((ev 33 [(.ob 61 [(.ow (avNil (cellAt (obCells (cellAt r18 1)) 0)) 29 1 (avXs (cellAt (obCells (cellAt r18 1)) 0))), (.v (.bool (avBool (cellAt (obCells (cellAt r18 1)) 1))))])]).bind fun r25 =>
                            cond (((isOb 61 (cellAt r25 0)) && (Nat.beq (List.length (obCells (cellAt r25 0))) 2)) && (likeG [(.ow (avNil (cellAt (obCells (cellAt r18 1)) 0)) 29 1 (avXs (cellAt (obCells (cellAt r18 1)) 0))), (.v (.bool (avBool (cellAt (obCells (cellAt r18 1)) 1))))] 0 (obCells (cellAt r25 0))))
                             ((ev 34 [(.ep [(.lst (avNil (cellAt (obCells (cellAt r25 0)) 0)) 1 (avXs (cellAt (obCells (cellAt r25 0)) 0))), (.v (.bool (avBool (cellAt (obCells (cellAt r25 0)) 1))))] 0)]).bind fun r30 =>
                              cond (isOw 5 1 (cellAt r30 0))
                               (cond (false || ((List.all (avXs (cellAt r30 0)) rowV) && true))
                                 ((ev 35 [(.ob 61 [(.ow (avNil (cellAt (obCells (cellAt r25 0)) 0)) 29 1 (avXs (cellAt (obCells (cellAt r25 0)) 0))), (.v (.bool (avBool (cellAt (obCells (cellAt r25 0)) 1))))]), (.v (.int .i64 a1_0))]).bind fun r33 =>
                                  cond (isI .i64 (cellAt r33 0))
                                   (cond (((isOb 61 (cellAt r33 1)) && (Nat.beq (List.length (obCells (cellAt r33 1))) 2)) && (likeG [(.ow (avNil (cellAt (obCells (cellAt r25 0)) 0)) 29 1 (avXs (cellAt (obCells (cellAt r25 0)) 0))), (.v (.bool (avBool (cellAt (obCells (cellAt r25 0)) 1))))] 0 (obCells (cellAt r33 1))))
                                     (cond (ltI a1_0 1)
                                       (cond (!((avInt (cellAt r33 0)) == 1))
                                         (some [(.v (.bool false))])
                                         ((ev 34 [(.ep [(.lst (avNil (cellAt (obCells (cellAt r33 1)) 0)) 1 (avXs (cellAt (obCells (cellAt r33 1)) 0))), (.v (.bool (avBool (cellAt (obCells (cellAt r33 1)) 1))))] 0)]).bind fun r40 =>
                                          cond (isOw 5 1 (cellAt r40 0))
                                           (cond (false || ((List.all (avXs (cellAt r40 0)) rowV) && true))
                                             ((ev 36 [(.lst (avNil (cellAt r40 0)) 1 (avXs (cellAt r40 0))), (.lst (avNil (cellAt r30 0)) 1 (avXs (cellAt r30 0)))]).bind fun r43 =>
                                              cond (isB (cellAt r43 0))
                                               (some [(.v (.bool (avBool (cellAt r43 0))))])
                                               (none))
                                             (none))
                                           (none)))
                                       (cond (ltI 5 a1_0)
                                         (cond (!((avInt (cellAt r33 0)) == 1))
                                           (some [(.v (.bool false))])
                                           ((ev 34 [(.ep [(.lst (avNil (cellAt (obCells (cellAt r33 1)) 0)) 1 (avXs (cellAt (obCells (cellAt r33 1)) 0))), (.v (.bool (avBool (cellAt (obCells (cellAt r33 1)) 1))))] 0)]).bind fun r46 =>
                                            cond (isOw 5 1 (cellAt r46 0))
                                             (cond (false || ((List.all (avXs (cellAt r46 0)) rowV) && true))
                                               ((ev 36 [(.lst (avNil (cellAt r46 0)) 1 (avXs (cellAt r46 0))), (.lst (avNil (cellAt r30 0)) 1 (avXs (cellAt r30 0)))]).bind fun r49 =>
                                                cond (isB (cellAt r49 0))
                                                 (some [(.v (.bool (avBool (cellAt r49 0))))])
                                                 (none))
                                               (none))
                                             (none)))
                                         (cond (ltI (IntKind.wrap .i64 ((IntKind.wrap .i64 ((avInt (cellAt r0 0)) + 98)) - 4)) 98)
                                           (cond (!((avInt (cellAt r33 0)) == 18))
                                             (some [(.v (.bool false))])
                                             ((ev 34 [(.ep [(.lst (avNil (cellAt (obCells (cellAt r33 1)) 0)) 1 (avXs (cellAt (obCells (cellAt r33 1)) 0))), (.v (.bool (avBool (cellAt (obCells (cellAt r33 1)) 1))))] 0)]).bind fun r51 =>
                                              cond (isOw 5 1 (cellAt r51 0))
                                               (cond (false || ((List.all (avXs (cellAt r51 0)) rowV) && true))
                                                 ((ev 36 [(.lst (avNil (cellAt r51 0)) 1 (avXs (cellAt r51 0))), (.lst (avNil (cellAt r30 0)) 1 (avXs (cellAt r30 0)))]).bind fun r54 =>
                                                  cond (isB (cellAt r54 0))
                                                   (some [(.v (.bool (avBool (cellAt r54 0))))])
                                                   (none))
                                                 (none))
                                               (none)))
                                           (cond a2_0
                                             (cond (!((avInt (cellAt r33 0)) == 4))
                                               (some [(.v (.bool false))])
                                               ((ev 34 [(.ep [(.lst (avNil (cellAt (obCells (cellAt r33 1)) 0)) 1 (avXs (cellAt (obCells (cellAt r33 1)) 0))), (.v (.bool (avBool (cellAt (obCells (cellAt r33 1)) 1))))] 0)]).bind fun r56 =>
                                                cond (isOw 5 1 (cellAt r56 0))
                                                 (cond (false || ((List.all (avXs (cellAt r56 0)) rowV) && true))
                                                   ((ev 36 [(.lst (avNil (cellAt r56 0)) 1 (avXs (cellAt r56 0))), (.lst (avNil (cellAt r30 0)) 1 (avXs (cellAt r30 0)))]).bind fun r59 =>
                                                    cond (isB (cellAt r59 0))
                                                     (some [(.v (.bool (avBool (cellAt r59 0))))])
                                                     (none))
                                                   (none))
                                                 (none)))
                                             (cond (!((avInt (cellAt r33 0)) == 0))
                                               (some [(.v (.bool false))])
                                               ((ev 37 [(.v (.int .i64 a1_0)), (.v (.int .i64 (IntKind.wrap .i64 ((IntKind.wrap .i64 ((avInt (cellAt r0 0)) + 98)) - 4))))]).bind fun r61 =>
                                                cond (isOw 29 1 (cellAt r61 0))
                                                 ((ev 34 [(.ep [(.lst (avNil (cellAt (obCells (cellAt r33 1)) 0)) 1 (avXs (cellAt (obCells (cellAt r33 1)) 0))), (.v (.bool (avBool (cellAt (obCells (cellAt r33 1)) 1))))] 0)]).bind fun r64 =>
                                                  cond (isOw 5 1 (cellAt r64 0))
                                                   (cond (false || ((List.all (avXs (cellAt r64 0)) rowV) && true))
                                                     ((ev 38 [(.lst (avNil (cellAt r64 0)) 1 (avXs (cellAt r64 0))), (.ep [(.lst (avNil (cellAt r61 0)) 1 (avXs (cellAt r61 0))), (.v (.bool true))] 0)]).bind fun r67 =>
                                                      cond (isB (cellAt r67 0))
                                                       (some [(.v (.bool (avBool (cellAt r67 0))))])
                                                       (none))
                                                     (none))
                                                   (none))
                                                 (none)))))))
                                     (none))
                                   (none))
                                 (none))
                               (none))
                             (none))
                           ((ev 34 [(.ep [(.lst (avNil (cellAt (obCells (cellAt r18 1)) 0)) 1 (avXs (cellAt (obCells (cellAt r18 1)) 0))), (.v (.bool (avBool (cellAt (obCells (cellAt r18 1)) 1))))] 0)]).bind fun r69 =>
                            cond (isOw 5 1 (cellAt r69 0))
                             (cond (false || ((List.all (avXs (cellAt r69 0)) rowV) && true))
                               ((ev 35 [(.ob 61 [(.ow (avNil (cellAt (obCells (cellAt r18 1)) 0)) 29 1 (avXs (cellAt (obCells (cellAt r18 1)) 0))), (.v (.bool (avBool (cellAt (obCells (cellAt r18 1)) 1))))]), (.v (.int .i64 a1_0))]).bind fun r72 =>
                                cond (isI .i64 (cellAt r72 0))
                                 (cond (((isOb 61 (cellAt r72 1)) && (Nat.beq (List.length (obCells (cellAt r72 1))) 2)) && (likeG [(.ow (avNil (cellAt (obCells (cellAt r18 1)) 0)) 29 1 (avXs (cellAt (obCells (cellAt r18 1)) 0))), (.v (.bool (avBool (cellAt (obCells (cellAt r18 1)) 1))))] 0 (obCells (cellAt r72 1))))
                                   (cond (ltI a1_0 1)
                                     (cond (!((avInt (cellAt r72 0)) == 1))
                                       (some [(.v (.bool false))])
                                       ((ev 34 [(.ep [(.lst (avNil (cellAt (obCells (cellAt r72 1)) 0)) 1 (avXs (cellAt (obCells (cellAt r72 1)) 0))), (.v (.bool (avBool (cellAt (obCells (cellAt r72 1)) 1))))] 0)]).bind fun r79 =>
                                        cond (isOw 5 1 (cellAt r79 0))
                                         (cond (false || ((List.all (avXs (cellAt r79 0)) rowV) && true))
                                           ((ev 36 [(.lst (avNil (cellAt r79 0)) 1 (avXs (cellAt r79 0))), (.lst (avNil (cellAt r69 0)) 1 (avXs (cellAt r69 0)))]).bind fun r82 =>
                                            cond (isB (cellAt r82 0))
                                             (some [(.v (.bool (avBool (cellAt r82 0))))])
                                             (none))
                                           (none))
                                         (none)))
                                     (cond (ltI 5 a1_0)
                                       (cond (!((avInt (cellAt r72 0)) == 1))
                                         (some [(.v (.bool false))])
                                         ((ev 34 [(.ep [(.lst (avNil (cellAt (obCells (cellAt r72 1)) 0)) 1 (avXs (cellAt (obCells (cellAt r72 1)) 0))), (.v (.bool (avBool (cellAt (obCells (cellAt r72 1)) 1))))] 0)]).bind fun r85 =>
                                          cond (isOw 5 1 (cellAt r85 0))
                                           (cond (false || ((List.all (avXs (cellAt r85 0)) rowV) && true))
                                             ((ev 36 [(.lst (avNil (cellAt r85 0)) 1 (avXs (cellAt r85 0))), (.lst (avNil (cellAt r69 0)) 1 (avXs (cellAt r69 0)))]).bind fun r88 =>
                                              cond (isB (cellAt r88 0))
                                               (some [(.v (.bool (avBool (cellAt r88 0))))])
                                               (none))
                                             (none))
                                           (none)))
                                       (cond (ltI (IntKind.wrap .i64 ((IntKind.wrap .i64 ((avInt (cellAt r0 0)) + 98)) - 4)) 98)
                                         (cond (!((avInt (cellAt r72 0)) == 18))
                                           (some [(.v (.bool false))])
                                           ((ev 34 [(.ep [(.lst (avNil (cellAt (obCells (cellAt r72 1)) 0)) 1 (avXs (cellAt (obCells (cellAt r72 1)) 0))), (.v (.bool (avBool (cellAt (obCells (cellAt r72 1)) 1))))] 0)]).bind fun r90 =>
                                            cond (isOw 5 1 (cellAt r90 0))
                                             (cond (false || ((List.all (avXs (cellAt r90 0)) rowV) && true))
                                               ((ev 36 [(.lst (avNil (cellAt r90 0)) 1 (avXs (cellAt r90 0))), (.lst (avNil (cellAt r69 0)) 1 (avXs (cellAt r69 0)))]).bind fun r93 =>
                                                cond (isB (cellAt r93 0))
                                                 (some [(.v (.bool (avBool (cellAt r93 0))))])
                                                 (none))
                                               (none))
                                             (none)))
                                         (cond a2_0
                                           (cond (!((avInt (cellAt r72 0)) == 4))
                                             (some [(.v (.bool false))])
                                             ((ev 34 [(.ep [(.lst (avNil (cellAt (obCells (cellAt r72 1)) 0)) 1 (avXs (cellAt (obCells (cellAt r72 1)) 0))), (.v (.bool (avBool (cellAt (obCells (cellAt r72 1)) 1))))] 0)]).bind fun r95 =>
                                              cond (isOw 5 1 (cellAt r95 0))
                                               (cond (false || ((List.all (avXs (cellAt r95 0)) rowV) && true))
                                                 ((ev 36 [(.lst (avNil (cellAt r95 0)) 1 (avXs (cellAt r95 0))), (.lst (avNil (cellAt r69 0)) 1 (avXs (cellAt r69 0)))]).bind fun r98 =>
                                                  cond (isB (cellAt r98 0))
                                                   (some [(.v (.bool (avBool (cellAt r98 0))))])
                                                   (none))
                                                 (none))
                                               (none)))
                                           (cond (!((avInt (cellAt r72 0)) == 0))
                                             (some [(.v (.bool false))])
                                             ((ev 37 [(.v (.int .i64 a1_0)), (.v (.int .i64 (IntKind.wrap .i64 ((IntKind.wrap .i64 ((avInt (cellAt r0 0)) + 98)) - 4))))]).bind fun r100 =>
                                              cond (isOw 29 1 (cellAt r100 0))
                                               ((ev 34 [(.ep [(.lst (avNil (cellAt (obCells (cellAt r72 1)) 0)) 1 (avXs (cellAt (obCells (cellAt r72 1)) 0))), (.v (.bool (avBool (cellAt (obCells (cellAt r72 1)) 1))))] 0)]).bind fun r103 =>
                                                cond (isOw 5 1 (cellAt r103 0))
                                                 (cond (false || ((List.all (avXs (cellAt r103 0)) rowV) && true))
                                                   ((ev 38 [(.lst (avNil (cellAt r103 0)) 1 (avXs (cellAt r103 0))), (.ep [(.lst (avNil (cellAt r100 0)) 1 (avXs (cellAt r100 0))), (.v (.bool true))] 0)]).bind fun r106 =>
                                                    cond (isB (cellAt r106 0))
                                                     (some [(.v (.bool (avBool (cellAt r106 0))))])
                                                     (none))
                                                   (none))
                                                 (none))
                                               (none)))))))
                                   (none))
                                 (none))
                               (none))
                             (none))))
                       (none))
                     (none))
                   (cond a2_0
                     ((ev 33 [(.ob 61 [(.ow (avNil (cellAt (obCells (cellAt r5 0)) 0)) 29 1 (avXs (cellAt (obCells (cellAt r5 0)) 0))), (.v (.bool (avBool (cellAt (obCells (cellAt r5 0)) 1))))])]).bind fun r108 =>
                      cond (((isOb 61 (cellAt r108 0)) && (Nat.beq (List.length (obCells (cellAt r108 0))) 2)) && (likeG [(.ow (avNil (cellAt (obCells (cellAt r5 0)) 0)) 29 1 (avXs (cellAt (obCells (cellAt r5 0)) 0))), (.v (.bool (avBool (cellAt (obCells (cellAt r5 0)) 1))))] 0 (obCells (cellAt r108 0))))
                       ((ev 34 [(.ep [(.lst (avNil (cellAt (obCells (cellAt r108 0)) 0)) 1 (avXs (cellAt (obCells (cellAt r108 0)) 0))), (.v (.bool (avBool (cellAt (obCells (cellAt r108 0)) 1))))] 0)]).bind fun r113 =>
                        cond (isOw 5 1 (cellAt r113 0))
                         (cond (false || ((List.all (avXs (cellAt r113 0)) rowV) && true))
                           ((ev 35 [(.ob 61 [(.ow (avNil (cellAt (obCells (cellAt r108 0)) 0)) 29 1 (avXs (cellAt (obCells (cellAt r108 0)) 0))), (.v (.bool (avBool (cellAt (obCells (cellAt r108 0)) 1))))]), (.v (.int .i64 a1_0))]).bind fun r116 =>
                            cond (isI .i64 (cellAt r116 0))
                             (cond (((isOb 61 (cellAt r116 1)) && (Nat.beq (List.length (obCells (cellAt r116 1))) 2)) && (likeG [(.ow (avNil (cellAt (obCells (cellAt r108 0)) 0)) 29 1 (avXs (cellAt (obCells (cellAt r108 0)) 0))), (.v (.bool (avBool (cellAt (obCells (cellAt r108 0)) 1))))] 0 (obCells (cellAt r116 1))))
                               (cond (ltI a1_0 1)
                                 (cond (!((avInt (cellAt r116 0)) == 1))
                                   (some [(.v (.bool false))])
                                   ((ev 34 [(.ep [(.lst (avNil (cellAt (obCells (cellAt r116 1)) 0)) 1 (avXs (cellAt (obCells (cellAt r116 1)) 0))), (.v (.bool (avBool (cellAt (obCells (cellAt r116 1)) 1))))] 0)]).bind fun r123 =>
                                    cond (isOw 5 1 (cellAt r123 0))
                                     (cond (false || ((List.all (avXs (cellAt r123 0)) rowV) && true))
                                       ((ev 36 [(.lst (avNil (cellAt r123 0)) 1 (avXs (cellAt r123 0))), (.lst (avNil (cellAt r113 0)) 1 (avXs (cellAt r113 0)))]).bind fun r126 =>
                                        cond (isB (cellAt r126 0))
                                         (some [(.v (.bool (avBool (cellAt r126 0))))])
                                         (none))
                                       (none))
                                     (none)))
                                 (cond (ltI 5 a1_0)
                                   (cond (!((avInt (cellAt r116 0)) == 1))
                                     (some [(.v (.bool false))])
                                     ((ev 34 [(.ep [(.lst (avNil (cellAt (obCells (cellAt r116 1)) 0)) 1 (avXs (cellAt (obCells (cellAt r116 1)) 0))), (.v (.bool (avBool (cellAt (obCells (cellAt r116 1)) 1))))] 0)]).bind fun r129 =>
                                      cond (isOw 5 1 (cellAt r129 0))
                                       (cond (false || ((List.all (avXs (cellAt r129 0)) rowV) && true))
                                         ((ev 36 [(.lst (avNil (cellAt r129 0)) 1 (avXs (cellAt r129 0))), (.lst (avNil (cellAt r113 0)) 1 (avXs (cellAt r113 0)))]).bind fun r132 =>
                                          cond (isB (cellAt r132 0))
                                           (some [(.v (.bool (avBool (cellAt r132 0))))])
                                           (none))
                                         (none))
                                       (none)))
                                   (cond (ltI (IntKind.wrap .i64 ((IntKind.wrap .i64 ((avInt (cellAt r0 0)) + 98)) - 4)) 98)
                                     (cond (!((avInt (cellAt r116 0)) == 18))
                                       (some [(.v (.bool false))])
                                       ((ev 34 [(.ep [(.lst (avNil (cellAt (obCells (cellAt r116 1)) 0)) 1 (avXs (cellAt (obCells (cellAt r116 1)) 0))), (.v (.bool (avBool (cellAt (obCells (cellAt r116 1)) 1))))] 0)]).bind fun r134 =>
                                        cond (isOw 5 1 (cellAt r134 0))
                                         (cond (false || ((List.all (avXs (cellAt r134 0)) rowV) && true))
                                           ((ev 36 [(.lst (avNil (cellAt r134 0)) 1 (avXs (cellAt r134 0))), (.lst (avNil (cellAt r113 0)) 1 (avXs (cellAt r113 0)))]).bind fun r137 =>
                                            cond (isB (cellAt r137 0))
                                             (some [(.v (.bool (avBool (cellAt r137 0))))])
                                             (none))
                                           (none))
                                         (none)))
                                     (cond a2_0
                                       (cond (!((avInt (cellAt r116 0)) == 4))
                                         (some [(.v (.bool false))])
                                         ((ev 34 [(.ep [(.lst (avNil (cellAt (obCells (cellAt r116 1)) 0)) 1 (avXs (cellAt (obCells (cellAt r116 1)) 0))), (.v (.bool (avBool (cellAt (obCells (cellAt r116 1)) 1))))] 0)]).bind fun r139 =>
                                          cond (isOw 5 1 (cellAt r139 0))
                                           (cond (false || ((List.all (avXs (cellAt r139 0)) rowV) && true))
                                             ((ev 36 [(.lst (avNil (cellAt r139 0)) 1 (avXs (cellAt r139 0))), (.lst (avNil (cellAt r113 0)) 1 (avXs (cellAt r113 0)))]).bind fun r142 =>
                                              cond (isB (cellAt r142 0))
                                               (some [(.v (.bool (avBool (cellAt r142 0))))])
                                               (none))
                                             (none))
                                           (none)))
                                       (cond (!((avInt (cellAt r116 0)) == 0))
                                         (some [(.v (.bool false))])
                                         ((ev 37 [(.v (.int .i64 a1_0)), (.v (.int .i64 (IntKind.wrap .i64 ((IntKind.wrap .i64 ((avInt (cellAt r0 0)) + 98)) - 4))))]).bind fun r144 =>
                                          cond (isOw 29 1 (cellAt r144 0))
                                           ((ev 34 [(.ep [(.lst (avNil (cellAt (obCells (cellAt r116 1)) 0)) 1 (avXs (cellAt (obCells (cellAt r116 1)) 0))), (.v (.bool (avBool (cellAt (obCells (cellAt r116 1)) 1))))] 0)]).bind fun r147 =>
                                            cond (isOw 5 1 (cellAt r147 0))
                                             (cond (false || ((List.all (avXs (cellAt r147 0)) rowV) && true))
                                               ((ev 38 [(.lst (avNil (cellAt r147 0)) 1 (avXs (cellAt r147 0))), (.ep [(.lst (avNil (cellAt r144 0)) 1 (avXs (cellAt r144 0))), (.v (.bool true))] 0)]).bind fun r150 =>
                                                cond (isB (cellAt r150 0))
                                                 (some [(.v (.bool (avBool (cellAt r150 0))))])
                                                 (none))
                                               (none))
                                             (none))
                                           (none)))))))
                               (none))
                             (none))
                           (none))
                         (none))
                       (none))
                     ((ev 34 [(.ep [(.lst (avNil (cellAt (obCells (cellAt r5 0)) 0)) 1 (avXs (cellAt (obCells (cellAt r5 0)) 0))), (.v (.bool (avBool (cellAt (obCells (cellAt r5 0)) 1))))] 0)]).bind fun r152 =>
                      cond (isOw 5 1 (cellAt r152 0))
                       (cond (false || ((List.all (avXs (cellAt r152 0)) rowV) && true))
                         ((ev 35 [(.ob 61 [(.ow (avNil (cellAt (obCells (cellAt r5 0)) 0)) 29 1 (avXs (cellAt (obCells (cellAt r5 0)) 0))), (.v (.bool (avBool (cellAt (obCells (cellAt r5 0)) 1))))]), (.v (.int .i64 a1_0))]).bind fun r155 =>
                          cond (isI .i64 (cellAt r155 0))
                           (cond (((isOb 61 (cellAt r155 1)) && (Nat.beq (List.length (obCells (cellAt r155 1))) 2)) && (likeG [(.ow (avNil (cellAt (obCells (cellAt r5 0)) 0)) 29 1 (avXs (cellAt (obCells (cellAt r5 0)) 0))), (.v (.bool (avBool (cellAt (obCells (cellAt r5 0)) 1))))] 0 (obCells (cellAt r155 1))))
                             (cond (ltI a1_0 1)
                               (cond (!((avInt (cellAt r155 0)) == 1))
                                 (some [(.v (.bool false))])
                                 ((ev 34 [(.ep [(.lst (avNil (cellAt (obCells (cellAt r155 1)) 0)) 1 (avXs (cellAt (obCells (cellAt r155 1)) 0))), (.v (.bool (avBool (cellAt (obCells (cellAt r155 1)) 1))))] 0)]).bind fun r162 =>
                                  cond (isOw 5 1 (cellAt r162 0))
                                   (cond (false || ((List.all (avXs (cellAt r162 0)) rowV) && true))
                                     ((ev 36 [(.lst (avNil (cellAt r162 0)) 1 (avXs (cellAt r162 0))), (.lst (avNil (cellAt r152 0)) 1 (avXs (cellAt r152 0)))]).bind fun r165 =>
                                      cond (isB (cellAt r165 0))
                                       (some [(.v (.bool (avBool (cellAt r165 0))))])
                                       (none))
                                     (none))
                                   (none)))
                               (cond (ltI 5 a1_0)
                                 (cond (!((avInt (cellAt r155 0)) == 1))
                                   (some [(.v (.bool false))])
                                   ((ev 34 [(.ep [(.lst (avNil (cellAt (obCells (cellAt r155 1)) 0)) 1 (avXs (cellAt (obCells (cellAt r155 1)) 0))), (.v (.bool (avBool (cellAt (obCells (cellAt r155 1)) 1))))] 0)]).bind fun r168 =>
                                    cond (isOw 5 1 (cellAt r168 0))
                                     (cond (false || ((List.all (avXs (cellAt r168 0)) rowV) && true))
                                       ((ev 36 [(.lst (avNil (cellAt r168 0)) 1 (avXs (cellAt r168 0))), (.lst (avNil (cellAt r152 0)) 1 (avXs (cellAt r152 0)))]).bind fun r171 =>
                                        cond (isB (cellAt r171 0))
                                         (some [(.v (.bool (avBool (cellAt r171 0))))])
                                         (none))
                                       (none))
                                     (none)))
                                 (cond (ltI (IntKind.wrap .i64 ((IntKind.wrap .i64 ((avInt (cellAt r0 0)) + 98)) - 4)) 98)
                                   (cond (!((avInt (cellAt r155 0)) == 18))
                                     (some [(.v (.bool false))])
                                     ((ev 34 [(.ep [(.lst (avNil (cellAt (obCells (cellAt r155 1)) 0)) 1 (avXs (cellAt (obCells (cellAt r155 1)) 0))), (.v (.bool (avBool (cellAt (obCells (cellAt r155 1)) 1))))] 0)]).bind fun r173 =>
                                      cond (isOw 5 1 (cellAt r173 0))
                                       (cond (false || ((List.all (avXs (cellAt r173 0)) rowV) && true))
                                         ((ev 36 [(.lst (avNil (cellAt r173 0)) 1 (avXs (cellAt r173 0))), (.lst (avNil (cellAt r152 0)) 1 (avXs (cellAt r152 0)))]).bind fun r176 =>
                                          cond (isB (cellAt r176 0))
                                           (some [(.v (.bool (avBool (cellAt r176 0))))])
                                           (none))
                                         (none))
                                       (none)))
                                   (cond a2_0
                                     (cond (!((avInt (cellAt r155 0)) == 4))
                                       (some [(.v (.bool false))])
                                       ((ev 34 [(.ep [(.lst (avNil (cellAt (obCells (cellAt r155 1)) 0)) 1 (avXs (cellAt (obCells (cellAt r155 1)) 0))), (.v (.bool (avBool (cellAt (obCells (cellAt r155 1)) 1))))] 0)]).bind fun r178 =>
                                        cond (isOw 5 1 (cellAt r178 0))
                                         (cond (false || ((List.all (avXs (cellAt r178 0)) rowV) && true))
                                           ((ev 36 [(.lst (avNil (cellAt r178 0)) 1 (avXs (cellAt r178 0))), (.lst (avNil (cellAt r152 0)) 1 (avXs (cellAt r152 0)))]).bind fun r181 =>
                                            cond (isB (cellAt r181 0))
                                             (some [(.v (.bool (avBool (cellAt r181 0))))])
                                             (none))
                                           (none))
                                         (none)))
                                     (cond (!((avInt (cellAt r155 0)) == 0))
                                       (some [(.v (.bool false))])
                                       ((ev 37 [(.v (.int .i64 a1_0)), (.v (.int .i64 (IntKind.wrap .i64 ((IntKind.wrap .i64 ((avInt (cellAt r0 0)) + 98)) - 4))))]).bind fun r183 =>
                                        cond (isOw 29 1 (cellAt r183 0))
                                         ((ev 34 [(.ep [(.lst (avNil (cellAt (obCells (cellAt r155 1)) 0)) 1 (avXs (cellAt (obCells (cellAt r155 1)) 0))), (.v (.bool (avBool (cellAt (obCells (cellAt r155 1)) 1))))] 0)]).bind fun r186 =>
                                          cond (isOw 5 1 (cellAt r186 0))
                                           (cond (false || ((List.all (avXs (cellAt r186 0)) rowV) && true))
                                             ((ev 38 [(.lst (avNil (cellAt r186 0)) 1 (avXs (cellAt r186 0))), (.ep [(.lst (avNil (cellAt r183 0)) 1 (avXs (cellAt r183 0))), (.v (.bool true))] 0)]).bind fun r189 =>
                                              cond (isB (cellAt r189 0))
                                               (some [(.v (.bool (avBool (cellAt r189 0))))])
                                               (none))
                                             (none))
                                           (none))
                                         (none)))))))
                             (none))
                           (none))
                         (none))
                       (none)))))
               (none)))
           (none))
         (none))))
   (none) := (ev_eq _ _).trans (by kernel_rfl)
end Go.Proofs.Ytniocbmadbaojaa
