/- The functions of the chapter, as the evaluator has them. -/
import Derived.Test.YtniocbmadbaojaaRows
import Derived.Test.YtniocbmadbaojaaEv38
namespace Go.Proofs.Ytniocbmadbaojaa
open Go.Ev

def cfg : Cfg := { rw := fun _ => [], dat := fun _ => false, inl := fun f => Nat.beq f 43, roll := fun _ => 0 }
noncomputable def ev (n : Nat) (f : FuncId) (args : List AV) : Option (List AV) := evF Try.prog cfg n f args
noncomputable def lp (m n f k nr : Nat) (s : St) : Option LR := lpF Try.prog cfg m n f k nr s

-- "bodega/bodegalaw7.LayoutAddresses"
theorem ev4 (n : Nat) (a0_0 : Int) (a1_0 : Int) (a2_0 : Int) (a3_0 : Int) (a4_0 : Int) (a5_0 : Bool) : ev (n + 1) 4 [(.v (.int .i64 a0_0)), (.v (.int .i64 a1_0)), (.v (.int .i64 a2_0)), (.v (.int .i64 a3_0)), (.v (.int .i64 a4_0)), (.v (.bool a5_0))] =
  cond a5_0
   ((ev n 9 [(.v (.int .i64 a0_0)), (.v (.int .i64 9))]).bind fun r0 =>
    cond (isI .i64 (cellAt r0 0))
     ((ev n 9 [(.v (.int .i64 a1_0)), (.v (.int .i64 19))]).bind fun r1 =>
      cond (isI .i64 (cellAt r1 0))
       ((ev n 9 [(.v (.int .i64 a2_0)), (.v (.int .i64 270))]).bind fun r2 =>
        cond (isI .i64 (cellAt r2 0))
         ((ev n 9 [(.v (.int .i64 a3_0)), (.v (.int .i64 270))]).bind fun r3 =>
          cond (isI .i64 (cellAt r3 0))
           ((ev n 9 [(.v (.int .i64 a4_0)), (.v (.int .i64 8))]).bind fun r4 =>
            cond (isI .i64 (cellAt r4 0))
             ((ev n 10 [(.v (.int .i64 (IntKind.wrap .i64 ((avInt (cellAt r4 0)) - 1))))]).bind fun r5 =>
              cond (isI .u64 (cellAt r5 0))
               (cond (isI .i64 (cellAt r5 1))
                 ((ev n 11 [(.v (.int .i64 (IntKind.wrap .i64 ((avInt (cellAt r4 0)) - 1))))]).bind fun r6 =>
                  cond (isI .u64 (cellAt r6 0))
                   (cond (isI .i64 (cellAt r6 1))
                     (cond (leI 1 (IntKind.wrap .i64 ((avInt (cellAt r3 0)) - 4)))
                       (cond (leI (IntKind.wrap .i64 ((avInt (cellAt r3 0)) - 4)) 256)
                         ((ev n 8 []).bind fun r7 =>
                          cond (isB (cellAt r7 0))
                           (cond (avBool (cellAt r7 0))
                             (cond ((avInt (cellAt r5 0)) == (avInt (cellAt r6 0)))
                               (cond ((avInt (cellAt r5 1)) == (avInt (cellAt r6 1)))
                                 ((ev n 12 [(.v (.int .i64 (IntKind.wrap .i64 ((avInt (cellAt r0 0)) - 1))))]).bind fun r8 =>
                                  cond (isI .i64 (cellAt r8 0))
                                   ((ev n 13 [(.v (.int .i64 (IntKind.wrap .i64 ((avInt (cellAt r0 0)) - 1))))]).bind fun r9 =>
                                    cond (isI .i64 (cellAt r9 0))
                                     (cond ((avInt (cellAt r8 0)) == (avInt (cellAt r9 0)))
                                       ((ev n 14 [(.v (.int .i64 (IntKind.wrap .i64 ((avInt (cellAt r0 0)) - 1))))]).bind fun r10 =>
                                        cond (isI .i64 (cellAt r10 0))
                                         ((ev n 15 [(.v (.int .i64 (IntKind.wrap .i64 ((avInt (cellAt r0 0)) - 1))))]).bind fun r11 =>
                                          cond (isI .i64 (cellAt r11 0))
                                           (cond ((avInt (cellAt r10 0)) == (avInt (cellAt r11 0)))
                                             ((ev n 16 [(.v (.int .i64 (IntKind.wrap .i64 ((avInt (cellAt r0 0)) - 1))))]).bind fun r12 =>
                                              cond (isI .i64 (cellAt r12 0))
                                               ((ev n 17 [(.v (.int .i64 (IntKind.wrap .i64 ((avInt (cellAt r0 0)) - 1))))]).bind fun r13 =>
                                                cond (isI .i64 (cellAt r13 0))
                                                 (cond ((avInt (cellAt r12 0)) == (avInt (cellAt r13 0)))
                                                   ((ev n 18 [(.v (.int .i64 (IntKind.wrap .i64 ((avInt (cellAt r1 0)) - 1))))]).bind fun r14 =>
                                                    cond (isI .i64 (cellAt r14 0))
                                                     ((ev n 19 [(.v (.int .i64 (IntKind.wrap .i64 ((avInt (cellAt r1 0)) - 1))))]).bind fun r15 =>
                                                      cond (isI .i64 (cellAt r15 0))
                                                       (cond ((avInt (cellAt r14 0)) == (avInt (cellAt r15 0)))
                                                         ((ev n 20 [(.v (.int .i64 (IntKind.wrap .i64 ((avInt (cellAt r0 0)) - 1))))]).bind fun r16 =>
                                                          cond (isI .i64 (cellAt r16 0))
                                                           ((ev n 21 [(.v (.int .i64 (IntKind.wrap .i64 ((avInt (cellAt r0 0)) - 1))))]).bind fun r17 =>
                                                            cond (isI .i64 (cellAt r17 0))
                                                             (cond ((avInt (cellAt r16 0)) == (avInt (cellAt r17 0)))
                                                               ((ev n 22 [(.v (.int .i64 (IntKind.wrap .i64 ((avInt (cellAt r0 0)) - 1))))]).bind fun r18 =>
                                                                cond (isI .i64 (cellAt r18 0))
                                                                 ((ev n 23 [(.v (.int .i64 (IntKind.wrap .i64 ((avInt (cellAt r0 0)) - 1))))]).bind fun r19 =>
                                                                  cond (isI .i64 (cellAt r19 0))
                                                                   (cond ((avInt (cellAt r18 0)) == (avInt (cellAt r19 0)))
                                                                     ((ev n 24 [(.v (.int .i64 (IntKind.wrap .i64 ((avInt (cellAt r0 0)) - 1))))]).bind fun r20 =>
                                                                      cond (isI .i64 (cellAt r20 0))
                                                                       ((ev n 25 [(.v (.int .i64 (IntKind.wrap .i64 ((avInt (cellAt r0 0)) - 1))))]).bind fun r21 =>
                                                                        cond (isI .i64 (cellAt r21 0))
                                                                         (cond ((avInt (cellAt r20 0)) == (avInt (cellAt r21 0)))
                                                                           ((ev n 26 [(.v (.int .i64 (IntKind.wrap .i64 ((avInt (cellAt r2 0)) - 4))))]).bind fun r22 =>
                                                                            cond (isI .i64 (cellAt r22 0))
                                                                             ((ev n 27 [(.v (.int .i64 (IntKind.wrap .i64 ((avInt (cellAt r2 0)) - 4))))]).bind fun r23 =>
                                                                              cond (isI .i64 (cellAt r23 0))
                                                                               (cond ((avInt (cellAt r22 0)) == (avInt (cellAt r23 0)))
                                                                                 ((ev n 28 [(.v (.int .i64 (IntKind.wrap .i64 ((avInt (cellAt r2 0)) - 4)))), (.v (.int .i64 (IntKind.wrap .i64 ((avInt (cellAt r3 0)) - 4))))]).bind fun r24 =>
                                                                                  cond (isB (cellAt r24 0))
                                                                                   ((ev n 29 [(.v (.int .i64 (IntKind.wrap .i64 ((avInt (cellAt r2 0)) - 4)))), (.v (.int .i64 (IntKind.wrap .i64 ((avInt (cellAt r3 0)) - 4))))]).bind fun r25 =>
                                                                                    cond (isB (cellAt r25 0))
                                                                                     (cond ((avBool (cellAt r24 0)) == (avBool (cellAt r25 0)))
                                                                                       ((ev n 30 [(.v (.int .i64 (IntKind.wrap .i64 ((avInt (cellAt r3 0)) - 4))))]).bind fun r26 =>
                                                                                        cond (isI .i64 (cellAt r26 0))
                                                                                         (some [(.v (.bool ((avInt (cellAt r26 0)) == (IntKind.wrap .i64 ((IntKind.wrap .i64 ((avInt (cellAt r3 0)) - 4)) * 8)))))])
                                                                                         (none))
                                                                                       (some [(.v (.bool false))]))
                                                                                     (none))
                                                                                   (none))
                                                                                 (some [(.v (.bool false))]))
                                                                               (none))
                                                                             (none))
                                                                           (some [(.v (.bool false))]))
                                                                         (none))
                                                                       (none))
                                                                     (some [(.v (.bool false))]))
                                                                   (none))
                                                                 (none))
                                                               (some [(.v (.bool false))]))
                                                             (none))
                                                           (none))
                                                         (some [(.v (.bool false))]))
                                                       (none))
                                                     (none))
                                                   (some [(.v (.bool false))]))
                                                 (none))
                                               (none))
                                             (some [(.v (.bool false))]))
                                           (none))
                                         (none))
                                       (some [(.v (.bool false))]))
                                     (none))
                                   (none))
                                 (some [(.v (.bool false))]))
                               (some [(.v (.bool false))]))
                             (some [(.v (.bool false))]))
                           (none))
                         ((ev n 8 []).bind fun r27 =>
                          cond (isB (cellAt r27 0))
                           (cond (avBool (cellAt r27 0))
                             (cond ((avInt (cellAt r5 0)) == (avInt (cellAt r6 0)))
                               (cond ((avInt (cellAt r5 1)) == (avInt (cellAt r6 1)))
                                 ((ev n 12 [(.v (.int .i64 (IntKind.wrap .i64 ((avInt (cellAt r0 0)) - 1))))]).bind fun r28 =>
                                  cond (isI .i64 (cellAt r28 0))
                                   ((ev n 13 [(.v (.int .i64 (IntKind.wrap .i64 ((avInt (cellAt r0 0)) - 1))))]).bind fun r29 =>
                                    cond (isI .i64 (cellAt r29 0))
                                     (cond ((avInt (cellAt r28 0)) == (avInt (cellAt r29 0)))
                                       ((ev n 14 [(.v (.int .i64 (IntKind.wrap .i64 ((avInt (cellAt r0 0)) - 1))))]).bind fun r30 =>
                                        cond (isI .i64 (cellAt r30 0))
                                         ((ev n 15 [(.v (.int .i64 (IntKind.wrap .i64 ((avInt (cellAt r0 0)) - 1))))]).bind fun r31 =>
                                          cond (isI .i64 (cellAt r31 0))
                                           (cond ((avInt (cellAt r30 0)) == (avInt (cellAt r31 0)))
                                             ((ev n 16 [(.v (.int .i64 (IntKind.wrap .i64 ((avInt (cellAt r0 0)) - 1))))]).bind fun r32 =>
                                              cond (isI .i64 (cellAt r32 0))
                                               ((ev n 17 [(.v (.int .i64 (IntKind.wrap .i64 ((avInt (cellAt r0 0)) - 1))))]).bind fun r33 =>
                                                cond (isI .i64 (cellAt r33 0))
                                                 (cond ((avInt (cellAt r32 0)) == (avInt (cellAt r33 0)))
                                                   ((ev n 18 [(.v (.int .i64 (IntKind.wrap .i64 ((avInt (cellAt r1 0)) - 1))))]).bind fun r34 =>
                                                    cond (isI .i64 (cellAt r34 0))
                                                     ((ev n 19 [(.v (.int .i64 (IntKind.wrap .i64 ((avInt (cellAt r1 0)) - 1))))]).bind fun r35 =>
                                                      cond (isI .i64 (cellAt r35 0))
                                                       (cond ((avInt (cellAt r34 0)) == (avInt (cellAt r35 0)))
                                                         ((ev n 20 [(.v (.int .i64 (IntKind.wrap .i64 ((avInt (cellAt r0 0)) - 1))))]).bind fun r36 =>
                                                          cond (isI .i64 (cellAt r36 0))
                                                           ((ev n 21 [(.v (.int .i64 (IntKind.wrap .i64 ((avInt (cellAt r0 0)) - 1))))]).bind fun r37 =>
                                                            cond (isI .i64 (cellAt r37 0))
                                                             (cond ((avInt (cellAt r36 0)) == (avInt (cellAt r37 0)))
                                                               ((ev n 22 [(.v (.int .i64 (IntKind.wrap .i64 ((avInt (cellAt r0 0)) - 1))))]).bind fun r38 =>
                                                                cond (isI .i64 (cellAt r38 0))
                                                                 ((ev n 23 [(.v (.int .i64 (IntKind.wrap .i64 ((avInt (cellAt r0 0)) - 1))))]).bind fun r39 =>
                                                                  cond (isI .i64 (cellAt r39 0))
                                                                   (cond ((avInt (cellAt r38 0)) == (avInt (cellAt r39 0)))
                                                                     ((ev n 24 [(.v (.int .i64 (IntKind.wrap .i64 ((avInt (cellAt r0 0)) - 1))))]).bind fun r40 =>
                                                                      cond (isI .i64 (cellAt r40 0))
                                                                       ((ev n 25 [(.v (.int .i64 (IntKind.wrap .i64 ((avInt (cellAt r0 0)) - 1))))]).bind fun r41 =>
                                                                        cond (isI .i64 (cellAt r41 0))
                                                                         (cond ((avInt (cellAt r40 0)) == (avInt (cellAt r41 0)))
                                                                           ((ev n 26 [(.v (.int .i64 (IntKind.wrap .i64 ((avInt (cellAt r2 0)) - 4))))]).bind fun r42 =>
                                                                            cond (isI .i64 (cellAt r42 0))
                                                                             ((ev n 27 [(.v (.int .i64 (IntKind.wrap .i64 ((avInt (cellAt r2 0)) - 4))))]).bind fun r43 =>
                                                                              cond (isI .i64 (cellAt r43 0))
                                                                               (cond ((avInt (cellAt r42 0)) == (avInt (cellAt r43 0)))
                                                                                 ((ev n 28 [(.v (.int .i64 (IntKind.wrap .i64 ((avInt (cellAt r2 0)) - 4)))), (.v (.int .i64 (IntKind.wrap .i64 ((avInt (cellAt r3 0)) - 4))))]).bind fun r44 =>
                                                                                  cond (isB (cellAt r44 0))
                                                                                   ((ev n 29 [(.v (.int .i64 (IntKind.wrap .i64 ((avInt (cellAt r2 0)) - 4)))), (.v (.int .i64 (IntKind.wrap .i64 ((avInt (cellAt r3 0)) - 4))))]).bind fun r45 =>
                                                                                    cond (isB (cellAt r45 0))
                                                                                     (cond ((avBool (cellAt r44 0)) == (avBool (cellAt r45 0)))
                                                                                       ((ev n 30 [(.v (.int .i64 (IntKind.wrap .i64 ((avInt (cellAt r3 0)) - 4))))]).bind fun r46 =>
                                                                                        cond (isI .i64 (cellAt r46 0))
                                                                                         (some [(.v (.bool ((avInt (cellAt r46 0)) == 0)))])
                                                                                         (none))
                                                                                       (some [(.v (.bool false))]))
                                                                                     (none))
                                                                                   (none))
                                                                                 (some [(.v (.bool false))]))
                                                                               (none))
                                                                             (none))
                                                                           (some [(.v (.bool false))]))
                                                                         (none))
                                                                       (none))
                                                                     (some [(.v (.bool false))]))
                                                                   (none))
                                                                 (none))
                                                               (some [(.v (.bool false))]))
                                                             (none))
                                                           (none))
                                                         (some [(.v (.bool false))]))
                                                       (none))
                                                     (none))
                                                   (some [(.v (.bool false))]))
                                                 (none))
                                               (none))
                                             (some [(.v (.bool false))]))
                                           (none))
                                         (none))
                                       (some [(.v (.bool false))]))
                                     (none))
                                   (none))
                                 (some [(.v (.bool false))]))
                               (some [(.v (.bool false))]))
                             (some [(.v (.bool false))]))
                           (none)))
                       ((ev n 8 []).bind fun r47 =>
                        cond (isB (cellAt r47 0))
                         (cond (avBool (cellAt r47 0))
                           (cond ((avInt (cellAt r5 0)) == (avInt (cellAt r6 0)))
                             (cond ((avInt (cellAt r5 1)) == (avInt (cellAt r6 1)))
                               ((ev n 12 [(.v (.int .i64 (IntKind.wrap .i64 ((avInt (cellAt r0 0)) - 1))))]).bind fun r48 =>
                                cond (isI .i64 (cellAt r48 0))
                                 ((ev n 13 [(.v (.int .i64 (IntKind.wrap .i64 ((avInt (cellAt r0 0)) - 1))))]).bind fun r49 =>
                                  cond (isI .i64 (cellAt r49 0))
                                   (cond ((avInt (cellAt r48 0)) == (avInt (cellAt r49 0)))
                                     ((ev n 14 [(.v (.int .i64 (IntKind.wrap .i64 ((avInt (cellAt r0 0)) - 1))))]).bind fun r50 =>
                                      cond (isI .i64 (cellAt r50 0))
                                       ((ev n 15 [(.v (.int .i64 (IntKind.wrap .i64 ((avInt (cellAt r0 0)) - 1))))]).bind fun r51 =>
                                        cond (isI .i64 (cellAt r51 0))
                                         (cond ((avInt (cellAt r50 0)) == (avInt (cellAt r51 0)))
                                           ((ev n 16 [(.v (.int .i64 (IntKind.wrap .i64 ((avInt (cellAt r0 0)) - 1))))]).bind fun r52 =>
                                            cond (isI .i64 (cellAt r52 0))
                                             ((ev n 17 [(.v (.int .i64 (IntKind.wrap .i64 ((avInt (cellAt r0 0)) - 1))))]).bind fun r53 =>
                                              cond (isI .i64 (cellAt r53 0))
                                               (cond ((avInt (cellAt r52 0)) == (avInt (cellAt r53 0)))
                                                 ((ev n 18 [(.v (.int .i64 (IntKind.wrap .i64 ((avInt (cellAt r1 0)) - 1))))]).bind fun r54 =>
                                                  cond (isI .i64 (cellAt r54 0))
                                                   ((ev n 19 [(.v (.int .i64 (IntKind.wrap .i64 ((avInt (cellAt r1 0)) - 1))))]).bind fun r55 =>
                                                    cond (isI .i64 (cellAt r55 0))
                                                     (cond ((avInt (cellAt r54 0)) == (avInt (cellAt r55 0)))
                                                       ((ev n 20 [(.v (.int .i64 (IntKind.wrap .i64 ((avInt (cellAt r0 0)) - 1))))]).bind fun r56 =>
                                                        cond (isI .i64 (cellAt r56 0))
                                                         ((ev n 21 [(.v (.int .i64 (IntKind.wrap .i64 ((avInt (cellAt r0 0)) - 1))))]).bind fun r57 =>
                                                          cond (isI .i64 (cellAt r57 0))
                                                           (cond ((avInt (cellAt r56 0)) == (avInt (cellAt r57 0)))
                                                             ((ev n 22 [(.v (.int .i64 (IntKind.wrap .i64 ((avInt (cellAt r0 0)) - 1))))]).bind fun r58 =>
                                                              cond (isI .i64 (cellAt r58 0))
                                                               ((ev n 23 [(.v (.int .i64 (IntKind.wrap .i64 ((avInt (cellAt r0 0)) - 1))))]).bind fun r59 =>
                                                                cond (isI .i64 (cellAt r59 0))
                                                                 (cond ((avInt (cellAt r58 0)) == (avInt (cellAt r59 0)))
                                                                   ((ev n 24 [(.v (.int .i64 (IntKind.wrap .i64 ((avInt (cellAt r0 0)) - 1))))]).bind fun r60 =>
                                                                    cond (isI .i64 (cellAt r60 0))
                                                                     ((ev n 25 [(.v (.int .i64 (IntKind.wrap .i64 ((avInt (cellAt r0 0)) - 1))))]).bind fun r61 =>
                                                                      cond (isI .i64 (cellAt r61 0))
                                                                       (cond ((avInt (cellAt r60 0)) == (avInt (cellAt r61 0)))
                                                                         ((ev n 26 [(.v (.int .i64 (IntKind.wrap .i64 ((avInt (cellAt r2 0)) - 4))))]).bind fun r62 =>
                                                                          cond (isI .i64 (cellAt r62 0))
                                                                           ((ev n 27 [(.v (.int .i64 (IntKind.wrap .i64 ((avInt (cellAt r2 0)) - 4))))]).bind fun r63 =>
                                                                            cond (isI .i64 (cellAt r63 0))
                                                                             (cond ((avInt (cellAt r62 0)) == (avInt (cellAt r63 0)))
                                                                               ((ev n 28 [(.v (.int .i64 (IntKind.wrap .i64 ((avInt (cellAt r2 0)) - 4)))), (.v (.int .i64 (IntKind.wrap .i64 ((avInt (cellAt r3 0)) - 4))))]).bind fun r64 =>
                                                                                cond (isB (cellAt r64 0))
                                                                                 ((ev n 29 [(.v (.int .i64 (IntKind.wrap .i64 ((avInt (cellAt r2 0)) - 4)))), (.v (.int .i64 (IntKind.wrap .i64 ((avInt (cellAt r3 0)) - 4))))]).bind fun r65 =>
                                                                                  cond (isB (cellAt r65 0))
                                                                                   (cond ((avBool (cellAt r64 0)) == (avBool (cellAt r65 0)))
                                                                                     ((ev n 30 [(.v (.int .i64 (IntKind.wrap .i64 ((avInt (cellAt r3 0)) - 4))))]).bind fun r66 =>
                                                                                      cond (isI .i64 (cellAt r66 0))
                                                                                       (some [(.v (.bool ((avInt (cellAt r66 0)) == 0)))])
                                                                                       (none))
                                                                                     (some [(.v (.bool false))]))
                                                                                   (none))
                                                                                 (none))
                                                                               (some [(.v (.bool false))]))
                                                                             (none))
                                                                           (none))
                                                                         (some [(.v (.bool false))]))
                                                                       (none))
                                                                     (none))
                                                                   (some [(.v (.bool false))]))
                                                                 (none))
                                                               (none))
                                                             (some [(.v (.bool false))]))
                                                           (none))
                                                         (none))
                                                       (some [(.v (.bool false))]))
                                                     (none))
                                                   (none))
                                                 (some [(.v (.bool false))]))
                                               (none))
                                             (none))
                                           (some [(.v (.bool false))]))
                                         (none))
                                       (none))
                                     (some [(.v (.bool false))]))
                                   (none))
                                 (none))
                               (some [(.v (.bool false))]))
                             (some [(.v (.bool false))]))
                           (some [(.v (.bool false))]))
                         (none)))
                     (none))
                   (none))
                 (none))
               (none))
             (none))
           (none))
         (none))
       (none))
     (none))
   ((ev n 10 [(.v (.int .i64 a4_0))]).bind fun r67 =>
    cond (isI .u64 (cellAt r67 0))
     (cond (isI .i64 (cellAt r67 1))
       ((ev n 11 [(.v (.int .i64 a4_0))]).bind fun r68 =>
        cond (isI .u64 (cellAt r68 0))
         (cond (isI .i64 (cellAt r68 1))
           (cond (leI 1 a3_0)
             (cond (leI a3_0 256)
               ((ev n 8 []).bind fun r69 =>
                cond (isB (cellAt r69 0))
                 (cond (avBool (cellAt r69 0))
                   (cond ((avInt (cellAt r67 0)) == (avInt (cellAt r68 0)))
                     (cond ((avInt (cellAt r67 1)) == (avInt (cellAt r68 1)))
                       ((ev n 12 [(.v (.int .i64 a0_0))]).bind fun r70 =>
                        cond (isI .i64 (cellAt r70 0))
                         ((ev n 13 [(.v (.int .i64 a0_0))]).bind fun r71 =>
                          cond (isI .i64 (cellAt r71 0))
                           (cond ((avInt (cellAt r70 0)) == (avInt (cellAt r71 0)))
                             ((ev n 14 [(.v (.int .i64 a0_0))]).bind fun r72 =>
                              cond (isI .i64 (cellAt r72 0))
                               ((ev n 15 [(.v (.int .i64 a0_0))]).bind fun r73 =>
                                cond (isI .i64 (cellAt r73 0))
                                 (cond ((avInt (cellAt r72 0)) == (avInt (cellAt r73 0)))
                                   ((ev n 16 [(.v (.int .i64 a0_0))]).bind fun r74 =>
                                    cond (isI .i64 (cellAt r74 0))
                                     ((ev n 17 [(.v (.int .i64 a0_0))]).bind fun r75 =>
                                      cond (isI .i64 (cellAt r75 0))
                                       (cond ((avInt (cellAt r74 0)) == (avInt (cellAt r75 0)))
                                         ((ev n 18 [(.v (.int .i64 a1_0))]).bind fun r76 =>
                                          cond (isI .i64 (cellAt r76 0))
                                           ((ev n 19 [(.v (.int .i64 a1_0))]).bind fun r77 =>
                                            cond (isI .i64 (cellAt r77 0))
                                             (cond ((avInt (cellAt r76 0)) == (avInt (cellAt r77 0)))
                                               ((ev n 20 [(.v (.int .i64 a0_0))]).bind fun r78 =>
                                                cond (isI .i64 (cellAt r78 0))
                                                 ((ev n 21 [(.v (.int .i64 a0_0))]).bind fun r79 =>
                                                  cond (isI .i64 (cellAt r79 0))
                                                   (cond ((avInt (cellAt r78 0)) == (avInt (cellAt r79 0)))
                                                     ((ev n 22 [(.v (.int .i64 a0_0))]).bind fun r80 =>
                                                      cond (isI .i64 (cellAt r80 0))
                                                       ((ev n 23 [(.v (.int .i64 a0_0))]).bind fun r81 =>
                                                        cond (isI .i64 (cellAt r81 0))
                                                         (cond ((avInt (cellAt r80 0)) == (avInt (cellAt r81 0)))
                                                           ((ev n 24 [(.v (.int .i64 a0_0))]).bind fun r82 =>
                                                            cond (isI .i64 (cellAt r82 0))
                                                             ((ev n 25 [(.v (.int .i64 a0_0))]).bind fun r83 =>
                                                              cond (isI .i64 (cellAt r83 0))
                                                               (cond ((avInt (cellAt r82 0)) == (avInt (cellAt r83 0)))
                                                                 ((ev n 26 [(.v (.int .i64 a2_0))]).bind fun r84 =>
                                                                  cond (isI .i64 (cellAt r84 0))
                                                                   ((ev n 27 [(.v (.int .i64 a2_0))]).bind fun r85 =>
                                                                    cond (isI .i64 (cellAt r85 0))
                                                                     (cond ((avInt (cellAt r84 0)) == (avInt (cellAt r85 0)))
                                                                       ((ev n 28 [(.v (.int .i64 a2_0)), (.v (.int .i64 a3_0))]).bind fun r86 =>
                                                                        cond (isB (cellAt r86 0))
                                                                         ((ev n 29 [(.v (.int .i64 a2_0)), (.v (.int .i64 a3_0))]).bind fun r87 =>
                                                                          cond (isB (cellAt r87 0))
                                                                           (cond ((avBool (cellAt r86 0)) == (avBool (cellAt r87 0)))
                                                                             ((ev n 30 [(.v (.int .i64 a3_0))]).bind fun r88 =>
                                                                              cond (isI .i64 (cellAt r88 0))
                                                                               (some [(.v (.bool ((avInt (cellAt r88 0)) == (IntKind.wrap .i64 (a3_0 * 8)))))])
                                                                               (none))
                                                                             (some [(.v (.bool false))]))
                                                                           (none))
                                                                         (none))
                                                                       (some [(.v (.bool false))]))
                                                                     (none))
                                                                   (none))
                                                                 (some [(.v (.bool false))]))
                                                               (none))
                                                             (none))
                                                           (some [(.v (.bool false))]))
                                                         (none))
                                                       (none))
                                                     (some [(.v (.bool false))]))
                                                   (none))
                                                 (none))
                                               (some [(.v (.bool false))]))
                                             (none))
                                           (none))
                                         (some [(.v (.bool false))]))
                                       (none))
                                     (none))
                                   (some [(.v (.bool false))]))
                                 (none))
                               (none))
                             (some [(.v (.bool false))]))
                           (none))
                         (none))
                       (some [(.v (.bool false))]))
                     (some [(.v (.bool false))]))
                   (some [(.v (.bool false))]))
                 (none))
               ((ev n 8 []).bind fun r89 =>
                cond (isB (cellAt r89 0))
                 (cond (avBool (cellAt r89 0))
                   (cond ((avInt (cellAt r67 0)) == (avInt (cellAt r68 0)))
                     (cond ((avInt (cellAt r67 1)) == (avInt (cellAt r68 1)))
                       ((ev n 12 [(.v (.int .i64 a0_0))]).bind fun r90 =>
                        cond (isI .i64 (cellAt r90 0))
                         ((ev n 13 [(.v (.int .i64 a0_0))]).bind fun r91 =>
                          cond (isI .i64 (cellAt r91 0))
                           (cond ((avInt (cellAt r90 0)) == (avInt (cellAt r91 0)))
                             ((ev n 14 [(.v (.int .i64 a0_0))]).bind fun r92 =>
                              cond (isI .i64 (cellAt r92 0))
                               ((ev n 15 [(.v (.int .i64 a0_0))]).bind fun r93 =>
                                cond (isI .i64 (cellAt r93 0))
                                 (cond ((avInt (cellAt r92 0)) == (avInt (cellAt r93 0)))
                                   ((ev n 16 [(.v (.int .i64 a0_0))]).bind fun r94 =>
                                    cond (isI .i64 (cellAt r94 0))
                                     ((ev n 17 [(.v (.int .i64 a0_0))]).bind fun r95 =>
                                      cond (isI .i64 (cellAt r95 0))
                                       (cond ((avInt (cellAt r94 0)) == (avInt (cellAt r95 0)))
                                         ((ev n 18 [(.v (.int .i64 a1_0))]).bind fun r96 =>
                                          cond (isI .i64 (cellAt r96 0))
                                           ((ev n 19 [(.v (.int .i64 a1_0))]).bind fun r97 =>
                                            cond (isI .i64 (cellAt r97 0))
                                             (cond ((avInt (cellAt r96 0)) == (avInt (cellAt r97 0)))
                                               ((ev n 20 [(.v (.int .i64 a0_0))]).bind fun r98 =>
                                                cond (isI .i64 (cellAt r98 0))
                                                 ((ev n 21 [(.v (.int .i64 a0_0))]).bind fun r99 =>
                                                  cond (isI .i64 (cellAt r99 0))
                                                   (cond ((avInt (cellAt r98 0)) == (avInt (cellAt r99 0)))
                                                     ((ev n 22 [(.v (.int .i64 a0_0))]).bind fun r100 =>
                                                      cond (isI .i64 (cellAt r100 0))
                                                       ((ev n 23 [(.v (.int .i64 a0_0))]).bind fun r101 =>
                                                        cond (isI .i64 (cellAt r101 0))
                                                         (cond ((avInt (cellAt r100 0)) == (avInt (cellAt r101 0)))
                                                           ((ev n 24 [(.v (.int .i64 a0_0))]).bind fun r102 =>
                                                            cond (isI .i64 (cellAt r102 0))
                                                             ((ev n 25 [(.v (.int .i64 a0_0))]).bind fun r103 =>
                                                              cond (isI .i64 (cellAt r103 0))
                                                               (cond ((avInt (cellAt r102 0)) == (avInt (cellAt r103 0)))
                                                                 ((ev n 26 [(.v (.int .i64 a2_0))]).bind fun r104 =>
                                                                  cond (isI .i64 (cellAt r104 0))
                                                                   ((ev n 27 [(.v (.int .i64 a2_0))]).bind fun r105 =>
                                                                    cond (isI .i64 (cellAt r105 0))
                                                                     (cond ((avInt (cellAt r104 0)) == (avInt (cellAt r105 0)))
                                                                       ((ev n 28 [(.v (.int .i64 a2_0)), (.v (.int .i64 a3_0))]).bind fun r106 =>
                                                                        cond (isB (cellAt r106 0))
                                                                         ((ev n 29 [(.v (.int .i64 a2_0)), (.v (.int .i64 a3_0))]).bind fun r107 =>
                                                                          cond (isB (cellAt r107 0))
                                                                           (cond ((avBool (cellAt r106 0)) == (avBool (cellAt r107 0)))
                                                                             ((ev n 30 [(.v (.int .i64 a3_0))]).bind fun r108 =>
                                                                              cond (isI .i64 (cellAt r108 0))
                                                                               (some [(.v (.bool ((avInt (cellAt r108 0)) == 0)))])
                                                                               (none))
                                                                             (some [(.v (.bool false))]))
                                                                           (none))
                                                                         (none))
                                                                       (some [(.v (.bool false))]))
                                                                     (none))
                                                                   (none))
                                                                 (some [(.v (.bool false))]))
                                                               (none))
                                                             (none))
                                                           (some [(.v (.bool false))]))
                                                         (none))
                                                       (none))
                                                     (some [(.v (.bool false))]))
                                                   (none))
                                                 (none))
                                               (some [(.v (.bool false))]))
                                             (none))
                                           (none))
                                         (some [(.v (.bool false))]))
                                       (none))
                                     (none))
                                   (some [(.v (.bool false))]))
                                 (none))
                               (none))
                             (some [(.v (.bool false))]))
                           (none))
                         (none))
                       (some [(.v (.bool false))]))
                     (some [(.v (.bool false))]))
                   (some [(.v (.bool false))]))
                 (none)))
             ((ev n 8 []).bind fun r109 =>
              cond (isB (cellAt r109 0))
               (cond (avBool (cellAt r109 0))
                 (cond ((avInt (cellAt r67 0)) == (avInt (cellAt r68 0)))
                   (cond ((avInt (cellAt r67 1)) == (avInt (cellAt r68 1)))
                     ((ev n 12 [(.v (.int .i64 a0_0))]).bind fun r110 =>
                      cond (isI .i64 (cellAt r110 0))
                       ((ev n 13 [(.v (.int .i64 a0_0))]).bind fun r111 =>
                        cond (isI .i64 (cellAt r111 0))
                         (cond ((avInt (cellAt r110 0)) == (avInt (cellAt r111 0)))
                           ((ev n 14 [(.v (.int .i64 a0_0))]).bind fun r112 =>
                            cond (isI .i64 (cellAt r112 0))
                             ((ev n 15 [(.v (.int .i64 a0_0))]).bind fun r113 =>
                              cond (isI .i64 (cellAt r113 0))
                               (cond ((avInt (cellAt r112 0)) == (avInt (cellAt r113 0)))
                                 ((ev n 16 [(.v (.int .i64 a0_0))]).bind fun r114 =>
                                  cond (isI .i64 (cellAt r114 0))
                                   ((ev n 17 [(.v (.int .i64 a0_0))]).bind fun r115 =>
                                    cond (isI .i64 (cellAt r115 0))
                                     (cond ((avInt (cellAt r114 0)) == (avInt (cellAt r115 0)))
                                       ((ev n 18 [(.v (.int .i64 a1_0))]).bind fun r116 =>
                                        cond (isI .i64 (cellAt r116 0))
                                         ((ev n 19 [(.v (.int .i64 a1_0))]).bind fun r117 =>
                                          cond (isI .i64 (cellAt r117 0))
                                           (cond ((avInt (cellAt r116 0)) == (avInt (cellAt r117 0)))
                                             ((ev n 20 [(.v (.int .i64 a0_0))]).bind fun r118 =>
                                              cond (isI .i64 (cellAt r118 0))
                                               ((ev n 21 [(.v (.int .i64 a0_0))]).bind fun r119 =>
                                                cond (isI .i64 (cellAt r119 0))
                                                 (cond ((avInt (cellAt r118 0)) == (avInt (cellAt r119 0)))
                                                   ((ev n 22 [(.v (.int .i64 a0_0))]).bind fun r120 =>
                                                    cond (isI .i64 (cellAt r120 0))
                                                     ((ev n 23 [(.v (.int .i64 a0_0))]).bind fun r121 =>
                                                      cond (isI .i64 (cellAt r121 0))
                                                       (cond ((avInt (cellAt r120 0)) == (avInt (cellAt r121 0)))
                                                         ((ev n 24 [(.v (.int .i64 a0_0))]).bind fun r122 =>
                                                          cond (isI .i64 (cellAt r122 0))
                                                           ((ev n 25 [(.v (.int .i64 a0_0))]).bind fun r123 =>
                                                            cond (isI .i64 (cellAt r123 0))
                                                             (cond ((avInt (cellAt r122 0)) == (avInt (cellAt r123 0)))
                                                               ((ev n 26 [(.v (.int .i64 a2_0))]).bind fun r124 =>
                                                                cond (isI .i64 (cellAt r124 0))
                                                                 ((ev n 27 [(.v (.int .i64 a2_0))]).bind fun r125 =>
                                                                  cond (isI .i64 (cellAt r125 0))
                                                                   (cond ((avInt (cellAt r124 0)) == (avInt (cellAt r125 0)))
                                                                     ((ev n 28 [(.v (.int .i64 a2_0)), (.v (.int .i64 a3_0))]).bind fun r126 =>
                                                                      cond (isB (cellAt r126 0))
                                                                       ((ev n 29 [(.v (.int .i64 a2_0)), (.v (.int .i64 a3_0))]).bind fun r127 =>
                                                                        cond (isB (cellAt r127 0))
                                                                         (cond ((avBool (cellAt r126 0)) == (avBool (cellAt r127 0)))
                                                                           ((ev n 30 [(.v (.int .i64 a3_0))]).bind fun r128 =>
                                                                            cond (isI .i64 (cellAt r128 0))
                                                                             (some [(.v (.bool ((avInt (cellAt r128 0)) == 0)))])
                                                                             (none))
                                                                           (some [(.v (.bool false))]))
                                                                         (none))
                                                                       (none))
                                                                     (some [(.v (.bool false))]))
                                                                   (none))
                                                                 (none))
                                                               (some [(.v (.bool false))]))
                                                             (none))
                                                           (none))
                                                         (some [(.v (.bool false))]))
                                                       (none))
                                                     (none))
                                                   (some [(.v (.bool false))]))
                                                 (none))
                                               (none))
                                             (some [(.v (.bool false))]))
                                           (none))
                                         (none))
                                       (some [(.v (.bool false))]))
                                     (none))
                                   (none))
                                 (some [(.v (.bool false))]))
                               (none))
                             (none))
                           (some [(.v (.bool false))]))
                         (none))
                       (none))
                     (some [(.v (.bool false))]))
                   (some [(.v (.bool false))]))
                 (some [(.v (.bool false))]))
               (none)))
           (none))
         (none))
       (none))
     (none)) := by kernel_rfl
-- "bodega/bodegalaw7.awake"
theorem ev8 (n : Nat)  : ev (n + 1) 8 [] =
  (ev n 10 [(.v (.int .i64 1))]).bind fun r0 =>
  cond (isI .u64 (cellAt r0 0))
   (cond (isI .i64 (cellAt r0 1))
     ((ev n 12 [(.v (.int .i64 0))]).bind fun r1 =>
      cond (isI .i64 (cellAt r1 0))
       (cond ((avInt (cellAt r1 0)) == 24)
         ((ev n 20 [(.v (.int .i64 1))]).bind fun r2 =>
          cond (isI .i64 (cellAt r2 0))
           (cond ((avInt (cellAt r2 0)) == 168)
             ((ev n 24 [(.v (.int .i64 0))]).bind fun r3 =>
              cond (isI .i64 (cellAt r3 0))
               (cond ((avInt (cellAt r3 0)) == 56)
                 ((ev n 26 [(.v (.int .i64 96))]).bind fun r4 =>
                  cond (isI .i64 (cellAt r4 0))
                   (cond ((avInt (cellAt r4 0)) == 768)
                     (cond ((avInt (cellAt r0 1)) == 0)
                       (some [(.v (.bool ((avInt (cellAt r0 0)) == 549755813895)))])
                       (some [(.v (.bool false))]))
                     (some [(.v (.bool false))]))
                   (none))
                 (some [(.v (.bool false))]))
               (none))
             (some [(.v (.bool false))]))
           (none))
         (some [(.v (.bool false))]))
       (none))
     (none))
   (none) := by kernel_rfl
-- "bodega/bodegahand.Pick"
theorem ev9 (n : Nat) (a0_0 : Int) (a1_0 : Int) : ev (n + 1) 9 [(.v (.int .i64 a0_0)), (.v (.int .i64 a1_0))] =
  cond (ltI a1_0 1)
   (some [(.v (.int .i64 0))])
   (cond (eqI a1_0 0)
     (none)
     (cond (eqI a1_0 0)
       (none)
       (some [(.v (.int .i64 (Int.tmod (IntKind.wrap .i64 ((Int.tmod a0_0 a1_0) + a1_0)) a1_0)))]))) := by kernel_rfl
-- "bodega/layout.InitialValue"
theorem ev10 (n : Nat) (a0_0 : Int) : ev (n + 1) 10 [(.v (.int .i64 a0_0))] =
  cond (ltI a0_0 1)
   (some [(.v (.int .u64 0)), (.v (.int .i64 2))])
   (cond (ltI 5 a0_0)
     (some [(.v (.int .u64 0)), (.v (.int .i64 2))])
     ((lp n n 10 0 0 ⟨[(4, (.v (.int .u64 549755813888))), (12, (.v (.int .i64 a0_0))), (13, (.v (.int .i64 0)))], []⟩).bind fun r0 =>
      cond (isEx 0 r0)
       (cond (likeStG ⟨[(4, (.v (.int .u64 549755813888)))], []⟩ r0.st)
         (some [(.v (.int .u64 (avInt (frAt r0.st.fr 0).2))), (.v (.int .i64 0))])
         (none))
       (cond (isRt r0)
         (some r0.outs)
         (none)))) := by kernel_rfl
theorem lp10_0 (m n : Nat) (x4 : Int) (x12 : Int) (x13 : Int) : lp m (n + 1) 10 0 0 ⟨[(4, (.v (.int .u64 x4))), (12, (.v (.int .i64 x12))), (13, (.v (.int .i64 x13)))], []⟩ =
  cond (ltI x13 x12)
   (cond (ltI (IntKind.wrap .u64 (IntKind.wrap .i64 (7 * x13))) 0)
     (none)
     (lp m n 10 0 0 ⟨[(4, (.v (.int .u64 (bits .or .u64 x4 (IntKind.wrap .u64 (7 * (2 ^ (min (Int.toNat (IntKind.wrap .u64 (IntKind.wrap .i64 (7 * x13)))) 64)))))))), (12, (.v (.int .i64 x12))), (13, (.v (.int .i64 (IntKind.wrap .i64 (x13 + 1)))))], []⟩))
   (some ⟨(some 0), ⟨[(4, (.v (.int .u64 x4)))], []⟩, []⟩) := by kernel_rfl
-- "bodega/bodegaref1.InitialValue"
theorem ev11 (n : Nat) (a0_0 : Int) : ev (n + 1) 11 [(.v (.int .i64 a0_0))] =
  cond (ltI a0_0 1)
   (some [(.v (.int .u64 0)), (.v (.int .i64 2))])
   (cond (ltI 5 a0_0)
     (some [(.v (.int .u64 0)), (.v (.int .i64 2))])
     ((lp n n 11 0 0 ⟨[(0, (.v (.int .i64 a0_0))), (4, (.v (.int .u64 549755813888))), (5, (.v (.int .i64 0)))], []⟩).bind fun r0 =>
      cond (isEx 0 r0)
       (cond (likeStG ⟨[(4, (.v (.int .u64 549755813888)))], []⟩ r0.st)
         (some [(.v (.int .u64 (avInt (frAt r0.st.fr 0).2))), (.v (.int .i64 0))])
         (none))
       (cond (isRt r0)
         (some r0.outs)
         (none)))) := by kernel_rfl
theorem lp11_0 (m n : Nat) (x0 : Int) (x4 : Int) (x5 : Int) : lp m (n + 1) 11 0 0 ⟨[(0, (.v (.int .i64 x0))), (4, (.v (.int .u64 x4))), (5, (.v (.int .i64 x5)))], []⟩ =
  cond (ltI x5 x0)
   (cond (ltI (IntKind.wrap .u64 (IntKind.wrap .i64 (7 * x5))) 0)
     (none)
     (lp m n 11 0 0 ⟨[(0, (.v (.int .i64 x0))), (4, (.v (.int .u64 (bits .or .u64 x4 (IntKind.wrap .u64 (7 * (2 ^ (min (Int.toNat (IntKind.wrap .u64 (IntKind.wrap .i64 (7 * x5)))) 64)))))))), (5, (.v (.int .i64 (IntKind.wrap .i64 (x5 + 1)))))], []⟩))
   (some ⟨(some 0), ⟨[(4, (.v (.int .u64 x4)))], []⟩, []⟩) := by kernel_rfl
-- "bodega/layout.Door"
theorem ev12 (n : Nat) (a0_0 : Int) : ev (n + 1) 12 [(.v (.int .i64 a0_0))] =
  (ev n 58 [(.v (.int .i64 a0_0)), (.ep [(.v (.int .i64 6))] 0), (.ep [(.v (.int .i64 3))] 0)]).bind fun r0 =>
  cond (isI .i64 (cellAt r0 0))
   (some [(.v (.int .i64 (avInt (cellAt r0 0))))])
   (none) := by kernel_rfl
-- "bodega/bodegaref1.Door"
theorem ev13 (n : Nat) (a0_0 : Int) : ev (n + 1) 13 [(.v (.int .i64 a0_0))] =
  (ev n 44 [(.v (.int .i64 a0_0))]).bind fun r0 =>
  cond (isB (cellAt r0 0))
   (cond (!(avBool (cellAt r0 0)))
     (some [(.v (.int .i64 (-1)))])
     (some [(.v (.int .i64 (IntKind.wrap .i64 (24 + a0_0))))]))
   (none) := by kernel_rfl
-- "bodega/layout.Clock"
theorem ev14 (n : Nat) (a0_0 : Int) : ev (n + 1) 14 [(.v (.int .i64 a0_0))] =
  (ev n 58 [(.v (.int .i64 a0_0)), (.ep [(.v (.int .i64 6))] 0), (.ep [(.v (.int .i64 4))] 0)]).bind fun r0 =>
  cond (isI .i64 (cellAt r0 0))
   (some [(.v (.int .i64 (avInt (cellAt r0 0))))])
   (none) := by kernel_rfl
-- "bodega/bodegaref1.Clock"
theorem ev15 (n : Nat) (a0_0 : Int) : ev (n + 1) 15 [(.v (.int .i64 a0_0))] =
  (ev n 44 [(.v (.int .i64 a0_0))]).bind fun r0 =>
  cond (isB (cellAt r0 0))
   (cond (!(avBool (cellAt r0 0)))
     (some [(.v (.int .i64 (-1)))])
     (some [(.v (.int .i64 (IntKind.wrap .i64 (32 + a0_0))))]))
   (none) := by kernel_rfl
-- "bodega/layout.Lease"
theorem ev16 (n : Nat) (a0_0 : Int) : ev (n + 1) 16 [(.v (.int .i64 a0_0))] =
  (ev n 58 [(.v (.int .i64 a0_0)), (.ep [(.v (.int .i64 6))] 0), (.ep [(.v (.int .i64 5))] 0)]).bind fun r0 =>
  cond (isI .i64 (cellAt r0 0))
   (some [(.v (.int .i64 (avInt (cellAt r0 0))))])
   (none) := by kernel_rfl
-- "bodega/bodegaref1.LeaseAt"
theorem ev17 (n : Nat) (a0_0 : Int) : ev (n + 1) 17 [(.v (.int .i64 a0_0))] =
  (ev n 44 [(.v (.int .i64 a0_0))]).bind fun r0 =>
  cond (isB (cellAt r0 0))
   (cond (!(avBool (cellAt r0 0)))
     (some [(.v (.int .i64 (-1)))])
     (some [(.v (.int .i64 (IntKind.wrap .i64 (40 + a0_0))))]))
   (none) := by kernel_rfl
-- "bodega/layout.Consensus"
theorem ev18 (n : Nat) (a0_0 : Int) : ev (n + 1) 18 [(.v (.int .i64 a0_0))] =
  (ev n 58 [(.v (.int .i64 a0_0)), (.ep [(.v (.int .i64 16))] 0), (.ep [(.v (.int .i64 1))] 0)]).bind fun r0 =>
  cond (isI .i64 (cellAt r0 0))
   (some [(.v (.int .i64 (avInt (cellAt r0 0))))])
   (none) := by kernel_rfl
-- "bodega/bodegaref1.ConsensusAt"
theorem ev19 (n : Nat) (a0_0 : Int) : ev (n + 1) 19 [(.v (.int .i64 a0_0))] =
  cond (ltI a0_0 0)
   (some [(.v (.int .i64 (-1)))])
   (cond (leI 16 a0_0)
     (some [(.v (.int .i64 (-1)))])
     (some [(.v (.int .i64 (IntKind.wrap .i64 (8 + a0_0))))])) := by kernel_rfl
-- "bodega/layout.Mark"
theorem ev20 (n : Nat) (a0_0 : Int) : ev (n + 1) 20 [(.v (.int .i64 a0_0))] =
  (ev n 45 [(.v (.int .i64 a0_0)), (.v (.int .i64 0))]).bind fun r0 =>
  cond (isI .i64 (cellAt r0 0))
   (some [(.v (.int .i64 (avInt (cellAt r0 0))))])
   (none) := by kernel_rfl
-- "bodega/bodegaref1.MarkAt"
theorem ev21 (n : Nat) (a0_0 : Int) : ev (n + 1) 21 [(.v (.int .i64 a0_0))] =
  (ev n 44 [(.v (.int .i64 a0_0))]).bind fun r0 =>
  cond (isB (cellAt r0 0))
   (cond (!(avBool (cellAt r0 0)))
     (some [(.v (.int .i64 (-1)))])
     (some [(.v (.int .i64 (IntKind.wrap .i64 ((IntKind.wrap .i64 (6 + (IntKind.wrap .i64 (a0_0 * 15)))) * 8))))]))
   (none) := by kernel_rfl
-- "bodega/layout.Tag"
theorem ev22 (n : Nat) (a0_0 : Int) : ev (n + 1) 22 [(.v (.int .i64 a0_0))] =
  (ev n 45 [(.v (.int .i64 a0_0)), (.v (.int .i64 1))]).bind fun r0 =>
  cond (isI .i64 (cellAt r0 0))
   (some [(.v (.int .i64 (avInt (cellAt r0 0))))])
   (none) := by kernel_rfl
-- "bodega/bodegaref1.TagAt"
theorem ev23 (n : Nat) (a0_0 : Int) : ev (n + 1) 23 [(.v (.int .i64 a0_0))] =
  (ev n 44 [(.v (.int .i64 a0_0))]).bind fun r0 =>
  cond (isB (cellAt r0 0))
   (cond (!(avBool (cellAt r0 0)))
     (some [(.v (.int .i64 (-1)))])
     ((ev n 21 [(.v (.int .i64 a0_0))]).bind fun r1 =>
      cond (isI .i64 (cellAt r1 0))
       (some [(.v (.int .i64 (IntKind.wrap .i64 ((avInt (cellAt r1 0)) + 1))))])
       (none)))
   (none) := by kernel_rfl
-- "bodega/layout.Body"
theorem ev24 (n : Nat) (a0_0 : Int) : ev (n + 1) 24 [(.v (.int .i64 a0_0))] =
  (ev n 45 [(.v (.int .i64 a0_0)), (.v (.int .i64 8))]).bind fun r0 =>
  cond (isI .i64 (cellAt r0 0))
   (some [(.v (.int .i64 (avInt (cellAt r0 0))))])
   (none) := by kernel_rfl
-- "bodega/bodegaref1.BodyAt"
theorem ev25 (n : Nat) (a0_0 : Int) : ev (n + 1) 25 [(.v (.int .i64 a0_0))] =
  (ev n 44 [(.v (.int .i64 a0_0))]).bind fun r0 =>
  cond (isB (cellAt r0 0))
   (cond (!(avBool (cellAt r0 0)))
     (some [(.v (.int .i64 (-1)))])
     ((ev n 21 [(.v (.int .i64 a0_0))]).bind fun r1 =>
      cond (isI .i64 (cellAt r1 0))
       (some [(.v (.int .i64 (IntKind.wrap .i64 ((avInt (cellAt r1 0)) + 8))))])
       (none)))
   (none) := by kernel_rfl
-- "bodega/layout.Page"
theorem ev26 (n : Nat) (a0_0 : Int) : ev (n + 1) 26 [(.v (.int .i64 a0_0))] =
  cond (ltI a0_0 96)
   (some [(.v (.int .i64 (-1)))])
   (cond (leI 256 a0_0)
     (some [(.v (.int .i64 (-1)))])
     (some [(.v (.int .i64 (IntKind.wrap .i64 (a0_0 * 8))))])) := by kernel_rfl
-- "bodega/bodegaref1.PageAt"
theorem ev27 (n : Nat) (a0_0 : Int) : ev (n + 1) 27 [(.v (.int .i64 a0_0))] =
  cond (ltI a0_0 96)
   (some [(.v (.int .i64 (-1)))])
   (cond (leI 256 a0_0)
     (some [(.v (.int .i64 (-1)))])
     (some [(.v (.int .i64 (IntKind.wrap .i64 (a0_0 * 8))))])) := by kernel_rfl
-- "bodega/layout.InHeap"
theorem ev28 (n : Nat) (a0_0 : Int) (a1_0 : Int) : ev (n + 1) 28 [(.v (.int .i64 a0_0)), (.v (.int .i64 a1_0))] =
  (ev n 46 [(.v (.int .i64 a1_0))]).bind fun r0 =>
  cond (isB (cellAt r0 0))
   (cond (avBool (cellAt r0 0))
     (cond (leI 96 a0_0)
       (some [(.v (.bool (ltI a0_0 a1_0)))])
       (some [(.v (.bool false))]))
     (some [(.v (.bool false))]))
   (none) := by kernel_rfl
-- "bodega/bodegaref1.InHeap"
theorem ev29 (n : Nat) (a0_0 : Int) (a1_0 : Int) : ev (n + 1) 29 [(.v (.int .i64 a0_0)), (.v (.int .i64 a1_0))] =
  cond (leI 98 a1_0)
   (cond (leI a1_0 256)
     (cond (leI 96 a0_0)
       (some [(.v (.bool (ltI a0_0 a1_0)))])
       (some [(.v (.bool false))]))
     (some [(.v (.bool false))]))
   (some [(.v (.bool false))]) := by kernel_rfl
-- "bodega/layout.Words"
theorem ev30 (n : Nat) (a0_0 : Int) : ev (n + 1) 30 [(.v (.int .i64 a0_0))] =
  cond (ltI a0_0 1)
   (some [(.v (.int .i64 0))])
   (cond (ltI 256 a0_0)
     (some [(.v (.int .i64 0))])
     (some [(.v (.int .i64 (IntKind.wrap .i64 (a0_0 * 8))))])) := by kernel_rfl
-- "bodega/bodegaref1.Client"
theorem ev44 (n : Nat) (a0_0 : Int) : ev (n + 1) 44 [(.v (.int .i64 a0_0))] =
  cond (leI 0 a0_0)
   (some [(.v (.bool (ltI a0_0 6)))])
   (some [(.v (.bool false))]) := by kernel_rfl
-- "bodega/layout.logWord"
theorem ev45 (n : Nat) (a0_0 : Int) (a1_0 : Int) : ev (n + 1) 45 [(.v (.int .i64 a0_0)), (.v (.int .i64 a1_0))] =
  cond (ltI a0_0 0)
   (some [(.v (.int .i64 (-1)))])
   (cond (leI 6 a0_0)
     (some [(.v (.int .i64 (-1)))])
     (some [(.v (.int .i64 (IntKind.wrap .i64 ((IntKind.wrap .i64 ((IntKind.wrap .i64 (6 + (IntKind.wrap .i64 (a0_0 * 15)))) * 8)) + a1_0))))])) := by kernel_rfl
-- "bodega/layout.isLines"
theorem ev46 (n : Nat) (a0_0 : Int) : ev (n + 1) 46 [(.v (.int .i64 a0_0))] =
  cond (leI 98 a0_0)
   (some [(.v (.bool (leI a0_0 256)))])
   (some [(.v (.bool false))]) := by kernel_rfl
end Go.Proofs.Ytniocbmadbaojaa
