/- The functions of the chapter, as the evaluator has them. -/
import Derived.Test.YthihfpcleejjfaaRows
import Derived.Test.YthihfpcleejjfaaEv38
namespace Go.Proofs.Ythihfpcleejjfaa
open Go.Ev

def cfg : Cfg := { rw := fun _ => [], dat := fun _ => true, inl := fun _ => false, roll := fun _ => 0 }
noncomputable def ev (n : Nat) (f : FuncId) (args : List AV) : Option (List AV) := evF Try.prog cfg n f args
noncomputable def lp (m n f k nr : Nat) (s : St) : Option LR := lpF Try.prog cfg m n f k nr s

-- "bodega/bodegahand.Pick"
theorem ev9 (n : Nat) (a0_0 : Int) (a1_0 : Int) : ev (n + 1) 9 [(.v (.int .i64 a0_0)), (.v (.int .i64 a1_0))] =
  cond (ltI a1_0 1)
   (some [(.v (.int .i64 0))])
   (cond (eqI a1_0 0)
     (none)
     (cond (eqI a1_0 0)
       (none)
       (some [(.v (.int .i64 (Int.tmod (IntKind.wrap .i64 ((Int.tmod a0_0 a1_0) + a1_0)) a1_0)))]))) := by kernel_rfl
-- "bodega/record.Origin"
theorem ev10 (n : Nat) (a0_0 : Int) : ev (n + 1) 10 [(.v (.int .u64 a0_0))] =
  cond (ltI (IntKind.wrap .i64 ((IntKind.wrap .i64 (bits .and .u64 a0_0 255)) - 1)) 0)
   (some [(.v (.int .i64 0)), (.v (.int .i64 0)), (.v (.bool false))])
   ((ev n 13 [(.v (.int .i64 (IntKind.wrap .i64 ((IntKind.wrap .i64 (bits .and .u64 a0_0 255)) - 1)))), (.v (.int .i64 (IntKind.wrap .i64 (Int.fdiv a0_0 (2 ^ 8)))))]).bind fun r0 =>
    cond (isI .u64 (cellAt r0 0))
     (cond ((avInt (cellAt r0 0)) == 0)
       (some [(.v (.int .i64 0)), (.v (.int .i64 0)), (.v (.bool false))])
       (some [(.v (.int .i64 (IntKind.wrap .i64 ((IntKind.wrap .i64 (bits .and .u64 a0_0 255)) - 1)))), (.v (.int .i64 (IntKind.wrap .i64 (Int.fdiv a0_0 (2 ^ 8))))), (.v (.bool true))]))
     (none)) := by kernel_rfl
-- "bodega/bodegaref19.Origin"
theorem ev11 (n : Nat) (a0_0 : Int) : ev (n + 1) 11 [(.v (.int .u64 a0_0))] =
  cond (leI 1073741824 (IntKind.wrap .u64 (Int.tdiv a0_0 256)))
   (some [(.v (.int .i64 0)), (.v (.int .i64 0)), (.v (.bool false))])
   ((ev n 14 [(.v (.int .i64 (IntKind.wrap .i64 ((IntKind.wrap .i64 (Int.tmod a0_0 256)) - 1)))), (.v (.int .i64 (IntKind.wrap .i64 (IntKind.wrap .u64 (Int.tdiv a0_0 256)))))]).bind fun r0 =>
    cond (isI .u64 (cellAt r0 0))
     (cond ((avInt (cellAt r0 0)) == 0)
       (some [(.v (.int .i64 0)), (.v (.int .i64 0)), (.v (.bool false))])
       (some [(.v (.int .i64 (IntKind.wrap .i64 ((IntKind.wrap .i64 (Int.tmod a0_0 256)) - 1)))), (.v (.int .i64 (IntKind.wrap .i64 (IntKind.wrap .u64 (Int.tdiv a0_0 256))))), (.v (.bool true))]))
     (none)) := by kernel_rfl
-- "bodega/bodegalaw21.awake"
theorem ev12 (n : Nat)  : ev (n + 1) 12 [] =
  (ev n 13 [(.v (.int .i64 2)), (.v (.int .i64 5))]).bind fun r0 =>
  cond (isI .u64 (cellAt r0 0))
   (some [(.v (.bool ((avInt (cellAt r0 0)) == 1283)))])
   (none) := by kernel_rfl
-- "bodega/record.Stamp"
theorem ev13 (n : Nat) (a0_0 : Int) (a1_0 : Int) : ev (n + 1) 13 [(.v (.int .i64 a0_0)), (.v (.int .i64 a1_0))] =
  cond (ltI a0_0 0)
   (some [(.v (.int .u64 0))])
   (cond (leI 6 a0_0)
     (some [(.v (.int .u64 0))])
     (cond (ltI a1_0 1)
       (some [(.v (.int .u64 0))])
       (cond (leI 1073741824 a1_0)
         (some [(.v (.int .u64 0))])
         (some [(.v (.int .u64 (bits .or .u64 (IntKind.wrap .u64 ((IntKind.wrap .u64 a1_0) * (2 ^ 8))) (IntKind.wrap .u64 (IntKind.wrap .i64 (a0_0 + 1))))))])))) := by kernel_rfl
-- "bodega/bodegaref19.Stamp"
theorem ev14 (n : Nat) (a0_0 : Int) (a1_0 : Int) : ev (n + 1) 14 [(.v (.int .i64 a0_0)), (.v (.int .i64 a1_0))] =
  cond (ltI a0_0 0)
   (some [(.v (.int .u64 0))])
   (cond (leI 6 a0_0)
     (some [(.v (.int .u64 0))])
     (cond (ltI a1_0 1)
       (some [(.v (.int .u64 0))])
       (cond (leI 1073741824 a1_0)
         (some [(.v (.int .u64 0))])
         (some [(.v (.int .u64 (IntKind.wrap .u64 ((IntKind.wrap .u64 ((IntKind.wrap .u64 ((IntKind.wrap .u64 a1_0) * 256)) + (IntKind.wrap .u64 a0_0))) + 1))))])))) := by kernel_rfl
-- "bodega/bodegalaw21.RecordStamps"
theorem ev3 (n : Nat) (a0_0 : Int) (a1_0 : Int) (a2_0 : Int) (a3_0 : Bool) : ev (n + 1) 3 [(.v (.int .i64 a0_0)), (.v (.int .i64 a1_0)), (.v (.int .u64 a2_0)), (.v (.bool a3_0))] =
  cond a3_0
   ((ev n 9 [(.v (.int .i64 a0_0)), (.v (.int .i64 9))]).bind fun r0 =>
    cond (isI .i64 (cellAt r0 0))
     ((ev n 9 [(.v (.int .i64 a1_0)), (.v (.int .i64 6))]).bind fun r1 =>
      cond (isI .i64 (cellAt r1 0))
       (cond ((leI 0 (avInt (cellAt r1 0))) && (ltI (avInt (cellAt r1 0)) ((6 : Nat) : Int)))
         (cond ((ltN (0 + (Int.toNat (avInt (cellAt r1 0)))) 6) && (isI .i64 (cellAt (lget [[(.v (.int .i64 0))], [(.v (.int .i64 1))], [(.v (.int .i64 2))], [(.v (.int .i64 1073741823))], [(.v (.int .i64 1073741824))], [(.v (.int .i64 (-1)))]] (0 + (Int.toNat (avInt (cellAt r1 0))))) 0)))
           ((ev n 9 [(.v (.int .i64 (IntKind.wrap .i64 (Int.tmod a2_0 9)))), (.v (.int .i64 9))]).bind fun r2 =>
            cond (isI .i64 (cellAt r2 0))
             (cond ((leI 0 (Int.tmod (IntKind.wrap .u64 (Int.tdiv a2_0 9)) 6)) && (ltI (Int.tmod (IntKind.wrap .u64 (Int.tdiv a2_0 9)) 6) ((6 : Nat) : Int)))
               (cond ((ltN (0 + (Int.toNat (Int.tmod (IntKind.wrap .u64 (Int.tdiv a2_0 9)) 6))) 6) && (isI .u64 (cellAt (lget [[(.v (.int .u64 0))], [(.v (.int .u64 1))], [(.v (.int .u64 1073741823))], [(.v (.int .u64 1073741824))], [(.v (.int .u64 1099511627776))], [(.v (.int .u64 72057594037927935))]] (0 + (Int.toNat (Int.tmod (IntKind.wrap .u64 (Int.tdiv a2_0 9)) 6)))) 0)))
                 ((ev n 10 [(.v (.int .u64 (IntKind.wrap .u64 ((IntKind.wrap .u64 (avInt (cellAt r2 0))) + (IntKind.wrap .u64 (256 * (avInt (cellAt (lget [[(.v (.int .u64 0))], [(.v (.int .u64 1))], [(.v (.int .u64 1073741823))], [(.v (.int .u64 1073741824))], [(.v (.int .u64 1099511627776))], [(.v (.int .u64 72057594037927935))]] (0 + (Int.toNat (Int.tmod (IntKind.wrap .u64 (Int.tdiv a2_0 9)) 6)))) 0))))))))]).bind fun r3 =>
                  cond (isI .i64 (cellAt r3 0))
                   (cond (isI .i64 (cellAt r3 1))
                     (cond (isB (cellAt r3 2))
                       ((ev n 11 [(.v (.int .u64 (IntKind.wrap .u64 ((IntKind.wrap .u64 (avInt (cellAt r2 0))) + (IntKind.wrap .u64 (256 * (avInt (cellAt (lget [[(.v (.int .u64 0))], [(.v (.int .u64 1))], [(.v (.int .u64 1073741823))], [(.v (.int .u64 1073741824))], [(.v (.int .u64 1099511627776))], [(.v (.int .u64 72057594037927935))]] (0 + (Int.toNat (Int.tmod (IntKind.wrap .u64 (Int.tdiv a2_0 9)) 6)))) 0))))))))]).bind fun r4 =>
                        cond (isI .i64 (cellAt r4 0))
                         (cond (isI .i64 (cellAt r4 1))
                           (cond (isB (cellAt r4 2))
                             ((ev n 12 []).bind fun r5 =>
                              cond (isB (cellAt r5 0))
                               (cond (avBool (cellAt r5 0))
                                 ((ev n 13 [(.v (.int .i64 (IntKind.wrap .i64 ((avInt (cellAt r0 0)) - 1)))), (.v (.int .i64 (avInt (cellAt (lget [[(.v (.int .i64 0))], [(.v (.int .i64 1))], [(.v (.int .i64 2))], [(.v (.int .i64 1073741823))], [(.v (.int .i64 1073741824))], [(.v (.int .i64 (-1)))]] (0 + (Int.toNat (avInt (cellAt r1 0))))) 0))))]).bind fun r6 =>
                                  cond (isI .u64 (cellAt r6 0))
                                   ((ev n 14 [(.v (.int .i64 (IntKind.wrap .i64 ((avInt (cellAt r0 0)) - 1)))), (.v (.int .i64 (avInt (cellAt (lget [[(.v (.int .i64 0))], [(.v (.int .i64 1))], [(.v (.int .i64 2))], [(.v (.int .i64 1073741823))], [(.v (.int .i64 1073741824))], [(.v (.int .i64 (-1)))]] (0 + (Int.toNat (avInt (cellAt r1 0))))) 0))))]).bind fun r7 =>
                                    cond (isI .u64 (cellAt r7 0))
                                     (cond ((avInt (cellAt r6 0)) == (avInt (cellAt r7 0)))
                                       (cond ((avInt (cellAt r3 0)) == (avInt (cellAt r4 0)))
                                         (cond ((avInt (cellAt r3 1)) == (avInt (cellAt r4 1)))
                                           (some [(.v (.bool ((avBool (cellAt r3 2)) == (avBool (cellAt r4 2)))))])
                                           (some [(.v (.bool false))]))
                                         (some [(.v (.bool false))]))
                                       (some [(.v (.bool false))]))
                                     (none))
                                   (none))
                                 (some [(.v (.bool false))]))
                               (none))
                             (none))
                           (none))
                         (none))
                       (none))
                     (none))
                   (none))
                 (none))
               (none))
             (none))
           (none))
         (none))
       (none))
     (none))
   ((ev n 10 [(.v (.int .u64 a2_0))]).bind fun r8 =>
    cond (isI .i64 (cellAt r8 0))
     (cond (isI .i64 (cellAt r8 1))
       (cond (isB (cellAt r8 2))
         ((ev n 11 [(.v (.int .u64 a2_0))]).bind fun r9 =>
          cond (isI .i64 (cellAt r9 0))
           (cond (isI .i64 (cellAt r9 1))
             (cond (isB (cellAt r9 2))
               ((ev n 12 []).bind fun r10 =>
                cond (isB (cellAt r10 0))
                 (cond (avBool (cellAt r10 0))
                   ((ev n 13 [(.v (.int .i64 a0_0)), (.v (.int .i64 a1_0))]).bind fun r11 =>
                    cond (isI .u64 (cellAt r11 0))
                     ((ev n 14 [(.v (.int .i64 a0_0)), (.v (.int .i64 a1_0))]).bind fun r12 =>
                      cond (isI .u64 (cellAt r12 0))
                       (cond ((avInt (cellAt r11 0)) == (avInt (cellAt r12 0)))
                         (cond ((avInt (cellAt r8 0)) == (avInt (cellAt r9 0)))
                           (cond ((avInt (cellAt r8 1)) == (avInt (cellAt r9 1)))
                             (some [(.v (.bool ((avBool (cellAt r8 2)) == (avBool (cellAt r9 2)))))])
                             (some [(.v (.bool false))]))
                           (some [(.v (.bool false))]))
                         (some [(.v (.bool false))]))
                       (none))
                     (none))
                   (some [(.v (.bool false))]))
                 (none))
               (none))
             (none))
           (none))
         (none))
       (none))
     (none)) := by kernel_rfl
-- "bodega/bodegalaw21.RecordUnique"
theorem ev4 (n : Nat) (a0_0 : Int) (a1_0 : Int) (a2_0 : Int) (a3_0 : Int) : ev (n + 1) 4 [(.v (.int .i64 a0_0)), (.v (.int .i64 a1_0)), (.v (.int .i64 a2_0)), (.v (.int .i64 a3_0))] =
  (ev n 9 [(.v (.int .i64 a0_0)), (.v (.int .i64 6))]).bind fun r0 =>
  cond (isI .i64 (cellAt r0 0))
   ((ev n 9 [(.v (.int .i64 a1_0)), (.v (.int .i64 6))]).bind fun r1 =>
    cond (isI .i64 (cellAt r1 0))
     ((ev n 9 [(.v (.int .i64 a2_0)), (.v (.int .i64 1073741823))]).bind fun r2 =>
      cond (isI .i64 (cellAt r2 0))
       ((ev n 9 [(.v (.int .i64 a3_0)), (.v (.int .i64 1073741823))]).bind fun r3 =>
        cond (isI .i64 (cellAt r3 0))
         ((ev n 13 [(.v (.int .i64 (avInt (cellAt r0 0)))), (.v (.int .i64 (IntKind.wrap .i64 ((avInt (cellAt r2 0)) + 1))))]).bind fun r4 =>
          cond (isI .u64 (cellAt r4 0))
           ((ev n 13 [(.v (.int .i64 (avInt (cellAt r1 0)))), (.v (.int .i64 (IntKind.wrap .i64 ((avInt (cellAt r3 0)) + 1))))]).bind fun r5 =>
            cond (isI .u64 (cellAt r5 0))
             ((ev n 10 [(.v (.int .u64 (avInt (cellAt r4 0))))]).bind fun r6 =>
              cond (isI .i64 (cellAt r6 0))
               (cond (isI .i64 (cellAt r6 1))
                 (cond (isB (cellAt r6 2))
                   ((ev n 12 []).bind fun r7 =>
                    cond (isB (cellAt r7 0))
                     (cond (avBool (cellAt r7 0))
                       (cond (!((avInt (cellAt r4 0)) == 0))
                         (cond (!((avInt (cellAt r5 0)) == 0))
                           (cond ((avInt (cellAt r0 0)) == (avInt (cellAt r1 0)))
                             (cond (((avInt (cellAt r4 0)) == (avInt (cellAt r5 0))) == ((IntKind.wrap .i64 ((avInt (cellAt r2 0)) + 1)) == (IntKind.wrap .i64 ((avInt (cellAt r3 0)) + 1))))
                               (cond (avBool (cellAt r6 2))
                                 (cond ((avInt (cellAt r6 0)) == (avInt (cellAt r0 0)))
                                   (cond ((avInt (cellAt r6 1)) == (IntKind.wrap .i64 ((avInt (cellAt r2 0)) + 1)))
                                     (cond (!((avInt (cellAt r0 0)) == (avInt (cellAt r1 0))))
                                       (some [(.v (.bool true))])
                                       (some [(.v (.bool ((ltI (avInt (cellAt r4 0)) (avInt (cellAt r5 0))) == (ltI (IntKind.wrap .i64 ((avInt (cellAt r2 0)) + 1)) (IntKind.wrap .i64 ((avInt (cellAt r3 0)) + 1))))))]))
                                     (some [(.v (.bool false))]))
                                   (some [(.v (.bool false))]))
                                 (some [(.v (.bool false))]))
                               (some [(.v (.bool false))]))
                             (cond (((avInt (cellAt r4 0)) == (avInt (cellAt r5 0))) == false)
                               (cond (avBool (cellAt r6 2))
                                 (cond ((avInt (cellAt r6 0)) == (avInt (cellAt r0 0)))
                                   (cond ((avInt (cellAt r6 1)) == (IntKind.wrap .i64 ((avInt (cellAt r2 0)) + 1)))
                                     (cond (!((avInt (cellAt r0 0)) == (avInt (cellAt r1 0))))
                                       (some [(.v (.bool true))])
                                       (some [(.v (.bool ((ltI (avInt (cellAt r4 0)) (avInt (cellAt r5 0))) == (ltI (IntKind.wrap .i64 ((avInt (cellAt r2 0)) + 1)) (IntKind.wrap .i64 ((avInt (cellAt r3 0)) + 1))))))]))
                                     (some [(.v (.bool false))]))
                                   (some [(.v (.bool false))]))
                                 (some [(.v (.bool false))]))
                               (some [(.v (.bool false))])))
                           (some [(.v (.bool false))]))
                         (some [(.v (.bool false))]))
                       (some [(.v (.bool false))]))
                     (none))
                   (none))
                 (none))
               (none))
             (none))
           (none))
         (none))
       (none))
     (none))
   (none) := by kernel_rfl
end Go.Proofs.Ythihfpcleejjfaa
