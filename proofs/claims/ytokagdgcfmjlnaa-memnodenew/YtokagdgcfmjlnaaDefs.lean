/- The functions of the chapter, as the evaluator has them. -/
import Derived.Test.YtokagdgcfmjlnaaRows
import Derived.Test.YtokagdgcfmjlnaaEv38
set_option linter.all false
namespace Go.Proofs.Ytokagdgcfmjlnaa
open Go.Ev

def rwF : FuncId → List Bool
  | 14 => [true, true] | 15 => [true] | 16 => [true] | 17 => [true] | 18 => [true] | 20 => [true] | 31 => [true, true] | 32 => [true] | 34 => [true] | _ => []
def datF : FuncId → Bool
  | 34 => false | 29 => false | _ => true
def cfg : Cfg := { rw := rwF, dat := datF, inl := fun _ => false, roll := fun _ => 0, join := fun _ => true }
noncomputable def ev (n : Nat) (f : FuncId) (args : List AV) : Option (List AV) := evF Try.prog cfg n f args
noncomputable def lp (m n f k nr : Nat) (s : St) : Option LR := lpF Try.prog cfg m n f k nr s

-- "bodega/bodegalaw3.MemnodeNew"
theorem ev3 (n : Nat) (a0_0 : Int) : ev (n + 1) 3 [(.v (.int .i64 a0_0))] =
  (((ev n 8 [(.v (.int .i64 a0_0)), (.v (.int .i64 3))]).bind fun r0 =>
      cond (isI .i64 (cellAt r0 0))
       (cond (ltI 0 (avInt (cellAt r0 0)))
         (some ⟨(some 1000001), ⟨[(0, (.v (.int .i64 a0_0))), (14, (.v (.bool (ltI 300 a0_0))))], []⟩, []⟩)
         (some ⟨(some 1000001), ⟨[(0, (.v (.int .i64 a0_0))), (14, (.v (.bool false)))], []⟩, []⟩))
       (none)).bind fun j4 =>
    cond (isEx 1000001 j4)
     (cond (likeStG ⟨[(0, (.v (.int .i64 a0_0))), (14, (.v (.bool false)))], []⟩ j4.st)
       (cond (avBool (frAt j4.st.fr 1).2)
         (some ⟨(some 1000001), ⟨[(0, (.v (.int .i64 (Int.tmod (avInt (frAt j4.st.fr 0).2) 300))))], []⟩, []⟩)
         (some ⟨(some 1000001), ⟨[(0, (.v (.int .i64 (avInt (frAt j4.st.fr 0).2))))], []⟩, []⟩))
       (none))
     (cond (isRt j4)
       (some ⟨none, ⟨[], []⟩, j4.outs⟩)
       (none))).bind fun j8 =>
  cond (isEx 1000001 j8)
   (cond (likeStG ⟨[(0, (.v (.int .i64 a0_0)))], []⟩ j8.st)
     ((ev n 9 [(.v (.int .i64 (avInt (frAt j8.st.fr 0).2)))]).bind fun r10 =>
      cond (isNP (cellAt r10 0))
       (cond (isI .i64 (cellAt r10 1))
         (((cond (ltI (avInt (frAt j8.st.fr 0).2) 1)
               (some ⟨(some 1000001), ⟨[(0, (.v (.int .i64 (avInt (frAt j8.st.fr 0).2)))), (3, (.v (.pointer none))), (4, (.v (.int .i64 (avInt (cellAt r10 1))))), (27, (.v (.bool true)))], []⟩, []⟩)
               (some ⟨(some 1000001), ⟨[(0, (.v (.int .i64 (avInt (frAt j8.st.fr 0).2)))), (3, (.v (.pointer none))), (4, (.v (.int .i64 (avInt (cellAt r10 1))))), (27, (.v (.bool (ltI 256 (avInt (frAt j8.st.fr 0).2)))))], []⟩, []⟩)).bind fun j14 =>
            cond (isEx 1000001 j14)
             (cond (likeStG ⟨[(0, (.v (.int .i64 (avInt (frAt j8.st.fr 0).2)))), (3, (.v (.pointer none))), (4, (.v (.int .i64 (avInt (cellAt r10 1))))), (27, (.v (.bool false)))], []⟩ j14.st)
               (cond (avBool (frAt j14.st.fr 3).2)
                 ((ev n 10 []).bind fun r18 =>
                  cond (isB (cellAt r18 0))
                   (cond (avBool (cellAt r18 0))
                     (some ⟨none, ⟨[], []⟩, [(.v (.bool ((avInt (frAt j14.st.fr 2).2) == 2)))]⟩)
                     (some ⟨none, ⟨[], []⟩, [(.v (.bool false))]⟩))
                   (none))
                 (some ⟨(some 1000001), ⟨[(0, (.v (.int .i64 (avInt (frAt j14.st.fr 0).2)))), (3, (.v (.pointer none))), (4, (.v (.int .i64 (avInt (frAt j14.st.fr 2).2))))], []⟩, []⟩))
               (none))
             (cond (isRt j14)
               (some ⟨none, ⟨[], []⟩, j14.outs⟩)
               (none))).bind fun j21 =>
          cond (isEx 1000001 j21)
           (cond (likeStG ⟨[(0, (.v (.int .i64 (avInt (frAt j8.st.fr 0).2)))), (3, (.v (.pointer none))), (4, (.v (.int .i64 (avInt (cellAt r10 1)))))], []⟩ j21.st)
             (((some ⟨(some 1000001), ⟨[(0, (.v (.int .i64 (avInt (frAt j21.st.fr 0).2)))), (3, (.v (.pointer none))), (4, (.v (.int .i64 (avInt (frAt j21.st.fr 2).2)))), (42, (.v (.bool true)))], []⟩, []⟩).bind fun j24 =>
                cond (isEx 1000001 j24)
                 (cond (likeStG ⟨[(0, (.v (.int .i64 (avInt (frAt j21.st.fr 0).2)))), (3, (.v (.pointer none))), (4, (.v (.int .i64 (avInt (frAt j21.st.fr 2).2)))), (42, (.v (.bool false)))], []⟩ j24.st)
                   (cond (avBool (frAt j24.st.fr 3).2)
                     (some ⟨none, ⟨[], []⟩, [(.v (.bool false))]⟩)
                     (some ⟨(some 1000001), ⟨[(0, (.v (.int .i64 (avInt (frAt j24.st.fr 0).2)))), (3, (.v (.pointer none))), (4, (.v (.int .i64 (avInt (frAt j24.st.fr 2).2))))], []⟩, []⟩))
                   (none))
                 (cond (isRt j24)
                   (some ⟨none, ⟨[], []⟩, j24.outs⟩)
                   (none))).bind fun j28 =>
              cond (isEx 1000001 j28)
               (cond (likeStG ⟨[(0, (.v (.int .i64 (avInt (frAt j21.st.fr 0).2)))), (3, (.v (.pointer none))), (4, (.v (.int .i64 (avInt (frAt j21.st.fr 2).2))))], []⟩ j28.st)
                 ((ev n 11 [(.v (.pointer none)), (.v (.int .i64 0)), (.v (.int .i64 (IntKind.wrap .i64 ((avInt (frAt j28.st.fr 0).2) * 8))))]).bind fun r32 =>
                  cond (isL 1 (cellAt r32 0))
                   (cond (isI .i64 (cellAt r32 1))
                     ((lp n n 3 0 0 ⟨[(0, (.v (.int .i64 (avInt (frAt j28.st.fr 0).2)))), (3, (.v (.pointer none))), (4, (.v (.int .i64 (avInt (frAt j28.st.fr 2).2)))), (5, (.lst (avNil (cellAt r32 0)) 1 (avXs (cellAt r32 0)))), (6, (.v (.int .i64 (avInt (cellAt r32 1))))), (7, (.v (.int .i64 0)))], []⟩).bind fun r36 =>
                      cond (isEx 0 r36)
                       (cond (likeStG ⟨[(0, (.v (.int .i64 (avInt (frAt j28.st.fr 0).2)))), (3, (.v (.pointer none))), (4, (.v (.int .i64 (avInt (frAt j28.st.fr 2).2)))), (5, (.lst (avNil (cellAt r32 0)) 1 (avXs (cellAt r32 0)))), (6, (.v (.int .i64 (avInt (cellAt r32 1)))))], []⟩ r36.st)
                         (cond ((avInt (frAt r36.st.fr 2).2) == 0)
                           (cond ((avInt (frAt r36.st.fr 4).2) == 0)
                             (cond ((((List.length (avXs (frAt r36.st.fr 3).2)) : Nat) : Int) == (IntKind.wrap .i64 ((avInt (frAt r36.st.fr 0).2) * 8)))
                               ((ev n 12 [(.v (.pointer none))]).bind fun r47 =>
                                cond (isI .u64 (cellAt r47 0))
                                 (some [(.v (.bool ((avInt (cellAt r47 0)) == 0)))])
                                 (none))
                               (some [(.v (.bool false))]))
                             (some [(.v (.bool false))]))
                           (some [(.v (.bool false))]))
                         (none))
                       (cond (isRt r36)
                         (some r36.outs)
                         (none)))
                     (none))
                   (none))
                 (none))
               (cond (isRt j28)
                 (some j28.outs)
                 (none)))
             (none))
           (cond (isRt j21)
             (some j21.outs)
             (none)))
         (none))
       (cond (((isOb 60 (cellAt r10 0)) && (Nat.beq (List.length (obCells (cellAt r10 0))) 2)) && ((isOw 31 1 (cellAt (obCells (cellAt r10 0)) 0)) && (isB (cellAt (obCells (cellAt r10 0)) 1))))
         (cond (isI .i64 (cellAt r10 1))
           (((cond (ltI (avInt (frAt j8.st.fr 0).2) 1)
                 (some ⟨(some 1000001), ⟨[(0, (.v (.int .i64 (avInt (frAt j8.st.fr 0).2)))), (3, (.ptr 0 0 0)), (4, (.v (.int .i64 (avInt (cellAt r10 1))))), (27, (.v (.bool true)))], [⟨1, 60, 2, true, [[(.sl (avNil (cellAt (obCells (cellAt r10 0)) 0)) 1 0 none), (.v (.bool (avBool (cellAt (obCells (cellAt r10 0)) 1))))]]⟩, ⟨1, 31, 1, false, (avXs (cellAt (obCells (cellAt r10 0)) 0))⟩]⟩, []⟩)
                 (some ⟨(some 1000001), ⟨[(0, (.v (.int .i64 (avInt (frAt j8.st.fr 0).2)))), (3, (.ptr 0 0 0)), (4, (.v (.int .i64 (avInt (cellAt r10 1))))), (27, (.v (.bool (ltI 256 (avInt (frAt j8.st.fr 0).2)))))], [⟨1, 60, 2, true, [[(.sl (avNil (cellAt (obCells (cellAt r10 0)) 0)) 1 0 none), (.v (.bool (avBool (cellAt (obCells (cellAt r10 0)) 1))))]]⟩, ⟨1, 31, 1, false, (avXs (cellAt (obCells (cellAt r10 0)) 0))⟩]⟩, []⟩)).bind fun j56 =>
              cond (isEx 1000001 j56)
               (cond (likeStG ⟨[(0, (.v (.int .i64 (avInt (frAt j8.st.fr 0).2)))), (3, (.ptr 0 0 0)), (4, (.v (.int .i64 (avInt (cellAt r10 1))))), (27, (.v (.bool false)))], [⟨1, 60, 2, true, [[(.sl (avNil (cellAt (obCells (cellAt r10 0)) 0)) 1 0 none), (.v (.bool (avBool (cellAt (obCells (cellAt r10 0)) 1))))]]⟩, ⟨1, 31, 1, false, (avXs (cellAt (obCells (cellAt r10 0)) 0))⟩]⟩ j56.st)
                 (cond (avBool (frAt j56.st.fr 3).2)
                   ((ev n 10 []).bind fun r63 =>
                    cond (isB (cellAt r63 0))
                     (cond (avBool (cellAt r63 0))
                       (some ⟨none, ⟨[], []⟩, [(.v (.bool false))]⟩)
                       (some ⟨none, ⟨[], []⟩, [(.v (.bool false))]⟩))
                     (none))
                   (some ⟨(some 1000001), ⟨[(0, (.v (.int .i64 (avInt (frAt j56.st.fr 0).2)))), (3, (.ptr 0 0 0)), (4, (.v (.int .i64 (avInt (frAt j56.st.fr 2).2))))], [⟨1, 60, 2, true, [[(.sl (avNil (cellAt (lget (blAt j56.st.bl 0).xs 0) 0)) 1 0 none), (.v (.bool (avBool (cellAt (lget (blAt j56.st.bl 0).xs 0) 1))))]]⟩, ⟨1, 31, 1, false, (blAt j56.st.bl 1).xs⟩]⟩, []⟩))
                 (none))
               (cond (isRt j56)
                 (some ⟨none, ⟨[], []⟩, j56.outs⟩)
                 (none))).bind fun j65 =>
            cond (isEx 1000001 j65)
             (cond (likeStG ⟨[(0, (.v (.int .i64 (avInt (frAt j8.st.fr 0).2)))), (3, (.ptr 0 0 0)), (4, (.v (.int .i64 (avInt (cellAt r10 1)))))], [⟨1, 60, 2, true, [[(.sl (avNil (cellAt (obCells (cellAt r10 0)) 0)) 1 0 none), (.v (.bool (avBool (cellAt (obCells (cellAt r10 0)) 1))))]]⟩, ⟨1, 31, 1, false, (avXs (cellAt (obCells (cellAt r10 0)) 0))⟩]⟩ j65.st)
               ((((ev n 10 []).bind fun r71 =>
                    cond (isB (cellAt r71 0))
                     (some ⟨(some 1000001), ⟨[(0, (.v (.int .i64 (avInt (frAt j65.st.fr 0).2)))), (3, (.ptr 0 0 0)), (4, (.v (.int .i64 (avInt (frAt j65.st.fr 2).2)))), (42, (.v (.bool (!(avBool (cellAt r71 0))))))], [⟨1, 60, 2, true, [[(.sl (avNil (cellAt (lget (blAt j65.st.bl 0).xs 0) 0)) 1 0 none), (.v (.bool (avBool (cellAt (lget (blAt j65.st.bl 0).xs 0) 1))))]]⟩, ⟨1, 31, 1, false, (blAt j65.st.bl 1).xs⟩]⟩, []⟩)
                     (none)).bind fun j74 =>
                  cond (isEx 1000001 j74)
                   (cond (likeStG ⟨[(0, (.v (.int .i64 (avInt (frAt j65.st.fr 0).2)))), (3, (.ptr 0 0 0)), (4, (.v (.int .i64 (avInt (frAt j65.st.fr 2).2)))), (42, (.v (.bool false)))], [⟨1, 60, 2, true, [[(.sl (avNil (cellAt (lget (blAt j65.st.bl 0).xs 0) 0)) 1 0 none), (.v (.bool (avBool (cellAt (lget (blAt j65.st.bl 0).xs 0) 1))))]]⟩, ⟨1, 31, 1, false, (blAt j65.st.bl 1).xs⟩]⟩ j74.st)
                     (cond (avBool (frAt j74.st.fr 3).2)
                       (some ⟨none, ⟨[], []⟩, [(.v (.bool false))]⟩)
                       (some ⟨(some 1000001), ⟨[(0, (.v (.int .i64 (avInt (frAt j74.st.fr 0).2)))), (3, (.ptr 0 0 0)), (4, (.v (.int .i64 (avInt (frAt j74.st.fr 2).2))))], [⟨1, 60, 2, true, [[(.sl (avNil (cellAt (lget (blAt j74.st.bl 0).xs 0) 0)) 1 0 none), (.v (.bool (avBool (cellAt (lget (blAt j74.st.bl 0).xs 0) 1))))]]⟩, ⟨1, 31, 1, false, (blAt j74.st.bl 1).xs⟩]⟩, []⟩))
                     (none))
                   (cond (isRt j74)
                     (some ⟨none, ⟨[], []⟩, j74.outs⟩)
                     (none))).bind fun j81 =>
                cond (isEx 1000001 j81)
                 (cond (likeStG ⟨[(0, (.v (.int .i64 (avInt (frAt j65.st.fr 0).2)))), (3, (.ptr 0 0 0)), (4, (.v (.int .i64 (avInt (frAt j65.st.fr 2).2))))], [⟨1, 60, 2, true, [[(.sl (avNil (cellAt (lget (blAt j65.st.bl 0).xs 0) 0)) 1 0 none), (.v (.bool (avBool (cellAt (lget (blAt j65.st.bl 0).xs 0) 1))))]]⟩, ⟨1, 31, 1, false, (blAt j65.st.bl 1).xs⟩]⟩ j81.st)
                   ((ev n 11 [(.ep [(.lst (avNil (cellAt (lget (blAt j81.st.bl 0).xs 0) 0)) 1 (blAt j81.st.bl 1).xs), (.v (.bool (avBool (cellAt (lget (blAt j81.st.bl 0).xs 0) 1))))] 0), (.v (.int .i64 0)), (.v (.int .i64 (IntKind.wrap .i64 ((avInt (frAt j81.st.fr 0).2) * 8))))]).bind fun r88 =>
                    cond (isL 1 (cellAt r88 0))
                     (cond (isI .i64 (cellAt r88 1))
                       ((lp n n 3 0 0 ⟨[(0, (.v (.int .i64 (avInt (frAt j81.st.fr 0).2)))), (3, (.ptr 0 0 0)), (4, (.v (.int .i64 (avInt (frAt j81.st.fr 2).2)))), (5, (.lst (avNil (cellAt r88 0)) 1 (avXs (cellAt r88 0)))), (6, (.v (.int .i64 (avInt (cellAt r88 1))))), (7, (.v (.int .i64 0)))], [⟨2, 60, 2, true, [[(.sl (avNil (cellAt (lget (blAt j81.st.bl 0).xs 0) 0)) 1 0 none), (.v (.bool (avBool (cellAt (lget (blAt j81.st.bl 0).xs 0) 1))))]]⟩, ⟨2, 31, 1, false, (blAt j81.st.bl 1).xs⟩]⟩).bind fun r93 =>
                        cond (isEx 0 r93)
                         (cond (likeStG ⟨[(0, (.v (.int .i64 (avInt (frAt j81.st.fr 0).2)))), (3, (.ptr 0 0 0)), (4, (.v (.int .i64 (avInt (frAt j81.st.fr 2).2)))), (5, (.lst (avNil (cellAt r88 0)) 1 (avXs (cellAt r88 0)))), (6, (.v (.int .i64 (avInt (cellAt r88 1)))))], [⟨2, 60, 2, true, [[(.sl (avNil (cellAt (lget (blAt j81.st.bl 0).xs 0) 0)) 1 0 none), (.v (.bool (avBool (cellAt (lget (blAt j81.st.bl 0).xs 0) 1))))]]⟩, ⟨2, 31, 1, false, (blAt j81.st.bl 1).xs⟩]⟩ r93.st)
                           (cond ((avInt (frAt r93.st.fr 2).2) == 0)
                             (cond ((avInt (frAt r93.st.fr 4).2) == 0)
                               (cond ((((List.length (avXs (frAt r93.st.fr 3).2)) : Nat) : Int) == (IntKind.wrap .i64 ((avInt (frAt r93.st.fr 0).2) * 8)))
                                 ((ev n 12 [(.ep [(.lst (avNil (cellAt (lget (blAt r93.st.bl 0).xs 0) 0)) 1 (blAt r93.st.bl 1).xs), (.v (.bool (avBool (cellAt (lget (blAt r93.st.bl 0).xs 0) 1))))] 0)]).bind fun r107 =>
                                  cond (isI .u64 (cellAt r107 0))
                                   (some [(.v (.bool ((avInt (cellAt r107 0)) == 0)))])
                                   (none))
                                 (some [(.v (.bool false))]))
                               (some [(.v (.bool false))]))
                             (some [(.v (.bool false))]))
                           (none))
                         (cond (isRt r93)
                           (some r93.outs)
                           (none)))
                       (none))
                     (none))
                   (none))
                 (cond (isRt j81)
                   (some j81.outs)
                   (none)))
               (none))
             (cond (isRt j65)
               (some j65.outs)
               (none)))
           (none))
         (none)))
     (none))
   (cond (isRt j8)
     (some j8.outs)
     (none)) := by kernel_rfl
theorem lp3_0 (m n : Nat) (x0 : Int) (x4 : Int) (x5n : Bool) (x5 : List (List AV)) (x6 : Int) (x7 : Int) : lp m (n + 1) 3 0 0 ⟨[(0, (.v (.int .i64 x0))), (3, (.v (.pointer none))), (4, (.v (.int .i64 x4))), (5, (.lst x5n 1 x5)), (6, (.v (.int .i64 x6))), (7, (.v (.int .i64 x7)))], []⟩ =
  cond (ltI x7 (((List.length x5) : Nat) : Int))
   (cond ((leI 0 x7) && (ltI x7 (((List.length x5) : Nat) : Int)))
     (cond (isI .u64 (cellAt (lget x5 (Int.toNat x7)) 0))
       (cond (!((avInt (cellAt (lget x5 (Int.toNat x7)) 0)) == 0))
         (some ⟨none, ⟨[], []⟩, [(.v (.bool false))]⟩)
         (lp m n 3 0 0 ⟨[(0, (.v (.int .i64 x0))), (3, (.v (.pointer none))), (4, (.v (.int .i64 x4))), (5, (.lst x5n 1 x5)), (6, (.v (.int .i64 x6))), (7, (.v (.int .i64 (IntKind.wrap .i64 (x7 + 1)))))], []⟩))
       (none))
     (none))
   (some ⟨(some 0), ⟨[(0, (.v (.int .i64 x0))), (3, (.v (.pointer none))), (4, (.v (.int .i64 x4))), (5, (.lst x5n 1 x5)), (6, (.v (.int .i64 x6)))], []⟩, []⟩) := by kernel_rfl
theorem lp3_0b (m n : Nat) (x0 : Int) (x4 : Int) (x5n : Bool) (x5 : List (List AV)) (x6 : Int) (x7 : Int) (b0_0n : Bool) (b0_1 : Bool) (b1 : List (List AV)) : lp m (n + 1) 3 0 0 ⟨[(0, (.v (.int .i64 x0))), (3, (.ptr 0 0 0)), (4, (.v (.int .i64 x4))), (5, (.lst x5n 1 x5)), (6, (.v (.int .i64 x6))), (7, (.v (.int .i64 x7)))], [⟨2, 60, 2, true, [[(.sl b0_0n 1 0 none), (.v (.bool b0_1))]]⟩, ⟨2, 31, 1, false, b1⟩]⟩ =
  cond (ltI x7 (((List.length x5) : Nat) : Int))
   (cond ((leI 0 x7) && (ltI x7 (((List.length x5) : Nat) : Int)))
     (cond (isI .u64 (cellAt (lget x5 (Int.toNat x7)) 0))
       (cond (!((avInt (cellAt (lget x5 (Int.toNat x7)) 0)) == 0))
         (some ⟨none, ⟨[], []⟩, [(.v (.bool false))]⟩)
         (lp m n 3 0 0 ⟨[(0, (.v (.int .i64 x0))), (3, (.ptr 0 0 0)), (4, (.v (.int .i64 x4))), (5, (.lst x5n 1 x5)), (6, (.v (.int .i64 x6))), (7, (.v (.int .i64 (IntKind.wrap .i64 (x7 + 1)))))], [⟨2, 60, 2, true, [[(.sl b0_0n 1 0 none), (.v (.bool b0_1))]]⟩, ⟨2, 31, 1, false, b1⟩]⟩))
       (none))
     (none))
   (some ⟨(some 0), ⟨[(0, (.v (.int .i64 x0))), (3, (.ptr 0 0 0)), (4, (.v (.int .i64 x4))), (5, (.lst x5n 1 x5)), (6, (.v (.int .i64 x6)))], [⟨2, 60, 2, true, [[(.sl b0_0n 1 0 none), (.v (.bool b0_1))]]⟩, ⟨2, 31, 1, false, b1⟩]⟩, []⟩) := by kernel_rfl
-- "bodega/bodegahand.Pick"
theorem ev8 (n : Nat) (a0_0 : Int) (a1_0 : Int) : ev (n + 1) 8 [(.v (.int .i64 a0_0)), (.v (.int .i64 a1_0))] =
  cond (ltI a1_0 1)
   (some [(.v (.int .i64 0))])
   (cond (eqI a1_0 0)
     (none)
     (cond (eqI a1_0 0)
       (none)
       (some [(.v (.int .i64 (Int.tmod (IntKind.wrap .i64 ((Int.tmod a0_0 a1_0) + a1_0)) a1_0)))]))) := by kernel_rfl
-- "bodega/memnode.New"
theorem ev9 (n : Nat) (a0_0 : Int) : ev (n + 1) 9 [(.v (.int .i64 a0_0))] =
  (cond (ltI a0_0 1)
     (some ⟨(some 1000001), ⟨[(0, (.v (.int .i64 a0_0))), (9, (.v (.bool true)))], []⟩, []⟩)
     (some ⟨(some 1000001), ⟨[(0, (.v (.int .i64 a0_0))), (9, (.v (.bool (ltI 256 a0_0))))], []⟩, []⟩)).bind fun j0 =>
  cond (isEx 1000001 j0)
   (cond (likeStG ⟨[(0, (.v (.int .i64 a0_0))), (9, (.v (.bool false)))], []⟩ j0.st)
     (cond (avBool (frAt j0.st.fr 1).2)
       (some [(.v (.pointer none)), (.v (.int .i64 2))])
       (cond ((((leI 0 (IntKind.wrap .i64 ((avInt (frAt j0.st.fr 0).2) * 8))) && (leI (IntKind.wrap .i64 ((avInt (frAt j0.st.fr 0).2) * 8)) (IntKind.wrap .i64 ((avInt (frAt j0.st.fr 0).2) * 8)))) && (leI ((IntKind.wrap .i64 ((avInt (frAt j0.st.fr 0).2) * 8)) * ((8 : Nat) : Int)) 281474976710656)) && (leI (IntKind.wrap .i64 ((avInt (frAt j0.st.fr 0).2) * 8)) 281474976710656))
         (some [(.ob 60 [(.ow false 31 1 (List.replicate (Int.toNat (IntKind.wrap .i64 ((avInt (frAt j0.st.fr 0).2) * 8))) [(.v (.int .u64 0))])), (.v (.bool false))]), (.v (.int .i64 0))])
         (none)))
     (none))
   (cond (isRt j0)
     (some j0.outs)
     (none)) := by kernel_rfl
-- "bodega/bodegalaw3.awake"
theorem ev10 (n : Nat)  : ev (n + 1) 10 [] =
  (ev n 9 [(.v (.int .i64 1))]).bind fun r0 =>
  cond (isNP (cellAt r0 0))
   (cond (isI .i64 (cellAt r0 1))
     (((cond (!((avInt (cellAt r0 1)) == 0))
           (some ⟨(some 1000001), ⟨[(1, (.v (.pointer none))), (18, (.v (.bool true)))], []⟩, []⟩)
           (some ⟨(some 1000001), ⟨[(1, (.v (.pointer none))), (18, (.v (.bool true)))], []⟩, []⟩)).bind fun j1 =>
        cond (isEx 1000001 j1)
         (cond (likeStG ⟨[(1, (.v (.pointer none))), (18, (.v (.bool false)))], []⟩ j1.st)
           (cond (avBool (frAt j1.st.fr 1).2)
             (some ⟨none, ⟨[], []⟩, [(.v (.bool false))]⟩)
             (some ⟨(some 1000001), ⟨[(1, (.v (.pointer none)))], []⟩, []⟩))
           (none))
         (cond (isRt j1)
           (some ⟨none, ⟨[], []⟩, j1.outs⟩)
           (none))).bind fun j2 =>
      cond (isEx 1000001 j2)
       (cond (likeStG ⟨[(1, (.v (.pointer none)))], []⟩ j2.st)
         ((ev n 17 [(.v (.pointer none)), (.v (.int .i64 0)), (.v (.int .u64 0)), (.v (.int .u64 5))]).bind fun r3 =>
          cond (isI .u64 (cellAt r3 0))
           (cond (isI .i64 (cellAt r3 1))
             ((ev n 17 [(.v (.pointer none)), (.v (.int .i64 0)), (.v (.int .u64 0)), (.v (.int .u64 6))]).bind fun r4 =>
              cond (isI .u64 (cellAt r4 0))
               (cond (isI .i64 (cellAt r4 1))
                 ((ev n 11 [(.v (.pointer none)), (.v (.int .i64 0)), (.v (.int .i64 1))]).bind fun r5 =>
                  cond (isL 1 (cellAt r5 0))
                   (cond (isI .i64 (cellAt r5 1))
                     (cond ((avInt (cellAt r3 0)) == 0)
                       (cond ((avInt (cellAt r3 1)) == 0)
                         (cond ((avInt (cellAt r4 0)) == 5)
                           (cond ((avInt (cellAt r4 1)) == 0)
                             (cond ((avInt (cellAt r5 1)) == 0)
                               (cond ((((List.length (avXs (cellAt r5 0))) : Nat) : Int) == 1)
                                 (cond (true && (ltI 0 (((List.length (avXs (cellAt r5 0))) : Nat) : Int)))
                                   (cond (isI .u64 (cellAt (lget (avXs (cellAt r5 0)) 0) 0))
                                     (cond ((avInt (cellAt (lget (avXs (cellAt r5 0)) 0) 0)) == 5)
                                       ((ev n 19 [(.v (.pointer none))]).bind fun r6 =>
                                        cond (isB (cellAt r6 0))
                                         (cond (avBool (cellAt r6 0))
                                           ((ev n 22 [(.v (.pointer none))]).bind fun r7 =>
                                            cond (isI .i64 (cellAt r7 0))
                                             (some [(.v (.bool ((avInt (cellAt r7 0)) == 1)))])
                                             (none))
                                           (some [(.v (.bool false))]))
                                         (none))
                                       (some [(.v (.bool false))]))
                                     (none))
                                   (none))
                                 (some [(.v (.bool false))]))
                               (some [(.v (.bool false))]))
                             (some [(.v (.bool false))]))
                           (some [(.v (.bool false))]))
                         (some [(.v (.bool false))]))
                       (some [(.v (.bool false))]))
                     (none))
                   (none))
                 (none))
               (none))
             (none))
           (none))
         (none))
       (cond (isRt j2)
         (some j2.outs)
         (none)))
     (none))
   (cond (((isOb 60 (cellAt r0 0)) && (Nat.beq (List.length (obCells (cellAt r0 0))) 2)) && ((isOw 31 1 (cellAt (obCells (cellAt r0 0)) 0)) && (isB (cellAt (obCells (cellAt r0 0)) 1))))
     (cond (isI .i64 (cellAt r0 1))
       (((cond (!((avInt (cellAt r0 1)) == 0))
             (some ⟨(some 1000001), ⟨[(1, (.ptr 0 0 0)), (18, (.v (.bool true)))], [⟨1, 60, 2, true, [[(.sl (avNil (cellAt (obCells (cellAt r0 0)) 0)) 1 0 none), (.v (.bool (avBool (cellAt (obCells (cellAt r0 0)) 1))))]]⟩, ⟨1, 31, 1, false, (avXs (cellAt (obCells (cellAt r0 0)) 0))⟩]⟩, []⟩)
             (some ⟨(some 1000001), ⟨[(1, (.ptr 0 0 0)), (18, (.v (.bool false)))], [⟨1, 60, 2, true, [[(.sl (avNil (cellAt (obCells (cellAt r0 0)) 0)) 1 0 none), (.v (.bool (avBool (cellAt (obCells (cellAt r0 0)) 1))))]]⟩, ⟨1, 31, 1, false, (avXs (cellAt (obCells (cellAt r0 0)) 0))⟩]⟩, []⟩)).bind fun j8 =>
          cond (isEx 1000001 j8)
           (cond (likeStG ⟨[(1, (.ptr 0 0 0)), (18, (.v (.bool false)))], [⟨1, 60, 2, true, [[(.sl (avNil (cellAt (obCells (cellAt r0 0)) 0)) 1 0 none), (.v (.bool (avBool (cellAt (obCells (cellAt r0 0)) 1))))]]⟩, ⟨1, 31, 1, false, (avXs (cellAt (obCells (cellAt r0 0)) 0))⟩]⟩ j8.st)
             (cond (avBool (frAt j8.st.fr 1).2)
               (some ⟨none, ⟨[], []⟩, [(.v (.bool false))]⟩)
               (some ⟨(some 1000001), ⟨[(1, (.ptr 0 0 0))], [⟨1, 60, 2, true, [[(.sl (avNil (cellAt (lget (blAt j8.st.bl 0).xs 0) 0)) 1 0 none), (.v (.bool (avBool (cellAt (lget (blAt j8.st.bl 0).xs 0) 1))))]]⟩, ⟨1, 31, 1, false, (blAt j8.st.bl 1).xs⟩]⟩, []⟩))
             (none))
           (cond (isRt j8)
             (some ⟨none, ⟨[], []⟩, j8.outs⟩)
             (none))).bind fun j9 =>
        cond (isEx 1000001 j9)
         (cond (likeStG ⟨[(1, (.ptr 0 0 0))], [⟨1, 60, 2, true, [[(.sl (avNil (cellAt (obCells (cellAt r0 0)) 0)) 1 0 none), (.v (.bool (avBool (cellAt (obCells (cellAt r0 0)) 1))))]]⟩, ⟨1, 31, 1, false, (avXs (cellAt (obCells (cellAt r0 0)) 0))⟩]⟩ j9.st)
           ((ev n 17 [(.ob 60 [(.ow (avNil (cellAt (lget (blAt j9.st.bl 0).xs 0) 0)) 31 1 (blAt j9.st.bl 1).xs), (.v (.bool (avBool (cellAt (lget (blAt j9.st.bl 0).xs 0) 1))))]), (.v (.int .i64 0)), (.v (.int .u64 0)), (.v (.int .u64 5))]).bind fun r10 =>
            cond (isI .u64 (cellAt r10 0))
             (cond (isI .i64 (cellAt r10 1))
               (cond (((isOb 60 (cellAt r10 2)) && (Nat.beq (List.length (obCells (cellAt r10 2))) 2)) && (likeG [(.ow (avNil (cellAt (lget (blAt j9.st.bl 0).xs 0) 0)) 31 1 (blAt j9.st.bl 1).xs), (.v (.bool (avBool (cellAt (lget (blAt j9.st.bl 0).xs 0) 1))))] 0 (obCells (cellAt r10 2))))
                 ((ev n 17 [(.ob 60 [(.ow (avNil (cellAt (obCells (cellAt r10 2)) 0)) 31 1 (avXs (cellAt (obCells (cellAt r10 2)) 0))), (.v (.bool (avBool (cellAt (obCells (cellAt r10 2)) 1))))]), (.v (.int .i64 0)), (.v (.int .u64 0)), (.v (.int .u64 6))]).bind fun r11 =>
                  cond (isI .u64 (cellAt r11 0))
                   (cond (isI .i64 (cellAt r11 1))
                     (cond (((isOb 60 (cellAt r11 2)) && (Nat.beq (List.length (obCells (cellAt r11 2))) 2)) && (likeG [(.ow (avNil (cellAt (obCells (cellAt r10 2)) 0)) 31 1 (avXs (cellAt (obCells (cellAt r10 2)) 0))), (.v (.bool (avBool (cellAt (obCells (cellAt r10 2)) 1))))] 0 (obCells (cellAt r11 2))))
                       ((ev n 11 [(.ep [(.lst (avNil (cellAt (obCells (cellAt r11 2)) 0)) 1 (avXs (cellAt (obCells (cellAt r11 2)) 0))), (.v (.bool (avBool (cellAt (obCells (cellAt r11 2)) 1))))] 0), (.v (.int .i64 0)), (.v (.int .i64 1))]).bind fun r12 =>
                        cond (isL 1 (cellAt r12 0))
                         (cond (isI .i64 (cellAt r12 1))
                           (cond ((avInt (cellAt r10 0)) == 0)
                             (cond ((avInt (cellAt r10 1)) == 0)
                               (cond ((avInt (cellAt r11 0)) == 5)
                                 (cond ((avInt (cellAt r11 1)) == 0)
                                   (cond ((avInt (cellAt r12 1)) == 0)
                                     (cond ((((List.length (avXs (cellAt r12 0))) : Nat) : Int) == 1)
                                       (cond (true && (ltI 0 (((List.length (avXs (cellAt r12 0))) : Nat) : Int)))
                                         (cond (isI .u64 (cellAt (lget (avXs (cellAt r12 0)) 0) 0))
                                           (cond ((avInt (cellAt (lget (avXs (cellAt r12 0)) 0) 0)) == 5)
                                             ((ev n 19 [(.ep [(.lst (avNil (cellAt (obCells (cellAt r11 2)) 0)) 1 (avXs (cellAt (obCells (cellAt r11 2)) 0))), (.v (.bool (avBool (cellAt (obCells (cellAt r11 2)) 1))))] 0)]).bind fun r13 =>
                                              cond (isB (cellAt r13 0))
                                               (cond (avBool (cellAt r13 0))
                                                 ((ev n 22 [(.ep [(.lst (avNil (cellAt (obCells (cellAt r11 2)) 0)) 1 (avXs (cellAt (obCells (cellAt r11 2)) 0))), (.v (.bool (avBool (cellAt (obCells (cellAt r11 2)) 1))))] 0)]).bind fun r14 =>
                                                  cond (isI .i64 (cellAt r14 0))
                                                   (some [(.v (.bool ((avInt (cellAt r14 0)) == 1)))])
                                                   (none))
                                                 (some [(.v (.bool false))]))
                                               (none))
                                             (some [(.v (.bool false))]))
                                           (none))
                                         (none))
                                       (some [(.v (.bool false))]))
                                     (some [(.v (.bool false))]))
                                   (some [(.v (.bool false))]))
                                 (some [(.v (.bool false))]))
                               (some [(.v (.bool false))]))
                             (some [(.v (.bool false))]))
                           (none))
                         (none))
                       (none))
                     (none))
                   (none))
                 (none))
               (none))
             (none))
           (none))
         (cond (isRt j9)
           (some j9.outs)
           (none)))
       (none))
     (none)) := by kernel_rfl
-- "(*bodega/memnode.Node).Read"
theorem ev11 (n : Nat) (a0_0_0n : Bool) (a0_0_0 : List (List AV)) (a0_0_1 : Bool) (a1_0 : Int) (a2_0 : Int) : ev (n + 1) 11 [(.ep [(.lst a0_0_0n 1 a0_0_0), (.v (.bool a0_0_1))] 0), (.v (.int .i64 a1_0)), (.v (.int .i64 a2_0))] =
  (ev n 28 [(.ep [(.lst a0_0_0n 1 a0_0_0), (.v (.bool a0_0_1))] 0), (.v (.int .i64 a1_0)), (.v (.int .i64 a2_0))]).bind fun r0 =>
  cond (isI .i64 (cellAt r0 0))
   (cond (!((avInt (cellAt r0 0)) == 0))
     (some [(.lst true 1 []), (.v (.int .i64 (avInt (cellAt r0 0))))])
     (cond (((leI 0 a1_0) && (leI a1_0 (IntKind.wrap .i64 (a1_0 + a2_0)))) && (leI (IntKind.wrap .i64 (a1_0 + a2_0)) (((List.length a0_0_0) : Nat) : Int)))
       ((ev n 29 [(.lst a0_0_0n 1 (List.take ((Int.toNat (IntKind.wrap .i64 (a1_0 + a2_0))) - (Int.toNat a1_0)) (List.drop (Int.toNat a1_0) a0_0_0)))]).bind fun r8 =>
        cond (isOw 31 1 (cellAt r8 0))
         (some [(.lst (avNil (cellAt r8 0)) 1 (avXs (cellAt r8 0))), (.v (.int .i64 0))])
         (none))
       (none)))
   (none) := by kernel_rfl
-- "(*bodega/memnode.Node).Boot"
theorem ev12 (n : Nat) (a0_0_0n : Bool) (a0_0_0 : List (List AV)) (a0_0_1 : Bool) : ev (n + 1) 12 [(.ep [(.lst a0_0_0n 1 a0_0_0), (.v (.bool a0_0_1))] 0)] =
  cond (true && (ltI 1 (((List.length a0_0_0) : Nat) : Int)))
   (cond (isI .u64 (cellAt (lget a0_0_0 1) 0))
     (some [(.v (.int .u64 (avInt (cellAt (lget a0_0_0 1) 0))))])
     (none))
   (none) := by kernel_rfl
-- "bodega/bodegaref6.NewNode"
theorem ev13 (n : Nat) (a0_0 : Int) : ev (n + 1) 13 [(.v (.int .i64 a0_0))] =
  cond ((((leI 0 (IntKind.wrap .i64 (a0_0 * 8))) && (leI (IntKind.wrap .i64 (a0_0 * 8)) (IntKind.wrap .i64 (a0_0 * 8)))) && (leI ((IntKind.wrap .i64 (a0_0 * 8)) * ((8 : Nat) : Int)) 281474976710656)) && (leI (IntKind.wrap .i64 (a0_0 * 8)) 281474976710656))
   (some [(.agg [(.lst false 1 (List.replicate (Int.toNat (IntKind.wrap .i64 (a0_0 * 8))) [(.v (.int .u64 0))])), (.v (.bool true))])])
   (none) := by kernel_rfl
-- "(*bodega/memnode.Node).Write"
theorem ev15 (n : Nat) (a0_0_0n : Bool) (a0_0_0 : List (List AV)) (a0_0_1 : Bool) (a1_0 : Int) (a2_0n : Bool) (a2_0 : List (List AV)) : ev (n + 1) 15 [(.ob 60 [(.ow a0_0_0n 31 1 a0_0_0), (.v (.bool a0_0_1))]), (.v (.int .i64 a1_0)), (.lst a2_0n 1 a2_0)] =
  (ev n 28 [(.ep [(.lst a0_0_0n 1 a0_0_0), (.v (.bool a0_0_1))] 0), (.v (.int .i64 a1_0)), (.v (.int .i64 (((List.length a2_0) : Nat) : Int)))]).bind fun r0 =>
  cond (isI .i64 (cellAt r0 0))
   (cond (!((avInt (cellAt r0 0)) == 0))
     (some [(.v (.int .i64 (avInt (cellAt r0 0)))), (.ob 60 [(.ow a0_0_0n 31 1 a0_0_0), (.v (.bool a0_0_1))])])
     (cond ((leI 0 a1_0) && (leI a1_0 ((((List.length a0_0_0) - 0) : Nat) : Int)))
       (some [(.v (.int .i64 0)), (.ob 60 [(.ow a0_0_0n 31 1 (((List.take (0 + (Int.toNat a1_0)) a0_0_0) ++ (List.take (min (List.length a2_0) ((List.length a0_0_0) - (0 + (Int.toNat a1_0)))) a2_0)) ++ (List.drop ((0 + (Int.toNat a1_0)) + (min (List.length a2_0) ((List.length a0_0_0) - (0 + (Int.toNat a1_0))))) a0_0_0))), (.v (.bool a0_0_1))])])
       (none)))
   (none) := by kernel_rfl
-- "(*bodega/memnode.Node).Fail"
theorem ev16 (n : Nat) (a0_0_0n : Bool) (a0_0_0 : List (List AV)) (a0_0_1 : Bool) : ev (n + 1) 16 [(.ob 60 [(.ow a0_0_0n 31 1 a0_0_0), (.v (.bool a0_0_1))])] =
  some [(.ob 60 [(.ow a0_0_0n 31 1 a0_0_0), (.v (.bool true))])] := by kernel_rfl
-- "(*bodega/memnode.Node).Cas"
theorem ev17 (n : Nat) (a0_0_0n : Bool) (a0_0_0 : List (List AV)) (a0_0_1 : Bool) (a1_0 : Int) (a2_0 : Int) (a3_0 : Int) : ev (n + 1) 17 [(.ob 60 [(.ow a0_0_0n 31 1 a0_0_0), (.v (.bool a0_0_1))]), (.v (.int .i64 a1_0)), (.v (.int .u64 a2_0)), (.v (.int .u64 a3_0))] =
  (ev n 28 [(.ep [(.lst a0_0_0n 1 a0_0_0), (.v (.bool a0_0_1))] 0), (.v (.int .i64 a1_0)), (.v (.int .i64 1))]).bind fun r0 =>
  cond (isI .i64 (cellAt r0 0))
   (cond (!((avInt (cellAt r0 0)) == 0))
     (some [(.v (.int .u64 0)), (.v (.int .i64 (avInt (cellAt r0 0)))), (.ob 60 [(.ow a0_0_0n 31 1 a0_0_0), (.v (.bool a0_0_1))])])
     (cond ((leI 0 a1_0) && (ltI a1_0 ((((List.length a0_0_0) - 0) : Nat) : Int)))
       (cond ((ltN (0 + (Int.toNat a1_0)) (List.length a0_0_0)) && (isI .u64 (cellAt (lget a0_0_0 (0 + (Int.toNat a1_0))) 0)))
         (cond ((avInt (cellAt (lget a0_0_0 (0 + (Int.toNat a1_0))) 0)) == a2_0)
           (cond ((leI 0 a1_0) && (ltI a1_0 ((((List.length a0_0_0) - 0) : Nat) : Int)))
             (cond (ltN (0 + (Int.toNat a1_0)) (List.length a0_0_0))
               (some [(.v (.int .u64 (avInt (cellAt (lget a0_0_0 (0 + (Int.toNat a1_0))) 0)))), (.v (.int .i64 0)), (.ob 60 [(.ow a0_0_0n 31 1 (List.set a0_0_0 (0 + (Int.toNat a1_0)) [(.v (.int .u64 a3_0))])), (.v (.bool a0_0_1))])])
               (none))
             (none))
           (some [(.v (.int .u64 (avInt (cellAt (lget a0_0_0 (0 + (Int.toNat a1_0))) 0)))), (.v (.int .i64 0)), (.ob 60 [(.ow a0_0_0n 31 1 a0_0_0), (.v (.bool a0_0_1))])]))
         (none))
       (none)))
   (none) := by kernel_rfl
-- "(*bodega/memnode.Node).Add"
theorem ev18 (n : Nat) (a0_0_0n : Bool) (a0_0_0 : List (List AV)) (a0_0_1 : Bool) (a1_0 : Int) (a2_0 : Int) : ev (n + 1) 18 [(.ob 60 [(.ow a0_0_0n 31 1 a0_0_0), (.v (.bool a0_0_1))]), (.v (.int .i64 a1_0)), (.v (.int .u64 a2_0))] =
  (ev n 28 [(.ep [(.lst a0_0_0n 1 a0_0_0), (.v (.bool a0_0_1))] 0), (.v (.int .i64 a1_0)), (.v (.int .i64 1))]).bind fun r0 =>
  cond (isI .i64 (cellAt r0 0))
   (cond (!((avInt (cellAt r0 0)) == 0))
     (some [(.v (.int .u64 0)), (.v (.int .i64 (avInt (cellAt r0 0)))), (.ob 60 [(.ow a0_0_0n 31 1 a0_0_0), (.v (.bool a0_0_1))])])
     (cond ((leI 0 a1_0) && (ltI a1_0 ((((List.length a0_0_0) - 0) : Nat) : Int)))
       (cond ((ltN (0 + (Int.toNat a1_0)) (List.length a0_0_0)) && (isI .u64 (cellAt (lget a0_0_0 (0 + (Int.toNat a1_0))) 0)))
         (cond ((leI 0 a1_0) && (ltI a1_0 ((((List.length a0_0_0) - 0) : Nat) : Int)))
           (cond ((ltN (0 + (Int.toNat a1_0)) (List.length a0_0_0)) && (isI .u64 (cellAt (lget a0_0_0 (0 + (Int.toNat a1_0))) 0)))
             (cond ((leI 0 a1_0) && (ltI a1_0 ((((List.length a0_0_0) - 0) : Nat) : Int)))
               (cond (ltN (0 + (Int.toNat a1_0)) (List.length a0_0_0))
                 (some [(.v (.int .u64 (avInt (cellAt (lget a0_0_0 (0 + (Int.toNat a1_0))) 0)))), (.v (.int .i64 0)), (.ob 60 [(.ow a0_0_0n 31 1 (List.set a0_0_0 (0 + (Int.toNat a1_0)) [(.v (.int .u64 (IntKind.wrap .u64 ((avInt (cellAt (lget a0_0_0 (0 + (Int.toNat a1_0))) 0)) + a2_0))))])), (.v (.bool a0_0_1))])])
                 (none))
               (none))
             (none))
           (none))
         (none))
       (none)))
   (none) := by kernel_rfl
-- "(*bodega/memnode.Node).Up"
theorem ev19 (n : Nat) (a0_0_0n : Bool) (a0_0_0 : List (List AV)) (a0_0_1 : Bool) : ev (n + 1) 19 [(.ep [(.lst a0_0_0n 1 a0_0_0), (.v (.bool a0_0_1))] 0)] =
  some [(.v (.bool (!a0_0_1)))] := by kernel_rfl
-- "(*bodega/memnode.Node).Back"
theorem ev20 (n : Nat) (a0_0_0n : Bool) (a0_0_0 : List (List AV)) (a0_0_1 : Bool) : ev (n + 1) 20 [(.ob 60 [(.ow a0_0_0n 31 1 a0_0_0), (.v (.bool a0_0_1))])] =
  (cond (!a0_0_1)
     (some ⟨(some 1000001), ⟨[(0, (.ptr 0 0 0)), (12, (.v (.bool true))), (1000000, (.ptr 0 0 0))], [⟨1, 60, 2, true, [[(.sl a0_0_0n 1 0 none), (.v (.bool a0_0_1))]]⟩, ⟨1, 31, 1, false, a0_0_0⟩]⟩, []⟩)
     ((ev n 12 [(.ep [(.lst a0_0_0n 1 a0_0_0), (.v (.bool a0_0_1))] 0)]).bind fun r0 =>
      cond (isI .u64 (cellAt r0 0))
       (some ⟨(some 1000001), ⟨[(0, (.ptr 0 0 0)), (12, (.v (.bool (leI 31 (avInt (cellAt r0 0)))))), (1000000, (.ptr 0 0 0))], [⟨1, 60, 2, true, [[(.sl a0_0_0n 1 0 none), (.v (.bool a0_0_1))]]⟩, ⟨1, 31, 1, false, a0_0_0⟩]⟩, []⟩)
       (none))).bind fun j1 =>
  cond (isEx 1000001 j1)
   (cond (likeStG ⟨[(0, (.ptr 0 0 0)), (12, (.v (.bool false))), (1000000, (.ptr 0 0 0))], [⟨1, 60, 2, true, [[(.sl a0_0_0n 1 0 none), (.v (.bool a0_0_1))]]⟩, ⟨1, 31, 1, false, a0_0_0⟩]⟩ j1.st)
     (cond (avBool (frAt j1.st.fr 1).2)
       (some [(.v (.bool false)), (.ob 60 [(.ow (avNil (cellAt (lget (blAt j1.st.bl 0).xs 0) 0)) 31 1 (blAt j1.st.bl 1).xs), (.v (.bool (avBool (cellAt (lget (blAt j1.st.bl 0).xs 0) 1))))])])
       (cond (true && (ltI 1 ((((List.length (blAt j1.st.bl 1).xs) - 0) : Nat) : Int)))
         (cond ((ltN 1 (List.length (blAt j1.st.bl 1).xs)) && (isI .u64 (cellAt (lget (blAt j1.st.bl 1).xs 1) 0)))
           (cond (true && (ltI 1 ((((List.length (blAt j1.st.bl 1).xs) - 0) : Nat) : Int)))
             (cond (ltN 1 (List.length (blAt j1.st.bl 1).xs))
               (some [(.v (.bool true)), (.ob 60 [(.ow (avNil (cellAt (lget (blAt j1.st.bl 0).xs 0) 0)) 31 1 (List.set (blAt j1.st.bl 1).xs 1 [(.v (.int .u64 (IntKind.wrap .u64 ((avInt (cellAt (lget (blAt j1.st.bl 1).xs 1) 0)) + 1))))])), (.v (.bool false))])])
               (none))
             (none))
           (none))
         (none)))
     (none))
   (cond (isRt j1)
     (some j1.outs)
     (none)) := by kernel_rfl
-- "bodega/bodegaref1.SameWords"
theorem ev21 (n : Nat) (a0_0n : Bool) (a0_0 : List (List AV)) (a1_0n : Bool) (a1_0 : List (List AV)) : ev (n + 1) 21 [(.lst a0_0n 1 a0_0), (.lst a1_0n 1 a1_0)] =
  cond (!((((List.length a0_0) : Nat) : Int) == (((List.length a1_0) : Nat) : Int)))
   (some [(.v (.bool false))])
   ((lp n n 21 0 0 ⟨[(0, (.lst a0_0n 1 a0_0)), (1, (.lst a1_0n 1 a1_0)), (5, (.v (.int .i64 0)))], []⟩).bind fun r4 =>
    cond (isEx 0 r4)
     (cond (likeStG ⟨[], []⟩ r4.st)
       (some [(.v (.bool true))])
       (none))
     (cond (isRt r4)
       (some r4.outs)
       (none))) := by kernel_rfl
theorem lp21_0 (m n : Nat) (x0n : Bool) (x0 : List (List AV)) (x1n : Bool) (x1 : List (List AV)) (x5 : Int) : lp m (n + 1) 21 0 0 ⟨[(0, (.lst x0n 1 x0)), (1, (.lst x1n 1 x1)), (5, (.v (.int .i64 x5)))], []⟩ =
  cond (ltI x5 (((List.length x0) : Nat) : Int))
   (cond ((leI 0 x5) && (ltI x5 (((List.length x0) : Nat) : Int)))
     (cond (isI .u64 (cellAt (lget x0 (Int.toNat x5)) 0))
       (cond ((leI 0 x5) && (ltI x5 (((List.length x1) : Nat) : Int)))
         (cond (isI .u64 (cellAt (lget x1 (Int.toNat x5)) 0))
           (cond (!((avInt (cellAt (lget x0 (Int.toNat x5)) 0)) == (avInt (cellAt (lget x1 (Int.toNat x5)) 0))))
             (some ⟨none, ⟨[], []⟩, [(.v (.bool false))]⟩)
             (lp m n 21 0 0 ⟨[(0, (.lst x0n 1 x0)), (1, (.lst x1n 1 x1)), (5, (.v (.int .i64 (IntKind.wrap .i64 (x5 + 1)))))], []⟩))
           (none))
         (none))
       (none))
     (none))
   (some ⟨(some 0), ⟨[], []⟩, []⟩) := by kernel_rfl
-- "(*bodega/memnode.Node).Lines"
theorem ev22 (n : Nat) (a0_0_0n : Bool) (a0_0_0 : List (List AV)) (a0_0_1 : Bool) : ev (n + 1) 22 [(.ep [(.lst a0_0_0n 1 a0_0_0), (.v (.bool a0_0_1))] 0)] =
  some [(.v (.int .i64 (IntKind.wrap .i64 (Int.tdiv (((List.length a0_0_0) : Nat) : Int) 8))))] := by kernel_rfl
-- "bodega/bodegahand.SameImage"
theorem ev23 (n : Nat) (a0_0n : Bool) (a0_0 : List (List AV)) (a1_0_0n : Bool) (a1_0_0 : List (List AV)) (a1_0_1 : Bool) : ev (n + 1) 23 [(.lst a0_0n 1 a0_0), (.ep [(.lst a1_0_0n 1 a1_0_0), (.v (.bool a1_0_1))] 0)] =
  none := by kernel_rfl
-- "(*bodega/memnode.Node).Copy"
theorem ev25 (n : Nat) (a0_0_0n : Bool) (a0_0_0 : List (List AV)) (a0_0_1 : Bool) : ev (n + 1) 25 [(.ep [(.lst a0_0_0n 1 a0_0_0), (.v (.bool a0_0_1))] 0)] =
  (ev n 29 [(.lst a0_0_0n 1 a0_0_0)]).bind fun r2 =>
  cond (isOw 31 1 (cellAt r2 0))
   (some [(.ob 60 [(.ow (avNil (cellAt r2 0)) 31 1 (avXs (cellAt r2 0))), (.v (.bool a0_0_1))])])
   (none) := by kernel_rfl
-- "(*bodega/memnode.Node).check"
theorem ev28 (n : Nat) (a0_0_0n : Bool) (a0_0_0 : List (List AV)) (a0_0_1 : Bool) (a1_0 : Int) (a2_0 : Int) : ev (n + 1) 28 [(.ep [(.lst a0_0_0n 1 a0_0_0), (.v (.bool a0_0_1))] 0), (.v (.int .i64 a1_0)), (.v (.int .i64 a2_0))] =
  (cond (ltI a2_0 1)
     (some ⟨(some 1000001), ⟨[(0, (.ep [(.lst a0_0_0n 1 a0_0_0), (.v (.bool a0_0_1))] 0)), (7, (.v (.bool true)))], []⟩, []⟩)
     (cond (ltI a1_0 0)
       (some ⟨(some 1000001), ⟨[(0, (.ep [(.lst a0_0_0n 1 a0_0_0), (.v (.bool a0_0_1))] 0)), (7, (.v (.bool true)))], []⟩, []⟩)
       (cond (leI (((List.length a0_0_0) : Nat) : Int) a1_0)
         (some ⟨(some 1000001), ⟨[(0, (.ep [(.lst a0_0_0n 1 a0_0_0), (.v (.bool a0_0_1))] 0)), (7, (.v (.bool true)))], []⟩, []⟩)
         (some ⟨(some 1000001), ⟨[(0, (.ep [(.lst a0_0_0n 1 a0_0_0), (.v (.bool a0_0_1))] 0)), (7, (.v (.bool (ltI (IntKind.wrap .i64 ((((List.length a0_0_0) : Nat) : Int) - a1_0)) a2_0))))], []⟩, []⟩)))).bind fun j11 =>
  cond (isEx 1000001 j11)
   (cond (likeStG ⟨[(0, (.ep [(.lst a0_0_0n 1 a0_0_0), (.v (.bool a0_0_1))] 0)), (7, (.v (.bool false)))], []⟩ j11.st)
     (cond (avBool (frAt j11.st.fr 1).2)
       (some [(.v (.int .i64 2))])
       (cond (avBool (cellAt (epCells (frAt j11.st.fr 0).2) 1))
         (some [(.v (.int .i64 4))])
         (some [(.v (.int .i64 0))])))
     (none))
   (cond (isRt j11)
     (some j11.outs)
     (none)) := by kernel_rfl
-- "slices.Clone[[]uint64,uint64]"
theorem ev29 (n : Nat) (a0_0n : Bool) (a0_0 : List (List AV)) : ev (n + 1) 29 [(.lst a0_0n 1 a0_0)] =
  cond a0_0n
   (some [(.ow true 31 1 [])])
   (cond (leN ((0 + (List.length a0_0)) * 8) 140737488355328)
     (some [(.ow ((List.isEmpty a0_0) && false) 31 1 ([] ++ a0_0))])
     (none)) := by kernel_rfl
-- "(*bodega/bodegaref6.Node).Access"
theorem ev30 (n : Nat) (a0_0_0n : Bool) (a0_0_0 : List (List AV)) (a0_0_1 : Bool) (a1_0 : Int) (a2_0 : Int) : ev (n + 1) 30 [(.ep [(.lst a0_0_0n 1 a0_0_0), (.v (.bool a0_0_1))] 0), (.v (.int .i64 a1_0)), (.v (.int .i64 a2_0))] =
  ((cond (ltI a2_0 1)
       (some ⟨(some 1000001), ⟨[(0, (.ep [(.lst a0_0_0n 1 a0_0_0), (.v (.bool a0_0_1))] 0)), (32, (.v (.bool true)))], []⟩, []⟩)
       (cond (ltI a1_0 0)
         (some ⟨(some 1000001), ⟨[(0, (.ep [(.lst a0_0_0n 1 a0_0_0), (.v (.bool a0_0_1))] 0)), (32, (.v (.bool true)))], []⟩, []⟩)
         (cond (leI (((List.length a0_0_0) : Nat) : Int) a1_0)
           (some ⟨(some 1000001), ⟨[(0, (.ep [(.lst a0_0_0n 1 a0_0_0), (.v (.bool a0_0_1))] 0)), (32, (.v (.bool true)))], []⟩, []⟩)
           (some ⟨(some 1000001), ⟨[(0, (.ep [(.lst a0_0_0n 1 a0_0_0), (.v (.bool a0_0_1))] 0)), (32, (.v (.bool (ltI (IntKind.wrap .i64 ((((List.length a0_0_0) : Nat) : Int) - a1_0)) a2_0))))], []⟩, []⟩)))).bind fun j0 =>
    cond (isEx 1000001 j0)
     (cond (likeStG ⟨[(0, (.ep [(.lst a0_0_0n 1 a0_0_0), (.v (.bool a0_0_1))] 0)), (32, (.v (.bool false)))], []⟩ j0.st)
       (cond (avBool (frAt j0.st.fr 1).2)
         (some ⟨none, ⟨[], []⟩, [(.v (.int .i64 2))]⟩)
         (some ⟨(some 1000001), ⟨[(0, (.ep [(.lst (avNil (cellAt (epCells (frAt j0.st.fr 0).2) 0)) 1 (avXs (cellAt (epCells (frAt j0.st.fr 0).2) 0))), (.v (.bool (avBool (cellAt (epCells (frAt j0.st.fr 0).2) 1))))] 0))], []⟩, []⟩))
       (none))
     (cond (isRt j0)
       (some ⟨none, ⟨[], []⟩, j0.outs⟩)
       (none))).bind fun j1 =>
  cond (isEx 1000001 j1)
   (cond (likeStG ⟨[(0, (.ep [(.lst a0_0_0n 1 a0_0_0), (.v (.bool a0_0_1))] 0))], []⟩ j1.st)
     (cond (!(avBool (cellAt (epCells (frAt j1.st.fr 0).2) 1)))
       (some [(.v (.int .i64 4))])
       (some [(.v (.int .i64 0))]))
     (none))
   (cond (isRt j1)
     (some j1.outs)
     (none)) := by kernel_rfl
-- "(*bodega/bodegaref6.Node).Back"
theorem ev32 (n : Nat) (a0_0_0n : Bool) (a0_0_0 : List (List AV)) (a0_0_1 : Bool) : ev (n + 1) 32 [(.ob 36 [(.ow a0_0_0n 31 1 a0_0_0), (.v (.bool a0_0_1))])] =
  (cond a0_0_1
     (some ⟨(some 1000001), ⟨[(0, (.ptr 0 0 0)), (11, (.v (.bool true))), (1000000, (.ptr 0 0 0))], [⟨1, 36, 2, true, [[(.sl a0_0_0n 1 0 none), (.v (.bool a0_0_1))]]⟩, ⟨1, 31, 1, false, a0_0_0⟩]⟩, []⟩)
     ((ev n 39 [(.ep [(.lst a0_0_0n 1 a0_0_0), (.v (.bool a0_0_1))] 0)]).bind fun r0 =>
      cond (isI .u64 (cellAt r0 0))
       (some ⟨(some 1000001), ⟨[(0, (.ptr 0 0 0)), (11, (.v (.bool (leI 31 (avInt (cellAt r0 0)))))), (1000000, (.ptr 0 0 0))], [⟨1, 36, 2, true, [[(.sl a0_0_0n 1 0 none), (.v (.bool a0_0_1))]]⟩, ⟨1, 31, 1, false, a0_0_0⟩]⟩, []⟩)
       (none))).bind fun j3 =>
  cond (isEx 1000001 j3)
   (cond (likeStG ⟨[(0, (.ptr 0 0 0)), (11, (.v (.bool false))), (1000000, (.ptr 0 0 0))], [⟨1, 36, 2, true, [[(.sl a0_0_0n 1 0 none), (.v (.bool a0_0_1))]]⟩, ⟨1, 31, 1, false, a0_0_0⟩]⟩ j3.st)
     (cond (avBool (frAt j3.st.fr 1).2)
       (some [(.v (.bool false)), (.ob 36 [(.ow (avNil (cellAt (lget (blAt j3.st.bl 0).xs 0) 0)) 31 1 (blAt j3.st.bl 1).xs), (.v (.bool (avBool (cellAt (lget (blAt j3.st.bl 0).xs 0) 1))))])])
       (cond (true && (ltI 1 ((((List.length (blAt j3.st.bl 1).xs) - 0) : Nat) : Int)))
         (cond ((ltN 1 (List.length (blAt j3.st.bl 1).xs)) && (isI .u64 (cellAt (lget (blAt j3.st.bl 1).xs 1) 0)))
           (cond (true && (ltI 1 ((((List.length (blAt j3.st.bl 1).xs) - 0) : Nat) : Int)))
             (cond (ltN 1 (List.length (blAt j3.st.bl 1).xs))
               (some [(.v (.bool true)), (.ob 36 [(.ow (avNil (cellAt (lget (blAt j3.st.bl 0).xs 0) 0)) 31 1 (List.set (blAt j3.st.bl 1).xs 1 [(.v (.int .u64 (IntKind.wrap .u64 ((avInt (cellAt (lget (blAt j3.st.bl 1).xs 1) 0)) + 1))))])), (.v (.bool true))])])
               (none))
             (none))
           (none))
         (none)))
     (none))
   (cond (isRt j3)
     (some j3.outs)
     (none)) := by kernel_rfl
-- "(*bodega/bodegaref6.Node).Image"
theorem ev33 (n : Nat) (a0_0_0n : Bool) (a0_0_0 : List (List AV)) (a0_0_1 : Bool) : ev (n + 1) 33 [(.ep [(.lst a0_0_0n 1 a0_0_0), (.v (.bool a0_0_1))] 0)] =
  (cond a0_0_1
     (some ⟨(some 1000001), ⟨[(0, (.ep [(.lst a0_0_0n 1 a0_0_0), (.v (.bool a0_0_1))] 0)), (4, (.sl false 0 0 none))], [⟨1, 5, 1, false, (List.set [[(.v (.int .u8 77))], [(.v (.int .u8 69))], [(.v (.int .u8 77))], [(.v (.int .u8 49))], [(.v (.int .u8 (IntKind.wrap .u8 (IntKind.wrap .i64 (Int.tdiv (((List.length a0_0_0) : Nat) : Int) 8)))))], [(.v (.int .u8 (IntKind.wrap .u8 (Int.fdiv (IntKind.wrap .i64 (Int.tdiv (((List.length a0_0_0) : Nat) : Int) 8)) (2 ^ 8)))))], [(.v (.int .u8 0))]] 6 [(.v (.int .u8 1))])⟩]⟩, []⟩)
     (some ⟨(some 1000001), ⟨[(0, (.ep [(.lst a0_0_0n 1 a0_0_0), (.v (.bool a0_0_1))] 0)), (4, (.sl false 0 0 none))], [⟨1, 5, 1, false, [[(.v (.int .u8 77))], [(.v (.int .u8 69))], [(.v (.int .u8 77))], [(.v (.int .u8 49))], [(.v (.int .u8 (IntKind.wrap .u8 (IntKind.wrap .i64 (Int.tdiv (((List.length a0_0_0) : Nat) : Int) 8)))))], [(.v (.int .u8 (IntKind.wrap .u8 (Int.fdiv (IntKind.wrap .i64 (Int.tdiv (((List.length a0_0_0) : Nat) : Int) 8)) (2 ^ 8)))))], [(.v (.int .u8 0))]]⟩]⟩, []⟩)).bind fun j8 =>
  cond (isEx 1000001 j8)
   (cond (likeStG ⟨[(0, (.ep [(.lst a0_0_0n 1 a0_0_0), (.v (.bool a0_0_1))] 0)), (4, (.sl false 0 0 none))], [⟨1, 5, 1, false, [[(.v (.int .u8 77))], [(.v (.int .u8 69))], [(.v (.int .u8 77))], [(.v (.int .u8 49))], [(.v (.int .u8 (IntKind.wrap .u8 (IntKind.wrap .i64 (Int.tdiv (((List.length a0_0_0) : Nat) : Int) 8)))))], [(.v (.int .u8 (IntKind.wrap .u8 (Int.fdiv (IntKind.wrap .i64 (Int.tdiv (((List.length a0_0_0) : Nat) : Int) 8)) (2 ^ 8)))))], [(.v (.int .u8 0))]]⟩]⟩ j8.st)
     ((lp n n 33 0 0 ⟨[(0, (.ep [(.lst (avNil (cellAt (epCells (frAt j8.st.fr 0).2) 0)) 1 (avXs (cellAt (epCells (frAt j8.st.fr 0).2) 0))), (.v (.bool (avBool (cellAt (epCells (frAt j8.st.fr 0).2) 1))))] 0)), (4, (.sl (avNil (frAt j8.st.fr 1).2) 0 0 none)), (5, (.v (.int .i64 0)))], [⟨1, 5, 1, false, (blAt j8.st.bl 0).xs⟩]⟩).bind fun r14 =>
      cond (isEx 0 r14)
       (cond (likeStG ⟨[(4, (.sl (avNil (frAt j8.st.fr 1).2) 0 0 none))], [⟨1, 5, 1, false, (blAt j8.st.bl 0).xs⟩]⟩ r14.st)
         ((ev n 41 [(.lst (avNil (frAt r14.st.fr 0).2) 1 (blAt r14.st.bl 0).xs)]).bind fun r17 =>
          cond (isI .u64 (cellAt r17 0))
           ((ev n 40 [(.v (.int .u64 (avInt (cellAt r17 0))))]).bind fun r19 =>
            cond (isL 1 (cellAt r19 0))
             (cond (leN (((List.length (blAt r14.st.bl 0).xs) + (List.length (avXs (cellAt r19 0)))) * 1) 140737488355328)
               (some [(.lst ((List.isEmpty (avXs (cellAt r19 0))) && (avNil (frAt r14.st.fr 0).2)) 1 ((blAt r14.st.bl 0).xs ++ (avXs (cellAt r19 0))))])
               (none))
             (none))
           (none))
         (none))
       (cond (isRt r14)
         (some r14.outs)
         (none)))
     (none))
   (cond (isRt j8)
     (some j8.outs)
     (none)) := by kernel_rfl
theorem lp33_0 (m n : Nat) (x0_0n : Bool) (x0_0 : List (List AV)) (x0_1 : Bool) (x4n : Bool) (x5 : Int) (b0 : List (List AV)) : lp m (n + 1) 33 0 0 ⟨[(0, (.ep [(.lst x0_0n 1 x0_0), (.v (.bool x0_1))] 0)), (4, (.sl x4n 0 0 none)), (5, (.v (.int .i64 x5)))], [⟨1, 5, 1, false, b0⟩]⟩ =
  cond (ltI x5 (((List.length x0_0) : Nat) : Int))
   (cond ((leI 0 x5) && (ltI x5 (((List.length x0_0) : Nat) : Int)))
     (cond (isI .u64 (cellAt (lget x0_0 (Int.toNat x5)) 0))
       ((ev m 40 [(.v (.int .u64 (avInt (cellAt (lget x0_0 (Int.toNat x5)) 0))))]).bind fun r32 =>
        cond (isL 1 (cellAt r32 0))
         (cond (leN (((List.length b0) + (List.length (avXs (cellAt r32 0)))) * 1) 140737488355328)
           (lp m n 33 0 0 ⟨[(0, (.ep [(.lst x0_0n 1 x0_0), (.v (.bool x0_1))] 0)), (4, (.sl ((List.isEmpty (avXs (cellAt r32 0))) && x4n) 0 0 none)), (5, (.v (.int .i64 (IntKind.wrap .i64 (x5 + 1)))))], [⟨1, 5, 1, false, (b0 ++ (avXs (cellAt r32 0)))⟩]⟩)
           (none))
         (none))
       (none))
     (none))
   (some ⟨(some 0), ⟨[(4, (.sl x4n 0 0 none))], [⟨1, 5, 1, false, b0⟩]⟩, []⟩) := by kernel_rfl
-- "bodega/memnode.appendWord"
theorem ev34 (n : Nat) (a0_0n : Bool) (a0_0 : List (List AV)) (a1_0 : Int) : ev (n + 1) 34 [(.ow a0_0n 5 1 a0_0), (.v (.int .u64 a1_0))] =
  (lp n n 34 0 0 ⟨[(0, (.sl a0_0n 0 0 none)), (1, (.v (.int .u64 a1_0))), (5, (.v (.int .i64 0)))], [⟨1, 5, 1, false, a0_0⟩]⟩).bind fun r0 =>
  cond (isEx 0 r0)
   (cond (likeStG ⟨[(0, (.sl a0_0n 0 0 none))], [⟨1, 5, 1, false, a0_0⟩]⟩ r0.st)
     (some [(.ow (avNil (frAt r0.st.fr 0).2) 5 1 (blAt r0.st.bl 0).xs)])
     (none))
   (cond (isRt r0)
     (some r0.outs)
     (none)) := by kernel_rfl
theorem lp34_0 (m n : Nat) (x0n : Bool) (x1 : Int) (x5 : Int) (b0 : List (List AV)) : lp m (n + 1) 34 0 0 ⟨[(0, (.sl x0n 0 0 none)), (1, (.v (.int .u64 x1))), (5, (.v (.int .i64 x5)))], [⟨1, 5, 1, false, b0⟩]⟩ =
  cond (ltI x5 8)
   (cond (leN (((List.length b0) + 1) * 1) 140737488355328)
     (lp m n 34 0 0 ⟨[(0, (.sl false 0 0 none)), (1, (.v (.int .u64 (Int.fdiv x1 (2 ^ 8))))), (5, (.v (.int .i64 (IntKind.wrap .i64 (x5 + 1)))))], [⟨1, 5, 1, false, (b0 ++ [[(.v (.int .u8 (IntKind.wrap .u8 x1)))]])⟩]⟩)
     (none))
   (some ⟨(some 0), ⟨[(0, (.sl x0n 0 0 none))], [⟨1, 5, 1, false, b0⟩]⟩, []⟩) := by kernel_rfl
-- "(*bodega/bodegaref6.Node).boot"
theorem ev39 (n : Nat) (a0_0_0n : Bool) (a0_0_0 : List (List AV)) (a0_0_1 : Bool) : ev (n + 1) 39 [(.ep [(.lst a0_0_0n 1 a0_0_0), (.v (.bool a0_0_1))] 0)] =
  cond (true && (ltI 1 (((List.length a0_0_0) : Nat) : Int)))
   (cond (isI .u64 (cellAt (lget a0_0_0 1) 0))
     (some [(.v (.int .u64 (avInt (cellAt (lget a0_0_0 1) 0))))])
     (none))
   (none) := by kernel_rfl
-- "bodega/bodegaref1.Little"
theorem ev40 (n : Nat) (a0_0 : Int) : ev (n + 1) 40 [(.v (.int .u64 a0_0))] =
  (lp n n 40 0 0 ⟨[(0, (.v (.int .u64 a0_0))), (3, (.sl false 0 0 none)), (4, (.v (.int .i64 0)))], [⟨1, 5, 1, false, (List.replicate 8 [(.v (.int .u8 0))])⟩]⟩).bind fun r0 =>
  cond (isEx 0 r0)
   (cond (likeStG ⟨[(3, (.sl false 0 0 none))], [⟨1, 5, 1, false, (List.replicate 8 [(.v (.int .u8 0))])⟩]⟩ r0.st)
     (some [(.lst (avNil (frAt r0.st.fr 0).2) 1 (blAt r0.st.bl 0).xs)])
     (none))
   (cond (isRt r0)
     (some r0.outs)
     (none)) := by kernel_rfl
theorem lp40_0 (m n : Nat) (x0 : Int) (x3n : Bool) (x4 : Int) (b0 : List (List AV)) : lp m (n + 1) 40 0 0 ⟨[(0, (.v (.int .u64 x0))), (3, (.sl x3n 0 0 none)), (4, (.v (.int .i64 x4)))], [⟨1, 5, 1, false, b0⟩]⟩ =
  cond (ltI x4 8)
   (cond (ltI (IntKind.wrap .u64 (IntKind.wrap .i64 (8 * x4))) 0)
     (none)
     (cond ((leI 0 x4) && (ltI x4 ((((List.length b0) - 0) : Nat) : Int)))
       (cond (ltN (0 + (Int.toNat x4)) (List.length b0))
         (lp m n 40 0 0 ⟨[(0, (.v (.int .u64 x0))), (3, (.sl x3n 0 0 none)), (4, (.v (.int .i64 (IntKind.wrap .i64 (x4 + 1)))))], [⟨1, 5, 1, false, (List.set b0 (0 + (Int.toNat x4)) [(.v (.int .u8 (IntKind.wrap .u8 (Int.fdiv x0 (2 ^ (min (Int.toNat (IntKind.wrap .u64 (IntKind.wrap .i64 (8 * x4)))) 64))))))])⟩]⟩)
         (none))
       (none)))
   (some ⟨(some 0), ⟨[(3, (.sl x3n 0 0 none))], [⟨1, 5, 1, false, b0⟩]⟩, []⟩) := by kernel_rfl
end Go.Proofs.Ytokagdgcfmjlnaa
