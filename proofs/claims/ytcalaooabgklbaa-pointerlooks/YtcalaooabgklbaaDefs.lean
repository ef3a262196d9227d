/- The functions of the chapter, as the evaluator has them. -/
import Derived.Test.YtcalaooabgklbaaRows
import Derived.Test.YtcalaooabgklbaaEv38
set_option linter.all false
namespace Go.Proofs.Ytcalaooabgklbaa
open Go.Ev

def cfg : Cfg := { rw := fun _ => [], dat := fun _ => true, inl := fun _ => false, roll := fun _ => 0, join := fun _ => true }
noncomputable def ev (n : Nat) (f : FuncId) (args : List AV) : Option (List AV) := evF Try.prog cfg n f args
noncomputable def lp (m n f k nr : Nat) (s : St) : Option LR := lpF Try.prog cfg m n f k nr s

-- "bodega/bodegalaw19.PointerWords"
theorem ev3 (n : Nat) (a0_0 : Int) (a0_1 : Int) (a0_2 : Int) (a0_3 : Int) (a0_4 : Int) (a0_5 : Bool) (a1_0 : Int) : ev (n + 1) 3 [(.agg [(.v (.int .i64 a0_0)), (.v (.int .i64 a0_1)), (.v (.int .i64 a0_2)), (.v (.int .u32 a0_3)), (.v (.int .u64 a0_4)), (.v (.bool a0_5))]), (.v (.int .u32 a1_0))] =
  (ev n 11 [(.agg [(.v (.int .i64 a0_0)), (.v (.int .i64 a0_1)), (.v (.int .i64 a0_2)), (.v (.int .u32 a0_3)), (.v (.int .u64 a0_4)), (.v (.bool a0_5))])]).bind fun r0 =>
  cond ((Ev.isAgg 6 (cellAt r0 0)) && ((isI .i64 (cellAt (obCells (cellAt r0 0)) 0)) && ((isI .i64 (cellAt (obCells (cellAt r0 0)) 1)) && ((isI .i64 (cellAt (obCells (cellAt r0 0)) 2)) && ((isI .u32 (cellAt (obCells (cellAt r0 0)) 3)) && ((isI .u64 (cellAt (obCells (cellAt r0 0)) 4)) && (isB (cellAt (obCells (cellAt r0 0)) 5))))))))
   ((ev n 12 [(.v (.int .u32 (avInt (cellAt (obCells (cellAt r0 0)) 3))))]).bind fun r1 =>
    cond ((Ev.isAgg 2 (cellAt r1 0)) && ((isI .i64 (cellAt (obCells (cellAt r1 0)) 0)) && (isI .i64 (cellAt (obCells (cellAt r1 0)) 1))))
     ((ev n 13 [(.v (.int .u64 (avInt (cellAt (obCells (cellAt r0 0)) 4))))]).bind fun r2 =>
      cond ((Ev.isAgg 3 (cellAt r2 0)) && ((isI .i64 (cellAt (obCells (cellAt r2 0)) 0)) && ((isI .i64 (cellAt (obCells (cellAt r2 0)) 1)) && (isI .u32 (cellAt (obCells (cellAt r2 0)) 2)))))
       ((ev n 14 [(.agg [(.v (.int .i64 (avInt (cellAt (obCells (cellAt r0 0)) 2)))), (.v (.int .i64 (avInt (cellAt (obCells (cellAt r0 0)) 1)))), (.v (.int .u32 a1_0))])]).bind fun r3 =>
        cond (isI .u64 (cellAt r3 0))
         ((((ev n 15 []).bind fun r4 =>
              cond (isB (cellAt r4 0))
               (cond (!(avBool (cellAt r4 0)))
                 (some ⟨(some 1000001), ⟨[(1, (.v (.int .u32 a1_0))), (2, (.ptr 0 0 0)), (6, (.ptr 1 0 0)), (7, (.ptr 2 0 0)), (8, (.v (.int .u64 (avInt (cellAt r3 0))))), (47, (.v (.bool true)))], [⟨1, 25, 6, true, [[(.v (.int .i64 (avInt (cellAt (obCells (cellAt r0 0)) 0)))), (.v (.int .i64 (avInt (cellAt (obCells (cellAt r0 0)) 1)))), (.v (.int .i64 (avInt (cellAt (obCells (cellAt r0 0)) 2)))), (.v (.int .u32 (avInt (cellAt (obCells (cellAt r0 0)) 3)))), (.v (.int .u64 (avInt (cellAt (obCells (cellAt r0 0)) 4)))), (.v (.bool (avBool (cellAt (obCells (cellAt r0 0)) 5))))]]⟩, ⟨1, 28, 2, true, [[(.v (.int .i64 (avInt (cellAt (obCells (cellAt r1 0)) 0)))), (.v (.int .i64 (avInt (cellAt (obCells (cellAt r1 0)) 1))))]]⟩, ⟨1, 31, 3, true, [[(.v (.int .i64 (avInt (cellAt (obCells (cellAt r2 0)) 0)))), (.v (.int .i64 (avInt (cellAt (obCells (cellAt r2 0)) 1)))), (.v (.int .u32 (avInt (cellAt (obCells (cellAt r2 0)) 2))))]]⟩]⟩, []⟩)
                 ((ev n 16 [(.agg [(.v (.int .i64 (avInt (cellAt (obCells (cellAt r0 0)) 0)))), (.v (.int .i64 (avInt (cellAt (obCells (cellAt r0 0)) 1))))])]).bind fun r5 =>
                  cond (isB (cellAt r5 0))
                   ((ev n 18 [(.agg [(.v (.int .i64 (avInt (cellAt (obCells (cellAt r0 0)) 0)))), (.v (.int .i64 (avInt (cellAt (obCells (cellAt r0 0)) 1))))])]).bind fun r6 =>
                    cond ((Ev.isAgg 2 (cellAt r6 0)) && ((isI .i64 (cellAt (obCells (cellAt r6 0)) 0)) && (isI .i64 (cellAt (obCells (cellAt r6 0)) 1))))
                     ((ev n 17 [(.agg [(.v (.int .i64 (avInt (cellAt (obCells (cellAt r6 0)) 0)))), (.v (.int .i64 (avInt (cellAt (obCells (cellAt r6 0)) 1))))])]).bind fun r7 =>
                      cond (isB (cellAt r7 0))
                       (cond (!((avBool (cellAt r5 0)) == (avBool (cellAt r7 0))))
                         (some ⟨(some 1000001), ⟨[(1, (.v (.int .u32 a1_0))), (2, (.ptr 0 0 0)), (6, (.ptr 1 0 0)), (7, (.ptr 2 0 0)), (8, (.v (.int .u64 (avInt (cellAt r3 0))))), (47, (.v (.bool true)))], [⟨1, 25, 6, true, [[(.v (.int .i64 (avInt (cellAt (obCells (cellAt r0 0)) 0)))), (.v (.int .i64 (avInt (cellAt (obCells (cellAt r0 0)) 1)))), (.v (.int .i64 (avInt (cellAt (obCells (cellAt r0 0)) 2)))), (.v (.int .u32 (avInt (cellAt (obCells (cellAt r0 0)) 3)))), (.v (.int .u64 (avInt (cellAt (obCells (cellAt r0 0)) 4)))), (.v (.bool (avBool (cellAt (obCells (cellAt r0 0)) 5))))]]⟩, ⟨1, 28, 2, true, [[(.v (.int .i64 (avInt (cellAt (obCells (cellAt r1 0)) 0)))), (.v (.int .i64 (avInt (cellAt (obCells (cellAt r1 0)) 1))))]]⟩, ⟨1, 31, 3, true, [[(.v (.int .i64 (avInt (cellAt (obCells (cellAt r2 0)) 0)))), (.v (.int .i64 (avInt (cellAt (obCells (cellAt r2 0)) 1)))), (.v (.int .u32 (avInt (cellAt (obCells (cellAt r2 0)) 2))))]]⟩]⟩, []⟩)
                         ((ev n 19 [(.agg [(.v (.int .i64 (avInt (cellAt (obCells (cellAt r0 0)) 0)))), (.v (.int .i64 (avInt (cellAt (obCells (cellAt r0 0)) 1))))])]).bind fun r8 =>
                          cond (isI .u32 (cellAt r8 0))
                           ((ev n 18 [(.agg [(.v (.int .i64 (avInt (cellAt (obCells (cellAt r0 0)) 0)))), (.v (.int .i64 (avInt (cellAt (obCells (cellAt r0 0)) 1))))])]).bind fun r9 =>
                            cond ((Ev.isAgg 2 (cellAt r9 0)) && ((isI .i64 (cellAt (obCells (cellAt r9 0)) 0)) && (isI .i64 (cellAt (obCells (cellAt r9 0)) 1))))
                             ((ev n 20 [(.agg [(.v (.int .i64 (avInt (cellAt (obCells (cellAt r9 0)) 0)))), (.v (.int .i64 (avInt (cellAt (obCells (cellAt r9 0)) 1))))])]).bind fun r10 =>
                              cond (isI .u32 (cellAt r10 0))
                               (some ⟨(some 1000001), ⟨[(1, (.v (.int .u32 a1_0))), (2, (.ptr 0 0 0)), (6, (.ptr 1 0 0)), (7, (.ptr 2 0 0)), (8, (.v (.int .u64 (avInt (cellAt r3 0))))), (47, (.v (.bool (!((avInt (cellAt r8 0)) == (avInt (cellAt r10 0)))))))], [⟨1, 25, 6, true, [[(.v (.int .i64 (avInt (cellAt (obCells (cellAt r0 0)) 0)))), (.v (.int .i64 (avInt (cellAt (obCells (cellAt r0 0)) 1)))), (.v (.int .i64 (avInt (cellAt (obCells (cellAt r0 0)) 2)))), (.v (.int .u32 (avInt (cellAt (obCells (cellAt r0 0)) 3)))), (.v (.int .u64 (avInt (cellAt (obCells (cellAt r0 0)) 4)))), (.v (.bool (avBool (cellAt (obCells (cellAt r0 0)) 5))))]]⟩, ⟨1, 28, 2, true, [[(.v (.int .i64 (avInt (cellAt (obCells (cellAt r1 0)) 0)))), (.v (.int .i64 (avInt (cellAt (obCells (cellAt r1 0)) 1))))]]⟩, ⟨1, 31, 3, true, [[(.v (.int .i64 (avInt (cellAt (obCells (cellAt r2 0)) 0)))), (.v (.int .i64 (avInt (cellAt (obCells (cellAt r2 0)) 1)))), (.v (.int .u32 (avInt (cellAt (obCells (cellAt r2 0)) 2))))]]⟩]⟩, []⟩)
                               (none))
                             (none))
                           (none)))
                       (none))
                     (none))
                   (none)))
               (none)).bind fun j11 =>
            cond (isEx 1000001 j11)
             (cond (likeStG ⟨[(1, (.v (.int .u32 a1_0))), (2, (.ptr 0 0 0)), (6, (.ptr 1 0 0)), (7, (.ptr 2 0 0)), (8, (.v (.int .u64 (avInt (cellAt r3 0))))), (47, (.v (.bool false)))], [⟨1, 25, 6, true, [[(.v (.int .i64 (avInt (cellAt (obCells (cellAt r0 0)) 0)))), (.v (.int .i64 (avInt (cellAt (obCells (cellAt r0 0)) 1)))), (.v (.int .i64 (avInt (cellAt (obCells (cellAt r0 0)) 2)))), (.v (.int .u32 (avInt (cellAt (obCells (cellAt r0 0)) 3)))), (.v (.int .u64 (avInt (cellAt (obCells (cellAt r0 0)) 4)))), (.v (.bool (avBool (cellAt (obCells (cellAt r0 0)) 5))))]]⟩, ⟨1, 28, 2, true, [[(.v (.int .i64 (avInt (cellAt (obCells (cellAt r1 0)) 0)))), (.v (.int .i64 (avInt (cellAt (obCells (cellAt r1 0)) 1))))]]⟩, ⟨1, 31, 3, true, [[(.v (.int .i64 (avInt (cellAt (obCells (cellAt r2 0)) 0)))), (.v (.int .i64 (avInt (cellAt (obCells (cellAt r2 0)) 1)))), (.v (.int .u32 (avInt (cellAt (obCells (cellAt r2 0)) 2))))]]⟩]⟩ j11.st)
               (cond (avBool (frAt j11.st.fr 5).2)
                 (some ⟨none, ⟨[], []⟩, [(.v (.bool false))]⟩)
                 (some ⟨(some 1000001), ⟨[(1, (.v (.int .u32 (avInt (frAt j11.st.fr 0).2)))), (2, (.ptr 0 0 0)), (6, (.ptr 1 0 0)), (7, (.ptr 2 0 0)), (8, (.v (.int .u64 (avInt (frAt j11.st.fr 4).2))))], [⟨1, 25, 6, true, [[(.v (.int .i64 (avInt (cellAt (lget (blAt j11.st.bl 0).xs 0) 0)))), (.v (.int .i64 (avInt (cellAt (lget (blAt j11.st.bl 0).xs 0) 1)))), (.v (.int .i64 (avInt (cellAt (lget (blAt j11.st.bl 0).xs 0) 2)))), (.v (.int .u32 (avInt (cellAt (lget (blAt j11.st.bl 0).xs 0) 3)))), (.v (.int .u64 (avInt (cellAt (lget (blAt j11.st.bl 0).xs 0) 4)))), (.v (.bool (avBool (cellAt (lget (blAt j11.st.bl 0).xs 0) 5))))]]⟩, ⟨1, 28, 2, true, [[(.v (.int .i64 (avInt (cellAt (lget (blAt j11.st.bl 1).xs 0) 0)))), (.v (.int .i64 (avInt (cellAt (lget (blAt j11.st.bl 1).xs 0) 1))))]]⟩, ⟨1, 31, 3, true, [[(.v (.int .i64 (avInt (cellAt (lget (blAt j11.st.bl 2).xs 0) 0)))), (.v (.int .i64 (avInt (cellAt (lget (blAt j11.st.bl 2).xs 0) 1)))), (.v (.int .u32 (avInt (cellAt (lget (blAt j11.st.bl 2).xs 0) 2))))]]⟩]⟩, []⟩))
               (none))
             (cond (isRt j11)
               (some ⟨none, ⟨[], []⟩, j11.outs⟩)
               (none))).bind fun j12 =>
          cond (isEx 1000001 j12)
           (cond (likeStG ⟨[(1, (.v (.int .u32 a1_0))), (2, (.ptr 0 0 0)), (6, (.ptr 1 0 0)), (7, (.ptr 2 0 0)), (8, (.v (.int .u64 (avInt (cellAt r3 0)))))], [⟨1, 25, 6, true, [[(.v (.int .i64 (avInt (cellAt (obCells (cellAt r0 0)) 0)))), (.v (.int .i64 (avInt (cellAt (obCells (cellAt r0 0)) 1)))), (.v (.int .i64 (avInt (cellAt (obCells (cellAt r0 0)) 2)))), (.v (.int .u32 (avInt (cellAt (obCells (cellAt r0 0)) 3)))), (.v (.int .u64 (avInt (cellAt (obCells (cellAt r0 0)) 4)))), (.v (.bool (avBool (cellAt (obCells (cellAt r0 0)) 5))))]]⟩, ⟨1, 28, 2, true, [[(.v (.int .i64 (avInt (cellAt (obCells (cellAt r1 0)) 0)))), (.v (.int .i64 (avInt (cellAt (obCells (cellAt r1 0)) 1))))]]⟩, ⟨1, 31, 3, true, [[(.v (.int .i64 (avInt (cellAt (obCells (cellAt r2 0)) 0)))), (.v (.int .i64 (avInt (cellAt (obCells (cellAt r2 0)) 1)))), (.v (.int .u32 (avInt (cellAt (obCells (cellAt r2 0)) 2))))]]⟩]⟩ j12.st)
             ((((ev n 21 [(.agg [(.v (.int .i64 (avInt (cellAt (lget (blAt j12.st.bl 0).xs 0) 0)))), (.v (.int .u64 (avInt (cellAt (lget (blAt j12.st.bl 0).xs 0) 4)))), (.v (.int .u64 (avInt (cellAt (lget (blAt j12.st.bl 0).xs 0) 4)))), (.v (.int .u64 0)), (.v (.int .u64 0)), (.v (.int .u64 0)), (.v (.int .u64 0)), (.v (.int .u64 0)), (.v (.int .u64 0))])]).bind fun r13 =>
                  cond ((Ev.isAgg 2 (cellAt r13 0)) && ((isI .i64 (cellAt (obCells (cellAt r13 0)) 0)) && (isI .i64 (cellAt (obCells (cellAt r13 0)) 1))))
                   ((ev n 18 [(.agg [(.v (.int .i64 (avInt (cellAt (obCells (cellAt r13 0)) 0)))), (.v (.int .i64 (avInt (cellAt (obCells (cellAt r13 0)) 1))))])]).bind fun r14 =>
                    cond ((Ev.isAgg 2 (cellAt r14 0)) && ((isI .i64 (cellAt (obCells (cellAt r14 0)) 0)) && (isI .i64 (cellAt (obCells (cellAt r14 0)) 1))))
                     ((ev n 22 [(.agg [(.v (.int .i64 (avInt (cellAt (lget (blAt j12.st.bl 0).xs 0) 0)))), (.v (.int .u64 (avInt (cellAt (lget (blAt j12.st.bl 0).xs 0) 4)))), (.v (.int .u64 (avInt (cellAt (lget (blAt j12.st.bl 0).xs 0) 4)))), (.v (.int .u64 0)), (.v (.int .u64 0)), (.v (.int .u64 0)), (.v (.int .u64 0)), (.v (.int .u64 0)), (.v (.int .u64 0))])]).bind fun r15 =>
                      cond ((Ev.isAgg 2 (cellAt r15 0)) && ((isI .i64 (cellAt (obCells (cellAt r15 0)) 0)) && (isI .i64 (cellAt (obCells (cellAt r15 0)) 1))))
                       (cond (!(((avInt (cellAt (obCells (cellAt r14 0)) 0)) == (avInt (cellAt (obCells (cellAt r15 0)) 0))) && ((avInt (cellAt (obCells (cellAt r14 0)) 1)) == (avInt (cellAt (obCells (cellAt r15 0)) 1)))))
                         (some ⟨(some 1000001), ⟨[(1, (.v (.int .u32 (avInt (frAt j12.st.fr 0).2)))), (2, (.ptr 0 0 0)), (6, (.ptr 1 0 0)), (7, (.ptr 2 0 0)), (8, (.v (.int .u64 (avInt (frAt j12.st.fr 4).2)))), (9, (.ptr 3 0 0)), (69, (.v (.bool true)))], [⟨1, 25, 6, true, [[(.v (.int .i64 (avInt (cellAt (lget (blAt j12.st.bl 0).xs 0) 0)))), (.v (.int .i64 (avInt (cellAt (lget (blAt j12.st.bl 0).xs 0) 1)))), (.v (.int .i64 (avInt (cellAt (lget (blAt j12.st.bl 0).xs 0) 2)))), (.v (.int .u32 (avInt (cellAt (lget (blAt j12.st.bl 0).xs 0) 3)))), (.v (.int .u64 (avInt (cellAt (lget (blAt j12.st.bl 0).xs 0) 4)))), (.v (.bool (avBool (cellAt (lget (blAt j12.st.bl 0).xs 0) 5))))]]⟩, ⟨1, 28, 2, true, [[(.v (.int .i64 (avInt (cellAt (lget (blAt j12.st.bl 1).xs 0) 0)))), (.v (.int .i64 (avInt (cellAt (lget (blAt j12.st.bl 1).xs 0) 1))))]]⟩, ⟨1, 31, 3, true, [[(.v (.int .i64 (avInt (cellAt (lget (blAt j12.st.bl 2).xs 0) 0)))), (.v (.int .i64 (avInt (cellAt (lget (blAt j12.st.bl 2).xs 0) 1)))), (.v (.int .u32 (avInt (cellAt (lget (blAt j12.st.bl 2).xs 0) 2))))]]⟩, ⟨1, 43, 9, true, [[(.v (.int .i64 (avInt (cellAt (lget (blAt j12.st.bl 0).xs 0) 0)))), (.v (.int .u64 (avInt (cellAt (lget (blAt j12.st.bl 0).xs 0) 4)))), (.v (.int .u64 (avInt (cellAt (lget (blAt j12.st.bl 0).xs 0) 4)))), (.v (.int .u64 0)), (.v (.int .u64 0)), (.v (.int .u64 0)), (.v (.int .u64 0)), (.v (.int .u64 0)), (.v (.int .u64 0))]]⟩]⟩, []⟩)
                         ((ev n 23 [(.agg [(.v (.int .i64 (avInt (cellAt (lget (blAt j12.st.bl 0).xs 0) 0)))), (.v (.int .u64 (avInt (cellAt (lget (blAt j12.st.bl 0).xs 0) 4)))), (.v (.int .u64 (avInt (cellAt (lget (blAt j12.st.bl 0).xs 0) 4)))), (.v (.int .u64 0)), (.v (.int .u64 0)), (.v (.int .u64 0)), (.v (.int .u64 0)), (.v (.int .u64 0)), (.v (.int .u64 0))])]).bind fun r16 =>
                          cond (isB (cellAt r16 0))
                           ((ev n 24 [(.agg [(.v (.int .i64 (avInt (cellAt (lget (blAt j12.st.bl 0).xs 0) 0)))), (.v (.int .u64 (avInt (cellAt (lget (blAt j12.st.bl 0).xs 0) 4)))), (.v (.int .u64 (avInt (cellAt (lget (blAt j12.st.bl 0).xs 0) 4)))), (.v (.int .u64 0)), (.v (.int .u64 0)), (.v (.int .u64 0)), (.v (.int .u64 0)), (.v (.int .u64 0)), (.v (.int .u64 0))])]).bind fun r17 =>
                            cond (isB (cellAt r17 0))
                             (some ⟨(some 1000001), ⟨[(1, (.v (.int .u32 (avInt (frAt j12.st.fr 0).2)))), (2, (.ptr 0 0 0)), (6, (.ptr 1 0 0)), (7, (.ptr 2 0 0)), (8, (.v (.int .u64 (avInt (frAt j12.st.fr 4).2)))), (9, (.ptr 3 0 0)), (69, (.v (.bool (!((avBool (cellAt r16 0)) == (avBool (cellAt r17 0)))))))], [⟨1, 25, 6, true, [[(.v (.int .i64 (avInt (cellAt (lget (blAt j12.st.bl 0).xs 0) 0)))), (.v (.int .i64 (avInt (cellAt (lget (blAt j12.st.bl 0).xs 0) 1)))), (.v (.int .i64 (avInt (cellAt (lget (blAt j12.st.bl 0).xs 0) 2)))), (.v (.int .u32 (avInt (cellAt (lget (blAt j12.st.bl 0).xs 0) 3)))), (.v (.int .u64 (avInt (cellAt (lget (blAt j12.st.bl 0).xs 0) 4)))), (.v (.bool (avBool (cellAt (lget (blAt j12.st.bl 0).xs 0) 5))))]]⟩, ⟨1, 28, 2, true, [[(.v (.int .i64 (avInt (cellAt (lget (blAt j12.st.bl 1).xs 0) 0)))), (.v (.int .i64 (avInt (cellAt (lget (blAt j12.st.bl 1).xs 0) 1))))]]⟩, ⟨1, 31, 3, true, [[(.v (.int .i64 (avInt (cellAt (lget (blAt j12.st.bl 2).xs 0) 0)))), (.v (.int .i64 (avInt (cellAt (lget (blAt j12.st.bl 2).xs 0) 1)))), (.v (.int .u32 (avInt (cellAt (lget (blAt j12.st.bl 2).xs 0) 2))))]]⟩, ⟨1, 43, 9, true, [[(.v (.int .i64 (avInt (cellAt (lget (blAt j12.st.bl 0).xs 0) 0)))), (.v (.int .u64 (avInt (cellAt (lget (blAt j12.st.bl 0).xs 0) 4)))), (.v (.int .u64 (avInt (cellAt (lget (blAt j12.st.bl 0).xs 0) 4)))), (.v (.int .u64 0)), (.v (.int .u64 0)), (.v (.int .u64 0)), (.v (.int .u64 0)), (.v (.int .u64 0)), (.v (.int .u64 0))]]⟩]⟩, []⟩)
                             (none))
                           (none)))
                       (none))
                     (none))
                   (none)).bind fun j18 =>
                cond (isEx 1000001 j18)
                 (cond (likeStG ⟨[(1, (.v (.int .u32 (avInt (frAt j12.st.fr 0).2)))), (2, (.ptr 0 0 0)), (6, (.ptr 1 0 0)), (7, (.ptr 2 0 0)), (8, (.v (.int .u64 (avInt (frAt j12.st.fr 4).2)))), (9, (.ptr 3 0 0)), (69, (.v (.bool false)))], [⟨1, 25, 6, true, [[(.v (.int .i64 (avInt (cellAt (lget (blAt j12.st.bl 0).xs 0) 0)))), (.v (.int .i64 (avInt (cellAt (lget (blAt j12.st.bl 0).xs 0) 1)))), (.v (.int .i64 (avInt (cellAt (lget (blAt j12.st.bl 0).xs 0) 2)))), (.v (.int .u32 (avInt (cellAt (lget (blAt j12.st.bl 0).xs 0) 3)))), (.v (.int .u64 (avInt (cellAt (lget (blAt j12.st.bl 0).xs 0) 4)))), (.v (.bool (avBool (cellAt (lget (blAt j12.st.bl 0).xs 0) 5))))]]⟩, ⟨1, 28, 2, true, [[(.v (.int .i64 (avInt (cellAt (lget (blAt j12.st.bl 1).xs 0) 0)))), (.v (.int .i64 (avInt (cellAt (lget (blAt j12.st.bl 1).xs 0) 1))))]]⟩, ⟨1, 31, 3, true, [[(.v (.int .i64 (avInt (cellAt (lget (blAt j12.st.bl 2).xs 0) 0)))), (.v (.int .i64 (avInt (cellAt (lget (blAt j12.st.bl 2).xs 0) 1)))), (.v (.int .u32 (avInt (cellAt (lget (blAt j12.st.bl 2).xs 0) 2))))]]⟩, ⟨1, 43, 9, true, [[(.v (.int .i64 (avInt (cellAt (lget (blAt j12.st.bl 0).xs 0) 0)))), (.v (.int .u64 (avInt (cellAt (lget (blAt j12.st.bl 0).xs 0) 4)))), (.v (.int .u64 (avInt (cellAt (lget (blAt j12.st.bl 0).xs 0) 4)))), (.v (.int .u64 0)), (.v (.int .u64 0)), (.v (.int .u64 0)), (.v (.int .u64 0)), (.v (.int .u64 0)), (.v (.int .u64 0))]]⟩]⟩ j18.st)
                   (cond (avBool (frAt j18.st.fr 6).2)
                     (some ⟨none, ⟨[], []⟩, [(.v (.bool false))]⟩)
                     (some ⟨(some 1000001), ⟨[(1, (.v (.int .u32 (avInt (frAt j18.st.fr 0).2)))), (2, (.ptr 0 0 0)), (6, (.ptr 1 0 0)), (7, (.ptr 2 0 0)), (8, (.v (.int .u64 (avInt (frAt j18.st.fr 4).2)))), (9, (.ptr 3 0 0))], [⟨1, 25, 6, true, [[(.v (.int .i64 (avInt (cellAt (lget (blAt j18.st.bl 0).xs 0) 0)))), (.v (.int .i64 (avInt (cellAt (lget (blAt j18.st.bl 0).xs 0) 1)))), (.v (.int .i64 (avInt (cellAt (lget (blAt j18.st.bl 0).xs 0) 2)))), (.v (.int .u32 (avInt (cellAt (lget (blAt j18.st.bl 0).xs 0) 3)))), (.v (.int .u64 (avInt (cellAt (lget (blAt j18.st.bl 0).xs 0) 4)))), (.v (.bool (avBool (cellAt (lget (blAt j18.st.bl 0).xs 0) 5))))]]⟩, ⟨1, 28, 2, true, [[(.v (.int .i64 (avInt (cellAt (lget (blAt j18.st.bl 1).xs 0) 0)))), (.v (.int .i64 (avInt (cellAt (lget (blAt j18.st.bl 1).xs 0) 1))))]]⟩, ⟨1, 31, 3, true, [[(.v (.int .i64 (avInt (cellAt (lget (blAt j18.st.bl 2).xs 0) 0)))), (.v (.int .i64 (avInt (cellAt (lget (blAt j18.st.bl 2).xs 0) 1)))), (.v (.int .u32 (avInt (cellAt (lget (blAt j18.st.bl 2).xs 0) 2))))]]⟩, ⟨1, 43, 9, true, [[(.v (.int .i64 (avInt (cellAt (lget (blAt j18.st.bl 3).xs 0) 0)))), (.v (.int .u64 (avInt (cellAt (lget (blAt j18.st.bl 3).xs 0) 1)))), (.v (.int .u64 (avInt (cellAt (lget (blAt j18.st.bl 3).xs 0) 2)))), (.v (.int .u64 (avInt (cellAt (lget (blAt j18.st.bl 3).xs 0) 3)))), (.v (.int .u64 (avInt (cellAt (lget (blAt j18.st.bl 3).xs 0) 4)))), (.v (.int .u64 (avInt (cellAt (lget (blAt j18.st.bl 3).xs 0) 5)))), (.v (.int .u64 (avInt (cellAt (lget (blAt j18.st.bl 3).xs 0) 6)))), (.v (.int .u64 (avInt (cellAt (lget (blAt j18.st.bl 3).xs 0) 7)))), (.v (.int .u64 (avInt (cellAt (lget (blAt j18.st.bl 3).xs 0) 8))))]]⟩]⟩, []⟩))
                   (none))
                 (cond (isRt j18)
                   (some ⟨none, ⟨[], []⟩, j18.outs⟩)
                   (none))).bind fun j19 =>
              cond (isEx 1000001 j19)
               (cond (likeStG ⟨[(1, (.v (.int .u32 (avInt (frAt j12.st.fr 0).2)))), (2, (.ptr 0 0 0)), (6, (.ptr 1 0 0)), (7, (.ptr 2 0 0)), (8, (.v (.int .u64 (avInt (frAt j12.st.fr 4).2)))), (9, (.ptr 3 0 0))], [⟨1, 25, 6, true, [[(.v (.int .i64 (avInt (cellAt (lget (blAt j12.st.bl 0).xs 0) 0)))), (.v (.int .i64 (avInt (cellAt (lget (blAt j12.st.bl 0).xs 0) 1)))), (.v (.int .i64 (avInt (cellAt (lget (blAt j12.st.bl 0).xs 0) 2)))), (.v (.int .u32 (avInt (cellAt (lget (blAt j12.st.bl 0).xs 0) 3)))), (.v (.int .u64 (avInt (cellAt (lget (blAt j12.st.bl 0).xs 0) 4)))), (.v (.bool (avBool (cellAt (lget (blAt j12.st.bl 0).xs 0) 5))))]]⟩, ⟨1, 28, 2, true, [[(.v (.int .i64 (avInt (cellAt (lget (blAt j12.st.bl 1).xs 0) 0)))), (.v (.int .i64 (avInt (cellAt (lget (blAt j12.st.bl 1).xs 0) 1))))]]⟩, ⟨1, 31, 3, true, [[(.v (.int .i64 (avInt (cellAt (lget (blAt j12.st.bl 2).xs 0) 0)))), (.v (.int .i64 (avInt (cellAt (lget (blAt j12.st.bl 2).xs 0) 1)))), (.v (.int .u32 (avInt (cellAt (lget (blAt j12.st.bl 2).xs 0) 2))))]]⟩, ⟨1, 43, 9, true, [[(.v (.int .i64 (avInt (cellAt (lget (blAt j12.st.bl 0).xs 0) 0)))), (.v (.int .u64 (avInt (cellAt (lget (blAt j12.st.bl 0).xs 0) 4)))), (.v (.int .u64 (avInt (cellAt (lget (blAt j12.st.bl 0).xs 0) 4)))), (.v (.int .u64 0)), (.v (.int .u64 0)), (.v (.int .u64 0)), (.v (.int .u64 0)), (.v (.int .u64 0)), (.v (.int .u64 0))]]⟩]⟩ j19.st)
                 ((ev n 18 [(.agg [(.v (.int .i64 (avInt (cellAt (lget (blAt j19.st.bl 1).xs 0) 0)))), (.v (.int .i64 (avInt (cellAt (lget (blAt j19.st.bl 1).xs 0) 1))))])]).bind fun r20 =>
                  cond ((Ev.isAgg 2 (cellAt r20 0)) && ((isI .i64 (cellAt (obCells (cellAt r20 0)) 0)) && (isI .i64 (cellAt (obCells (cellAt r20 0)) 1))))
                   ((ev n 25 [(.v (.int .u32 (avInt (cellAt (lget (blAt j19.st.bl 0).xs 0) 3))))]).bind fun r21 =>
                    cond ((Ev.isAgg 2 (cellAt r21 0)) && ((isI .i64 (cellAt (obCells (cellAt r21 0)) 0)) && (isI .i64 (cellAt (obCells (cellAt r21 0)) 1))))
                     (cond (((avInt (cellAt (obCells (cellAt r20 0)) 0)) == (avInt (cellAt (obCells (cellAt r21 0)) 0))) && ((avInt (cellAt (obCells (cellAt r20 0)) 1)) == (avInt (cellAt (obCells (cellAt r21 0)) 1))))
                       (cond ((avInt (cellAt (lget (blAt j19.st.bl 2).xs 0) 0)) == (IntKind.wrap .i64 (Int.tmod (avInt (cellAt (lget (blAt j19.st.bl 0).xs 0) 4)) 256)))
                         ((ev n 26 [(.agg [(.v (.int .i64 (avInt (cellAt (lget (blAt j19.st.bl 3).xs 0) 0)))), (.v (.int .u64 (avInt (cellAt (lget (blAt j19.st.bl 3).xs 0) 1)))), (.v (.int .u64 (avInt (cellAt (lget (blAt j19.st.bl 3).xs 0) 2)))), (.v (.int .u64 (avInt (cellAt (lget (blAt j19.st.bl 3).xs 0) 3)))), (.v (.int .u64 (avInt (cellAt (lget (blAt j19.st.bl 3).xs 0) 4)))), (.v (.int .u64 (avInt (cellAt (lget (blAt j19.st.bl 3).xs 0) 5)))), (.v (.int .u64 (avInt (cellAt (lget (blAt j19.st.bl 3).xs 0) 6)))), (.v (.int .u64 (avInt (cellAt (lget (blAt j19.st.bl 3).xs 0) 7)))), (.v (.int .u64 (avInt (cellAt (lget (blAt j19.st.bl 3).xs 0) 8))))])]).bind fun r22 =>
                          cond (isI .i64 (cellAt r22 0))
                           (cond ((avInt (cellAt (lget (blAt j19.st.bl 2).xs 0) 1)) == (avInt (cellAt r22 0)))
                             (cond ((avInt (cellAt (lget (blAt j19.st.bl 2).xs 0) 2)) == (IntKind.wrap .u32 (Int.fdiv (avInt (cellAt (lget (blAt j19.st.bl 0).xs 0) 4)) (2 ^ 32))))
                               ((ev n 27 [(.v (.int .i64 (avInt (cellAt (lget (blAt j19.st.bl 0).xs 0) 2)))), (.v (.int .i64 (avInt (cellAt (lget (blAt j19.st.bl 0).xs 0) 1)))), (.v (.int .u32 (avInt (frAt j19.st.fr 0).2)))]).bind fun r23 =>
                                cond (isI .u64 (cellAt r23 0))
                                 (some [(.v (.bool ((avInt (frAt j19.st.fr 4).2) == (avInt (cellAt r23 0)))))])
                                 (none))
                               (some [(.v (.bool false))]))
                             (some [(.v (.bool false))]))
                           (none))
                         (some [(.v (.bool false))]))
                       (some [(.v (.bool false))]))
                     (none))
                   (none))
                 (none))
               (cond (isRt j19)
                 (some j19.outs)
                 (none)))
             (none))
           (cond (isRt j12)
             (some j12.outs)
             (none)))
         (none))
       (none))
     (none))
   (none) := by kernel_rfl
-- "bodega/bodegalaw19.PointerRound"
theorem ev4 (n : Nat) (a0_0 : Int) (a1_0 : Int) (a2_0 : Int) (a2_1 : Int) (a2_2 : Int) (a2_3 : Int) (a2_4 : Int) (a2_5 : Bool) : ev (n + 1) 4 [(.v (.int .u32 a0_0)), (.v (.int .u64 a1_0)), (.agg [(.v (.int .i64 a2_0)), (.v (.int .i64 a2_1)), (.v (.int .i64 a2_2)), (.v (.int .u32 a2_3)), (.v (.int .u64 a2_4)), (.v (.bool a2_5))])] =
  (ev n 11 [(.agg [(.v (.int .i64 a2_0)), (.v (.int .i64 a2_1)), (.v (.int .i64 a2_2)), (.v (.int .u32 a2_3)), (.v (.int .u64 a2_4)), (.v (.bool a2_5))])]).bind fun r0 =>
  cond ((Ev.isAgg 6 (cellAt r0 0)) && ((isI .i64 (cellAt (obCells (cellAt r0 0)) 0)) && ((isI .i64 (cellAt (obCells (cellAt r0 0)) 1)) && ((isI .i64 (cellAt (obCells (cellAt r0 0)) 2)) && ((isI .u32 (cellAt (obCells (cellAt r0 0)) 3)) && ((isI .u64 (cellAt (obCells (cellAt r0 0)) 4)) && (isB (cellAt (obCells (cellAt r0 0)) 5))))))))
   ((ev n 12 [(.v (.int .u32 a0_0))]).bind fun r1 =>
    cond ((Ev.isAgg 2 (cellAt r1 0)) && ((isI .i64 (cellAt (obCells (cellAt r1 0)) 0)) && (isI .i64 (cellAt (obCells (cellAt r1 0)) 1))))
     ((((ev n 15 []).bind fun r2 =>
          cond (isB (cellAt r2 0))
           (cond (!(avBool (cellAt r2 0)))
             (some ⟨(some 1000001), ⟨[(1, (.v (.int .u64 a1_0))), (8, (.ptr 0 0 0)), (32, (.v (.bool true)))], [⟨1, 28, 2, true, [[(.v (.int .i64 (avInt (cellAt (obCells (cellAt r0 0)) 0)))), (.v (.int .i64 (avInt (cellAt (obCells (cellAt r0 0)) 1))))]]⟩]⟩, []⟩)
             ((ev n 16 [(.agg [(.v (.int .i64 (avInt (cellAt (obCells (cellAt r1 0)) 0)))), (.v (.int .i64 (avInt (cellAt (obCells (cellAt r1 0)) 1))))])]).bind fun r3 =>
              cond (isB (cellAt r3 0))
               ((ev n 19 [(.agg [(.v (.int .i64 (avInt (cellAt (obCells (cellAt r1 0)) 0)))), (.v (.int .i64 (avInt (cellAt (obCells (cellAt r1 0)) 1))))])]).bind fun r4 =>
                cond (isI .u32 (cellAt r4 0))
                 (cond ((avInt (cellAt r4 0)) == a0_0)
                   (some ⟨(some 1000001), ⟨[(1, (.v (.int .u64 a1_0))), (8, (.ptr 0 0 0)), (32, (.v (.bool (!((avBool (cellAt r3 0)) == (!(a0_0 == 0)))))))], [⟨1, 28, 2, true, [[(.v (.int .i64 (avInt (cellAt (obCells (cellAt r0 0)) 0)))), (.v (.int .i64 (avInt (cellAt (obCells (cellAt r0 0)) 1))))]]⟩]⟩, []⟩)
                   (some ⟨(some 1000001), ⟨[(1, (.v (.int .u64 a1_0))), (8, (.ptr 0 0 0)), (32, (.v (.bool (!((avBool (cellAt r3 0)) == false)))))], [⟨1, 28, 2, true, [[(.v (.int .i64 (avInt (cellAt (obCells (cellAt r0 0)) 0)))), (.v (.int .i64 (avInt (cellAt (obCells (cellAt r0 0)) 1))))]]⟩]⟩, []⟩))
                 (none))
               (none)))
           (none)).bind fun j5 =>
        cond (isEx 1000001 j5)
         (cond (likeStG ⟨[(1, (.v (.int .u64 a1_0))), (8, (.ptr 0 0 0)), (32, (.v (.bool false)))], [⟨1, 28, 2, true, [[(.v (.int .i64 (avInt (cellAt (obCells (cellAt r0 0)) 0)))), (.v (.int .i64 (avInt (cellAt (obCells (cellAt r0 0)) 1))))]]⟩]⟩ j5.st)
           (cond (avBool (frAt j5.st.fr 2).2)
             (some ⟨none, ⟨[], []⟩, [(.v (.bool false))]⟩)
             (some ⟨(some 1000001), ⟨[(1, (.v (.int .u64 (avInt (frAt j5.st.fr 0).2)))), (8, (.ptr 0 0 0))], [⟨1, 28, 2, true, [[(.v (.int .i64 (avInt (cellAt (lget (blAt j5.st.bl 0).xs 0) 0)))), (.v (.int .i64 (avInt (cellAt (lget (blAt j5.st.bl 0).xs 0) 1))))]]⟩]⟩, []⟩))
           (none))
         (cond (isRt j5)
           (some ⟨none, ⟨[], []⟩, j5.outs⟩)
           (none))).bind fun j6 =>
      cond (isEx 1000001 j6)
       (cond (likeStG ⟨[(1, (.v (.int .u64 a1_0))), (8, (.ptr 0 0 0))], [⟨1, 28, 2, true, [[(.v (.int .i64 (avInt (cellAt (obCells (cellAt r0 0)) 0)))), (.v (.int .i64 (avInt (cellAt (obCells (cellAt r0 0)) 1))))]]⟩]⟩ j6.st)
         ((((ev n 16 [(.agg [(.v (.int .i64 (avInt (cellAt (lget (blAt j6.st.bl 0).xs 0) 0)))), (.v (.int .i64 (avInt (cellAt (lget (blAt j6.st.bl 0).xs 0) 1))))])]).bind fun r7 =>
              cond (isB (cellAt r7 0))
               (cond (avBool (cellAt r7 0))
                 ((ev n 19 [(.agg [(.v (.int .i64 (avInt (cellAt (lget (blAt j6.st.bl 0).xs 0) 0)))), (.v (.int .i64 (avInt (cellAt (lget (blAt j6.st.bl 0).xs 0) 1))))])]).bind fun r8 =>
                  cond (isI .u32 (cellAt r8 0))
                   ((ev n 12 [(.v (.int .u32 (avInt (cellAt r8 0))))]).bind fun r9 =>
                    cond ((Ev.isAgg 2 (cellAt r9 0)) && ((isI .i64 (cellAt (obCells (cellAt r9 0)) 0)) && (isI .i64 (cellAt (obCells (cellAt r9 0)) 1))))
                     (cond (!(((avInt (cellAt (obCells (cellAt r9 0)) 0)) == (avInt (cellAt (lget (blAt j6.st.bl 0).xs 0) 0))) && ((avInt (cellAt (obCells (cellAt r9 0)) 1)) == (avInt (cellAt (lget (blAt j6.st.bl 0).xs 0) 1)))))
                       (some ⟨(some 1000001), ⟨[(1, (.v (.int .u64 (avInt (frAt j6.st.fr 0).2)))), (46, (.v (.bool true)))], []⟩, []⟩)
                       ((ev n 19 [(.agg [(.v (.int .i64 (avInt (cellAt (lget (blAt j6.st.bl 0).xs 0) 0)))), (.v (.int .i64 (avInt (cellAt (lget (blAt j6.st.bl 0).xs 0) 1))))])]).bind fun r10 =>
                        cond (isI .u32 (cellAt r10 0))
                         (some ⟨(some 1000001), ⟨[(1, (.v (.int .u64 (avInt (frAt j6.st.fr 0).2)))), (46, (.v (.bool ((avInt (cellAt r10 0)) == 0))))], []⟩, []⟩)
                         (none)))
                     (none))
                   (none))
                 (some ⟨(some 1000001), ⟨[(1, (.v (.int .u64 (avInt (frAt j6.st.fr 0).2)))), (46, (.v (.bool false)))], []⟩, []⟩))
               (none)).bind fun j11 =>
            cond (isEx 1000001 j11)
             (cond (likeStG ⟨[(1, (.v (.int .u64 (avInt (frAt j6.st.fr 0).2)))), (46, (.v (.bool false)))], []⟩ j11.st)
               (cond (avBool (frAt j11.st.fr 1).2)
                 (some ⟨none, ⟨[], []⟩, [(.v (.bool false))]⟩)
                 (some ⟨(some 1000001), ⟨[(1, (.v (.int .u64 (avInt (frAt j11.st.fr 0).2))))], []⟩, []⟩))
               (none))
             (cond (isRt j11)
               (some ⟨none, ⟨[], []⟩, j11.outs⟩)
               (none))).bind fun j12 =>
          cond (isEx 1000001 j12)
           (cond (likeStG ⟨[(1, (.v (.int .u64 (avInt (frAt j6.st.fr 0).2))))], []⟩ j12.st)
             ((ev n 13 [(.v (.int .u64 (avInt (frAt j12.st.fr 0).2)))]).bind fun r13 =>
              cond ((Ev.isAgg 3 (cellAt r13 0)) && ((isI .i64 (cellAt (obCells (cellAt r13 0)) 0)) && ((isI .i64 (cellAt (obCells (cellAt r13 0)) 1)) && (isI .u32 (cellAt (obCells (cellAt r13 0)) 2)))))
               ((ev n 14 [(.agg [(.v (.int .i64 (avInt (cellAt (obCells (cellAt r13 0)) 0)))), (.v (.int .i64 (avInt (cellAt (obCells (cellAt r13 0)) 1)))), (.v (.int .u32 (avInt (cellAt (obCells (cellAt r13 0)) 2))))])]).bind fun r14 =>
                cond (isI .u64 (cellAt r14 0))
                 (some [(.v (.bool ((avInt (cellAt r14 0)) == (avInt (frAt j12.st.fr 0).2))))])
                 (none))
               (none))
             (none))
           (cond (isRt j12)
             (some j12.outs)
             (none)))
         (none))
       (cond (isRt j6)
         (some j6.outs)
         (none)))
     (none))
   (none) := by kernel_rfl
-- "bodega/bodegalaw19.PointerLatest"
theorem ev5 (n : Nat) (a0_0n : Bool) (a0_0 : List (List AV)) (a1_0 : Int) (a1_1 : Int) (a1_2 : Int) (a1_3 : Int) (a1_4 : Int) (a1_5 : Int) (a1_6 : Int) (a1_7 : Int) (a1_8 : Int) (a2_0n : Bool) (a2_0 : List (List AV)) : ev (n + 1) 5 [(.lst a0_0n 9 a0_0), (.agg [(.v (.int .i64 a1_0)), (.v (.int .u64 a1_1)), (.v (.int .u64 a1_2)), (.v (.int .u64 a1_3)), (.v (.int .u64 a1_4)), (.v (.int .u64 a1_5)), (.v (.int .u64 a1_6)), (.v (.int .u64 a1_7)), (.v (.int .u64 a1_8))]), (.lst a2_0n 1 a2_0)] =
  ((cond (ltI 20 (((List.length a0_0) : Nat) : Int))
       (some ⟨(some 1000001), ⟨[(0, (.lst a0_0n 9 a0_0)), (2, (.lst a2_0n 1 a2_0)), (4, (.ptr 0 0 0)), (22, (.v (.bool true)))], [⟨1, 43, 9, true, [[(.v (.int .i64 a1_0)), (.v (.int .u64 a1_1)), (.v (.int .u64 a1_2)), (.v (.int .u64 a1_3)), (.v (.int .u64 a1_4)), (.v (.int .u64 a1_5)), (.v (.int .u64 a1_6)), (.v (.int .u64 a1_7)), (.v (.int .u64 a1_8))]]⟩]⟩, []⟩)
       (some ⟨(some 1000001), ⟨[(0, (.lst a0_0n 9 a0_0)), (2, (.lst a2_0n 1 a2_0)), (4, (.ptr 0 0 0)), (22, (.v (.bool (ltI 20 (((List.length a2_0) : Nat) : Int)))))], [⟨1, 43, 9, true, [[(.v (.int .i64 a1_0)), (.v (.int .u64 a1_1)), (.v (.int .u64 a1_2)), (.v (.int .u64 a1_3)), (.v (.int .u64 a1_4)), (.v (.int .u64 a1_5)), (.v (.int .u64 a1_6)), (.v (.int .u64 a1_7)), (.v (.int .u64 a1_8))]]⟩]⟩, []⟩)).bind fun j0 =>
    cond (isEx 1000001 j0)
     (cond (likeStG ⟨[(0, (.lst a0_0n 9 a0_0)), (2, (.lst a2_0n 1 a2_0)), (4, (.ptr 0 0 0)), (22, (.v (.bool false)))], [⟨1, 43, 9, true, [[(.v (.int .i64 a1_0)), (.v (.int .u64 a1_1)), (.v (.int .u64 a1_2)), (.v (.int .u64 a1_3)), (.v (.int .u64 a1_4)), (.v (.int .u64 a1_5)), (.v (.int .u64 a1_6)), (.v (.int .u64 a1_7)), (.v (.int .u64 a1_8))]]⟩]⟩ j0.st)
       (cond (avBool (frAt j0.st.fr 3).2)
         (some ⟨none, ⟨[], []⟩, [(.v (.bool true))]⟩)
         (some ⟨(some 1000001), ⟨[(0, (.lst (avNil (frAt j0.st.fr 0).2) 9 (avXs (frAt j0.st.fr 0).2))), (2, (.lst (avNil (frAt j0.st.fr 1).2) 1 (avXs (frAt j0.st.fr 1).2))), (4, (.ptr 0 0 0))], [⟨1, 43, 9, true, [[(.v (.int .i64 (avInt (cellAt (lget (blAt j0.st.bl 0).xs 0) 0)))), (.v (.int .u64 (avInt (cellAt (lget (blAt j0.st.bl 0).xs 0) 1)))), (.v (.int .u64 (avInt (cellAt (lget (blAt j0.st.bl 0).xs 0) 2)))), (.v (.int .u64 (avInt (cellAt (lget (blAt j0.st.bl 0).xs 0) 3)))), (.v (.int .u64 (avInt (cellAt (lget (blAt j0.st.bl 0).xs 0) 4)))), (.v (.int .u64 (avInt (cellAt (lget (blAt j0.st.bl 0).xs 0) 5)))), (.v (.int .u64 (avInt (cellAt (lget (blAt j0.st.bl 0).xs 0) 6)))), (.v (.int .u64 (avInt (cellAt (lget (blAt j0.st.bl 0).xs 0) 7)))), (.v (.int .u64 (avInt (cellAt (lget (blAt j0.st.bl 0).xs 0) 8))))]]⟩]⟩, []⟩))
       (none))
     (cond (isRt j0)
       (some ⟨none, ⟨[], []⟩, j0.outs⟩)
       (none))).bind fun j1 =>
  cond (isEx 1000001 j1)
   (cond (likeStG ⟨[(0, (.lst a0_0n 9 a0_0)), (2, (.lst a2_0n 1 a2_0)), (4, (.ptr 0 0 0))], [⟨1, 43, 9, true, [[(.v (.int .i64 a1_0)), (.v (.int .u64 a1_1)), (.v (.int .u64 a1_2)), (.v (.int .u64 a1_3)), (.v (.int .u64 a1_4)), (.v (.int .u64 a1_5)), (.v (.int .u64 a1_6)), (.v (.int .u64 a1_7)), (.v (.int .u64 a1_8))]]⟩]⟩ j1.st)
     (none)
     (none))
   (cond (isRt j1)
     (some j1.outs)
     (none)) := by kernel_rfl
-- "bodega/bodegalaw19.PointerAllocates"
theorem ev6 (n : Nat) (a0_0 : Int) (a0_1 : Int) (a0_2 : Int) (a0_3 : Int) (a0_4 : Int) (a0_5 : Int) (a0_6 : Int) (a0_7 : Int) (a0_8 : Int) (a1_0 : Int) (a1_1 : Int) (a1_2 : Int) (a1_3 : Int) (a1_4 : Int) (a1_5 : Bool) (a2_0 : Int) : ev (n + 1) 6 [(.agg [(.v (.int .i64 a0_0)), (.v (.int .u64 a0_1)), (.v (.int .u64 a0_2)), (.v (.int .u64 a0_3)), (.v (.int .u64 a0_4)), (.v (.int .u64 a0_5)), (.v (.int .u64 a0_6)), (.v (.int .u64 a0_7)), (.v (.int .u64 a0_8))]), (.agg [(.v (.int .i64 a1_0)), (.v (.int .i64 a1_1)), (.v (.int .i64 a1_2)), (.v (.int .u32 a1_3)), (.v (.int .u64 a1_4)), (.v (.bool a1_5))]), (.v (.int .u32 a2_0))] =
  (ev n 11 [(.agg [(.v (.int .i64 a1_0)), (.v (.int .i64 a1_1)), (.v (.int .i64 a1_2)), (.v (.int .u32 a1_3)), (.v (.int .u64 a1_4)), (.v (.bool a1_5))])]).bind fun r0 =>
  cond ((Ev.isAgg 6 (cellAt r0 0)) && ((isI .i64 (cellAt (obCells (cellAt r0 0)) 0)) && ((isI .i64 (cellAt (obCells (cellAt r0 0)) 1)) && ((isI .i64 (cellAt (obCells (cellAt r0 0)) 2)) && ((isI .u32 (cellAt (obCells (cellAt r0 0)) 3)) && ((isI .u64 (cellAt (obCells (cellAt r0 0)) 4)) && (isB (cellAt (obCells (cellAt r0 0)) 5))))))))
   ((cond (avBool (cellAt (obCells (cellAt r0 0)) 5))
       ((ev n 30 [(.v (.int .i64 (IntKind.wrap .i64 (Int.tmod a0_1 1000)))), (.v (.int .i64 9))]).bind fun r1 =>
        cond (isI .i64 (cellAt r1 0))
         ((ev n 30 [(.v (.int .i64 (IntKind.wrap .i64 (Int.tmod a0_2 6)))), (.v (.int .i64 6))]).bind fun r2 =>
          cond (isI .i64 (cellAt r2 0))
           ((ev n 27 [(.v (.int .i64 0)), (.v (.int .i64 (avInt (cellAt (obCells (cellAt r0 0)) 1)))), (.v (.int .u32 (IntKind.wrap .u32 (avInt (cellAt (obCells (cellAt r0 0)) 4)))))]).bind fun r3 =>
            cond (isI .u64 (cellAt r3 0))
             (some ⟨(some 1000001), ⟨[(2, (.v (.int .u32 a2_0))), (3, (.ptr 0 0 0)), (4, (.ptr 1 0 0))], [⟨1, 43, 9, true, [[(.v (.int .i64 (avInt (cellAt (obCells (cellAt r0 0)) 0)))), (.v (.int .u64 (IntKind.wrap .u64 ((IntKind.wrap .u64 (avInt (cellAt r1 0))) * 128)))), (.v (.int .u64 (IntKind.wrap .u64 ((IntKind.wrap .u64 (avInt (cellAt r2 0))) + (avInt (cellAt r3 0)))))), (.v (.int .u64 a0_3)), (.v (.int .u64 a0_4)), (.v (.int .u64 a0_5)), (.v (.int .u64 a0_6)), (.v (.int .u64 a0_7)), (.v (.int .u64 a0_8))]]⟩, ⟨1, 25, 6, true, [[(.v (.int .i64 (avInt (cellAt (obCells (cellAt r0 0)) 0)))), (.v (.int .i64 (avInt (cellAt (obCells (cellAt r0 0)) 1)))), (.v (.int .i64 (avInt (cellAt (obCells (cellAt r0 0)) 2)))), (.v (.int .u32 (avInt (cellAt (obCells (cellAt r0 0)) 3)))), (.v (.int .u64 (avInt (cellAt (obCells (cellAt r0 0)) 4)))), (.v (.bool (avBool (cellAt (obCells (cellAt r0 0)) 5))))]]⟩]⟩, []⟩)
             (none))
           (none))
         (none))
       (some ⟨(some 1000001), ⟨[(2, (.v (.int .u32 a2_0))), (3, (.ptr 0 0 0)), (4, (.ptr 1 0 0))], [⟨1, 43, 9, true, [[(.v (.int .i64 a0_0)), (.v (.int .u64 a0_1)), (.v (.int .u64 a0_2)), (.v (.int .u64 a0_3)), (.v (.int .u64 a0_4)), (.v (.int .u64 a0_5)), (.v (.int .u64 a0_6)), (.v (.int .u64 a0_7)), (.v (.int .u64 a0_8))]]⟩, ⟨1, 25, 6, true, [[(.v (.int .i64 (avInt (cellAt (obCells (cellAt r0 0)) 0)))), (.v (.int .i64 (avInt (cellAt (obCells (cellAt r0 0)) 1)))), (.v (.int .i64 (avInt (cellAt (obCells (cellAt r0 0)) 2)))), (.v (.int .u32 (avInt (cellAt (obCells (cellAt r0 0)) 3)))), (.v (.int .u64 (avInt (cellAt (obCells (cellAt r0 0)) 4)))), (.v (.bool (avBool (cellAt (obCells (cellAt r0 0)) 5))))]]⟩]⟩, []⟩)).bind fun j4 =>
    cond (isEx 1000001 j4)
     (cond (likeStG ⟨[(2, (.v (.int .u32 a2_0))), (3, (.ptr 0 0 0)), (4, (.ptr 1 0 0))], [⟨1, 43, 9, true, [[(.v (.int .i64 a0_0)), (.v (.int .u64 a0_1)), (.v (.int .u64 a0_2)), (.v (.int .u64 a0_3)), (.v (.int .u64 a0_4)), (.v (.int .u64 a0_5)), (.v (.int .u64 a0_6)), (.v (.int .u64 a0_7)), (.v (.int .u64 a0_8))]]⟩, ⟨1, 25, 6, true, [[(.v (.int .i64 (avInt (cellAt (obCells (cellAt r0 0)) 0)))), (.v (.int .i64 (avInt (cellAt (obCells (cellAt r0 0)) 1)))), (.v (.int .i64 (avInt (cellAt (obCells (cellAt r0 0)) 2)))), (.v (.int .u32 (avInt (cellAt (obCells (cellAt r0 0)) 3)))), (.v (.int .u64 (avInt (cellAt (obCells (cellAt r0 0)) 4)))), (.v (.bool (avBool (cellAt (obCells (cellAt r0 0)) 5))))]]⟩]⟩ j4.st)
       ((ev n 31 [(.agg [(.v (.int .i64 (avInt (cellAt (lget (blAt j4.st.bl 0).xs 0) 0)))), (.v (.int .u64 (avInt (cellAt (lget (blAt j4.st.bl 0).xs 0) 1)))), (.v (.int .u64 (avInt (cellAt (lget (blAt j4.st.bl 0).xs 0) 2)))), (.v (.int .u64 (avInt (cellAt (lget (blAt j4.st.bl 0).xs 0) 3)))), (.v (.int .u64 (avInt (cellAt (lget (blAt j4.st.bl 0).xs 0) 4)))), (.v (.int .u64 (avInt (cellAt (lget (blAt j4.st.bl 0).xs 0) 5)))), (.v (.int .u64 (avInt (cellAt (lget (blAt j4.st.bl 0).xs 0) 6)))), (.v (.int .u64 (avInt (cellAt (lget (blAt j4.st.bl 0).xs 0) 7)))), (.v (.int .u64 (avInt (cellAt (lget (blAt j4.st.bl 0).xs 0) 8))))]), (.v (.int .i64 (avInt (cellAt (lget (blAt j4.st.bl 1).xs 0) 2)))), (.v (.int .u32 (avInt (frAt j4.st.fr 0).2)))]).bind fun r5 =>
        cond ((Ev.isAgg 9 (cellAt r5 0)) && ((isI .i64 (cellAt (obCells (cellAt r5 0)) 0)) && ((isI .u64 (cellAt (obCells (cellAt r5 0)) 1)) && ((isI .u64 (cellAt (obCells (cellAt r5 0)) 2)) && ((isI .u64 (cellAt (obCells (cellAt r5 0)) 3)) && ((isI .u64 (cellAt (obCells (cellAt r5 0)) 4)) && ((isI .u64 (cellAt (obCells (cellAt r5 0)) 5)) && ((isI .u64 (cellAt (obCells (cellAt r5 0)) 6)) && ((isI .u64 (cellAt (obCells (cellAt r5 0)) 7)) && (isI .u64 (cellAt (obCells (cellAt r5 0)) 8)))))))))))
         (cond (isI .i64 (cellAt r5 1))
           ((ev n 32 [(.agg [(.v (.int .i64 (avInt (cellAt (lget (blAt j4.st.bl 0).xs 0) 0)))), (.v (.int .u64 (avInt (cellAt (lget (blAt j4.st.bl 0).xs 0) 1)))), (.v (.int .u64 (avInt (cellAt (lget (blAt j4.st.bl 0).xs 0) 2)))), (.v (.int .u64 (avInt (cellAt (lget (blAt j4.st.bl 0).xs 0) 3)))), (.v (.int .u64 (avInt (cellAt (lget (blAt j4.st.bl 0).xs 0) 4)))), (.v (.int .u64 (avInt (cellAt (lget (blAt j4.st.bl 0).xs 0) 5)))), (.v (.int .u64 (avInt (cellAt (lget (blAt j4.st.bl 0).xs 0) 6)))), (.v (.int .u64 (avInt (cellAt (lget (blAt j4.st.bl 0).xs 0) 7)))), (.v (.int .u64 (avInt (cellAt (lget (blAt j4.st.bl 0).xs 0) 8))))]), (.v (.int .i64 (avInt (cellAt (lget (blAt j4.st.bl 1).xs 0) 2)))), (.v (.int .u32 (avInt (frAt j4.st.fr 0).2)))]).bind fun r6 =>
            cond ((Ev.isAgg 9 (cellAt r6 0)) && ((isI .i64 (cellAt (obCells (cellAt r6 0)) 0)) && ((isI .u64 (cellAt (obCells (cellAt r6 0)) 1)) && ((isI .u64 (cellAt (obCells (cellAt r6 0)) 2)) && ((isI .u64 (cellAt (obCells (cellAt r6 0)) 3)) && ((isI .u64 (cellAt (obCells (cellAt r6 0)) 4)) && ((isI .u64 (cellAt (obCells (cellAt r6 0)) 5)) && ((isI .u64 (cellAt (obCells (cellAt r6 0)) 6)) && ((isI .u64 (cellAt (obCells (cellAt r6 0)) 7)) && (isI .u64 (cellAt (obCells (cellAt r6 0)) 8)))))))))))
             (cond (isI .i64 (cellAt r6 1))
               ((ev n 33 [(.agg [(.v (.int .i64 (avInt (cellAt (lget (blAt j4.st.bl 0).xs 0) 0)))), (.v (.int .u64 (avInt (cellAt (lget (blAt j4.st.bl 0).xs 0) 1)))), (.v (.int .u64 (avInt (cellAt (lget (blAt j4.st.bl 0).xs 0) 2)))), (.v (.int .u64 (avInt (cellAt (lget (blAt j4.st.bl 0).xs 0) 3)))), (.v (.int .u64 (avInt (cellAt (lget (blAt j4.st.bl 0).xs 0) 4)))), (.v (.int .u64 (avInt (cellAt (lget (blAt j4.st.bl 0).xs 0) 5)))), (.v (.int .u64 (avInt (cellAt (lget (blAt j4.st.bl 0).xs 0) 6)))), (.v (.int .u64 (avInt (cellAt (lget (blAt j4.st.bl 0).xs 0) 7)))), (.v (.int .u64 (avInt (cellAt (lget (blAt j4.st.bl 0).xs 0) 8))))])]).bind fun r7 =>
                cond ((Ev.isAgg 9 (cellAt r7 0)) && ((isI .i64 (cellAt (obCells (cellAt r7 0)) 0)) && ((isI .u64 (cellAt (obCells (cellAt r7 0)) 1)) && ((isI .u64 (cellAt (obCells (cellAt r7 0)) 2)) && ((isI .u64 (cellAt (obCells (cellAt r7 0)) 3)) && ((isI .u64 (cellAt (obCells (cellAt r7 0)) 4)) && ((isI .u64 (cellAt (obCells (cellAt r7 0)) 5)) && ((isI .u64 (cellAt (obCells (cellAt r7 0)) 6)) && ((isI .u64 (cellAt (obCells (cellAt r7 0)) 7)) && (isI .u64 (cellAt (obCells (cellAt r7 0)) 8)))))))))))
                 (cond (isI .i64 (cellAt r7 1))
                   ((ev n 34 [(.agg [(.v (.int .i64 (avInt (cellAt (lget (blAt j4.st.bl 0).xs 0) 0)))), (.v (.int .u64 (avInt (cellAt (lget (blAt j4.st.bl 0).xs 0) 1)))), (.v (.int .u64 (avInt (cellAt (lget (blAt j4.st.bl 0).xs 0) 2)))), (.v (.int .u64 (avInt (cellAt (lget (blAt j4.st.bl 0).xs 0) 3)))), (.v (.int .u64 (avInt (cellAt (lget (blAt j4.st.bl 0).xs 0) 4)))), (.v (.int .u64 (avInt (cellAt (lget (blAt j4.st.bl 0).xs 0) 5)))), (.v (.int .u64 (avInt (cellAt (lget (blAt j4.st.bl 0).xs 0) 6)))), (.v (.int .u64 (avInt (cellAt (lget (blAt j4.st.bl 0).xs 0) 7)))), (.v (.int .u64 (avInt (cellAt (lget (blAt j4.st.bl 0).xs 0) 8))))])]).bind fun r8 =>
                    cond ((Ev.isAgg 9 (cellAt r8 0)) && ((isI .i64 (cellAt (obCells (cellAt r8 0)) 0)) && ((isI .u64 (cellAt (obCells (cellAt r8 0)) 1)) && ((isI .u64 (cellAt (obCells (cellAt r8 0)) 2)) && ((isI .u64 (cellAt (obCells (cellAt r8 0)) 3)) && ((isI .u64 (cellAt (obCells (cellAt r8 0)) 4)) && ((isI .u64 (cellAt (obCells (cellAt r8 0)) 5)) && ((isI .u64 (cellAt (obCells (cellAt r8 0)) 6)) && ((isI .u64 (cellAt (obCells (cellAt r8 0)) 7)) && (isI .u64 (cellAt (obCells (cellAt r8 0)) 8)))))))))))
                     (cond (isI .i64 (cellAt r8 1))
                       ((ev n 15 []).bind fun r9 =>
                        cond (isB (cellAt r9 0))
                         (cond (avBool (cellAt r9 0))
                           ((ev n 29 [(.agg [(.v (.int .i64 (avInt (cellAt (obCells (cellAt r5 0)) 0)))), (.v (.int .u64 (avInt (cellAt (obCells (cellAt r5 0)) 1)))), (.v (.int .u64 (avInt (cellAt (obCells (cellAt r5 0)) 2)))), (.v (.int .u64 (avInt (cellAt (obCells (cellAt r5 0)) 3)))), (.v (.int .u64 (avInt (cellAt (obCells (cellAt r5 0)) 4)))), (.v (.int .u64 (avInt (cellAt (obCells (cellAt r5 0)) 5)))), (.v (.int .u64 (avInt (cellAt (obCells (cellAt r5 0)) 6)))), (.v (.int .u64 (avInt (cellAt (obCells (cellAt r5 0)) 7)))), (.v (.int .u64 (avInt (cellAt (obCells (cellAt r5 0)) 8))))]), (.agg [(.v (.int .i64 (avInt (cellAt (obCells (cellAt r6 0)) 0)))), (.v (.int .u64 (avInt (cellAt (obCells (cellAt r6 0)) 1)))), (.v (.int .u64 (avInt (cellAt (obCells (cellAt r6 0)) 2)))), (.v (.int .u64 (avInt (cellAt (obCells (cellAt r6 0)) 3)))), (.v (.int .u64 (avInt (cellAt (obCells (cellAt r6 0)) 4)))), (.v (.int .u64 (avInt (cellAt (obCells (cellAt r6 0)) 5)))), (.v (.int .u64 (avInt (cellAt (obCells (cellAt r6 0)) 6)))), (.v (.int .u64 (avInt (cellAt (obCells (cellAt r6 0)) 7)))), (.v (.int .u64 (avInt (cellAt (obCells (cellAt r6 0)) 8))))])]).bind fun r10 =>
                            cond (isB (cellAt r10 0))
                             (cond (avBool (cellAt r10 0))
                               (cond ((avInt (cellAt r5 1)) == (avInt (cellAt r6 1)))
                                 ((ev n 29 [(.agg [(.v (.int .i64 (avInt (cellAt (obCells (cellAt r7 0)) 0)))), (.v (.int .u64 (avInt (cellAt (obCells (cellAt r7 0)) 1)))), (.v (.int .u64 (avInt (cellAt (obCells (cellAt r7 0)) 2)))), (.v (.int .u64 (avInt (cellAt (obCells (cellAt r7 0)) 3)))), (.v (.int .u64 (avInt (cellAt (obCells (cellAt r7 0)) 4)))), (.v (.int .u64 (avInt (cellAt (obCells (cellAt r7 0)) 5)))), (.v (.int .u64 (avInt (cellAt (obCells (cellAt r7 0)) 6)))), (.v (.int .u64 (avInt (cellAt (obCells (cellAt r7 0)) 7)))), (.v (.int .u64 (avInt (cellAt (obCells (cellAt r7 0)) 8))))]), (.agg [(.v (.int .i64 (avInt (cellAt (obCells (cellAt r8 0)) 0)))), (.v (.int .u64 (avInt (cellAt (obCells (cellAt r8 0)) 1)))), (.v (.int .u64 (avInt (cellAt (obCells (cellAt r8 0)) 2)))), (.v (.int .u64 (avInt (cellAt (obCells (cellAt r8 0)) 3)))), (.v (.int .u64 (avInt (cellAt (obCells (cellAt r8 0)) 4)))), (.v (.int .u64 (avInt (cellAt (obCells (cellAt r8 0)) 5)))), (.v (.int .u64 (avInt (cellAt (obCells (cellAt r8 0)) 6)))), (.v (.int .u64 (avInt (cellAt (obCells (cellAt r8 0)) 7)))), (.v (.int .u64 (avInt (cellAt (obCells (cellAt r8 0)) 8))))])]).bind fun r11 =>
                                  cond (isB (cellAt r11 0))
                                   (cond (avBool (cellAt r11 0))
                                     (some [(.v (.bool ((avInt (cellAt r7 1)) == (avInt (cellAt r8 1)))))])
                                     (some [(.v (.bool false))]))
                                   (none))
                                 (some [(.v (.bool false))]))
                               (some [(.v (.bool false))]))
                             (none))
                           (some [(.v (.bool false))]))
                         (none))
                       (none))
                     (none))
                   (none))
                 (none))
               (none))
             (none))
           (none))
         (none))
       (none))
     (cond (isRt j4)
       (some j4.outs)
       (none)))
   (none) := by kernel_rfl
-- "bodega/bodegalaw19.PointerLooks"
theorem ev7 (n : Nat) (a0_0n : Bool) (a0_0 : List (List AV)) (a0_1 : Int) (a0_2 : Int) (a0_3 : Int) : ev (n + 1) 7 [(.agg [(.lst a0_0n 9 a0_0), (.v (.int .i64 a0_1)), (.v (.int .i64 a0_2)), (.v (.int .i64 a0_3))])] =
  cond (ltI 20 (((List.length a0_0) : Nat) : Int))
   (some [(.v (.bool true))])
   ((ev n 35 [(.agg [(.lst a0_0n 9 a0_0), (.v (.int .i64 a0_1)), (.v (.int .i64 a0_2)), (.v (.int .i64 a0_3))])]).bind fun r0 =>
    cond (isL 9 (cellAt r0 0))
     (cond ((Ev.isAgg 2 (cellAt r0 1)) && ((isI .i64 (cellAt (obCells (cellAt r0 1)) 0)) && (isI .i64 (cellAt (obCells (cellAt r0 1)) 1))))
       (cond (isI .i64 (cellAt r0 2))
         ((ev n 28 [(.lst (avNil (cellAt r0 0)) 9 (avXs (cellAt r0 0))), (.v (.int .i64 (avInt (cellAt (obCells (cellAt r0 1)) 0))))]).bind fun r1 =>
          cond ((Ev.isAgg 9 (cellAt r1 0)) && ((isI .i64 (cellAt (obCells (cellAt r1 0)) 0)) && ((isI .u64 (cellAt (obCells (cellAt r1 0)) 1)) && ((isI .u64 (cellAt (obCells (cellAt r1 0)) 2)) && ((isI .u64 (cellAt (obCells (cellAt r1 0)) 3)) && ((isI .u64 (cellAt (obCells (cellAt r1 0)) 4)) && ((isI .u64 (cellAt (obCells (cellAt r1 0)) 5)) && ((isI .u64 (cellAt (obCells (cellAt r1 0)) 6)) && ((isI .u64 (cellAt (obCells (cellAt r1 0)) 7)) && (isI .u64 (cellAt (obCells (cellAt r1 0)) 8)))))))))))
           (cond (isB (cellAt r1 1))
             ((ev n 36 [(.lst (avNil (cellAt r0 0)) 9 (avXs (cellAt r0 0))), (.v (.int .i64 (avInt (cellAt (obCells (cellAt r0 1)) 0))))]).bind fun r2 =>
              cond ((Ev.isAgg 9 (cellAt r2 0)) && ((isI .i64 (cellAt (obCells (cellAt r2 0)) 0)) && ((isI .u64 (cellAt (obCells (cellAt r2 0)) 1)) && ((isI .u64 (cellAt (obCells (cellAt r2 0)) 2)) && ((isI .u64 (cellAt (obCells (cellAt r2 0)) 3)) && ((isI .u64 (cellAt (obCells (cellAt r2 0)) 4)) && ((isI .u64 (cellAt (obCells (cellAt r2 0)) 5)) && ((isI .u64 (cellAt (obCells (cellAt r2 0)) 6)) && ((isI .u64 (cellAt (obCells (cellAt r2 0)) 7)) && (isI .u64 (cellAt (obCells (cellAt r2 0)) 8)))))))))))
               (cond (isB (cellAt r2 1))
                 ((((ev n 15 []).bind fun r3 =>
                      cond (isB (cellAt r3 0))
                       (cond (!(avBool (cellAt r3 0)))
                         (some ⟨(some 1000001), ⟨[(3, (.lst (avNil (cellAt r0 0)) 9 (avXs (cellAt r0 0)))), (4, (.ptr 0 0 0)), (5, (.v (.int .i64 (avInt (cellAt r0 2))))), (54, (.v (.bool true)))], [⟨1, 28, 2, true, [[(.v (.int .i64 (avInt (cellAt (obCells (cellAt r0 1)) 0)))), (.v (.int .i64 (avInt (cellAt (obCells (cellAt r0 1)) 1))))]]⟩]⟩, []⟩)
                         (cond (!((avBool (cellAt r1 1)) == (avBool (cellAt r2 1))))
                           (some ⟨(some 1000001), ⟨[(3, (.lst (avNil (cellAt r0 0)) 9 (avXs (cellAt r0 0)))), (4, (.ptr 0 0 0)), (5, (.v (.int .i64 (avInt (cellAt r0 2))))), (54, (.v (.bool true)))], [⟨1, 28, 2, true, [[(.v (.int .i64 (avInt (cellAt (obCells (cellAt r0 1)) 0)))), (.v (.int .i64 (avInt (cellAt (obCells (cellAt r0 1)) 1))))]]⟩]⟩, []⟩)
                           ((ev n 29 [(.agg [(.v (.int .i64 (avInt (cellAt (obCells (cellAt r1 0)) 0)))), (.v (.int .u64 (avInt (cellAt (obCells (cellAt r1 0)) 1)))), (.v (.int .u64 (avInt (cellAt (obCells (cellAt r1 0)) 2)))), (.v (.int .u64 (avInt (cellAt (obCells (cellAt r1 0)) 3)))), (.v (.int .u64 (avInt (cellAt (obCells (cellAt r1 0)) 4)))), (.v (.int .u64 (avInt (cellAt (obCells (cellAt r1 0)) 5)))), (.v (.int .u64 (avInt (cellAt (obCells (cellAt r1 0)) 6)))), (.v (.int .u64 (avInt (cellAt (obCells (cellAt r1 0)) 7)))), (.v (.int .u64 (avInt (cellAt (obCells (cellAt r1 0)) 8))))]), (.agg [(.v (.int .i64 (avInt (cellAt (obCells (cellAt r2 0)) 0)))), (.v (.int .u64 (avInt (cellAt (obCells (cellAt r2 0)) 1)))), (.v (.int .u64 (avInt (cellAt (obCells (cellAt r2 0)) 2)))), (.v (.int .u64 (avInt (cellAt (obCells (cellAt r2 0)) 3)))), (.v (.int .u64 (avInt (cellAt (obCells (cellAt r2 0)) 4)))), (.v (.int .u64 (avInt (cellAt (obCells (cellAt r2 0)) 5)))), (.v (.int .u64 (avInt (cellAt (obCells (cellAt r2 0)) 6)))), (.v (.int .u64 (avInt (cellAt (obCells (cellAt r2 0)) 7)))), (.v (.int .u64 (avInt (cellAt (obCells (cellAt r2 0)) 8))))])]).bind fun r4 =>
                            cond (isB (cellAt r4 0))
                             (some ⟨(some 1000001), ⟨[(3, (.lst (avNil (cellAt r0 0)) 9 (avXs (cellAt r0 0)))), (4, (.ptr 0 0 0)), (5, (.v (.int .i64 (avInt (cellAt r0 2))))), (54, (.v (.bool (!(avBool (cellAt r4 0))))))], [⟨1, 28, 2, true, [[(.v (.int .i64 (avInt (cellAt (obCells (cellAt r0 1)) 0)))), (.v (.int .i64 (avInt (cellAt (obCells (cellAt r0 1)) 1))))]]⟩]⟩, []⟩)
                             (none))))
                       (none)).bind fun j5 =>
                    cond (isEx 1000001 j5)
                     (cond (likeStG ⟨[(3, (.lst (avNil (cellAt r0 0)) 9 (avXs (cellAt r0 0)))), (4, (.ptr 0 0 0)), (5, (.v (.int .i64 (avInt (cellAt r0 2))))), (54, (.v (.bool false)))], [⟨1, 28, 2, true, [[(.v (.int .i64 (avInt (cellAt (obCells (cellAt r0 1)) 0)))), (.v (.int .i64 (avInt (cellAt (obCells (cellAt r0 1)) 1))))]]⟩]⟩ j5.st)
                       (cond (avBool (frAt j5.st.fr 3).2)
                         (some ⟨none, ⟨[], []⟩, [(.v (.bool false))]⟩)
                         (some ⟨(some 1000001), ⟨[(3, (.lst (avNil (frAt j5.st.fr 0).2) 9 (avXs (frAt j5.st.fr 0).2))), (4, (.ptr 0 0 0)), (5, (.v (.int .i64 (avInt (frAt j5.st.fr 2).2))))], [⟨1, 28, 2, true, [[(.v (.int .i64 (avInt (cellAt (lget (blAt j5.st.bl 0).xs 0) 0)))), (.v (.int .i64 (avInt (cellAt (lget (blAt j5.st.bl 0).xs 0) 1))))]]⟩]⟩, []⟩))
                       (none))
                     (cond (isRt j5)
                       (some ⟨none, ⟨[], []⟩, j5.outs⟩)
                       (none))).bind fun j6 =>
                  cond (isEx 1000001 j6)
                   (cond (likeStG ⟨[(3, (.lst (avNil (cellAt r0 0)) 9 (avXs (cellAt r0 0)))), (4, (.ptr 0 0 0)), (5, (.v (.int .i64 (avInt (cellAt r0 2)))))], [⟨1, 28, 2, true, [[(.v (.int .i64 (avInt (cellAt (obCells (cellAt r0 1)) 0)))), (.v (.int .i64 (avInt (cellAt (obCells (cellAt r0 1)) 1))))]]⟩]⟩ j6.st)
                     ((ev n 37 [(.lst (avNil (frAt j6.st.fr 0).2) 9 (avXs (frAt j6.st.fr 0).2)), (.agg [(.v (.int .i64 (avInt (cellAt (lget (blAt j6.st.bl 0).xs 0) 0)))), (.v (.int .i64 (avInt (cellAt (lget (blAt j6.st.bl 0).xs 0) 1))))]), (.v (.int .i64 (avInt (frAt j6.st.fr 2).2)))]).bind fun r7 =>
                      cond ((Ev.isAgg 9 (cellAt r7 0)) && ((isI .i64 (cellAt (obCells (cellAt r7 0)) 0)) && ((isI .u64 (cellAt (obCells (cellAt r7 0)) 1)) && ((isI .u64 (cellAt (obCells (cellAt r7 0)) 2)) && ((isI .u64 (cellAt (obCells (cellAt r7 0)) 3)) && ((isI .u64 (cellAt (obCells (cellAt r7 0)) 4)) && ((isI .u64 (cellAt (obCells (cellAt r7 0)) 5)) && ((isI .u64 (cellAt (obCells (cellAt r7 0)) 6)) && ((isI .u64 (cellAt (obCells (cellAt r7 0)) 7)) && (isI .u64 (cellAt (obCells (cellAt r7 0)) 8)))))))))))
                       (cond (isB (cellAt r7 1))
                         (cond (isI .i64 (cellAt r7 2))
                           ((ev n 18 [(.agg [(.v (.int .i64 (avInt (cellAt (lget (blAt j6.st.bl 0).xs 0) 0)))), (.v (.int .i64 (avInt (cellAt (lget (blAt j6.st.bl 0).xs 0) 1))))])]).bind fun r8 =>
                            cond ((Ev.isAgg 2 (cellAt r8 0)) && ((isI .i64 (cellAt (obCells (cellAt r8 0)) 0)) && (isI .i64 (cellAt (obCells (cellAt r8 0)) 1))))
                             ((ev n 38 [(.lst (avNil (frAt j6.st.fr 0).2) 9 (avXs (frAt j6.st.fr 0).2)), (.agg [(.v (.int .i64 (avInt (cellAt (obCells (cellAt r8 0)) 0)))), (.v (.int .i64 (avInt (cellAt (obCells (cellAt r8 0)) 1))))]), (.v (.int .i64 (avInt (frAt j6.st.fr 2).2))), (.v (.bool false))]).bind fun r9 =>
                              cond ((Ev.isAgg 9 (cellAt r9 0)) && ((isI .i64 (cellAt (obCells (cellAt r9 0)) 0)) && ((isI .u64 (cellAt (obCells (cellAt r9 0)) 1)) && ((isI .u64 (cellAt (obCells (cellAt r9 0)) 2)) && ((isI .u64 (cellAt (obCells (cellAt r9 0)) 3)) && ((isI .u64 (cellAt (obCells (cellAt r9 0)) 4)) && ((isI .u64 (cellAt (obCells (cellAt r9 0)) 5)) && ((isI .u64 (cellAt (obCells (cellAt r9 0)) 6)) && ((isI .u64 (cellAt (obCells (cellAt r9 0)) 7)) && (isI .u64 (cellAt (obCells (cellAt r9 0)) 8)))))))))))
                               (cond (isB (cellAt r9 1))
                                 (cond (isI .i64 (cellAt r9 2))
                                   ((((ev n 29 [(.agg [(.v (.int .i64 (avInt (cellAt (obCells (cellAt r7 0)) 0)))), (.v (.int .u64 (avInt (cellAt (obCells (cellAt r7 0)) 1)))), (.v (.int .u64 (avInt (cellAt (obCells (cellAt r7 0)) 2)))), (.v (.int .u64 (avInt (cellAt (obCells (cellAt r7 0)) 3)))), (.v (.int .u64 (avInt (cellAt (obCells (cellAt r7 0)) 4)))), (.v (.int .u64 (avInt (cellAt (obCells (cellAt r7 0)) 5)))), (.v (.int .u64 (avInt (cellAt (obCells (cellAt r7 0)) 6)))), (.v (.int .u64 (avInt (cellAt (obCells (cellAt r7 0)) 7)))), (.v (.int .u64 (avInt (cellAt (obCells (cellAt r7 0)) 8))))]), (.agg [(.v (.int .i64 (avInt (cellAt (obCells (cellAt r9 0)) 0)))), (.v (.int .u64 (avInt (cellAt (obCells (cellAt r9 0)) 1)))), (.v (.int .u64 (avInt (cellAt (obCells (cellAt r9 0)) 2)))), (.v (.int .u64 (avInt (cellAt (obCells (cellAt r9 0)) 3)))), (.v (.int .u64 (avInt (cellAt (obCells (cellAt r9 0)) 4)))), (.v (.int .u64 (avInt (cellAt (obCells (cellAt r9 0)) 5)))), (.v (.int .u64 (avInt (cellAt (obCells (cellAt r9 0)) 6)))), (.v (.int .u64 (avInt (cellAt (obCells (cellAt r9 0)) 7)))), (.v (.int .u64 (avInt (cellAt (obCells (cellAt r9 0)) 8))))])]).bind fun r10 =>
                                        cond (isB (cellAt r10 0))
                                         (cond (!(avBool (cellAt r10 0)))
                                           (some ⟨(some 1000001), ⟨[(3, (.lst (avNil (frAt j6.st.fr 0).2) 9 (avXs (frAt j6.st.fr 0).2))), (4, (.ptr 0 0 0)), (5, (.v (.int .i64 (avInt (frAt j6.st.fr 2).2)))), (85, (.v (.bool true)))], [⟨1, 28, 2, true, [[(.v (.int .i64 (avInt (cellAt (lget (blAt j6.st.bl 0).xs 0) 0)))), (.v (.int .i64 (avInt (cellAt (lget (blAt j6.st.bl 0).xs 0) 1))))]]⟩]⟩, []⟩)
                                           (cond (!((avBool (cellAt r7 1)) == (avBool (cellAt r9 1))))
                                             (some ⟨(some 1000001), ⟨[(3, (.lst (avNil (frAt j6.st.fr 0).2) 9 (avXs (frAt j6.st.fr 0).2))), (4, (.ptr 0 0 0)), (5, (.v (.int .i64 (avInt (frAt j6.st.fr 2).2)))), (85, (.v (.bool true)))], [⟨1, 28, 2, true, [[(.v (.int .i64 (avInt (cellAt (lget (blAt j6.st.bl 0).xs 0) 0)))), (.v (.int .i64 (avInt (cellAt (lget (blAt j6.st.bl 0).xs 0) 1))))]]⟩]⟩, []⟩)
                                             (some ⟨(some 1000001), ⟨[(3, (.lst (avNil (frAt j6.st.fr 0).2) 9 (avXs (frAt j6.st.fr 0).2))), (4, (.ptr 0 0 0)), (5, (.v (.int .i64 (avInt (frAt j6.st.fr 2).2)))), (85, (.v (.bool (!((avInt (cellAt r7 2)) == (avInt (cellAt r9 2)))))))], [⟨1, 28, 2, true, [[(.v (.int .i64 (avInt (cellAt (lget (blAt j6.st.bl 0).xs 0) 0)))), (.v (.int .i64 (avInt (cellAt (lget (blAt j6.st.bl 0).xs 0) 1))))]]⟩]⟩, []⟩)))
                                         (none)).bind fun j11 =>
                                      cond (isEx 1000001 j11)
                                       (cond (likeStG ⟨[(3, (.lst (avNil (frAt j6.st.fr 0).2) 9 (avXs (frAt j6.st.fr 0).2))), (4, (.ptr 0 0 0)), (5, (.v (.int .i64 (avInt (frAt j6.st.fr 2).2)))), (85, (.v (.bool false)))], [⟨1, 28, 2, true, [[(.v (.int .i64 (avInt (cellAt (lget (blAt j6.st.bl 0).xs 0) 0)))), (.v (.int .i64 (avInt (cellAt (lget (blAt j6.st.bl 0).xs 0) 1))))]]⟩]⟩ j11.st)
                                         (cond (avBool (frAt j11.st.fr 3).2)
                                           (some ⟨none, ⟨[], []⟩, [(.v (.bool false))]⟩)
                                           (some ⟨(some 1000001), ⟨[(3, (.lst (avNil (frAt j11.st.fr 0).2) 9 (avXs (frAt j11.st.fr 0).2))), (4, (.ptr 0 0 0)), (5, (.v (.int .i64 (avInt (frAt j11.st.fr 2).2))))], [⟨1, 28, 2, true, [[(.v (.int .i64 (avInt (cellAt (lget (blAt j11.st.bl 0).xs 0) 0)))), (.v (.int .i64 (avInt (cellAt (lget (blAt j11.st.bl 0).xs 0) 1))))]]⟩]⟩, []⟩))
                                         (none))
                                       (cond (isRt j11)
                                         (some ⟨none, ⟨[], []⟩, j11.outs⟩)
                                         (none))).bind fun j12 =>
                                    cond (isEx 1000001 j12)
                                     (cond (likeStG ⟨[(3, (.lst (avNil (frAt j6.st.fr 0).2) 9 (avXs (frAt j6.st.fr 0).2))), (4, (.ptr 0 0 0)), (5, (.v (.int .i64 (avInt (frAt j6.st.fr 2).2))))], [⟨1, 28, 2, true, [[(.v (.int .i64 (avInt (cellAt (lget (blAt j6.st.bl 0).xs 0) 0)))), (.v (.int .i64 (avInt (cellAt (lget (blAt j6.st.bl 0).xs 0) 1))))]]⟩]⟩ j12.st)
                                       ((ev n 39 [(.lst (avNil (frAt j12.st.fr 0).2) 9 (avXs (frAt j12.st.fr 0).2)), (.agg [(.v (.int .i64 (avInt (cellAt (lget (blAt j12.st.bl 0).xs 0) 0)))), (.v (.int .i64 (avInt (cellAt (lget (blAt j12.st.bl 0).xs 0) 1))))]), (.v (.int .i64 (avInt (frAt j12.st.fr 2).2)))]).bind fun r13 =>
                                        cond ((Ev.isAgg 9 (cellAt r13 0)) && ((isI .i64 (cellAt (obCells (cellAt r13 0)) 0)) && ((isI .u64 (cellAt (obCells (cellAt r13 0)) 1)) && ((isI .u64 (cellAt (obCells (cellAt r13 0)) 2)) && ((isI .u64 (cellAt (obCells (cellAt r13 0)) 3)) && ((isI .u64 (cellAt (obCells (cellAt r13 0)) 4)) && ((isI .u64 (cellAt (obCells (cellAt r13 0)) 5)) && ((isI .u64 (cellAt (obCells (cellAt r13 0)) 6)) && ((isI .u64 (cellAt (obCells (cellAt r13 0)) 7)) && (isI .u64 (cellAt (obCells (cellAt r13 0)) 8)))))))))))
                                         (cond (isB (cellAt r13 1))
                                           (cond (isI .i64 (cellAt r13 2))
                                             ((ev n 18 [(.agg [(.v (.int .i64 (avInt (cellAt (lget (blAt j12.st.bl 0).xs 0) 0)))), (.v (.int .i64 (avInt (cellAt (lget (blAt j12.st.bl 0).xs 0) 1))))])]).bind fun r14 =>
                                              cond ((Ev.isAgg 2 (cellAt r14 0)) && ((isI .i64 (cellAt (obCells (cellAt r14 0)) 0)) && (isI .i64 (cellAt (obCells (cellAt r14 0)) 1))))
                                               ((ev n 38 [(.lst (avNil (frAt j12.st.fr 0).2) 9 (avXs (frAt j12.st.fr 0).2)), (.agg [(.v (.int .i64 (avInt (cellAt (obCells (cellAt r14 0)) 0)))), (.v (.int .i64 (avInt (cellAt (obCells (cellAt r14 0)) 1))))]), (.v (.int .i64 (avInt (frAt j12.st.fr 2).2))), (.v (.bool true))]).bind fun r15 =>
                                                cond ((Ev.isAgg 9 (cellAt r15 0)) && ((isI .i64 (cellAt (obCells (cellAt r15 0)) 0)) && ((isI .u64 (cellAt (obCells (cellAt r15 0)) 1)) && ((isI .u64 (cellAt (obCells (cellAt r15 0)) 2)) && ((isI .u64 (cellAt (obCells (cellAt r15 0)) 3)) && ((isI .u64 (cellAt (obCells (cellAt r15 0)) 4)) && ((isI .u64 (cellAt (obCells (cellAt r15 0)) 5)) && ((isI .u64 (cellAt (obCells (cellAt r15 0)) 6)) && ((isI .u64 (cellAt (obCells (cellAt r15 0)) 7)) && (isI .u64 (cellAt (obCells (cellAt r15 0)) 8)))))))))))
                                                 (cond (isB (cellAt r15 1))
                                                   (cond (isI .i64 (cellAt r15 2))
                                                     ((ev n 29 [(.agg [(.v (.int .i64 (avInt (cellAt (obCells (cellAt r13 0)) 0)))), (.v (.int .u64 (avInt (cellAt (obCells (cellAt r13 0)) 1)))), (.v (.int .u64 (avInt (cellAt (obCells (cellAt r13 0)) 2)))), (.v (.int .u64 (avInt (cellAt (obCells (cellAt r13 0)) 3)))), (.v (.int .u64 (avInt (cellAt (obCells (cellAt r13 0)) 4)))), (.v (.int .u64 (avInt (cellAt (obCells (cellAt r13 0)) 5)))), (.v (.int .u64 (avInt (cellAt (obCells (cellAt r13 0)) 6)))), (.v (.int .u64 (avInt (cellAt (obCells (cellAt r13 0)) 7)))), (.v (.int .u64 (avInt (cellAt (obCells (cellAt r13 0)) 8))))]), (.agg [(.v (.int .i64 (avInt (cellAt (obCells (cellAt r15 0)) 0)))), (.v (.int .u64 (avInt (cellAt (obCells (cellAt r15 0)) 1)))), (.v (.int .u64 (avInt (cellAt (obCells (cellAt r15 0)) 2)))), (.v (.int .u64 (avInt (cellAt (obCells (cellAt r15 0)) 3)))), (.v (.int .u64 (avInt (cellAt (obCells (cellAt r15 0)) 4)))), (.v (.int .u64 (avInt (cellAt (obCells (cellAt r15 0)) 5)))), (.v (.int .u64 (avInt (cellAt (obCells (cellAt r15 0)) 6)))), (.v (.int .u64 (avInt (cellAt (obCells (cellAt r15 0)) 7)))), (.v (.int .u64 (avInt (cellAt (obCells (cellAt r15 0)) 8))))])]).bind fun r16 =>
                                                      cond (isB (cellAt r16 0))
                                                       (cond (avBool (cellAt r16 0))
                                                         (cond ((avBool (cellAt r13 1)) == (avBool (cellAt r15 1)))
                                                           (some [(.v (.bool ((avInt (cellAt r13 2)) == (avInt (cellAt r15 2)))))])
                                                           (some [(.v (.bool false))]))
                                                         (some [(.v (.bool false))]))
                                                       (none))
                                                     (none))
                                                   (none))
                                                 (none))
                                               (none))
                                             (none))
                                           (none))
                                         (none))
                                       (none))
                                     (cond (isRt j12)
                                       (some j12.outs)
                                       (none)))
                                   (none))
                                 (none))
                               (none))
                             (none))
                           (none))
                         (none))
                       (none))
                     (none))
                   (cond (isRt j6)
                     (some j6.outs)
                     (none)))
                 (none))
               (none))
             (none))
           (none))
         (none))
       (none))
     (none)) := by kernel_rfl
-- "bodega/bodegalaw19.PointerRaw"
theorem ev8 (n : Nat) (a0_0n : Bool) (a0_0 : List (List AV)) (a1_0 : Int) (a1_1 : Int) (a2_0 : Int) : ev (n + 1) 8 [(.lst a0_0n 9 a0_0), (.agg [(.v (.int .i64 a1_0)), (.v (.int .i64 a1_1))]), (.v (.int .i64 a2_0))] =
  cond (ltI 30 (((List.length a0_0) : Nat) : Int))
   (some [(.v (.bool true))])
   ((ev n 37 [(.lst a0_0n 9 a0_0), (.agg [(.v (.int .i64 a1_0)), (.v (.int .i64 a1_1))]), (.v (.int .i64 a2_0))]).bind fun r0 =>
    cond ((Ev.isAgg 9 (cellAt r0 0)) && ((isI .i64 (cellAt (obCells (cellAt r0 0)) 0)) && ((isI .u64 (cellAt (obCells (cellAt r0 0)) 1)) && ((isI .u64 (cellAt (obCells (cellAt r0 0)) 2)) && ((isI .u64 (cellAt (obCells (cellAt r0 0)) 3)) && ((isI .u64 (cellAt (obCells (cellAt r0 0)) 4)) && ((isI .u64 (cellAt (obCells (cellAt r0 0)) 5)) && ((isI .u64 (cellAt (obCells (cellAt r0 0)) 6)) && ((isI .u64 (cellAt (obCells (cellAt r0 0)) 7)) && (isI .u64 (cellAt (obCells (cellAt r0 0)) 8)))))))))))
     (cond (isB (cellAt r0 1))
       (cond (isI .i64 (cellAt r0 2))
         ((ev n 18 [(.agg [(.v (.int .i64 a1_0)), (.v (.int .i64 a1_1))])]).bind fun r1 =>
          cond ((Ev.isAgg 2 (cellAt r1 0)) && ((isI .i64 (cellAt (obCells (cellAt r1 0)) 0)) && (isI .i64 (cellAt (obCells (cellAt r1 0)) 1))))
           ((ev n 38 [(.lst a0_0n 9 a0_0), (.agg [(.v (.int .i64 (avInt (cellAt (obCells (cellAt r1 0)) 0)))), (.v (.int .i64 (avInt (cellAt (obCells (cellAt r1 0)) 1))))]), (.v (.int .i64 a2_0)), (.v (.bool false))]).bind fun r2 =>
            cond ((Ev.isAgg 9 (cellAt r2 0)) && ((isI .i64 (cellAt (obCells (cellAt r2 0)) 0)) && ((isI .u64 (cellAt (obCells (cellAt r2 0)) 1)) && ((isI .u64 (cellAt (obCells (cellAt r2 0)) 2)) && ((isI .u64 (cellAt (obCells (cellAt r2 0)) 3)) && ((isI .u64 (cellAt (obCells (cellAt r2 0)) 4)) && ((isI .u64 (cellAt (obCells (cellAt r2 0)) 5)) && ((isI .u64 (cellAt (obCells (cellAt r2 0)) 6)) && ((isI .u64 (cellAt (obCells (cellAt r2 0)) 7)) && (isI .u64 (cellAt (obCells (cellAt r2 0)) 8)))))))))))
             (cond (isB (cellAt r2 1))
               (cond (isI .i64 (cellAt r2 2))
                 ((((ev n 15 []).bind fun r3 =>
                      cond (isB (cellAt r3 0))
                       (cond (!(avBool (cellAt r3 0)))
                         (some ⟨(some 1000001), ⟨[(0, (.lst a0_0n 9 a0_0)), (2, (.v (.int .i64 a2_0))), (4, (.ptr 0 0 0)), (52, (.v (.bool true)))], [⟨1, 28, 2, true, [[(.v (.int .i64 a1_0)), (.v (.int .i64 a1_1))]]⟩]⟩, []⟩)
                         ((ev n 29 [(.agg [(.v (.int .i64 (avInt (cellAt (obCells (cellAt r0 0)) 0)))), (.v (.int .u64 (avInt (cellAt (obCells (cellAt r0 0)) 1)))), (.v (.int .u64 (avInt (cellAt (obCells (cellAt r0 0)) 2)))), (.v (.int .u64 (avInt (cellAt (obCells (cellAt r0 0)) 3)))), (.v (.int .u64 (avInt (cellAt (obCells (cellAt r0 0)) 4)))), (.v (.int .u64 (avInt (cellAt (obCells (cellAt r0 0)) 5)))), (.v (.int .u64 (avInt (cellAt (obCells (cellAt r0 0)) 6)))), (.v (.int .u64 (avInt (cellAt (obCells (cellAt r0 0)) 7)))), (.v (.int .u64 (avInt (cellAt (obCells (cellAt r0 0)) 8))))]), (.agg [(.v (.int .i64 (avInt (cellAt (obCells (cellAt r2 0)) 0)))), (.v (.int .u64 (avInt (cellAt (obCells (cellAt r2 0)) 1)))), (.v (.int .u64 (avInt (cellAt (obCells (cellAt r2 0)) 2)))), (.v (.int .u64 (avInt (cellAt (obCells (cellAt r2 0)) 3)))), (.v (.int .u64 (avInt (cellAt (obCells (cellAt r2 0)) 4)))), (.v (.int .u64 (avInt (cellAt (obCells (cellAt r2 0)) 5)))), (.v (.int .u64 (avInt (cellAt (obCells (cellAt r2 0)) 6)))), (.v (.int .u64 (avInt (cellAt (obCells (cellAt r2 0)) 7)))), (.v (.int .u64 (avInt (cellAt (obCells (cellAt r2 0)) 8))))])]).bind fun r4 =>
                          cond (isB (cellAt r4 0))
                           (cond (!(avBool (cellAt r4 0)))
                             (some ⟨(some 1000001), ⟨[(0, (.lst a0_0n 9 a0_0)), (2, (.v (.int .i64 a2_0))), (4, (.ptr 0 0 0)), (52, (.v (.bool true)))], [⟨1, 28, 2, true, [[(.v (.int .i64 a1_0)), (.v (.int .i64 a1_1))]]⟩]⟩, []⟩)
                             (cond (!((avBool (cellAt r0 1)) == (avBool (cellAt r2 1))))
                               (some ⟨(some 1000001), ⟨[(0, (.lst a0_0n 9 a0_0)), (2, (.v (.int .i64 a2_0))), (4, (.ptr 0 0 0)), (52, (.v (.bool true)))], [⟨1, 28, 2, true, [[(.v (.int .i64 a1_0)), (.v (.int .i64 a1_1))]]⟩]⟩, []⟩)
                               (some ⟨(some 1000001), ⟨[(0, (.lst a0_0n 9 a0_0)), (2, (.v (.int .i64 a2_0))), (4, (.ptr 0 0 0)), (52, (.v (.bool (!((avInt (cellAt r0 2)) == (avInt (cellAt r2 2)))))))], [⟨1, 28, 2, true, [[(.v (.int .i64 a1_0)), (.v (.int .i64 a1_1))]]⟩]⟩, []⟩)))
                           (none)))
                       (none)).bind fun j5 =>
                    cond (isEx 1000001 j5)
                     (cond (likeStG ⟨[(0, (.lst a0_0n 9 a0_0)), (2, (.v (.int .i64 a2_0))), (4, (.ptr 0 0 0)), (52, (.v (.bool false)))], [⟨1, 28, 2, true, [[(.v (.int .i64 a1_0)), (.v (.int .i64 a1_1))]]⟩]⟩ j5.st)
                       (cond (avBool (frAt j5.st.fr 3).2)
                         (some ⟨none, ⟨[], []⟩, [(.v (.bool false))]⟩)
                         (some ⟨(some 1000001), ⟨[(0, (.lst (avNil (frAt j5.st.fr 0).2) 9 (avXs (frAt j5.st.fr 0).2))), (2, (.v (.int .i64 (avInt (frAt j5.st.fr 1).2)))), (4, (.ptr 0 0 0))], [⟨1, 28, 2, true, [[(.v (.int .i64 (avInt (cellAt (lget (blAt j5.st.bl 0).xs 0) 0)))), (.v (.int .i64 (avInt (cellAt (lget (blAt j5.st.bl 0).xs 0) 1))))]]⟩]⟩, []⟩))
                       (none))
                     (cond (isRt j5)
                       (some ⟨none, ⟨[], []⟩, j5.outs⟩)
                       (none))).bind fun j6 =>
                  cond (isEx 1000001 j6)
                   (cond (likeStG ⟨[(0, (.lst a0_0n 9 a0_0)), (2, (.v (.int .i64 a2_0))), (4, (.ptr 0 0 0))], [⟨1, 28, 2, true, [[(.v (.int .i64 a1_0)), (.v (.int .i64 a1_1))]]⟩]⟩ j6.st)
                     ((ev n 39 [(.lst (avNil (frAt j6.st.fr 0).2) 9 (avXs (frAt j6.st.fr 0).2)), (.agg [(.v (.int .i64 (avInt (cellAt (lget (blAt j6.st.bl 0).xs 0) 0)))), (.v (.int .i64 (avInt (cellAt (lget (blAt j6.st.bl 0).xs 0) 1))))]), (.v (.int .i64 (avInt (frAt j6.st.fr 1).2)))]).bind fun r7 =>
                      cond ((Ev.isAgg 9 (cellAt r7 0)) && ((isI .i64 (cellAt (obCells (cellAt r7 0)) 0)) && ((isI .u64 (cellAt (obCells (cellAt r7 0)) 1)) && ((isI .u64 (cellAt (obCells (cellAt r7 0)) 2)) && ((isI .u64 (cellAt (obCells (cellAt r7 0)) 3)) && ((isI .u64 (cellAt (obCells (cellAt r7 0)) 4)) && ((isI .u64 (cellAt (obCells (cellAt r7 0)) 5)) && ((isI .u64 (cellAt (obCells (cellAt r7 0)) 6)) && ((isI .u64 (cellAt (obCells (cellAt r7 0)) 7)) && (isI .u64 (cellAt (obCells (cellAt r7 0)) 8)))))))))))
                       (cond (isB (cellAt r7 1))
                         (cond (isI .i64 (cellAt r7 2))
                           ((ev n 18 [(.agg [(.v (.int .i64 (avInt (cellAt (lget (blAt j6.st.bl 0).xs 0) 0)))), (.v (.int .i64 (avInt (cellAt (lget (blAt j6.st.bl 0).xs 0) 1))))])]).bind fun r8 =>
                            cond ((Ev.isAgg 2 (cellAt r8 0)) && ((isI .i64 (cellAt (obCells (cellAt r8 0)) 0)) && (isI .i64 (cellAt (obCells (cellAt r8 0)) 1))))
                             ((ev n 38 [(.lst (avNil (frAt j6.st.fr 0).2) 9 (avXs (frAt j6.st.fr 0).2)), (.agg [(.v (.int .i64 (avInt (cellAt (obCells (cellAt r8 0)) 0)))), (.v (.int .i64 (avInt (cellAt (obCells (cellAt r8 0)) 1))))]), (.v (.int .i64 (avInt (frAt j6.st.fr 1).2))), (.v (.bool true))]).bind fun r9 =>
                              cond ((Ev.isAgg 9 (cellAt r9 0)) && ((isI .i64 (cellAt (obCells (cellAt r9 0)) 0)) && ((isI .u64 (cellAt (obCells (cellAt r9 0)) 1)) && ((isI .u64 (cellAt (obCells (cellAt r9 0)) 2)) && ((isI .u64 (cellAt (obCells (cellAt r9 0)) 3)) && ((isI .u64 (cellAt (obCells (cellAt r9 0)) 4)) && ((isI .u64 (cellAt (obCells (cellAt r9 0)) 5)) && ((isI .u64 (cellAt (obCells (cellAt r9 0)) 6)) && ((isI .u64 (cellAt (obCells (cellAt r9 0)) 7)) && (isI .u64 (cellAt (obCells (cellAt r9 0)) 8)))))))))))
                               (cond (isB (cellAt r9 1))
                                 (cond (isI .i64 (cellAt r9 2))
                                   ((ev n 29 [(.agg [(.v (.int .i64 (avInt (cellAt (obCells (cellAt r7 0)) 0)))), (.v (.int .u64 (avInt (cellAt (obCells (cellAt r7 0)) 1)))), (.v (.int .u64 (avInt (cellAt (obCells (cellAt r7 0)) 2)))), (.v (.int .u64 (avInt (cellAt (obCells (cellAt r7 0)) 3)))), (.v (.int .u64 (avInt (cellAt (obCells (cellAt r7 0)) 4)))), (.v (.int .u64 (avInt (cellAt (obCells (cellAt r7 0)) 5)))), (.v (.int .u64 (avInt (cellAt (obCells (cellAt r7 0)) 6)))), (.v (.int .u64 (avInt (cellAt (obCells (cellAt r7 0)) 7)))), (.v (.int .u64 (avInt (cellAt (obCells (cellAt r7 0)) 8))))]), (.agg [(.v (.int .i64 (avInt (cellAt (obCells (cellAt r9 0)) 0)))), (.v (.int .u64 (avInt (cellAt (obCells (cellAt r9 0)) 1)))), (.v (.int .u64 (avInt (cellAt (obCells (cellAt r9 0)) 2)))), (.v (.int .u64 (avInt (cellAt (obCells (cellAt r9 0)) 3)))), (.v (.int .u64 (avInt (cellAt (obCells (cellAt r9 0)) 4)))), (.v (.int .u64 (avInt (cellAt (obCells (cellAt r9 0)) 5)))), (.v (.int .u64 (avInt (cellAt (obCells (cellAt r9 0)) 6)))), (.v (.int .u64 (avInt (cellAt (obCells (cellAt r9 0)) 7)))), (.v (.int .u64 (avInt (cellAt (obCells (cellAt r9 0)) 8))))])]).bind fun r10 =>
                                    cond (isB (cellAt r10 0))
                                     (cond (avBool (cellAt r10 0))
                                       (cond ((avBool (cellAt r7 1)) == (avBool (cellAt r9 1)))
                                         (some [(.v (.bool ((avInt (cellAt r7 2)) == (avInt (cellAt r9 2)))))])
                                         (some [(.v (.bool false))]))
                                       (some [(.v (.bool false))]))
                                     (none))
                                   (none))
                                 (none))
                               (none))
                             (none))
                           (none))
                         (none))
                       (none))
                     (none))
                   (cond (isRt j6)
                     (some j6.outs)
                     (none)))
                 (none))
               (none))
             (none))
           (none))
         (none))
       (none))
     (none)) := by kernel_rfl
-- "bodega/bodegalaw19.PointerLocked"
theorem ev10 (n : Nat) (a0_0 : Int) (a0_1 : Int) (a0_2 : Int) (a0_3 : Int) (a0_4 : Int) (a0_5 : Int) (a1_0 : Int) (a2_0 : Int) : ev (n + 1) 10 [(.agg [(.v (.int .i64 a0_0)), (.v (.int .i64 a0_1)), (.v (.int .i64 a0_2)), (.v (.int .i64 a0_3)), (.v (.int .i64 a0_4)), (.v (.int .i64 a0_5))]), (.v (.int .i64 a1_0)), (.v (.int .i64 a2_0))] =
  (ev n 30 [(.v (.int .i64 a0_2)), (.v (.int .i64 152))]).bind fun r0 =>
  cond (isI .i64 (cellAt r0 0))
   ((ev n 30 [(.v (.int .i64 a0_3)), (.v (.int .i64 1000))]).bind fun r1 =>
    cond (isI .i64 (cellAt r1 0))
     ((ev n 30 [(.v (.int .i64 a1_0)), (.v (.int .i64 255))]).bind fun r2 =>
      cond (isI .i64 (cellAt r2 0))
       ((ev n 30 [(.v (.int .i64 a2_0)), (.v (.int .i64 4))]).bind fun r3 =>
        cond (isI .i64 (cellAt r3 0))
         ((ev n 14 [(.agg [(.v (.int .i64 (IntKind.wrap .i64 (1 + (avInt (cellAt r3 0)))))), (.v (.int .i64 5)), (.v (.int .u32 0))])]).bind fun r4 =>
          cond (isI .u64 (cellAt r4 0))
           ((ev n 14 [(.agg [(.v (.int .i64 0)), (.v (.int .i64 5)), (.v (.int .u32 0))])]).bind fun r5 =>
            cond (isI .u64 (cellAt r5 0))
             ((ev n 39 [(.lst false 9 [[(.v (.int .i64 (IntKind.wrap .i64 (104 + (avInt (cellAt r0 0)))))), (.v (.int .u64 (IntKind.wrap .u64 ((IntKind.wrap .u64 ((IntKind.wrap .u64 ((IntKind.wrap .u64 (IntKind.wrap .i64 ((avInt (cellAt r1 0)) + 1))) * (2 ^ 8))) + (IntKind.wrap .u64 (avInt (cellAt r2 0))))) + 1)))), (.v (.int .u64 (avInt (cellAt r4 0)))), (.v (.int .u64 0)), (.v (.int .u64 0)), (.v (.int .u64 0)), (.v (.int .u64 0)), (.v (.int .u64 0)), (.v (.int .u64 0))]]), (.agg [(.v (.int .i64 (IntKind.wrap .i64 (104 + (avInt (cellAt r0 0)))))), (.v (.int .i64 5))]), (.v (.int .i64 (IntKind.wrap .i64 (1 + (avInt (cellAt r3 0))))))]).bind fun r6 =>
              cond ((Ev.isAgg 9 (cellAt r6 0)) && ((isI .i64 (cellAt (obCells (cellAt r6 0)) 0)) && ((isI .u64 (cellAt (obCells (cellAt r6 0)) 1)) && ((isI .u64 (cellAt (obCells (cellAt r6 0)) 2)) && ((isI .u64 (cellAt (obCells (cellAt r6 0)) 3)) && ((isI .u64 (cellAt (obCells (cellAt r6 0)) 4)) && ((isI .u64 (cellAt (obCells (cellAt r6 0)) 5)) && ((isI .u64 (cellAt (obCells (cellAt r6 0)) 6)) && ((isI .u64 (cellAt (obCells (cellAt r6 0)) 7)) && (isI .u64 (cellAt (obCells (cellAt r6 0)) 8)))))))))))
               (cond (isB (cellAt r6 1))
                 (cond (isI .i64 (cellAt r6 2))
                   ((ev n 37 [(.lst false 9 [[(.v (.int .i64 (IntKind.wrap .i64 (104 + (avInt (cellAt r0 0)))))), (.v (.int .u64 (IntKind.wrap .u64 ((IntKind.wrap .u64 ((IntKind.wrap .u64 ((IntKind.wrap .u64 (IntKind.wrap .i64 ((avInt (cellAt r1 0)) + 1))) * (2 ^ 8))) + (IntKind.wrap .u64 (avInt (cellAt r2 0))))) + 1)))), (.v (.int .u64 (avInt (cellAt r4 0)))), (.v (.int .u64 0)), (.v (.int .u64 0)), (.v (.int .u64 0)), (.v (.int .u64 0)), (.v (.int .u64 0)), (.v (.int .u64 0))]]), (.agg [(.v (.int .i64 (IntKind.wrap .i64 (104 + (avInt (cellAt r0 0)))))), (.v (.int .i64 5))]), (.v (.int .i64 (IntKind.wrap .i64 (1 + (avInt (cellAt r3 0))))))]).bind fun r7 =>
                    cond ((Ev.isAgg 9 (cellAt r7 0)) && ((isI .i64 (cellAt (obCells (cellAt r7 0)) 0)) && ((isI .u64 (cellAt (obCells (cellAt r7 0)) 1)) && ((isI .u64 (cellAt (obCells (cellAt r7 0)) 2)) && ((isI .u64 (cellAt (obCells (cellAt r7 0)) 3)) && ((isI .u64 (cellAt (obCells (cellAt r7 0)) 4)) && ((isI .u64 (cellAt (obCells (cellAt r7 0)) 5)) && ((isI .u64 (cellAt (obCells (cellAt r7 0)) 6)) && ((isI .u64 (cellAt (obCells (cellAt r7 0)) 7)) && (isI .u64 (cellAt (obCells (cellAt r7 0)) 8)))))))))))
                     (cond (isB (cellAt r7 1))
                       (cond (isI .i64 (cellAt r7 2))
                         ((ev n 31 [(.agg [(.v (.int .i64 (IntKind.wrap .i64 (104 + (avInt (cellAt r0 0)))))), (.v (.int .u64 (IntKind.wrap .u64 ((IntKind.wrap .u64 ((IntKind.wrap .u64 ((IntKind.wrap .u64 (IntKind.wrap .i64 ((avInt (cellAt r1 0)) + 1))) * (2 ^ 8))) + (IntKind.wrap .u64 (avInt (cellAt r2 0))))) + 1)))), (.v (.int .u64 (avInt (cellAt r5 0)))), (.v (.int .u64 0)), (.v (.int .u64 0)), (.v (.int .u64 0)), (.v (.int .u64 0)), (.v (.int .u64 0)), (.v (.int .u64 0))]), (.v (.int .i64 (IntKind.wrap .i64 (1 + (avInt (cellAt r3 0)))))), (.v (.int .u32 0))]).bind fun r8 =>
                          cond ((Ev.isAgg 9 (cellAt r8 0)) && ((isI .i64 (cellAt (obCells (cellAt r8 0)) 0)) && ((isI .u64 (cellAt (obCells (cellAt r8 0)) 1)) && ((isI .u64 (cellAt (obCells (cellAt r8 0)) 2)) && ((isI .u64 (cellAt (obCells (cellAt r8 0)) 3)) && ((isI .u64 (cellAt (obCells (cellAt r8 0)) 4)) && ((isI .u64 (cellAt (obCells (cellAt r8 0)) 5)) && ((isI .u64 (cellAt (obCells (cellAt r8 0)) 6)) && ((isI .u64 (cellAt (obCells (cellAt r8 0)) 7)) && (isI .u64 (cellAt (obCells (cellAt r8 0)) 8)))))))))))
                           (cond (isI .i64 (cellAt r8 1))
                             ((ev n 33 [(.agg [(.v (.int .i64 (IntKind.wrap .i64 (104 + (avInt (cellAt r0 0)))))), (.v (.int .u64 (IntKind.wrap .u64 ((IntKind.wrap .u64 ((IntKind.wrap .u64 ((IntKind.wrap .u64 (IntKind.wrap .i64 ((avInt (cellAt r1 0)) + 1))) * (2 ^ 8))) + (IntKind.wrap .u64 (avInt (cellAt r2 0))))) + 1)))), (.v (.int .u64 (avInt (cellAt r4 0)))), (.v (.int .u64 0)), (.v (.int .u64 0)), (.v (.int .u64 0)), (.v (.int .u64 0)), (.v (.int .u64 0)), (.v (.int .u64 0))])]).bind fun r9 =>
                              cond ((Ev.isAgg 9 (cellAt r9 0)) && ((isI .i64 (cellAt (obCells (cellAt r9 0)) 0)) && ((isI .u64 (cellAt (obCells (cellAt r9 0)) 1)) && ((isI .u64 (cellAt (obCells (cellAt r9 0)) 2)) && ((isI .u64 (cellAt (obCells (cellAt r9 0)) 3)) && ((isI .u64 (cellAt (obCells (cellAt r9 0)) 4)) && ((isI .u64 (cellAt (obCells (cellAt r9 0)) 5)) && ((isI .u64 (cellAt (obCells (cellAt r9 0)) 6)) && ((isI .u64 (cellAt (obCells (cellAt r9 0)) 7)) && (isI .u64 (cellAt (obCells (cellAt r9 0)) 8)))))))))))
                               (cond (isI .i64 (cellAt r9 1))
                                 ((ev n 15 []).bind fun r10 =>
                                  cond (isB (cellAt r10 0))
                                   (cond (avBool (cellAt r10 0))
                                     ((ev n 23 [(.agg [(.v (.int .i64 (IntKind.wrap .i64 (104 + (avInt (cellAt r0 0)))))), (.v (.int .u64 (IntKind.wrap .u64 ((IntKind.wrap .u64 ((IntKind.wrap .u64 ((IntKind.wrap .u64 (IntKind.wrap .i64 ((avInt (cellAt r1 0)) + 1))) * (2 ^ 8))) + (IntKind.wrap .u64 (avInt (cellAt r2 0))))) + 1)))), (.v (.int .u64 (avInt (cellAt r4 0)))), (.v (.int .u64 0)), (.v (.int .u64 0)), (.v (.int .u64 0)), (.v (.int .u64 0)), (.v (.int .u64 0)), (.v (.int .u64 0))])]).bind fun r11 =>
                                      cond (isB (cellAt r11 0))
                                       (cond (avBool (cellAt r11 0))
                                         (cond (!(avBool (cellAt r6 1)))
                                           (cond ((avInt (cellAt r6 2)) == 3)
                                             (cond (avBool (cellAt r7 1))
                                               (cond ((avInt (cellAt r7 2)) == 0)
                                                 ((ev n 29 [(.agg [(.v (.int .i64 (avInt (cellAt (obCells (cellAt r7 0)) 0)))), (.v (.int .u64 (avInt (cellAt (obCells (cellAt r7 0)) 1)))), (.v (.int .u64 (avInt (cellAt (obCells (cellAt r7 0)) 2)))), (.v (.int .u64 (avInt (cellAt (obCells (cellAt r7 0)) 3)))), (.v (.int .u64 (avInt (cellAt (obCells (cellAt r7 0)) 4)))), (.v (.int .u64 (avInt (cellAt (obCells (cellAt r7 0)) 5)))), (.v (.int .u64 (avInt (cellAt (obCells (cellAt r7 0)) 6)))), (.v (.int .u64 (avInt (cellAt (obCells (cellAt r7 0)) 7)))), (.v (.int .u64 (avInt (cellAt (obCells (cellAt r7 0)) 8))))]), (.agg [(.v (.int .i64 (IntKind.wrap .i64 (104 + (avInt (cellAt r0 0)))))), (.v (.int .u64 (IntKind.wrap .u64 ((IntKind.wrap .u64 ((IntKind.wrap .u64 ((IntKind.wrap .u64 (IntKind.wrap .i64 ((avInt (cellAt r1 0)) + 1))) * (2 ^ 8))) + (IntKind.wrap .u64 (avInt (cellAt r2 0))))) + 1)))), (.v (.int .u64 (avInt (cellAt r4 0)))), (.v (.int .u64 0)), (.v (.int .u64 0)), (.v (.int .u64 0)), (.v (.int .u64 0)), (.v (.int .u64 0)), (.v (.int .u64 0))])]).bind fun r12 =>
                                                  cond (isB (cellAt r12 0))
                                                   (cond (avBool (cellAt r12 0))
                                                     (cond ((avInt (cellAt r8 1)) == 3)
                                                       (some [(.v (.bool ((avInt (cellAt r9 1)) == 3)))])
                                                       (some [(.v (.bool false))]))
                                                     (some [(.v (.bool false))]))
                                                   (none))
                                                 (some [(.v (.bool false))]))
                                               (some [(.v (.bool false))]))
                                             (some [(.v (.bool false))]))
                                           (some [(.v (.bool false))]))
                                         (some [(.v (.bool false))]))
                                       (none))
                                     (some [(.v (.bool false))]))
                                   (none))
                                 (none))
                               (none))
                             (none))
                           (none))
                         (none))
                       (none))
                     (none))
                   (none))
                 (none))
               (none))
             (none))
           (none))
         (none))
       (none))
     (none))
   (none) := by kernel_rfl
-- "bodega/bodegalaw19.near"
theorem ev11 (n : Nat) (a0_0 : Int) (a0_1 : Int) (a0_2 : Int) (a0_3 : Int) (a0_4 : Int) (a0_5 : Bool) : ev (n + 1) 11 [(.agg [(.v (.int .i64 a0_0)), (.v (.int .i64 a0_1)), (.v (.int .i64 a0_2)), (.v (.int .u32 a0_3)), (.v (.int .u64 a0_4)), (.v (.bool a0_5))])] =
  cond a0_5
   ((ev n 30 [(.v (.int .i64 a0_0)), (.v (.int .i64 270))]).bind fun r0 =>
    cond (isI .i64 (cellAt r0 0))
     ((ev n 30 [(.v (.int .i64 a0_1)), (.v (.int .i64 7))]).bind fun r1 =>
      cond (isI .i64 (cellAt r1 0))
       (cond ((leI 0 (avInt (cellAt r1 0))) && (ltI (avInt (cellAt r1 0)) ((7 : Nat) : Int)))
         (cond ((ltN (0 + (Int.toNat (avInt (cellAt r1 0)))) 7) && (isI .i64 (cellAt (lget [[(.v (.int .i64 (-1)))], [(.v (.int .i64 0))], [(.v (.int .i64 1))], [(.v (.int .i64 2))], [(.v (.int .i64 16777214))], [(.v (.int .i64 16777215))], [(.v (.int .i64 16777216))]] (0 + (Int.toNat (avInt (cellAt r1 0))))) 0)))
           ((ev n 30 [(.v (.int .i64 a0_2)), (.v (.int .i64 7))]).bind fun r2 =>
            cond (isI .i64 (cellAt r2 0))
             (some [(.agg [(.v (.int .i64 (IntKind.wrap .i64 ((avInt (cellAt r0 0)) - 5)))), (.v (.int .i64 (avInt (cellAt (lget [[(.v (.int .i64 (-1)))], [(.v (.int .i64 0))], [(.v (.int .i64 1))], [(.v (.int .i64 2))], [(.v (.int .i64 16777214))], [(.v (.int .i64 16777215))], [(.v (.int .i64 16777216))]] (0 + (Int.toNat (avInt (cellAt r1 0))))) 0)))), (.v (.int .i64 (IntKind.wrap .i64 ((avInt (cellAt r2 0)) - 1)))), (.v (.int .u32 a0_3)), (.v (.int .u64 a0_4)), (.v (.bool a0_5))])])
             (none))
           (none))
         (none))
       (none))
     (none))
   (some [(.agg [(.v (.int .i64 a0_0)), (.v (.int .i64 a0_1)), (.v (.int .i64 a0_2)), (.v (.int .u32 a0_3)), (.v (.int .u64 a0_4)), (.v (.bool a0_5))])]) := by kernel_rfl
-- "bodega/pointer.Unpack"
theorem ev12 (n : Nat) (a0_0 : Int) : ev (n + 1) 12 [(.v (.int .u32 a0_0))] =
  some [(.agg [(.v (.int .i64 (IntKind.wrap .i64 (bits .and .u32 a0_0 255)))), (.v (.int .i64 (IntKind.wrap .i64 (Int.fdiv a0_0 (2 ^ 8)))))])] := by kernel_rfl
-- "bodega/pointer.UnpackTag"
theorem ev13 (n : Nat) (a0_0 : Int) : ev (n + 1) 13 [(.v (.int .u64 a0_0))] =
  some [(.agg [(.v (.int .i64 (IntKind.wrap .i64 (bits .and .u64 a0_0 255)))), (.v (.int .i64 (IntKind.wrap .i64 (bits .and .u64 (Int.fdiv a0_0 (2 ^ 8)) 16777215)))), (.v (.int .u32 (IntKind.wrap .u32 (Int.fdiv a0_0 (2 ^ 32)))))])] := by kernel_rfl
-- "bodega/pointer.PackTag"
theorem ev14 (n : Nat) (a0_0 : Int) (a0_1 : Int) (a0_2 : Int) : ev (n + 1) 14 [(.agg [(.v (.int .i64 a0_0)), (.v (.int .i64 a0_1)), (.v (.int .u32 a0_2))])] =
  some [(.v (.int .u64 (bits .or .u64 (bits .or .u64 (bits .and .u64 (IntKind.wrap .u64 a0_0) 255) (IntKind.wrap .u64 ((bits .and .u64 (IntKind.wrap .u64 a0_1) 16777215) * (2 ^ 8)))) (IntKind.wrap .u64 ((IntKind.wrap .u64 a0_2) * (2 ^ 32))))))] := by kernel_rfl
-- "bodega/bodegalaw19.awake"
theorem ev15 (n : Nat)  : ev (n + 1) 15 [] =
  (ev n 14 [(.agg [(.v (.int .i64 0)), (.v (.int .i64 3)), (.v (.int .u32 0))])]).bind fun r0 =>
  cond (isI .u64 (cellAt r0 0))
   ((ev n 31 [(.agg [(.v (.int .i64 110)), (.v (.int .u64 256)), (.v (.int .u64 (avInt (cellAt r0 0)))), (.v (.int .u64 0)), (.v (.int .u64 0)), (.v (.int .u64 0)), (.v (.int .u64 0)), (.v (.int .u64 0)), (.v (.int .u64 0))]), (.v (.int .i64 1)), (.v (.int .u32 0))]).bind fun r1 =>
    cond ((Ev.isAgg 9 (cellAt r1 0)) && ((isI .i64 (cellAt (obCells (cellAt r1 0)) 0)) && ((isI .u64 (cellAt (obCells (cellAt r1 0)) 1)) && ((isI .u64 (cellAt (obCells (cellAt r1 0)) 2)) && ((isI .u64 (cellAt (obCells (cellAt r1 0)) 3)) && ((isI .u64 (cellAt (obCells (cellAt r1 0)) 4)) && ((isI .u64 (cellAt (obCells (cellAt r1 0)) 5)) && ((isI .u64 (cellAt (obCells (cellAt r1 0)) 6)) && ((isI .u64 (cellAt (obCells (cellAt r1 0)) 7)) && (isI .u64 (cellAt (obCells (cellAt r1 0)) 8)))))))))))
     (cond (isI .i64 (cellAt r1 1))
       (cond ((avInt (cellAt r1 1)) == 0)
         ((ev n 21 [(.agg [(.v (.int .i64 (avInt (cellAt (obCells (cellAt r1 0)) 0)))), (.v (.int .u64 (avInt (cellAt (obCells (cellAt r1 0)) 1)))), (.v (.int .u64 (avInt (cellAt (obCells (cellAt r1 0)) 2)))), (.v (.int .u64 (avInt (cellAt (obCells (cellAt r1 0)) 3)))), (.v (.int .u64 (avInt (cellAt (obCells (cellAt r1 0)) 4)))), (.v (.int .u64 (avInt (cellAt (obCells (cellAt r1 0)) 5)))), (.v (.int .u64 (avInt (cellAt (obCells (cellAt r1 0)) 6)))), (.v (.int .u64 (avInt (cellAt (obCells (cellAt r1 0)) 7)))), (.v (.int .u64 (avInt (cellAt (obCells (cellAt r1 0)) 8))))])]).bind fun r2 =>
          cond ((Ev.isAgg 2 (cellAt r2 0)) && ((isI .i64 (cellAt (obCells (cellAt r2 0)) 0)) && (isI .i64 (cellAt (obCells (cellAt r2 0)) 1))))
           ((ev n 19 [(.agg [(.v (.int .i64 (avInt (cellAt (obCells (cellAt r2 0)) 0)))), (.v (.int .i64 (avInt (cellAt (obCells (cellAt r2 0)) 1))))])]).bind fun r3 =>
            cond (isI .u32 (cellAt r3 0))
             (some [(.v (.bool ((avInt (cellAt r3 0)) == 1134)))])
             (none))
           (none))
         (some [(.v (.bool false))]))
       (none))
     (none))
   (none) := by kernel_rfl
-- "bodega/pointer.Valid"
theorem ev16 (n : Nat) (a0_0 : Int) (a0_1 : Int) : ev (n + 1) 16 [(.agg [(.v (.int .i64 a0_0)), (.v (.int .i64 a0_1))])] =
  (ev n 40 [(.v (.int .i64 a0_0))]).bind fun r0 =>
  cond (isB (cellAt r0 0))
   (cond (avBool (cellAt r0 0))
     (cond (leI 1 a0_1)
       (some [(.v (.bool (leI a0_1 16777215)))])
       (some [(.v (.bool false))]))
     (some [(.v (.bool false))]))
   (none) := by kernel_rfl
-- "bodega/bodegaref19.ValidPointer"
theorem ev17 (n : Nat) (a0_0 : Int) (a0_1 : Int) : ev (n + 1) 17 [(.agg [(.v (.int .i64 a0_0)), (.v (.int .i64 a0_1))])] =
  (ev n 41 [(.v (.int .i64 a0_0))]).bind fun r0 =>
  cond (isB (cellAt r0 0))
   (cond (avBool (cellAt r0 0))
     (cond (leI 1 a0_1)
       (some [(.v (.bool (leI a0_1 16777215)))])
       (some [(.v (.bool false))]))
     (some [(.v (.bool false))]))
   (none) := by kernel_rfl
-- "bodega/bodegalaw19.ref"
theorem ev18 (n : Nat) (a0_0 : Int) (a0_1 : Int) : ev (n + 1) 18 [(.agg [(.v (.int .i64 a0_0)), (.v (.int .i64 a0_1))])] =
  some [(.agg [(.v (.int .i64 a0_0)), (.v (.int .i64 a0_1))])] := by kernel_rfl
-- "bodega/pointer.Pack"
theorem ev19 (n : Nat) (a0_0 : Int) (a0_1 : Int) : ev (n + 1) 19 [(.agg [(.v (.int .i64 a0_0)), (.v (.int .i64 a0_1))])] =
  (ev n 16 [(.agg [(.v (.int .i64 a0_0)), (.v (.int .i64 a0_1))])]).bind fun r0 =>
  cond (isB (cellAt r0 0))
   (cond (!(avBool (cellAt r0 0)))
     (some [(.v (.int .u32 0))])
     (some [(.v (.int .u32 (bits .or .u32 (IntKind.wrap .u32 ((IntKind.wrap .u32 a0_1) * (2 ^ 8))) (IntKind.wrap .u32 a0_0))))]))
   (none) := by kernel_rfl
-- "bodega/bodegaref19.Pack"
theorem ev20 (n : Nat) (a0_0 : Int) (a0_1 : Int) : ev (n + 1) 20 [(.agg [(.v (.int .i64 a0_0)), (.v (.int .i64 a0_1))])] =
  (ev n 17 [(.agg [(.v (.int .i64 a0_0)), (.v (.int .i64 a0_1))])]).bind fun r0 =>
  cond (isB (cellAt r0 0))
   (cond (!(avBool (cellAt r0 0)))
     (some [(.v (.int .u32 0))])
     (some [(.v (.int .u32 (IntKind.wrap .u32 ((IntKind.wrap .u32 a0_0) + (IntKind.wrap .u32 (256 * (IntKind.wrap .u32 a0_1)))))))]))
   (none) := by kernel_rfl
-- "bodega/pointer.At"
theorem ev21 (n : Nat) (a0_0 : Int) (a0_1 : Int) (a0_2 : Int) (a0_3 : Int) (a0_4 : Int) (a0_5 : Int) (a0_6 : Int) (a0_7 : Int) (a0_8 : Int) : ev (n + 1) 21 [(.agg [(.v (.int .i64 a0_0)), (.v (.int .u64 a0_1)), (.v (.int .u64 a0_2)), (.v (.int .u64 a0_3)), (.v (.int .u64 a0_4)), (.v (.int .u64 a0_5)), (.v (.int .u64 a0_6)), (.v (.int .u64 a0_7)), (.v (.int .u64 a0_8))])] =
  (ev n 42 [(.agg [(.v (.int .i64 a0_0)), (.v (.int .u64 a0_1)), (.v (.int .u64 a0_2)), (.v (.int .u64 a0_3)), (.v (.int .u64 a0_4)), (.v (.int .u64 a0_5)), (.v (.int .u64 a0_6)), (.v (.int .u64 a0_7)), (.v (.int .u64 a0_8))])]).bind fun r0 =>
  cond ((Ev.isAgg 3 (cellAt r0 0)) && ((isI .i64 (cellAt (obCells (cellAt r0 0)) 0)) && ((isI .i64 (cellAt (obCells (cellAt r0 0)) 1)) && (isI .u32 (cellAt (obCells (cellAt r0 0)) 2)))))
   (some [(.agg [(.v (.int .i64 a0_0)), (.v (.int .i64 (avInt (cellAt (obCells (cellAt r0 0)) 1))))])])
   (none) := by kernel_rfl
-- "bodega/bodegaref19.At"
theorem ev22 (n : Nat) (a0_0 : Int) (a0_1 : Int) (a0_2 : Int) (a0_3 : Int) (a0_4 : Int) (a0_5 : Int) (a0_6 : Int) (a0_7 : Int) (a0_8 : Int) : ev (n + 1) 22 [(.agg [(.v (.int .i64 a0_0)), (.v (.int .u64 a0_1)), (.v (.int .u64 a0_2)), (.v (.int .u64 a0_3)), (.v (.int .u64 a0_4)), (.v (.int .u64 a0_5)), (.v (.int .u64 a0_6)), (.v (.int .u64 a0_7)), (.v (.int .u64 a0_8))])] =
  (ev n 26 [(.agg [(.v (.int .i64 a0_0)), (.v (.int .u64 a0_1)), (.v (.int .u64 a0_2)), (.v (.int .u64 a0_3)), (.v (.int .u64 a0_4)), (.v (.int .u64 a0_5)), (.v (.int .u64 a0_6)), (.v (.int .u64 a0_7)), (.v (.int .u64 a0_8))])]).bind fun r0 =>
  cond (isI .i64 (cellAt r0 0))
   (some [(.agg [(.v (.int .i64 a0_0)), (.v (.int .i64 (avInt (cellAt r0 0))))])])
   (none) := by kernel_rfl
-- "bodega/pointer.Locked"
theorem ev23 (n : Nat) (a0_0 : Int) (a0_1 : Int) (a0_2 : Int) (a0_3 : Int) (a0_4 : Int) (a0_5 : Int) (a0_6 : Int) (a0_7 : Int) (a0_8 : Int) : ev (n + 1) 23 [(.agg [(.v (.int .i64 a0_0)), (.v (.int .u64 a0_1)), (.v (.int .u64 a0_2)), (.v (.int .u64 a0_3)), (.v (.int .u64 a0_4)), (.v (.int .u64 a0_5)), (.v (.int .u64 a0_6)), (.v (.int .u64 a0_7)), (.v (.int .u64 a0_8))])] =
  some [(.v (.bool (!((bits .and .u64 a0_1 255) == 0))))] := by kernel_rfl
-- "bodega/bodegaref19.Locked"
theorem ev24 (n : Nat) (a0_0 : Int) (a0_1 : Int) (a0_2 : Int) (a0_3 : Int) (a0_4 : Int) (a0_5 : Int) (a0_6 : Int) (a0_7 : Int) (a0_8 : Int) : ev (n + 1) 24 [(.agg [(.v (.int .i64 a0_0)), (.v (.int .u64 a0_1)), (.v (.int .u64 a0_2)), (.v (.int .u64 a0_3)), (.v (.int .u64 a0_4)), (.v (.int .u64 a0_5)), (.v (.int .u64 a0_6)), (.v (.int .u64 a0_7)), (.v (.int .u64 a0_8))])] =
  some [(.v (.bool (!((Int.tmod a0_1 256) == 0))))] := by kernel_rfl
-- "bodega/bodegaref19.Unpack"
theorem ev25 (n : Nat) (a0_0 : Int) : ev (n + 1) 25 [(.v (.int .u32 a0_0))] =
  some [(.agg [(.v (.int .i64 (IntKind.wrap .i64 (Int.tmod a0_0 256)))), (.v (.int .i64 (IntKind.wrap .i64 (IntKind.wrap .u32 (Int.tdiv a0_0 256)))))])] := by kernel_rfl
-- "bodega/bodegaref19.Gen"
theorem ev26 (n : Nat) (a0_0 : Int) (a0_1 : Int) (a0_2 : Int) (a0_3 : Int) (a0_4 : Int) (a0_5 : Int) (a0_6 : Int) (a0_7 : Int) (a0_8 : Int) : ev (n + 1) 26 [(.agg [(.v (.int .i64 a0_0)), (.v (.int .u64 a0_1)), (.v (.int .u64 a0_2)), (.v (.int .u64 a0_3)), (.v (.int .u64 a0_4)), (.v (.int .u64 a0_5)), (.v (.int .u64 a0_6)), (.v (.int .u64 a0_7)), (.v (.int .u64 a0_8))])] =
  some [(.v (.int .i64 (IntKind.wrap .i64 (Int.tmod (IntKind.wrap .u64 (Int.tdiv a0_2 256)) 16777216))))] := by kernel_rfl
-- "bodega/bodegaref19.Tag"
theorem ev27 (n : Nat) (a0_0 : Int) (a1_0 : Int) (a2_0 : Int) : ev (n + 1) 27 [(.v (.int .i64 a0_0)), (.v (.int .i64 a1_0)), (.v (.int .u32 a2_0))] =
  some [(.v (.int .u64 (IntKind.wrap .u64 ((IntKind.wrap .u64 ((Int.tmod (IntKind.wrap .u64 a0_0) 256) + (IntKind.wrap .u64 ((Int.tmod (IntKind.wrap .u64 a1_0) 16777216) * 256)))) + (IntKind.wrap .u64 ((IntKind.wrap .u64 a2_0) * (2 ^ 32)))))))] := by kernel_rfl
-- "bodega/pointer.Latest"
theorem ev28 (n : Nat) (a0_0n : Bool) (a0_0 : List (List AV)) (a1_0 : Int) : ev (n + 1) 28 [(.lst a0_0n 9 a0_0), (.v (.int .i64 a1_0))] =
  (lp n n 28 0 0 ⟨[(0, (.lst a0_0n 9 a0_0)), (1, (.v (.int .i64 a1_0))), (4, (.ptr 0 0 0)), (6, (.v (.int .i64 (IntKind.wrap .i64 ((((List.length a0_0) : Nat) : Int) - 1)))))], [⟨1, 43, 9, true, [[(.v (.int .i64 0)), (.v (.int .u64 0)), (.v (.int .u64 0)), (.v (.int .u64 0)), (.v (.int .u64 0)), (.v (.int .u64 0)), (.v (.int .u64 0)), (.v (.int .u64 0)), (.v (.int .u64 0))]]⟩]⟩).bind fun r0 =>
  cond (isEx 0 r0)
   (cond (likeStG ⟨[(4, (.ptr 0 0 0))], [⟨1, 43, 9, true, [[(.v (.int .i64 0)), (.v (.int .u64 0)), (.v (.int .u64 0)), (.v (.int .u64 0)), (.v (.int .u64 0)), (.v (.int .u64 0)), (.v (.int .u64 0)), (.v (.int .u64 0)), (.v (.int .u64 0))]]⟩]⟩ r0.st)
     (some [(.agg [(.v (.int .i64 0)), (.v (.int .u64 0)), (.v (.int .u64 0)), (.v (.int .u64 0)), (.v (.int .u64 0)), (.v (.int .u64 0)), (.v (.int .u64 0)), (.v (.int .u64 0)), (.v (.int .u64 0))]), (.v (.bool false))])
     (none))
   (cond (isRt r0)
     (some r0.outs)
     (none)) := by kernel_rfl
theorem lp28_0 (m n : Nat) (x0n : Bool) (x0 : List (List AV)) (x1 : Int) (x6 : Int) (b0_0 : Int) (b0_1 : Int) (b0_2 : Int) (b0_3 : Int) (b0_4 : Int) (b0_5 : Int) (b0_6 : Int) (b0_7 : Int) (b0_8 : Int) : lp m (n + 1) 28 0 0 ⟨[(0, (.lst x0n 9 x0)), (1, (.v (.int .i64 x1))), (4, (.ptr 0 0 0)), (6, (.v (.int .i64 x6)))], [⟨1, 43, 9, true, [[(.v (.int .i64 b0_0)), (.v (.int .u64 b0_1)), (.v (.int .u64 b0_2)), (.v (.int .u64 b0_3)), (.v (.int .u64 b0_4)), (.v (.int .u64 b0_5)), (.v (.int .u64 b0_6)), (.v (.int .u64 b0_7)), (.v (.int .u64 b0_8))]]⟩]⟩ =
  cond (leI 0 x6)
   (cond ((leI 0 x6) && (ltI x6 (((List.length x0) : Nat) : Int)))
     (cond (isI .i64 (cellAt (lget x0 (Int.toNat x6)) 0))
       (cond ((avInt (cellAt (lget x0 (Int.toNat x6)) 0)) == x1)
         (cond ((leI 0 x6) && (ltI x6 (((List.length x0) : Nat) : Int)))
           (cond ((isI .i64 (cellAt (lget x0 (Int.toNat x6)) 0)) && ((isI .u64 (cellAt (lget x0 (Int.toNat x6)) 1)) && ((isI .u64 (cellAt (lget x0 (Int.toNat x6)) 2)) && ((isI .u64 (cellAt (lget x0 (Int.toNat x6)) 3)) && ((isI .u64 (cellAt (lget x0 (Int.toNat x6)) 4)) && ((isI .u64 (cellAt (lget x0 (Int.toNat x6)) 5)) && ((isI .u64 (cellAt (lget x0 (Int.toNat x6)) 6)) && ((isI .u64 (cellAt (lget x0 (Int.toNat x6)) 7)) && (isI .u64 (cellAt (lget x0 (Int.toNat x6)) 8))))))))))
             (some ⟨none, ⟨[], []⟩, [(.agg [(.v (.int .i64 (avInt (cellAt (lget x0 (Int.toNat x6)) 0)))), (.v (.int .u64 (avInt (cellAt (lget x0 (Int.toNat x6)) 1)))), (.v (.int .u64 (avInt (cellAt (lget x0 (Int.toNat x6)) 2)))), (.v (.int .u64 (avInt (cellAt (lget x0 (Int.toNat x6)) 3)))), (.v (.int .u64 (avInt (cellAt (lget x0 (Int.toNat x6)) 4)))), (.v (.int .u64 (avInt (cellAt (lget x0 (Int.toNat x6)) 5)))), (.v (.int .u64 (avInt (cellAt (lget x0 (Int.toNat x6)) 6)))), (.v (.int .u64 (avInt (cellAt (lget x0 (Int.toNat x6)) 7)))), (.v (.int .u64 (avInt (cellAt (lget x0 (Int.toNat x6)) 8))))]), (.v (.bool true))]⟩)
             (none))
           (none))
         (lp m n 28 0 0 ⟨[(0, (.lst x0n 9 x0)), (1, (.v (.int .i64 x1))), (4, (.ptr 0 0 0)), (6, (.v (.int .i64 (IntKind.wrap .i64 (x6 - 1)))))], [⟨1, 43, 9, true, [[(.v (.int .i64 b0_0)), (.v (.int .u64 b0_1)), (.v (.int .u64 b0_2)), (.v (.int .u64 b0_3)), (.v (.int .u64 b0_4)), (.v (.int .u64 b0_5)), (.v (.int .u64 b0_6)), (.v (.int .u64 b0_7)), (.v (.int .u64 b0_8))]]⟩]⟩))
       (none))
     (none))
   (some ⟨(some 0), ⟨[(4, (.ptr 0 0 0))], [⟨1, 43, 9, true, [[(.v (.int .i64 b0_0)), (.v (.int .u64 b0_1)), (.v (.int .u64 b0_2)), (.v (.int .u64 b0_3)), (.v (.int .u64 b0_4)), (.v (.int .u64 b0_5)), (.v (.int .u64 b0_6)), (.v (.int .u64 b0_7)), (.v (.int .u64 b0_8))]]⟩]⟩, []⟩) := by kernel_rfl
-- "bodega/bodegalaw19.same"
theorem ev29 (n : Nat) (a0_0 : Int) (a0_1 : Int) (a0_2 : Int) (a0_3 : Int) (a0_4 : Int) (a0_5 : Int) (a0_6 : Int) (a0_7 : Int) (a0_8 : Int) (a1_0 : Int) (a1_1 : Int) (a1_2 : Int) (a1_3 : Int) (a1_4 : Int) (a1_5 : Int) (a1_6 : Int) (a1_7 : Int) (a1_8 : Int) : ev (n + 1) 29 [(.agg [(.v (.int .i64 a0_0)), (.v (.int .u64 a0_1)), (.v (.int .u64 a0_2)), (.v (.int .u64 a0_3)), (.v (.int .u64 a0_4)), (.v (.int .u64 a0_5)), (.v (.int .u64 a0_6)), (.v (.int .u64 a0_7)), (.v (.int .u64 a0_8))]), (.agg [(.v (.int .i64 a1_0)), (.v (.int .u64 a1_1)), (.v (.int .u64 a1_2)), (.v (.int .u64 a1_3)), (.v (.int .u64 a1_4)), (.v (.int .u64 a1_5)), (.v (.int .u64 a1_6)), (.v (.int .u64 a1_7)), (.v (.int .u64 a1_8))])] =
  cond (a0_0 == a1_0)
   (cond (a0_1 == a1_1)
     (some [(.v (.bool ((a0_2 == a1_2) && ((a0_3 == a1_3) && ((a0_4 == a1_4) && ((a0_5 == a1_5) && ((a0_6 == a1_6) && ((a0_7 == a1_7) && (a0_8 == a1_8)))))))))])
     (some [(.v (.bool false))]))
   (some [(.v (.bool false))]) := by kernel_rfl
-- "bodega/bodegahand.Pick"
theorem ev30 (n : Nat) (a0_0 : Int) (a1_0 : Int) : ev (n + 1) 30 [(.v (.int .i64 a0_0)), (.v (.int .i64 a1_0))] =
  cond (ltI a1_0 1)
   (some [(.v (.int .i64 0))])
   (cond (eqI a1_0 0)
     (none)
     (cond (eqI a1_0 0)
       (none)
       (some [(.v (.int .i64 (Int.tmod (IntKind.wrap .i64 ((Int.tmod a0_0 a1_0) + a1_0)) a1_0)))]))) := by kernel_rfl
-- "bodega/pointer.Allocate"
theorem ev31 (n : Nat) (a0_0 : Int) (a0_1 : Int) (a0_2 : Int) (a0_3 : Int) (a0_4 : Int) (a0_5 : Int) (a0_6 : Int) (a0_7 : Int) (a0_8 : Int) (a1_0 : Int) (a2_0 : Int) : ev (n + 1) 31 [(.agg [(.v (.int .i64 a0_0)), (.v (.int .u64 a0_1)), (.v (.int .u64 a0_2)), (.v (.int .u64 a0_3)), (.v (.int .u64 a0_4)), (.v (.int .u64 a0_5)), (.v (.int .u64 a0_6)), (.v (.int .u64 a0_7)), (.v (.int .u64 a0_8))]), (.v (.int .i64 a1_0)), (.v (.int .u32 a2_0))] =
  (ev n 42 [(.agg [(.v (.int .i64 a0_0)), (.v (.int .u64 a0_1)), (.v (.int .u64 a0_2)), (.v (.int .u64 a0_3)), (.v (.int .u64 a0_4)), (.v (.int .u64 a0_5)), (.v (.int .u64 a0_6)), (.v (.int .u64 a0_7)), (.v (.int .u64 a0_8))])]).bind fun r0 =>
  cond ((Ev.isAgg 3 (cellAt r0 0)) && ((isI .i64 (cellAt (obCells (cellAt r0 0)) 0)) && ((isI .i64 (cellAt (obCells (cellAt r0 0)) 1)) && (isI .u32 (cellAt (obCells (cellAt r0 0)) 2)))))
   ((((ev n 40 [(.v (.int .i64 a0_0))]).bind fun r1 =>
        cond (isB (cellAt r1 0))
         (cond (!(avBool (cellAt r1 0)))
           (some ⟨(some 1000001), ⟨[(1, (.v (.int .i64 a1_0))), (2, (.v (.int .u32 a2_0))), (3, (.ptr 0 0 0)), (6, (.ptr 1 0 0)), (8, (.ptr 2 0 0)), (11, (.v (.bool true)))], [⟨1, 43, 9, true, [[(.v (.int .i64 a0_0)), (.v (.int .u64 a0_1)), (.v (.int .u64 a0_2)), (.v (.int .u64 a0_3)), (.v (.int .u64 a0_4)), (.v (.int .u64 a0_5)), (.v (.int .u64 a0_6)), (.v (.int .u64 a0_7)), (.v (.int .u64 a0_8))]]⟩, ⟨1, 43, 9, true, [[(.v (.int .i64 0)), (.v (.int .u64 0)), (.v (.int .u64 0)), (.v (.int .u64 0)), (.v (.int .u64 0)), (.v (.int .u64 0)), (.v (.int .u64 0)), (.v (.int .u64 0)), (.v (.int .u64 0))]]⟩, ⟨1, 31, 3, true, [[(.v (.int .i64 (avInt (cellAt (obCells (cellAt r0 0)) 0)))), (.v (.int .i64 (avInt (cellAt (obCells (cellAt r0 0)) 1)))), (.v (.int .u32 (avInt (cellAt (obCells (cellAt r0 0)) 2))))]]⟩]⟩, []⟩)
           (cond (ltI a1_0 1)
             (some ⟨(some 1000001), ⟨[(1, (.v (.int .i64 a1_0))), (2, (.v (.int .u32 a2_0))), (3, (.ptr 0 0 0)), (6, (.ptr 1 0 0)), (8, (.ptr 2 0 0)), (11, (.v (.bool true)))], [⟨1, 43, 9, true, [[(.v (.int .i64 a0_0)), (.v (.int .u64 a0_1)), (.v (.int .u64 a0_2)), (.v (.int .u64 a0_3)), (.v (.int .u64 a0_4)), (.v (.int .u64 a0_5)), (.v (.int .u64 a0_6)), (.v (.int .u64 a0_7)), (.v (.int .u64 a0_8))]]⟩, ⟨1, 43, 9, true, [[(.v (.int .i64 0)), (.v (.int .u64 0)), (.v (.int .u64 0)), (.v (.int .u64 0)), (.v (.int .u64 0)), (.v (.int .u64 0)), (.v (.int .u64 0)), (.v (.int .u64 0)), (.v (.int .u64 0))]]⟩, ⟨1, 31, 3, true, [[(.v (.int .i64 (avInt (cellAt (obCells (cellAt r0 0)) 0)))), (.v (.int .i64 (avInt (cellAt (obCells (cellAt r0 0)) 1)))), (.v (.int .u32 (avInt (cellAt (obCells (cellAt r0 0)) 2))))]]⟩]⟩, []⟩)
             (some ⟨(some 1000001), ⟨[(1, (.v (.int .i64 a1_0))), (2, (.v (.int .u32 a2_0))), (3, (.ptr 0 0 0)), (6, (.ptr 1 0 0)), (8, (.ptr 2 0 0)), (11, (.v (.bool (ltI 4 a1_0))))], [⟨1, 43, 9, true, [[(.v (.int .i64 a0_0)), (.v (.int .u64 a0_1)), (.v (.int .u64 a0_2)), (.v (.int .u64 a0_3)), (.v (.int .u64 a0_4)), (.v (.int .u64 a0_5)), (.v (.int .u64 a0_6)), (.v (.int .u64 a0_7)), (.v (.int .u64 a0_8))]]⟩, ⟨1, 43, 9, true, [[(.v (.int .i64 0)), (.v (.int .u64 0)), (.v (.int .u64 0)), (.v (.int .u64 0)), (.v (.int .u64 0)), (.v (.int .u64 0)), (.v (.int .u64 0)), (.v (.int .u64 0)), (.v (.int .u64 0))]]⟩, ⟨1, 31, 3, true, [[(.v (.int .i64 (avInt (cellAt (obCells (cellAt r0 0)) 0)))), (.v (.int .i64 (avInt (cellAt (obCells (cellAt r0 0)) 1)))), (.v (.int .u32 (avInt (cellAt (obCells (cellAt r0 0)) 2))))]]⟩]⟩, []⟩)))
         (none)).bind fun j2 =>
      cond (isEx 1000001 j2)
       (cond (likeStG ⟨[(1, (.v (.int .i64 a1_0))), (2, (.v (.int .u32 a2_0))), (3, (.ptr 0 0 0)), (6, (.ptr 1 0 0)), (8, (.ptr 2 0 0)), (11, (.v (.bool false)))], [⟨1, 43, 9, true, [[(.v (.int .i64 a0_0)), (.v (.int .u64 a0_1)), (.v (.int .u64 a0_2)), (.v (.int .u64 a0_3)), (.v (.int .u64 a0_4)), (.v (.int .u64 a0_5)), (.v (.int .u64 a0_6)), (.v (.int .u64 a0_7)), (.v (.int .u64 a0_8))]]⟩, ⟨1, 43, 9, true, [[(.v (.int .i64 0)), (.v (.int .u64 0)), (.v (.int .u64 0)), (.v (.int .u64 0)), (.v (.int .u64 0)), (.v (.int .u64 0)), (.v (.int .u64 0)), (.v (.int .u64 0)), (.v (.int .u64 0))]]⟩, ⟨1, 31, 3, true, [[(.v (.int .i64 (avInt (cellAt (obCells (cellAt r0 0)) 0)))), (.v (.int .i64 (avInt (cellAt (obCells (cellAt r0 0)) 1)))), (.v (.int .u32 (avInt (cellAt (obCells (cellAt r0 0)) 2))))]]⟩]⟩ j2.st)
         (cond (avBool (frAt j2.st.fr 5).2)
           (some ⟨none, ⟨[], []⟩, [(.agg [(.v (.int .i64 0)), (.v (.int .u64 0)), (.v (.int .u64 0)), (.v (.int .u64 0)), (.v (.int .u64 0)), (.v (.int .u64 0)), (.v (.int .u64 0)), (.v (.int .u64 0)), (.v (.int .u64 0))]), (.v (.int .i64 1))]⟩)
           ((ev n 23 [(.agg [(.v (.int .i64 (avInt (cellAt (lget (blAt j2.st.bl 0).xs 0) 0)))), (.v (.int .u64 (avInt (cellAt (lget (blAt j2.st.bl 0).xs 0) 1)))), (.v (.int .u64 (avInt (cellAt (lget (blAt j2.st.bl 0).xs 0) 2)))), (.v (.int .u64 (avInt (cellAt (lget (blAt j2.st.bl 0).xs 0) 3)))), (.v (.int .u64 (avInt (cellAt (lget (blAt j2.st.bl 0).xs 0) 4)))), (.v (.int .u64 (avInt (cellAt (lget (blAt j2.st.bl 0).xs 0) 5)))), (.v (.int .u64 (avInt (cellAt (lget (blAt j2.st.bl 0).xs 0) 6)))), (.v (.int .u64 (avInt (cellAt (lget (blAt j2.st.bl 0).xs 0) 7)))), (.v (.int .u64 (avInt (cellAt (lget (blAt j2.st.bl 0).xs 0) 8))))])]).bind fun r3 =>
            cond (isB (cellAt r3 0))
             (cond (avBool (cellAt r3 0))
               (some ⟨none, ⟨[], []⟩, [(.agg [(.v (.int .i64 0)), (.v (.int .u64 0)), (.v (.int .u64 0)), (.v (.int .u64 0)), (.v (.int .u64 0)), (.v (.int .u64 0)), (.v (.int .u64 0)), (.v (.int .u64 0)), (.v (.int .u64 0))]), (.v (.int .i64 3))]⟩)
               (cond (!((avInt (cellAt (lget (blAt j2.st.bl 2).xs 0) 0)) == 0))
                 (some ⟨none, ⟨[], []⟩, [(.agg [(.v (.int .i64 0)), (.v (.int .u64 0)), (.v (.int .u64 0)), (.v (.int .u64 0)), (.v (.int .u64 0)), (.v (.int .u64 0)), (.v (.int .u64 0)), (.v (.int .u64 0)), (.v (.int .u64 0))]), (.v (.int .i64 17))]⟩)
                 (cond ((avInt (cellAt (lget (blAt j2.st.bl 2).xs 0) 1)) == 16777215)
                   (some ⟨none, ⟨[], []⟩, [(.agg [(.v (.int .i64 0)), (.v (.int .u64 0)), (.v (.int .u64 0)), (.v (.int .u64 0)), (.v (.int .u64 0)), (.v (.int .u64 0)), (.v (.int .u64 0)), (.v (.int .u64 0)), (.v (.int .u64 0))]), (.v (.int .i64 18))]⟩)
                   (some ⟨(some 1000001), ⟨[(1, (.v (.int .i64 (avInt (frAt j2.st.fr 0).2)))), (2, (.v (.int .u32 (avInt (frAt j2.st.fr 1).2)))), (3, (.ptr 0 0 0)), (6, (.ptr 1 0 0)), (8, (.ptr 2 0 0))], [⟨1, 43, 9, true, [[(.v (.int .i64 (avInt (cellAt (lget (blAt j2.st.bl 0).xs 0) 0)))), (.v (.int .u64 (avInt (cellAt (lget (blAt j2.st.bl 0).xs 0) 1)))), (.v (.int .u64 (avInt (cellAt (lget (blAt j2.st.bl 0).xs 0) 2)))), (.v (.int .u64 (avInt (cellAt (lget (blAt j2.st.bl 0).xs 0) 3)))), (.v (.int .u64 (avInt (cellAt (lget (blAt j2.st.bl 0).xs 0) 4)))), (.v (.int .u64 (avInt (cellAt (lget (blAt j2.st.bl 0).xs 0) 5)))), (.v (.int .u64 (avInt (cellAt (lget (blAt j2.st.bl 0).xs 0) 6)))), (.v (.int .u64 (avInt (cellAt (lget (blAt j2.st.bl 0).xs 0) 7)))), (.v (.int .u64 (avInt (cellAt (lget (blAt j2.st.bl 0).xs 0) 8))))]]⟩, ⟨1, 43, 9, true, [[(.v (.int .i64 (avInt (cellAt (lget (blAt j2.st.bl 1).xs 0) 0)))), (.v (.int .u64 (avInt (cellAt (lget (blAt j2.st.bl 1).xs 0) 1)))), (.v (.int .u64 (avInt (cellAt (lget (blAt j2.st.bl 1).xs 0) 2)))), (.v (.int .u64 (avInt (cellAt (lget (blAt j2.st.bl 1).xs 0) 3)))), (.v (.int .u64 (avInt (cellAt (lget (blAt j2.st.bl 1).xs 0) 4)))), (.v (.int .u64 (avInt (cellAt (lget (blAt j2.st.bl 1).xs 0) 5)))), (.v (.int .u64 (avInt (cellAt (lget (blAt j2.st.bl 1).xs 0) 6)))), (.v (.int .u64 (avInt (cellAt (lget (blAt j2.st.bl 1).xs 0) 7)))), (.v (.int .u64 (avInt (cellAt (lget (blAt j2.st.bl 1).xs 0) 8))))]]⟩, ⟨1, 31, 3, true, [[(.v (.int .i64 (avInt (cellAt (lget (blAt j2.st.bl 2).xs 0) 0)))), (.v (.int .i64 (avInt (cellAt (lget (blAt j2.st.bl 2).xs 0) 1)))), (.v (.int .u32 (avInt (cellAt (lget (blAt j2.st.bl 2).xs 0) 2))))]]⟩]⟩, []⟩))))
             (none)))
         (none))
       (cond (isRt j2)
         (some ⟨none, ⟨[], []⟩, j2.outs⟩)
         (none))).bind fun j4 =>
    cond (isEx 1000001 j4)
     (cond (likeStG ⟨[(1, (.v (.int .i64 a1_0))), (2, (.v (.int .u32 a2_0))), (3, (.ptr 0 0 0)), (6, (.ptr 1 0 0)), (8, (.ptr 2 0 0))], [⟨1, 43, 9, true, [[(.v (.int .i64 a0_0)), (.v (.int .u64 a0_1)), (.v (.int .u64 a0_2)), (.v (.int .u64 a0_3)), (.v (.int .u64 a0_4)), (.v (.int .u64 a0_5)), (.v (.int .u64 a0_6)), (.v (.int .u64 a0_7)), (.v (.int .u64 a0_8))]]⟩, ⟨1, 43, 9, true, [[(.v (.int .i64 0)), (.v (.int .u64 0)), (.v (.int .u64 0)), (.v (.int .u64 0)), (.v (.int .u64 0)), (.v (.int .u64 0)), (.v (.int .u64 0)), (.v (.int .u64 0)), (.v (.int .u64 0))]]⟩, ⟨1, 31, 3, true, [[(.v (.int .i64 (avInt (cellAt (obCells (cellAt r0 0)) 0)))), (.v (.int .i64 (avInt (cellAt (obCells (cellAt r0 0)) 1)))), (.v (.int .u32 (avInt (cellAt (obCells (cellAt r0 0)) 2))))]]⟩]⟩ j4.st)
       ((ev n 43 [(.agg [(.v (.int .i64 (avInt (cellAt (lget (blAt j4.st.bl 0).xs 0) 0)))), (.v (.int .u64 (avInt (cellAt (lget (blAt j4.st.bl 0).xs 0) 1)))), (.v (.int .u64 (avInt (cellAt (lget (blAt j4.st.bl 0).xs 0) 2)))), (.v (.int .u64 (avInt (cellAt (lget (blAt j4.st.bl 0).xs 0) 3)))), (.v (.int .u64 (avInt (cellAt (lget (blAt j4.st.bl 0).xs 0) 4)))), (.v (.int .u64 (avInt (cellAt (lget (blAt j4.st.bl 0).xs 0) 5)))), (.v (.int .u64 (avInt (cellAt (lget (blAt j4.st.bl 0).xs 0) 6)))), (.v (.int .u64 (avInt (cellAt (lget (blAt j4.st.bl 0).xs 0) 7)))), (.v (.int .u64 (avInt (cellAt (lget (blAt j4.st.bl 0).xs 0) 8))))]), (.agg [(.v (.int .i64 (avInt (frAt j4.st.fr 0).2))), (.v (.int .i64 (IntKind.wrap .i64 ((avInt (cellAt (lget (blAt j4.st.bl 2).xs 0) 1)) + 1)))), (.v (.int .u32 (avInt (frAt j4.st.fr 1).2)))])]).bind fun r5 =>
        cond ((Ev.isAgg 9 (cellAt r5 0)) && ((isI .i64 (cellAt (obCells (cellAt r5 0)) 0)) && ((isI .u64 (cellAt (obCells (cellAt r5 0)) 1)) && ((isI .u64 (cellAt (obCells (cellAt r5 0)) 2)) && ((isI .u64 (cellAt (obCells (cellAt r5 0)) 3)) && ((isI .u64 (cellAt (obCells (cellAt r5 0)) 4)) && ((isI .u64 (cellAt (obCells (cellAt r5 0)) 5)) && ((isI .u64 (cellAt (obCells (cellAt r5 0)) 6)) && ((isI .u64 (cellAt (obCells (cellAt r5 0)) 7)) && (isI .u64 (cellAt (obCells (cellAt r5 0)) 8)))))))))))
         (some [(.agg [(.v (.int .i64 (avInt (cellAt (obCells (cellAt r5 0)) 0)))), (.v (.int .u64 (avInt (cellAt (obCells (cellAt r5 0)) 1)))), (.v (.int .u64 (avInt (cellAt (obCells (cellAt r5 0)) 2)))), (.v (.int .u64 (avInt (cellAt (obCells (cellAt r5 0)) 3)))), (.v (.int .u64 (avInt (cellAt (obCells (cellAt r5 0)) 4)))), (.v (.int .u64 (avInt (cellAt (obCells (cellAt r5 0)) 5)))), (.v (.int .u64 (avInt (cellAt (obCells (cellAt r5 0)) 6)))), (.v (.int .u64 (avInt (cellAt (obCells (cellAt r5 0)) 7)))), (.v (.int .u64 (avInt (cellAt (obCells (cellAt r5 0)) 8))))]), (.v (.int .i64 0))])
         (none))
       (none))
     (cond (isRt j4)
       (some j4.outs)
       (none)))
   (none) := by kernel_rfl
-- "bodega/bodegaref19.Allocate"
theorem ev32 (n : Nat) (a0_0 : Int) (a0_1 : Int) (a0_2 : Int) (a0_3 : Int) (a0_4 : Int) (a0_5 : Int) (a0_6 : Int) (a0_7 : Int) (a0_8 : Int) (a1_0 : Int) (a2_0 : Int) : ev (n + 1) 32 [(.agg [(.v (.int .i64 a0_0)), (.v (.int .u64 a0_1)), (.v (.int .u64 a0_2)), (.v (.int .u64 a0_3)), (.v (.int .u64 a0_4)), (.v (.int .u64 a0_5)), (.v (.int .u64 a0_6)), (.v (.int .u64 a0_7)), (.v (.int .u64 a0_8))]), (.v (.int .i64 a1_0)), (.v (.int .u32 a2_0))] =
  (((ev n 41 [(.v (.int .i64 a0_0))]).bind fun r0 =>
      cond (isB (cellAt r0 0))
       (cond (!(avBool (cellAt r0 0)))
         (some ⟨(some 1000001), ⟨[(1, (.v (.int .i64 a1_0))), (2, (.v (.int .u32 a2_0))), (3, (.ptr 0 0 0)), (6, (.ptr 1 0 0)), (20, (.v (.bool true)))], [⟨1, 43, 9, true, [[(.v (.int .i64 a0_0)), (.v (.int .u64 a0_1)), (.v (.int .u64 a0_2)), (.v (.int .u64 a0_3)), (.v (.int .u64 a0_4)), (.v (.int .u64 a0_5)), (.v (.int .u64 a0_6)), (.v (.int .u64 a0_7)), (.v (.int .u64 a0_8))]]⟩, ⟨1, 43, 9, true, [[(.v (.int .i64 0)), (.v (.int .u64 0)), (.v (.int .u64 0)), (.v (.int .u64 0)), (.v (.int .u64 0)), (.v (.int .u64 0)), (.v (.int .u64 0)), (.v (.int .u64 0)), (.v (.int .u64 0))]]⟩]⟩, []⟩)
         (cond (ltI a1_0 1)
           (some ⟨(some 1000001), ⟨[(1, (.v (.int .i64 a1_0))), (2, (.v (.int .u32 a2_0))), (3, (.ptr 0 0 0)), (6, (.ptr 1 0 0)), (20, (.v (.bool true)))], [⟨1, 43, 9, true, [[(.v (.int .i64 a0_0)), (.v (.int .u64 a0_1)), (.v (.int .u64 a0_2)), (.v (.int .u64 a0_3)), (.v (.int .u64 a0_4)), (.v (.int .u64 a0_5)), (.v (.int .u64 a0_6)), (.v (.int .u64 a0_7)), (.v (.int .u64 a0_8))]]⟩, ⟨1, 43, 9, true, [[(.v (.int .i64 0)), (.v (.int .u64 0)), (.v (.int .u64 0)), (.v (.int .u64 0)), (.v (.int .u64 0)), (.v (.int .u64 0)), (.v (.int .u64 0)), (.v (.int .u64 0)), (.v (.int .u64 0))]]⟩]⟩, []⟩)
           (some ⟨(some 1000001), ⟨[(1, (.v (.int .i64 a1_0))), (2, (.v (.int .u32 a2_0))), (3, (.ptr 0 0 0)), (6, (.ptr 1 0 0)), (20, (.v (.bool (ltI 4 a1_0))))], [⟨1, 43, 9, true, [[(.v (.int .i64 a0_0)), (.v (.int .u64 a0_1)), (.v (.int .u64 a0_2)), (.v (.int .u64 a0_3)), (.v (.int .u64 a0_4)), (.v (.int .u64 a0_5)), (.v (.int .u64 a0_6)), (.v (.int .u64 a0_7)), (.v (.int .u64 a0_8))]]⟩, ⟨1, 43, 9, true, [[(.v (.int .i64 0)), (.v (.int .u64 0)), (.v (.int .u64 0)), (.v (.int .u64 0)), (.v (.int .u64 0)), (.v (.int .u64 0)), (.v (.int .u64 0)), (.v (.int .u64 0)), (.v (.int .u64 0))]]⟩]⟩, []⟩)))
       (none)).bind fun j1 =>
    cond (isEx 1000001 j1)
     (cond (likeStG ⟨[(1, (.v (.int .i64 a1_0))), (2, (.v (.int .u32 a2_0))), (3, (.ptr 0 0 0)), (6, (.ptr 1 0 0)), (20, (.v (.bool false)))], [⟨1, 43, 9, true, [[(.v (.int .i64 a0_0)), (.v (.int .u64 a0_1)), (.v (.int .u64 a0_2)), (.v (.int .u64 a0_3)), (.v (.int .u64 a0_4)), (.v (.int .u64 a0_5)), (.v (.int .u64 a0_6)), (.v (.int .u64 a0_7)), (.v (.int .u64 a0_8))]]⟩, ⟨1, 43, 9, true, [[(.v (.int .i64 0)), (.v (.int .u64 0)), (.v (.int .u64 0)), (.v (.int .u64 0)), (.v (.int .u64 0)), (.v (.int .u64 0)), (.v (.int .u64 0)), (.v (.int .u64 0)), (.v (.int .u64 0))]]⟩]⟩ j1.st)
       (cond (avBool (frAt j1.st.fr 4).2)
         (some ⟨none, ⟨[], []⟩, [(.agg [(.v (.int .i64 0)), (.v (.int .u64 0)), (.v (.int .u64 0)), (.v (.int .u64 0)), (.v (.int .u64 0)), (.v (.int .u64 0)), (.v (.int .u64 0)), (.v (.int .u64 0)), (.v (.int .u64 0))]), (.v (.int .i64 1))]⟩)
         (some ⟨(some 1000001), ⟨[(1, (.v (.int .i64 (avInt (frAt j1.st.fr 0).2)))), (2, (.v (.int .u32 (avInt (frAt j1.st.fr 1).2)))), (3, (.ptr 0 0 0)), (6, (.ptr 1 0 0))], [⟨1, 43, 9, true, [[(.v (.int .i64 (avInt (cellAt (lget (blAt j1.st.bl 0).xs 0) 0)))), (.v (.int .u64 (avInt (cellAt (lget (blAt j1.st.bl 0).xs 0) 1)))), (.v (.int .u64 (avInt (cellAt (lget (blAt j1.st.bl 0).xs 0) 2)))), (.v (.int .u64 (avInt (cellAt (lget (blAt j1.st.bl 0).xs 0) 3)))), (.v (.int .u64 (avInt (cellAt (lget (blAt j1.st.bl 0).xs 0) 4)))), (.v (.int .u64 (avInt (cellAt (lget (blAt j1.st.bl 0).xs 0) 5)))), (.v (.int .u64 (avInt (cellAt (lget (blAt j1.st.bl 0).xs 0) 6)))), (.v (.int .u64 (avInt (cellAt (lget (blAt j1.st.bl 0).xs 0) 7)))), (.v (.int .u64 (avInt (cellAt (lget (blAt j1.st.bl 0).xs 0) 8))))]]⟩, ⟨1, 43, 9, true, [[(.v (.int .i64 (avInt (cellAt (lget (blAt j1.st.bl 1).xs 0) 0)))), (.v (.int .u64 (avInt (cellAt (lget (blAt j1.st.bl 1).xs 0) 1)))), (.v (.int .u64 (avInt (cellAt (lget (blAt j1.st.bl 1).xs 0) 2)))), (.v (.int .u64 (avInt (cellAt (lget (blAt j1.st.bl 1).xs 0) 3)))), (.v (.int .u64 (avInt (cellAt (lget (blAt j1.st.bl 1).xs 0) 4)))), (.v (.int .u64 (avInt (cellAt (lget (blAt j1.st.bl 1).xs 0) 5)))), (.v (.int .u64 (avInt (cellAt (lget (blAt j1.st.bl 1).xs 0) 6)))), (.v (.int .u64 (avInt (cellAt (lget (blAt j1.st.bl 1).xs 0) 7)))), (.v (.int .u64 (avInt (cellAt (lget (blAt j1.st.bl 1).xs 0) 8))))]]⟩]⟩, []⟩))
       (none))
     (cond (isRt j1)
       (some ⟨none, ⟨[], []⟩, j1.outs⟩)
       (none))).bind fun j2 =>
  cond (isEx 1000001 j2)
   (cond (likeStG ⟨[(1, (.v (.int .i64 a1_0))), (2, (.v (.int .u32 a2_0))), (3, (.ptr 0 0 0)), (6, (.ptr 1 0 0))], [⟨1, 43, 9, true, [[(.v (.int .i64 a0_0)), (.v (.int .u64 a0_1)), (.v (.int .u64 a0_2)), (.v (.int .u64 a0_3)), (.v (.int .u64 a0_4)), (.v (.int .u64 a0_5)), (.v (.int .u64 a0_6)), (.v (.int .u64 a0_7)), (.v (.int .u64 a0_8))]]⟩, ⟨1, 43, 9, true, [[(.v (.int .i64 0)), (.v (.int .u64 0)), (.v (.int .u64 0)), (.v (.int .u64 0)), (.v (.int .u64 0)), (.v (.int .u64 0)), (.v (.int .u64 0)), (.v (.int .u64 0)), (.v (.int .u64 0))]]⟩]⟩ j2.st)
     ((ev n 24 [(.agg [(.v (.int .i64 (avInt (cellAt (lget (blAt j2.st.bl 0).xs 0) 0)))), (.v (.int .u64 (avInt (cellAt (lget (blAt j2.st.bl 0).xs 0) 1)))), (.v (.int .u64 (avInt (cellAt (lget (blAt j2.st.bl 0).xs 0) 2)))), (.v (.int .u64 (avInt (cellAt (lget (blAt j2.st.bl 0).xs 0) 3)))), (.v (.int .u64 (avInt (cellAt (lget (blAt j2.st.bl 0).xs 0) 4)))), (.v (.int .u64 (avInt (cellAt (lget (blAt j2.st.bl 0).xs 0) 5)))), (.v (.int .u64 (avInt (cellAt (lget (blAt j2.st.bl 0).xs 0) 6)))), (.v (.int .u64 (avInt (cellAt (lget (blAt j2.st.bl 0).xs 0) 7)))), (.v (.int .u64 (avInt (cellAt (lget (blAt j2.st.bl 0).xs 0) 8))))])]).bind fun r3 =>
      cond (isB (cellAt r3 0))
       (cond (avBool (cellAt r3 0))
         (some [(.agg [(.v (.int .i64 0)), (.v (.int .u64 0)), (.v (.int .u64 0)), (.v (.int .u64 0)), (.v (.int .u64 0)), (.v (.int .u64 0)), (.v (.int .u64 0)), (.v (.int .u64 0)), (.v (.int .u64 0))]), (.v (.int .i64 3))])
         ((ev n 44 [(.agg [(.v (.int .i64 (avInt (cellAt (lget (blAt j2.st.bl 0).xs 0) 0)))), (.v (.int .u64 (avInt (cellAt (lget (blAt j2.st.bl 0).xs 0) 1)))), (.v (.int .u64 (avInt (cellAt (lget (blAt j2.st.bl 0).xs 0) 2)))), (.v (.int .u64 (avInt (cellAt (lget (blAt j2.st.bl 0).xs 0) 3)))), (.v (.int .u64 (avInt (cellAt (lget (blAt j2.st.bl 0).xs 0) 4)))), (.v (.int .u64 (avInt (cellAt (lget (blAt j2.st.bl 0).xs 0) 5)))), (.v (.int .u64 (avInt (cellAt (lget (blAt j2.st.bl 0).xs 0) 6)))), (.v (.int .u64 (avInt (cellAt (lget (blAt j2.st.bl 0).xs 0) 7)))), (.v (.int .u64 (avInt (cellAt (lget (blAt j2.st.bl 0).xs 0) 8))))])]).bind fun r4 =>
          cond (isI .i64 (cellAt r4 0))
           (cond (!((avInt (cellAt r4 0)) == 0))
             (some [(.agg [(.v (.int .i64 0)), (.v (.int .u64 0)), (.v (.int .u64 0)), (.v (.int .u64 0)), (.v (.int .u64 0)), (.v (.int .u64 0)), (.v (.int .u64 0)), (.v (.int .u64 0)), (.v (.int .u64 0))]), (.v (.int .i64 17))])
             ((ev n 26 [(.agg [(.v (.int .i64 (avInt (cellAt (lget (blAt j2.st.bl 0).xs 0) 0)))), (.v (.int .u64 (avInt (cellAt (lget (blAt j2.st.bl 0).xs 0) 1)))), (.v (.int .u64 (avInt (cellAt (lget (blAt j2.st.bl 0).xs 0) 2)))), (.v (.int .u64 (avInt (cellAt (lget (blAt j2.st.bl 0).xs 0) 3)))), (.v (.int .u64 (avInt (cellAt (lget (blAt j2.st.bl 0).xs 0) 4)))), (.v (.int .u64 (avInt (cellAt (lget (blAt j2.st.bl 0).xs 0) 5)))), (.v (.int .u64 (avInt (cellAt (lget (blAt j2.st.bl 0).xs 0) 6)))), (.v (.int .u64 (avInt (cellAt (lget (blAt j2.st.bl 0).xs 0) 7)))), (.v (.int .u64 (avInt (cellAt (lget (blAt j2.st.bl 0).xs 0) 8))))])]).bind fun r5 =>
              cond (isI .i64 (cellAt r5 0))
               (cond ((avInt (cellAt r5 0)) == 16777215)
                 (some [(.agg [(.v (.int .i64 0)), (.v (.int .u64 0)), (.v (.int .u64 0)), (.v (.int .u64 0)), (.v (.int .u64 0)), (.v (.int .u64 0)), (.v (.int .u64 0)), (.v (.int .u64 0)), (.v (.int .u64 0))]), (.v (.int .i64 18))])
                 ((ev n 26 [(.agg [(.v (.int .i64 (avInt (cellAt (lget (blAt j2.st.bl 0).xs 0) 0)))), (.v (.int .u64 (avInt (cellAt (lget (blAt j2.st.bl 0).xs 0) 1)))), (.v (.int .u64 (avInt (cellAt (lget (blAt j2.st.bl 0).xs 0) 2)))), (.v (.int .u64 (avInt (cellAt (lget (blAt j2.st.bl 0).xs 0) 3)))), (.v (.int .u64 (avInt (cellAt (lget (blAt j2.st.bl 0).xs 0) 4)))), (.v (.int .u64 (avInt (cellAt (lget (blAt j2.st.bl 0).xs 0) 5)))), (.v (.int .u64 (avInt (cellAt (lget (blAt j2.st.bl 0).xs 0) 6)))), (.v (.int .u64 (avInt (cellAt (lget (blAt j2.st.bl 0).xs 0) 7)))), (.v (.int .u64 (avInt (cellAt (lget (blAt j2.st.bl 0).xs 0) 8))))])]).bind fun r6 =>
                  cond (isI .i64 (cellAt r6 0))
                   ((ev n 27 [(.v (.int .i64 (avInt (frAt j2.st.fr 0).2))), (.v (.int .i64 (IntKind.wrap .i64 ((avInt (cellAt r6 0)) + 1)))), (.v (.int .u32 (avInt (frAt j2.st.fr 1).2)))]).bind fun r7 =>
                    cond (isI .u64 (cellAt r7 0))
                     (some [(.agg [(.v (.int .i64 (avInt (cellAt (lget (blAt j2.st.bl 0).xs 0) 0)))), (.v (.int .u64 (avInt (cellAt (lget (blAt j2.st.bl 0).xs 0) 1)))), (.v (.int .u64 (avInt (cellAt r7 0)))), (.v (.int .u64 0)), (.v (.int .u64 0)), (.v (.int .u64 0)), (.v (.int .u64 0)), (.v (.int .u64 0)), (.v (.int .u64 0))]), (.v (.int .i64 0))])
                     (none))
                   (none)))
               (none)))
           (none)))
       (none))
     (none))
   (cond (isRt j2)
     (some j2.outs)
     (none)) := by kernel_rfl
-- "bodega/pointer.Release"
theorem ev33 (n : Nat) (a0_0 : Int) (a0_1 : Int) (a0_2 : Int) (a0_3 : Int) (a0_4 : Int) (a0_5 : Int) (a0_6 : Int) (a0_7 : Int) (a0_8 : Int) : ev (n + 1) 33 [(.agg [(.v (.int .i64 a0_0)), (.v (.int .u64 a0_1)), (.v (.int .u64 a0_2)), (.v (.int .u64 a0_3)), (.v (.int .u64 a0_4)), (.v (.int .u64 a0_5)), (.v (.int .u64 a0_6)), (.v (.int .u64 a0_7)), (.v (.int .u64 a0_8))])] =
  (ev n 42 [(.agg [(.v (.int .i64 a0_0)), (.v (.int .u64 a0_1)), (.v (.int .u64 a0_2)), (.v (.int .u64 a0_3)), (.v (.int .u64 a0_4)), (.v (.int .u64 a0_5)), (.v (.int .u64 a0_6)), (.v (.int .u64 a0_7)), (.v (.int .u64 a0_8))])]).bind fun r0 =>
  cond ((Ev.isAgg 3 (cellAt r0 0)) && ((isI .i64 (cellAt (obCells (cellAt r0 0)) 0)) && ((isI .i64 (cellAt (obCells (cellAt r0 0)) 1)) && (isI .u32 (cellAt (obCells (cellAt r0 0)) 2)))))
   ((ev n 40 [(.v (.int .i64 a0_0))]).bind fun r1 =>
    cond (isB (cellAt r1 0))
     (cond (!(avBool (cellAt r1 0)))
       (some [(.agg [(.v (.int .i64 0)), (.v (.int .u64 0)), (.v (.int .u64 0)), (.v (.int .u64 0)), (.v (.int .u64 0)), (.v (.int .u64 0)), (.v (.int .u64 0)), (.v (.int .u64 0)), (.v (.int .u64 0))]), (.v (.int .i64 1))])
       ((ev n 23 [(.agg [(.v (.int .i64 a0_0)), (.v (.int .u64 a0_1)), (.v (.int .u64 a0_2)), (.v (.int .u64 a0_3)), (.v (.int .u64 a0_4)), (.v (.int .u64 a0_5)), (.v (.int .u64 a0_6)), (.v (.int .u64 a0_7)), (.v (.int .u64 a0_8))])]).bind fun r2 =>
        cond (isB (cellAt r2 0))
         (cond (avBool (cellAt r2 0))
           (some [(.agg [(.v (.int .i64 0)), (.v (.int .u64 0)), (.v (.int .u64 0)), (.v (.int .u64 0)), (.v (.int .u64 0)), (.v (.int .u64 0)), (.v (.int .u64 0)), (.v (.int .u64 0)), (.v (.int .u64 0))]), (.v (.int .i64 3))])
           (cond ((avInt (cellAt (obCells (cellAt r0 0)) 0)) == 0)
             (some [(.agg [(.v (.int .i64 0)), (.v (.int .u64 0)), (.v (.int .u64 0)), (.v (.int .u64 0)), (.v (.int .u64 0)), (.v (.int .u64 0)), (.v (.int .u64 0)), (.v (.int .u64 0)), (.v (.int .u64 0))]), (.v (.int .i64 16))])
             ((ev n 43 [(.agg [(.v (.int .i64 a0_0)), (.v (.int .u64 a0_1)), (.v (.int .u64 a0_2)), (.v (.int .u64 a0_3)), (.v (.int .u64 a0_4)), (.v (.int .u64 a0_5)), (.v (.int .u64 a0_6)), (.v (.int .u64 a0_7)), (.v (.int .u64 a0_8))]), (.agg [(.v (.int .i64 0)), (.v (.int .i64 (avInt (cellAt (obCells (cellAt r0 0)) 1)))), (.v (.int .u32 0))])]).bind fun r3 =>
              cond ((Ev.isAgg 9 (cellAt r3 0)) && ((isI .i64 (cellAt (obCells (cellAt r3 0)) 0)) && ((isI .u64 (cellAt (obCells (cellAt r3 0)) 1)) && ((isI .u64 (cellAt (obCells (cellAt r3 0)) 2)) && ((isI .u64 (cellAt (obCells (cellAt r3 0)) 3)) && ((isI .u64 (cellAt (obCells (cellAt r3 0)) 4)) && ((isI .u64 (cellAt (obCells (cellAt r3 0)) 5)) && ((isI .u64 (cellAt (obCells (cellAt r3 0)) 6)) && ((isI .u64 (cellAt (obCells (cellAt r3 0)) 7)) && (isI .u64 (cellAt (obCells (cellAt r3 0)) 8)))))))))))
               (some [(.agg [(.v (.int .i64 (avInt (cellAt (obCells (cellAt r3 0)) 0)))), (.v (.int .u64 (avInt (cellAt (obCells (cellAt r3 0)) 1)))), (.v (.int .u64 (avInt (cellAt (obCells (cellAt r3 0)) 2)))), (.v (.int .u64 (avInt (cellAt (obCells (cellAt r3 0)) 3)))), (.v (.int .u64 (avInt (cellAt (obCells (cellAt r3 0)) 4)))), (.v (.int .u64 (avInt (cellAt (obCells (cellAt r3 0)) 5)))), (.v (.int .u64 (avInt (cellAt (obCells (cellAt r3 0)) 6)))), (.v (.int .u64 (avInt (cellAt (obCells (cellAt r3 0)) 7)))), (.v (.int .u64 (avInt (cellAt (obCells (cellAt r3 0)) 8))))]), (.v (.int .i64 0))])
               (none))))
         (none)))
     (none))
   (none) := by kernel_rfl
-- "bodega/bodegaref19.Release"
theorem ev34 (n : Nat) (a0_0 : Int) (a0_1 : Int) (a0_2 : Int) (a0_3 : Int) (a0_4 : Int) (a0_5 : Int) (a0_6 : Int) (a0_7 : Int) (a0_8 : Int) : ev (n + 1) 34 [(.agg [(.v (.int .i64 a0_0)), (.v (.int .u64 a0_1)), (.v (.int .u64 a0_2)), (.v (.int .u64 a0_3)), (.v (.int .u64 a0_4)), (.v (.int .u64 a0_5)), (.v (.int .u64 a0_6)), (.v (.int .u64 a0_7)), (.v (.int .u64 a0_8))])] =
  (ev n 41 [(.v (.int .i64 a0_0))]).bind fun r0 =>
  cond (isB (cellAt r0 0))
   (cond (!(avBool (cellAt r0 0)))
     (some [(.agg [(.v (.int .i64 0)), (.v (.int .u64 0)), (.v (.int .u64 0)), (.v (.int .u64 0)), (.v (.int .u64 0)), (.v (.int .u64 0)), (.v (.int .u64 0)), (.v (.int .u64 0)), (.v (.int .u64 0))]), (.v (.int .i64 1))])
     ((ev n 24 [(.agg [(.v (.int .i64 a0_0)), (.v (.int .u64 a0_1)), (.v (.int .u64 a0_2)), (.v (.int .u64 a0_3)), (.v (.int .u64 a0_4)), (.v (.int .u64 a0_5)), (.v (.int .u64 a0_6)), (.v (.int .u64 a0_7)), (.v (.int .u64 a0_8))])]).bind fun r1 =>
      cond (isB (cellAt r1 0))
       (cond (avBool (cellAt r1 0))
         (some [(.agg [(.v (.int .i64 0)), (.v (.int .u64 0)), (.v (.int .u64 0)), (.v (.int .u64 0)), (.v (.int .u64 0)), (.v (.int .u64 0)), (.v (.int .u64 0)), (.v (.int .u64 0)), (.v (.int .u64 0))]), (.v (.int .i64 3))])
         ((ev n 44 [(.agg [(.v (.int .i64 a0_0)), (.v (.int .u64 a0_1)), (.v (.int .u64 a0_2)), (.v (.int .u64 a0_3)), (.v (.int .u64 a0_4)), (.v (.int .u64 a0_5)), (.v (.int .u64 a0_6)), (.v (.int .u64 a0_7)), (.v (.int .u64 a0_8))])]).bind fun r2 =>
          cond (isI .i64 (cellAt r2 0))
           (cond ((avInt (cellAt r2 0)) == 0)
             (some [(.agg [(.v (.int .i64 0)), (.v (.int .u64 0)), (.v (.int .u64 0)), (.v (.int .u64 0)), (.v (.int .u64 0)), (.v (.int .u64 0)), (.v (.int .u64 0)), (.v (.int .u64 0)), (.v (.int .u64 0))]), (.v (.int .i64 16))])
             ((ev n 26 [(.agg [(.v (.int .i64 a0_0)), (.v (.int .u64 a0_1)), (.v (.int .u64 a0_2)), (.v (.int .u64 a0_3)), (.v (.int .u64 a0_4)), (.v (.int .u64 a0_5)), (.v (.int .u64 a0_6)), (.v (.int .u64 a0_7)), (.v (.int .u64 a0_8))])]).bind fun r3 =>
              cond (isI .i64 (cellAt r3 0))
               ((ev n 27 [(.v (.int .i64 0)), (.v (.int .i64 (avInt (cellAt r3 0)))), (.v (.int .u32 0))]).bind fun r4 =>
                cond (isI .u64 (cellAt r4 0))
                 (some [(.agg [(.v (.int .i64 a0_0)), (.v (.int .u64 a0_1)), (.v (.int .u64 (avInt (cellAt r4 0)))), (.v (.int .u64 0)), (.v (.int .u64 0)), (.v (.int .u64 0)), (.v (.int .u64 0)), (.v (.int .u64 0)), (.v (.int .u64 0))]), (.v (.int .i64 0))])
                 (none))
               (none)))
           (none)))
       (none)))
   (none) := by kernel_rfl
-- "bodega/bodegalaw19.made"
theorem ev35 (n : Nat) (a0_0n : Bool) (a0_0 : List (List AV)) (a0_1 : Int) (a0_2 : Int) (a0_3 : Int) : ev (n + 1) 35 [(.agg [(.lst a0_0n 9 a0_0), (.v (.int .i64 a0_1)), (.v (.int .i64 a0_2)), (.v (.int .i64 a0_3))])] =
  (lp n n 35 0 0 ⟨[(1, (.ptr 0 0 0)), (3, (.ptr 1 0 0)), (5, (.sl true 2 0 none)), (6, (.v (.int .i64 0)))], [⟨1, 66, 4, true, [[(.lst a0_0n 9 a0_0), (.v (.int .i64 a0_1)), (.v (.int .i64 a0_2)), (.v (.int .i64 a0_3))]]⟩, ⟨1, 28, 2, true, [[(.v (.int .i64 0)), (.v (.int .i64 0))]]⟩, ⟨1, 43, 9, false, []⟩]⟩).bind fun r0 =>
  cond (isEx 0 r0)
   (cond (likeStG ⟨[(1, (.ptr 0 0 0)), (3, (.ptr 1 0 0)), (5, (.sl true 2 0 none))], [⟨1, 66, 4, true, [[(.lst a0_0n 9 a0_0), (.v (.int .i64 a0_1)), (.v (.int .i64 a0_2)), (.v (.int .i64 a0_3))]]⟩, ⟨1, 28, 2, true, [[(.v (.int .i64 0)), (.v (.int .i64 0))]]⟩, ⟨1, 43, 9, false, []⟩]⟩ r0.st)
     ((ev n 30 [(.v (.int .i64 (avInt (cellAt (lget (blAt r0.st.bl 0).xs 0) 1)))), (.v (.int .i64 5))]).bind fun r1 =>
      cond (isI .i64 (cellAt r1 0))
       ((ev n 30 [(.v (.int .i64 (avInt (cellAt (lget (blAt r0.st.bl 0).xs 0) 2)))), (.v (.int .i64 4))]).bind fun r2 =>
        cond (isI .i64 (cellAt r2 0))
         ((ev n 30 [(.v (.int .i64 (avInt (cellAt (lget (blAt r0.st.bl 0).xs 0) 3)))), (.v (.int .i64 5))]).bind fun r3 =>
          cond (isI .i64 (cellAt r3 0))
           (some [(.lst (avNil (frAt r0.st.fr 2).2) 9 (blAt r0.st.bl 2).xs), (.agg [(.v (.int .i64 (IntKind.wrap .i64 (103 + (avInt (cellAt r1 0)))))), (.v (.int .i64 (avInt (cellAt r2 0))))]), (.v (.int .i64 (avInt (cellAt r3 0))))])
           (none))
         (none))
       (none))
     (none))
   (cond (isRt r0)
     (some r0.outs)
     (none)) := by kernel_rfl
theorem lp35_0 (m n : Nat) (x5n : Bool) (x6 : Int) (b0_0n : Bool) (b0_0 : List (List AV)) (b0_1 : Int) (b0_2 : Int) (b0_3 : Int) (b1_0 : Int) (b1_1 : Int) (b2 : List (List AV)) : lp m (n + 1) 35 0 0 ⟨[(1, (.ptr 0 0 0)), (3, (.ptr 1 0 0)), (5, (.sl x5n 2 0 none)), (6, (.v (.int .i64 x6)))], [⟨1, 66, 4, true, [[(.lst b0_0n 9 b0_0), (.v (.int .i64 b0_1)), (.v (.int .i64 b0_2)), (.v (.int .i64 b0_3))]]⟩, ⟨1, 28, 2, true, [[(.v (.int .i64 b1_0)), (.v (.int .i64 b1_1))]]⟩, ⟨1, 43, 9, false, b2⟩]⟩ =
  cond (ltI x6 (((List.length b0_0) : Nat) : Int))
   (cond ((leI 0 x6) && (ltI x6 (((List.length b0_0) : Nat) : Int)))
     (cond ((isI .i64 (cellAt (lget b0_0 (Int.toNat x6)) 0)) && ((isI .u64 (cellAt (lget b0_0 (Int.toNat x6)) 1)) && ((isI .u64 (cellAt (lget b0_0 (Int.toNat x6)) 2)) && ((isI .u64 (cellAt (lget b0_0 (Int.toNat x6)) 3)) && ((isI .u64 (cellAt (lget b0_0 (Int.toNat x6)) 4)) && ((isI .u64 (cellAt (lget b0_0 (Int.toNat x6)) 5)) && ((isI .u64 (cellAt (lget b0_0 (Int.toNat x6)) 6)) && ((isI .u64 (cellAt (lget b0_0 (Int.toNat x6)) 7)) && (isI .u64 (cellAt (lget b0_0 (Int.toNat x6)) 8))))))))))
       ((ev m 30 [(.v (.int .i64 (avInt (cellAt (lget b0_0 (Int.toNat x6)) 0)))), (.v (.int .i64 5))]).bind fun r4 =>
        cond (isI .i64 (cellAt r4 0))
         (cond (ltI (IntKind.wrap .u64 ((Int.tmod (IntKind.wrap .u64 (Int.tdiv (avInt (cellAt (lget b0_0 (Int.toNat x6)) 1)) 4)) 3) * 8)) 0)
           (none)
           (cond (leN (((List.length b2) + 1) * 72) 140737488355328)
             (lp m n 35 0 0 ⟨[(1, (.ptr 0 0 0)), (3, (.ptr 1 0 0)), (5, (.sl false 2 0 none)), (6, (.v (.int .i64 (IntKind.wrap .i64 (x6 + 1)))))], [⟨1, 66, 4, true, [[(.lst b0_0n 9 b0_0), (.v (.int .i64 b0_1)), (.v (.int .i64 b0_2)), (.v (.int .i64 b0_3))]]⟩, ⟨1, 28, 2, true, [[(.v (.int .i64 b1_0)), (.v (.int .i64 b1_1))]]⟩, ⟨1, 43, 9, false, (b2 ++ [[(.v (.int .i64 (IntKind.wrap .i64 (103 + (avInt (cellAt r4 0)))))), (.v (.int .u64 (IntKind.wrap .u64 ((IntKind.wrap .u64 (Int.tdiv (IntKind.wrap .u64 ((Int.tmod (avInt (cellAt (lget b0_0 (Int.toNat x6)) 1)) 4) * 64)) 64)) * (2 ^ (min (Int.toNat (IntKind.wrap .u64 ((Int.tmod (IntKind.wrap .u64 (Int.tdiv (avInt (cellAt (lget b0_0 (Int.toNat x6)) 1)) 4)) 3) * 8))) 64)))))), (.v (.int .u64 (IntKind.wrap .u64 ((IntKind.wrap .u64 ((Int.tmod (avInt (cellAt (lget b0_0 (Int.toNat x6)) 2)) 6) + (IntKind.wrap .u64 ((Int.tmod (IntKind.wrap .u64 (Int.tdiv (avInt (cellAt (lget b0_0 (Int.toNat x6)) 2)) 6)) 3) * 256)))) + (IntKind.wrap .u64 ((IntKind.wrap .u64 (Int.tdiv (avInt (cellAt (lget b0_0 (Int.toNat x6)) 2)) 18)) * (2 ^ 32))))))), (.v (.int .u64 (avInt (cellAt (lget b0_0 (Int.toNat x6)) 3)))), (.v (.int .u64 (avInt (cellAt (lget b0_0 (Int.toNat x6)) 4)))), (.v (.int .u64 (avInt (cellAt (lget b0_0 (Int.toNat x6)) 5)))), (.v (.int .u64 (avInt (cellAt (lget b0_0 (Int.toNat x6)) 6)))), (.v (.int .u64 (avInt (cellAt (lget b0_0 (Int.toNat x6)) 7)))), (.v (.int .u64 (avInt (cellAt (lget b0_0 (Int.toNat x6)) 8))))]])⟩]⟩)
             (none)))
         (none))
       (none))
     (none))
   (some ⟨(some 0), ⟨[(1, (.ptr 0 0 0)), (3, (.ptr 1 0 0)), (5, (.sl x5n 2 0 none))], [⟨1, 66, 4, true, [[(.lst b0_0n 9 b0_0), (.v (.int .i64 b0_1)), (.v (.int .i64 b0_2)), (.v (.int .i64 b0_3))]]⟩, ⟨1, 28, 2, true, [[(.v (.int .i64 b1_0)), (.v (.int .i64 b1_1))]]⟩, ⟨1, 43, 9, false, b2⟩]⟩, []⟩) := by kernel_rfl
-- "bodega/bodegaref19.Latest"
theorem ev36 (n : Nat) (a0_0n : Bool) (a0_0 : List (List AV)) (a1_0 : Int) : ev (n + 1) 36 [(.lst a0_0n 9 a0_0), (.v (.int .i64 a1_0))] =
  (lp n n 36 0 0 ⟨[(0, (.lst a0_0n 9 a0_0)), (1, (.v (.int .i64 a1_0))), (4, (.ptr 0 0 0)), (6, (.ptr 1 0 0)), (7, (.v (.bool false))), (8, (.v (.int .i64 0)))], [⟨1, 43, 9, true, [[(.v (.int .i64 0)), (.v (.int .u64 0)), (.v (.int .u64 0)), (.v (.int .u64 0)), (.v (.int .u64 0)), (.v (.int .u64 0)), (.v (.int .u64 0)), (.v (.int .u64 0)), (.v (.int .u64 0))]]⟩, ⟨1, 43, 9, true, [[(.v (.int .i64 0)), (.v (.int .u64 0)), (.v (.int .u64 0)), (.v (.int .u64 0)), (.v (.int .u64 0)), (.v (.int .u64 0)), (.v (.int .u64 0)), (.v (.int .u64 0)), (.v (.int .u64 0))]]⟩]⟩).bind fun r0 =>
  cond (isEx 0 r0)
   (cond (likeStG ⟨[(4, (.ptr 0 0 0)), (6, (.ptr 1 0 0)), (7, (.v (.bool false)))], [⟨1, 43, 9, true, [[(.v (.int .i64 0)), (.v (.int .u64 0)), (.v (.int .u64 0)), (.v (.int .u64 0)), (.v (.int .u64 0)), (.v (.int .u64 0)), (.v (.int .u64 0)), (.v (.int .u64 0)), (.v (.int .u64 0))]]⟩, ⟨1, 43, 9, true, [[(.v (.int .i64 0)), (.v (.int .u64 0)), (.v (.int .u64 0)), (.v (.int .u64 0)), (.v (.int .u64 0)), (.v (.int .u64 0)), (.v (.int .u64 0)), (.v (.int .u64 0)), (.v (.int .u64 0))]]⟩]⟩ r0.st)
     (some [(.agg [(.v (.int .i64 (avInt (cellAt (lget (blAt r0.st.bl 1).xs 0) 0)))), (.v (.int .u64 (avInt (cellAt (lget (blAt r0.st.bl 1).xs 0) 1)))), (.v (.int .u64 (avInt (cellAt (lget (blAt r0.st.bl 1).xs 0) 2)))), (.v (.int .u64 (avInt (cellAt (lget (blAt r0.st.bl 1).xs 0) 3)))), (.v (.int .u64 (avInt (cellAt (lget (blAt r0.st.bl 1).xs 0) 4)))), (.v (.int .u64 (avInt (cellAt (lget (blAt r0.st.bl 1).xs 0) 5)))), (.v (.int .u64 (avInt (cellAt (lget (blAt r0.st.bl 1).xs 0) 6)))), (.v (.int .u64 (avInt (cellAt (lget (blAt r0.st.bl 1).xs 0) 7)))), (.v (.int .u64 (avInt (cellAt (lget (blAt r0.st.bl 1).xs 0) 8))))]), (.v (.bool (avBool (frAt r0.st.fr 2).2)))])
     (none))
   (cond (isRt r0)
     (some r0.outs)
     (none)) := by kernel_rfl
theorem lp36_0 (m n : Nat) (x0n : Bool) (x0 : List (List AV)) (x1 : Int) (x7 : Bool) (x8 : Int) (b0_0 : Int) (b0_1 : Int) (b0_2 : Int) (b0_3 : Int) (b0_4 : Int) (b0_5 : Int) (b0_6 : Int) (b0_7 : Int) (b0_8 : Int) (b1_0 : Int) (b1_1 : Int) (b1_2 : Int) (b1_3 : Int) (b1_4 : Int) (b1_5 : Int) (b1_6 : Int) (b1_7 : Int) (b1_8 : Int) : lp m (n + 1) 36 0 0 ⟨[(0, (.lst x0n 9 x0)), (1, (.v (.int .i64 x1))), (4, (.ptr 0 0 0)), (6, (.ptr 1 0 0)), (7, (.v (.bool x7))), (8, (.v (.int .i64 x8)))], [⟨1, 43, 9, true, [[(.v (.int .i64 b0_0)), (.v (.int .u64 b0_1)), (.v (.int .u64 b0_2)), (.v (.int .u64 b0_3)), (.v (.int .u64 b0_4)), (.v (.int .u64 b0_5)), (.v (.int .u64 b0_6)), (.v (.int .u64 b0_7)), (.v (.int .u64 b0_8))]]⟩, ⟨1, 43, 9, true, [[(.v (.int .i64 b1_0)), (.v (.int .u64 b1_1)), (.v (.int .u64 b1_2)), (.v (.int .u64 b1_3)), (.v (.int .u64 b1_4)), (.v (.int .u64 b1_5)), (.v (.int .u64 b1_6)), (.v (.int .u64 b1_7)), (.v (.int .u64 b1_8))]]⟩]⟩ =
  cond (ltI x8 (((List.length x0) : Nat) : Int))
   (cond ((leI 0 x8) && (ltI x8 (((List.length x0) : Nat) : Int)))
     (cond (isI .i64 (cellAt (lget x0 (Int.toNat x8)) 0))
       (cond ((avInt (cellAt (lget x0 (Int.toNat x8)) 0)) == x1)
         (cond ((leI 0 x8) && (ltI x8 (((List.length x0) : Nat) : Int)))
           (cond ((isI .i64 (cellAt (lget x0 (Int.toNat x8)) 0)) && ((isI .u64 (cellAt (lget x0 (Int.toNat x8)) 1)) && ((isI .u64 (cellAt (lget x0 (Int.toNat x8)) 2)) && ((isI .u64 (cellAt (lget x0 (Int.toNat x8)) 3)) && ((isI .u64 (cellAt (lget x0 (Int.toNat x8)) 4)) && ((isI .u64 (cellAt (lget x0 (Int.toNat x8)) 5)) && ((isI .u64 (cellAt (lget x0 (Int.toNat x8)) 6)) && ((isI .u64 (cellAt (lget x0 (Int.toNat x8)) 7)) && (isI .u64 (cellAt (lget x0 (Int.toNat x8)) 8))))))))))
             (lp m n 36 0 0 ⟨[(0, (.lst x0n 9 x0)), (1, (.v (.int .i64 x1))), (4, (.ptr 0 0 0)), (6, (.ptr 1 0 0)), (7, (.v (.bool true))), (8, (.v (.int .i64 (IntKind.wrap .i64 (x8 + 1)))))], [⟨1, 43, 9, true, [[(.v (.int .i64 b0_0)), (.v (.int .u64 b0_1)), (.v (.int .u64 b0_2)), (.v (.int .u64 b0_3)), (.v (.int .u64 b0_4)), (.v (.int .u64 b0_5)), (.v (.int .u64 b0_6)), (.v (.int .u64 b0_7)), (.v (.int .u64 b0_8))]]⟩, ⟨1, 43, 9, true, [[(.v (.int .i64 (avInt (cellAt (lget x0 (Int.toNat x8)) 0)))), (.v (.int .u64 (avInt (cellAt (lget x0 (Int.toNat x8)) 1)))), (.v (.int .u64 (avInt (cellAt (lget x0 (Int.toNat x8)) 2)))), (.v (.int .u64 (avInt (cellAt (lget x0 (Int.toNat x8)) 3)))), (.v (.int .u64 (avInt (cellAt (lget x0 (Int.toNat x8)) 4)))), (.v (.int .u64 (avInt (cellAt (lget x0 (Int.toNat x8)) 5)))), (.v (.int .u64 (avInt (cellAt (lget x0 (Int.toNat x8)) 6)))), (.v (.int .u64 (avInt (cellAt (lget x0 (Int.toNat x8)) 7)))), (.v (.int .u64 (avInt (cellAt (lget x0 (Int.toNat x8)) 8))))]]⟩]⟩)
             (none))
           (none))
         (lp m n 36 0 0 ⟨[(0, (.lst x0n 9 x0)), (1, (.v (.int .i64 x1))), (4, (.ptr 0 0 0)), (6, (.ptr 1 0 0)), (7, (.v (.bool x7))), (8, (.v (.int .i64 (IntKind.wrap .i64 (x8 + 1)))))], [⟨1, 43, 9, true, [[(.v (.int .i64 b0_0)), (.v (.int .u64 b0_1)), (.v (.int .u64 b0_2)), (.v (.int .u64 b0_3)), (.v (.int .u64 b0_4)), (.v (.int .u64 b0_5)), (.v (.int .u64 b0_6)), (.v (.int .u64 b0_7)), (.v (.int .u64 b0_8))]]⟩, ⟨1, 43, 9, true, [[(.v (.int .i64 b1_0)), (.v (.int .u64 b1_1)), (.v (.int .u64 b1_2)), (.v (.int .u64 b1_3)), (.v (.int .u64 b1_4)), (.v (.int .u64 b1_5)), (.v (.int .u64 b1_6)), (.v (.int .u64 b1_7)), (.v (.int .u64 b1_8))]]⟩]⟩))
       (none))
     (none))
   (some ⟨(some 0), ⟨[(4, (.ptr 0 0 0)), (6, (.ptr 1 0 0)), (7, (.v (.bool x7)))], [⟨1, 43, 9, true, [[(.v (.int .i64 b0_0)), (.v (.int .u64 b0_1)), (.v (.int .u64 b0_2)), (.v (.int .u64 b0_3)), (.v (.int .u64 b0_4)), (.v (.int .u64 b0_5)), (.v (.int .u64 b0_6)), (.v (.int .u64 b0_7)), (.v (.int .u64 b0_8))]]⟩, ⟨1, 43, 9, true, [[(.v (.int .i64 b1_0)), (.v (.int .u64 b1_1)), (.v (.int .u64 b1_2)), (.v (.int .u64 b1_3)), (.v (.int .u64 b1_4)), (.v (.int .u64 b1_5)), (.v (.int .u64 b1_6)), (.v (.int .u64 b1_7)), (.v (.int .u64 b1_8))]]⟩]⟩, []⟩) := by kernel_rfl
-- "bodega/pointer.Peek"
theorem ev37 (n : Nat) (a0_0n : Bool) (a0_0 : List (List AV)) (a1_0 : Int) (a1_1 : Int) (a2_0 : Int) : ev (n + 1) 37 [(.lst a0_0n 9 a0_0), (.agg [(.v (.int .i64 a1_0)), (.v (.int .i64 a1_1))]), (.v (.int .i64 a2_0))] =
  (ev n 45 [(.lst a0_0n 9 a0_0), (.agg [(.v (.int .i64 a1_0)), (.v (.int .i64 a1_1))]), (.v (.int .i64 a2_0)), (.v (.bool false))]).bind fun r0 =>
  cond ((Ev.isAgg 9 (cellAt r0 0)) && ((isI .i64 (cellAt (obCells (cellAt r0 0)) 0)) && ((isI .u64 (cellAt (obCells (cellAt r0 0)) 1)) && ((isI .u64 (cellAt (obCells (cellAt r0 0)) 2)) && ((isI .u64 (cellAt (obCells (cellAt r0 0)) 3)) && ((isI .u64 (cellAt (obCells (cellAt r0 0)) 4)) && ((isI .u64 (cellAt (obCells (cellAt r0 0)) 5)) && ((isI .u64 (cellAt (obCells (cellAt r0 0)) 6)) && ((isI .u64 (cellAt (obCells (cellAt r0 0)) 7)) && (isI .u64 (cellAt (obCells (cellAt r0 0)) 8)))))))))))
   (cond (isB (cellAt r0 1))
     (cond (isI .i64 (cellAt r0 2))
       (some [(.agg [(.v (.int .i64 (avInt (cellAt (obCells (cellAt r0 0)) 0)))), (.v (.int .u64 (avInt (cellAt (obCells (cellAt r0 0)) 1)))), (.v (.int .u64 (avInt (cellAt (obCells (cellAt r0 0)) 2)))), (.v (.int .u64 (avInt (cellAt (obCells (cellAt r0 0)) 3)))), (.v (.int .u64 (avInt (cellAt (obCells (cellAt r0 0)) 4)))), (.v (.int .u64 (avInt (cellAt (obCells (cellAt r0 0)) 5)))), (.v (.int .u64 (avInt (cellAt (obCells (cellAt r0 0)) 6)))), (.v (.int .u64 (avInt (cellAt (obCells (cellAt r0 0)) 7)))), (.v (.int .u64 (avInt (cellAt (obCells (cellAt r0 0)) 8))))]), (.v (.bool (avBool (cellAt r0 1)))), (.v (.int .i64 (avInt (cellAt r0 2))))])
       (none))
     (none))
   (none) := by kernel_rfl
-- "bodega/bodegaref19.Look"
theorem ev38 (n : Nat) (a0_0n : Bool) (a0_0 : List (List AV)) (a1_0 : Int) (a1_1 : Int) (a2_0 : Int) (a3_0 : Bool) : ev (n + 1) 38 [(.lst a0_0n 9 a0_0), (.agg [(.v (.int .i64 a1_0)), (.v (.int .i64 a1_1))]), (.v (.int .i64 a2_0)), (.v (.bool a3_0))] =
  (ev n 17 [(.agg [(.v (.int .i64 a1_0)), (.v (.int .i64 a1_1))])]).bind fun r0 =>
  cond (isB (cellAt r0 0))
   (cond (!(avBool (cellAt r0 0)))
     (some [(.agg [(.v (.int .i64 0)), (.v (.int .u64 0)), (.v (.int .u64 0)), (.v (.int .u64 0)), (.v (.int .u64 0)), (.v (.int .u64 0)), (.v (.int .u64 0)), (.v (.int .u64 0)), (.v (.int .u64 0))]), (.v (.bool false)), (.v (.int .i64 1))])
     ((ev n 36 [(.lst a0_0n 9 a0_0), (.v (.int .i64 a1_0))]).bind fun r1 =>
      cond ((Ev.isAgg 9 (cellAt r1 0)) && ((isI .i64 (cellAt (obCells (cellAt r1 0)) 0)) && ((isI .u64 (cellAt (obCells (cellAt r1 0)) 1)) && ((isI .u64 (cellAt (obCells (cellAt r1 0)) 2)) && ((isI .u64 (cellAt (obCells (cellAt r1 0)) 3)) && ((isI .u64 (cellAt (obCells (cellAt r1 0)) 4)) && ((isI .u64 (cellAt (obCells (cellAt r1 0)) 5)) && ((isI .u64 (cellAt (obCells (cellAt r1 0)) 6)) && ((isI .u64 (cellAt (obCells (cellAt r1 0)) 7)) && (isI .u64 (cellAt (obCells (cellAt r1 0)) 8)))))))))))
       (cond (isB (cellAt r1 1))
         (cond (!(avBool (cellAt r1 1)))
           (some [(.agg [(.v (.int .i64 0)), (.v (.int .u64 0)), (.v (.int .u64 0)), (.v (.int .u64 0)), (.v (.int .u64 0)), (.v (.int .u64 0)), (.v (.int .u64 0)), (.v (.int .u64 0)), (.v (.int .u64 0))]), (.v (.bool false)), (.v (.int .i64 0))])
           (((cond a3_0
                 ((ev n 24 [(.agg [(.v (.int .i64 (avInt (cellAt (obCells (cellAt r1 0)) 0)))), (.v (.int .u64 (avInt (cellAt (obCells (cellAt r1 0)) 1)))), (.v (.int .u64 (avInt (cellAt (obCells (cellAt r1 0)) 2)))), (.v (.int .u64 (avInt (cellAt (obCells (cellAt r1 0)) 3)))), (.v (.int .u64 (avInt (cellAt (obCells (cellAt r1 0)) 4)))), (.v (.int .u64 (avInt (cellAt (obCells (cellAt r1 0)) 5)))), (.v (.int .u64 (avInt (cellAt (obCells (cellAt r1 0)) 6)))), (.v (.int .u64 (avInt (cellAt (obCells (cellAt r1 0)) 7)))), (.v (.int .u64 (avInt (cellAt (obCells (cellAt r1 0)) 8))))])]).bind fun r2 =>
                  cond (isB (cellAt r2 0))
                   (some ⟨(some 1000001), ⟨[(2, (.v (.int .i64 a2_0))), (5, (.ptr 0 0 0)), (8, (.ptr 1 0 0)), (11, (.ptr 2 0 0)), (31, (.v (.bool (avBool (cellAt r2 0)))))], [⟨1, 37, 2, true, [[(.v (.int .i64 a1_0)), (.v (.int .i64 a1_1))]]⟩, ⟨1, 43, 9, true, [[(.v (.int .i64 0)), (.v (.int .u64 0)), (.v (.int .u64 0)), (.v (.int .u64 0)), (.v (.int .u64 0)), (.v (.int .u64 0)), (.v (.int .u64 0)), (.v (.int .u64 0)), (.v (.int .u64 0))]]⟩, ⟨1, 43, 9, true, [[(.v (.int .i64 (avInt (cellAt (obCells (cellAt r1 0)) 0)))), (.v (.int .u64 (avInt (cellAt (obCells (cellAt r1 0)) 1)))), (.v (.int .u64 (avInt (cellAt (obCells (cellAt r1 0)) 2)))), (.v (.int .u64 (avInt (cellAt (obCells (cellAt r1 0)) 3)))), (.v (.int .u64 (avInt (cellAt (obCells (cellAt r1 0)) 4)))), (.v (.int .u64 (avInt (cellAt (obCells (cellAt r1 0)) 5)))), (.v (.int .u64 (avInt (cellAt (obCells (cellAt r1 0)) 6)))), (.v (.int .u64 (avInt (cellAt (obCells (cellAt r1 0)) 7)))), (.v (.int .u64 (avInt (cellAt (obCells (cellAt r1 0)) 8))))]]⟩]⟩, []⟩)
                   (none))
                 (some ⟨(some 1000001), ⟨[(2, (.v (.int .i64 a2_0))), (5, (.ptr 0 0 0)), (8, (.ptr 1 0 0)), (11, (.ptr 2 0 0)), (31, (.v (.bool false)))], [⟨1, 37, 2, true, [[(.v (.int .i64 a1_0)), (.v (.int .i64 a1_1))]]⟩, ⟨1, 43, 9, true, [[(.v (.int .i64 0)), (.v (.int .u64 0)), (.v (.int .u64 0)), (.v (.int .u64 0)), (.v (.int .u64 0)), (.v (.int .u64 0)), (.v (.int .u64 0)), (.v (.int .u64 0)), (.v (.int .u64 0))]]⟩, ⟨1, 43, 9, true, [[(.v (.int .i64 (avInt (cellAt (obCells (cellAt r1 0)) 0)))), (.v (.int .u64 (avInt (cellAt (obCells (cellAt r1 0)) 1)))), (.v (.int .u64 (avInt (cellAt (obCells (cellAt r1 0)) 2)))), (.v (.int .u64 (avInt (cellAt (obCells (cellAt r1 0)) 3)))), (.v (.int .u64 (avInt (cellAt (obCells (cellAt r1 0)) 4)))), (.v (.int .u64 (avInt (cellAt (obCells (cellAt r1 0)) 5)))), (.v (.int .u64 (avInt (cellAt (obCells (cellAt r1 0)) 6)))), (.v (.int .u64 (avInt (cellAt (obCells (cellAt r1 0)) 7)))), (.v (.int .u64 (avInt (cellAt (obCells (cellAt r1 0)) 8))))]]⟩]⟩, []⟩)).bind fun j3 =>
              cond (isEx 1000001 j3)
               (cond (likeStG ⟨[(2, (.v (.int .i64 a2_0))), (5, (.ptr 0 0 0)), (8, (.ptr 1 0 0)), (11, (.ptr 2 0 0)), (31, (.v (.bool false)))], [⟨1, 37, 2, true, [[(.v (.int .i64 a1_0)), (.v (.int .i64 a1_1))]]⟩, ⟨1, 43, 9, true, [[(.v (.int .i64 0)), (.v (.int .u64 0)), (.v (.int .u64 0)), (.v (.int .u64 0)), (.v (.int .u64 0)), (.v (.int .u64 0)), (.v (.int .u64 0)), (.v (.int .u64 0)), (.v (.int .u64 0))]]⟩, ⟨1, 43, 9, true, [[(.v (.int .i64 (avInt (cellAt (obCells (cellAt r1 0)) 0)))), (.v (.int .u64 (avInt (cellAt (obCells (cellAt r1 0)) 1)))), (.v (.int .u64 (avInt (cellAt (obCells (cellAt r1 0)) 2)))), (.v (.int .u64 (avInt (cellAt (obCells (cellAt r1 0)) 3)))), (.v (.int .u64 (avInt (cellAt (obCells (cellAt r1 0)) 4)))), (.v (.int .u64 (avInt (cellAt (obCells (cellAt r1 0)) 5)))), (.v (.int .u64 (avInt (cellAt (obCells (cellAt r1 0)) 6)))), (.v (.int .u64 (avInt (cellAt (obCells (cellAt r1 0)) 7)))), (.v (.int .u64 (avInt (cellAt (obCells (cellAt r1 0)) 8))))]]⟩]⟩ j3.st)
                 (cond (avBool (frAt j3.st.fr 4).2)
                   (some ⟨none, ⟨[], []⟩, [(.agg [(.v (.int .i64 0)), (.v (.int .u64 0)), (.v (.int .u64 0)), (.v (.int .u64 0)), (.v (.int .u64 0)), (.v (.int .u64 0)), (.v (.int .u64 0)), (.v (.int .u64 0)), (.v (.int .u64 0))]), (.v (.bool false)), (.v (.int .i64 3))]⟩)
                   (some ⟨(some 1000001), ⟨[(2, (.v (.int .i64 (avInt (frAt j3.st.fr 0).2)))), (5, (.ptr 0 0 0)), (8, (.ptr 1 0 0)), (11, (.ptr 2 0 0))], [⟨1, 37, 2, true, [[(.v (.int .i64 (avInt (cellAt (lget (blAt j3.st.bl 0).xs 0) 0)))), (.v (.int .i64 (avInt (cellAt (lget (blAt j3.st.bl 0).xs 0) 1))))]]⟩, ⟨1, 43, 9, true, [[(.v (.int .i64 (avInt (cellAt (lget (blAt j3.st.bl 1).xs 0) 0)))), (.v (.int .u64 (avInt (cellAt (lget (blAt j3.st.bl 1).xs 0) 1)))), (.v (.int .u64 (avInt (cellAt (lget (blAt j3.st.bl 1).xs 0) 2)))), (.v (.int .u64 (avInt (cellAt (lget (blAt j3.st.bl 1).xs 0) 3)))), (.v (.int .u64 (avInt (cellAt (lget (blAt j3.st.bl 1).xs 0) 4)))), (.v (.int .u64 (avInt (cellAt (lget (blAt j3.st.bl 1).xs 0) 5)))), (.v (.int .u64 (avInt (cellAt (lget (blAt j3.st.bl 1).xs 0) 6)))), (.v (.int .u64 (avInt (cellAt (lget (blAt j3.st.bl 1).xs 0) 7)))), (.v (.int .u64 (avInt (cellAt (lget (blAt j3.st.bl 1).xs 0) 8))))]]⟩, ⟨1, 43, 9, true, [[(.v (.int .i64 (avInt (cellAt (lget (blAt j3.st.bl 2).xs 0) 0)))), (.v (.int .u64 (avInt (cellAt (lget (blAt j3.st.bl 2).xs 0) 1)))), (.v (.int .u64 (avInt (cellAt (lget (blAt j3.st.bl 2).xs 0) 2)))), (.v (.int .u64 (avInt (cellAt (lget (blAt j3.st.bl 2).xs 0) 3)))), (.v (.int .u64 (avInt (cellAt (lget (blAt j3.st.bl 2).xs 0) 4)))), (.v (.int .u64 (avInt (cellAt (lget (blAt j3.st.bl 2).xs 0) 5)))), (.v (.int .u64 (avInt (cellAt (lget (blAt j3.st.bl 2).xs 0) 6)))), (.v (.int .u64 (avInt (cellAt (lget (blAt j3.st.bl 2).xs 0) 7)))), (.v (.int .u64 (avInt (cellAt (lget (blAt j3.st.bl 2).xs 0) 8))))]]⟩]⟩, []⟩))
                 (none))
               (cond (isRt j3)
                 (some ⟨none, ⟨[], []⟩, j3.outs⟩)
                 (none))).bind fun j4 =>
            cond (isEx 1000001 j4)
             (cond (likeStG ⟨[(2, (.v (.int .i64 a2_0))), (5, (.ptr 0 0 0)), (8, (.ptr 1 0 0)), (11, (.ptr 2 0 0))], [⟨1, 37, 2, true, [[(.v (.int .i64 a1_0)), (.v (.int .i64 a1_1))]]⟩, ⟨1, 43, 9, true, [[(.v (.int .i64 0)), (.v (.int .u64 0)), (.v (.int .u64 0)), (.v (.int .u64 0)), (.v (.int .u64 0)), (.v (.int .u64 0)), (.v (.int .u64 0)), (.v (.int .u64 0)), (.v (.int .u64 0))]]⟩, ⟨1, 43, 9, true, [[(.v (.int .i64 (avInt (cellAt (obCells (cellAt r1 0)) 0)))), (.v (.int .u64 (avInt (cellAt (obCells (cellAt r1 0)) 1)))), (.v (.int .u64 (avInt (cellAt (obCells (cellAt r1 0)) 2)))), (.v (.int .u64 (avInt (cellAt (obCells (cellAt r1 0)) 3)))), (.v (.int .u64 (avInt (cellAt (obCells (cellAt r1 0)) 4)))), (.v (.int .u64 (avInt (cellAt (obCells (cellAt r1 0)) 5)))), (.v (.int .u64 (avInt (cellAt (obCells (cellAt r1 0)) 6)))), (.v (.int .u64 (avInt (cellAt (obCells (cellAt r1 0)) 7)))), (.v (.int .u64 (avInt (cellAt (obCells (cellAt r1 0)) 8))))]]⟩]⟩ j4.st)
               ((((ev n 44 [(.agg [(.v (.int .i64 (avInt (cellAt (lget (blAt j4.st.bl 2).xs 0) 0)))), (.v (.int .u64 (avInt (cellAt (lget (blAt j4.st.bl 2).xs 0) 1)))), (.v (.int .u64 (avInt (cellAt (lget (blAt j4.st.bl 2).xs 0) 2)))), (.v (.int .u64 (avInt (cellAt (lget (blAt j4.st.bl 2).xs 0) 3)))), (.v (.int .u64 (avInt (cellAt (lget (blAt j4.st.bl 2).xs 0) 4)))), (.v (.int .u64 (avInt (cellAt (lget (blAt j4.st.bl 2).xs 0) 5)))), (.v (.int .u64 (avInt (cellAt (lget (blAt j4.st.bl 2).xs 0) 6)))), (.v (.int .u64 (avInt (cellAt (lget (blAt j4.st.bl 2).xs 0) 7)))), (.v (.int .u64 (avInt (cellAt (lget (blAt j4.st.bl 2).xs 0) 8))))])]).bind fun r5 =>
                    cond (isI .i64 (cellAt r5 0))
                     (cond ((avInt (cellAt r5 0)) == 0)
                       (some ⟨(some 1000001), ⟨[(2, (.v (.int .i64 (avInt (frAt j4.st.fr 0).2)))), (8, (.ptr 0 0 0)), (11, (.ptr 1 0 0)), (42, (.v (.bool true)))], [⟨1, 43, 9, true, [[(.v (.int .i64 (avInt (cellAt (lget (blAt j4.st.bl 1).xs 0) 0)))), (.v (.int .u64 (avInt (cellAt (lget (blAt j4.st.bl 1).xs 0) 1)))), (.v (.int .u64 (avInt (cellAt (lget (blAt j4.st.bl 1).xs 0) 2)))), (.v (.int .u64 (avInt (cellAt (lget (blAt j4.st.bl 1).xs 0) 3)))), (.v (.int .u64 (avInt (cellAt (lget (blAt j4.st.bl 1).xs 0) 4)))), (.v (.int .u64 (avInt (cellAt (lget (blAt j4.st.bl 1).xs 0) 5)))), (.v (.int .u64 (avInt (cellAt (lget (blAt j4.st.bl 1).xs 0) 6)))), (.v (.int .u64 (avInt (cellAt (lget (blAt j4.st.bl 1).xs 0) 7)))), (.v (.int .u64 (avInt (cellAt (lget (blAt j4.st.bl 1).xs 0) 8))))]]⟩, ⟨1, 43, 9, true, [[(.v (.int .i64 (avInt (cellAt (lget (blAt j4.st.bl 2).xs 0) 0)))), (.v (.int .u64 (avInt (cellAt (lget (blAt j4.st.bl 2).xs 0) 1)))), (.v (.int .u64 (avInt (cellAt (lget (blAt j4.st.bl 2).xs 0) 2)))), (.v (.int .u64 (avInt (cellAt (lget (blAt j4.st.bl 2).xs 0) 3)))), (.v (.int .u64 (avInt (cellAt (lget (blAt j4.st.bl 2).xs 0) 4)))), (.v (.int .u64 (avInt (cellAt (lget (blAt j4.st.bl 2).xs 0) 5)))), (.v (.int .u64 (avInt (cellAt (lget (blAt j4.st.bl 2).xs 0) 6)))), (.v (.int .u64 (avInt (cellAt (lget (blAt j4.st.bl 2).xs 0) 7)))), (.v (.int .u64 (avInt (cellAt (lget (blAt j4.st.bl 2).xs 0) 8))))]]⟩]⟩, []⟩)
                       ((ev n 26 [(.agg [(.v (.int .i64 (avInt (cellAt (lget (blAt j4.st.bl 2).xs 0) 0)))), (.v (.int .u64 (avInt (cellAt (lget (blAt j4.st.bl 2).xs 0) 1)))), (.v (.int .u64 (avInt (cellAt (lget (blAt j4.st.bl 2).xs 0) 2)))), (.v (.int .u64 (avInt (cellAt (lget (blAt j4.st.bl 2).xs 0) 3)))), (.v (.int .u64 (avInt (cellAt (lget (blAt j4.st.bl 2).xs 0) 4)))), (.v (.int .u64 (avInt (cellAt (lget (blAt j4.st.bl 2).xs 0) 5)))), (.v (.int .u64 (avInt (cellAt (lget (blAt j4.st.bl 2).xs 0) 6)))), (.v (.int .u64 (avInt (cellAt (lget (blAt j4.st.bl 2).xs 0) 7)))), (.v (.int .u64 (avInt (cellAt (lget (blAt j4.st.bl 2).xs 0) 8))))])]).bind fun r6 =>
                        cond (isI .i64 (cellAt r6 0))
                         (some ⟨(some 1000001), ⟨[(2, (.v (.int .i64 (avInt (frAt j4.st.fr 0).2)))), (8, (.ptr 0 0 0)), (11, (.ptr 1 0 0)), (42, (.v (.bool (!((avInt (cellAt r6 0)) == (avInt (cellAt (lget (blAt j4.st.bl 0).xs 0) 1)))))))], [⟨1, 43, 9, true, [[(.v (.int .i64 (avInt (cellAt (lget (blAt j4.st.bl 1).xs 0) 0)))), (.v (.int .u64 (avInt (cellAt (lget (blAt j4.st.bl 1).xs 0) 1)))), (.v (.int .u64 (avInt (cellAt (lget (blAt j4.st.bl 1).xs 0) 2)))), (.v (.int .u64 (avInt (cellAt (lget (blAt j4.st.bl 1).xs 0) 3)))), (.v (.int .u64 (avInt (cellAt (lget (blAt j4.st.bl 1).xs 0) 4)))), (.v (.int .u64 (avInt (cellAt (lget (blAt j4.st.bl 1).xs 0) 5)))), (.v (.int .u64 (avInt (cellAt (lget (blAt j4.st.bl 1).xs 0) 6)))), (.v (.int .u64 (avInt (cellAt (lget (blAt j4.st.bl 1).xs 0) 7)))), (.v (.int .u64 (avInt (cellAt (lget (blAt j4.st.bl 1).xs 0) 8))))]]⟩, ⟨1, 43, 9, true, [[(.v (.int .i64 (avInt (cellAt (lget (blAt j4.st.bl 2).xs 0) 0)))), (.v (.int .u64 (avInt (cellAt (lget (blAt j4.st.bl 2).xs 0) 1)))), (.v (.int .u64 (avInt (cellAt (lget (blAt j4.st.bl 2).xs 0) 2)))), (.v (.int .u64 (avInt (cellAt (lget (blAt j4.st.bl 2).xs 0) 3)))), (.v (.int .u64 (avInt (cellAt (lget (blAt j4.st.bl 2).xs 0) 4)))), (.v (.int .u64 (avInt (cellAt (lget (blAt j4.st.bl 2).xs 0) 5)))), (.v (.int .u64 (avInt (cellAt (lget (blAt j4.st.bl 2).xs 0) 6)))), (.v (.int .u64 (avInt (cellAt (lget (blAt j4.st.bl 2).xs 0) 7)))), (.v (.int .u64 (avInt (cellAt (lget (blAt j4.st.bl 2).xs 0) 8))))]]⟩]⟩, []⟩)
                         (none)))
                     (none)).bind fun j7 =>
                  cond (isEx 1000001 j7)
                   (cond (likeStG ⟨[(2, (.v (.int .i64 (avInt (frAt j4.st.fr 0).2)))), (8, (.ptr 0 0 0)), (11, (.ptr 1 0 0)), (42, (.v (.bool false)))], [⟨1, 43, 9, true, [[(.v (.int .i64 (avInt (cellAt (lget (blAt j4.st.bl 1).xs 0) 0)))), (.v (.int .u64 (avInt (cellAt (lget (blAt j4.st.bl 1).xs 0) 1)))), (.v (.int .u64 (avInt (cellAt (lget (blAt j4.st.bl 1).xs 0) 2)))), (.v (.int .u64 (avInt (cellAt (lget (blAt j4.st.bl 1).xs 0) 3)))), (.v (.int .u64 (avInt (cellAt (lget (blAt j4.st.bl 1).xs 0) 4)))), (.v (.int .u64 (avInt (cellAt (lget (blAt j4.st.bl 1).xs 0) 5)))), (.v (.int .u64 (avInt (cellAt (lget (blAt j4.st.bl 1).xs 0) 6)))), (.v (.int .u64 (avInt (cellAt (lget (blAt j4.st.bl 1).xs 0) 7)))), (.v (.int .u64 (avInt (cellAt (lget (blAt j4.st.bl 1).xs 0) 8))))]]⟩, ⟨1, 43, 9, true, [[(.v (.int .i64 (avInt (cellAt (lget (blAt j4.st.bl 2).xs 0) 0)))), (.v (.int .u64 (avInt (cellAt (lget (blAt j4.st.bl 2).xs 0) 1)))), (.v (.int .u64 (avInt (cellAt (lget (blAt j4.st.bl 2).xs 0) 2)))), (.v (.int .u64 (avInt (cellAt (lget (blAt j4.st.bl 2).xs 0) 3)))), (.v (.int .u64 (avInt (cellAt (lget (blAt j4.st.bl 2).xs 0) 4)))), (.v (.int .u64 (avInt (cellAt (lget (blAt j4.st.bl 2).xs 0) 5)))), (.v (.int .u64 (avInt (cellAt (lget (blAt j4.st.bl 2).xs 0) 6)))), (.v (.int .u64 (avInt (cellAt (lget (blAt j4.st.bl 2).xs 0) 7)))), (.v (.int .u64 (avInt (cellAt (lget (blAt j4.st.bl 2).xs 0) 8))))]]⟩]⟩ j7.st)
                     (cond (avBool (frAt j7.st.fr 3).2)
                       (some ⟨none, ⟨[], []⟩, [(.agg [(.v (.int .i64 0)), (.v (.int .u64 0)), (.v (.int .u64 0)), (.v (.int .u64 0)), (.v (.int .u64 0)), (.v (.int .u64 0)), (.v (.int .u64 0)), (.v (.int .u64 0)), (.v (.int .u64 0))]), (.v (.bool false)), (.v (.int .i64 11))]⟩)
                       (some ⟨(some 1000001), ⟨[(2, (.v (.int .i64 (avInt (frAt j7.st.fr 0).2)))), (8, (.ptr 0 0 0)), (11, (.ptr 1 0 0))], [⟨1, 43, 9, true, [[(.v (.int .i64 (avInt (cellAt (lget (blAt j7.st.bl 0).xs 0) 0)))), (.v (.int .u64 (avInt (cellAt (lget (blAt j7.st.bl 0).xs 0) 1)))), (.v (.int .u64 (avInt (cellAt (lget (blAt j7.st.bl 0).xs 0) 2)))), (.v (.int .u64 (avInt (cellAt (lget (blAt j7.st.bl 0).xs 0) 3)))), (.v (.int .u64 (avInt (cellAt (lget (blAt j7.st.bl 0).xs 0) 4)))), (.v (.int .u64 (avInt (cellAt (lget (blAt j7.st.bl 0).xs 0) 5)))), (.v (.int .u64 (avInt (cellAt (lget (blAt j7.st.bl 0).xs 0) 6)))), (.v (.int .u64 (avInt (cellAt (lget (blAt j7.st.bl 0).xs 0) 7)))), (.v (.int .u64 (avInt (cellAt (lget (blAt j7.st.bl 0).xs 0) 8))))]]⟩, ⟨1, 43, 9, true, [[(.v (.int .i64 (avInt (cellAt (lget (blAt j7.st.bl 1).xs 0) 0)))), (.v (.int .u64 (avInt (cellAt (lget (blAt j7.st.bl 1).xs 0) 1)))), (.v (.int .u64 (avInt (cellAt (lget (blAt j7.st.bl 1).xs 0) 2)))), (.v (.int .u64 (avInt (cellAt (lget (blAt j7.st.bl 1).xs 0) 3)))), (.v (.int .u64 (avInt (cellAt (lget (blAt j7.st.bl 1).xs 0) 4)))), (.v (.int .u64 (avInt (cellAt (lget (blAt j7.st.bl 1).xs 0) 5)))), (.v (.int .u64 (avInt (cellAt (lget (blAt j7.st.bl 1).xs 0) 6)))), (.v (.int .u64 (avInt (cellAt (lget (blAt j7.st.bl 1).xs 0) 7)))), (.v (.int .u64 (avInt (cellAt (lget (blAt j7.st.bl 1).xs 0) 8))))]]⟩]⟩, []⟩))
                     (none))
                   (cond (isRt j7)
                     (some ⟨none, ⟨[], []⟩, j7.outs⟩)
                     (none))).bind fun j8 =>
                cond (isEx 1000001 j8)
                 (cond (likeStG ⟨[(2, (.v (.int .i64 (avInt (frAt j4.st.fr 0).2)))), (8, (.ptr 0 0 0)), (11, (.ptr 1 0 0))], [⟨1, 43, 9, true, [[(.v (.int .i64 (avInt (cellAt (lget (blAt j4.st.bl 1).xs 0) 0)))), (.v (.int .u64 (avInt (cellAt (lget (blAt j4.st.bl 1).xs 0) 1)))), (.v (.int .u64 (avInt (cellAt (lget (blAt j4.st.bl 1).xs 0) 2)))), (.v (.int .u64 (avInt (cellAt (lget (blAt j4.st.bl 1).xs 0) 3)))), (.v (.int .u64 (avInt (cellAt (lget (blAt j4.st.bl 1).xs 0) 4)))), (.v (.int .u64 (avInt (cellAt (lget (blAt j4.st.bl 1).xs 0) 5)))), (.v (.int .u64 (avInt (cellAt (lget (blAt j4.st.bl 1).xs 0) 6)))), (.v (.int .u64 (avInt (cellAt (lget (blAt j4.st.bl 1).xs 0) 7)))), (.v (.int .u64 (avInt (cellAt (lget (blAt j4.st.bl 1).xs 0) 8))))]]⟩, ⟨1, 43, 9, true, [[(.v (.int .i64 (avInt (cellAt (lget (blAt j4.st.bl 2).xs 0) 0)))), (.v (.int .u64 (avInt (cellAt (lget (blAt j4.st.bl 2).xs 0) 1)))), (.v (.int .u64 (avInt (cellAt (lget (blAt j4.st.bl 2).xs 0) 2)))), (.v (.int .u64 (avInt (cellAt (lget (blAt j4.st.bl 2).xs 0) 3)))), (.v (.int .u64 (avInt (cellAt (lget (blAt j4.st.bl 2).xs 0) 4)))), (.v (.int .u64 (avInt (cellAt (lget (blAt j4.st.bl 2).xs 0) 5)))), (.v (.int .u64 (avInt (cellAt (lget (blAt j4.st.bl 2).xs 0) 6)))), (.v (.int .u64 (avInt (cellAt (lget (blAt j4.st.bl 2).xs 0) 7)))), (.v (.int .u64 (avInt (cellAt (lget (blAt j4.st.bl 2).xs 0) 8))))]]⟩]⟩ j8.st)
                   ((ev n 44 [(.agg [(.v (.int .i64 (avInt (cellAt (lget (blAt j8.st.bl 1).xs 0) 0)))), (.v (.int .u64 (avInt (cellAt (lget (blAt j8.st.bl 1).xs 0) 1)))), (.v (.int .u64 (avInt (cellAt (lget (blAt j8.st.bl 1).xs 0) 2)))), (.v (.int .u64 (avInt (cellAt (lget (blAt j8.st.bl 1).xs 0) 3)))), (.v (.int .u64 (avInt (cellAt (lget (blAt j8.st.bl 1).xs 0) 4)))), (.v (.int .u64 (avInt (cellAt (lget (blAt j8.st.bl 1).xs 0) 5)))), (.v (.int .u64 (avInt (cellAt (lget (blAt j8.st.bl 1).xs 0) 6)))), (.v (.int .u64 (avInt (cellAt (lget (blAt j8.st.bl 1).xs 0) 7)))), (.v (.int .u64 (avInt (cellAt (lget (blAt j8.st.bl 1).xs 0) 8))))])]).bind fun r9 =>
                    cond (isI .i64 (cellAt r9 0))
                     (cond (!((avInt (cellAt r9 0)) == (avInt (frAt j8.st.fr 0).2)))
                       (some [(.agg [(.v (.int .i64 0)), (.v (.int .u64 0)), (.v (.int .u64 0)), (.v (.int .u64 0)), (.v (.int .u64 0)), (.v (.int .u64 0)), (.v (.int .u64 0)), (.v (.int .u64 0)), (.v (.int .u64 0))]), (.v (.bool false)), (.v (.int .i64 14))])
                       (some [(.agg [(.v (.int .i64 (avInt (cellAt (lget (blAt j8.st.bl 1).xs 0) 0)))), (.v (.int .u64 (avInt (cellAt (lget (blAt j8.st.bl 1).xs 0) 1)))), (.v (.int .u64 (avInt (cellAt (lget (blAt j8.st.bl 1).xs 0) 2)))), (.v (.int .u64 (avInt (cellAt (lget (blAt j8.st.bl 1).xs 0) 3)))), (.v (.int .u64 (avInt (cellAt (lget (blAt j8.st.bl 1).xs 0) 4)))), (.v (.int .u64 (avInt (cellAt (lget (blAt j8.st.bl 1).xs 0) 5)))), (.v (.int .u64 (avInt (cellAt (lget (blAt j8.st.bl 1).xs 0) 6)))), (.v (.int .u64 (avInt (cellAt (lget (blAt j8.st.bl 1).xs 0) 7)))), (.v (.int .u64 (avInt (cellAt (lget (blAt j8.st.bl 1).xs 0) 8))))]), (.v (.bool true)), (.v (.int .i64 0))]))
                     (none))
                   (none))
                 (cond (isRt j8)
                   (some j8.outs)
                   (none)))
               (none))
             (cond (isRt j4)
               (some j4.outs)
               (none))))
         (none))
       (none)))
   (none) := by kernel_rfl
-- "bodega/pointer.Open"
theorem ev39 (n : Nat) (a0_0n : Bool) (a0_0 : List (List AV)) (a1_0 : Int) (a1_1 : Int) (a2_0 : Int) : ev (n + 1) 39 [(.lst a0_0n 9 a0_0), (.agg [(.v (.int .i64 a1_0)), (.v (.int .i64 a1_1))]), (.v (.int .i64 a2_0))] =
  (ev n 45 [(.lst a0_0n 9 a0_0), (.agg [(.v (.int .i64 a1_0)), (.v (.int .i64 a1_1))]), (.v (.int .i64 a2_0)), (.v (.bool true))]).bind fun r0 =>
  cond ((Ev.isAgg 9 (cellAt r0 0)) && ((isI .i64 (cellAt (obCells (cellAt r0 0)) 0)) && ((isI .u64 (cellAt (obCells (cellAt r0 0)) 1)) && ((isI .u64 (cellAt (obCells (cellAt r0 0)) 2)) && ((isI .u64 (cellAt (obCells (cellAt r0 0)) 3)) && ((isI .u64 (cellAt (obCells (cellAt r0 0)) 4)) && ((isI .u64 (cellAt (obCells (cellAt r0 0)) 5)) && ((isI .u64 (cellAt (obCells (cellAt r0 0)) 6)) && ((isI .u64 (cellAt (obCells (cellAt r0 0)) 7)) && (isI .u64 (cellAt (obCells (cellAt r0 0)) 8)))))))))))
   (cond (isB (cellAt r0 1))
     (cond (isI .i64 (cellAt r0 2))
       (some [(.agg [(.v (.int .i64 (avInt (cellAt (obCells (cellAt r0 0)) 0)))), (.v (.int .u64 (avInt (cellAt (obCells (cellAt r0 0)) 1)))), (.v (.int .u64 (avInt (cellAt (obCells (cellAt r0 0)) 2)))), (.v (.int .u64 (avInt (cellAt (obCells (cellAt r0 0)) 3)))), (.v (.int .u64 (avInt (cellAt (obCells (cellAt r0 0)) 4)))), (.v (.int .u64 (avInt (cellAt (obCells (cellAt r0 0)) 5)))), (.v (.int .u64 (avInt (cellAt (obCells (cellAt r0 0)) 6)))), (.v (.int .u64 (avInt (cellAt (obCells (cellAt r0 0)) 7)))), (.v (.int .u64 (avInt (cellAt (obCells (cellAt r0 0)) 8))))]), (.v (.bool (avBool (cellAt r0 1)))), (.v (.int .i64 (avInt (cellAt r0 2))))])
       (none))
     (none))
   (none) := by kernel_rfl
-- "bodega/pointer.inHeap"
theorem ev40 (n : Nat) (a0_0 : Int) : ev (n + 1) 40 [(.v (.int .i64 a0_0))] =
  cond (leI 104 a0_0)
   (some [(.v (.bool (ltI a0_0 256)))])
   (some [(.v (.bool false))]) := by kernel_rfl
-- "bodega/bodegaref19.heapLine"
theorem ev41 (n : Nat) (a0_0 : Int) : ev (n + 1) 41 [(.v (.int .i64 a0_0))] =
  cond (leI 104 a0_0)
   (some [(.v (.bool (ltI a0_0 256)))])
   (some [(.v (.bool false))]) := by kernel_rfl
-- "bodega/pointer.tagOf"
theorem ev42 (n : Nat) (a0_0 : Int) (a0_1 : Int) (a0_2 : Int) (a0_3 : Int) (a0_4 : Int) (a0_5 : Int) (a0_6 : Int) (a0_7 : Int) (a0_8 : Int) : ev (n + 1) 42 [(.agg [(.v (.int .i64 a0_0)), (.v (.int .u64 a0_1)), (.v (.int .u64 a0_2)), (.v (.int .u64 a0_3)), (.v (.int .u64 a0_4)), (.v (.int .u64 a0_5)), (.v (.int .u64 a0_6)), (.v (.int .u64 a0_7)), (.v (.int .u64 a0_8))])] =
  (ev n 13 [(.v (.int .u64 a0_2))]).bind fun r0 =>
  cond ((Ev.isAgg 3 (cellAt r0 0)) && ((isI .i64 (cellAt (obCells (cellAt r0 0)) 0)) && ((isI .i64 (cellAt (obCells (cellAt r0 0)) 1)) && (isI .u32 (cellAt (obCells (cellAt r0 0)) 2)))))
   (some [(.agg [(.v (.int .i64 (avInt (cellAt (obCells (cellAt r0 0)) 0)))), (.v (.int .i64 (avInt (cellAt (obCells (cellAt r0 0)) 1)))), (.v (.int .u32 (avInt (cellAt (obCells (cellAt r0 0)) 2))))])])
   (none) := by kernel_rfl
-- "bodega/pointer.tagged"
theorem ev43 (n : Nat) (a0_0 : Int) (a0_1 : Int) (a0_2 : Int) (a0_3 : Int) (a0_4 : Int) (a0_5 : Int) (a0_6 : Int) (a0_7 : Int) (a0_8 : Int) (a1_0 : Int) (a1_1 : Int) (a1_2 : Int) : ev (n + 1) 43 [(.agg [(.v (.int .i64 a0_0)), (.v (.int .u64 a0_1)), (.v (.int .u64 a0_2)), (.v (.int .u64 a0_3)), (.v (.int .u64 a0_4)), (.v (.int .u64 a0_5)), (.v (.int .u64 a0_6)), (.v (.int .u64 a0_7)), (.v (.int .u64 a0_8))]), (.agg [(.v (.int .i64 a1_0)), (.v (.int .i64 a1_1)), (.v (.int .u32 a1_2))])] =
  (ev n 14 [(.agg [(.v (.int .i64 a1_0)), (.v (.int .i64 a1_1)), (.v (.int .u32 a1_2))])]).bind fun r0 =>
  cond (isI .u64 (cellAt r0 0))
   (some [(.agg [(.v (.int .i64 a0_0)), (.v (.int .u64 a0_1)), (.v (.int .u64 (avInt (cellAt r0 0)))), (.v (.int .u64 0)), (.v (.int .u64 0)), (.v (.int .u64 0)), (.v (.int .u64 0)), (.v (.int .u64 0)), (.v (.int .u64 0))])])
   (none) := by kernel_rfl
-- "bodega/bodegaref19.Kind"
theorem ev44 (n : Nat) (a0_0 : Int) (a0_1 : Int) (a0_2 : Int) (a0_3 : Int) (a0_4 : Int) (a0_5 : Int) (a0_6 : Int) (a0_7 : Int) (a0_8 : Int) : ev (n + 1) 44 [(.agg [(.v (.int .i64 a0_0)), (.v (.int .u64 a0_1)), (.v (.int .u64 a0_2)), (.v (.int .u64 a0_3)), (.v (.int .u64 a0_4)), (.v (.int .u64 a0_5)), (.v (.int .u64 a0_6)), (.v (.int .u64 a0_7)), (.v (.int .u64 a0_8))])] =
  some [(.v (.int .i64 (IntKind.wrap .i64 (Int.tmod a0_2 256))))] := by kernel_rfl
-- "bodega/pointer.lookup"
theorem ev45 (n : Nat) (a0_0n : Bool) (a0_0 : List (List AV)) (a1_0 : Int) (a1_1 : Int) (a2_0 : Int) (a3_0 : Bool) : ev (n + 1) 45 [(.lst a0_0n 9 a0_0), (.agg [(.v (.int .i64 a1_0)), (.v (.int .i64 a1_1))]), (.v (.int .i64 a2_0)), (.v (.bool a3_0))] =
  (ev n 16 [(.agg [(.v (.int .i64 a1_0)), (.v (.int .i64 a1_1))])]).bind fun r0 =>
  cond (isB (cellAt r0 0))
   (cond (!(avBool (cellAt r0 0)))
     (some [(.agg [(.v (.int .i64 0)), (.v (.int .u64 0)), (.v (.int .u64 0)), (.v (.int .u64 0)), (.v (.int .u64 0)), (.v (.int .u64 0)), (.v (.int .u64 0)), (.v (.int .u64 0)), (.v (.int .u64 0))]), (.v (.bool false)), (.v (.int .i64 1))])
     ((ev n 28 [(.lst a0_0n 9 a0_0), (.v (.int .i64 a1_0))]).bind fun r1 =>
      cond ((Ev.isAgg 9 (cellAt r1 0)) && ((isI .i64 (cellAt (obCells (cellAt r1 0)) 0)) && ((isI .u64 (cellAt (obCells (cellAt r1 0)) 1)) && ((isI .u64 (cellAt (obCells (cellAt r1 0)) 2)) && ((isI .u64 (cellAt (obCells (cellAt r1 0)) 3)) && ((isI .u64 (cellAt (obCells (cellAt r1 0)) 4)) && ((isI .u64 (cellAt (obCells (cellAt r1 0)) 5)) && ((isI .u64 (cellAt (obCells (cellAt r1 0)) 6)) && ((isI .u64 (cellAt (obCells (cellAt r1 0)) 7)) && (isI .u64 (cellAt (obCells (cellAt r1 0)) 8)))))))))))
       (cond (isB (cellAt r1 1))
         (cond (!(avBool (cellAt r1 1)))
           (some [(.agg [(.v (.int .i64 0)), (.v (.int .u64 0)), (.v (.int .u64 0)), (.v (.int .u64 0)), (.v (.int .u64 0)), (.v (.int .u64 0)), (.v (.int .u64 0)), (.v (.int .u64 0)), (.v (.int .u64 0))]), (.v (.bool false)), (.v (.int .i64 0))])
           ((ev n 42 [(.agg [(.v (.int .i64 (avInt (cellAt (obCells (cellAt r1 0)) 0)))), (.v (.int .u64 (avInt (cellAt (obCells (cellAt r1 0)) 1)))), (.v (.int .u64 (avInt (cellAt (obCells (cellAt r1 0)) 2)))), (.v (.int .u64 (avInt (cellAt (obCells (cellAt r1 0)) 3)))), (.v (.int .u64 (avInt (cellAt (obCells (cellAt r1 0)) 4)))), (.v (.int .u64 (avInt (cellAt (obCells (cellAt r1 0)) 5)))), (.v (.int .u64 (avInt (cellAt (obCells (cellAt r1 0)) 6)))), (.v (.int .u64 (avInt (cellAt (obCells (cellAt r1 0)) 7)))), (.v (.int .u64 (avInt (cellAt (obCells (cellAt r1 0)) 8))))])]).bind fun r2 =>
            cond ((Ev.isAgg 3 (cellAt r2 0)) && ((isI .i64 (cellAt (obCells (cellAt r2 0)) 0)) && ((isI .i64 (cellAt (obCells (cellAt r2 0)) 1)) && (isI .u32 (cellAt (obCells (cellAt r2 0)) 2)))))
             ((cond a3_0
                 ((ev n 23 [(.agg [(.v (.int .i64 (avInt (cellAt (obCells (cellAt r1 0)) 0)))), (.v (.int .u64 (avInt (cellAt (obCells (cellAt r1 0)) 1)))), (.v (.int .u64 (avInt (cellAt (obCells (cellAt r1 0)) 2)))), (.v (.int .u64 (avInt (cellAt (obCells (cellAt r1 0)) 3)))), (.v (.int .u64 (avInt (cellAt (obCells (cellAt r1 0)) 4)))), (.v (.int .u64 (avInt (cellAt (obCells (cellAt r1 0)) 5)))), (.v (.int .u64 (avInt (cellAt (obCells (cellAt r1 0)) 6)))), (.v (.int .u64 (avInt (cellAt (obCells (cellAt r1 0)) 7)))), (.v (.int .u64 (avInt (cellAt (obCells (cellAt r1 0)) 8))))])]).bind fun r3 =>
                  cond (isB (cellAt r3 0))
                   (some ⟨(some 1000001), ⟨[(2, (.v (.int .i64 a2_0))), (5, (.ptr 0 0 0)), (8, (.ptr 1 0 0)), (11, (.ptr 2 0 0)), (13, (.ptr 3 0 0)), (30, (.v (.bool (avBool (cellAt r3 0)))))], [⟨1, 28, 2, true, [[(.v (.int .i64 a1_0)), (.v (.int .i64 a1_1))]]⟩, ⟨1, 43, 9, true, [[(.v (.int .i64 0)), (.v (.int .u64 0)), (.v (.int .u64 0)), (.v (.int .u64 0)), (.v (.int .u64 0)), (.v (.int .u64 0)), (.v (.int .u64 0)), (.v (.int .u64 0)), (.v (.int .u64 0))]]⟩, ⟨1, 43, 9, true, [[(.v (.int .i64 (avInt (cellAt (obCells (cellAt r1 0)) 0)))), (.v (.int .u64 (avInt (cellAt (obCells (cellAt r1 0)) 1)))), (.v (.int .u64 (avInt (cellAt (obCells (cellAt r1 0)) 2)))), (.v (.int .u64 (avInt (cellAt (obCells (cellAt r1 0)) 3)))), (.v (.int .u64 (avInt (cellAt (obCells (cellAt r1 0)) 4)))), (.v (.int .u64 (avInt (cellAt (obCells (cellAt r1 0)) 5)))), (.v (.int .u64 (avInt (cellAt (obCells (cellAt r1 0)) 6)))), (.v (.int .u64 (avInt (cellAt (obCells (cellAt r1 0)) 7)))), (.v (.int .u64 (avInt (cellAt (obCells (cellAt r1 0)) 8))))]]⟩, ⟨1, 31, 3, true, [[(.v (.int .i64 (avInt (cellAt (obCells (cellAt r2 0)) 0)))), (.v (.int .i64 (avInt (cellAt (obCells (cellAt r2 0)) 1)))), (.v (.int .u32 (avInt (cellAt (obCells (cellAt r2 0)) 2))))]]⟩]⟩, []⟩)
                   (none))
                 (some ⟨(some 1000001), ⟨[(2, (.v (.int .i64 a2_0))), (5, (.ptr 0 0 0)), (8, (.ptr 1 0 0)), (11, (.ptr 2 0 0)), (13, (.ptr 3 0 0)), (30, (.v (.bool false)))], [⟨1, 28, 2, true, [[(.v (.int .i64 a1_0)), (.v (.int .i64 a1_1))]]⟩, ⟨1, 43, 9, true, [[(.v (.int .i64 0)), (.v (.int .u64 0)), (.v (.int .u64 0)), (.v (.int .u64 0)), (.v (.int .u64 0)), (.v (.int .u64 0)), (.v (.int .u64 0)), (.v (.int .u64 0)), (.v (.int .u64 0))]]⟩, ⟨1, 43, 9, true, [[(.v (.int .i64 (avInt (cellAt (obCells (cellAt r1 0)) 0)))), (.v (.int .u64 (avInt (cellAt (obCells (cellAt r1 0)) 1)))), (.v (.int .u64 (avInt (cellAt (obCells (cellAt r1 0)) 2)))), (.v (.int .u64 (avInt (cellAt (obCells (cellAt r1 0)) 3)))), (.v (.int .u64 (avInt (cellAt (obCells (cellAt r1 0)) 4)))), (.v (.int .u64 (avInt (cellAt (obCells (cellAt r1 0)) 5)))), (.v (.int .u64 (avInt (cellAt (obCells (cellAt r1 0)) 6)))), (.v (.int .u64 (avInt (cellAt (obCells (cellAt r1 0)) 7)))), (.v (.int .u64 (avInt (cellAt (obCells (cellAt r1 0)) 8))))]]⟩, ⟨1, 31, 3, true, [[(.v (.int .i64 (avInt (cellAt (obCells (cellAt r2 0)) 0)))), (.v (.int .i64 (avInt (cellAt (obCells (cellAt r2 0)) 1)))), (.v (.int .u32 (avInt (cellAt (obCells (cellAt r2 0)) 2))))]]⟩]⟩, []⟩)).bind fun j4 =>
              cond (isEx 1000001 j4)
               (cond (likeStG ⟨[(2, (.v (.int .i64 a2_0))), (5, (.ptr 0 0 0)), (8, (.ptr 1 0 0)), (11, (.ptr 2 0 0)), (13, (.ptr 3 0 0)), (30, (.v (.bool false)))], [⟨1, 28, 2, true, [[(.v (.int .i64 a1_0)), (.v (.int .i64 a1_1))]]⟩, ⟨1, 43, 9, true, [[(.v (.int .i64 0)), (.v (.int .u64 0)), (.v (.int .u64 0)), (.v (.int .u64 0)), (.v (.int .u64 0)), (.v (.int .u64 0)), (.v (.int .u64 0)), (.v (.int .u64 0)), (.v (.int .u64 0))]]⟩, ⟨1, 43, 9, true, [[(.v (.int .i64 (avInt (cellAt (obCells (cellAt r1 0)) 0)))), (.v (.int .u64 (avInt (cellAt (obCells (cellAt r1 0)) 1)))), (.v (.int .u64 (avInt (cellAt (obCells (cellAt r1 0)) 2)))), (.v (.int .u64 (avInt (cellAt (obCells (cellAt r1 0)) 3)))), (.v (.int .u64 (avInt (cellAt (obCells (cellAt r1 0)) 4)))), (.v (.int .u64 (avInt (cellAt (obCells (cellAt r1 0)) 5)))), (.v (.int .u64 (avInt (cellAt (obCells (cellAt r1 0)) 6)))), (.v (.int .u64 (avInt (cellAt (obCells (cellAt r1 0)) 7)))), (.v (.int .u64 (avInt (cellAt (obCells (cellAt r1 0)) 8))))]]⟩, ⟨1, 31, 3, true, [[(.v (.int .i64 (avInt (cellAt (obCells (cellAt r2 0)) 0)))), (.v (.int .i64 (avInt (cellAt (obCells (cellAt r2 0)) 1)))), (.v (.int .u32 (avInt (cellAt (obCells (cellAt r2 0)) 2))))]]⟩]⟩ j4.st)
                 (cond (avBool (frAt j4.st.fr 5).2)
                   (some [(.agg [(.v (.int .i64 0)), (.v (.int .u64 0)), (.v (.int .u64 0)), (.v (.int .u64 0)), (.v (.int .u64 0)), (.v (.int .u64 0)), (.v (.int .u64 0)), (.v (.int .u64 0)), (.v (.int .u64 0))]), (.v (.bool false)), (.v (.int .i64 3))])
                   ((cond ((avInt (cellAt (lget (blAt j4.st.bl 3).xs 0) 0)) == 0)
                       (some ⟨(some 1000001), ⟨[(2, (.v (.int .i64 (avInt (frAt j4.st.fr 0).2)))), (8, (.ptr 0 0 0)), (11, (.ptr 1 0 0)), (13, (.ptr 2 0 0)), (37, (.v (.bool true)))], [⟨1, 43, 9, true, [[(.v (.int .i64 (avInt (cellAt (lget (blAt j4.st.bl 1).xs 0) 0)))), (.v (.int .u64 (avInt (cellAt (lget (blAt j4.st.bl 1).xs 0) 1)))), (.v (.int .u64 (avInt (cellAt (lget (blAt j4.st.bl 1).xs 0) 2)))), (.v (.int .u64 (avInt (cellAt (lget (blAt j4.st.bl 1).xs 0) 3)))), (.v (.int .u64 (avInt (cellAt (lget (blAt j4.st.bl 1).xs 0) 4)))), (.v (.int .u64 (avInt (cellAt (lget (blAt j4.st.bl 1).xs 0) 5)))), (.v (.int .u64 (avInt (cellAt (lget (blAt j4.st.bl 1).xs 0) 6)))), (.v (.int .u64 (avInt (cellAt (lget (blAt j4.st.bl 1).xs 0) 7)))), (.v (.int .u64 (avInt (cellAt (lget (blAt j4.st.bl 1).xs 0) 8))))]]⟩, ⟨1, 43, 9, true, [[(.v (.int .i64 (avInt (cellAt (lget (blAt j4.st.bl 2).xs 0) 0)))), (.v (.int .u64 (avInt (cellAt (lget (blAt j4.st.bl 2).xs 0) 1)))), (.v (.int .u64 (avInt (cellAt (lget (blAt j4.st.bl 2).xs 0) 2)))), (.v (.int .u64 (avInt (cellAt (lget (blAt j4.st.bl 2).xs 0) 3)))), (.v (.int .u64 (avInt (cellAt (lget (blAt j4.st.bl 2).xs 0) 4)))), (.v (.int .u64 (avInt (cellAt (lget (blAt j4.st.bl 2).xs 0) 5)))), (.v (.int .u64 (avInt (cellAt (lget (blAt j4.st.bl 2).xs 0) 6)))), (.v (.int .u64 (avInt (cellAt (lget (blAt j4.st.bl 2).xs 0) 7)))), (.v (.int .u64 (avInt (cellAt (lget (blAt j4.st.bl 2).xs 0) 8))))]]⟩, ⟨1, 31, 3, true, [[(.v (.int .i64 (avInt (cellAt (lget (blAt j4.st.bl 3).xs 0) 0)))), (.v (.int .i64 (avInt (cellAt (lget (blAt j4.st.bl 3).xs 0) 1)))), (.v (.int .u32 (avInt (cellAt (lget (blAt j4.st.bl 3).xs 0) 2))))]]⟩]⟩, []⟩)
                       (some ⟨(some 1000001), ⟨[(2, (.v (.int .i64 (avInt (frAt j4.st.fr 0).2)))), (8, (.ptr 0 0 0)), (11, (.ptr 1 0 0)), (13, (.ptr 2 0 0)), (37, (.v (.bool (!((avInt (cellAt (lget (blAt j4.st.bl 3).xs 0) 1)) == (avInt (cellAt (lget (blAt j4.st.bl 0).xs 0) 1)))))))], [⟨1, 43, 9, true, [[(.v (.int .i64 (avInt (cellAt (lget (blAt j4.st.bl 1).xs 0) 0)))), (.v (.int .u64 (avInt (cellAt (lget (blAt j4.st.bl 1).xs 0) 1)))), (.v (.int .u64 (avInt (cellAt (lget (blAt j4.st.bl 1).xs 0) 2)))), (.v (.int .u64 (avInt (cellAt (lget (blAt j4.st.bl 1).xs 0) 3)))), (.v (.int .u64 (avInt (cellAt (lget (blAt j4.st.bl 1).xs 0) 4)))), (.v (.int .u64 (avInt (cellAt (lget (blAt j4.st.bl 1).xs 0) 5)))), (.v (.int .u64 (avInt (cellAt (lget (blAt j4.st.bl 1).xs 0) 6)))), (.v (.int .u64 (avInt (cellAt (lget (blAt j4.st.bl 1).xs 0) 7)))), (.v (.int .u64 (avInt (cellAt (lget (blAt j4.st.bl 1).xs 0) 8))))]]⟩, ⟨1, 43, 9, true, [[(.v (.int .i64 (avInt (cellAt (lget (blAt j4.st.bl 2).xs 0) 0)))), (.v (.int .u64 (avInt (cellAt (lget (blAt j4.st.bl 2).xs 0) 1)))), (.v (.int .u64 (avInt (cellAt (lget (blAt j4.st.bl 2).xs 0) 2)))), (.v (.int .u64 (avInt (cellAt (lget (blAt j4.st.bl 2).xs 0) 3)))), (.v (.int .u64 (avInt (cellAt (lget (blAt j4.st.bl 2).xs 0) 4)))), (.v (.int .u64 (avInt (cellAt (lget (blAt j4.st.bl 2).xs 0) 5)))), (.v (.int .u64 (avInt (cellAt (lget (blAt j4.st.bl 2).xs 0) 6)))), (.v (.int .u64 (avInt (cellAt (lget (blAt j4.st.bl 2).xs 0) 7)))), (.v (.int .u64 (avInt (cellAt (lget (blAt j4.st.bl 2).xs 0) 8))))]]⟩, ⟨1, 31, 3, true, [[(.v (.int .i64 (avInt (cellAt (lget (blAt j4.st.bl 3).xs 0) 0)))), (.v (.int .i64 (avInt (cellAt (lget (blAt j4.st.bl 3).xs 0) 1)))), (.v (.int .u32 (avInt (cellAt (lget (blAt j4.st.bl 3).xs 0) 2))))]]⟩]⟩, []⟩)).bind fun j5 =>
                    cond (isEx 1000001 j5)
                     (cond (likeStG ⟨[(2, (.v (.int .i64 (avInt (frAt j4.st.fr 0).2)))), (8, (.ptr 0 0 0)), (11, (.ptr 1 0 0)), (13, (.ptr 2 0 0)), (37, (.v (.bool false)))], [⟨1, 43, 9, true, [[(.v (.int .i64 (avInt (cellAt (lget (blAt j4.st.bl 1).xs 0) 0)))), (.v (.int .u64 (avInt (cellAt (lget (blAt j4.st.bl 1).xs 0) 1)))), (.v (.int .u64 (avInt (cellAt (lget (blAt j4.st.bl 1).xs 0) 2)))), (.v (.int .u64 (avInt (cellAt (lget (blAt j4.st.bl 1).xs 0) 3)))), (.v (.int .u64 (avInt (cellAt (lget (blAt j4.st.bl 1).xs 0) 4)))), (.v (.int .u64 (avInt (cellAt (lget (blAt j4.st.bl 1).xs 0) 5)))), (.v (.int .u64 (avInt (cellAt (lget (blAt j4.st.bl 1).xs 0) 6)))), (.v (.int .u64 (avInt (cellAt (lget (blAt j4.st.bl 1).xs 0) 7)))), (.v (.int .u64 (avInt (cellAt (lget (blAt j4.st.bl 1).xs 0) 8))))]]⟩, ⟨1, 43, 9, true, [[(.v (.int .i64 (avInt (cellAt (lget (blAt j4.st.bl 2).xs 0) 0)))), (.v (.int .u64 (avInt (cellAt (lget (blAt j4.st.bl 2).xs 0) 1)))), (.v (.int .u64 (avInt (cellAt (lget (blAt j4.st.bl 2).xs 0) 2)))), (.v (.int .u64 (avInt (cellAt (lget (blAt j4.st.bl 2).xs 0) 3)))), (.v (.int .u64 (avInt (cellAt (lget (blAt j4.st.bl 2).xs 0) 4)))), (.v (.int .u64 (avInt (cellAt (lget (blAt j4.st.bl 2).xs 0) 5)))), (.v (.int .u64 (avInt (cellAt (lget (blAt j4.st.bl 2).xs 0) 6)))), (.v (.int .u64 (avInt (cellAt (lget (blAt j4.st.bl 2).xs 0) 7)))), (.v (.int .u64 (avInt (cellAt (lget (blAt j4.st.bl 2).xs 0) 8))))]]⟩, ⟨1, 31, 3, true, [[(.v (.int .i64 (avInt (cellAt (lget (blAt j4.st.bl 3).xs 0) 0)))), (.v (.int .i64 (avInt (cellAt (lget (blAt j4.st.bl 3).xs 0) 1)))), (.v (.int .u32 (avInt (cellAt (lget (blAt j4.st.bl 3).xs 0) 2))))]]⟩]⟩ j5.st)
                       (cond (avBool (frAt j5.st.fr 4).2)
                         (some [(.agg [(.v (.int .i64 0)), (.v (.int .u64 0)), (.v (.int .u64 0)), (.v (.int .u64 0)), (.v (.int .u64 0)), (.v (.int .u64 0)), (.v (.int .u64 0)), (.v (.int .u64 0)), (.v (.int .u64 0))]), (.v (.bool false)), (.v (.int .i64 11))])
                         (cond (!((avInt (cellAt (lget (blAt j5.st.bl 2).xs 0) 0)) == (avInt (frAt j5.st.fr 0).2)))
                           (some [(.agg [(.v (.int .i64 0)), (.v (.int .u64 0)), (.v (.int .u64 0)), (.v (.int .u64 0)), (.v (.int .u64 0)), (.v (.int .u64 0)), (.v (.int .u64 0)), (.v (.int .u64 0)), (.v (.int .u64 0))]), (.v (.bool false)), (.v (.int .i64 14))])
                           (some [(.agg [(.v (.int .i64 (avInt (cellAt (lget (blAt j5.st.bl 1).xs 0) 0)))), (.v (.int .u64 (avInt (cellAt (lget (blAt j5.st.bl 1).xs 0) 1)))), (.v (.int .u64 (avInt (cellAt (lget (blAt j5.st.bl 1).xs 0) 2)))), (.v (.int .u64 (avInt (cellAt (lget (blAt j5.st.bl 1).xs 0) 3)))), (.v (.int .u64 (avInt (cellAt (lget (blAt j5.st.bl 1).xs 0) 4)))), (.v (.int .u64 (avInt (cellAt (lget (blAt j5.st.bl 1).xs 0) 5)))), (.v (.int .u64 (avInt (cellAt (lget (blAt j5.st.bl 1).xs 0) 6)))), (.v (.int .u64 (avInt (cellAt (lget (blAt j5.st.bl 1).xs 0) 7)))), (.v (.int .u64 (avInt (cellAt (lget (blAt j5.st.bl 1).xs 0) 8))))]), (.v (.bool true)), (.v (.int .i64 0))])))
                       (none))
                     (cond (isRt j5)
                       (some j5.outs)
                       (none))))
                 (none))
               (cond (isRt j4)
                 (some j4.outs)
                 (none)))
             (none)))
         (none))
       (none)))
   (none) := by kernel_rfl
end Go.Proofs.Ytcalaooabgklbaa
