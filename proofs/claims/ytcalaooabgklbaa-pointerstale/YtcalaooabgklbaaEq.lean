/- The functions of the chapter, as the evaluator has them. -/
import Derived.Test.YtcalaooabgklbaaRows
import Derived.Test.YtcalaooabgklbaaEv43
set_option linter.all false
namespace Go.Proofs.Ytcalaooabgklbaa
open Go.Ev

def cfg : Cfg := { rw := fun _ => [], dat := fun _ => true, inl := fun _ => false, roll := fun _ => 0, join := fun _ => false }
noncomputable def ev (f : FuncId) (args : List AV) : Option (List AV) := evL Try.prog cfg f args
noncomputable def lp (f k nr : Nat) (s : St) : Option LR := lpL Try.prog cfg f k nr s
theorem ev_eq (f : FuncId) (args : List AV) : ev f args = evBodyG Try.prog cfg (evL Try.prog cfg) (inlD Try.prog cfg (evL Try.prog cfg) 5) (loopL Try.prog cfg f) f args := evL_eq f args
theorem lp_eq (f k nr : Nat) (s : St) : lp f k nr s = evRound Try.prog cfg (evL Try.prog cfg) (inlD Try.prog cfg (evL Try.prog cfg) 5) (loopL Try.prog cfg f) (cfg.roll f) (cfg.join f) (loopAt Try.prog f k).1 (loopAt Try.prog f k).2 (retAt Try.prog cfg f nr) s := loopL_eq f _ _ _ s

-- "bodega/bodegalaw19.PointerLatest"
theorem ev5 (a0_0n : Bool) (a0_0 : List (List AV)) (a1_0 : Int) (a1_1 : Int) (a1_2 : Int) (a1_3 : Int) (a1_4 : Int) (a1_5 : Int) (a1_6 : Int) (a1_7 : Int) (a1_8 : Int) (a2_0n : Bool) (a2_0 : List (List AV)) : ev 5 [(.lst a0_0n 9 a0_0), (.agg [(.v (.int .i64 a1_0)), (.v (.int .u64 a1_1)), (.v (.int .u64 a1_2)), (.v (.int .u64 a1_3)), (.v (.int .u64 a1_4)), (.v (.int .u64 a1_5)), (.v (.int .u64 a1_6)), (.v (.int .u64 a1_7)), (.v (.int .u64 a1_8))]), (.lst a2_0n 1 a2_0)] =
  cond (ltI 20 (((List.length a0_0) : Nat) : Int))
   (some [(.v (.bool true))])
   (cond (ltI 20 (((List.length a2_0) : Nat) : Int))
     (some [(.v (.bool true))])
     (cond (leN ((0 + (List.length a0_0)) * 72) 140737488355328)
       (cond (leN (((List.length ([] ++ a0_0)) + 1) * 72) 140737488355328)
         ((lp 5 0 0 ⟨[(0, (.lst a0_0n 9 a0_0)), (2, (.lst a2_0n 1 a2_0)), (4, (.ptr 0 0 0)), (7, (.sl false 1 0 none)), (8, (.v (.int .i64 0)))], [⟨1, 43, 9, true, [[(.v (.int .i64 a1_0)), (.v (.int .u64 a1_1)), (.v (.int .u64 a1_2)), (.v (.int .u64 a1_3)), (.v (.int .u64 a1_4)), (.v (.int .u64 a1_5)), (.v (.int .u64 a1_6)), (.v (.int .u64 a1_7)), (.v (.int .u64 a1_8))]]⟩, ⟨1, 43, 9, false, (([] ++ a0_0) ++ [[(.v (.int .i64 a1_0)), (.v (.int .u64 a1_1)), (.v (.int .u64 a1_2)), (.v (.int .u64 a1_3)), (.v (.int .u64 a1_4)), (.v (.int .u64 a1_5)), (.v (.int .u64 a1_6)), (.v (.int .u64 a1_7)), (.v (.int .u64 a1_8))]])⟩]⟩).bind fun r8 =>
          cond (isEx 0 r8)
           (cond (likeStG ⟨[(0, (.lst a0_0n 9 a0_0)), (4, (.ptr 0 0 0)), (7, (.sl false 1 0 none))], [⟨1, 43, 9, true, [[(.v (.int .i64 a1_0)), (.v (.int .u64 a1_1)), (.v (.int .u64 a1_2)), (.v (.int .u64 a1_3)), (.v (.int .u64 a1_4)), (.v (.int .u64 a1_5)), (.v (.int .u64 a1_6)), (.v (.int .u64 a1_7)), (.v (.int .u64 a1_8))]]⟩, ⟨1, 43, 9, false, (([] ++ a0_0) ++ [[(.v (.int .i64 a1_0)), (.v (.int .u64 a1_1)), (.v (.int .u64 a1_2)), (.v (.int .u64 a1_3)), (.v (.int .u64 a1_4)), (.v (.int .u64 a1_5)), (.v (.int .u64 a1_6)), (.v (.int .u64 a1_7)), (.v (.int .u64 a1_8))]])⟩]⟩ r8.st)
             ((ev 28 [(.lst (avNil (frAt r8.st.fr 2).2) 9 (blAt r8.st.bl 1).xs), (.v (.int .i64 (avInt (cellAt (lget (blAt r8.st.bl 0).xs 0) 0))))]).bind fun r22 =>
              cond ((Ev.isAgg 9 (cellAt r22 0)) && ((isI .i64 (cellAt (obCells (cellAt r22 0)) 0)) && ((isI .u64 (cellAt (obCells (cellAt r22 0)) 1)) && ((isI .u64 (cellAt (obCells (cellAt r22 0)) 2)) && ((isI .u64 (cellAt (obCells (cellAt r22 0)) 3)) && ((isI .u64 (cellAt (obCells (cellAt r22 0)) 4)) && ((isI .u64 (cellAt (obCells (cellAt r22 0)) 5)) && ((isI .u64 (cellAt (obCells (cellAt r22 0)) 6)) && ((isI .u64 (cellAt (obCells (cellAt r22 0)) 7)) && (isI .u64 (cellAt (obCells (cellAt r22 0)) 8)))))))))))
               (cond (isB (cellAt r22 1))
                 ((ev 28 [(.lst (avNil (frAt r8.st.fr 0).2) 9 (avXs (frAt r8.st.fr 0).2)), (.v (.int .i64 (avInt (cellAt (lget (blAt r8.st.bl 0).xs 0) 0))))]).bind fun r33 =>
                  cond ((Ev.isAgg 9 (cellAt r33 0)) && ((isI .i64 (cellAt (obCells (cellAt r33 0)) 0)) && ((isI .u64 (cellAt (obCells (cellAt r33 0)) 1)) && ((isI .u64 (cellAt (obCells (cellAt r33 0)) 2)) && ((isI .u64 (cellAt (obCells (cellAt r33 0)) 3)) && ((isI .u64 (cellAt (obCells (cellAt r33 0)) 4)) && ((isI .u64 (cellAt (obCells (cellAt r33 0)) 5)) && ((isI .u64 (cellAt (obCells (cellAt r33 0)) 6)) && ((isI .u64 (cellAt (obCells (cellAt r33 0)) 7)) && (isI .u64 (cellAt (obCells (cellAt r33 0)) 8)))))))))))
                   (cond (isB (cellAt r33 1))
                     ((lp 5 1 0 ⟨[(0, (.lst (avNil (frAt r8.st.fr 0).2) 9 (avXs (frAt r8.st.fr 0).2))), (4, (.ptr 0 0 0)), (9, (.ptr 1 0 0)), (10, (.v (.bool (avBool (cellAt r22 1))))), (11, (.ptr 2 0 0)), (12, (.v (.bool (avBool (cellAt r33 1))))), (13, (.v (.bool false))), (14, (.v (.int .i64 0)))], [⟨1, 43, 9, true, [[(.v (.int .i64 (avInt (cellAt (lget (blAt r8.st.bl 0).xs 0) 0)))), (.v (.int .u64 (avInt (cellAt (lget (blAt r8.st.bl 0).xs 0) 1)))), (.v (.int .u64 (avInt (cellAt (lget (blAt r8.st.bl 0).xs 0) 2)))), (.v (.int .u64 (avInt (cellAt (lget (blAt r8.st.bl 0).xs 0) 3)))), (.v (.int .u64 (avInt (cellAt (lget (blAt r8.st.bl 0).xs 0) 4)))), (.v (.int .u64 (avInt (cellAt (lget (blAt r8.st.bl 0).xs 0) 5)))), (.v (.int .u64 (avInt (cellAt (lget (blAt r8.st.bl 0).xs 0) 6)))), (.v (.int .u64 (avInt (cellAt (lget (blAt r8.st.bl 0).xs 0) 7)))), (.v (.int .u64 (avInt (cellAt (lget (blAt r8.st.bl 0).xs 0) 8))))]]⟩, ⟨1, 43, 9, true, [[(.v (.int .i64 (avInt (cellAt (obCells (cellAt r22 0)) 0)))), (.v (.int .u64 (avInt (cellAt (obCells (cellAt r22 0)) 1)))), (.v (.int .u64 (avInt (cellAt (obCells (cellAt r22 0)) 2)))), (.v (.int .u64 (avInt (cellAt (obCells (cellAt r22 0)) 3)))), (.v (.int .u64 (avInt (cellAt (obCells (cellAt r22 0)) 4)))), (.v (.int .u64 (avInt (cellAt (obCells (cellAt r22 0)) 5)))), (.v (.int .u64 (avInt (cellAt (obCells (cellAt r22 0)) 6)))), (.v (.int .u64 (avInt (cellAt (obCells (cellAt r22 0)) 7)))), (.v (.int .u64 (avInt (cellAt (obCells (cellAt r22 0)) 8))))]]⟩, ⟨1, 43, 9, true, [[(.v (.int .i64 (avInt (cellAt (obCells (cellAt r33 0)) 0)))), (.v (.int .u64 (avInt (cellAt (obCells (cellAt r33 0)) 1)))), (.v (.int .u64 (avInt (cellAt (obCells (cellAt r33 0)) 2)))), (.v (.int .u64 (avInt (cellAt (obCells (cellAt r33 0)) 3)))), (.v (.int .u64 (avInt (cellAt (obCells (cellAt r33 0)) 4)))), (.v (.int .u64 (avInt (cellAt (obCells (cellAt r33 0)) 5)))), (.v (.int .u64 (avInt (cellAt (obCells (cellAt r33 0)) 6)))), (.v (.int .u64 (avInt (cellAt (obCells (cellAt r33 0)) 7)))), (.v (.int .u64 (avInt (cellAt (obCells (cellAt r33 0)) 8))))]]⟩]⟩).bind fun r44 =>
                      cond (isEx 2 r44)
                       (cond (likeStG ⟨[(4, (.ptr 0 0 0)), (9, (.ptr 1 0 0)), (10, (.v (.bool (avBool (cellAt r22 1))))), (11, (.ptr 2 0 0)), (12, (.v (.bool (avBool (cellAt r33 1))))), (13, (.v (.bool false)))], [⟨1, 43, 9, true, [[(.v (.int .i64 (avInt (cellAt (lget (blAt r8.st.bl 0).xs 0) 0)))), (.v (.int .u64 (avInt (cellAt (lget (blAt r8.st.bl 0).xs 0) 1)))), (.v (.int .u64 (avInt (cellAt (lget (blAt r8.st.bl 0).xs 0) 2)))), (.v (.int .u64 (avInt (cellAt (lget (blAt r8.st.bl 0).xs 0) 3)))), (.v (.int .u64 (avInt (cellAt (lget (blAt r8.st.bl 0).xs 0) 4)))), (.v (.int .u64 (avInt (cellAt (lget (blAt r8.st.bl 0).xs 0) 5)))), (.v (.int .u64 (avInt (cellAt (lget (blAt r8.st.bl 0).xs 0) 6)))), (.v (.int .u64 (avInt (cellAt (lget (blAt r8.st.bl 0).xs 0) 7)))), (.v (.int .u64 (avInt (cellAt (lget (blAt r8.st.bl 0).xs 0) 8))))]]⟩, ⟨1, 43, 9, true, [[(.v (.int .i64 (avInt (cellAt (obCells (cellAt r22 0)) 0)))), (.v (.int .u64 (avInt (cellAt (obCells (cellAt r22 0)) 1)))), (.v (.int .u64 (avInt (cellAt (obCells (cellAt r22 0)) 2)))), (.v (.int .u64 (avInt (cellAt (obCells (cellAt r22 0)) 3)))), (.v (.int .u64 (avInt (cellAt (obCells (cellAt r22 0)) 4)))), (.v (.int .u64 (avInt (cellAt (obCells (cellAt r22 0)) 5)))), (.v (.int .u64 (avInt (cellAt (obCells (cellAt r22 0)) 6)))), (.v (.int .u64 (avInt (cellAt (obCells (cellAt r22 0)) 7)))), (.v (.int .u64 (avInt (cellAt (obCells (cellAt r22 0)) 8))))]]⟩, ⟨1, 43, 9, true, [[(.v (.int .i64 (avInt (cellAt (obCells (cellAt r33 0)) 0)))), (.v (.int .u64 (avInt (cellAt (obCells (cellAt r33 0)) 1)))), (.v (.int .u64 (avInt (cellAt (obCells (cellAt r33 0)) 2)))), (.v (.int .u64 (avInt (cellAt (obCells (cellAt r33 0)) 3)))), (.v (.int .u64 (avInt (cellAt (obCells (cellAt r33 0)) 4)))), (.v (.int .u64 (avInt (cellAt (obCells (cellAt r33 0)) 5)))), (.v (.int .u64 (avInt (cellAt (obCells (cellAt r33 0)) 6)))), (.v (.int .u64 (avInt (cellAt (obCells (cellAt r33 0)) 7)))), (.v (.int .u64 (avInt (cellAt (obCells (cellAt r33 0)) 8))))]]⟩]⟩ r44.st)
                         ((ev 15 []).bind fun r75 =>
                          cond (isB (cellAt r75 0))
                           (cond (avBool (cellAt r75 0))
                             (cond (avBool (frAt r44.st.fr 2).2)
                               ((ev 29 [(.agg [(.v (.int .i64 (avInt (cellAt (lget (blAt r44.st.bl 1).xs 0) 0)))), (.v (.int .u64 (avInt (cellAt (lget (blAt r44.st.bl 1).xs 0) 1)))), (.v (.int .u64 (avInt (cellAt (lget (blAt r44.st.bl 1).xs 0) 2)))), (.v (.int .u64 (avInt (cellAt (lget (blAt r44.st.bl 1).xs 0) 3)))), (.v (.int .u64 (avInt (cellAt (lget (blAt r44.st.bl 1).xs 0) 4)))), (.v (.int .u64 (avInt (cellAt (lget (blAt r44.st.bl 1).xs 0) 5)))), (.v (.int .u64 (avInt (cellAt (lget (blAt r44.st.bl 1).xs 0) 6)))), (.v (.int .u64 (avInt (cellAt (lget (blAt r44.st.bl 1).xs 0) 7)))), (.v (.int .u64 (avInt (cellAt (lget (blAt r44.st.bl 1).xs 0) 8))))]), (.agg [(.v (.int .i64 (avInt (cellAt (lget (blAt r44.st.bl 0).xs 0) 0)))), (.v (.int .u64 (avInt (cellAt (lget (blAt r44.st.bl 0).xs 0) 1)))), (.v (.int .u64 (avInt (cellAt (lget (blAt r44.st.bl 0).xs 0) 2)))), (.v (.int .u64 (avInt (cellAt (lget (blAt r44.st.bl 0).xs 0) 3)))), (.v (.int .u64 (avInt (cellAt (lget (blAt r44.st.bl 0).xs 0) 4)))), (.v (.int .u64 (avInt (cellAt (lget (blAt r44.st.bl 0).xs 0) 5)))), (.v (.int .u64 (avInt (cellAt (lget (blAt r44.st.bl 0).xs 0) 6)))), (.v (.int .u64 (avInt (cellAt (lget (blAt r44.st.bl 0).xs 0) 7)))), (.v (.int .u64 (avInt (cellAt (lget (blAt r44.st.bl 0).xs 0) 8))))])]).bind fun r77 =>
                                cond (isB (cellAt r77 0))
                                 (cond (avBool (cellAt r77 0))
                                   (cond ((avBool (frAt r44.st.fr 4).2) == (avBool (frAt r44.st.fr 5).2))
                                     (cond (avBool (frAt r44.st.fr 4).2)
                                       (some [(.v (.bool true))])
                                       ((ev 29 [(.agg [(.v (.int .i64 (avInt (cellAt (lget (blAt r44.st.bl 2).xs 0) 0)))), (.v (.int .u64 (avInt (cellAt (lget (blAt r44.st.bl 2).xs 0) 1)))), (.v (.int .u64 (avInt (cellAt (lget (blAt r44.st.bl 2).xs 0) 2)))), (.v (.int .u64 (avInt (cellAt (lget (blAt r44.st.bl 2).xs 0) 3)))), (.v (.int .u64 (avInt (cellAt (lget (blAt r44.st.bl 2).xs 0) 4)))), (.v (.int .u64 (avInt (cellAt (lget (blAt r44.st.bl 2).xs 0) 5)))), (.v (.int .u64 (avInt (cellAt (lget (blAt r44.st.bl 2).xs 0) 6)))), (.v (.int .u64 (avInt (cellAt (lget (blAt r44.st.bl 2).xs 0) 7)))), (.v (.int .u64 (avInt (cellAt (lget (blAt r44.st.bl 2).xs 0) 8))))]), (.agg [(.v (.int .i64 0)), (.v (.int .u64 0)), (.v (.int .u64 0)), (.v (.int .u64 0)), (.v (.int .u64 0)), (.v (.int .u64 0)), (.v (.int .u64 0)), (.v (.int .u64 0)), (.v (.int .u64 0))])]).bind fun r80 =>
                                        cond (isB (cellAt r80 0))
                                         (some [(.v (.bool (avBool (cellAt r80 0))))])
                                         (none)))
                                     (some [(.v (.bool false))]))
                                   (some [(.v (.bool false))]))
                                 (none))
                               (some [(.v (.bool false))]))
                             (some [(.v (.bool false))]))
                           (none))
                         (none))
                       (cond (isRt r44)
                         (some r44.outs)
                         (none)))
                     (none))
                   (none))
                 (none))
               (none))
             (none))
           (cond (isRt r8)
             (some r8.outs)
             (none)))
         (none))
       (none))) := (ev_eq _ _).trans (by kernel_rfl)
theorem lp5_0 (x0n : Bool) (x0 : List (List AV)) (x2n : Bool) (x2 : List (List AV)) (x7n : Bool) (x8 : Int) (b0_0 : Int) (b0_1 : Int) (b0_2 : Int) (b0_3 : Int) (b0_4 : Int) (b0_5 : Int) (b0_6 : Int) (b0_7 : Int) (b0_8 : Int) (b1 : List (List AV)) : lp 5 0 0 ⟨[(0, (.lst x0n 9 x0)), (2, (.lst x2n 1 x2)), (4, (.ptr 0 0 0)), (7, (.sl x7n 1 0 none)), (8, (.v (.int .i64 x8)))], [⟨1, 43, 9, true, [[(.v (.int .i64 b0_0)), (.v (.int .u64 b0_1)), (.v (.int .u64 b0_2)), (.v (.int .u64 b0_3)), (.v (.int .u64 b0_4)), (.v (.int .u64 b0_5)), (.v (.int .u64 b0_6)), (.v (.int .u64 b0_7)), (.v (.int .u64 b0_8))]]⟩, ⟨1, 43, 9, false, b1⟩]⟩ =
  cond (ltI x8 (((List.length x2) : Nat) : Int))
   (cond ((leI 0 x8) && (ltI x8 (((List.length x2) : Nat) : Int)))
     (cond (isI .i64 (cellAt (lget x2 (Int.toNat x8)) 0))
       (cond (!((avInt (cellAt (lget x2 (Int.toNat x8)) 0)) == b0_0))
         (cond ((leI 0 x8) && (ltI x8 (((List.length x2) : Nat) : Int)))
           (cond (isI .i64 (cellAt (lget x2 (Int.toNat x8)) 0))
             (cond (leN (((List.length b1) + 1) * 72) 140737488355328)
               (lp 5 0 0 ⟨[(0, (.lst x0n 9 x0)), (2, (.lst x2n 1 x2)), (4, (.ptr 0 0 0)), (7, (.sl false 1 0 none)), (8, (.v (.int .i64 (IntKind.wrap .i64 (x8 + 1)))))], [⟨1, 43, 9, true, [[(.v (.int .i64 b0_0)), (.v (.int .u64 b0_1)), (.v (.int .u64 b0_2)), (.v (.int .u64 b0_3)), (.v (.int .u64 b0_4)), (.v (.int .u64 b0_5)), (.v (.int .u64 b0_6)), (.v (.int .u64 b0_7)), (.v (.int .u64 b0_8))]]⟩, ⟨1, 43, 9, false, (b1 ++ [[(.v (.int .i64 (avInt (cellAt (lget x2 (Int.toNat x8)) 0)))), (.v (.int .u64 (IntKind.wrap .u64 x8))), (.v (.int .u64 0)), (.v (.int .u64 0)), (.v (.int .u64 0)), (.v (.int .u64 0)), (.v (.int .u64 0)), (.v (.int .u64 0)), (.v (.int .u64 0))]])⟩]⟩)
               (none))
             (none))
           (none))
         (lp 5 0 0 ⟨[(0, (.lst x0n 9 x0)), (2, (.lst x2n 1 x2)), (4, (.ptr 0 0 0)), (7, (.sl x7n 1 0 none)), (8, (.v (.int .i64 (IntKind.wrap .i64 (x8 + 1)))))], [⟨1, 43, 9, true, [[(.v (.int .i64 b0_0)), (.v (.int .u64 b0_1)), (.v (.int .u64 b0_2)), (.v (.int .u64 b0_3)), (.v (.int .u64 b0_4)), (.v (.int .u64 b0_5)), (.v (.int .u64 b0_6)), (.v (.int .u64 b0_7)), (.v (.int .u64 b0_8))]]⟩, ⟨1, 43, 9, false, b1⟩]⟩))
       (none))
     (none))
   (some ⟨(some 0), ⟨[(0, (.lst x0n 9 x0)), (4, (.ptr 0 0 0)), (7, (.sl x7n 1 0 none))], [⟨1, 43, 9, true, [[(.v (.int .i64 b0_0)), (.v (.int .u64 b0_1)), (.v (.int .u64 b0_2)), (.v (.int .u64 b0_3)), (.v (.int .u64 b0_4)), (.v (.int .u64 b0_5)), (.v (.int .u64 b0_6)), (.v (.int .u64 b0_7)), (.v (.int .u64 b0_8))]]⟩, ⟨1, 43, 9, false, b1⟩]⟩, []⟩) := (lp_eq _ _ _ _).trans (by kernel_rfl)
theorem lp5_1 (x0n : Bool) (x0 : List (List AV)) (x10 : Bool) (x12 : Bool) (x13 : Bool) (x14 : Int) (b0_0 : Int) (b0_1 : Int) (b0_2 : Int) (b0_3 : Int) (b0_4 : Int) (b0_5 : Int) (b0_6 : Int) (b0_7 : Int) (b0_8 : Int) (b1_0 : Int) (b1_1 : Int) (b1_2 : Int) (b1_3 : Int) (b1_4 : Int) (b1_5 : Int) (b1_6 : Int) (b1_7 : Int) (b1_8 : Int) (b2_0 : Int) (b2_1 : Int) (b2_2 : Int) (b2_3 : Int) (b2_4 : Int) (b2_5 : Int) (b2_6 : Int) (b2_7 : Int) (b2_8 : Int) : lp 5 1 0 ⟨[(0, (.lst x0n 9 x0)), (4, (.ptr 0 0 0)), (9, (.ptr 1 0 0)), (10, (.v (.bool x10))), (11, (.ptr 2 0 0)), (12, (.v (.bool x12))), (13, (.v (.bool x13))), (14, (.v (.int .i64 x14)))], [⟨1, 43, 9, true, [[(.v (.int .i64 b0_0)), (.v (.int .u64 b0_1)), (.v (.int .u64 b0_2)), (.v (.int .u64 b0_3)), (.v (.int .u64 b0_4)), (.v (.int .u64 b0_5)), (.v (.int .u64 b0_6)), (.v (.int .u64 b0_7)), (.v (.int .u64 b0_8))]]⟩, ⟨1, 43, 9, true, [[(.v (.int .i64 b1_0)), (.v (.int .u64 b1_1)), (.v (.int .u64 b1_2)), (.v (.int .u64 b1_3)), (.v (.int .u64 b1_4)), (.v (.int .u64 b1_5)), (.v (.int .u64 b1_6)), (.v (.int .u64 b1_7)), (.v (.int .u64 b1_8))]]⟩, ⟨1, 43, 9, true, [[(.v (.int .i64 b2_0)), (.v (.int .u64 b2_1)), (.v (.int .u64 b2_2)), (.v (.int .u64 b2_3)), (.v (.int .u64 b2_4)), (.v (.int .u64 b2_5)), (.v (.int .u64 b2_6)), (.v (.int .u64 b2_7)), (.v (.int .u64 b2_8))]]⟩]⟩ =
  cond (ltI x14 (((List.length x0) : Nat) : Int))
   (cond x13
     (lp 5 1 0 ⟨[(0, (.lst x0n 9 x0)), (4, (.ptr 0 0 0)), (9, (.ptr 1 0 0)), (10, (.v (.bool x10))), (11, (.ptr 2 0 0)), (12, (.v (.bool x12))), (13, (.v (.bool true))), (14, (.v (.int .i64 (IntKind.wrap .i64 (x14 + 1)))))], [⟨1, 43, 9, true, [[(.v (.int .i64 b0_0)), (.v (.int .u64 b0_1)), (.v (.int .u64 b0_2)), (.v (.int .u64 b0_3)), (.v (.int .u64 b0_4)), (.v (.int .u64 b0_5)), (.v (.int .u64 b0_6)), (.v (.int .u64 b0_7)), (.v (.int .u64 b0_8))]]⟩, ⟨1, 43, 9, true, [[(.v (.int .i64 b1_0)), (.v (.int .u64 b1_1)), (.v (.int .u64 b1_2)), (.v (.int .u64 b1_3)), (.v (.int .u64 b1_4)), (.v (.int .u64 b1_5)), (.v (.int .u64 b1_6)), (.v (.int .u64 b1_7)), (.v (.int .u64 b1_8))]]⟩, ⟨1, 43, 9, true, [[(.v (.int .i64 b2_0)), (.v (.int .u64 b2_1)), (.v (.int .u64 b2_2)), (.v (.int .u64 b2_3)), (.v (.int .u64 b2_4)), (.v (.int .u64 b2_5)), (.v (.int .u64 b2_6)), (.v (.int .u64 b2_7)), (.v (.int .u64 b2_8))]]⟩]⟩)
     (cond ((leI 0 x14) && (ltI x14 (((List.length x0) : Nat) : Int)))
       (cond (isI .i64 (cellAt (lget x0 (Int.toNat x14)) 0))
         (lp 5 1 0 ⟨[(0, (.lst x0n 9 x0)), (4, (.ptr 0 0 0)), (9, (.ptr 1 0 0)), (10, (.v (.bool x10))), (11, (.ptr 2 0 0)), (12, (.v (.bool x12))), (13, (.v (.bool ((avInt (cellAt (lget x0 (Int.toNat x14)) 0)) == b0_0)))), (14, (.v (.int .i64 (IntKind.wrap .i64 (x14 + 1)))))], [⟨1, 43, 9, true, [[(.v (.int .i64 b0_0)), (.v (.int .u64 b0_1)), (.v (.int .u64 b0_2)), (.v (.int .u64 b0_3)), (.v (.int .u64 b0_4)), (.v (.int .u64 b0_5)), (.v (.int .u64 b0_6)), (.v (.int .u64 b0_7)), (.v (.int .u64 b0_8))]]⟩, ⟨1, 43, 9, true, [[(.v (.int .i64 b1_0)), (.v (.int .u64 b1_1)), (.v (.int .u64 b1_2)), (.v (.int .u64 b1_3)), (.v (.int .u64 b1_4)), (.v (.int .u64 b1_5)), (.v (.int .u64 b1_6)), (.v (.int .u64 b1_7)), (.v (.int .u64 b1_8))]]⟩, ⟨1, 43, 9, true, [[(.v (.int .i64 b2_0)), (.v (.int .u64 b2_1)), (.v (.int .u64 b2_2)), (.v (.int .u64 b2_3)), (.v (.int .u64 b2_4)), (.v (.int .u64 b2_5)), (.v (.int .u64 b2_6)), (.v (.int .u64 b2_7)), (.v (.int .u64 b2_8))]]⟩]⟩)
         (none))
       (none)))
   (some ⟨(some 2), ⟨[(4, (.ptr 0 0 0)), (9, (.ptr 1 0 0)), (10, (.v (.bool x10))), (11, (.ptr 2 0 0)), (12, (.v (.bool x12))), (13, (.v (.bool x13)))], [⟨1, 43, 9, true, [[(.v (.int .i64 b0_0)), (.v (.int .u64 b0_1)), (.v (.int .u64 b0_2)), (.v (.int .u64 b0_3)), (.v (.int .u64 b0_4)), (.v (.int .u64 b0_5)), (.v (.int .u64 b0_6)), (.v (.int .u64 b0_7)), (.v (.int .u64 b0_8))]]⟩, ⟨1, 43, 9, true, [[(.v (.int .i64 b1_0)), (.v (.int .u64 b1_1)), (.v (.int .u64 b1_2)), (.v (.int .u64 b1_3)), (.v (.int .u64 b1_4)), (.v (.int .u64 b1_5)), (.v (.int .u64 b1_6)), (.v (.int .u64 b1_7)), (.v (.int .u64 b1_8))]]⟩, ⟨1, 43, 9, true, [[(.v (.int .i64 b2_0)), (.v (.int .u64 b2_1)), (.v (.int .u64 b2_2)), (.v (.int .u64 b2_3)), (.v (.int .u64 b2_4)), (.v (.int .u64 b2_5)), (.v (.int .u64 b2_6)), (.v (.int .u64 b2_7)), (.v (.int .u64 b2_8))]]⟩]⟩, []⟩) := (lp_eq _ _ _ _).trans (by kernel_rfl)
-- "bodega/bodegalaw19.PointerStale"
theorem ev9 (a0_0 : Int) (a1_0 : Int) (a2_0n : Bool) (a2_0 : List (List AV)) (a3_0 : Int) (a3_1 : Int) (a3_2 : Int) (a3_3 : Int) (a3_4 : Int) (a3_5 : Int) (a3_6 : Int) : ev 9 [(.v (.int .i64 a0_0)), (.v (.int .i64 a1_0)), (.lst a2_0n 1 a2_0), (.agg [(.v (.int .u64 a3_0)), (.v (.int .u64 a3_1)), (.v (.int .u64 a3_2)), (.v (.int .u64 a3_3)), (.v (.int .u64 a3_4)), (.v (.int .u64 a3_5)), (.v (.int .u64 a3_6))])] =
  cond ((((List.length a2_0) : Nat) : Int) == 0)
   (some [(.v (.bool true))])
   (cond (ltI 12 (((List.length a2_0) : Nat) : Int))
     (some [(.v (.bool true))])
     ((ev 30 [(.v (.int .i64 a0_0)), (.v (.int .i64 152))]).bind fun r4 =>
      cond (isI .i64 (cellAt r4 0))
       ((ev 30 [(.v (.int .i64 a1_0)), (.v (.int .i64 16777195))]).bind fun r7 =>
        cond (isI .i64 (cellAt r7 0))
         ((ev 14 [(.agg [(.v (.int .i64 0)), (.v (.int .i64 (avInt (cellAt r7 0)))), (.v (.int .u32 0))])]).bind fun r9 =>
          cond (isI .u64 (cellAt r9 0))
           ((lp 9 0 0 ⟨[(2, (.lst a2_0n 1 a2_0)), (7, (.ptr 0 0 0)), (9, (.ptr 1 0 0)), (11, (.sl true 2 0 none)), (12, (.v (.int .i64 0)))], [⟨1, 41, 7, true, [[(.v (.int .u64 a3_0)), (.v (.int .u64 a3_1)), (.v (.int .u64 a3_2)), (.v (.int .u64 a3_3)), (.v (.int .u64 a3_4)), (.v (.int .u64 a3_5)), (.v (.int .u64 a3_6))]]⟩, ⟨1, 43, 9, true, [[(.v (.int .i64 (IntKind.wrap .i64 (104 + (avInt (cellAt r4 0)))))), (.v (.int .u64 512)), (.v (.int .u64 (avInt (cellAt r9 0)))), (.v (.int .u64 0)), (.v (.int .u64 0)), (.v (.int .u64 0)), (.v (.int .u64 0)), (.v (.int .u64 0)), (.v (.int .u64 0))]]⟩, ⟨1, 28, 2, false, []⟩]⟩).bind fun r11 =>
            cond (isEx 0 r11)
             (cond (likeStG ⟨[], []⟩ r11.st)
               ((ev 15 []).bind fun r12 =>
                cond (isB (cellAt r12 0))
                 (some [(.v (.bool (avBool (cellAt r12 0))))])
                 (none))
               (none))
             (cond (isRt r11)
               (some r11.outs)
               (none)))
           (none))
         (none))
       (none))) := (ev_eq _ _).trans (by kernel_rfl)
theorem lp9_0 (x2n : Bool) (x2 : List (List AV)) (x11n : Bool) (x12 : Int) (b0_0 : Int) (b0_1 : Int) (b0_2 : Int) (b0_3 : Int) (b0_4 : Int) (b0_5 : Int) (b0_6 : Int) (b1_0 : Int) (b1_1 : Int) (b1_2 : Int) (b1_3 : Int) (b1_4 : Int) (b1_5 : Int) (b1_6 : Int) (b1_7 : Int) (b1_8 : Int) (b2 : List (List AV)) : lp 9 0 0 ⟨[(2, (.lst x2n 1 x2)), (7, (.ptr 0 0 0)), (9, (.ptr 1 0 0)), (11, (.sl x11n 2 0 none)), (12, (.v (.int .i64 x12)))], [⟨1, 41, 7, true, [[(.v (.int .u64 b0_0)), (.v (.int .u64 b0_1)), (.v (.int .u64 b0_2)), (.v (.int .u64 b0_3)), (.v (.int .u64 b0_4)), (.v (.int .u64 b0_5)), (.v (.int .u64 b0_6))]]⟩, ⟨1, 43, 9, true, [[(.v (.int .i64 b1_0)), (.v (.int .u64 b1_1)), (.v (.int .u64 b1_2)), (.v (.int .u64 b1_3)), (.v (.int .u64 b1_4)), (.v (.int .u64 b1_5)), (.v (.int .u64 b1_6)), (.v (.int .u64 b1_7)), (.v (.int .u64 b1_8))]]⟩, ⟨1, 28, 2, false, b2⟩]⟩ =
  cond (ltI x12 (((List.length x2) : Nat) : Int))
   (cond ((leI 0 x12) && (ltI x12 (((List.length x2) : Nat) : Int)))
     (cond (isI .i64 (cellAt (lget x2 (Int.toNat x12)) 0))
       ((ev 30 [(.v (.int .i64 (avInt (cellAt (lget x2 (Int.toNat x12)) 0)))), (.v (.int .i64 4))]).bind fun r17 =>
        cond (isI .i64 (cellAt r17 0))
         ((ev 31 [(.agg [(.v (.int .i64 b1_0)), (.v (.int .u64 b1_1)), (.v (.int .u64 b1_2)), (.v (.int .u64 b1_3)), (.v (.int .u64 b1_4)), (.v (.int .u64 b1_5)), (.v (.int .u64 b1_6)), (.v (.int .u64 b1_7)), (.v (.int .u64 b1_8))]), (.v (.int .i64 (IntKind.wrap .i64 (1 + (avInt (cellAt r17 0)))))), (.v (.int .u32 (IntKind.wrap .u32 x12)))]).bind fun r21 =>
          cond ((Ev.isAgg 9 (cellAt r21 0)) && ((isI .i64 (cellAt (obCells (cellAt r21 0)) 0)) && ((isI .u64 (cellAt (obCells (cellAt r21 0)) 1)) && ((isI .u64 (cellAt (obCells (cellAt r21 0)) 2)) && ((isI .u64 (cellAt (obCells (cellAt r21 0)) 3)) && ((isI .u64 (cellAt (obCells (cellAt r21 0)) 4)) && ((isI .u64 (cellAt (obCells (cellAt r21 0)) 5)) && ((isI .u64 (cellAt (obCells (cellAt r21 0)) 6)) && ((isI .u64 (cellAt (obCells (cellAt r21 0)) 7)) && (isI .u64 (cellAt (obCells (cellAt r21 0)) 8)))))))))))
           (cond (isI .i64 (cellAt r21 1))
             (cond (!((avInt (cellAt r21 1)) == 0))
               (some ⟨none, ⟨[], []⟩, [(.v (.bool false))]⟩)
               (cond (!((avInt (cellAt (obCells (cellAt r21 0)) 0)) == b1_0))
                 (some ⟨none, ⟨[], []⟩, [(.v (.bool false))]⟩)
                 (cond (!((avInt (cellAt (obCells (cellAt r21 0)) 1)) == b1_1))
                   (some ⟨none, ⟨[], []⟩, [(.v (.bool false))]⟩)
                   ((ev 21 [(.agg [(.v (.int .i64 (avInt (cellAt (obCells (cellAt r21 0)) 0)))), (.v (.int .u64 (avInt (cellAt (obCells (cellAt r21 0)) 1)))), (.v (.int .u64 (avInt (cellAt (obCells (cellAt r21 0)) 2)))), (.v (.int .u64 (avInt (cellAt (obCells (cellAt r21 0)) 3)))), (.v (.int .u64 (avInt (cellAt (obCells (cellAt r21 0)) 4)))), (.v (.int .u64 (avInt (cellAt (obCells (cellAt r21 0)) 5)))), (.v (.int .u64 (avInt (cellAt (obCells (cellAt r21 0)) 6)))), (.v (.int .u64 (avInt (cellAt (obCells (cellAt r21 0)) 7)))), (.v (.int .u64 (avInt (cellAt (obCells (cellAt r21 0)) 8))))])]).bind fun r35 =>
                    cond ((Ev.isAgg 2 (cellAt r35 0)) && ((isI .i64 (cellAt (obCells (cellAt r35 0)) 0)) && (isI .i64 (cellAt (obCells (cellAt r35 0)) 1))))
                     ((lp 9 1 0 ⟨[(2, (.lst x2n 1 x2)), (7, (.ptr 0 0 0)), (9, (.ptr 1 0 0)), (11, (.sl x11n 2 0 none)), (12, (.v (.int .i64 x12))), (13, (.v (.int .i64 (IntKind.wrap .i64 (1 + (avInt (cellAt r17 0))))))), (14, (.ptr 3 0 0)), (16, (.ptr 4 0 0)), (17, (.v (.int .i64 1)))], [⟨1, 41, 7, true, [[(.v (.int .u64 b0_0)), (.v (.int .u64 b0_1)), (.v (.int .u64 b0_2)), (.v (.int .u64 b0_3)), (.v (.int .u64 b0_4)), (.v (.int .u64 b0_5)), (.v (.int .u64 b0_6))]]⟩, ⟨1, 43, 9, true, [[(.v (.int .i64 b1_0)), (.v (.int .u64 b1_1)), (.v (.int .u64 b1_2)), (.v (.int .u64 b1_3)), (.v (.int .u64 b1_4)), (.v (.int .u64 b1_5)), (.v (.int .u64 b1_6)), (.v (.int .u64 b1_7)), (.v (.int .u64 b1_8))]]⟩, ⟨1, 28, 2, false, b2⟩, ⟨1, 43, 9, true, [[(.v (.int .i64 (avInt (cellAt (obCells (cellAt r21 0)) 0)))), (.v (.int .u64 (avInt (cellAt (obCells (cellAt r21 0)) 1)))), (.v (.int .u64 (avInt (cellAt (obCells (cellAt r21 0)) 2)))), (.v (.int .u64 (avInt (cellAt (obCells (cellAt r21 0)) 3)))), (.v (.int .u64 (avInt (cellAt (obCells (cellAt r21 0)) 4)))), (.v (.int .u64 (avInt (cellAt (obCells (cellAt r21 0)) 5)))), (.v (.int .u64 (avInt (cellAt (obCells (cellAt r21 0)) 6)))), (.v (.int .u64 (avInt (cellAt (obCells (cellAt r21 0)) 7)))), (.v (.int .u64 (avInt (cellAt (obCells (cellAt r21 0)) 8))))]]⟩, ⟨1, 28, 2, true, [[(.v (.int .i64 (avInt (cellAt (obCells (cellAt r35 0)) 0)))), (.v (.int .i64 (avInt (cellAt (obCells (cellAt r35 0)) 1))))]]⟩]⟩).bind fun r38 =>
                      cond (isEx 2 r38)
                       (cond (likeStG ⟨[(2, (.lst x2n 1 x2)), (7, (.ptr 0 0 0)), (9, (.ptr 1 0 0)), (11, (.sl x11n 2 0 none)), (12, (.v (.int .i64 x12))), (13, (.v (.int .i64 (IntKind.wrap .i64 (1 + (avInt (cellAt r17 0))))))), (14, (.ptr 3 0 0)), (16, (.ptr 4 0 0))], [⟨1, 41, 7, true, [[(.v (.int .u64 b0_0)), (.v (.int .u64 b0_1)), (.v (.int .u64 b0_2)), (.v (.int .u64 b0_3)), (.v (.int .u64 b0_4)), (.v (.int .u64 b0_5)), (.v (.int .u64 b0_6))]]⟩, ⟨1, 43, 9, true, [[(.v (.int .i64 b1_0)), (.v (.int .u64 b1_1)), (.v (.int .u64 b1_2)), (.v (.int .u64 b1_3)), (.v (.int .u64 b1_4)), (.v (.int .u64 b1_5)), (.v (.int .u64 b1_6)), (.v (.int .u64 b1_7)), (.v (.int .u64 b1_8))]]⟩, ⟨1, 28, 2, false, b2⟩, ⟨1, 43, 9, true, [[(.v (.int .i64 (avInt (cellAt (obCells (cellAt r21 0)) 0)))), (.v (.int .u64 (avInt (cellAt (obCells (cellAt r21 0)) 1)))), (.v (.int .u64 (avInt (cellAt (obCells (cellAt r21 0)) 2)))), (.v (.int .u64 (avInt (cellAt (obCells (cellAt r21 0)) 3)))), (.v (.int .u64 (avInt (cellAt (obCells (cellAt r21 0)) 4)))), (.v (.int .u64 (avInt (cellAt (obCells (cellAt r21 0)) 5)))), (.v (.int .u64 (avInt (cellAt (obCells (cellAt r21 0)) 6)))), (.v (.int .u64 (avInt (cellAt (obCells (cellAt r21 0)) 7)))), (.v (.int .u64 (avInt (cellAt (obCells (cellAt r21 0)) 8))))]]⟩, ⟨1, 28, 2, true, [[(.v (.int .i64 (avInt (cellAt (obCells (cellAt r35 0)) 0)))), (.v (.int .i64 (avInt (cellAt (obCells (cellAt r35 0)) 1))))]]⟩]⟩ r38.st)
                         ((ev 39 [(.lst false 9 [[(.v (.int .i64 (avInt (cellAt (lget (blAt r38.st.bl 3).xs 0) 0)))), (.v (.int .u64 (avInt (cellAt (lget (blAt r38.st.bl 3).xs 0) 1)))), (.v (.int .u64 (avInt (cellAt (lget (blAt r38.st.bl 3).xs 0) 2)))), (.v (.int .u64 (avInt (cellAt (lget (blAt r38.st.bl 3).xs 0) 3)))), (.v (.int .u64 (avInt (cellAt (lget (blAt r38.st.bl 3).xs 0) 4)))), (.v (.int .u64 (avInt (cellAt (lget (blAt r38.st.bl 3).xs 0) 5)))), (.v (.int .u64 (avInt (cellAt (lget (blAt r38.st.bl 3).xs 0) 6)))), (.v (.int .u64 (avInt (cellAt (lget (blAt r38.st.bl 3).xs 0) 7)))), (.v (.int .u64 (avInt (cellAt (lget (blAt r38.st.bl 3).xs 0) 8))))]]), (.agg [(.v (.int .i64 (avInt (cellAt (lget (blAt r38.st.bl 4).xs 0) 0)))), (.v (.int .i64 (avInt (cellAt (lget (blAt r38.st.bl 4).xs 0) 1))))]), (.v (.int .i64 (avInt (frAt r38.st.fr 5).2)))]).bind fun r72 =>
                          cond ((Ev.isAgg 9 (cellAt r72 0)) && ((isI .i64 (cellAt (obCells (cellAt r72 0)) 0)) && ((isI .u64 (cellAt (obCells (cellAt r72 0)) 1)) && ((isI .u64 (cellAt (obCells (cellAt r72 0)) 2)) && ((isI .u64 (cellAt (obCells (cellAt r72 0)) 3)) && ((isI .u64 (cellAt (obCells (cellAt r72 0)) 4)) && ((isI .u64 (cellAt (obCells (cellAt r72 0)) 5)) && ((isI .u64 (cellAt (obCells (cellAt r72 0)) 6)) && ((isI .u64 (cellAt (obCells (cellAt r72 0)) 7)) && (isI .u64 (cellAt (obCells (cellAt r72 0)) 8)))))))))))
                           (cond (isB (cellAt r72 1))
                             (cond (isI .i64 (cellAt r72 2))
                               (cond (!(avBool (cellAt r72 1)))
                                 (some ⟨none, ⟨[], []⟩, [(.v (.bool false))]⟩)
                                 (cond (!((avInt (cellAt r72 2)) == 0))
                                   (some ⟨none, ⟨[], []⟩, [(.v (.bool false))]⟩)
                                   ((lp 9 2 0 ⟨[(2, (.lst (avNil (frAt r38.st.fr 0).2) 1 (avXs (frAt r38.st.fr 0).2))), (7, (.ptr 0 0 0)), (9, (.ptr 1 0 0)), (11, (.sl (avNil (frAt r38.st.fr 3).2) 2 0 none)), (12, (.v (.int .i64 (avInt (frAt r38.st.fr 4).2)))), (13, (.v (.int .i64 (avInt (frAt r38.st.fr 5).2)))), (14, (.ptr 3 0 0)), (16, (.ptr 4 0 0)), (21, (.v (.int .i64 0)))], [⟨1, 41, 7, true, [[(.v (.int .u64 (avInt (cellAt (lget (blAt r38.st.bl 0).xs 0) 0)))), (.v (.int .u64 (avInt (cellAt (lget (blAt r38.st.bl 0).xs 0) 1)))), (.v (.int .u64 (avInt (cellAt (lget (blAt r38.st.bl 0).xs 0) 2)))), (.v (.int .u64 (avInt (cellAt (lget (blAt r38.st.bl 0).xs 0) 3)))), (.v (.int .u64 (avInt (cellAt (lget (blAt r38.st.bl 0).xs 0) 4)))), (.v (.int .u64 (avInt (cellAt (lget (blAt r38.st.bl 0).xs 0) 5)))), (.v (.int .u64 (avInt (cellAt (lget (blAt r38.st.bl 0).xs 0) 6))))]]⟩, ⟨1, 43, 9, true, [[(.v (.int .i64 (avInt (cellAt (lget (blAt r38.st.bl 1).xs 0) 0)))), (.v (.int .u64 (avInt (cellAt (lget (blAt r38.st.bl 1).xs 0) 1)))), (.v (.int .u64 (avInt (cellAt (lget (blAt r38.st.bl 1).xs 0) 2)))), (.v (.int .u64 (avInt (cellAt (lget (blAt r38.st.bl 1).xs 0) 3)))), (.v (.int .u64 (avInt (cellAt (lget (blAt r38.st.bl 1).xs 0) 4)))), (.v (.int .u64 (avInt (cellAt (lget (blAt r38.st.bl 1).xs 0) 5)))), (.v (.int .u64 (avInt (cellAt (lget (blAt r38.st.bl 1).xs 0) 6)))), (.v (.int .u64 (avInt (cellAt (lget (blAt r38.st.bl 1).xs 0) 7)))), (.v (.int .u64 (avInt (cellAt (lget (blAt r38.st.bl 1).xs 0) 8))))]]⟩, ⟨1, 28, 2, false, (blAt r38.st.bl 2).xs⟩, ⟨1, 43, 9, true, [[(.v (.int .i64 (avInt (cellAt (lget (blAt r38.st.bl 3).xs 0) 0)))), (.v (.int .u64 (avInt (cellAt (lget (blAt r38.st.bl 3).xs 0) 1)))), (.v (.int .u64 (avInt (cellAt (lget (blAt r38.st.bl 3).xs 0) 2)))), (.v (.int .u64 (avInt (cellAt (lget (blAt r38.st.bl 3).xs 0) 3)))), (.v (.int .u64 (avInt (cellAt (lget (blAt r38.st.bl 3).xs 0) 4)))), (.v (.int .u64 (avInt (cellAt (lget (blAt r38.st.bl 3).xs 0) 5)))), (.v (.int .u64 (avInt (cellAt (lget (blAt r38.st.bl 3).xs 0) 6)))), (.v (.int .u64 (avInt (cellAt (lget (blAt r38.st.bl 3).xs 0) 7)))), (.v (.int .u64 (avInt (cellAt (lget (blAt r38.st.bl 3).xs 0) 8))))]]⟩, ⟨1, 28, 2, true, [[(.v (.int .i64 (avInt (cellAt (lget (blAt r38.st.bl 4).xs 0) 0)))), (.v (.int .i64 (avInt (cellAt (lget (blAt r38.st.bl 4).xs 0) 1))))]]⟩]⟩).bind fun r86 =>
                                    cond (isEx 4 r86)
                                     (cond (likeStG ⟨[(2, (.lst (avNil (frAt r38.st.fr 0).2) 1 (avXs (frAt r38.st.fr 0).2))), (7, (.ptr 0 0 0)), (9, (.ptr 1 0 0)), (11, (.sl (avNil (frAt r38.st.fr 3).2) 2 0 none)), (12, (.v (.int .i64 (avInt (frAt r38.st.fr 4).2)))), (13, (.v (.int .i64 (avInt (frAt r38.st.fr 5).2)))), (14, (.ptr 3 0 0)), (16, (.ptr 4 0 0))], [⟨1, 41, 7, true, [[(.v (.int .u64 (avInt (cellAt (lget (blAt r38.st.bl 0).xs 0) 0)))), (.v (.int .u64 (avInt (cellAt (lget (blAt r38.st.bl 0).xs 0) 1)))), (.v (.int .u64 (avInt (cellAt (lget (blAt r38.st.bl 0).xs 0) 2)))), (.v (.int .u64 (avInt (cellAt (lget (blAt r38.st.bl 0).xs 0) 3)))), (.v (.int .u64 (avInt (cellAt (lget (blAt r38.st.bl 0).xs 0) 4)))), (.v (.int .u64 (avInt (cellAt (lget (blAt r38.st.bl 0).xs 0) 5)))), (.v (.int .u64 (avInt (cellAt (lget (blAt r38.st.bl 0).xs 0) 6))))]]⟩, ⟨1, 43, 9, true, [[(.v (.int .i64 (avInt (cellAt (lget (blAt r38.st.bl 1).xs 0) 0)))), (.v (.int .u64 (avInt (cellAt (lget (blAt r38.st.bl 1).xs 0) 1)))), (.v (.int .u64 (avInt (cellAt (lget (blAt r38.st.bl 1).xs 0) 2)))), (.v (.int .u64 (avInt (cellAt (lget (blAt r38.st.bl 1).xs 0) 3)))), (.v (.int .u64 (avInt (cellAt (lget (blAt r38.st.bl 1).xs 0) 4)))), (.v (.int .u64 (avInt (cellAt (lget (blAt r38.st.bl 1).xs 0) 5)))), (.v (.int .u64 (avInt (cellAt (lget (blAt r38.st.bl 1).xs 0) 6)))), (.v (.int .u64 (avInt (cellAt (lget (blAt r38.st.bl 1).xs 0) 7)))), (.v (.int .u64 (avInt (cellAt (lget (blAt r38.st.bl 1).xs 0) 8))))]]⟩, ⟨1, 28, 2, false, (blAt r38.st.bl 2).xs⟩, ⟨1, 43, 9, true, [[(.v (.int .i64 (avInt (cellAt (lget (blAt r38.st.bl 3).xs 0) 0)))), (.v (.int .u64 (avInt (cellAt (lget (blAt r38.st.bl 3).xs 0) 1)))), (.v (.int .u64 (avInt (cellAt (lget (blAt r38.st.bl 3).xs 0) 2)))), (.v (.int .u64 (avInt (cellAt (lget (blAt r38.st.bl 3).xs 0) 3)))), (.v (.int .u64 (avInt (cellAt (lget (blAt r38.st.bl 3).xs 0) 4)))), (.v (.int .u64 (avInt (cellAt (lget (blAt r38.st.bl 3).xs 0) 5)))), (.v (.int .u64 (avInt (cellAt (lget (blAt r38.st.bl 3).xs 0) 6)))), (.v (.int .u64 (avInt (cellAt (lget (blAt r38.st.bl 3).xs 0) 7)))), (.v (.int .u64 (avInt (cellAt (lget (blAt r38.st.bl 3).xs 0) 8))))]]⟩, ⟨1, 28, 2, true, [[(.v (.int .i64 (avInt (cellAt (lget (blAt r38.st.bl 4).xs 0) 0)))), (.v (.int .i64 (avInt (cellAt (lget (blAt r38.st.bl 4).xs 0) 1))))]]⟩]⟩ r86.st)
                                       (cond (leN (((List.length (blAt r86.st.bl 2).xs) + 1) * 16) 140737488355328)
                                         ((ev 33 [(.agg [(.v (.int .i64 (avInt (cellAt (lget (blAt r86.st.bl 3).xs 0) 0)))), (.v (.int .u64 (avInt (cellAt (lget (blAt r86.st.bl 3).xs 0) 1)))), (.v (.int .u64 (avInt (cellAt (lget (blAt r86.st.bl 3).xs 0) 2)))), (.v (.int .u64 (avInt (cellAt (lget (blAt r86.st.bl 3).xs 0) 3)))), (.v (.int .u64 (avInt (cellAt (lget (blAt r86.st.bl 3).xs 0) 4)))), (.v (.int .u64 (avInt (cellAt (lget (blAt r86.st.bl 3).xs 0) 5)))), (.v (.int .u64 (avInt (cellAt (lget (blAt r86.st.bl 3).xs 0) 6)))), (.v (.int .u64 (avInt (cellAt (lget (blAt r86.st.bl 3).xs 0) 7)))), (.v (.int .u64 (avInt (cellAt (lget (blAt r86.st.bl 3).xs 0) 8))))])]).bind fun r122 =>
                                          cond ((Ev.isAgg 9 (cellAt r122 0)) && ((isI .i64 (cellAt (obCells (cellAt r122 0)) 0)) && ((isI .u64 (cellAt (obCells (cellAt r122 0)) 1)) && ((isI .u64 (cellAt (obCells (cellAt r122 0)) 2)) && ((isI .u64 (cellAt (obCells (cellAt r122 0)) 3)) && ((isI .u64 (cellAt (obCells (cellAt r122 0)) 4)) && ((isI .u64 (cellAt (obCells (cellAt r122 0)) 5)) && ((isI .u64 (cellAt (obCells (cellAt r122 0)) 6)) && ((isI .u64 (cellAt (obCells (cellAt r122 0)) 7)) && (isI .u64 (cellAt (obCells (cellAt r122 0)) 8)))))))))))
                                           (cond (isI .i64 (cellAt r122 1))
                                             (cond (!((avInt (cellAt r122 1)) == 0))
                                               (some ⟨none, ⟨[], []⟩, [(.v (.bool false))]⟩)
                                               ((ev 37 [(.lst false 9 [[(.v (.int .i64 (avInt (cellAt (obCells (cellAt r122 0)) 0)))), (.v (.int .u64 (avInt (cellAt (obCells (cellAt r122 0)) 1)))), (.v (.int .u64 (avInt (cellAt (obCells (cellAt r122 0)) 2)))), (.v (.int .u64 (avInt (cellAt (obCells (cellAt r122 0)) 3)))), (.v (.int .u64 (avInt (cellAt (obCells (cellAt r122 0)) 4)))), (.v (.int .u64 (avInt (cellAt (obCells (cellAt r122 0)) 5)))), (.v (.int .u64 (avInt (cellAt (obCells (cellAt r122 0)) 6)))), (.v (.int .u64 (avInt (cellAt (obCells (cellAt r122 0)) 7)))), (.v (.int .u64 (avInt (cellAt (obCells (cellAt r122 0)) 8))))]]), (.agg [(.v (.int .i64 (avInt (cellAt (lget (blAt r86.st.bl 4).xs 0) 0)))), (.v (.int .i64 (avInt (cellAt (lget (blAt r86.st.bl 4).xs 0) 1))))]), (.v (.int .i64 (avInt (frAt r86.st.fr 5).2)))]).bind fun r135 =>
                                                cond ((Ev.isAgg 9 (cellAt r135 0)) && ((isI .i64 (cellAt (obCells (cellAt r135 0)) 0)) && ((isI .u64 (cellAt (obCells (cellAt r135 0)) 1)) && ((isI .u64 (cellAt (obCells (cellAt r135 0)) 2)) && ((isI .u64 (cellAt (obCells (cellAt r135 0)) 3)) && ((isI .u64 (cellAt (obCells (cellAt r135 0)) 4)) && ((isI .u64 (cellAt (obCells (cellAt r135 0)) 5)) && ((isI .u64 (cellAt (obCells (cellAt r135 0)) 6)) && ((isI .u64 (cellAt (obCells (cellAt r135 0)) 7)) && (isI .u64 (cellAt (obCells (cellAt r135 0)) 8)))))))))))
                                                 (cond (isB (cellAt r135 1))
                                                   (cond (isI .i64 (cellAt r135 2))
                                                     (cond (avBool (cellAt r135 1))
                                                       (some ⟨none, ⟨[], []⟩, [(.v (.bool false))]⟩)
                                                       (cond (!((avInt (cellAt r135 2)) == 11))
                                                         (some ⟨none, ⟨[], []⟩, [(.v (.bool false))]⟩)
                                                         (lp 9 0 0 ⟨[(2, (.lst (avNil (frAt r86.st.fr 0).2) 1 (avXs (frAt r86.st.fr 0).2))), (7, (.ptr 0 0 0)), (9, (.ptr 1 0 0)), (11, (.sl false 2 0 none)), (12, (.v (.int .i64 (IntKind.wrap .i64 ((avInt (frAt r86.st.fr 4).2) + 1)))))], [⟨1, 41, 7, true, [[(.v (.int .u64 (avInt (cellAt (lget (blAt r86.st.bl 0).xs 0) 0)))), (.v (.int .u64 (avInt (cellAt (lget (blAt r86.st.bl 0).xs 0) 1)))), (.v (.int .u64 (avInt (cellAt (lget (blAt r86.st.bl 0).xs 0) 2)))), (.v (.int .u64 (avInt (cellAt (lget (blAt r86.st.bl 0).xs 0) 3)))), (.v (.int .u64 (avInt (cellAt (lget (blAt r86.st.bl 0).xs 0) 4)))), (.v (.int .u64 (avInt (cellAt (lget (blAt r86.st.bl 0).xs 0) 5)))), (.v (.int .u64 (avInt (cellAt (lget (blAt r86.st.bl 0).xs 0) 6))))]]⟩, ⟨1, 43, 9, true, [[(.v (.int .i64 (avInt (cellAt (obCells (cellAt r122 0)) 0)))), (.v (.int .u64 (avInt (cellAt (obCells (cellAt r122 0)) 1)))), (.v (.int .u64 (avInt (cellAt (obCells (cellAt r122 0)) 2)))), (.v (.int .u64 (avInt (cellAt (obCells (cellAt r122 0)) 3)))), (.v (.int .u64 (avInt (cellAt (obCells (cellAt r122 0)) 4)))), (.v (.int .u64 (avInt (cellAt (obCells (cellAt r122 0)) 5)))), (.v (.int .u64 (avInt (cellAt (obCells (cellAt r122 0)) 6)))), (.v (.int .u64 (avInt (cellAt (obCells (cellAt r122 0)) 7)))), (.v (.int .u64 (avInt (cellAt (obCells (cellAt r122 0)) 8))))]]⟩, ⟨1, 28, 2, false, ((blAt r86.st.bl 2).xs ++ [[(.v (.int .i64 (avInt (cellAt (lget (blAt r86.st.bl 4).xs 0) 0)))), (.v (.int .i64 (avInt (cellAt (lget (blAt r86.st.bl 4).xs 0) 1))))]])⟩]⟩)))
                                                     (none))
                                                   (none))
                                                 (none)))
                                             (none))
                                           (none))
                                         (none))
                                       (none))
                                     (cond (isRt r86)
                                       (some ⟨none, ⟨[], []⟩, r86.outs⟩)
                                       (none)))))
                               (none))
                             (none))
                           (none))
                         (none))
                       (cond (isRt r38)
                         (some ⟨none, ⟨[], []⟩, r38.outs⟩)
                         (none)))
                     (none)))))
             (none))
           (none))
         (none))
       (none))
     (none))
   (some ⟨(some 0), ⟨[], []⟩, []⟩) := (lp_eq _ _ _ _).trans (by kernel_rfl)
theorem lp9_1 (x2n : Bool) (x2 : List (List AV)) (x11n : Bool) (x12 : Int) (x13 : Int) (x17 : Int) (b0_0 : Int) (b0_1 : Int) (b0_2 : Int) (b0_3 : Int) (b0_4 : Int) (b0_5 : Int) (b0_6 : Int) (b1_0 : Int) (b1_1 : Int) (b1_2 : Int) (b1_3 : Int) (b1_4 : Int) (b1_5 : Int) (b1_6 : Int) (b1_7 : Int) (b1_8 : Int) (b2 : List (List AV)) (b3_0 : Int) (b3_1 : Int) (b3_2 : Int) (b3_3 : Int) (b3_4 : Int) (b3_5 : Int) (b3_6 : Int) (b3_7 : Int) (b3_8 : Int) (b4_0 : Int) (b4_1 : Int) : lp 9 1 0 ⟨[(2, (.lst x2n 1 x2)), (7, (.ptr 0 0 0)), (9, (.ptr 1 0 0)), (11, (.sl x11n 2 0 none)), (12, (.v (.int .i64 x12))), (13, (.v (.int .i64 x13))), (14, (.ptr 3 0 0)), (16, (.ptr 4 0 0)), (17, (.v (.int .i64 x17)))], [⟨1, 41, 7, true, [[(.v (.int .u64 b0_0)), (.v (.int .u64 b0_1)), (.v (.int .u64 b0_2)), (.v (.int .u64 b0_3)), (.v (.int .u64 b0_4)), (.v (.int .u64 b0_5)), (.v (.int .u64 b0_6))]]⟩, ⟨1, 43, 9, true, [[(.v (.int .i64 b1_0)), (.v (.int .u64 b1_1)), (.v (.int .u64 b1_2)), (.v (.int .u64 b1_3)), (.v (.int .u64 b1_4)), (.v (.int .u64 b1_5)), (.v (.int .u64 b1_6)), (.v (.int .u64 b1_7)), (.v (.int .u64 b1_8))]]⟩, ⟨1, 28, 2, false, b2⟩, ⟨1, 43, 9, true, [[(.v (.int .i64 b3_0)), (.v (.int .u64 b3_1)), (.v (.int .u64 b3_2)), (.v (.int .u64 b3_3)), (.v (.int .u64 b3_4)), (.v (.int .u64 b3_5)), (.v (.int .u64 b3_6)), (.v (.int .u64 b3_7)), (.v (.int .u64 b3_8))]]⟩, ⟨1, 28, 2, true, [[(.v (.int .i64 b4_0)), (.v (.int .i64 b4_1))]]⟩]⟩ =
  cond (ltI x17 7)
   (cond ((leI 0 x17) && (ltI x17 7))
     (cond (!((cond (Nat.beq (Int.toNat x17) 0) b3_2 (cond (Nat.beq (Int.toNat x17) 1) b3_3 (cond (Nat.beq (Int.toNat x17) 2) b3_4 (cond (Nat.beq (Int.toNat x17) 3) b3_5 (cond (Nat.beq (Int.toNat x17) 4) b3_6 (cond (Nat.beq (Int.toNat x17) 5) b3_7 b3_8)))))) == 0))
       (some ⟨none, ⟨[], []⟩, [(.v (.bool false))]⟩)
       (cond ((leI 0 x17) && (ltI x17 7))
         (cond ((leI 0 x17) && (ltI x17 7))
           (lp 9 1 0 ⟨[(2, (.lst x2n 1 x2)), (7, (.ptr 0 0 0)), (9, (.ptr 1 0 0)), (11, (.sl x11n 2 0 none)), (12, (.v (.int .i64 x12))), (13, (.v (.int .i64 x13))), (14, (.ptr 3 0 0)), (16, (.ptr 4 0 0)), (17, (.v (.int .i64 (IntKind.wrap .i64 (x17 + 1)))))], [⟨1, 41, 7, true, [[(.v (.int .u64 b0_0)), (.v (.int .u64 b0_1)), (.v (.int .u64 b0_2)), (.v (.int .u64 b0_3)), (.v (.int .u64 b0_4)), (.v (.int .u64 b0_5)), (.v (.int .u64 b0_6))]]⟩, ⟨1, 43, 9, true, [[(.v (.int .i64 b1_0)), (.v (.int .u64 b1_1)), (.v (.int .u64 b1_2)), (.v (.int .u64 b1_3)), (.v (.int .u64 b1_4)), (.v (.int .u64 b1_5)), (.v (.int .u64 b1_6)), (.v (.int .u64 b1_7)), (.v (.int .u64 b1_8))]]⟩, ⟨1, 28, 2, false, b2⟩, ⟨1, 43, 9, true, [[(.v (.int .i64 b3_0)), (.v (.int .u64 b3_1)), (.v (.int .u64 (cond (Nat.beq (Int.toNat x17) 0) (cond (Nat.beq (Int.toNat x17) 0) b0_0 (cond (Nat.beq (Int.toNat x17) 1) b0_1 (cond (Nat.beq (Int.toNat x17) 2) b0_2 (cond (Nat.beq (Int.toNat x17) 3) b0_3 (cond (Nat.beq (Int.toNat x17) 4) b0_4 (cond (Nat.beq (Int.toNat x17) 5) b0_5 b0_6)))))) b3_2))), (.v (.int .u64 (cond (Nat.beq (Int.toNat x17) 1) (cond (Nat.beq (Int.toNat x17) 0) b0_0 (cond (Nat.beq (Int.toNat x17) 1) b0_1 (cond (Nat.beq (Int.toNat x17) 2) b0_2 (cond (Nat.beq (Int.toNat x17) 3) b0_3 (cond (Nat.beq (Int.toNat x17) 4) b0_4 (cond (Nat.beq (Int.toNat x17) 5) b0_5 b0_6)))))) b3_3))), (.v (.int .u64 (cond (Nat.beq (Int.toNat x17) 2) (cond (Nat.beq (Int.toNat x17) 0) b0_0 (cond (Nat.beq (Int.toNat x17) 1) b0_1 (cond (Nat.beq (Int.toNat x17) 2) b0_2 (cond (Nat.beq (Int.toNat x17) 3) b0_3 (cond (Nat.beq (Int.toNat x17) 4) b0_4 (cond (Nat.beq (Int.toNat x17) 5) b0_5 b0_6)))))) b3_4))), (.v (.int .u64 (cond (Nat.beq (Int.toNat x17) 3) (cond (Nat.beq (Int.toNat x17) 0) b0_0 (cond (Nat.beq (Int.toNat x17) 1) b0_1 (cond (Nat.beq (Int.toNat x17) 2) b0_2 (cond (Nat.beq (Int.toNat x17) 3) b0_3 (cond (Nat.beq (Int.toNat x17) 4) b0_4 (cond (Nat.beq (Int.toNat x17) 5) b0_5 b0_6)))))) b3_5))), (.v (.int .u64 (cond (Nat.beq (Int.toNat x17) 4) (cond (Nat.beq (Int.toNat x17) 0) b0_0 (cond (Nat.beq (Int.toNat x17) 1) b0_1 (cond (Nat.beq (Int.toNat x17) 2) b0_2 (cond (Nat.beq (Int.toNat x17) 3) b0_3 (cond (Nat.beq (Int.toNat x17) 4) b0_4 (cond (Nat.beq (Int.toNat x17) 5) b0_5 b0_6)))))) b3_6))), (.v (.int .u64 (cond (Nat.beq (Int.toNat x17) 5) (cond (Nat.beq (Int.toNat x17) 0) b0_0 (cond (Nat.beq (Int.toNat x17) 1) b0_1 (cond (Nat.beq (Int.toNat x17) 2) b0_2 (cond (Nat.beq (Int.toNat x17) 3) b0_3 (cond (Nat.beq (Int.toNat x17) 4) b0_4 (cond (Nat.beq (Int.toNat x17) 5) b0_5 b0_6)))))) b3_7))), (.v (.int .u64 (cond (Nat.beq (Int.toNat x17) 6) (cond (Nat.beq (Int.toNat x17) 0) b0_0 (cond (Nat.beq (Int.toNat x17) 1) b0_1 (cond (Nat.beq (Int.toNat x17) 2) b0_2 (cond (Nat.beq (Int.toNat x17) 3) b0_3 (cond (Nat.beq (Int.toNat x17) 4) b0_4 (cond (Nat.beq (Int.toNat x17) 5) b0_5 b0_6)))))) b3_8)))]]⟩, ⟨1, 28, 2, true, [[(.v (.int .i64 b4_0)), (.v (.int .i64 b4_1))]]⟩]⟩)
           (none))
         (none)))
     (none))
   (some ⟨(some 2), ⟨[(2, (.lst x2n 1 x2)), (7, (.ptr 0 0 0)), (9, (.ptr 1 0 0)), (11, (.sl x11n 2 0 none)), (12, (.v (.int .i64 x12))), (13, (.v (.int .i64 x13))), (14, (.ptr 3 0 0)), (16, (.ptr 4 0 0))], [⟨1, 41, 7, true, [[(.v (.int .u64 b0_0)), (.v (.int .u64 b0_1)), (.v (.int .u64 b0_2)), (.v (.int .u64 b0_3)), (.v (.int .u64 b0_4)), (.v (.int .u64 b0_5)), (.v (.int .u64 b0_6))]]⟩, ⟨1, 43, 9, true, [[(.v (.int .i64 b1_0)), (.v (.int .u64 b1_1)), (.v (.int .u64 b1_2)), (.v (.int .u64 b1_3)), (.v (.int .u64 b1_4)), (.v (.int .u64 b1_5)), (.v (.int .u64 b1_6)), (.v (.int .u64 b1_7)), (.v (.int .u64 b1_8))]]⟩, ⟨1, 28, 2, false, b2⟩, ⟨1, 43, 9, true, [[(.v (.int .i64 b3_0)), (.v (.int .u64 b3_1)), (.v (.int .u64 b3_2)), (.v (.int .u64 b3_3)), (.v (.int .u64 b3_4)), (.v (.int .u64 b3_5)), (.v (.int .u64 b3_6)), (.v (.int .u64 b3_7)), (.v (.int .u64 b3_8))]]⟩, ⟨1, 28, 2, true, [[(.v (.int .i64 b4_0)), (.v (.int .i64 b4_1))]]⟩]⟩, []⟩) := (lp_eq _ _ _ _).trans (by kernel_rfl)
theorem lp9_2 (x2n : Bool) (x2 : List (List AV)) (x11n : Bool) (x12 : Int) (x13 : Int) (x21 : Int) (b0_0 : Int) (b0_1 : Int) (b0_2 : Int) (b0_3 : Int) (b0_4 : Int) (b0_5 : Int) (b0_6 : Int) (b1_0 : Int) (b1_1 : Int) (b1_2 : Int) (b1_3 : Int) (b1_4 : Int) (b1_5 : Int) (b1_6 : Int) (b1_7 : Int) (b1_8 : Int) (b2 : List (List AV)) (b3_0 : Int) (b3_1 : Int) (b3_2 : Int) (b3_3 : Int) (b3_4 : Int) (b3_5 : Int) (b3_6 : Int) (b3_7 : Int) (b3_8 : Int) (b4_0 : Int) (b4_1 : Int) : lp 9 2 0 ⟨[(2, (.lst x2n 1 x2)), (7, (.ptr 0 0 0)), (9, (.ptr 1 0 0)), (11, (.sl x11n 2 0 none)), (12, (.v (.int .i64 x12))), (13, (.v (.int .i64 x13))), (14, (.ptr 3 0 0)), (16, (.ptr 4 0 0)), (21, (.v (.int .i64 x21)))], [⟨1, 41, 7, true, [[(.v (.int .u64 b0_0)), (.v (.int .u64 b0_1)), (.v (.int .u64 b0_2)), (.v (.int .u64 b0_3)), (.v (.int .u64 b0_4)), (.v (.int .u64 b0_5)), (.v (.int .u64 b0_6))]]⟩, ⟨1, 43, 9, true, [[(.v (.int .i64 b1_0)), (.v (.int .u64 b1_1)), (.v (.int .u64 b1_2)), (.v (.int .u64 b1_3)), (.v (.int .u64 b1_4)), (.v (.int .u64 b1_5)), (.v (.int .u64 b1_6)), (.v (.int .u64 b1_7)), (.v (.int .u64 b1_8))]]⟩, ⟨1, 28, 2, false, b2⟩, ⟨1, 43, 9, true, [[(.v (.int .i64 b3_0)), (.v (.int .u64 b3_1)), (.v (.int .u64 b3_2)), (.v (.int .u64 b3_3)), (.v (.int .u64 b3_4)), (.v (.int .u64 b3_5)), (.v (.int .u64 b3_6)), (.v (.int .u64 b3_7)), (.v (.int .u64 b3_8))]]⟩, ⟨1, 28, 2, true, [[(.v (.int .i64 b4_0)), (.v (.int .i64 b4_1))]]⟩]⟩ =
  cond (ltI x21 ((((List.length b2) - 0) : Nat) : Int))
   (cond ((leI 0 x21) && (ltI x21 ((((List.length b2) - 0) : Nat) : Int)))
     (cond ((ltN (0 + (Int.toNat x21)) (List.length b2)) && ((isI .i64 (cellAt (lget b2 (0 + (Int.toNat x21))) 0)) && (isI .i64 (cellAt (lget b2 (0 + (Int.toNat x21))) 1))))
       ((ev 39 [(.lst false 9 [[(.v (.int .i64 b3_0)), (.v (.int .u64 b3_1)), (.v (.int .u64 b3_2)), (.v (.int .u64 b3_3)), (.v (.int .u64 b3_4)), (.v (.int .u64 b3_5)), (.v (.int .u64 b3_6)), (.v (.int .u64 b3_7)), (.v (.int .u64 b3_8))]]), (.agg [(.v (.int .i64 (avInt (cellAt (lget b2 (0 + (Int.toNat x21))) 0)))), (.v (.int .i64 (avInt (cellAt (lget b2 (0 + (Int.toNat x21))) 1))))]), (.v (.int .i64 x13))]).bind fun r170 =>
        cond ((Ev.isAgg 9 (cellAt r170 0)) && ((isI .i64 (cellAt (obCells (cellAt r170 0)) 0)) && ((isI .u64 (cellAt (obCells (cellAt r170 0)) 1)) && ((isI .u64 (cellAt (obCells (cellAt r170 0)) 2)) && ((isI .u64 (cellAt (obCells (cellAt r170 0)) 3)) && ((isI .u64 (cellAt (obCells (cellAt r170 0)) 4)) && ((isI .u64 (cellAt (obCells (cellAt r170 0)) 5)) && ((isI .u64 (cellAt (obCells (cellAt r170 0)) 6)) && ((isI .u64 (cellAt (obCells (cellAt r170 0)) 7)) && (isI .u64 (cellAt (obCells (cellAt r170 0)) 8)))))))))))
         (cond (isB (cellAt r170 1))
           (cond (isI .i64 (cellAt r170 2))
             (cond (avBool (cellAt r170 1))
               (some ⟨none, ⟨[], []⟩, [(.v (.bool false))]⟩)
               (cond (!((avInt (cellAt r170 2)) == 11))
                 (some ⟨none, ⟨[], []⟩, [(.v (.bool false))]⟩)
                 (cond ((leI 0 x21) && (ltI x21 ((((List.length b2) - 0) : Nat) : Int)))
                   (cond ((ltN (0 + (Int.toNat x21)) (List.length b2)) && ((isI .i64 (cellAt (lget b2 (0 + (Int.toNat x21))) 0)) && (isI .i64 (cellAt (lget b2 (0 + (Int.toNat x21))) 1))))
                     (cond (((avInt (cellAt (lget b2 (0 + (Int.toNat x21))) 0)) == b4_0) && ((avInt (cellAt (lget b2 (0 + (Int.toNat x21))) 1)) == b4_1))
                       (some ⟨none, ⟨[], []⟩, [(.v (.bool false))]⟩)
                       (lp 9 2 0 ⟨[(2, (.lst x2n 1 x2)), (7, (.ptr 0 0 0)), (9, (.ptr 1 0 0)), (11, (.sl x11n 2 0 none)), (12, (.v (.int .i64 x12))), (13, (.v (.int .i64 x13))), (14, (.ptr 3 0 0)), (16, (.ptr 4 0 0)), (21, (.v (.int .i64 (IntKind.wrap .i64 (x21 + 1)))))], [⟨1, 41, 7, true, [[(.v (.int .u64 b0_0)), (.v (.int .u64 b0_1)), (.v (.int .u64 b0_2)), (.v (.int .u64 b0_3)), (.v (.int .u64 b0_4)), (.v (.int .u64 b0_5)), (.v (.int .u64 b0_6))]]⟩, ⟨1, 43, 9, true, [[(.v (.int .i64 b1_0)), (.v (.int .u64 b1_1)), (.v (.int .u64 b1_2)), (.v (.int .u64 b1_3)), (.v (.int .u64 b1_4)), (.v (.int .u64 b1_5)), (.v (.int .u64 b1_6)), (.v (.int .u64 b1_7)), (.v (.int .u64 b1_8))]]⟩, ⟨1, 28, 2, false, b2⟩, ⟨1, 43, 9, true, [[(.v (.int .i64 b3_0)), (.v (.int .u64 b3_1)), (.v (.int .u64 b3_2)), (.v (.int .u64 b3_3)), (.v (.int .u64 b3_4)), (.v (.int .u64 b3_5)), (.v (.int .u64 b3_6)), (.v (.int .u64 b3_7)), (.v (.int .u64 b3_8))]]⟩, ⟨1, 28, 2, true, [[(.v (.int .i64 b4_0)), (.v (.int .i64 b4_1))]]⟩]⟩))
                     (none))
                   (none))))
             (none))
           (none))
         (none))
       (none))
     (none))
   (some ⟨(some 4), ⟨[(2, (.lst x2n 1 x2)), (7, (.ptr 0 0 0)), (9, (.ptr 1 0 0)), (11, (.sl x11n 2 0 none)), (12, (.v (.int .i64 x12))), (13, (.v (.int .i64 x13))), (14, (.ptr 3 0 0)), (16, (.ptr 4 0 0))], [⟨1, 41, 7, true, [[(.v (.int .u64 b0_0)), (.v (.int .u64 b0_1)), (.v (.int .u64 b0_2)), (.v (.int .u64 b0_3)), (.v (.int .u64 b0_4)), (.v (.int .u64 b0_5)), (.v (.int .u64 b0_6))]]⟩, ⟨1, 43, 9, true, [[(.v (.int .i64 b1_0)), (.v (.int .u64 b1_1)), (.v (.int .u64 b1_2)), (.v (.int .u64 b1_3)), (.v (.int .u64 b1_4)), (.v (.int .u64 b1_5)), (.v (.int .u64 b1_6)), (.v (.int .u64 b1_7)), (.v (.int .u64 b1_8))]]⟩, ⟨1, 28, 2, false, b2⟩, ⟨1, 43, 9, true, [[(.v (.int .i64 b3_0)), (.v (.int .u64 b3_1)), (.v (.int .u64 b3_2)), (.v (.int .u64 b3_3)), (.v (.int .u64 b3_4)), (.v (.int .u64 b3_5)), (.v (.int .u64 b3_6)), (.v (.int .u64 b3_7)), (.v (.int .u64 b3_8))]]⟩, ⟨1, 28, 2, true, [[(.v (.int .i64 b4_0)), (.v (.int .i64 b4_1))]]⟩]⟩, []⟩) := (lp_eq _ _ _ _).trans (by kernel_rfl)
-- "bodega/pointer.Unpack"
theorem ev12 (a0_0 : Int) : ev 12 [(.v (.int .u32 a0_0))] =
  some [(.agg [(.v (.int .i64 (IntKind.wrap .i64 (bits .and .u32 a0_0 255)))), (.v (.int .i64 (IntKind.wrap .i64 (Int.fdiv a0_0 256))))])] := (ev_eq _ _).trans (by kernel_rfl)
-- "bodega/pointer.UnpackTag"
theorem ev13 (a0_0 : Int) : ev 13 [(.v (.int .u64 a0_0))] =
  some [(.agg [(.v (.int .i64 (IntKind.wrap .i64 (bits .and .u64 a0_0 255)))), (.v (.int .i64 (IntKind.wrap .i64 (bits .and .u64 (Int.fdiv a0_0 256) 16777215)))), (.v (.int .u32 (IntKind.wrap .u32 (Int.fdiv a0_0 4294967296))))])] := (ev_eq _ _).trans (by kernel_rfl)
-- "bodega/pointer.PackTag"
theorem ev14 (a0_0 : Int) (a0_1 : Int) (a0_2 : Int) : ev 14 [(.agg [(.v (.int .i64 a0_0)), (.v (.int .i64 a0_1)), (.v (.int .u32 a0_2))])] =
  some [(.v (.int .u64 (bits .or .u64 (bits .or .u64 (bits .and .u64 (IntKind.wrap .u64 a0_0) 255) (IntKind.wrap .u64 ((bits .and .u64 (IntKind.wrap .u64 a0_1) 16777215) * 256))) (IntKind.wrap .u64 ((IntKind.wrap .u64 a0_2) * 4294967296)))))] := (ev_eq _ _).trans (by kernel_rfl)
-- "bodega/bodegalaw19.awake"
theorem ev15  : ev 15 [] =
  (ev 14 [(.agg [(.v (.int .i64 0)), (.v (.int .i64 3)), (.v (.int .u32 0))])]).bind fun r0 =>
  cond (isI .u64 (cellAt r0 0))
   ((ev 31 [(.agg [(.v (.int .i64 110)), (.v (.int .u64 256)), (.v (.int .u64 (avInt (cellAt r0 0)))), (.v (.int .u64 0)), (.v (.int .u64 0)), (.v (.int .u64 0)), (.v (.int .u64 0)), (.v (.int .u64 0)), (.v (.int .u64 0))]), (.v (.int .i64 1)), (.v (.int .u32 0))]).bind fun r2 =>
    cond ((Ev.isAgg 9 (cellAt r2 0)) && ((isI .i64 (cellAt (obCells (cellAt r2 0)) 0)) && ((isI .u64 (cellAt (obCells (cellAt r2 0)) 1)) && ((isI .u64 (cellAt (obCells (cellAt r2 0)) 2)) && ((isI .u64 (cellAt (obCells (cellAt r2 0)) 3)) && ((isI .u64 (cellAt (obCells (cellAt r2 0)) 4)) && ((isI .u64 (cellAt (obCells (cellAt r2 0)) 5)) && ((isI .u64 (cellAt (obCells (cellAt r2 0)) 6)) && ((isI .u64 (cellAt (obCells (cellAt r2 0)) 7)) && (isI .u64 (cellAt (obCells (cellAt r2 0)) 8)))))))))))
     (cond (isI .i64 (cellAt r2 1))
       (cond ((avInt (cellAt r2 1)) == 0)
         ((ev 21 [(.agg [(.v (.int .i64 (avInt (cellAt (obCells (cellAt r2 0)) 0)))), (.v (.int .u64 (avInt (cellAt (obCells (cellAt r2 0)) 1)))), (.v (.int .u64 (avInt (cellAt (obCells (cellAt r2 0)) 2)))), (.v (.int .u64 (avInt (cellAt (obCells (cellAt r2 0)) 3)))), (.v (.int .u64 (avInt (cellAt (obCells (cellAt r2 0)) 4)))), (.v (.int .u64 (avInt (cellAt (obCells (cellAt r2 0)) 5)))), (.v (.int .u64 (avInt (cellAt (obCells (cellAt r2 0)) 6)))), (.v (.int .u64 (avInt (cellAt (obCells (cellAt r2 0)) 7)))), (.v (.int .u64 (avInt (cellAt (obCells (cellAt r2 0)) 8))))])]).bind fun r14 =>
          cond ((Ev.isAgg 2 (cellAt r14 0)) && ((isI .i64 (cellAt (obCells (cellAt r14 0)) 0)) && (isI .i64 (cellAt (obCells (cellAt r14 0)) 1))))
           ((ev 19 [(.agg [(.v (.int .i64 (avInt (cellAt (obCells (cellAt r14 0)) 0)))), (.v (.int .i64 (avInt (cellAt (obCells (cellAt r14 0)) 1))))])]).bind fun r17 =>
            cond (isI .u32 (cellAt r17 0))
             (some [(.v (.bool ((avInt (cellAt r17 0)) == 1134)))])
             (none))
           (none))
         (some [(.v (.bool false))]))
       (none))
     (none))
   (none) := (ev_eq _ _).trans (by kernel_rfl)
-- "bodega/pointer.Valid"
theorem ev16 (a0_0 : Int) (a0_1 : Int) : ev 16 [(.agg [(.v (.int .i64 a0_0)), (.v (.int .i64 a0_1))])] =
  (ev 40 [(.v (.int .i64 a0_0))]).bind fun r0 =>
  cond (isB (cellAt r0 0))
   (cond (avBool (cellAt r0 0))
     (cond (leI 1 a0_1)
       (some [(.v (.bool (leI a0_1 16777215)))])
       (some [(.v (.bool false))]))
     (some [(.v (.bool false))]))
   (none) := (ev_eq _ _).trans (by kernel_rfl)
-- "bodega/pointer.Pack"
theorem ev19 (a0_0 : Int) (a0_1 : Int) : ev 19 [(.agg [(.v (.int .i64 a0_0)), (.v (.int .i64 a0_1))])] =
  (ev 16 [(.agg [(.v (.int .i64 a0_0)), (.v (.int .i64 a0_1))])]).bind fun r0 =>
  cond (isB (cellAt r0 0))
   (cond (!(avBool (cellAt r0 0)))
     (some [(.v (.int .u32 0))])
     (some [(.v (.int .u32 (bits .or .u32 (IntKind.wrap .u32 ((IntKind.wrap .u32 a0_1) * 256)) (IntKind.wrap .u32 a0_0))))]))
   (none) := (ev_eq _ _).trans (by kernel_rfl)
-- "bodega/pointer.At"
theorem ev21 (a0_0 : Int) (a0_1 : Int) (a0_2 : Int) (a0_3 : Int) (a0_4 : Int) (a0_5 : Int) (a0_6 : Int) (a0_7 : Int) (a0_8 : Int) : ev 21 [(.agg [(.v (.int .i64 a0_0)), (.v (.int .u64 a0_1)), (.v (.int .u64 a0_2)), (.v (.int .u64 a0_3)), (.v (.int .u64 a0_4)), (.v (.int .u64 a0_5)), (.v (.int .u64 a0_6)), (.v (.int .u64 a0_7)), (.v (.int .u64 a0_8))])] =
  (ev 42 [(.agg [(.v (.int .i64 a0_0)), (.v (.int .u64 a0_1)), (.v (.int .u64 a0_2)), (.v (.int .u64 a0_3)), (.v (.int .u64 a0_4)), (.v (.int .u64 a0_5)), (.v (.int .u64 a0_6)), (.v (.int .u64 a0_7)), (.v (.int .u64 a0_8))])]).bind fun r0 =>
  cond ((Ev.isAgg 3 (cellAt r0 0)) && ((isI .i64 (cellAt (obCells (cellAt r0 0)) 0)) && ((isI .i64 (cellAt (obCells (cellAt r0 0)) 1)) && (isI .u32 (cellAt (obCells (cellAt r0 0)) 2)))))
   (some [(.agg [(.v (.int .i64 a0_0)), (.v (.int .i64 (avInt (cellAt (obCells (cellAt r0 0)) 1))))])])
   (none) := (ev_eq _ _).trans (by kernel_rfl)
-- "bodega/pointer.Locked"
theorem ev23 (a0_0 : Int) (a0_1 : Int) (a0_2 : Int) (a0_3 : Int) (a0_4 : Int) (a0_5 : Int) (a0_6 : Int) (a0_7 : Int) (a0_8 : Int) : ev 23 [(.agg [(.v (.int .i64 a0_0)), (.v (.int .u64 a0_1)), (.v (.int .u64 a0_2)), (.v (.int .u64 a0_3)), (.v (.int .u64 a0_4)), (.v (.int .u64 a0_5)), (.v (.int .u64 a0_6)), (.v (.int .u64 a0_7)), (.v (.int .u64 a0_8))])] =
  some [(.v (.bool (!((bits .and .u64 a0_1 255) == 0))))] := (ev_eq _ _).trans (by kernel_rfl)
-- "bodega/pointer.Latest"
theorem ev28 (a0_0n : Bool) (a0_0 : List (List AV)) (a1_0 : Int) : ev 28 [(.lst a0_0n 9 a0_0), (.v (.int .i64 a1_0))] =
  (lp 28 0 0 ⟨[(0, (.lst a0_0n 9 a0_0)), (1, (.v (.int .i64 a1_0))), (4, (.ptr 0 0 0)), (6, (.v (.int .i64 (IntKind.wrap .i64 ((((List.length a0_0) : Nat) : Int) - 1)))))], [⟨1, 43, 9, true, [[(.v (.int .i64 0)), (.v (.int .u64 0)), (.v (.int .u64 0)), (.v (.int .u64 0)), (.v (.int .u64 0)), (.v (.int .u64 0)), (.v (.int .u64 0)), (.v (.int .u64 0)), (.v (.int .u64 0))]]⟩]⟩).bind fun r2 =>
  cond (isEx 0 r2)
   (cond (likeStG ⟨[(4, (.ptr 0 0 0))], [⟨1, 43, 9, true, [[(.v (.int .i64 0)), (.v (.int .u64 0)), (.v (.int .u64 0)), (.v (.int .u64 0)), (.v (.int .u64 0)), (.v (.int .u64 0)), (.v (.int .u64 0)), (.v (.int .u64 0)), (.v (.int .u64 0))]]⟩]⟩ r2.st)
     (some [(.agg [(.v (.int .i64 0)), (.v (.int .u64 0)), (.v (.int .u64 0)), (.v (.int .u64 0)), (.v (.int .u64 0)), (.v (.int .u64 0)), (.v (.int .u64 0)), (.v (.int .u64 0)), (.v (.int .u64 0))]), (.v (.bool false))])
     (none))
   (cond (isRt r2)
     (some r2.outs)
     (none)) := (ev_eq _ _).trans (by kernel_rfl)
theorem lp28_0 (x0n : Bool) (x0 : List (List AV)) (x1 : Int) (x6 : Int) (b0_0 : Int) (b0_1 : Int) (b0_2 : Int) (b0_3 : Int) (b0_4 : Int) (b0_5 : Int) (b0_6 : Int) (b0_7 : Int) (b0_8 : Int) : lp 28 0 0 ⟨[(0, (.lst x0n 9 x0)), (1, (.v (.int .i64 x1))), (4, (.ptr 0 0 0)), (6, (.v (.int .i64 x6)))], [⟨1, 43, 9, true, [[(.v (.int .i64 b0_0)), (.v (.int .u64 b0_1)), (.v (.int .u64 b0_2)), (.v (.int .u64 b0_3)), (.v (.int .u64 b0_4)), (.v (.int .u64 b0_5)), (.v (.int .u64 b0_6)), (.v (.int .u64 b0_7)), (.v (.int .u64 b0_8))]]⟩]⟩ =
  cond (leI 0 x6)
   (cond ((leI 0 x6) && (ltI x6 (((List.length x0) : Nat) : Int)))
     (cond (isI .i64 (cellAt (lget x0 (Int.toNat x6)) 0))
       (cond ((avInt (cellAt (lget x0 (Int.toNat x6)) 0)) == x1)
         (cond ((leI 0 x6) && (ltI x6 (((List.length x0) : Nat) : Int)))
           (cond ((isI .i64 (cellAt (lget x0 (Int.toNat x6)) 0)) && ((isI .u64 (cellAt (lget x0 (Int.toNat x6)) 1)) && ((isI .u64 (cellAt (lget x0 (Int.toNat x6)) 2)) && ((isI .u64 (cellAt (lget x0 (Int.toNat x6)) 3)) && ((isI .u64 (cellAt (lget x0 (Int.toNat x6)) 4)) && ((isI .u64 (cellAt (lget x0 (Int.toNat x6)) 5)) && ((isI .u64 (cellAt (lget x0 (Int.toNat x6)) 6)) && ((isI .u64 (cellAt (lget x0 (Int.toNat x6)) 7)) && (isI .u64 (cellAt (lget x0 (Int.toNat x6)) 8))))))))))
             (some ⟨none, ⟨[], []⟩, [(.agg [(.v (.int .i64 (avInt (cellAt (lget x0 (Int.toNat x6)) 0)))), (.v (.int .u64 (avInt (cellAt (lget x0 (Int.toNat x6)) 1)))), (.v (.int .u64 (avInt (cellAt (lget x0 (Int.toNat x6)) 2)))), (.v (.int .u64 (avInt (cellAt (lget x0 (Int.toNat x6)) 3)))), (.v (.int .u64 (avInt (cellAt (lget x0 (Int.toNat x6)) 4)))), (.v (.int .u64 (avInt (cellAt (lget x0 (Int.toNat x6)) 5)))), (.v (.int .u64 (avInt (cellAt (lget x0 (Int.toNat x6)) 6)))), (.v (.int .u64 (avInt (cellAt (lget x0 (Int.toNat x6)) 7)))), (.v (.int .u64 (avInt (cellAt (lget x0 (Int.toNat x6)) 8))))]), (.v (.bool true))]⟩)
             (none))
           (none))
         (lp 28 0 0 ⟨[(0, (.lst x0n 9 x0)), (1, (.v (.int .i64 x1))), (4, (.ptr 0 0 0)), (6, (.v (.int .i64 (IntKind.wrap .i64 (x6 - 1)))))], [⟨1, 43, 9, true, [[(.v (.int .i64 b0_0)), (.v (.int .u64 b0_1)), (.v (.int .u64 b0_2)), (.v (.int .u64 b0_3)), (.v (.int .u64 b0_4)), (.v (.int .u64 b0_5)), (.v (.int .u64 b0_6)), (.v (.int .u64 b0_7)), (.v (.int .u64 b0_8))]]⟩]⟩))
       (none))
     (none))
   (some ⟨(some 0), ⟨[(4, (.ptr 0 0 0))], [⟨1, 43, 9, true, [[(.v (.int .i64 b0_0)), (.v (.int .u64 b0_1)), (.v (.int .u64 b0_2)), (.v (.int .u64 b0_3)), (.v (.int .u64 b0_4)), (.v (.int .u64 b0_5)), (.v (.int .u64 b0_6)), (.v (.int .u64 b0_7)), (.v (.int .u64 b0_8))]]⟩]⟩, []⟩) := (lp_eq _ _ _ _).trans (by kernel_rfl)
-- "bodega/bodegalaw19.same"
theorem ev29 (a0_0 : Int) (a0_1 : Int) (a0_2 : Int) (a0_3 : Int) (a0_4 : Int) (a0_5 : Int) (a0_6 : Int) (a0_7 : Int) (a0_8 : Int) (a1_0 : Int) (a1_1 : Int) (a1_2 : Int) (a1_3 : Int) (a1_4 : Int) (a1_5 : Int) (a1_6 : Int) (a1_7 : Int) (a1_8 : Int) : ev 29 [(.agg [(.v (.int .i64 a0_0)), (.v (.int .u64 a0_1)), (.v (.int .u64 a0_2)), (.v (.int .u64 a0_3)), (.v (.int .u64 a0_4)), (.v (.int .u64 a0_5)), (.v (.int .u64 a0_6)), (.v (.int .u64 a0_7)), (.v (.int .u64 a0_8))]), (.agg [(.v (.int .i64 a1_0)), (.v (.int .u64 a1_1)), (.v (.int .u64 a1_2)), (.v (.int .u64 a1_3)), (.v (.int .u64 a1_4)), (.v (.int .u64 a1_5)), (.v (.int .u64 a1_6)), (.v (.int .u64 a1_7)), (.v (.int .u64 a1_8))])] =
  cond (a0_0 == a1_0)
   (cond (a0_1 == a1_1)
     (some [(.v (.bool ((a0_2 == a1_2) && ((a0_3 == a1_3) && ((a0_4 == a1_4) && ((a0_5 == a1_5) && ((a0_6 == a1_6) && ((a0_7 == a1_7) && (a0_8 == a1_8)))))))))])
     (some [(.v (.bool false))]))
   (some [(.v (.bool false))]) := (ev_eq _ _).trans (by kernel_rfl)
-- "bodega/bodegahand.Pick"
theorem ev30 (a0_0 : Int) (a1_0 : Int) : ev 30 [(.v (.int .i64 a0_0)), (.v (.int .i64 a1_0))] =
  cond (ltI a1_0 1)
   (some [(.v (.int .i64 0))])
   (cond (eqI a1_0 0)
     (none)
     (cond (eqI a1_0 0)
       (none)
       (some [(.v (.int .i64 (Int.tmod (IntKind.wrap .i64 ((Int.tmod a0_0 a1_0) + a1_0)) a1_0)))]))) := (ev_eq _ _).trans (by kernel_rfl)
-- "bodega/pointer.Allocate"
theorem ev31 (a0_0 : Int) (a0_1 : Int) (a0_2 : Int) (a0_3 : Int) (a0_4 : Int) (a0_5 : Int) (a0_6 : Int) (a0_7 : Int) (a0_8 : Int) (a1_0 : Int) (a2_0 : Int) : ev 31 [(.agg [(.v (.int .i64 a0_0)), (.v (.int .u64 a0_1)), (.v (.int .u64 a0_2)), (.v (.int .u64 a0_3)), (.v (.int .u64 a0_4)), (.v (.int .u64 a0_5)), (.v (.int .u64 a0_6)), (.v (.int .u64 a0_7)), (.v (.int .u64 a0_8))]), (.v (.int .i64 a1_0)), (.v (.int .u32 a2_0))] =
  (ev 42 [(.agg [(.v (.int .i64 a0_0)), (.v (.int .u64 a0_1)), (.v (.int .u64 a0_2)), (.v (.int .u64 a0_3)), (.v (.int .u64 a0_4)), (.v (.int .u64 a0_5)), (.v (.int .u64 a0_6)), (.v (.int .u64 a0_7)), (.v (.int .u64 a0_8))])]).bind fun r0 =>
  cond ((Ev.isAgg 3 (cellAt r0 0)) && ((isI .i64 (cellAt (obCells (cellAt r0 0)) 0)) && ((isI .i64 (cellAt (obCells (cellAt r0 0)) 1)) && (isI .u32 (cellAt (obCells (cellAt r0 0)) 2)))))
   ((ev 40 [(.v (.int .i64 a0_0))]).bind fun r4 =>
    cond (isB (cellAt r4 0))
     (cond (!(avBool (cellAt r4 0)))
       (some [(.agg [(.v (.int .i64 0)), (.v (.int .u64 0)), (.v (.int .u64 0)), (.v (.int .u64 0)), (.v (.int .u64 0)), (.v (.int .u64 0)), (.v (.int .u64 0)), (.v (.int .u64 0)), (.v (.int .u64 0))]), (.v (.int .i64 1))])
       (cond (ltI a1_0 1)
         (some [(.agg [(.v (.int .i64 0)), (.v (.int .u64 0)), (.v (.int .u64 0)), (.v (.int .u64 0)), (.v (.int .u64 0)), (.v (.int .u64 0)), (.v (.int .u64 0)), (.v (.int .u64 0)), (.v (.int .u64 0))]), (.v (.int .i64 1))])
         (cond (ltI 4 a1_0)
           (some [(.agg [(.v (.int .i64 0)), (.v (.int .u64 0)), (.v (.int .u64 0)), (.v (.int .u64 0)), (.v (.int .u64 0)), (.v (.int .u64 0)), (.v (.int .u64 0)), (.v (.int .u64 0)), (.v (.int .u64 0))]), (.v (.int .i64 1))])
           ((ev 23 [(.agg [(.v (.int .i64 a0_0)), (.v (.int .u64 a0_1)), (.v (.int .u64 a0_2)), (.v (.int .u64 a0_3)), (.v (.int .u64 a0_4)), (.v (.int .u64 a0_5)), (.v (.int .u64 a0_6)), (.v (.int .u64 a0_7)), (.v (.int .u64 a0_8))])]).bind fun r9 =>
            cond (isB (cellAt r9 0))
             (cond (avBool (cellAt r9 0))
               (some [(.agg [(.v (.int .i64 0)), (.v (.int .u64 0)), (.v (.int .u64 0)), (.v (.int .u64 0)), (.v (.int .u64 0)), (.v (.int .u64 0)), (.v (.int .u64 0)), (.v (.int .u64 0)), (.v (.int .u64 0))]), (.v (.int .i64 3))])
               (cond (!((avInt (cellAt (obCells (cellAt r0 0)) 0)) == 0))
                 (some [(.agg [(.v (.int .i64 0)), (.v (.int .u64 0)), (.v (.int .u64 0)), (.v (.int .u64 0)), (.v (.int .u64 0)), (.v (.int .u64 0)), (.v (.int .u64 0)), (.v (.int .u64 0)), (.v (.int .u64 0))]), (.v (.int .i64 17))])
                 (cond ((avInt (cellAt (obCells (cellAt r0 0)) 1)) == 16777215)
                   (some [(.agg [(.v (.int .i64 0)), (.v (.int .u64 0)), (.v (.int .u64 0)), (.v (.int .u64 0)), (.v (.int .u64 0)), (.v (.int .u64 0)), (.v (.int .u64 0)), (.v (.int .u64 0)), (.v (.int .u64 0))]), (.v (.int .i64 18))])
                   ((ev 43 [(.agg [(.v (.int .i64 a0_0)), (.v (.int .u64 a0_1)), (.v (.int .u64 a0_2)), (.v (.int .u64 a0_3)), (.v (.int .u64 a0_4)), (.v (.int .u64 a0_5)), (.v (.int .u64 a0_6)), (.v (.int .u64 a0_7)), (.v (.int .u64 a0_8))]), (.agg [(.v (.int .i64 a1_0)), (.v (.int .i64 (IntKind.wrap .i64 ((avInt (cellAt (obCells (cellAt r0 0)) 1)) + 1)))), (.v (.int .u32 a2_0))])]).bind fun r14 =>
                    cond ((Ev.isAgg 9 (cellAt r14 0)) && ((isI .i64 (cellAt (obCells (cellAt r14 0)) 0)) && ((isI .u64 (cellAt (obCells (cellAt r14 0)) 1)) && ((isI .u64 (cellAt (obCells (cellAt r14 0)) 2)) && ((isI .u64 (cellAt (obCells (cellAt r14 0)) 3)) && ((isI .u64 (cellAt (obCells (cellAt r14 0)) 4)) && ((isI .u64 (cellAt (obCells (cellAt r14 0)) 5)) && ((isI .u64 (cellAt (obCells (cellAt r14 0)) 6)) && ((isI .u64 (cellAt (obCells (cellAt r14 0)) 7)) && (isI .u64 (cellAt (obCells (cellAt r14 0)) 8)))))))))))
                     (some [(.agg [(.v (.int .i64 (avInt (cellAt (obCells (cellAt r14 0)) 0)))), (.v (.int .u64 (avInt (cellAt (obCells (cellAt r14 0)) 1)))), (.v (.int .u64 (avInt (cellAt (obCells (cellAt r14 0)) 2)))), (.v (.int .u64 (avInt (cellAt (obCells (cellAt r14 0)) 3)))), (.v (.int .u64 (avInt (cellAt (obCells (cellAt r14 0)) 4)))), (.v (.int .u64 (avInt (cellAt (obCells (cellAt r14 0)) 5)))), (.v (.int .u64 (avInt (cellAt (obCells (cellAt r14 0)) 6)))), (.v (.int .u64 (avInt (cellAt (obCells (cellAt r14 0)) 7)))), (.v (.int .u64 (avInt (cellAt (obCells (cellAt r14 0)) 8))))]), (.v (.int .i64 0))])
                     (none)))))
             (none)))))
     (none))
   (none) := (ev_eq _ _).trans (by kernel_rfl)
-- "bodega/pointer.Release"
theorem ev33 (a0_0 : Int) (a0_1 : Int) (a0_2 : Int) (a0_3 : Int) (a0_4 : Int) (a0_5 : Int) (a0_6 : Int) (a0_7 : Int) (a0_8 : Int) : ev 33 [(.agg [(.v (.int .i64 a0_0)), (.v (.int .u64 a0_1)), (.v (.int .u64 a0_2)), (.v (.int .u64 a0_3)), (.v (.int .u64 a0_4)), (.v (.int .u64 a0_5)), (.v (.int .u64 a0_6)), (.v (.int .u64 a0_7)), (.v (.int .u64 a0_8))])] =
  (ev 42 [(.agg [(.v (.int .i64 a0_0)), (.v (.int .u64 a0_1)), (.v (.int .u64 a0_2)), (.v (.int .u64 a0_3)), (.v (.int .u64 a0_4)), (.v (.int .u64 a0_5)), (.v (.int .u64 a0_6)), (.v (.int .u64 a0_7)), (.v (.int .u64 a0_8))])]).bind fun r0 =>
  cond ((Ev.isAgg 3 (cellAt r0 0)) && ((isI .i64 (cellAt (obCells (cellAt r0 0)) 0)) && ((isI .i64 (cellAt (obCells (cellAt r0 0)) 1)) && (isI .u32 (cellAt (obCells (cellAt r0 0)) 2)))))
   ((ev 40 [(.v (.int .i64 a0_0))]).bind fun r4 =>
    cond (isB (cellAt r4 0))
     (cond (!(avBool (cellAt r4 0)))
       (some [(.agg [(.v (.int .i64 0)), (.v (.int .u64 0)), (.v (.int .u64 0)), (.v (.int .u64 0)), (.v (.int .u64 0)), (.v (.int .u64 0)), (.v (.int .u64 0)), (.v (.int .u64 0)), (.v (.int .u64 0))]), (.v (.int .i64 1))])
       ((ev 23 [(.agg [(.v (.int .i64 a0_0)), (.v (.int .u64 a0_1)), (.v (.int .u64 a0_2)), (.v (.int .u64 a0_3)), (.v (.int .u64 a0_4)), (.v (.int .u64 a0_5)), (.v (.int .u64 a0_6)), (.v (.int .u64 a0_7)), (.v (.int .u64 a0_8))])]).bind fun r7 =>
        cond (isB (cellAt r7 0))
         (cond (avBool (cellAt r7 0))
           (some [(.agg [(.v (.int .i64 0)), (.v (.int .u64 0)), (.v (.int .u64 0)), (.v (.int .u64 0)), (.v (.int .u64 0)), (.v (.int .u64 0)), (.v (.int .u64 0)), (.v (.int .u64 0)), (.v (.int .u64 0))]), (.v (.int .i64 3))])
           (cond ((avInt (cellAt (obCells (cellAt r0 0)) 0)) == 0)
             (some [(.agg [(.v (.int .i64 0)), (.v (.int .u64 0)), (.v (.int .u64 0)), (.v (.int .u64 0)), (.v (.int .u64 0)), (.v (.int .u64 0)), (.v (.int .u64 0)), (.v (.int .u64 0)), (.v (.int .u64 0))]), (.v (.int .i64 16))])
             ((ev 43 [(.agg [(.v (.int .i64 a0_0)), (.v (.int .u64 a0_1)), (.v (.int .u64 a0_2)), (.v (.int .u64 a0_3)), (.v (.int .u64 a0_4)), (.v (.int .u64 a0_5)), (.v (.int .u64 a0_6)), (.v (.int .u64 a0_7)), (.v (.int .u64 a0_8))]), (.agg [(.v (.int .i64 0)), (.v (.int .i64 (avInt (cellAt (obCells (cellAt r0 0)) 1)))), (.v (.int .u32 0))])]).bind fun r10 =>
              cond ((Ev.isAgg 9 (cellAt r10 0)) && ((isI .i64 (cellAt (obCells (cellAt r10 0)) 0)) && ((isI .u64 (cellAt (obCells (cellAt r10 0)) 1)) && ((isI .u64 (cellAt (obCells (cellAt r10 0)) 2)) && ((isI .u64 (cellAt (obCells (cellAt r10 0)) 3)) && ((isI .u64 (cellAt (obCells (cellAt r10 0)) 4)) && ((isI .u64 (cellAt (obCells (cellAt r10 0)) 5)) && ((isI .u64 (cellAt (obCells (cellAt r10 0)) 6)) && ((isI .u64 (cellAt (obCells (cellAt r10 0)) 7)) && (isI .u64 (cellAt (obCells (cellAt r10 0)) 8)))))))))))
               (some [(.agg [(.v (.int .i64 (avInt (cellAt (obCells (cellAt r10 0)) 0)))), (.v (.int .u64 (avInt (cellAt (obCells (cellAt r10 0)) 1)))), (.v (.int .u64 (avInt (cellAt (obCells (cellAt r10 0)) 2)))), (.v (.int .u64 (avInt (cellAt (obCells (cellAt r10 0)) 3)))), (.v (.int .u64 (avInt (cellAt (obCells (cellAt r10 0)) 4)))), (.v (.int .u64 (avInt (cellAt (obCells (cellAt r10 0)) 5)))), (.v (.int .u64 (avInt (cellAt (obCells (cellAt r10 0)) 6)))), (.v (.int .u64 (avInt (cellAt (obCells (cellAt r10 0)) 7)))), (.v (.int .u64 (avInt (cellAt (obCells (cellAt r10 0)) 8))))]), (.v (.int .i64 0))])
               (none))))
         (none)))
     (none))
   (none) := (ev_eq _ _).trans (by kernel_rfl)
-- "bodega/pointer.Peek"
theorem ev37 (a0_0n : Bool) (a0_0 : List (List AV)) (a1_0 : Int) (a1_1 : Int) (a2_0 : Int) : ev 37 [(.lst a0_0n 9 a0_0), (.agg [(.v (.int .i64 a1_0)), (.v (.int .i64 a1_1))]), (.v (.int .i64 a2_0))] =
  (ev 45 [(.lst a0_0n 9 a0_0), (.agg [(.v (.int .i64 a1_0)), (.v (.int .i64 a1_1))]), (.v (.int .i64 a2_0)), (.v (.bool false))]).bind fun r0 =>
  cond ((Ev.isAgg 9 (cellAt r0 0)) && ((isI .i64 (cellAt (obCells (cellAt r0 0)) 0)) && ((isI .u64 (cellAt (obCells (cellAt r0 0)) 1)) && ((isI .u64 (cellAt (obCells (cellAt r0 0)) 2)) && ((isI .u64 (cellAt (obCells (cellAt r0 0)) 3)) && ((isI .u64 (cellAt (obCells (cellAt r0 0)) 4)) && ((isI .u64 (cellAt (obCells (cellAt r0 0)) 5)) && ((isI .u64 (cellAt (obCells (cellAt r0 0)) 6)) && ((isI .u64 (cellAt (obCells (cellAt r0 0)) 7)) && (isI .u64 (cellAt (obCells (cellAt r0 0)) 8)))))))))))
   (cond (isB (cellAt r0 1))
     (cond (isI .i64 (cellAt r0 2))
       (some [(.agg [(.v (.int .i64 (avInt (cellAt (obCells (cellAt r0 0)) 0)))), (.v (.int .u64 (avInt (cellAt (obCells (cellAt r0 0)) 1)))), (.v (.int .u64 (avInt (cellAt (obCells (cellAt r0 0)) 2)))), (.v (.int .u64 (avInt (cellAt (obCells (cellAt r0 0)) 3)))), (.v (.int .u64 (avInt (cellAt (obCells (cellAt r0 0)) 4)))), (.v (.int .u64 (avInt (cellAt (obCells (cellAt r0 0)) 5)))), (.v (.int .u64 (avInt (cellAt (obCells (cellAt r0 0)) 6)))), (.v (.int .u64 (avInt (cellAt (obCells (cellAt r0 0)) 7)))), (.v (.int .u64 (avInt (cellAt (obCells (cellAt r0 0)) 8))))]), (.v (.bool (avBool (cellAt r0 1)))), (.v (.int .i64 (avInt (cellAt r0 2))))])
       (none))
     (none))
   (none) := (ev_eq _ _).trans (by kernel_rfl)
-- "bodega/pointer.Open"
theorem ev39 (a0_0n : Bool) (a0_0 : List (List AV)) (a1_0 : Int) (a1_1 : Int) (a2_0 : Int) : ev 39 [(.lst a0_0n 9 a0_0), (.agg [(.v (.int .i64 a1_0)), (.v (.int .i64 a1_1))]), (.v (.int .i64 a2_0))] =
  (ev 45 [(.lst a0_0n 9 a0_0), (.agg [(.v (.int .i64 a1_0)), (.v (.int .i64 a1_1))]), (.v (.int .i64 a2_0)), (.v (.bool true))]).bind fun r0 =>
  cond ((Ev.isAgg 9 (cellAt r0 0)) && ((isI .i64 (cellAt (obCells (cellAt r0 0)) 0)) && ((isI .u64 (cellAt (obCells (cellAt r0 0)) 1)) && ((isI .u64 (cellAt (obCells (cellAt r0 0)) 2)) && ((isI .u64 (cellAt (obCells (cellAt r0 0)) 3)) && ((isI .u64 (cellAt (obCells (cellAt r0 0)) 4)) && ((isI .u64 (cellAt (obCells (cellAt r0 0)) 5)) && ((isI .u64 (cellAt (obCells (cellAt r0 0)) 6)) && ((isI .u64 (cellAt (obCells (cellAt r0 0)) 7)) && (isI .u64 (cellAt (obCells (cellAt r0 0)) 8)))))))))))
   (cond (isB (cellAt r0 1))
     (cond (isI .i64 (cellAt r0 2))
       (some [(.agg [(.v (.int .i64 (avInt (cellAt (obCells (cellAt r0 0)) 0)))), (.v (.int .u64 (avInt (cellAt (obCells (cellAt r0 0)) 1)))), (.v (.int .u64 (avInt (cellAt (obCells (cellAt r0 0)) 2)))), (.v (.int .u64 (avInt (cellAt (obCells (cellAt r0 0)) 3)))), (.v (.int .u64 (avInt (cellAt (obCells (cellAt r0 0)) 4)))), (.v (.int .u64 (avInt (cellAt (obCells (cellAt r0 0)) 5)))), (.v (.int .u64 (avInt (cellAt (obCells (cellAt r0 0)) 6)))), (.v (.int .u64 (avInt (cellAt (obCells (cellAt r0 0)) 7)))), (.v (.int .u64 (avInt (cellAt (obCells (cellAt r0 0)) 8))))]), (.v (.bool (avBool (cellAt r0 1)))), (.v (.int .i64 (avInt (cellAt r0 2))))])
       (none))
     (none))
   (none) := (ev_eq _ _).trans (by kernel_rfl)
-- "bodega/pointer.inHeap"
theorem ev40 (a0_0 : Int) : ev 40 [(.v (.int .i64 a0_0))] =
  cond (leI 104 a0_0)
   (some [(.v (.bool (ltI a0_0 256)))])
   (some [(.v (.bool false))]) := (ev_eq _ _).trans (by kernel_rfl)
-- "bodega/pointer.tagOf"
theorem ev42 (a0_0 : Int) (a0_1 : Int) (a0_2 : Int) (a0_3 : Int) (a0_4 : Int) (a0_5 : Int) (a0_6 : Int) (a0_7 : Int) (a0_8 : Int) : ev 42 [(.agg [(.v (.int .i64 a0_0)), (.v (.int .u64 a0_1)), (.v (.int .u64 a0_2)), (.v (.int .u64 a0_3)), (.v (.int .u64 a0_4)), (.v (.int .u64 a0_5)), (.v (.int .u64 a0_6)), (.v (.int .u64 a0_7)), (.v (.int .u64 a0_8))])] =
  (ev 13 [(.v (.int .u64 a0_2))]).bind fun r0 =>
  cond ((Ev.isAgg 3 (cellAt r0 0)) && ((isI .i64 (cellAt (obCells (cellAt r0 0)) 0)) && ((isI .i64 (cellAt (obCells (cellAt r0 0)) 1)) && (isI .u32 (cellAt (obCells (cellAt r0 0)) 2)))))
   (some [(.agg [(.v (.int .i64 (avInt (cellAt (obCells (cellAt r0 0)) 0)))), (.v (.int .i64 (avInt (cellAt (obCells (cellAt r0 0)) 1)))), (.v (.int .u32 (avInt (cellAt (obCells (cellAt r0 0)) 2))))])])
   (none) := (ev_eq _ _).trans (by kernel_rfl)
-- "bodega/pointer.tagged"
theorem ev43 (a0_0 : Int) (a0_1 : Int) (a0_2 : Int) (a0_3 : Int) (a0_4 : Int) (a0_5 : Int) (a0_6 : Int) (a0_7 : Int) (a0_8 : Int) (a1_0 : Int) (a1_1 : Int) (a1_2 : Int) : ev 43 [(.agg [(.v (.int .i64 a0_0)), (.v (.int .u64 a0_1)), (.v (.int .u64 a0_2)), (.v (.int .u64 a0_3)), (.v (.int .u64 a0_4)), (.v (.int .u64 a0_5)), (.v (.int .u64 a0_6)), (.v (.int .u64 a0_7)), (.v (.int .u64 a0_8))]), (.agg [(.v (.int .i64 a1_0)), (.v (.int .i64 a1_1)), (.v (.int .u32 a1_2))])] =
  (ev 14 [(.agg [(.v (.int .i64 a1_0)), (.v (.int .i64 a1_1)), (.v (.int .u32 a1_2))])]).bind fun r0 =>
  cond (isI .u64 (cellAt r0 0))
   (some [(.agg [(.v (.int .i64 a0_0)), (.v (.int .u64 a0_1)), (.v (.int .u64 (avInt (cellAt r0 0)))), (.v (.int .u64 0)), (.v (.int .u64 0)), (.v (.int .u64 0)), (.v (.int .u64 0)), (.v (.int .u64 0)), (.v (.int .u64 0))])])
   (none) := (ev_eq _ _).trans (by kernel_rfl)
-- "bodega/pointer.lookup"
theorem ev45 (a0_0n : Bool) (a0_0 : List (List AV)) (a1_0 : Int) (a1_1 : Int) (a2_0 : Int) (a3_0 : Bool) : ev 45 [(.lst a0_0n 9 a0_0), (.agg [(.v (.int .i64 a1_0)), (.v (.int .i64 a1_1))]), (.v (.int .i64 a2_0)), (.v (.bool a3_0))] =
  (ev 16 [(.agg [(.v (.int .i64 a1_0)), (.v (.int .i64 a1_1))])]).bind fun r0 =>
  cond (isB (cellAt r0 0))
   (cond (!(avBool (cellAt r0 0)))
     (some [(.agg [(.v (.int .i64 0)), (.v (.int .u64 0)), (.v (.int .u64 0)), (.v (.int .u64 0)), (.v (.int .u64 0)), (.v (.int .u64 0)), (.v (.int .u64 0)), (.v (.int .u64 0)), (.v (.int .u64 0))]), (.v (.bool false)), (.v (.int .i64 1))])
     ((ev 28 [(.lst a0_0n 9 a0_0), (.v (.int .i64 a1_0))]).bind fun r4 =>
      cond ((Ev.isAgg 9 (cellAt r4 0)) && ((isI .i64 (cellAt (obCells (cellAt r4 0)) 0)) && ((isI .u64 (cellAt (obCells (cellAt r4 0)) 1)) && ((isI .u64 (cellAt (obCells (cellAt r4 0)) 2)) && ((isI .u64 (cellAt (obCells (cellAt r4 0)) 3)) && ((isI .u64 (cellAt (obCells (cellAt r4 0)) 4)) && ((isI .u64 (cellAt (obCells (cellAt r4 0)) 5)) && ((isI .u64 (cellAt (obCells (cellAt r4 0)) 6)) && ((isI .u64 (cellAt (obCells (cellAt r4 0)) 7)) && (isI .u64 (cellAt (obCells (cellAt r4 0)) 8)))))))))))
       (cond (isB (cellAt r4 1))
         (cond (!(avBool (cellAt r4 1)))
           (some [(.agg [(.v (.int .i64 0)), (.v (.int .u64 0)), (.v (.int .u64 0)), (.v (.int .u64 0)), (.v (.int .u64 0)), (.v (.int .u64 0)), (.v (.int .u64 0)), (.v (.int .u64 0)), (.v (.int .u64 0))]), (.v (.bool false)), (.v (.int .i64 0))])
           ((ev 42 [(.agg [(.v (.int .i64 (avInt (cellAt (obCells (cellAt r4 0)) 0)))), (.v (.int .u64 (avInt (cellAt (obCells (cellAt r4 0)) 1)))), (.v (.int .u64 (avInt (cellAt (obCells (cellAt r4 0)) 2)))), (.v (.int .u64 (avInt (cellAt (obCells (cellAt r4 0)) 3)))), (.v (.int .u64 (avInt (cellAt (obCells (cellAt r4 0)) 4)))), (.v (.int .u64 (avInt (cellAt (obCells (cellAt r4 0)) 5)))), (.v (.int .u64 (avInt (cellAt (obCells (cellAt r4 0)) 6)))), (.v (.int .u64 (avInt (cellAt (obCells (cellAt r4 0)) 7)))), (.v (.int .u64 (avInt (cellAt (obCells (cellAt r4 0)) 8))))])]).bind fun r17 =>
            cond ((Ev.isAgg 3 (cellAt r17 0)) && ((isI .i64 (cellAt (obCells (cellAt r17 0)) 0)) && ((isI .i64 (cellAt (obCells (cellAt r17 0)) 1)) && (isI .u32 (cellAt (obCells (cellAt r17 0)) 2)))))
             (cond a3_0
               ((ev 23 [(.agg [(.v (.int .i64 (avInt (cellAt (obCells (cellAt r4 0)) 0)))), (.v (.int .u64 (avInt (cellAt (obCells (cellAt r4 0)) 1)))), (.v (.int .u64 (avInt (cellAt (obCells (cellAt r4 0)) 2)))), (.v (.int .u64 (avInt (cellAt (obCells (cellAt r4 0)) 3)))), (.v (.int .u64 (avInt (cellAt (obCells (cellAt r4 0)) 4)))), (.v (.int .u64 (avInt (cellAt (obCells (cellAt r4 0)) 5)))), (.v (.int .u64 (avInt (cellAt (obCells (cellAt r4 0)) 6)))), (.v (.int .u64 (avInt (cellAt (obCells (cellAt r4 0)) 7)))), (.v (.int .u64 (avInt (cellAt (obCells (cellAt r4 0)) 8))))])]).bind fun r21 =>
                cond (isB (cellAt r21 0))
                 (cond (avBool (cellAt r21 0))
                   (some [(.agg [(.v (.int .i64 0)), (.v (.int .u64 0)), (.v (.int .u64 0)), (.v (.int .u64 0)), (.v (.int .u64 0)), (.v (.int .u64 0)), (.v (.int .u64 0)), (.v (.int .u64 0)), (.v (.int .u64 0))]), (.v (.bool false)), (.v (.int .i64 3))])
                   (cond ((avInt (cellAt (obCells (cellAt r17 0)) 0)) == 0)
                     (some [(.agg [(.v (.int .i64 0)), (.v (.int .u64 0)), (.v (.int .u64 0)), (.v (.int .u64 0)), (.v (.int .u64 0)), (.v (.int .u64 0)), (.v (.int .u64 0)), (.v (.int .u64 0)), (.v (.int .u64 0))]), (.v (.bool false)), (.v (.int .i64 11))])
                     (cond (!((avInt (cellAt (obCells (cellAt r17 0)) 1)) == a1_1))
                       (some [(.agg [(.v (.int .i64 0)), (.v (.int .u64 0)), (.v (.int .u64 0)), (.v (.int .u64 0)), (.v (.int .u64 0)), (.v (.int .u64 0)), (.v (.int .u64 0)), (.v (.int .u64 0)), (.v (.int .u64 0))]), (.v (.bool false)), (.v (.int .i64 11))])
                       (cond (!((avInt (cellAt (obCells (cellAt r17 0)) 0)) == a2_0))
                         (some [(.agg [(.v (.int .i64 0)), (.v (.int .u64 0)), (.v (.int .u64 0)), (.v (.int .u64 0)), (.v (.int .u64 0)), (.v (.int .u64 0)), (.v (.int .u64 0)), (.v (.int .u64 0)), (.v (.int .u64 0))]), (.v (.bool false)), (.v (.int .i64 14))])
                         (some [(.agg [(.v (.int .i64 (avInt (cellAt (obCells (cellAt r4 0)) 0)))), (.v (.int .u64 (avInt (cellAt (obCells (cellAt r4 0)) 1)))), (.v (.int .u64 (avInt (cellAt (obCells (cellAt r4 0)) 2)))), (.v (.int .u64 (avInt (cellAt (obCells (cellAt r4 0)) 3)))), (.v (.int .u64 (avInt (cellAt (obCells (cellAt r4 0)) 4)))), (.v (.int .u64 (avInt (cellAt (obCells (cellAt r4 0)) 5)))), (.v (.int .u64 (avInt (cellAt (obCells (cellAt r4 0)) 6)))), (.v (.int .u64 (avInt (cellAt (obCells (cellAt r4 0)) 7)))), (.v (.int .u64 (avInt (cellAt (obCells (cellAt r4 0)) 8))))]), (.v (.bool true)), (.v (.int .i64 0))])))))
                 (none))
               (cond ((avInt (cellAt (obCells (cellAt r17 0)) 0)) == 0)
                 (some [(.agg [(.v (.int .i64 0)), (.v (.int .u64 0)), (.v (.int .u64 0)), (.v (.int .u64 0)), (.v (.int .u64 0)), (.v (.int .u64 0)), (.v (.int .u64 0)), (.v (.int .u64 0)), (.v (.int .u64 0))]), (.v (.bool false)), (.v (.int .i64 11))])
                 (cond (!((avInt (cellAt (obCells (cellAt r17 0)) 1)) == a1_1))
                   (some [(.agg [(.v (.int .i64 0)), (.v (.int .u64 0)), (.v (.int .u64 0)), (.v (.int .u64 0)), (.v (.int .u64 0)), (.v (.int .u64 0)), (.v (.int .u64 0)), (.v (.int .u64 0)), (.v (.int .u64 0))]), (.v (.bool false)), (.v (.int .i64 11))])
                   (cond (!((avInt (cellAt (obCells (cellAt r17 0)) 0)) == a2_0))
                     (some [(.agg [(.v (.int .i64 0)), (.v (.int .u64 0)), (.v (.int .u64 0)), (.v (.int .u64 0)), (.v (.int .u64 0)), (.v (.int .u64 0)), (.v (.int .u64 0)), (.v (.int .u64 0)), (.v (.int .u64 0))]), (.v (.bool false)), (.v (.int .i64 14))])
                     (some [(.agg [(.v (.int .i64 (avInt (cellAt (obCells (cellAt r4 0)) 0)))), (.v (.int .u64 (avInt (cellAt (obCells (cellAt r4 0)) 1)))), (.v (.int .u64 (avInt (cellAt (obCells (cellAt r4 0)) 2)))), (.v (.int .u64 (avInt (cellAt (obCells (cellAt r4 0)) 3)))), (.v (.int .u64 (avInt (cellAt (obCells (cellAt r4 0)) 4)))), (.v (.int .u64 (avInt (cellAt (obCells (cellAt r4 0)) 5)))), (.v (.int .u64 (avInt (cellAt (obCells (cellAt r4 0)) 6)))), (.v (.int .u64 (avInt (cellAt (obCells (cellAt r4 0)) 7)))), (.v (.int .u64 (avInt (cellAt (obCells (cellAt r4 0)) 8))))]), (.v (.bool true)), (.v (.int .i64 0))])))))
             (none)))
         (none))
       (none)))
   (none) := (ev_eq _ _).trans (by kernel_rfl)
end Go.Proofs.Ytcalaooabgklbaa
