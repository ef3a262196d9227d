/- The functions of the chapter, as the evaluator has them. -/
import Derived.Test.YthihfpcleejjfaaRows
import Derived.Test.YthihfpcleejjfaaEv43
set_option linter.all false
namespace Go.Proofs.Ythihfpcleejjfaa
open Go.Ev

def cfg : Cfg := { rw := fun _ => [], dat := fun _ => true, inl := fun _ => false, roll := fun _ => 7, join := fun _ => false }
noncomputable def ev (f : FuncId) (args : List AV) : Option (List AV) := evL Try.prog cfg f args
noncomputable def lp (f k nr : Nat) (s : St) : Option LR := lpL Try.prog cfg f k nr s
theorem ev_eq (f : FuncId) (args : List AV) : ev f args = evBodyG Try.prog cfg (evL Try.prog cfg) (inlD Try.prog cfg (evL Try.prog cfg) 5) (loopL Try.prog cfg f) f args := evL_eq f args
theorem lp_eq (f k nr : Nat) (s : St) : lp f k nr s = evRound Try.prog cfg (evL Try.prog cfg) (inlD Try.prog cfg (evL Try.prog cfg) 5) (loopL Try.prog cfg f) (cfg.roll f) (cfg.join f) (loopAt Try.prog f k).1 (loopAt Try.prog f k).2 (retAt Try.prog cfg f nr) s := loopL_eq f _ _ _ s

-- "bodega/bodegalaw21.RecordChain"
theorem ev8 (a0_0 : Int) (a1_0n : Bool) (a1_0 : List (List AV)) (a2_0n : Bool) (a2_0 : List (List AV)) : ev 8 [(.v (.int .i64 a0_0)), (.lst a1_0n 3 a1_0), (.lst a2_0n 1 a2_0)] =
  cond ((((List.length a1_0) : Nat) : Int) == 0)
   ((ev 12 []).bind fun r2 =>
    cond (isB (cellAt r2 0))
     (some [(.v (.bool (avBool (cellAt r2 0))))])
     (none))
   (cond (ltI 20 (((List.length a1_0) : Nat) : Int))
     ((ev 12 []).bind fun r6 =>
      cond (isB (cellAt r6 0))
       (some [(.v (.bool (avBool (cellAt r6 0))))])
       (none))
     ((ev 12 []).bind fun r8 =>
      cond (isB (cellAt r8 0))
       (cond (!(avBool (cellAt r8 0)))
         ((ev 12 []).bind fun r11 =>
          cond (isB (cellAt r11 0))
           (some [(.v (.bool (avBool (cellAt r11 0))))])
           (none))
         ((ev 29 [(.v (.int .i64 a0_0))]).bind fun r13 =>
          cond (isI .u32 (cellAt r13 0))
           ((lp 8 0 0 ⟨[(1, (.lst a1_0n 3 a1_0)), (2, (.lst a2_0n 1 a2_0)), (7, (.v (.int .u32 (avInt (cellAt r13 0))))), (8, (.sl false 0 0 none)), (9, (.sl true 1 0 none)), (10, (.v (.int .i64 0)))], [⟨1, 34, 9, false, []⟩, ⟨1, 42, 9, false, []⟩]⟩).bind fun r15 =>
            cond (isEx 0 r15)
             (cond (likeStG ⟨[(8, (.sl false 0 0 none)), (9, (.sl true 1 0 none))], [⟨1, 34, 9, false, []⟩, ⟨1, 42, 9, false, []⟩]⟩ r15.st)
               (cond (true && (ltI 0 ((((List.length (blAt r15.st.bl 0).xs) - 0) : Nat) : Int)))
                 (cond ((ltN 0 (List.length (blAt r15.st.bl 0).xs)) && ((isI .i64 (cellAt (lget (blAt r15.st.bl 0).xs 0) 0)) && ((isI .u64 (cellAt (lget (blAt r15.st.bl 0).xs 0) 1)) && ((isI .u64 (cellAt (lget (blAt r15.st.bl 0).xs 0) 2)) && ((isI .u64 (cellAt (lget (blAt r15.st.bl 0).xs 0) 3)) && ((isI .u64 (cellAt (lget (blAt r15.st.bl 0).xs 0) 4)) && ((isI .u64 (cellAt (lget (blAt r15.st.bl 0).xs 0) 5)) && ((isI .u64 (cellAt (lget (blAt r15.st.bl 0).xs 0) 6)) && ((isI .u64 (cellAt (lget (blAt r15.st.bl 0).xs 0) 7)) && (isI .u64 (cellAt (lget (blAt r15.st.bl 0).xs 0) 8)))))))))))
                   ((ev 31 [(.agg [(.v (.int .i64 (avInt (cellAt (lget (blAt r15.st.bl 0).xs 0) 0)))), (.v (.int .u64 (avInt (cellAt (lget (blAt r15.st.bl 0).xs 0) 1)))), (.v (.int .u64 (avInt (cellAt (lget (blAt r15.st.bl 0).xs 0) 2)))), (.v (.int .u64 (avInt (cellAt (lget (blAt r15.st.bl 0).xs 0) 3)))), (.v (.int .u64 (avInt (cellAt (lget (blAt r15.st.bl 0).xs 0) 4)))), (.v (.int .u64 (avInt (cellAt (lget (blAt r15.st.bl 0).xs 0) 5)))), (.v (.int .u64 (avInt (cellAt (lget (blAt r15.st.bl 0).xs 0) 6)))), (.v (.int .u64 (avInt (cellAt (lget (blAt r15.st.bl 0).xs 0) 7)))), (.v (.int .u64 (avInt (cellAt (lget (blAt r15.st.bl 0).xs 0) 8))))])]).bind fun r29 =>
                    cond ((Ev.isAgg 2 (cellAt r29 0)) && ((isI .i64 (cellAt (obCells (cellAt r29 0)) 0)) && (isI .i64 (cellAt (obCells (cellAt r29 0)) 1))))
                     ((lp 8 2 0 ⟨[(8, (.sl (avNil (frAt r15.st.fr 0).2) 0 0 none)), (9, (.sl (avNil (frAt r15.st.fr 1).2) 1 0 none)), (20, (.ptr 2 0 0)), (21, (.v (.int .i64 0)))], [⟨1, 34, 9, false, (blAt r15.st.bl 0).xs⟩, ⟨1, 42, 9, false, (blAt r15.st.bl 1).xs⟩, ⟨1, 40, 2, true, [[(.v (.int .i64 (avInt (cellAt (obCells (cellAt r29 0)) 0)))), (.v (.int .i64 (avInt (cellAt (obCells (cellAt r29 0)) 1))))]]⟩]⟩).bind fun r32 =>
                      cond (isEx 4 r32)
                       (cond (likeStG ⟨[(8, (.sl (avNil (frAt r15.st.fr 0).2) 0 0 none)), (20, (.ptr 1 0 0))], [⟨1, 34, 9, false, (blAt r15.st.bl 0).xs⟩, ⟨1, 40, 2, true, [[(.v (.int .i64 (avInt (cellAt (obCells (cellAt r29 0)) 0)))), (.v (.int .i64 (avInt (cellAt (obCells (cellAt r29 0)) 1))))]]⟩]⟩ r32.st)
                         (cond (((avInt (cellAt (lget (blAt r32.st.bl 1).xs 0) 0)) == 0) && ((avInt (cellAt (lget (blAt r32.st.bl 1).xs 0) 1)) == 0))
                           (cond (true && (ltI 0 ((((List.length (blAt r32.st.bl 0).xs) - 0) : Nat) : Int)))
                             (cond ((ltN 0 (List.length (blAt r32.st.bl 0).xs)) && (isI .i64 (cellAt (lget (blAt r32.st.bl 0).xs 0) 0)))
                               (some [(.v (.bool ((avInt (cellAt (lget (blAt r32.st.bl 0).xs 0) 0)) == 105)))])
                               (none))
                             (none))
                           (some [(.v (.bool false))]))
                         (none))
                       (cond (isRt r32)
                         (some r32.outs)
                         (none)))
                     (none))
                   (none))
                 (none))
               (none))
             (cond (isRt r15)
               (some r15.outs)
               (none)))
           (none)))
       (none))) := (ev_eq _ _).trans (by kernel_rfl)
theorem lp8_0 (x1n : Bool) (x1 : List (List AV)) (x2n : Bool) (x2 : List (List AV)) (x7 : Int) (x8n : Bool) (x9n : Bool) (x10 : Int) (b0 : List (List AV)) (b1 : List (List AV)) : lp 8 0 0 ⟨[(1, (.lst x1n 3 x1)), (2, (.lst x2n 1 x2)), (7, (.v (.int .u32 x7))), (8, (.sl x8n 0 0 none)), (9, (.sl x9n 1 0 none)), (10, (.v (.int .i64 x10)))], [⟨1, 34, 9, false, b0⟩, ⟨1, 42, 9, false, b1⟩]⟩ =
  cond (ltI x10 (((List.length x1) : Nat) : Int))
   ((ev 30 [(.agg [(.v (.int .i64 (IntKind.wrap .i64 (105 + x10)))), (.v (.int .u64 256)), (.v (.int .u64 0)), (.v (.int .u64 0)), (.v (.int .u64 0)), (.v (.int .u64 0)), (.v (.int .u64 0)), (.v (.int .u64 0)), (.v (.int .u64 0))]), (.v (.int .i64 1)), (.v (.int .u32 0))]).bind fun r43 =>
    cond ((Ev.isAgg 9 (cellAt r43 0)) && ((isI .i64 (cellAt (obCells (cellAt r43 0)) 0)) && ((isI .u64 (cellAt (obCells (cellAt r43 0)) 1)) && ((isI .u64 (cellAt (obCells (cellAt r43 0)) 2)) && ((isI .u64 (cellAt (obCells (cellAt r43 0)) 3)) && ((isI .u64 (cellAt (obCells (cellAt r43 0)) 4)) && ((isI .u64 (cellAt (obCells (cellAt r43 0)) 5)) && ((isI .u64 (cellAt (obCells (cellAt r43 0)) 6)) && ((isI .u64 (cellAt (obCells (cellAt r43 0)) 7)) && (isI .u64 (cellAt (obCells (cellAt r43 0)) 8)))))))))))
     (cond (isI .i64 (cellAt r43 1))
       (cond ((leI 0 x10) && (ltI x10 (((List.length x1) : Nat) : Int)))
         (cond ((isI .i64 (cellAt (lget x1 (Int.toNat x10)) 0)) && ((isI .i64 (cellAt (lget x1 (Int.toNat x10)) 1)) && (isI .i64 (cellAt (lget x1 (Int.toNat x10)) 2))))
           ((ev 13 [(.v (.int .i64 (Int.tmod x10 6))), (.v (.int .i64 (IntKind.wrap .i64 (x10 + 1))))]).bind fun r59 =>
            cond (isI .u64 (cellAt r59 0))
             (cond (ltI x10 (((List.length x2) : Nat) : Int))
               (cond ((leI 0 x10) && (ltI x10 (((List.length x2) : Nat) : Int)))
                 (cond (isB (cellAt (lget x2 (Int.toNat x10)) 0))
                   (cond (avBool (cellAt (lget x2 (Int.toNat x10)) 0))
                     (cond (!((avInt (cellAt r43 1)) == 0))
                       (some ⟨none, ⟨[], []⟩, [(.v (.bool false))]⟩)
                       (cond (leN ((1 + (List.length b1)) * 64) 140737488355328)
                         (cond (x10 == 0)
                           ((ev 18 [(.agg [(.v (.int .i64 (avInt (cellAt (obCells (cellAt r43 0)) 0)))), (.v (.int .u64 (avInt (cellAt (obCells (cellAt r43 0)) 1)))), (.v (.int .u64 (avInt (cellAt (obCells (cellAt r43 0)) 2)))), (.v (.int .u64 (avInt (cellAt (obCells (cellAt r43 0)) 3)))), (.v (.int .u64 (avInt (cellAt (obCells (cellAt r43 0)) 4)))), (.v (.int .u64 (avInt (cellAt (obCells (cellAt r43 0)) 5)))), (.v (.int .u64 (avInt (cellAt (obCells (cellAt r43 0)) 6)))), (.v (.int .u64 (avInt (cellAt (obCells (cellAt r43 0)) 7)))), (.v (.int .u64 (avInt (cellAt (obCells (cellAt r43 0)) 8))))]), (.agg [(.v (.int .u32 x7)), (.v (.int .i64 0)), (.v (.int .i64 0)), (.v (.int .i64 0)), (.v (.bool true)), (.v (.int .u32 (IntKind.wrap .u32 x10))), (.v (.int .u64 (avInt (cellAt r59 0)))), (.v (.int .i64 0)), (.v (.int .i64 0))])]).bind fun r70 =>
                            cond ((Ev.isAgg 9 (cellAt r70 0)) && ((isI .i64 (cellAt (obCells (cellAt r70 0)) 0)) && ((isI .u64 (cellAt (obCells (cellAt r70 0)) 1)) && ((isI .u64 (cellAt (obCells (cellAt r70 0)) 2)) && ((isI .u64 (cellAt (obCells (cellAt r70 0)) 3)) && ((isI .u64 (cellAt (obCells (cellAt r70 0)) 4)) && ((isI .u64 (cellAt (obCells (cellAt r70 0)) 5)) && ((isI .u64 (cellAt (obCells (cellAt r70 0)) 6)) && ((isI .u64 (cellAt (obCells (cellAt r70 0)) 7)) && (isI .u64 (cellAt (obCells (cellAt r70 0)) 8)))))))))))
                             (cond (isI .i64 (cellAt r70 1))
                               (cond (!((avInt (cellAt r70 1)) == 0))
                                 (some ⟨none, ⟨[], []⟩, [(.v (.bool false))]⟩)
                                 (cond (leN (((List.length b0) + 1) * 72) 140737488355328)
                                   (lp 8 0 0 ⟨[(1, (.lst x1n 3 x1)), (2, (.lst x2n 1 x2)), (7, (.v (.int .u32 x7))), (8, (.sl false 0 0 none)), (9, (.sl ((List.isEmpty b1) && false) 1 0 none)), (10, (.v (.int .i64 (IntKind.wrap .i64 (x10 + 1)))))], [⟨1, 34, 9, false, (b0 ++ [[(.v (.int .i64 (avInt (cellAt (obCells (cellAt r70 0)) 0)))), (.v (.int .u64 (avInt (cellAt (obCells (cellAt r70 0)) 1)))), (.v (.int .u64 (avInt (cellAt (obCells (cellAt r70 0)) 2)))), (.v (.int .u64 (avInt (cellAt (obCells (cellAt r70 0)) 3)))), (.v (.int .u64 (avInt (cellAt (obCells (cellAt r70 0)) 4)))), (.v (.int .u64 (avInt (cellAt (obCells (cellAt r70 0)) 5)))), (.v (.int .u64 (avInt (cellAt (obCells (cellAt r70 0)) 6)))), (.v (.int .u64 (avInt (cellAt (obCells (cellAt r70 0)) 7)))), (.v (.int .u64 (avInt (cellAt (obCells (cellAt r70 0)) 8))))]])⟩, ⟨1, 42, 9, false, ([[(.v (.int .u32 x7)), (.v (.int .i64 0)), (.v (.int .i64 0)), (.v (.int .i64 0)), (.v (.bool true)), (.v (.int .u32 (IntKind.wrap .u32 x10))), (.v (.int .u64 (avInt (cellAt r59 0)))), (.v (.int .i64 0)), (.v (.int .i64 0))]] ++ b1)⟩]⟩)
                                   (none)))
                               (none))
                             (none))
                           (cond (true && (ltI 0 ((((List.length b0) - 0) : Nat) : Int)))
                             (cond ((ltN 0 (List.length b0)) && ((isI .i64 (cellAt (lget b0 0) 0)) && ((isI .u64 (cellAt (lget b0 0) 1)) && ((isI .u64 (cellAt (lget b0 0) 2)) && ((isI .u64 (cellAt (lget b0 0) 3)) && ((isI .u64 (cellAt (lget b0 0) 4)) && ((isI .u64 (cellAt (lget b0 0) 5)) && ((isI .u64 (cellAt (lget b0 0) 6)) && ((isI .u64 (cellAt (lget b0 0) 7)) && (isI .u64 (cellAt (lget b0 0) 8)))))))))))
                               ((ev 26 [(.agg [(.v (.int .i64 (avInt (cellAt (lget b0 0) 0)))), (.v (.int .u64 (avInt (cellAt (lget b0 0) 1)))), (.v (.int .u64 (avInt (cellAt (lget b0 0) 2)))), (.v (.int .u64 (avInt (cellAt (lget b0 0) 3)))), (.v (.int .u64 (avInt (cellAt (lget b0 0) 4)))), (.v (.int .u64 (avInt (cellAt (lget b0 0) 5)))), (.v (.int .u64 (avInt (cellAt (lget b0 0) 6)))), (.v (.int .u64 (avInt (cellAt (lget b0 0) 7)))), (.v (.int .u64 (avInt (cellAt (lget b0 0) 8))))]), (.agg [(.v (.int .i64 (avInt (cellAt (obCells (cellAt r43 0)) 0)))), (.v (.int .u64 (avInt (cellAt (obCells (cellAt r43 0)) 1)))), (.v (.int .u64 (avInt (cellAt (obCells (cellAt r43 0)) 2)))), (.v (.int .u64 (avInt (cellAt (obCells (cellAt r43 0)) 3)))), (.v (.int .u64 (avInt (cellAt (obCells (cellAt r43 0)) 4)))), (.v (.int .u64 (avInt (cellAt (obCells (cellAt r43 0)) 5)))), (.v (.int .u64 (avInt (cellAt (obCells (cellAt r43 0)) 6)))), (.v (.int .u64 (avInt (cellAt (obCells (cellAt r43 0)) 7)))), (.v (.int .u64 (avInt (cellAt (obCells (cellAt r43 0)) 8))))]), (.agg [(.v (.int .u32 x7)), (.v (.int .i64 0)), (.v (.int .i64 0)), (.v (.int .i64 0)), (.v (.bool true)), (.v (.int .u32 (IntKind.wrap .u32 x10))), (.v (.int .u64 (avInt (cellAt r59 0)))), (.v (.int .i64 0)), (.v (.int .i64 0))])]).bind fun r96 =>
                                cond (isL 9 (cellAt r96 0))
                                 (cond (isI .i64 (cellAt r96 1))
                                   (cond (!((avInt (cellAt r96 1)) == 0))
                                     (some ⟨none, ⟨[], []⟩, [(.v (.bool false))]⟩)
                                     (cond (!((((List.length (avXs (cellAt r96 0))) : Nat) : Int) == 2))
                                       (some ⟨none, ⟨[], []⟩, [(.v (.bool false))]⟩)
                                       ((lp 8 1 0 ⟨[(1, (.lst x1n 3 x1)), (2, (.lst x2n 1 x2)), (7, (.v (.int .u32 x7))), (8, (.sl x8n 0 0 none)), (9, (.sl ((List.isEmpty b1) && false) 1 0 none)), (10, (.v (.int .i64 x10))), (17, (.lst (avNil (cellAt r96 0)) 9 (avXs (cellAt r96 0)))), (19, (.v (.int .i64 0)))], [⟨1, 34, 9, false, b0⟩, ⟨1, 42, 9, false, ([[(.v (.int .u32 x7)), (.v (.int .i64 0)), (.v (.int .i64 0)), (.v (.int .i64 0)), (.v (.bool true)), (.v (.int .u32 (IntKind.wrap .u32 x10))), (.v (.int .u64 (avInt (cellAt r59 0)))), (.v (.int .i64 0)), (.v (.int .i64 0))]] ++ b1)⟩]⟩).bind fun r103 =>
                                        cond (isEx 2 r103)
                                         (cond (likeStG ⟨[(1, (.lst x1n 3 x1)), (2, (.lst x2n 1 x2)), (7, (.v (.int .u32 x7))), (8, (.sl x8n 0 0 none)), (9, (.sl ((List.isEmpty b1) && false) 1 0 none)), (10, (.v (.int .i64 x10)))], [⟨1, 34, 9, false, b0⟩, ⟨1, 42, 9, false, ([[(.v (.int .u32 x7)), (.v (.int .i64 0)), (.v (.int .i64 0)), (.v (.int .i64 0)), (.v (.bool true)), (.v (.int .u32 (IntKind.wrap .u32 x10))), (.v (.int .u64 (avInt (cellAt r59 0)))), (.v (.int .i64 0)), (.v (.int .i64 0))]] ++ b1)⟩]⟩ r103.st)
                                           (lp 8 0 0 ⟨[(1, (.lst (avNil (frAt r103.st.fr 0).2) 3 (avXs (frAt r103.st.fr 0).2))), (2, (.lst (avNil (frAt r103.st.fr 1).2) 1 (avXs (frAt r103.st.fr 1).2))), (7, (.v (.int .u32 (avInt (frAt r103.st.fr 2).2)))), (8, (.sl (avNil (frAt r103.st.fr 3).2) 0 0 none)), (9, (.sl (avNil (frAt r103.st.fr 4).2) 1 0 none)), (10, (.v (.int .i64 (IntKind.wrap .i64 ((avInt (frAt r103.st.fr 5).2) + 1)))))], [⟨1, 34, 9, false, (blAt r103.st.bl 0).xs⟩, ⟨1, 42, 9, false, (blAt r103.st.bl 1).xs⟩]⟩)
                                           (none))
                                         (cond (isRt r103)
                                           (some ⟨none, ⟨[], []⟩, r103.outs⟩)
                                           (none)))))
                                   (none))
                                 (none))
                               (none))
                             (none)))
                         (none)))
                     (cond (!((avInt (cellAt r43 1)) == 0))
                       (some ⟨none, ⟨[], []⟩, [(.v (.bool false))]⟩)
                       (cond (leN ((1 + (List.length b1)) * 64) 140737488355328)
                         (cond (x10 == 0)
                           ((ev 18 [(.agg [(.v (.int .i64 (avInt (cellAt (obCells (cellAt r43 0)) 0)))), (.v (.int .u64 (avInt (cellAt (obCells (cellAt r43 0)) 1)))), (.v (.int .u64 (avInt (cellAt (obCells (cellAt r43 0)) 2)))), (.v (.int .u64 (avInt (cellAt (obCells (cellAt r43 0)) 3)))), (.v (.int .u64 (avInt (cellAt (obCells (cellAt r43 0)) 4)))), (.v (.int .u64 (avInt (cellAt (obCells (cellAt r43 0)) 5)))), (.v (.int .u64 (avInt (cellAt (obCells (cellAt r43 0)) 6)))), (.v (.int .u64 (avInt (cellAt (obCells (cellAt r43 0)) 7)))), (.v (.int .u64 (avInt (cellAt (obCells (cellAt r43 0)) 8))))]), (.agg [(.v (.int .u32 x7)), (.v (.int .i64 (avInt (cellAt (lget x1 (Int.toNat x10)) 0)))), (.v (.int .i64 (avInt (cellAt (lget x1 (Int.toNat x10)) 1)))), (.v (.int .i64 (avInt (cellAt (lget x1 (Int.toNat x10)) 2)))), (.v (.bool false)), (.v (.int .u32 0)), (.v (.int .u64 (avInt (cellAt r59 0)))), (.v (.int .i64 0)), (.v (.int .i64 0))])]).bind fun r120 =>
                            cond ((Ev.isAgg 9 (cellAt r120 0)) && ((isI .i64 (cellAt (obCells (cellAt r120 0)) 0)) && ((isI .u64 (cellAt (obCells (cellAt r120 0)) 1)) && ((isI .u64 (cellAt (obCells (cellAt r120 0)) 2)) && ((isI .u64 (cellAt (obCells (cellAt r120 0)) 3)) && ((isI .u64 (cellAt (obCells (cellAt r120 0)) 4)) && ((isI .u64 (cellAt (obCells (cellAt r120 0)) 5)) && ((isI .u64 (cellAt (obCells (cellAt r120 0)) 6)) && ((isI .u64 (cellAt (obCells (cellAt r120 0)) 7)) && (isI .u64 (cellAt (obCells (cellAt r120 0)) 8)))))))))))
                             (cond (isI .i64 (cellAt r120 1))
                               (cond (!((avInt (cellAt r120 1)) == 0))
                                 (some ⟨none, ⟨[], []⟩, [(.v (.bool false))]⟩)
                                 (cond (leN (((List.length b0) + 1) * 72) 140737488355328)
                                   (lp 8 0 0 ⟨[(1, (.lst x1n 3 x1)), (2, (.lst x2n 1 x2)), (7, (.v (.int .u32 x7))), (8, (.sl false 0 0 none)), (9, (.sl ((List.isEmpty b1) && false) 1 0 none)), (10, (.v (.int .i64 (IntKind.wrap .i64 (x10 + 1)))))], [⟨1, 34, 9, false, (b0 ++ [[(.v (.int .i64 (avInt (cellAt (obCells (cellAt r120 0)) 0)))), (.v (.int .u64 (avInt (cellAt (obCells (cellAt r120 0)) 1)))), (.v (.int .u64 (avInt (cellAt (obCells (cellAt r120 0)) 2)))), (.v (.int .u64 (avInt (cellAt (obCells (cellAt r120 0)) 3)))), (.v (.int .u64 (avInt (cellAt (obCells (cellAt r120 0)) 4)))), (.v (.int .u64 (avInt (cellAt (obCells (cellAt r120 0)) 5)))), (.v (.int .u64 (avInt (cellAt (obCells (cellAt r120 0)) 6)))), (.v (.int .u64 (avInt (cellAt (obCells (cellAt r120 0)) 7)))), (.v (.int .u64 (avInt (cellAt (obCells (cellAt r120 0)) 8))))]])⟩, ⟨1, 42, 9, false, ([[(.v (.int .u32 x7)), (.v (.int .i64 (avInt (cellAt (lget x1 (Int.toNat x10)) 0)))), (.v (.int .i64 (avInt (cellAt (lget x1 (Int.toNat x10)) 1)))), (.v (.int .i64 (avInt (cellAt (lget x1 (Int.toNat x10)) 2)))), (.v (.bool false)), (.v (.int .u32 0)), (.v (.int .u64 (avInt (cellAt r59 0)))), (.v (.int .i64 0)), (.v (.int .i64 0))]] ++ b1)⟩]⟩)
                                   (none)))
                               (none))
                             (none))
                           (cond (true && (ltI 0 ((((List.length b0) - 0) : Nat) : Int)))
                             (cond ((ltN 0 (List.length b0)) && ((isI .i64 (cellAt (lget b0 0) 0)) && ((isI .u64 (cellAt (lget b0 0) 1)) && ((isI .u64 (cellAt (lget b0 0) 2)) && ((isI .u64 (cellAt (lget b0 0) 3)) && ((isI .u64 (cellAt (lget b0 0) 4)) && ((isI .u64 (cellAt (lget b0 0) 5)) && ((isI .u64 (cellAt (lget b0 0) 6)) && ((isI .u64 (cellAt (lget b0 0) 7)) && (isI .u64 (cellAt (lget b0 0) 8)))))))))))
                               ((ev 26 [(.agg [(.v (.int .i64 (avInt (cellAt (lget b0 0) 0)))), (.v (.int .u64 (avInt (cellAt (lget b0 0) 1)))), (.v (.int .u64 (avInt (cellAt (lget b0 0) 2)))), (.v (.int .u64 (avInt (cellAt (lget b0 0) 3)))), (.v (.int .u64 (avInt (cellAt (lget b0 0) 4)))), (.v (.int .u64 (avInt (cellAt (lget b0 0) 5)))), (.v (.int .u64 (avInt (cellAt (lget b0 0) 6)))), (.v (.int .u64 (avInt (cellAt (lget b0 0) 7)))), (.v (.int .u64 (avInt (cellAt (lget b0 0) 8))))]), (.agg [(.v (.int .i64 (avInt (cellAt (obCells (cellAt r43 0)) 0)))), (.v (.int .u64 (avInt (cellAt (obCells (cellAt r43 0)) 1)))), (.v (.int .u64 (avInt (cellAt (obCells (cellAt r43 0)) 2)))), (.v (.int .u64 (avInt (cellAt (obCells (cellAt r43 0)) 3)))), (.v (.int .u64 (avInt (cellAt (obCells (cellAt r43 0)) 4)))), (.v (.int .u64 (avInt (cellAt (obCells (cellAt r43 0)) 5)))), (.v (.int .u64 (avInt (cellAt (obCells (cellAt r43 0)) 6)))), (.v (.int .u64 (avInt (cellAt (obCells (cellAt r43 0)) 7)))), (.v (.int .u64 (avInt (cellAt (obCells (cellAt r43 0)) 8))))]), (.agg [(.v (.int .u32 x7)), (.v (.int .i64 (avInt (cellAt (lget x1 (Int.toNat x10)) 0)))), (.v (.int .i64 (avInt (cellAt (lget x1 (Int.toNat x10)) 1)))), (.v (.int .i64 (avInt (cellAt (lget x1 (Int.toNat x10)) 2)))), (.v (.bool false)), (.v (.int .u32 0)), (.v (.int .u64 (avInt (cellAt r59 0)))), (.v (.int .i64 0)), (.v (.int .i64 0))])]).bind fun r146 =>
                                cond (isL 9 (cellAt r146 0))
                                 (cond (isI .i64 (cellAt r146 1))
                                   (cond (!((avInt (cellAt r146 1)) == 0))
                                     (some ⟨none, ⟨[], []⟩, [(.v (.bool false))]⟩)
                                     (cond (!((((List.length (avXs (cellAt r146 0))) : Nat) : Int) == 2))
                                       (some ⟨none, ⟨[], []⟩, [(.v (.bool false))]⟩)
                                       ((lp 8 1 0 ⟨[(1, (.lst x1n 3 x1)), (2, (.lst x2n 1 x2)), (7, (.v (.int .u32 x7))), (8, (.sl x8n 0 0 none)), (9, (.sl ((List.isEmpty b1) && false) 1 0 none)), (10, (.v (.int .i64 x10))), (17, (.lst (avNil (cellAt r146 0)) 9 (avXs (cellAt r146 0)))), (19, (.v (.int .i64 0)))], [⟨1, 34, 9, false, b0⟩, ⟨1, 42, 9, false, ([[(.v (.int .u32 x7)), (.v (.int .i64 (avInt (cellAt (lget x1 (Int.toNat x10)) 0)))), (.v (.int .i64 (avInt (cellAt (lget x1 (Int.toNat x10)) 1)))), (.v (.int .i64 (avInt (cellAt (lget x1 (Int.toNat x10)) 2)))), (.v (.bool false)), (.v (.int .u32 0)), (.v (.int .u64 (avInt (cellAt r59 0)))), (.v (.int .i64 0)), (.v (.int .i64 0))]] ++ b1)⟩]⟩).bind fun r153 =>
                                        cond (isEx 2 r153)
                                         (cond (likeStG ⟨[(1, (.lst x1n 3 x1)), (2, (.lst x2n 1 x2)), (7, (.v (.int .u32 x7))), (8, (.sl x8n 0 0 none)), (9, (.sl ((List.isEmpty b1) && false) 1 0 none)), (10, (.v (.int .i64 x10)))], [⟨1, 34, 9, false, b0⟩, ⟨1, 42, 9, false, ([[(.v (.int .u32 x7)), (.v (.int .i64 (avInt (cellAt (lget x1 (Int.toNat x10)) 0)))), (.v (.int .i64 (avInt (cellAt (lget x1 (Int.toNat x10)) 1)))), (.v (.int .i64 (avInt (cellAt (lget x1 (Int.toNat x10)) 2)))), (.v (.bool false)), (.v (.int .u32 0)), (.v (.int .u64 (avInt (cellAt r59 0)))), (.v (.int .i64 0)), (.v (.int .i64 0))]] ++ b1)⟩]⟩ r153.st)
                                           (lp 8 0 0 ⟨[(1, (.lst (avNil (frAt r153.st.fr 0).2) 3 (avXs (frAt r153.st.fr 0).2))), (2, (.lst (avNil (frAt r153.st.fr 1).2) 1 (avXs (frAt r153.st.fr 1).2))), (7, (.v (.int .u32 (avInt (frAt r153.st.fr 2).2)))), (8, (.sl (avNil (frAt r153.st.fr 3).2) 0 0 none)), (9, (.sl (avNil (frAt r153.st.fr 4).2) 1 0 none)), (10, (.v (.int .i64 (IntKind.wrap .i64 ((avInt (frAt r153.st.fr 5).2) + 1)))))], [⟨1, 34, 9, false, (blAt r153.st.bl 0).xs⟩, ⟨1, 42, 9, false, (blAt r153.st.bl 1).xs⟩]⟩)
                                           (none))
                                         (cond (isRt r153)
                                           (some ⟨none, ⟨[], []⟩, r153.outs⟩)
                                           (none)))))
                                   (none))
                                 (none))
                               (none))
                             (none)))
                         (none))))
                   (none))
                 (none))
               (cond (!((avInt (cellAt r43 1)) == 0))
                 (some ⟨none, ⟨[], []⟩, [(.v (.bool false))]⟩)
                 (cond (leN ((1 + (List.length b1)) * 64) 140737488355328)
                   (cond (x10 == 0)
                     ((ev 18 [(.agg [(.v (.int .i64 (avInt (cellAt (obCells (cellAt r43 0)) 0)))), (.v (.int .u64 (avInt (cellAt (obCells (cellAt r43 0)) 1)))), (.v (.int .u64 (avInt (cellAt (obCells (cellAt r43 0)) 2)))), (.v (.int .u64 (avInt (cellAt (obCells (cellAt r43 0)) 3)))), (.v (.int .u64 (avInt (cellAt (obCells (cellAt r43 0)) 4)))), (.v (.int .u64 (avInt (cellAt (obCells (cellAt r43 0)) 5)))), (.v (.int .u64 (avInt (cellAt (obCells (cellAt r43 0)) 6)))), (.v (.int .u64 (avInt (cellAt (obCells (cellAt r43 0)) 7)))), (.v (.int .u64 (avInt (cellAt (obCells (cellAt r43 0)) 8))))]), (.agg [(.v (.int .u32 x7)), (.v (.int .i64 (avInt (cellAt (lget x1 (Int.toNat x10)) 0)))), (.v (.int .i64 (avInt (cellAt (lget x1 (Int.toNat x10)) 1)))), (.v (.int .i64 (avInt (cellAt (lget x1 (Int.toNat x10)) 2)))), (.v (.bool false)), (.v (.int .u32 0)), (.v (.int .u64 (avInt (cellAt r59 0)))), (.v (.int .i64 0)), (.v (.int .i64 0))])]).bind fun r170 =>
                      cond ((Ev.isAgg 9 (cellAt r170 0)) && ((isI .i64 (cellAt (obCells (cellAt r170 0)) 0)) && ((isI .u64 (cellAt (obCells (cellAt r170 0)) 1)) && ((isI .u64 (cellAt (obCells (cellAt r170 0)) 2)) && ((isI .u64 (cellAt (obCells (cellAt r170 0)) 3)) && ((isI .u64 (cellAt (obCells (cellAt r170 0)) 4)) && ((isI .u64 (cellAt (obCells (cellAt r170 0)) 5)) && ((isI .u64 (cellAt (obCells (cellAt r170 0)) 6)) && ((isI .u64 (cellAt (obCells (cellAt r170 0)) 7)) && (isI .u64 (cellAt (obCells (cellAt r170 0)) 8)))))))))))
                       (cond (isI .i64 (cellAt r170 1))
                         (cond (!((avInt (cellAt r170 1)) == 0))
                           (some ⟨none, ⟨[], []⟩, [(.v (.bool false))]⟩)
                           (cond (leN (((List.length b0) + 1) * 72) 140737488355328)
                             (lp 8 0 0 ⟨[(1, (.lst x1n 3 x1)), (2, (.lst x2n 1 x2)), (7, (.v (.int .u32 x7))), (8, (.sl false 0 0 none)), (9, (.sl ((List.isEmpty b1) && false) 1 0 none)), (10, (.v (.int .i64 (IntKind.wrap .i64 (x10 + 1)))))], [⟨1, 34, 9, false, (b0 ++ [[(.v (.int .i64 (avInt (cellAt (obCells (cellAt r170 0)) 0)))), (.v (.int .u64 (avInt (cellAt (obCells (cellAt r170 0)) 1)))), (.v (.int .u64 (avInt (cellAt (obCells (cellAt r170 0)) 2)))), (.v (.int .u64 (avInt (cellAt (obCells (cellAt r170 0)) 3)))), (.v (.int .u64 (avInt (cellAt (obCells (cellAt r170 0)) 4)))), (.v (.int .u64 (avInt (cellAt (obCells (cellAt r170 0)) 5)))), (.v (.int .u64 (avInt (cellAt (obCells (cellAt r170 0)) 6)))), (.v (.int .u64 (avInt (cellAt (obCells (cellAt r170 0)) 7)))), (.v (.int .u64 (avInt (cellAt (obCells (cellAt r170 0)) 8))))]])⟩, ⟨1, 42, 9, false, ([[(.v (.int .u32 x7)), (.v (.int .i64 (avInt (cellAt (lget x1 (Int.toNat x10)) 0)))), (.v (.int .i64 (avInt (cellAt (lget x1 (Int.toNat x10)) 1)))), (.v (.int .i64 (avInt (cellAt (lget x1 (Int.toNat x10)) 2)))), (.v (.bool false)), (.v (.int .u32 0)), (.v (.int .u64 (avInt (cellAt r59 0)))), (.v (.int .i64 0)), (.v (.int .i64 0))]] ++ b1)⟩]⟩)
                             (none)))
                         (none))
                       (none))
                     (cond (true && (ltI 0 ((((List.length b0) - 0) : Nat) : Int)))
                       (cond ((ltN 0 (List.length b0)) && ((isI .i64 (cellAt (lget b0 0) 0)) && ((isI .u64 (cellAt (lget b0 0) 1)) && ((isI .u64 (cellAt (lget b0 0) 2)) && ((isI .u64 (cellAt (lget b0 0) 3)) && ((isI .u64 (cellAt (lget b0 0) 4)) && ((isI .u64 (cellAt (lget b0 0) 5)) && ((isI .u64 (cellAt (lget b0 0) 6)) && ((isI .u64 (cellAt (lget b0 0) 7)) && (isI .u64 (cellAt (lget b0 0) 8)))))))))))
                         ((ev 26 [(.agg [(.v (.int .i64 (avInt (cellAt (lget b0 0) 0)))), (.v (.int .u64 (avInt (cellAt (lget b0 0) 1)))), (.v (.int .u64 (avInt (cellAt (lget b0 0) 2)))), (.v (.int .u64 (avInt (cellAt (lget b0 0) 3)))), (.v (.int .u64 (avInt (cellAt (lget b0 0) 4)))), (.v (.int .u64 (avInt (cellAt (lget b0 0) 5)))), (.v (.int .u64 (avInt (cellAt (lget b0 0) 6)))), (.v (.int .u64 (avInt (cellAt (lget b0 0) 7)))), (.v (.int .u64 (avInt (cellAt (lget b0 0) 8))))]), (.agg [(.v (.int .i64 (avInt (cellAt (obCells (cellAt r43 0)) 0)))), (.v (.int .u64 (avInt (cellAt (obCells (cellAt r43 0)) 1)))), (.v (.int .u64 (avInt (cellAt (obCells (cellAt r43 0)) 2)))), (.v (.int .u64 (avInt (cellAt (obCells (cellAt r43 0)) 3)))), (.v (.int .u64 (avInt (cellAt (obCells (cellAt r43 0)) 4)))), (.v (.int .u64 (avInt (cellAt (obCells (cellAt r43 0)) 5)))), (.v (.int .u64 (avInt (cellAt (obCells (cellAt r43 0)) 6)))), (.v (.int .u64 (avInt (cellAt (obCells (cellAt r43 0)) 7)))), (.v (.int .u64 (avInt (cellAt (obCells (cellAt r43 0)) 8))))]), (.agg [(.v (.int .u32 x7)), (.v (.int .i64 (avInt (cellAt (lget x1 (Int.toNat x10)) 0)))), (.v (.int .i64 (avInt (cellAt (lget x1 (Int.toNat x10)) 1)))), (.v (.int .i64 (avInt (cellAt (lget x1 (Int.toNat x10)) 2)))), (.v (.bool false)), (.v (.int .u32 0)), (.v (.int .u64 (avInt (cellAt r59 0)))), (.v (.int .i64 0)), (.v (.int .i64 0))])]).bind fun r196 =>
                          cond (isL 9 (cellAt r196 0))
                           (cond (isI .i64 (cellAt r196 1))
                             (cond (!((avInt (cellAt r196 1)) == 0))
                               (some ⟨none, ⟨[], []⟩, [(.v (.bool false))]⟩)
                               (cond (!((((List.length (avXs (cellAt r196 0))) : Nat) : Int) == 2))
                                 (some ⟨none, ⟨[], []⟩, [(.v (.bool false))]⟩)
                                 ((lp 8 1 0 ⟨[(1, (.lst x1n 3 x1)), (2, (.lst x2n 1 x2)), (7, (.v (.int .u32 x7))), (8, (.sl x8n 0 0 none)), (9, (.sl ((List.isEmpty b1) && false) 1 0 none)), (10, (.v (.int .i64 x10))), (17, (.lst (avNil (cellAt r196 0)) 9 (avXs (cellAt r196 0)))), (19, (.v (.int .i64 0)))], [⟨1, 34, 9, false, b0⟩, ⟨1, 42, 9, false, ([[(.v (.int .u32 x7)), (.v (.int .i64 (avInt (cellAt (lget x1 (Int.toNat x10)) 0)))), (.v (.int .i64 (avInt (cellAt (lget x1 (Int.toNat x10)) 1)))), (.v (.int .i64 (avInt (cellAt (lget x1 (Int.toNat x10)) 2)))), (.v (.bool false)), (.v (.int .u32 0)), (.v (.int .u64 (avInt (cellAt r59 0)))), (.v (.int .i64 0)), (.v (.int .i64 0))]] ++ b1)⟩]⟩).bind fun r203 =>
                                  cond (isEx 2 r203)
                                   (cond (likeStG ⟨[(1, (.lst x1n 3 x1)), (2, (.lst x2n 1 x2)), (7, (.v (.int .u32 x7))), (8, (.sl x8n 0 0 none)), (9, (.sl ((List.isEmpty b1) && false) 1 0 none)), (10, (.v (.int .i64 x10)))], [⟨1, 34, 9, false, b0⟩, ⟨1, 42, 9, false, ([[(.v (.int .u32 x7)), (.v (.int .i64 (avInt (cellAt (lget x1 (Int.toNat x10)) 0)))), (.v (.int .i64 (avInt (cellAt (lget x1 (Int.toNat x10)) 1)))), (.v (.int .i64 (avInt (cellAt (lget x1 (Int.toNat x10)) 2)))), (.v (.bool false)), (.v (.int .u32 0)), (.v (.int .u64 (avInt (cellAt r59 0)))), (.v (.int .i64 0)), (.v (.int .i64 0))]] ++ b1)⟩]⟩ r203.st)
                                     (lp 8 0 0 ⟨[(1, (.lst (avNil (frAt r203.st.fr 0).2) 3 (avXs (frAt r203.st.fr 0).2))), (2, (.lst (avNil (frAt r203.st.fr 1).2) 1 (avXs (frAt r203.st.fr 1).2))), (7, (.v (.int .u32 (avInt (frAt r203.st.fr 2).2)))), (8, (.sl (avNil (frAt r203.st.fr 3).2) 0 0 none)), (9, (.sl (avNil (frAt r203.st.fr 4).2) 1 0 none)), (10, (.v (.int .i64 (IntKind.wrap .i64 ((avInt (frAt r203.st.fr 5).2) + 1)))))], [⟨1, 34, 9, false, (blAt r203.st.bl 0).xs⟩, ⟨1, 42, 9, false, (blAt r203.st.bl 1).xs⟩]⟩)
                                     (none))
                                   (cond (isRt r203)
                                     (some ⟨none, ⟨[], []⟩, r203.outs⟩)
                                     (none)))))
                             (none))
                           (none))
                         (none))
                       (none)))
                   (none))))
             (none))
           (none))
         (none))
       (none))
     (none))
   (some ⟨(some 0), ⟨[(8, (.sl x8n 0 0 none)), (9, (.sl x9n 1 0 none))], [⟨1, 34, 9, false, b0⟩, ⟨1, 42, 9, false, b1⟩]⟩, []⟩) := (lp_eq _ _ _ _).trans (by kernel_rfl)
theorem lp8_2 (x8n : Bool) (x9n : Bool) (x21 : Int) (b0 : List (List AV)) (b1 : List (List AV)) (b2_0 : Int) (b2_1 : Int) : lp 8 2 0 ⟨[(8, (.sl x8n 0 0 none)), (9, (.sl x9n 1 0 none)), (20, (.ptr 2 0 0)), (21, (.v (.int .i64 x21)))], [⟨1, 34, 9, false, b0⟩, ⟨1, 42, 9, false, b1⟩, ⟨1, 40, 2, true, [[(.v (.int .i64 b2_0)), (.v (.int .i64 b2_1))]]⟩]⟩ =
  cond (ltI x21 ((((List.length b1) - 0) : Nat) : Int))
   ((ev 32 [(.lst x8n 9 b0), (.agg [(.v (.int .i64 b2_0)), (.v (.int .i64 b2_1))]), (.v (.int .i64 1))]).bind fun r217 =>
    cond ((Ev.isAgg 9 (cellAt r217 0)) && ((isI .i64 (cellAt (obCells (cellAt r217 0)) 0)) && ((isI .u64 (cellAt (obCells (cellAt r217 0)) 1)) && ((isI .u64 (cellAt (obCells (cellAt r217 0)) 2)) && ((isI .u64 (cellAt (obCells (cellAt r217 0)) 3)) && ((isI .u64 (cellAt (obCells (cellAt r217 0)) 4)) && ((isI .u64 (cellAt (obCells (cellAt r217 0)) 5)) && ((isI .u64 (cellAt (obCells (cellAt r217 0)) 6)) && ((isI .u64 (cellAt (obCells (cellAt r217 0)) 7)) && (isI .u64 (cellAt (obCells (cellAt r217 0)) 8)))))))))))
     (cond (isB (cellAt r217 1))
       (cond (isI .i64 (cellAt r217 2))
         ((ev 16 [(.agg [(.v (.int .i64 (avInt (cellAt (obCells (cellAt r217 0)) 0)))), (.v (.int .u64 (avInt (cellAt (obCells (cellAt r217 0)) 1)))), (.v (.int .u64 (avInt (cellAt (obCells (cellAt r217 0)) 2)))), (.v (.int .u64 (avInt (cellAt (obCells (cellAt r217 0)) 3)))), (.v (.int .u64 (avInt (cellAt (obCells (cellAt r217 0)) 4)))), (.v (.int .u64 (avInt (cellAt (obCells (cellAt r217 0)) 5)))), (.v (.int .u64 (avInt (cellAt (obCells (cellAt r217 0)) 6)))), (.v (.int .u64 (avInt (cellAt (obCells (cellAt r217 0)) 7)))), (.v (.int .u64 (avInt (cellAt (obCells (cellAt r217 0)) 8))))])]).bind fun r229 =>
          cond ((Ev.isAgg 9 (cellAt r229 0)) && ((isI .u32 (cellAt (obCells (cellAt r229 0)) 0)) && ((isI .i64 (cellAt (obCells (cellAt r229 0)) 1)) && ((isI .i64 (cellAt (obCells (cellAt r229 0)) 2)) && ((isI .i64 (cellAt (obCells (cellAt r229 0)) 3)) && ((isB (cellAt (obCells (cellAt r229 0)) 4)) && ((isI .u32 (cellAt (obCells (cellAt r229 0)) 5)) && ((isI .u64 (cellAt (obCells (cellAt r229 0)) 6)) && ((isI .i64 (cellAt (obCells (cellAt r229 0)) 7)) && (isI .i64 (cellAt (obCells (cellAt r229 0)) 8)))))))))))
           (cond (isI .i64 (cellAt r229 1))
             (cond (!(avBool (cellAt r217 1)))
               (some ⟨none, ⟨[], []⟩, [(.v (.bool false))]⟩)
               (cond (!((avInt (cellAt r217 2)) == 0))
                 (some ⟨none, ⟨[], []⟩, [(.v (.bool false))]⟩)
                 (cond (!((avInt (cellAt r229 1)) == 0))
                   (some ⟨none, ⟨[], []⟩, [(.v (.bool false))]⟩)
                   (cond ((leI 0 x21) && (ltI x21 ((((List.length b1) - 0) : Nat) : Int)))
                     (cond ((ltN (0 + (Int.toNat x21)) (List.length b1)) && ((isI .u32 (cellAt (lget b1 (0 + (Int.toNat x21))) 0)) && ((isI .i64 (cellAt (lget b1 (0 + (Int.toNat x21))) 1)) && ((isI .i64 (cellAt (lget b1 (0 + (Int.toNat x21))) 2)) && ((isI .i64 (cellAt (lget b1 (0 + (Int.toNat x21))) 3)) && ((isB (cellAt (lget b1 (0 + (Int.toNat x21))) 4)) && ((isI .u32 (cellAt (lget b1 (0 + (Int.toNat x21))) 5)) && ((isI .u64 (cellAt (lget b1 (0 + (Int.toNat x21))) 6)) && ((isI .i64 (cellAt (lget b1 (0 + (Int.toNat x21))) 7)) && (isI .i64 (cellAt (lget b1 (0 + (Int.toNat x21))) 8)))))))))))
                       (cond (!(((avInt (cellAt (obCells (cellAt r229 0)) 0)) == (avInt (cellAt (lget b1 (0 + (Int.toNat x21))) 0))) && (((avInt (cellAt (obCells (cellAt r229 0)) 1)) == (avInt (cellAt (lget b1 (0 + (Int.toNat x21))) 1))) && (((avInt (cellAt (obCells (cellAt r229 0)) 2)) == (avInt (cellAt (lget b1 (0 + (Int.toNat x21))) 2))) && (((avInt (cellAt (obCells (cellAt r229 0)) 3)) == (avInt (cellAt (lget b1 (0 + (Int.toNat x21))) 3))) && (((avBool (cellAt (obCells (cellAt r229 0)) 4)) == (avBool (cellAt (lget b1 (0 + (Int.toNat x21))) 4))) && (((avInt (cellAt (obCells (cellAt r229 0)) 5)) == (avInt (cellAt (lget b1 (0 + (Int.toNat x21))) 5))) && (((avInt (cellAt (obCells (cellAt r229 0)) 6)) == (avInt (cellAt (lget b1 (0 + (Int.toNat x21))) 6))) && ((0 == (avInt (cellAt (lget b1 (0 + (Int.toNat x21))) 7))) && (0 == (avInt (cellAt (lget b1 (0 + (Int.toNat x21))) 8))))))))))))
                         (some ⟨none, ⟨[], []⟩, [(.v (.bool false))]⟩)
                         (lp 8 2 0 ⟨[(8, (.sl x8n 0 0 none)), (9, (.sl x9n 1 0 none)), (20, (.ptr 2 0 0)), (21, (.v (.int .i64 (IntKind.wrap .i64 (x21 + 1)))))], [⟨1, 34, 9, false, b0⟩, ⟨1, 42, 9, false, b1⟩, ⟨1, 40, 2, true, [[(.v (.int .i64 (avInt (cellAt (obCells (cellAt r229 0)) 7)))), (.v (.int .i64 (avInt (cellAt (obCells (cellAt r229 0)) 8))))]]⟩]⟩))
                       (none))
                     (none)))))
             (none))
           (none))
         (none))
       (none))
     (none))
   (some ⟨(some 4), ⟨[(8, (.sl x8n 0 0 none)), (20, (.ptr 1 0 0))], [⟨1, 34, 9, false, b0⟩, ⟨1, 40, 2, true, [[(.v (.int .i64 b2_0)), (.v (.int .i64 b2_1))]]⟩]⟩, []⟩) := (lp_eq _ _ _ _).trans (by kernel_rfl)
theorem lp8_1 (x1n : Bool) (x1 : List (List AV)) (x2n : Bool) (x2 : List (List AV)) (x7 : Int) (x8n : Bool) (x9n : Bool) (x10 : Int) (x17n : Bool) (x17 : List (List AV)) (x19 : Int) (b0 : List (List AV)) (b1 : List (List AV)) : lp 8 1 0 ⟨[(1, (.lst x1n 3 x1)), (2, (.lst x2n 1 x2)), (7, (.v (.int .u32 x7))), (8, (.sl x8n 0 0 none)), (9, (.sl x9n 1 0 none)), (10, (.v (.int .i64 x10))), (17, (.lst x17n 9 x17)), (19, (.v (.int .i64 x19)))], [⟨1, 34, 9, false, b0⟩, ⟨1, 42, 9, false, b1⟩]⟩ =
  cond (ltI x19 2)
   (cond ((leI 0 x19) && (ltI x19 (((List.length x17) : Nat) : Int)))
     (cond (isI .i64 (cellAt (lget x17 (Int.toNat x19)) 0))
       (cond (true && (ltI 0 ((((List.length b0) - 0) : Nat) : Int)))
         (cond ((ltN 0 (List.length b0)) && (isI .i64 (cellAt (lget b0 0) 0)))
           (cond ((avInt (cellAt (lget x17 (Int.toNat x19)) 0)) == (avInt (cellAt (lget b0 0) 0)))
             (cond ((leI 0 x19) && (ltI x19 (((List.length x17) : Nat) : Int)))
               (cond ((isI .i64 (cellAt (lget x17 (Int.toNat x19)) 0)) && ((isI .u64 (cellAt (lget x17 (Int.toNat x19)) 1)) && ((isI .u64 (cellAt (lget x17 (Int.toNat x19)) 2)) && ((isI .u64 (cellAt (lget x17 (Int.toNat x19)) 3)) && ((isI .u64 (cellAt (lget x17 (Int.toNat x19)) 4)) && ((isI .u64 (cellAt (lget x17 (Int.toNat x19)) 5)) && ((isI .u64 (cellAt (lget x17 (Int.toNat x19)) 6)) && ((isI .u64 (cellAt (lget x17 (Int.toNat x19)) 7)) && (isI .u64 (cellAt (lget x17 (Int.toNat x19)) 8))))))))))
                 (cond (true && (ltI 0 ((((List.length b0) - 0) : Nat) : Int)))
                   (cond (ltN 0 (List.length b0))
                     (lp 8 1 0 ⟨[(1, (.lst x1n 3 x1)), (2, (.lst x2n 1 x2)), (7, (.v (.int .u32 x7))), (8, (.sl x8n 0 0 none)), (9, (.sl x9n 1 0 none)), (10, (.v (.int .i64 x10))), (17, (.lst x17n 9 x17)), (19, (.v (.int .i64 (IntKind.wrap .i64 (x19 + 1)))))], [⟨1, 34, 9, false, (List.set b0 0 [(.v (.int .i64 (avInt (cellAt (lget x17 (Int.toNat x19)) 0)))), (.v (.int .u64 (avInt (cellAt (lget x17 (Int.toNat x19)) 1)))), (.v (.int .u64 (avInt (cellAt (lget x17 (Int.toNat x19)) 2)))), (.v (.int .u64 (avInt (cellAt (lget x17 (Int.toNat x19)) 3)))), (.v (.int .u64 (avInt (cellAt (lget x17 (Int.toNat x19)) 4)))), (.v (.int .u64 (avInt (cellAt (lget x17 (Int.toNat x19)) 5)))), (.v (.int .u64 (avInt (cellAt (lget x17 (Int.toNat x19)) 6)))), (.v (.int .u64 (avInt (cellAt (lget x17 (Int.toNat x19)) 7)))), (.v (.int .u64 (avInt (cellAt (lget x17 (Int.toNat x19)) 8))))])⟩, ⟨1, 42, 9, false, b1⟩]⟩)
                     (none))
                   (none))
                 (none))
               (none))
             (cond ((leI 0 x19) && (ltI x19 (((List.length x17) : Nat) : Int)))
               (cond ((isI .i64 (cellAt (lget x17 (Int.toNat x19)) 0)) && ((isI .u64 (cellAt (lget x17 (Int.toNat x19)) 1)) && ((isI .u64 (cellAt (lget x17 (Int.toNat x19)) 2)) && ((isI .u64 (cellAt (lget x17 (Int.toNat x19)) 3)) && ((isI .u64 (cellAt (lget x17 (Int.toNat x19)) 4)) && ((isI .u64 (cellAt (lget x17 (Int.toNat x19)) 5)) && ((isI .u64 (cellAt (lget x17 (Int.toNat x19)) 6)) && ((isI .u64 (cellAt (lget x17 (Int.toNat x19)) 7)) && (isI .u64 (cellAt (lget x17 (Int.toNat x19)) 8))))))))))
                 (cond (leN (((List.length b0) + 1) * 72) 140737488355328)
                   (lp 8 1 0 ⟨[(1, (.lst x1n 3 x1)), (2, (.lst x2n 1 x2)), (7, (.v (.int .u32 x7))), (8, (.sl false 0 0 none)), (9, (.sl x9n 1 0 none)), (10, (.v (.int .i64 x10))), (17, (.lst x17n 9 x17)), (19, (.v (.int .i64 (IntKind.wrap .i64 (x19 + 1)))))], [⟨1, 34, 9, false, (b0 ++ [[(.v (.int .i64 (avInt (cellAt (lget x17 (Int.toNat x19)) 0)))), (.v (.int .u64 (avInt (cellAt (lget x17 (Int.toNat x19)) 1)))), (.v (.int .u64 (avInt (cellAt (lget x17 (Int.toNat x19)) 2)))), (.v (.int .u64 (avInt (cellAt (lget x17 (Int.toNat x19)) 3)))), (.v (.int .u64 (avInt (cellAt (lget x17 (Int.toNat x19)) 4)))), (.v (.int .u64 (avInt (cellAt (lget x17 (Int.toNat x19)) 5)))), (.v (.int .u64 (avInt (cellAt (lget x17 (Int.toNat x19)) 6)))), (.v (.int .u64 (avInt (cellAt (lget x17 (Int.toNat x19)) 7)))), (.v (.int .u64 (avInt (cellAt (lget x17 (Int.toNat x19)) 8))))]])⟩, ⟨1, 42, 9, false, b1⟩]⟩)
                   (none))
                 (none))
               (none)))
           (none))
         (none))
       (none))
     (none))
   (some ⟨(some 2), ⟨[(1, (.lst x1n 3 x1)), (2, (.lst x2n 1 x2)), (7, (.v (.int .u32 x7))), (8, (.sl x8n 0 0 none)), (9, (.sl x9n 1 0 none)), (10, (.v (.int .i64 x10)))], [⟨1, 34, 9, false, b0⟩, ⟨1, 42, 9, false, b1⟩]⟩, []⟩) := (lp_eq _ _ _ _).trans (by kernel_rfl)
-- "bodega/bodegahand.Pick"
theorem ev9 (a0_0 : Int) (a1_0 : Int) : ev 9 [(.v (.int .i64 a0_0)), (.v (.int .i64 a1_0))] =
  cond (ltI a1_0 1)
   (some [(.v (.int .i64 0))])
   (cond (eqI a1_0 0)
     (none)
     (cond (eqI a1_0 0)
       (none)
       (some [(.v (.int .i64 (Int.tmod (IntKind.wrap .i64 ((Int.tmod a0_0 a1_0) + a1_0)) a1_0)))]))) := (ev_eq _ _).trans (by kernel_rfl)
-- "bodega/record.Origin"
theorem ev10 (a0_0 : Int) : ev 10 [(.v (.int .u64 a0_0))] =
  cond (ltI (IntKind.wrap .i64 ((IntKind.wrap .i64 (bits .and .u64 a0_0 255)) - 1)) 0)
   (some [(.v (.int .i64 0)), (.v (.int .i64 0)), (.v (.bool false))])
   ((ev 13 [(.v (.int .i64 (IntKind.wrap .i64 ((IntKind.wrap .i64 (bits .and .u64 a0_0 255)) - 1)))), (.v (.int .i64 (IntKind.wrap .i64 (Int.fdiv a0_0 256))))]).bind fun r6 =>
    cond (isI .u64 (cellAt r6 0))
     (cond ((avInt (cellAt r6 0)) == 0)
       (some [(.v (.int .i64 0)), (.v (.int .i64 0)), (.v (.bool false))])
       (some [(.v (.int .i64 (IntKind.wrap .i64 ((IntKind.wrap .i64 (bits .and .u64 a0_0 255)) - 1)))), (.v (.int .i64 (IntKind.wrap .i64 (Int.fdiv a0_0 256)))), (.v (.bool true))]))
     (none)) := (ev_eq _ _).trans (by kernel_rfl)
-- "bodega/bodegaref19.Origin"
theorem ev11 (a0_0 : Int) : ev 11 [(.v (.int .u64 a0_0))] =
  cond (leI 1073741824 (IntKind.wrap .u64 (Int.tdiv a0_0 256)))
   (some [(.v (.int .i64 0)), (.v (.int .i64 0)), (.v (.bool false))])
   ((ev 14 [(.v (.int .i64 (IntKind.wrap .i64 ((IntKind.wrap .i64 (Int.tmod a0_0 256)) - 1)))), (.v (.int .i64 (IntKind.wrap .i64 (IntKind.wrap .u64 (Int.tdiv a0_0 256)))))]).bind fun r8 =>
    cond (isI .u64 (cellAt r8 0))
     (cond ((avInt (cellAt r8 0)) == 0)
       (some [(.v (.int .i64 0)), (.v (.int .i64 0)), (.v (.bool false))])
       (some [(.v (.int .i64 (IntKind.wrap .i64 ((IntKind.wrap .i64 (Int.tmod a0_0 256)) - 1)))), (.v (.int .i64 (IntKind.wrap .i64 (IntKind.wrap .u64 (Int.tdiv a0_0 256))))), (.v (.bool true))]))
     (none)) := (ev_eq _ _).trans (by kernel_rfl)
-- "bodega/bodegalaw21.awake"
theorem ev12  : ev 12 [] =
  (ev 13 [(.v (.int .i64 2)), (.v (.int .i64 5))]).bind fun r0 =>
  cond (isI .u64 (cellAt r0 0))
   (some [(.v (.bool ((avInt (cellAt r0 0)) == 1283)))])
   (none) := (ev_eq _ _).trans (by kernel_rfl)
-- "bodega/record.Stamp"
theorem ev13 (a0_0 : Int) (a1_0 : Int) : ev 13 [(.v (.int .i64 a0_0)), (.v (.int .i64 a1_0))] =
  cond (ltI a0_0 0)
   (some [(.v (.int .u64 0))])
   (cond (leI 6 a0_0)
     (some [(.v (.int .u64 0))])
     (cond (ltI a1_0 1)
       (some [(.v (.int .u64 0))])
       (cond (leI 1073741824 a1_0)
         (some [(.v (.int .u64 0))])
         (some [(.v (.int .u64 (bits .or .u64 (IntKind.wrap .u64 ((IntKind.wrap .u64 a1_0) * 256)) (IntKind.wrap .u64 (IntKind.wrap .i64 (a0_0 + 1))))))])))) := (ev_eq _ _).trans (by kernel_rfl)
-- "bodega/bodegaref19.Stamp"
theorem ev14 (a0_0 : Int) (a1_0 : Int) : ev 14 [(.v (.int .i64 a0_0)), (.v (.int .i64 a1_0))] =
  cond (ltI a0_0 0)
   (some [(.v (.int .u64 0))])
   (cond (leI 6 a0_0)
     (some [(.v (.int .u64 0))])
     (cond (ltI a1_0 1)
       (some [(.v (.int .u64 0))])
       (cond (leI 1073741824 a1_0)
         (some [(.v (.int .u64 0))])
         (some [(.v (.int .u64 (IntKind.wrap .u64 ((IntKind.wrap .u64 ((IntKind.wrap .u64 ((IntKind.wrap .u64 a1_0) * 256)) + (IntKind.wrap .u64 a0_0))) + 1))))])))) := (ev_eq _ _).trans (by kernel_rfl)
-- "bodega/bodegalaw21.near"
theorem ev15 (a0_0 : Int) (a0_1 : Int) (a0_2 : Int) (a0_3 : Int) (a0_4 : Bool) (a0_5 : Int) (a0_6 : Int) (a0_7 : Int) (a0_8 : Int) (a1_0 : Int) : ev 15 [(.agg [(.v (.int .u32 a0_0)), (.v (.int .i64 a0_1)), (.v (.int .i64 a0_2)), (.v (.int .i64 a0_3)), (.v (.bool a0_4)), (.v (.int .u32 a0_5)), (.v (.int .u64 a0_6)), (.v (.int .i64 a0_7)), (.v (.int .i64 a0_8))]), (.v (.int .i64 a1_0))] =
  (ev 9 [(.v (.int .i64 a1_0)), (.v (.int .i64 3))]).bind fun r0 =>
  cond (isI .i64 (cellAt r0 0))
   (cond ((avInt (cellAt r0 0)) == 0)
     (some [(.agg [(.v (.int .u32 a0_0)), (.v (.int .i64 a0_1)), (.v (.int .i64 a0_2)), (.v (.int .i64 a0_3)), (.v (.bool a0_4)), (.v (.int .u32 a0_5)), (.v (.int .u64 a0_6)), (.v (.int .i64 a0_7)), (.v (.int .i64 a0_8))])])
     ((ev 9 [(.v (.int .i64 (IntKind.wrap .i64 (Int.tmod a0_6 5000)))), (.v (.int .i64 5000))]).bind fun r6 =>
      cond (isI .i64 (cellAt r6 0))
       (cond ((Int.tmod a0_7 2) == 0)
         (cond a0_4
           (cond (ltI 0 (Int.tmod a0_5 9))
             (cond (!a0_4)
               (cond ((Int.tmod a0_0 5) == 4)
                 (some [(.agg [(.v (.int .u32 (IntKind.wrap .u32 (0 - (Int.tmod a0_0 4))))), (.v (.int .i64 0)), (.v (.int .i64 0)), (.v (.int .i64 0)), (.v (.bool a0_4)), (.v (.int .u32 (IntKind.wrap .u32 (Int.tdiv (Int.tmod a0_5 8) 7)))), (.v (.int .u64 (IntKind.wrap .u64 (avInt (cellAt r6 0))))), (.v (.int .i64 0)), (.v (.int .i64 0))])])
                 (some [(.agg [(.v (.int .u32 a0_0)), (.v (.int .i64 0)), (.v (.int .i64 0)), (.v (.int .i64 0)), (.v (.bool a0_4)), (.v (.int .u32 (IntKind.wrap .u32 (Int.tdiv (Int.tmod a0_5 8) 7)))), (.v (.int .u64 (IntKind.wrap .u64 (avInt (cellAt r6 0))))), (.v (.int .i64 0)), (.v (.int .i64 0))])]))
               (cond ((Int.tmod a0_0 5) == 4)
                 (some [(.agg [(.v (.int .u32 (IntKind.wrap .u32 (0 - (Int.tmod a0_0 4))))), (.v (.int .i64 0)), (.v (.int .i64 0)), (.v (.int .i64 0)), (.v (.bool a0_4)), (.v (.int .u32 a0_5)), (.v (.int .u64 (IntKind.wrap .u64 (avInt (cellAt r6 0))))), (.v (.int .i64 0)), (.v (.int .i64 0))])])
                 (some [(.agg [(.v (.int .u32 a0_0)), (.v (.int .i64 0)), (.v (.int .i64 0)), (.v (.int .i64 0)), (.v (.bool a0_4)), (.v (.int .u32 a0_5)), (.v (.int .u64 (IntKind.wrap .u64 (avInt (cellAt r6 0))))), (.v (.int .i64 0)), (.v (.int .i64 0))])])))
             (cond (!a0_4)
               (cond ((Int.tmod a0_0 5) == 4)
                 (some [(.agg [(.v (.int .u32 (IntKind.wrap .u32 (0 - (Int.tmod a0_0 4))))), (.v (.int .i64 a0_1)), (.v (.int .i64 a0_2)), (.v (.int .i64 a0_3)), (.v (.bool a0_4)), (.v (.int .u32 (IntKind.wrap .u32 (Int.tdiv (Int.tmod a0_5 8) 7)))), (.v (.int .u64 (IntKind.wrap .u64 (avInt (cellAt r6 0))))), (.v (.int .i64 0)), (.v (.int .i64 0))])])
                 (some [(.agg [(.v (.int .u32 a0_0)), (.v (.int .i64 a0_1)), (.v (.int .i64 a0_2)), (.v (.int .i64 a0_3)), (.v (.bool a0_4)), (.v (.int .u32 (IntKind.wrap .u32 (Int.tdiv (Int.tmod a0_5 8) 7)))), (.v (.int .u64 (IntKind.wrap .u64 (avInt (cellAt r6 0))))), (.v (.int .i64 0)), (.v (.int .i64 0))])]))
               (cond ((Int.tmod a0_0 5) == 4)
                 (some [(.agg [(.v (.int .u32 (IntKind.wrap .u32 (0 - (Int.tmod a0_0 4))))), (.v (.int .i64 a0_1)), (.v (.int .i64 a0_2)), (.v (.int .i64 a0_3)), (.v (.bool a0_4)), (.v (.int .u32 a0_5)), (.v (.int .u64 (IntKind.wrap .u64 (avInt (cellAt r6 0))))), (.v (.int .i64 0)), (.v (.int .i64 0))])])
                 (some [(.agg [(.v (.int .u32 a0_0)), (.v (.int .i64 a0_1)), (.v (.int .i64 a0_2)), (.v (.int .i64 a0_3)), (.v (.bool a0_4)), (.v (.int .u32 a0_5)), (.v (.int .u64 (IntKind.wrap .u64 (avInt (cellAt r6 0))))), (.v (.int .i64 0)), (.v (.int .i64 0))])]))))
           (cond (!a0_4)
             (cond ((Int.tmod a0_0 5) == 4)
               (some [(.agg [(.v (.int .u32 (IntKind.wrap .u32 (0 - (Int.tmod a0_0 4))))), (.v (.int .i64 a0_1)), (.v (.int .i64 a0_2)), (.v (.int .i64 a0_3)), (.v (.bool a0_4)), (.v (.int .u32 (IntKind.wrap .u32 (Int.tdiv (Int.tmod a0_5 8) 7)))), (.v (.int .u64 (IntKind.wrap .u64 (avInt (cellAt r6 0))))), (.v (.int .i64 0)), (.v (.int .i64 0))])])
               (some [(.agg [(.v (.int .u32 a0_0)), (.v (.int .i64 a0_1)), (.v (.int .i64 a0_2)), (.v (.int .i64 a0_3)), (.v (.bool a0_4)), (.v (.int .u32 (IntKind.wrap .u32 (Int.tdiv (Int.tmod a0_5 8) 7)))), (.v (.int .u64 (IntKind.wrap .u64 (avInt (cellAt r6 0))))), (.v (.int .i64 0)), (.v (.int .i64 0))])]))
             (cond ((Int.tmod a0_0 5) == 4)
               (some [(.agg [(.v (.int .u32 (IntKind.wrap .u32 (0 - (Int.tmod a0_0 4))))), (.v (.int .i64 a0_1)), (.v (.int .i64 a0_2)), (.v (.int .i64 a0_3)), (.v (.bool a0_4)), (.v (.int .u32 a0_5)), (.v (.int .u64 (IntKind.wrap .u64 (avInt (cellAt r6 0))))), (.v (.int .i64 0)), (.v (.int .i64 0))])])
               (some [(.agg [(.v (.int .u32 a0_0)), (.v (.int .i64 a0_1)), (.v (.int .i64 a0_2)), (.v (.int .i64 a0_3)), (.v (.bool a0_4)), (.v (.int .u32 a0_5)), (.v (.int .u64 (IntKind.wrap .u64 (avInt (cellAt r6 0))))), (.v (.int .i64 0)), (.v (.int .i64 0))])]))))
         ((ev 9 [(.v (.int .i64 a0_7)), (.v (.int .i64 154))]).bind fun r56 =>
          cond (isI .i64 (cellAt r56 0))
           ((ev 9 [(.v (.int .i64 a0_8)), (.v (.int .i64 9))]).bind fun r59 =>
            cond (isI .i64 (cellAt r59 0))
             (cond a0_4
               (cond (ltI 0 (Int.tmod a0_5 9))
                 (cond (!a0_4)
                   (cond ((Int.tmod a0_0 5) == 4)
                     (some [(.agg [(.v (.int .u32 (IntKind.wrap .u32 (0 - (Int.tmod a0_0 4))))), (.v (.int .i64 0)), (.v (.int .i64 0)), (.v (.int .i64 0)), (.v (.bool a0_4)), (.v (.int .u32 (IntKind.wrap .u32 (Int.tdiv (Int.tmod a0_5 8) 7)))), (.v (.int .u64 (IntKind.wrap .u64 (avInt (cellAt r6 0))))), (.v (.int .i64 (IntKind.wrap .i64 (103 + (avInt (cellAt r56 0)))))), (.v (.int .i64 (avInt (cellAt r59 0))))])])
                     (some [(.agg [(.v (.int .u32 a0_0)), (.v (.int .i64 0)), (.v (.int .i64 0)), (.v (.int .i64 0)), (.v (.bool a0_4)), (.v (.int .u32 (IntKind.wrap .u32 (Int.tdiv (Int.tmod a0_5 8) 7)))), (.v (.int .u64 (IntKind.wrap .u64 (avInt (cellAt r6 0))))), (.v (.int .i64 (IntKind.wrap .i64 (103 + (avInt (cellAt r56 0)))))), (.v (.int .i64 (avInt (cellAt r59 0))))])]))
                   (cond ((Int.tmod a0_0 5) == 4)
                     (some [(.agg [(.v (.int .u32 (IntKind.wrap .u32 (0 - (Int.tmod a0_0 4))))), (.v (.int .i64 0)), (.v (.int .i64 0)), (.v (.int .i64 0)), (.v (.bool a0_4)), (.v (.int .u32 a0_5)), (.v (.int .u64 (IntKind.wrap .u64 (avInt (cellAt r6 0))))), (.v (.int .i64 (IntKind.wrap .i64 (103 + (avInt (cellAt r56 0)))))), (.v (.int .i64 (avInt (cellAt r59 0))))])])
                     (some [(.agg [(.v (.int .u32 a0_0)), (.v (.int .i64 0)), (.v (.int .i64 0)), (.v (.int .i64 0)), (.v (.bool a0_4)), (.v (.int .u32 a0_5)), (.v (.int .u64 (IntKind.wrap .u64 (avInt (cellAt r6 0))))), (.v (.int .i64 (IntKind.wrap .i64 (103 + (avInt (cellAt r56 0)))))), (.v (.int .i64 (avInt (cellAt r59 0))))])])))
                 (cond (!a0_4)
                   (cond ((Int.tmod a0_0 5) == 4)
                     (some [(.agg [(.v (.int .u32 (IntKind.wrap .u32 (0 - (Int.tmod a0_0 4))))), (.v (.int .i64 a0_1)), (.v (.int .i64 a0_2)), (.v (.int .i64 a0_3)), (.v (.bool a0_4)), (.v (.int .u32 (IntKind.wrap .u32 (Int.tdiv (Int.tmod a0_5 8) 7)))), (.v (.int .u64 (IntKind.wrap .u64 (avInt (cellAt r6 0))))), (.v (.int .i64 (IntKind.wrap .i64 (103 + (avInt (cellAt r56 0)))))), (.v (.int .i64 (avInt (cellAt r59 0))))])])
                     (some [(.agg [(.v (.int .u32 a0_0)), (.v (.int .i64 a0_1)), (.v (.int .i64 a0_2)), (.v (.int .i64 a0_3)), (.v (.bool a0_4)), (.v (.int .u32 (IntKind.wrap .u32 (Int.tdiv (Int.tmod a0_5 8) 7)))), (.v (.int .u64 (IntKind.wrap .u64 (avInt (cellAt r6 0))))), (.v (.int .i64 (IntKind.wrap .i64 (103 + (avInt (cellAt r56 0)))))), (.v (.int .i64 (avInt (cellAt r59 0))))])]))
                   (cond ((Int.tmod a0_0 5) == 4)
                     (some [(.agg [(.v (.int .u32 (IntKind.wrap .u32 (0 - (Int.tmod a0_0 4))))), (.v (.int .i64 a0_1)), (.v (.int .i64 a0_2)), (.v (.int .i64 a0_3)), (.v (.bool a0_4)), (.v (.int .u32 a0_5)), (.v (.int .u64 (IntKind.wrap .u64 (avInt (cellAt r6 0))))), (.v (.int .i64 (IntKind.wrap .i64 (103 + (avInt (cellAt r56 0)))))), (.v (.int .i64 (avInt (cellAt r59 0))))])])
                     (some [(.agg [(.v (.int .u32 a0_0)), (.v (.int .i64 a0_1)), (.v (.int .i64 a0_2)), (.v (.int .i64 a0_3)), (.v (.bool a0_4)), (.v (.int .u32 a0_5)), (.v (.int .u64 (IntKind.wrap .u64 (avInt (cellAt r6 0))))), (.v (.int .i64 (IntKind.wrap .i64 (103 + (avInt (cellAt r56 0)))))), (.v (.int .i64 (avInt (cellAt r59 0))))])]))))
               (cond (!a0_4)
                 (cond ((Int.tmod a0_0 5) == 4)
                   (some [(.agg [(.v (.int .u32 (IntKind.wrap .u32 (0 - (Int.tmod a0_0 4))))), (.v (.int .i64 a0_1)), (.v (.int .i64 a0_2)), (.v (.int .i64 a0_3)), (.v (.bool a0_4)), (.v (.int .u32 (IntKind.wrap .u32 (Int.tdiv (Int.tmod a0_5 8) 7)))), (.v (.int .u64 (IntKind.wrap .u64 (avInt (cellAt r6 0))))), (.v (.int .i64 (IntKind.wrap .i64 (103 + (avInt (cellAt r56 0)))))), (.v (.int .i64 (avInt (cellAt r59 0))))])])
                   (some [(.agg [(.v (.int .u32 a0_0)), (.v (.int .i64 a0_1)), (.v (.int .i64 a0_2)), (.v (.int .i64 a0_3)), (.v (.bool a0_4)), (.v (.int .u32 (IntKind.wrap .u32 (Int.tdiv (Int.tmod a0_5 8) 7)))), (.v (.int .u64 (IntKind.wrap .u64 (avInt (cellAt r6 0))))), (.v (.int .i64 (IntKind.wrap .i64 (103 + (avInt (cellAt r56 0)))))), (.v (.int .i64 (avInt (cellAt r59 0))))])]))
                 (cond ((Int.tmod a0_0 5) == 4)
                   (some [(.agg [(.v (.int .u32 (IntKind.wrap .u32 (0 - (Int.tmod a0_0 4))))), (.v (.int .i64 a0_1)), (.v (.int .i64 a0_2)), (.v (.int .i64 a0_3)), (.v (.bool a0_4)), (.v (.int .u32 a0_5)), (.v (.int .u64 (IntKind.wrap .u64 (avInt (cellAt r6 0))))), (.v (.int .i64 (IntKind.wrap .i64 (103 + (avInt (cellAt r56 0)))))), (.v (.int .i64 (avInt (cellAt r59 0))))])])
                   (some [(.agg [(.v (.int .u32 a0_0)), (.v (.int .i64 a0_1)), (.v (.int .i64 a0_2)), (.v (.int .i64 a0_3)), (.v (.bool a0_4)), (.v (.int .u32 a0_5)), (.v (.int .u64 (IntKind.wrap .u64 (avInt (cellAt r6 0))))), (.v (.int .i64 (IntKind.wrap .i64 (103 + (avInt (cellAt r56 0)))))), (.v (.int .i64 (avInt (cellAt r59 0))))])]))))
             (none))
           (none)))
       (none)))
   (none) := (ev_eq _ _).trans (by kernel_rfl)
-- "bodega/record.Read"
theorem ev16 (a0_0 : Int) (a0_1 : Int) (a0_2 : Int) (a0_3 : Int) (a0_4 : Int) (a0_5 : Int) (a0_6 : Int) (a0_7 : Int) (a0_8 : Int) : ev 16 [(.agg [(.v (.int .i64 a0_0)), (.v (.int .u64 a0_1)), (.v (.int .u64 a0_2)), (.v (.int .u64 a0_3)), (.v (.int .u64 a0_4)), (.v (.int .u64 a0_5)), (.v (.int .u64 a0_6)), (.v (.int .u64 a0_7)), (.v (.int .u64 a0_8))])] =
  (ev 25 [(.v (.int .u64 a0_2))]).bind fun r0 =>
  cond ((Ev.isAgg 3 (cellAt r0 0)) && ((isI .i64 (cellAt (obCells (cellAt r0 0)) 0)) && ((isI .i64 (cellAt (obCells (cellAt r0 0)) 1)) && (isI .u32 (cellAt (obCells (cellAt r0 0)) 2)))))
   (cond (!((avInt (cellAt (obCells (cellAt r0 0)) 0)) == 1))
     (some [(.agg [(.v (.int .u32 0)), (.v (.int .i64 0)), (.v (.int .i64 0)), (.v (.int .i64 0)), (.v (.bool false)), (.v (.int .u32 0)), (.v (.int .u64 0)), (.v (.int .i64 0)), (.v (.int .i64 0))]), (.v (.int .i64 14))])
     (cond (ltI 1 (avInt (cellAt (obCells (cellAt r0 0)) 2)))
       (some [(.agg [(.v (.int .u32 0)), (.v (.int .i64 0)), (.v (.int .i64 0)), (.v (.int .i64 0)), (.v (.bool false)), (.v (.int .u32 0)), (.v (.int .u64 0)), (.v (.int .i64 0)), (.v (.int .i64 0))]), (.v (.int .i64 14))])
       (cond (!((IntKind.wrap .u32 (Int.fdiv a0_3 4294967296)) == 0))
         ((ev 33 [(.v (.int .u32 (IntKind.wrap .u32 (Int.fdiv a0_3 4294967296))))]).bind fun r11 =>
          cond ((Ev.isAgg 2 (cellAt r11 0)) && ((isI .i64 (cellAt (obCells (cellAt r11 0)) 0)) && (isI .i64 (cellAt (obCells (cellAt r11 0)) 1))))
           (cond ((avInt (cellAt (obCells (cellAt r0 0)) 2)) == 1)
             ((ev 21 [(.agg [(.v (.int .u32 (IntKind.wrap .u32 a0_3))), (.v (.int .i64 0)), (.v (.int .i64 0)), (.v (.int .i64 0)), (.v (.bool ((avInt (cellAt (obCells (cellAt r0 0)) 2)) == 1))), (.v (.int .u32 (IntKind.wrap .u32 a0_4))), (.v (.int .u64 a0_7)), (.v (.int .i64 (avInt (cellAt (obCells (cellAt r11 0)) 0)))), (.v (.int .i64 (avInt (cellAt (obCells (cellAt r11 0)) 1))))])]).bind fun r15 =>
              cond (isB (cellAt r15 0))
               (cond (!(avBool (cellAt r15 0)))
                 (some [(.agg [(.v (.int .u32 0)), (.v (.int .i64 0)), (.v (.int .i64 0)), (.v (.int .i64 0)), (.v (.bool false)), (.v (.int .u32 0)), (.v (.int .u64 0)), (.v (.int .i64 0)), (.v (.int .i64 0))]), (.v (.int .i64 14))])
                 ((ev 34 [(.agg [(.v (.int .i64 a0_0)), (.v (.int .u64 a0_1)), (.v (.int .u64 a0_2)), (.v (.int .u64 a0_3)), (.v (.int .u64 a0_4)), (.v (.int .u64 a0_5)), (.v (.int .u64 a0_6)), (.v (.int .u64 a0_7)), (.v (.int .u64 a0_8))]), (.agg [(.v (.int .u32 (IntKind.wrap .u32 a0_3))), (.v (.int .i64 0)), (.v (.int .i64 0)), (.v (.int .i64 0)), (.v (.bool ((avInt (cellAt (obCells (cellAt r0 0)) 2)) == 1))), (.v (.int .u32 (IntKind.wrap .u32 a0_4))), (.v (.int .u64 a0_7)), (.v (.int .i64 (avInt (cellAt (obCells (cellAt r11 0)) 0)))), (.v (.int .i64 (avInt (cellAt (obCells (cellAt r11 0)) 1))))])]).bind fun r18 =>
                  cond ((Ev.isAgg 9 (cellAt r18 0)) && ((isI .i64 (cellAt (obCells (cellAt r18 0)) 0)) && ((isI .u64 (cellAt (obCells (cellAt r18 0)) 1)) && ((isI .u64 (cellAt (obCells (cellAt r18 0)) 2)) && ((isI .u64 (cellAt (obCells (cellAt r18 0)) 3)) && ((isI .u64 (cellAt (obCells (cellAt r18 0)) 4)) && ((isI .u64 (cellAt (obCells (cellAt r18 0)) 5)) && ((isI .u64 (cellAt (obCells (cellAt r18 0)) 6)) && ((isI .u64 (cellAt (obCells (cellAt r18 0)) 7)) && (isI .u64 (cellAt (obCells (cellAt r18 0)) 8)))))))))))
                   (cond (!(((avInt (cellAt (obCells (cellAt r18 0)) 2)) == a0_2) && (((avInt (cellAt (obCells (cellAt r18 0)) 3)) == a0_3) && (((avInt (cellAt (obCells (cellAt r18 0)) 4)) == a0_4) && (((avInt (cellAt (obCells (cellAt r18 0)) 5)) == a0_5) && (((avInt (cellAt (obCells (cellAt r18 0)) 6)) == a0_6) && (((avInt (cellAt (obCells (cellAt r18 0)) 7)) == a0_7) && ((avInt (cellAt (obCells (cellAt r18 0)) 8)) == a0_8))))))))
                     (some [(.agg [(.v (.int .u32 0)), (.v (.int .i64 0)), (.v (.int .i64 0)), (.v (.int .i64 0)), (.v (.bool false)), (.v (.int .u32 0)), (.v (.int .u64 0)), (.v (.int .i64 0)), (.v (.int .i64 0))]), (.v (.int .i64 14))])
                     (some [(.agg [(.v (.int .u32 (IntKind.wrap .u32 a0_3))), (.v (.int .i64 0)), (.v (.int .i64 0)), (.v (.int .i64 0)), (.v (.bool ((avInt (cellAt (obCells (cellAt r0 0)) 2)) == 1))), (.v (.int .u32 (IntKind.wrap .u32 a0_4))), (.v (.int .u64 a0_7)), (.v (.int .i64 (avInt (cellAt (obCells (cellAt r11 0)) 0)))), (.v (.int .i64 (avInt (cellAt (obCells (cellAt r11 0)) 1))))]), (.v (.int .i64 0))]))
                   (none)))
               (none))
             ((ev 21 [(.agg [(.v (.int .u32 (IntKind.wrap .u32 a0_3))), (.v (.int .i64 (IntKind.wrap .i64 a0_4))), (.v (.int .i64 (IntKind.wrap .i64 a0_5))), (.v (.int .i64 (IntKind.wrap .i64 a0_6))), (.v (.bool ((avInt (cellAt (obCells (cellAt r0 0)) 2)) == 1))), (.v (.int .u32 0)), (.v (.int .u64 a0_7)), (.v (.int .i64 (avInt (cellAt (obCells (cellAt r11 0)) 0)))), (.v (.int .i64 (avInt (cellAt (obCells (cellAt r11 0)) 1))))])]).bind fun r44 =>
              cond (isB (cellAt r44 0))
               (cond (!(avBool (cellAt r44 0)))
                 (some [(.agg [(.v (.int .u32 0)), (.v (.int .i64 0)), (.v (.int .i64 0)), (.v (.int .i64 0)), (.v (.bool false)), (.v (.int .u32 0)), (.v (.int .u64 0)), (.v (.int .i64 0)), (.v (.int .i64 0))]), (.v (.int .i64 14))])
                 ((ev 34 [(.agg [(.v (.int .i64 a0_0)), (.v (.int .u64 a0_1)), (.v (.int .u64 a0_2)), (.v (.int .u64 a0_3)), (.v (.int .u64 a0_4)), (.v (.int .u64 a0_5)), (.v (.int .u64 a0_6)), (.v (.int .u64 a0_7)), (.v (.int .u64 a0_8))]), (.agg [(.v (.int .u32 (IntKind.wrap .u32 a0_3))), (.v (.int .i64 (IntKind.wrap .i64 a0_4))), (.v (.int .i64 (IntKind.wrap .i64 a0_5))), (.v (.int .i64 (IntKind.wrap .i64 a0_6))), (.v (.bool ((avInt (cellAt (obCells (cellAt r0 0)) 2)) == 1))), (.v (.int .u32 0)), (.v (.int .u64 a0_7)), (.v (.int .i64 (avInt (cellAt (obCells (cellAt r11 0)) 0)))), (.v (.int .i64 (avInt (cellAt (obCells (cellAt r11 0)) 1))))])]).bind fun r47 =>
                  cond ((Ev.isAgg 9 (cellAt r47 0)) && ((isI .i64 (cellAt (obCells (cellAt r47 0)) 0)) && ((isI .u64 (cellAt (obCells (cellAt r47 0)) 1)) && ((isI .u64 (cellAt (obCells (cellAt r47 0)) 2)) && ((isI .u64 (cellAt (obCells (cellAt r47 0)) 3)) && ((isI .u64 (cellAt (obCells (cellAt r47 0)) 4)) && ((isI .u64 (cellAt (obCells (cellAt r47 0)) 5)) && ((isI .u64 (cellAt (obCells (cellAt r47 0)) 6)) && ((isI .u64 (cellAt (obCells (cellAt r47 0)) 7)) && (isI .u64 (cellAt (obCells (cellAt r47 0)) 8)))))))))))
                   (cond (!(((avInt (cellAt (obCells (cellAt r47 0)) 2)) == a0_2) && (((avInt (cellAt (obCells (cellAt r47 0)) 3)) == a0_3) && (((avInt (cellAt (obCells (cellAt r47 0)) 4)) == a0_4) && (((avInt (cellAt (obCells (cellAt r47 0)) 5)) == a0_5) && (((avInt (cellAt (obCells (cellAt r47 0)) 6)) == a0_6) && (((avInt (cellAt (obCells (cellAt r47 0)) 7)) == a0_7) && ((avInt (cellAt (obCells (cellAt r47 0)) 8)) == a0_8))))))))
                     (some [(.agg [(.v (.int .u32 0)), (.v (.int .i64 0)), (.v (.int .i64 0)), (.v (.int .i64 0)), (.v (.bool false)), (.v (.int .u32 0)), (.v (.int .u64 0)), (.v (.int .i64 0)), (.v (.int .i64 0))]), (.v (.int .i64 14))])
                     (some [(.agg [(.v (.int .u32 (IntKind.wrap .u32 a0_3))), (.v (.int .i64 (IntKind.wrap .i64 a0_4))), (.v (.int .i64 (IntKind.wrap .i64 a0_5))), (.v (.int .i64 (IntKind.wrap .i64 a0_6))), (.v (.bool ((avInt (cellAt (obCells (cellAt r0 0)) 2)) == 1))), (.v (.int .u32 0)), (.v (.int .u64 a0_7)), (.v (.int .i64 (avInt (cellAt (obCells (cellAt r11 0)) 0)))), (.v (.int .i64 (avInt (cellAt (obCells (cellAt r11 0)) 1))))]), (.v (.int .i64 0))]))
                   (none)))
               (none)))
           (none))
         (cond ((avInt (cellAt (obCells (cellAt r0 0)) 2)) == 1)
           ((ev 21 [(.agg [(.v (.int .u32 (IntKind.wrap .u32 a0_3))), (.v (.int .i64 0)), (.v (.int .i64 0)), (.v (.int .i64 0)), (.v (.bool ((avInt (cellAt (obCells (cellAt r0 0)) 2)) == 1))), (.v (.int .u32 (IntKind.wrap .u32 a0_4))), (.v (.int .u64 a0_7)), (.v (.int .i64 0)), (.v (.int .i64 0))])]).bind fun r60 =>
            cond (isB (cellAt r60 0))
             (cond (!(avBool (cellAt r60 0)))
               (some [(.agg [(.v (.int .u32 0)), (.v (.int .i64 0)), (.v (.int .i64 0)), (.v (.int .i64 0)), (.v (.bool false)), (.v (.int .u32 0)), (.v (.int .u64 0)), (.v (.int .i64 0)), (.v (.int .i64 0))]), (.v (.int .i64 14))])
               ((ev 34 [(.agg [(.v (.int .i64 a0_0)), (.v (.int .u64 a0_1)), (.v (.int .u64 a0_2)), (.v (.int .u64 a0_3)), (.v (.int .u64 a0_4)), (.v (.int .u64 a0_5)), (.v (.int .u64 a0_6)), (.v (.int .u64 a0_7)), (.v (.int .u64 a0_8))]), (.agg [(.v (.int .u32 (IntKind.wrap .u32 a0_3))), (.v (.int .i64 0)), (.v (.int .i64 0)), (.v (.int .i64 0)), (.v (.bool ((avInt (cellAt (obCells (cellAt r0 0)) 2)) == 1))), (.v (.int .u32 (IntKind.wrap .u32 a0_4))), (.v (.int .u64 a0_7)), (.v (.int .i64 0)), (.v (.int .i64 0))])]).bind fun r63 =>
                cond ((Ev.isAgg 9 (cellAt r63 0)) && ((isI .i64 (cellAt (obCells (cellAt r63 0)) 0)) && ((isI .u64 (cellAt (obCells (cellAt r63 0)) 1)) && ((isI .u64 (cellAt (obCells (cellAt r63 0)) 2)) && ((isI .u64 (cellAt (obCells (cellAt r63 0)) 3)) && ((isI .u64 (cellAt (obCells (cellAt r63 0)) 4)) && ((isI .u64 (cellAt (obCells (cellAt r63 0)) 5)) && ((isI .u64 (cellAt (obCells (cellAt r63 0)) 6)) && ((isI .u64 (cellAt (obCells (cellAt r63 0)) 7)) && (isI .u64 (cellAt (obCells (cellAt r63 0)) 8)))))))))))
                 (cond (!(((avInt (cellAt (obCells (cellAt r63 0)) 2)) == a0_2) && (((avInt (cellAt (obCells (cellAt r63 0)) 3)) == a0_3) && (((avInt (cellAt (obCells (cellAt r63 0)) 4)) == a0_4) && (((avInt (cellAt (obCells (cellAt r63 0)) 5)) == a0_5) && (((avInt (cellAt (obCells (cellAt r63 0)) 6)) == a0_6) && (((avInt (cellAt (obCells (cellAt r63 0)) 7)) == a0_7) && ((avInt (cellAt (obCells (cellAt r63 0)) 8)) == a0_8))))))))
                   (some [(.agg [(.v (.int .u32 0)), (.v (.int .i64 0)), (.v (.int .i64 0)), (.v (.int .i64 0)), (.v (.bool false)), (.v (.int .u32 0)), (.v (.int .u64 0)), (.v (.int .i64 0)), (.v (.int .i64 0))]), (.v (.int .i64 14))])
                   (some [(.agg [(.v (.int .u32 (IntKind.wrap .u32 a0_3))), (.v (.int .i64 0)), (.v (.int .i64 0)), (.v (.int .i64 0)), (.v (.bool ((avInt (cellAt (obCells (cellAt r0 0)) 2)) == 1))), (.v (.int .u32 (IntKind.wrap .u32 a0_4))), (.v (.int .u64 a0_7)), (.v (.int .i64 0)), (.v (.int .i64 0))]), (.v (.int .i64 0))]))
                 (none)))
             (none))
           ((ev 21 [(.agg [(.v (.int .u32 (IntKind.wrap .u32 a0_3))), (.v (.int .i64 (IntKind.wrap .i64 a0_4))), (.v (.int .i64 (IntKind.wrap .i64 a0_5))), (.v (.int .i64 (IntKind.wrap .i64 a0_6))), (.v (.bool ((avInt (cellAt (obCells (cellAt r0 0)) 2)) == 1))), (.v (.int .u32 0)), (.v (.int .u64 a0_7)), (.v (.int .i64 0)), (.v (.int .i64 0))])]).bind fun r89 =>
            cond (isB (cellAt r89 0))
             (cond (!(avBool (cellAt r89 0)))
               (some [(.agg [(.v (.int .u32 0)), (.v (.int .i64 0)), (.v (.int .i64 0)), (.v (.int .i64 0)), (.v (.bool false)), (.v (.int .u32 0)), (.v (.int .u64 0)), (.v (.int .i64 0)), (.v (.int .i64 0))]), (.v (.int .i64 14))])
               ((ev 34 [(.agg [(.v (.int .i64 a0_0)), (.v (.int .u64 a0_1)), (.v (.int .u64 a0_2)), (.v (.int .u64 a0_3)), (.v (.int .u64 a0_4)), (.v (.int .u64 a0_5)), (.v (.int .u64 a0_6)), (.v (.int .u64 a0_7)), (.v (.int .u64 a0_8))]), (.agg [(.v (.int .u32 (IntKind.wrap .u32 a0_3))), (.v (.int .i64 (IntKind.wrap .i64 a0_4))), (.v (.int .i64 (IntKind.wrap .i64 a0_5))), (.v (.int .i64 (IntKind.wrap .i64 a0_6))), (.v (.bool ((avInt (cellAt (obCells (cellAt r0 0)) 2)) == 1))), (.v (.int .u32 0)), (.v (.int .u64 a0_7)), (.v (.int .i64 0)), (.v (.int .i64 0))])]).bind fun r92 =>
                cond ((Ev.isAgg 9 (cellAt r92 0)) && ((isI .i64 (cellAt (obCells (cellAt r92 0)) 0)) && ((isI .u64 (cellAt (obCells (cellAt r92 0)) 1)) && ((isI .u64 (cellAt (obCells (cellAt r92 0)) 2)) && ((isI .u64 (cellAt (obCells (cellAt r92 0)) 3)) && ((isI .u64 (cellAt (obCells (cellAt r92 0)) 4)) && ((isI .u64 (cellAt (obCells (cellAt r92 0)) 5)) && ((isI .u64 (cellAt (obCells (cellAt r92 0)) 6)) && ((isI .u64 (cellAt (obCells (cellAt r92 0)) 7)) && (isI .u64 (cellAt (obCells (cellAt r92 0)) 8)))))))))))
                 (cond (!(((avInt (cellAt (obCells (cellAt r92 0)) 2)) == a0_2) && (((avInt (cellAt (obCells (cellAt r92 0)) 3)) == a0_3) && (((avInt (cellAt (obCells (cellAt r92 0)) 4)) == a0_4) && (((avInt (cellAt (obCells (cellAt r92 0)) 5)) == a0_5) && (((avInt (cellAt (obCells (cellAt r92 0)) 6)) == a0_6) && (((avInt (cellAt (obCells (cellAt r92 0)) 7)) == a0_7) && ((avInt (cellAt (obCells (cellAt r92 0)) 8)) == a0_8))))))))
                   (some [(.agg [(.v (.int .u32 0)), (.v (.int .i64 0)), (.v (.int .i64 0)), (.v (.int .i64 0)), (.v (.bool false)), (.v (.int .u32 0)), (.v (.int .u64 0)), (.v (.int .i64 0)), (.v (.int .i64 0))]), (.v (.int .i64 14))])
                   (some [(.agg [(.v (.int .u32 (IntKind.wrap .u32 a0_3))), (.v (.int .i64 (IntKind.wrap .i64 a0_4))), (.v (.int .i64 (IntKind.wrap .i64 a0_5))), (.v (.int .i64 (IntKind.wrap .i64 a0_6))), (.v (.bool ((avInt (cellAt (obCells (cellAt r0 0)) 2)) == 1))), (.v (.int .u32 0)), (.v (.int .u64 a0_7)), (.v (.int .i64 0)), (.v (.int .i64 0))]), (.v (.int .i64 0))]))
                 (none)))
             (none))))))
   (none) := (ev_eq _ _).trans (by kernel_rfl)
-- "bodega/bodegaref19.ReadRecord"
theorem ev17 (a0_0 : Int) (a0_1 : Int) (a0_2 : Int) (a0_3 : Int) (a0_4 : Int) (a0_5 : Int) (a0_6 : Int) (a0_7 : Int) (a0_8 : Int) : ev 17 [(.agg [(.v (.int .i64 a0_0)), (.v (.int .u64 a0_1)), (.v (.int .u64 a0_2)), (.v (.int .u64 a0_3)), (.v (.int .u64 a0_4)), (.v (.int .u64 a0_5)), (.v (.int .u64 a0_6)), (.v (.int .u64 a0_7)), (.v (.int .u64 a0_8))])] =
  (ev 35 [(.agg [(.v (.int .i64 a0_0)), (.v (.int .u64 a0_1)), (.v (.int .u64 a0_2)), (.v (.int .u64 a0_3)), (.v (.int .u64 a0_4)), (.v (.int .u64 a0_5)), (.v (.int .u64 a0_6)), (.v (.int .u64 a0_7)), (.v (.int .u64 a0_8))])]).bind fun r1 =>
  cond (isI .u32 (cellAt r1 0))
   ((ev 36 [(.agg [(.v (.int .i64 a0_0)), (.v (.int .u64 a0_1)), (.v (.int .u64 a0_2)), (.v (.int .u64 a0_3)), (.v (.int .u64 a0_4)), (.v (.int .u64 a0_5)), (.v (.int .u64 a0_6)), (.v (.int .u64 a0_7)), (.v (.int .u64 a0_8))])]).bind fun r6 =>
    cond (isI .i64 (cellAt r6 0))
     (cond (!((avInt (cellAt r6 0)) == 1))
       (some [(.agg [(.v (.int .u32 0)), (.v (.int .i64 0)), (.v (.int .i64 0)), (.v (.int .i64 0)), (.v (.bool false)), (.v (.int .u32 0)), (.v (.int .u64 0)), (.v (.int .i64 0)), (.v (.int .i64 0))]), (.v (.int .i64 14))])
       ((ev 35 [(.agg [(.v (.int .i64 a0_0)), (.v (.int .u64 a0_1)), (.v (.int .u64 a0_2)), (.v (.int .u64 a0_3)), (.v (.int .u64 a0_4)), (.v (.int .u64 a0_5)), (.v (.int .u64 a0_6)), (.v (.int .u64 a0_7)), (.v (.int .u64 a0_8))])]).bind fun r9 =>
        cond (isI .u32 (cellAt r9 0))
         (cond (ltI 1 (avInt (cellAt r9 0)))
           (some [(.agg [(.v (.int .u32 0)), (.v (.int .i64 0)), (.v (.int .i64 0)), (.v (.int .i64 0)), (.v (.bool false)), (.v (.int .u32 0)), (.v (.int .u64 0)), (.v (.int .i64 0)), (.v (.int .i64 0))]), (.v (.int .i64 14))])
           (cond (!(a0_8 == 0))
             (some [(.agg [(.v (.int .u32 0)), (.v (.int .i64 0)), (.v (.int .i64 0)), (.v (.int .i64 0)), (.v (.bool false)), (.v (.int .u32 0)), (.v (.int .u64 0)), (.v (.int .i64 0)), (.v (.int .i64 0))]), (.v (.int .i64 14))])
             ((ev 37 [(.v (.int .u32 (IntKind.wrap .u32 (Int.fdiv a0_3 4294967296))))]).bind fun r13 =>
              cond (isB (cellAt r13 0))
               (cond (!(avBool (cellAt r13 0)))
                 (some [(.agg [(.v (.int .u32 0)), (.v (.int .i64 0)), (.v (.int .i64 0)), (.v (.int .i64 0)), (.v (.bool false)), (.v (.int .u32 0)), (.v (.int .u64 0)), (.v (.int .i64 0)), (.v (.int .i64 0))]), (.v (.int .i64 14))])
                 (cond (!((IntKind.wrap .u32 (Int.fdiv a0_3 4294967296)) == 0))
                   ((ev 38 [(.v (.int .u32 (IntKind.wrap .u32 (Int.fdiv a0_3 4294967296))))]).bind fun r17 =>
                    cond ((Ev.isAgg 2 (cellAt r17 0)) && ((isI .i64 (cellAt (obCells (cellAt r17 0)) 0)) && (isI .i64 (cellAt (obCells (cellAt r17 0)) 1))))
                     (cond ((avInt (cellAt r1 0)) == 1)
                       (cond (leI 4294967296 a0_4)
                         (some [(.agg [(.v (.int .u32 0)), (.v (.int .i64 0)), (.v (.int .i64 0)), (.v (.int .i64 0)), (.v (.bool false)), (.v (.int .u32 0)), (.v (.int .u64 0)), (.v (.int .i64 0)), (.v (.int .i64 0))]), (.v (.int .i64 14))])
                         (cond (!(a0_5 == 0))
                           (some [(.agg [(.v (.int .u32 0)), (.v (.int .i64 0)), (.v (.int .i64 0)), (.v (.int .i64 0)), (.v (.bool false)), (.v (.int .u32 0)), (.v (.int .u64 0)), (.v (.int .i64 0)), (.v (.int .i64 0))]), (.v (.int .i64 14))])
                           (cond (!(a0_6 == 0))
                             (some [(.agg [(.v (.int .u32 0)), (.v (.int .i64 0)), (.v (.int .i64 0)), (.v (.int .i64 0)), (.v (.bool false)), (.v (.int .u32 0)), (.v (.int .u64 0)), (.v (.int .i64 0)), (.v (.int .i64 0))]), (.v (.int .i64 14))])
                             ((ev 22 [(.agg [(.v (.int .u32 (IntKind.wrap .u32 a0_3))), (.v (.int .i64 0)), (.v (.int .i64 0)), (.v (.int .i64 0)), (.v (.bool ((avInt (cellAt r1 0)) == 1))), (.v (.int .u32 (IntKind.wrap .u32 a0_4))), (.v (.int .u64 a0_7)), (.v (.int .i64 (avInt (cellAt (obCells (cellAt r17 0)) 0)))), (.v (.int .i64 (avInt (cellAt (obCells (cellAt r17 0)) 1))))])]).bind fun r24 =>
                              cond (isB (cellAt r24 0))
                               (cond (!(avBool (cellAt r24 0)))
                                 (some [(.agg [(.v (.int .u32 0)), (.v (.int .i64 0)), (.v (.int .i64 0)), (.v (.int .i64 0)), (.v (.bool false)), (.v (.int .u32 0)), (.v (.int .u64 0)), (.v (.int .i64 0)), (.v (.int .i64 0))]), (.v (.int .i64 14))])
                                 (some [(.agg [(.v (.int .u32 (IntKind.wrap .u32 a0_3))), (.v (.int .i64 0)), (.v (.int .i64 0)), (.v (.int .i64 0)), (.v (.bool ((avInt (cellAt r1 0)) == 1))), (.v (.int .u32 (IntKind.wrap .u32 a0_4))), (.v (.int .u64 a0_7)), (.v (.int .i64 (avInt (cellAt (obCells (cellAt r17 0)) 0)))), (.v (.int .i64 (avInt (cellAt (obCells (cellAt r17 0)) 1))))]), (.v (.int .i64 0))]))
                               (none)))))
                       ((lp 17 0 0 ⟨[(1, (.ptr 0 0 0)), (2, (.ptr 1 0 0)), (4, (.ptr 2 0 0)), (6, (.v (.int .i64 0)))], [⟨1, 34, 9, true, [[(.v (.int .i64 a0_0)), (.v (.int .u64 a0_1)), (.v (.int .u64 a0_2)), (.v (.int .u64 a0_3)), (.v (.int .u64 a0_4)), (.v (.int .u64 a0_5)), (.v (.int .u64 a0_6)), (.v (.int .u64 a0_7)), (.v (.int .u64 a0_8))]]⟩, ⟨1, 51, 9, true, [[(.v (.int .u32 0)), (.v (.int .i64 0)), (.v (.int .i64 0)), (.v (.int .i64 0)), (.v (.bool false)), (.v (.int .u32 0)), (.v (.int .u64 0)), (.v (.int .i64 0)), (.v (.int .i64 0))]]⟩, ⟨1, 51, 9, true, [[(.v (.int .u32 (IntKind.wrap .u32 a0_3))), (.v (.int .i64 0)), (.v (.int .i64 0)), (.v (.int .i64 0)), (.v (.bool ((avInt (cellAt r1 0)) == 1))), (.v (.int .u32 0)), (.v (.int .u64 a0_7)), (.v (.int .i64 (avInt (cellAt (obCells (cellAt r17 0)) 0)))), (.v (.int .i64 (avInt (cellAt (obCells (cellAt r17 0)) 1))))]]⟩]⟩).bind fun r28 =>
                        cond (isEx 0 r28)
                         (cond (likeStG ⟨[(2, (.ptr 0 0 0)), (4, (.ptr 1 0 0))], [⟨1, 51, 9, true, [[(.v (.int .u32 0)), (.v (.int .i64 0)), (.v (.int .i64 0)), (.v (.int .i64 0)), (.v (.bool false)), (.v (.int .u32 0)), (.v (.int .u64 0)), (.v (.int .i64 0)), (.v (.int .i64 0))]]⟩, ⟨1, 51, 9, true, [[(.v (.int .u32 (IntKind.wrap .u32 a0_3))), (.v (.int .i64 0)), (.v (.int .i64 0)), (.v (.int .i64 0)), (.v (.bool ((avInt (cellAt r1 0)) == 1))), (.v (.int .u32 0)), (.v (.int .u64 a0_7)), (.v (.int .i64 (avInt (cellAt (obCells (cellAt r17 0)) 0)))), (.v (.int .i64 (avInt (cellAt (obCells (cellAt r17 0)) 1))))]]⟩]⟩ r28.st)
                           ((ev 22 [(.agg [(.v (.int .u32 (avInt (cellAt (lget (blAt r28.st.bl 1).xs 0) 0)))), (.v (.int .i64 (avInt (cellAt (lget (blAt r28.st.bl 1).xs 0) 1)))), (.v (.int .i64 (avInt (cellAt (lget (blAt r28.st.bl 1).xs 0) 2)))), (.v (.int .i64 (avInt (cellAt (lget (blAt r28.st.bl 1).xs 0) 3)))), (.v (.bool (avBool (cellAt (lget (blAt r28.st.bl 1).xs 0) 4)))), (.v (.int .u32 (avInt (cellAt (lget (blAt r28.st.bl 1).xs 0) 5)))), (.v (.int .u64 (avInt (cellAt (lget (blAt r28.st.bl 1).xs 0) 6)))), (.v (.int .i64 (avInt (cellAt (lget (blAt r28.st.bl 1).xs 0) 7)))), (.v (.int .i64 (avInt (cellAt (lget (blAt r28.st.bl 1).xs 0) 8))))])]).bind fun r47 =>
                            cond (isB (cellAt r47 0))
                             (cond (!(avBool (cellAt r47 0)))
                               (some [(.agg [(.v (.int .u32 0)), (.v (.int .i64 0)), (.v (.int .i64 0)), (.v (.int .i64 0)), (.v (.bool false)), (.v (.int .u32 0)), (.v (.int .u64 0)), (.v (.int .i64 0)), (.v (.int .i64 0))]), (.v (.int .i64 14))])
                               (some [(.agg [(.v (.int .u32 (avInt (cellAt (lget (blAt r28.st.bl 1).xs 0) 0)))), (.v (.int .i64 (avInt (cellAt (lget (blAt r28.st.bl 1).xs 0) 1)))), (.v (.int .i64 (avInt (cellAt (lget (blAt r28.st.bl 1).xs 0) 2)))), (.v (.int .i64 (avInt (cellAt (lget (blAt r28.st.bl 1).xs 0) 3)))), (.v (.bool (avBool (cellAt (lget (blAt r28.st.bl 1).xs 0) 4)))), (.v (.int .u32 (avInt (cellAt (lget (blAt r28.st.bl 1).xs 0) 5)))), (.v (.int .u64 (avInt (cellAt (lget (blAt r28.st.bl 1).xs 0) 6)))), (.v (.int .i64 (avInt (cellAt (lget (blAt r28.st.bl 1).xs 0) 7)))), (.v (.int .i64 (avInt (cellAt (lget (blAt r28.st.bl 1).xs 0) 8))))]), (.v (.int .i64 0))]))
                             (none))
                           (none))
                         (cond (isRt r28)
                           (some r28.outs)
                           (none))))
                     (none))
                   (cond ((avInt (cellAt r1 0)) == 1)
                     (cond (leI 4294967296 a0_4)
                       (some [(.agg [(.v (.int .u32 0)), (.v (.int .i64 0)), (.v (.int .i64 0)), (.v (.int .i64 0)), (.v (.bool false)), (.v (.int .u32 0)), (.v (.int .u64 0)), (.v (.int .i64 0)), (.v (.int .i64 0))]), (.v (.int .i64 14))])
                       (cond (!(a0_5 == 0))
                         (some [(.agg [(.v (.int .u32 0)), (.v (.int .i64 0)), (.v (.int .i64 0)), (.v (.int .i64 0)), (.v (.bool false)), (.v (.int .u32 0)), (.v (.int .u64 0)), (.v (.int .i64 0)), (.v (.int .i64 0))]), (.v (.int .i64 14))])
                         (cond (!(a0_6 == 0))
                           (some [(.agg [(.v (.int .u32 0)), (.v (.int .i64 0)), (.v (.int .i64 0)), (.v (.int .i64 0)), (.v (.bool false)), (.v (.int .u32 0)), (.v (.int .u64 0)), (.v (.int .i64 0)), (.v (.int .i64 0))]), (.v (.int .i64 14))])
                           ((ev 22 [(.agg [(.v (.int .u32 (IntKind.wrap .u32 a0_3))), (.v (.int .i64 0)), (.v (.int .i64 0)), (.v (.int .i64 0)), (.v (.bool ((avInt (cellAt r1 0)) == 1))), (.v (.int .u32 (IntKind.wrap .u32 a0_4))), (.v (.int .u64 a0_7)), (.v (.int .i64 0)), (.v (.int .i64 0))])]).bind fun r56 =>
                            cond (isB (cellAt r56 0))
                             (cond (!(avBool (cellAt r56 0)))
                               (some [(.agg [(.v (.int .u32 0)), (.v (.int .i64 0)), (.v (.int .i64 0)), (.v (.int .i64 0)), (.v (.bool false)), (.v (.int .u32 0)), (.v (.int .u64 0)), (.v (.int .i64 0)), (.v (.int .i64 0))]), (.v (.int .i64 14))])
                               (some [(.agg [(.v (.int .u32 (IntKind.wrap .u32 a0_3))), (.v (.int .i64 0)), (.v (.int .i64 0)), (.v (.int .i64 0)), (.v (.bool ((avInt (cellAt r1 0)) == 1))), (.v (.int .u32 (IntKind.wrap .u32 a0_4))), (.v (.int .u64 a0_7)), (.v (.int .i64 0)), (.v (.int .i64 0))]), (.v (.int .i64 0))]))
                             (none)))))
                     ((lp 17 0 0 ⟨[(1, (.ptr 0 0 0)), (2, (.ptr 1 0 0)), (4, (.ptr 2 0 0)), (6, (.v (.int .i64 0)))], [⟨1, 34, 9, true, [[(.v (.int .i64 a0_0)), (.v (.int .u64 a0_1)), (.v (.int .u64 a0_2)), (.v (.int .u64 a0_3)), (.v (.int .u64 a0_4)), (.v (.int .u64 a0_5)), (.v (.int .u64 a0_6)), (.v (.int .u64 a0_7)), (.v (.int .u64 a0_8))]]⟩, ⟨1, 51, 9, true, [[(.v (.int .u32 0)), (.v (.int .i64 0)), (.v (.int .i64 0)), (.v (.int .i64 0)), (.v (.bool false)), (.v (.int .u32 0)), (.v (.int .u64 0)), (.v (.int .i64 0)), (.v (.int .i64 0))]]⟩, ⟨1, 51, 9, true, [[(.v (.int .u32 (IntKind.wrap .u32 a0_3))), (.v (.int .i64 0)), (.v (.int .i64 0)), (.v (.int .i64 0)), (.v (.bool ((avInt (cellAt r1 0)) == 1))), (.v (.int .u32 0)), (.v (.int .u64 a0_7)), (.v (.int .i64 0)), (.v (.int .i64 0))]]⟩]⟩).bind fun r60 =>
                      cond (isEx 0 r60)
                       (cond (likeStG ⟨[(2, (.ptr 0 0 0)), (4, (.ptr 1 0 0))], [⟨1, 51, 9, true, [[(.v (.int .u32 0)), (.v (.int .i64 0)), (.v (.int .i64 0)), (.v (.int .i64 0)), (.v (.bool false)), (.v (.int .u32 0)), (.v (.int .u64 0)), (.v (.int .i64 0)), (.v (.int .i64 0))]]⟩, ⟨1, 51, 9, true, [[(.v (.int .u32 (IntKind.wrap .u32 a0_3))), (.v (.int .i64 0)), (.v (.int .i64 0)), (.v (.int .i64 0)), (.v (.bool ((avInt (cellAt r1 0)) == 1))), (.v (.int .u32 0)), (.v (.int .u64 a0_7)), (.v (.int .i64 0)), (.v (.int .i64 0))]]⟩]⟩ r60.st)
                         ((ev 22 [(.agg [(.v (.int .u32 (avInt (cellAt (lget (blAt r60.st.bl 1).xs 0) 0)))), (.v (.int .i64 (avInt (cellAt (lget (blAt r60.st.bl 1).xs 0) 1)))), (.v (.int .i64 (avInt (cellAt (lget (blAt r60.st.bl 1).xs 0) 2)))), (.v (.int .i64 (avInt (cellAt (lget (blAt r60.st.bl 1).xs 0) 3)))), (.v (.bool (avBool (cellAt (lget (blAt r60.st.bl 1).xs 0) 4)))), (.v (.int .u32 (avInt (cellAt (lget (blAt r60.st.bl 1).xs 0) 5)))), (.v (.int .u64 (avInt (cellAt (lget (blAt r60.st.bl 1).xs 0) 6)))), (.v (.int .i64 (avInt (cellAt (lget (blAt r60.st.bl 1).xs 0) 7)))), (.v (.int .i64 (avInt (cellAt (lget (blAt r60.st.bl 1).xs 0) 8))))])]).bind fun r79 =>
                          cond (isB (cellAt r79 0))
                           (cond (!(avBool (cellAt r79 0)))
                             (some [(.agg [(.v (.int .u32 0)), (.v (.int .i64 0)), (.v (.int .i64 0)), (.v (.int .i64 0)), (.v (.bool false)), (.v (.int .u32 0)), (.v (.int .u64 0)), (.v (.int .i64 0)), (.v (.int .i64 0))]), (.v (.int .i64 14))])
                             (some [(.agg [(.v (.int .u32 (avInt (cellAt (lget (blAt r60.st.bl 1).xs 0) 0)))), (.v (.int .i64 (avInt (cellAt (lget (blAt r60.st.bl 1).xs 0) 1)))), (.v (.int .i64 (avInt (cellAt (lget (blAt r60.st.bl 1).xs 0) 2)))), (.v (.int .i64 (avInt (cellAt (lget (blAt r60.st.bl 1).xs 0) 3)))), (.v (.bool (avBool (cellAt (lget (blAt r60.st.bl 1).xs 0) 4)))), (.v (.int .u32 (avInt (cellAt (lget (blAt r60.st.bl 1).xs 0) 5)))), (.v (.int .u64 (avInt (cellAt (lget (blAt r60.st.bl 1).xs 0) 6)))), (.v (.int .i64 (avInt (cellAt (lget (blAt r60.st.bl 1).xs 0) 7)))), (.v (.int .i64 (avInt (cellAt (lget (blAt r60.st.bl 1).xs 0) 8))))]), (.v (.int .i64 0))]))
                           (none))
                         (none))
                       (cond (isRt r60)
                         (some r60.outs)
                         (none))))))
               (none))))
         (none)))
     (none))
   (none) := (ev_eq _ _).trans (by kernel_rfl)
theorem lp17_0 (x6 : Int) (b0_0 : Int) (b0_1 : Int) (b0_2 : Int) (b0_3 : Int) (b0_4 : Int) (b0_5 : Int) (b0_6 : Int) (b0_7 : Int) (b0_8 : Int) (b1_0 : Int) (b1_1 : Int) (b1_2 : Int) (b1_3 : Int) (b1_4 : Bool) (b1_5 : Int) (b1_6 : Int) (b1_7 : Int) (b1_8 : Int) (b2_0 : Int) (b2_1 : Int) (b2_2 : Int) (b2_3 : Int) (b2_4 : Bool) (b2_5 : Int) (b2_6 : Int) (b2_7 : Int) (b2_8 : Int) : lp 17 0 0 ⟨[(1, (.ptr 0 0 0)), (2, (.ptr 1 0 0)), (4, (.ptr 2 0 0)), (6, (.v (.int .i64 x6)))], [⟨1, 34, 9, true, [[(.v (.int .i64 b0_0)), (.v (.int .u64 b0_1)), (.v (.int .u64 b0_2)), (.v (.int .u64 b0_3)), (.v (.int .u64 b0_4)), (.v (.int .u64 b0_5)), (.v (.int .u64 b0_6)), (.v (.int .u64 b0_7)), (.v (.int .u64 b0_8))]]⟩, ⟨1, 51, 9, true, [[(.v (.int .u32 b1_0)), (.v (.int .i64 b1_1)), (.v (.int .i64 b1_2)), (.v (.int .i64 b1_3)), (.v (.bool b1_4)), (.v (.int .u32 b1_5)), (.v (.int .u64 b1_6)), (.v (.int .i64 b1_7)), (.v (.int .i64 b1_8))]]⟩, ⟨1, 51, 9, true, [[(.v (.int .u32 b2_0)), (.v (.int .i64 b2_1)), (.v (.int .i64 b2_2)), (.v (.int .i64 b2_3)), (.v (.bool b2_4)), (.v (.int .u32 b2_5)), (.v (.int .u64 b2_6)), (.v (.int .i64 b2_7)), (.v (.int .i64 b2_8))]]⟩]⟩ =
  cond (ltI x6 3)
   (cond ((leI 0 (IntKind.wrap .i64 (2 + x6))) && (ltI (IntKind.wrap .i64 (2 + x6)) 7))
     (cond ((leI 0 x6) && (ltI x6 3))
       (lp 17 0 0 ⟨[(1, (.ptr 0 0 0)), (2, (.ptr 1 0 0)), (4, (.ptr 2 0 0)), (6, (.v (.int .i64 (IntKind.wrap .i64 (x6 + 1)))))], [⟨1, 34, 9, true, [[(.v (.int .i64 b0_0)), (.v (.int .u64 b0_1)), (.v (.int .u64 b0_2)), (.v (.int .u64 b0_3)), (.v (.int .u64 b0_4)), (.v (.int .u64 b0_5)), (.v (.int .u64 b0_6)), (.v (.int .u64 b0_7)), (.v (.int .u64 b0_8))]]⟩, ⟨1, 51, 9, true, [[(.v (.int .u32 b1_0)), (.v (.int .i64 b1_1)), (.v (.int .i64 b1_2)), (.v (.int .i64 b1_3)), (.v (.bool b1_4)), (.v (.int .u32 b1_5)), (.v (.int .u64 b1_6)), (.v (.int .i64 b1_7)), (.v (.int .i64 b1_8))]]⟩, ⟨1, 51, 9, true, [[(.v (.int .u32 b2_0)), (.v (.int .i64 (cond (Nat.beq (Int.toNat x6) 0) (IntKind.wrap .i64 (cond (Nat.beq (Int.toNat (IntKind.wrap .i64 (2 + x6))) 0) b0_2 (cond (Nat.beq (Int.toNat (IntKind.wrap .i64 (2 + x6))) 1) b0_3 (cond (Nat.beq (Int.toNat (IntKind.wrap .i64 (2 + x6))) 2) b0_4 (cond (Nat.beq (Int.toNat (IntKind.wrap .i64 (2 + x6))) 3) b0_5 (cond (Nat.beq (Int.toNat (IntKind.wrap .i64 (2 + x6))) 4) b0_6 (cond (Nat.beq (Int.toNat (IntKind.wrap .i64 (2 + x6))) 5) b0_7 b0_8))))))) b2_1))), (.v (.int .i64 (cond (Nat.beq (Int.toNat x6) 1) (IntKind.wrap .i64 (cond (Nat.beq (Int.toNat (IntKind.wrap .i64 (2 + x6))) 0) b0_2 (cond (Nat.beq (Int.toNat (IntKind.wrap .i64 (2 + x6))) 1) b0_3 (cond (Nat.beq (Int.toNat (IntKind.wrap .i64 (2 + x6))) 2) b0_4 (cond (Nat.beq (Int.toNat (IntKind.wrap .i64 (2 + x6))) 3) b0_5 (cond (Nat.beq (Int.toNat (IntKind.wrap .i64 (2 + x6))) 4) b0_6 (cond (Nat.beq (Int.toNat (IntKind.wrap .i64 (2 + x6))) 5) b0_7 b0_8))))))) b2_2))), (.v (.int .i64 (cond (Nat.beq (Int.toNat x6) 2) (IntKind.wrap .i64 (cond (Nat.beq (Int.toNat (IntKind.wrap .i64 (2 + x6))) 0) b0_2 (cond (Nat.beq (Int.toNat (IntKind.wrap .i64 (2 + x6))) 1) b0_3 (cond (Nat.beq (Int.toNat (IntKind.wrap .i64 (2 + x6))) 2) b0_4 (cond (Nat.beq (Int.toNat (IntKind.wrap .i64 (2 + x6))) 3) b0_5 (cond (Nat.beq (Int.toNat (IntKind.wrap .i64 (2 + x6))) 4) b0_6 (cond (Nat.beq (Int.toNat (IntKind.wrap .i64 (2 + x6))) 5) b0_7 b0_8))))))) b2_3))), (.v (.bool b2_4)), (.v (.int .u32 b2_5)), (.v (.int .u64 b2_6)), (.v (.int .i64 b2_7)), (.v (.int .i64 b2_8))]]⟩]⟩)
       (none))
     (none))
   (some ⟨(some 0), ⟨[(2, (.ptr 0 0 0)), (4, (.ptr 1 0 0))], [⟨1, 51, 9, true, [[(.v (.int .u32 b1_0)), (.v (.int .i64 b1_1)), (.v (.int .i64 b1_2)), (.v (.int .i64 b1_3)), (.v (.bool b1_4)), (.v (.int .u32 b1_5)), (.v (.int .u64 b1_6)), (.v (.int .i64 b1_7)), (.v (.int .i64 b1_8))]]⟩, ⟨1, 51, 9, true, [[(.v (.int .u32 b2_0)), (.v (.int .i64 b2_1)), (.v (.int .i64 b2_2)), (.v (.int .i64 b2_3)), (.v (.bool b2_4)), (.v (.int .u32 b2_5)), (.v (.int .u64 b2_6)), (.v (.int .i64 b2_7)), (.v (.int .i64 b2_8))]]⟩]⟩, []⟩) := (lp_eq _ _ _ _).trans (by kernel_rfl)
-- "bodega/record.Write"
theorem ev18 (a0_0 : Int) (a0_1 : Int) (a0_2 : Int) (a0_3 : Int) (a0_4 : Int) (a0_5 : Int) (a0_6 : Int) (a0_7 : Int) (a0_8 : Int) (a1_0 : Int) (a1_1 : Int) (a1_2 : Int) (a1_3 : Int) (a1_4 : Bool) (a1_5 : Int) (a1_6 : Int) (a1_7 : Int) (a1_8 : Int) : ev 18 [(.agg [(.v (.int .i64 a0_0)), (.v (.int .u64 a0_1)), (.v (.int .u64 a0_2)), (.v (.int .u64 a0_3)), (.v (.int .u64 a0_4)), (.v (.int .u64 a0_5)), (.v (.int .u64 a0_6)), (.v (.int .u64 a0_7)), (.v (.int .u64 a0_8))]), (.agg [(.v (.int .u32 a1_0)), (.v (.int .i64 a1_1)), (.v (.int .i64 a1_2)), (.v (.int .i64 a1_3)), (.v (.bool a1_4)), (.v (.int .u32 a1_5)), (.v (.int .u64 a1_6)), (.v (.int .i64 a1_7)), (.v (.int .i64 a1_8))])] =
  (ev 21 [(.agg [(.v (.int .u32 a1_0)), (.v (.int .i64 a1_1)), (.v (.int .i64 a1_2)), (.v (.int .i64 a1_3)), (.v (.bool a1_4)), (.v (.int .u32 a1_5)), (.v (.int .u64 a1_6)), (.v (.int .i64 a1_7)), (.v (.int .i64 a1_8))])]).bind fun r0 =>
  cond (isB (cellAt r0 0))
   (cond (!(avBool (cellAt r0 0)))
     (some [(.agg [(.v (.int .i64 0)), (.v (.int .u64 0)), (.v (.int .u64 0)), (.v (.int .u64 0)), (.v (.int .u64 0)), (.v (.int .u64 0)), (.v (.int .u64 0)), (.v (.int .u64 0)), (.v (.int .u64 0))]), (.v (.int .i64 1))])
     ((ev 25 [(.v (.int .u64 a0_2))]).bind fun r3 =>
      cond ((Ev.isAgg 3 (cellAt r3 0)) && ((isI .i64 (cellAt (obCells (cellAt r3 0)) 0)) && ((isI .i64 (cellAt (obCells (cellAt r3 0)) 1)) && (isI .u32 (cellAt (obCells (cellAt r3 0)) 2)))))
       (cond (!((avInt (cellAt (obCells (cellAt r3 0)) 0)) == 1))
         (some [(.agg [(.v (.int .i64 0)), (.v (.int .u64 0)), (.v (.int .u64 0)), (.v (.int .u64 0)), (.v (.int .u64 0)), (.v (.int .u64 0)), (.v (.int .u64 0)), (.v (.int .u64 0)), (.v (.int .u64 0))]), (.v (.int .i64 1))])
         ((ev 34 [(.agg [(.v (.int .i64 a0_0)), (.v (.int .u64 a0_1)), (.v (.int .u64 a0_2)), (.v (.int .u64 a0_3)), (.v (.int .u64 a0_4)), (.v (.int .u64 a0_5)), (.v (.int .u64 a0_6)), (.v (.int .u64 a0_7)), (.v (.int .u64 a0_8))]), (.agg [(.v (.int .u32 a1_0)), (.v (.int .i64 a1_1)), (.v (.int .i64 a1_2)), (.v (.int .i64 a1_3)), (.v (.bool a1_4)), (.v (.int .u32 a1_5)), (.v (.int .u64 a1_6)), (.v (.int .i64 a1_7)), (.v (.int .i64 a1_8))])]).bind fun r8 =>
          cond ((Ev.isAgg 9 (cellAt r8 0)) && ((isI .i64 (cellAt (obCells (cellAt r8 0)) 0)) && ((isI .u64 (cellAt (obCells (cellAt r8 0)) 1)) && ((isI .u64 (cellAt (obCells (cellAt r8 0)) 2)) && ((isI .u64 (cellAt (obCells (cellAt r8 0)) 3)) && ((isI .u64 (cellAt (obCells (cellAt r8 0)) 4)) && ((isI .u64 (cellAt (obCells (cellAt r8 0)) 5)) && ((isI .u64 (cellAt (obCells (cellAt r8 0)) 6)) && ((isI .u64 (cellAt (obCells (cellAt r8 0)) 7)) && (isI .u64 (cellAt (obCells (cellAt r8 0)) 8)))))))))))
           (some [(.agg [(.v (.int .i64 (avInt (cellAt (obCells (cellAt r8 0)) 0)))), (.v (.int .u64 (avInt (cellAt (obCells (cellAt r8 0)) 1)))), (.v (.int .u64 (avInt (cellAt (obCells (cellAt r8 0)) 2)))), (.v (.int .u64 (avInt (cellAt (obCells (cellAt r8 0)) 3)))), (.v (.int .u64 (avInt (cellAt (obCells (cellAt r8 0)) 4)))), (.v (.int .u64 (avInt (cellAt (obCells (cellAt r8 0)) 5)))), (.v (.int .u64 (avInt (cellAt (obCells (cellAt r8 0)) 6)))), (.v (.int .u64 (avInt (cellAt (obCells (cellAt r8 0)) 7)))), (.v (.int .u64 (avInt (cellAt (obCells (cellAt r8 0)) 8))))]), (.v (.int .i64 0))])
           (none)))
       (none)))
   (none) := (ev_eq _ _).trans (by kernel_rfl)
-- "bodega/bodegaref19.WriteRecord"
theorem ev19 (a0_0 : Int) (a0_1 : Int) (a0_2 : Int) (a0_3 : Int) (a0_4 : Int) (a0_5 : Int) (a0_6 : Int) (a0_7 : Int) (a0_8 : Int) (a1_0 : Int) (a1_1 : Int) (a1_2 : Int) (a1_3 : Int) (a1_4 : Bool) (a1_5 : Int) (a1_6 : Int) (a1_7 : Int) (a1_8 : Int) : ev 19 [(.agg [(.v (.int .i64 a0_0)), (.v (.int .u64 a0_1)), (.v (.int .u64 a0_2)), (.v (.int .u64 a0_3)), (.v (.int .u64 a0_4)), (.v (.int .u64 a0_5)), (.v (.int .u64 a0_6)), (.v (.int .u64 a0_7)), (.v (.int .u64 a0_8))]), (.agg [(.v (.int .u32 a1_0)), (.v (.int .i64 a1_1)), (.v (.int .i64 a1_2)), (.v (.int .i64 a1_3)), (.v (.bool a1_4)), (.v (.int .u32 a1_5)), (.v (.int .u64 a1_6)), (.v (.int .i64 a1_7)), (.v (.int .i64 a1_8))])] =
  (ev 22 [(.agg [(.v (.int .u32 a1_0)), (.v (.int .i64 a1_1)), (.v (.int .i64 a1_2)), (.v (.int .i64 a1_3)), (.v (.bool a1_4)), (.v (.int .u32 a1_5)), (.v (.int .u64 a1_6)), (.v (.int .i64 a1_7)), (.v (.int .i64 a1_8))])]).bind fun r0 =>
  cond (isB (cellAt r0 0))
   (cond (!(avBool (cellAt r0 0)))
     (some [(.agg [(.v (.int .i64 0)), (.v (.int .u64 0)), (.v (.int .u64 0)), (.v (.int .u64 0)), (.v (.int .u64 0)), (.v (.int .u64 0)), (.v (.int .u64 0)), (.v (.int .u64 0)), (.v (.int .u64 0))]), (.v (.int .i64 1))])
     ((ev 36 [(.agg [(.v (.int .i64 a0_0)), (.v (.int .u64 a0_1)), (.v (.int .u64 a0_2)), (.v (.int .u64 a0_3)), (.v (.int .u64 a0_4)), (.v (.int .u64 a0_5)), (.v (.int .u64 a0_6)), (.v (.int .u64 a0_7)), (.v (.int .u64 a0_8))])]).bind fun r3 =>
      cond (isI .i64 (cellAt r3 0))
       (cond (!((avInt (cellAt r3 0)) == 1))
         (some [(.agg [(.v (.int .i64 0)), (.v (.int .u64 0)), (.v (.int .u64 0)), (.v (.int .u64 0)), (.v (.int .u64 0)), (.v (.int .u64 0)), (.v (.int .u64 0)), (.v (.int .u64 0)), (.v (.int .u64 0))]), (.v (.int .i64 1))])
         (cond a1_4
           ((ev 40 [(.agg [(.v (.int .i64 a0_0)), (.v (.int .u64 a0_1)), (.v (.int .u64 a0_2)), (.v (.int .u64 a0_3)), (.v (.int .u64 a0_4)), (.v (.int .u64 a0_5)), (.v (.int .u64 a0_6)), (.v (.int .u64 a0_7)), (.v (.int .u64 a0_8))])]).bind fun r6 =>
            cond (isI .i64 (cellAt r6 0))
             ((ev 39 [(.v (.int .i64 1)), (.v (.int .i64 (avInt (cellAt r6 0)))), (.v (.int .u32 1))]).bind fun r8 =>
              cond (isI .u64 (cellAt r8 0))
               ((ev 41 [(.agg [(.v (.int .i64 a1_7)), (.v (.int .i64 a1_8))])]).bind fun r11 =>
                cond (isI .u32 (cellAt r11 0))
                 (cond a1_4
                   (some [(.agg [(.v (.int .i64 a0_0)), (.v (.int .u64 a0_1)), (.v (.int .u64 (avInt (cellAt r8 0)))), (.v (.int .u64 (IntKind.wrap .u64 ((IntKind.wrap .u64 a1_0) + (IntKind.wrap .u64 ((IntKind.wrap .u64 (avInt (cellAt r11 0))) * 4294967296)))))), (.v (.int .u64 (IntKind.wrap .u64 a1_5))), (.v (.int .u64 0)), (.v (.int .u64 0)), (.v (.int .u64 a1_6)), (.v (.int .u64 0))]), (.v (.int .i64 0))])
                   ((lp 19 0 0 ⟨[(3, (.ptr 0 0 0)), (4, (.ptr 1 0 0)), (6, (.ptr 2 0 0)), (8, (.v (.int .i64 0)))], [⟨1, 51, 9, true, [[(.v (.int .u32 a1_0)), (.v (.int .i64 a1_1)), (.v (.int .i64 a1_2)), (.v (.int .i64 a1_3)), (.v (.bool a1_4)), (.v (.int .u32 a1_5)), (.v (.int .u64 a1_6)), (.v (.int .i64 a1_7)), (.v (.int .i64 a1_8))]]⟩, ⟨1, 34, 9, true, [[(.v (.int .i64 0)), (.v (.int .u64 0)), (.v (.int .u64 0)), (.v (.int .u64 0)), (.v (.int .u64 0)), (.v (.int .u64 0)), (.v (.int .u64 0)), (.v (.int .u64 0)), (.v (.int .u64 0))]]⟩, ⟨1, 34, 9, true, [[(.v (.int .i64 a0_0)), (.v (.int .u64 a0_1)), (.v (.int .u64 (avInt (cellAt r8 0)))), (.v (.int .u64 (IntKind.wrap .u64 ((IntKind.wrap .u64 a1_0) + (IntKind.wrap .u64 ((IntKind.wrap .u64 (avInt (cellAt r11 0))) * 4294967296)))))), (.v (.int .u64 0)), (.v (.int .u64 0)), (.v (.int .u64 0)), (.v (.int .u64 0)), (.v (.int .u64 0))]]⟩]⟩).bind fun r17 =>
                    cond (isEx 0 r17)
                     (cond (likeStG ⟨[(3, (.ptr 0 0 0)), (4, (.ptr 1 0 0)), (6, (.ptr 2 0 0))], [⟨1, 51, 9, true, [[(.v (.int .u32 a1_0)), (.v (.int .i64 a1_1)), (.v (.int .i64 a1_2)), (.v (.int .i64 a1_3)), (.v (.bool a1_4)), (.v (.int .u32 a1_5)), (.v (.int .u64 a1_6)), (.v (.int .i64 a1_7)), (.v (.int .i64 a1_8))]]⟩, ⟨1, 34, 9, true, [[(.v (.int .i64 0)), (.v (.int .u64 0)), (.v (.int .u64 0)), (.v (.int .u64 0)), (.v (.int .u64 0)), (.v (.int .u64 0)), (.v (.int .u64 0)), (.v (.int .u64 0)), (.v (.int .u64 0))]]⟩, ⟨1, 34, 9, true, [[(.v (.int .i64 a0_0)), (.v (.int .u64 a0_1)), (.v (.int .u64 (avInt (cellAt r8 0)))), (.v (.int .u64 (IntKind.wrap .u64 ((IntKind.wrap .u64 a1_0) + (IntKind.wrap .u64 ((IntKind.wrap .u64 (avInt (cellAt r11 0))) * 4294967296)))))), (.v (.int .u64 0)), (.v (.int .u64 0)), (.v (.int .u64 0)), (.v (.int .u64 0)), (.v (.int .u64 0))]]⟩]⟩ r17.st)
                       (some [(.agg [(.v (.int .i64 (avInt (cellAt (lget (blAt r17.st.bl 2).xs 0) 0)))), (.v (.int .u64 (avInt (cellAt (lget (blAt r17.st.bl 2).xs 0) 1)))), (.v (.int .u64 (avInt (cellAt (lget (blAt r17.st.bl 2).xs 0) 2)))), (.v (.int .u64 (avInt (cellAt (lget (blAt r17.st.bl 2).xs 0) 3)))), (.v (.int .u64 (avInt (cellAt (lget (blAt r17.st.bl 2).xs 0) 4)))), (.v (.int .u64 (avInt (cellAt (lget (blAt r17.st.bl 2).xs 0) 5)))), (.v (.int .u64 (avInt (cellAt (lget (blAt r17.st.bl 2).xs 0) 6)))), (.v (.int .u64 (avInt (cellAt (lget (blAt r17.st.bl 0).xs 0) 6)))), (.v (.int .u64 (avInt (cellAt (lget (blAt r17.st.bl 2).xs 0) 8))))]), (.v (.int .i64 0))])
                       (none))
                     (cond (isRt r17)
                       (some r17.outs)
                       (none))))
                 (none))
               (none))
             (none))
           ((ev 40 [(.agg [(.v (.int .i64 a0_0)), (.v (.int .u64 a0_1)), (.v (.int .u64 a0_2)), (.v (.int .u64 a0_3)), (.v (.int .u64 a0_4)), (.v (.int .u64 a0_5)), (.v (.int .u64 a0_6)), (.v (.int .u64 a0_7)), (.v (.int .u64 a0_8))])]).bind fun r45 =>
            cond (isI .i64 (cellAt r45 0))
             ((ev 39 [(.v (.int .i64 1)), (.v (.int .i64 (avInt (cellAt r45 0)))), (.v (.int .u32 0))]).bind fun r47 =>
              cond (isI .u64 (cellAt r47 0))
               ((ev 41 [(.agg [(.v (.int .i64 a1_7)), (.v (.int .i64 a1_8))])]).bind fun r50 =>
                cond (isI .u32 (cellAt r50 0))
                 (cond a1_4
                   (some [(.agg [(.v (.int .i64 a0_0)), (.v (.int .u64 a0_1)), (.v (.int .u64 (avInt (cellAt r47 0)))), (.v (.int .u64 (IntKind.wrap .u64 ((IntKind.wrap .u64 a1_0) + (IntKind.wrap .u64 ((IntKind.wrap .u64 (avInt (cellAt r50 0))) * 4294967296)))))), (.v (.int .u64 (IntKind.wrap .u64 a1_5))), (.v (.int .u64 0)), (.v (.int .u64 0)), (.v (.int .u64 a1_6)), (.v (.int .u64 0))]), (.v (.int .i64 0))])
                   ((lp 19 0 0 ⟨[(3, (.ptr 0 0 0)), (4, (.ptr 1 0 0)), (6, (.ptr 2 0 0)), (8, (.v (.int .i64 0)))], [⟨1, 51, 9, true, [[(.v (.int .u32 a1_0)), (.v (.int .i64 a1_1)), (.v (.int .i64 a1_2)), (.v (.int .i64 a1_3)), (.v (.bool a1_4)), (.v (.int .u32 a1_5)), (.v (.int .u64 a1_6)), (.v (.int .i64 a1_7)), (.v (.int .i64 a1_8))]]⟩, ⟨1, 34, 9, true, [[(.v (.int .i64 0)), (.v (.int .u64 0)), (.v (.int .u64 0)), (.v (.int .u64 0)), (.v (.int .u64 0)), (.v (.int .u64 0)), (.v (.int .u64 0)), (.v (.int .u64 0)), (.v (.int .u64 0))]]⟩, ⟨1, 34, 9, true, [[(.v (.int .i64 a0_0)), (.v (.int .u64 a0_1)), (.v (.int .u64 (avInt (cellAt r47 0)))), (.v (.int .u64 (IntKind.wrap .u64 ((IntKind.wrap .u64 a1_0) + (IntKind.wrap .u64 ((IntKind.wrap .u64 (avInt (cellAt r50 0))) * 4294967296)))))), (.v (.int .u64 0)), (.v (.int .u64 0)), (.v (.int .u64 0)), (.v (.int .u64 0)), (.v (.int .u64 0))]]⟩]⟩).bind fun r56 =>
                    cond (isEx 0 r56)
                     (cond (likeStG ⟨[(3, (.ptr 0 0 0)), (4, (.ptr 1 0 0)), (6, (.ptr 2 0 0))], [⟨1, 51, 9, true, [[(.v (.int .u32 a1_0)), (.v (.int .i64 a1_1)), (.v (.int .i64 a1_2)), (.v (.int .i64 a1_3)), (.v (.bool a1_4)), (.v (.int .u32 a1_5)), (.v (.int .u64 a1_6)), (.v (.int .i64 a1_7)), (.v (.int .i64 a1_8))]]⟩, ⟨1, 34, 9, true, [[(.v (.int .i64 0)), (.v (.int .u64 0)), (.v (.int .u64 0)), (.v (.int .u64 0)), (.v (.int .u64 0)), (.v (.int .u64 0)), (.v (.int .u64 0)), (.v (.int .u64 0)), (.v (.int .u64 0))]]⟩, ⟨1, 34, 9, true, [[(.v (.int .i64 a0_0)), (.v (.int .u64 a0_1)), (.v (.int .u64 (avInt (cellAt r47 0)))), (.v (.int .u64 (IntKind.wrap .u64 ((IntKind.wrap .u64 a1_0) + (IntKind.wrap .u64 ((IntKind.wrap .u64 (avInt (cellAt r50 0))) * 4294967296)))))), (.v (.int .u64 0)), (.v (.int .u64 0)), (.v (.int .u64 0)), (.v (.int .u64 0)), (.v (.int .u64 0))]]⟩]⟩ r56.st)
                       (some [(.agg [(.v (.int .i64 (avInt (cellAt (lget (blAt r56.st.bl 2).xs 0) 0)))), (.v (.int .u64 (avInt (cellAt (lget (blAt r56.st.bl 2).xs 0) 1)))), (.v (.int .u64 (avInt (cellAt (lget (blAt r56.st.bl 2).xs 0) 2)))), (.v (.int .u64 (avInt (cellAt (lget (blAt r56.st.bl 2).xs 0) 3)))), (.v (.int .u64 (avInt (cellAt (lget (blAt r56.st.bl 2).xs 0) 4)))), (.v (.int .u64 (avInt (cellAt (lget (blAt r56.st.bl 2).xs 0) 5)))), (.v (.int .u64 (avInt (cellAt (lget (blAt r56.st.bl 2).xs 0) 6)))), (.v (.int .u64 (avInt (cellAt (lget (blAt r56.st.bl 0).xs 0) 6)))), (.v (.int .u64 (avInt (cellAt (lget (blAt r56.st.bl 2).xs 0) 8))))]), (.v (.int .i64 0))])
                       (none))
                     (cond (isRt r56)
                       (some r56.outs)
                       (none))))
                 (none))
               (none))
             (none))))
       (none)))
   (none) := (ev_eq _ _).trans (by kernel_rfl)
theorem lp19_0 (x8 : Int) (b0_0 : Int) (b0_1 : Int) (b0_2 : Int) (b0_3 : Int) (b0_4 : Bool) (b0_5 : Int) (b0_6 : Int) (b0_7 : Int) (b0_8 : Int) (b1_0 : Int) (b1_1 : Int) (b1_2 : Int) (b1_3 : Int) (b1_4 : Int) (b1_5 : Int) (b1_6 : Int) (b1_7 : Int) (b1_8 : Int) (b2_0 : Int) (b2_1 : Int) (b2_2 : Int) (b2_3 : Int) (b2_4 : Int) (b2_5 : Int) (b2_6 : Int) (b2_7 : Int) (b2_8 : Int) : lp 19 0 0 ⟨[(3, (.ptr 0 0 0)), (4, (.ptr 1 0 0)), (6, (.ptr 2 0 0)), (8, (.v (.int .i64 x8)))], [⟨1, 51, 9, true, [[(.v (.int .u32 b0_0)), (.v (.int .i64 b0_1)), (.v (.int .i64 b0_2)), (.v (.int .i64 b0_3)), (.v (.bool b0_4)), (.v (.int .u32 b0_5)), (.v (.int .u64 b0_6)), (.v (.int .i64 b0_7)), (.v (.int .i64 b0_8))]]⟩, ⟨1, 34, 9, true, [[(.v (.int .i64 b1_0)), (.v (.int .u64 b1_1)), (.v (.int .u64 b1_2)), (.v (.int .u64 b1_3)), (.v (.int .u64 b1_4)), (.v (.int .u64 b1_5)), (.v (.int .u64 b1_6)), (.v (.int .u64 b1_7)), (.v (.int .u64 b1_8))]]⟩, ⟨1, 34, 9, true, [[(.v (.int .i64 b2_0)), (.v (.int .u64 b2_1)), (.v (.int .u64 b2_2)), (.v (.int .u64 b2_3)), (.v (.int .u64 b2_4)), (.v (.int .u64 b2_5)), (.v (.int .u64 b2_6)), (.v (.int .u64 b2_7)), (.v (.int .u64 b2_8))]]⟩]⟩ =
  cond (ltI x8 3)
   (cond ((leI 0 x8) && (ltI x8 3))
     (cond ((leI 0 (IntKind.wrap .i64 (2 + x8))) && (ltI (IntKind.wrap .i64 (2 + x8)) 7))
       (lp 19 0 0 ⟨[(3, (.ptr 0 0 0)), (4, (.ptr 1 0 0)), (6, (.ptr 2 0 0)), (8, (.v (.int .i64 (IntKind.wrap .i64 (x8 + 1)))))], [⟨1, 51, 9, true, [[(.v (.int .u32 b0_0)), (.v (.int .i64 b0_1)), (.v (.int .i64 b0_2)), (.v (.int .i64 b0_3)), (.v (.bool b0_4)), (.v (.int .u32 b0_5)), (.v (.int .u64 b0_6)), (.v (.int .i64 b0_7)), (.v (.int .i64 b0_8))]]⟩, ⟨1, 34, 9, true, [[(.v (.int .i64 b1_0)), (.v (.int .u64 b1_1)), (.v (.int .u64 b1_2)), (.v (.int .u64 b1_3)), (.v (.int .u64 b1_4)), (.v (.int .u64 b1_5)), (.v (.int .u64 b1_6)), (.v (.int .u64 b1_7)), (.v (.int .u64 b1_8))]]⟩, ⟨1, 34, 9, true, [[(.v (.int .i64 b2_0)), (.v (.int .u64 b2_1)), (.v (.int .u64 (cond (Nat.beq (Int.toNat (IntKind.wrap .i64 (2 + x8))) 0) (IntKind.wrap .u64 (cond (Nat.beq (Int.toNat x8) 0) b0_1 (cond (Nat.beq (Int.toNat x8) 1) b0_2 b0_3))) b2_2))), (.v (.int .u64 (cond (Nat.beq (Int.toNat (IntKind.wrap .i64 (2 + x8))) 1) (IntKind.wrap .u64 (cond (Nat.beq (Int.toNat x8) 0) b0_1 (cond (Nat.beq (Int.toNat x8) 1) b0_2 b0_3))) b2_3))), (.v (.int .u64 (cond (Nat.beq (Int.toNat (IntKind.wrap .i64 (2 + x8))) 2) (IntKind.wrap .u64 (cond (Nat.beq (Int.toNat x8) 0) b0_1 (cond (Nat.beq (Int.toNat x8) 1) b0_2 b0_3))) b2_4))), (.v (.int .u64 (cond (Nat.beq (Int.toNat (IntKind.wrap .i64 (2 + x8))) 3) (IntKind.wrap .u64 (cond (Nat.beq (Int.toNat x8) 0) b0_1 (cond (Nat.beq (Int.toNat x8) 1) b0_2 b0_3))) b2_5))), (.v (.int .u64 (cond (Nat.beq (Int.toNat (IntKind.wrap .i64 (2 + x8))) 4) (IntKind.wrap .u64 (cond (Nat.beq (Int.toNat x8) 0) b0_1 (cond (Nat.beq (Int.toNat x8) 1) b0_2 b0_3))) b2_6))), (.v (.int .u64 (cond (Nat.beq (Int.toNat (IntKind.wrap .i64 (2 + x8))) 5) (IntKind.wrap .u64 (cond (Nat.beq (Int.toNat x8) 0) b0_1 (cond (Nat.beq (Int.toNat x8) 1) b0_2 b0_3))) b2_7))), (.v (.int .u64 (cond (Nat.beq (Int.toNat (IntKind.wrap .i64 (2 + x8))) 6) (IntKind.wrap .u64 (cond (Nat.beq (Int.toNat x8) 0) b0_1 (cond (Nat.beq (Int.toNat x8) 1) b0_2 b0_3))) b2_8)))]]⟩]⟩)
       (none))
     (none))
   (some ⟨(some 0), ⟨[(3, (.ptr 0 0 0)), (4, (.ptr 1 0 0)), (6, (.ptr 2 0 0))], [⟨1, 51, 9, true, [[(.v (.int .u32 b0_0)), (.v (.int .i64 b0_1)), (.v (.int .i64 b0_2)), (.v (.int .i64 b0_3)), (.v (.bool b0_4)), (.v (.int .u32 b0_5)), (.v (.int .u64 b0_6)), (.v (.int .i64 b0_7)), (.v (.int .i64 b0_8))]]⟩, ⟨1, 34, 9, true, [[(.v (.int .i64 b1_0)), (.v (.int .u64 b1_1)), (.v (.int .u64 b1_2)), (.v (.int .u64 b1_3)), (.v (.int .u64 b1_4)), (.v (.int .u64 b1_5)), (.v (.int .u64 b1_6)), (.v (.int .u64 b1_7)), (.v (.int .u64 b1_8))]]⟩, ⟨1, 34, 9, true, [[(.v (.int .i64 b2_0)), (.v (.int .u64 b2_1)), (.v (.int .u64 b2_2)), (.v (.int .u64 b2_3)), (.v (.int .u64 b2_4)), (.v (.int .u64 b2_5)), (.v (.int .u64 b2_6)), (.v (.int .u64 b2_7)), (.v (.int .u64 b2_8))]]⟩]⟩, []⟩) := (lp_eq _ _ _ _).trans (by kernel_rfl)
-- "bodega/bodegalaw21.ref"
theorem ev20 (a0_0 : Int) (a0_1 : Int) (a0_2 : Int) (a0_3 : Int) (a0_4 : Bool) (a0_5 : Int) (a0_6 : Int) (a0_7 : Int) (a0_8 : Int) : ev 20 [(.agg [(.v (.int .u32 a0_0)), (.v (.int .i64 a0_1)), (.v (.int .i64 a0_2)), (.v (.int .i64 a0_3)), (.v (.bool a0_4)), (.v (.int .u32 a0_5)), (.v (.int .u64 a0_6)), (.v (.int .i64 a0_7)), (.v (.int .i64 a0_8))])] =
  some [(.agg [(.v (.int .u32 a0_0)), (.v (.int .i64 a0_1)), (.v (.int .i64 a0_2)), (.v (.int .i64 a0_3)), (.v (.bool a0_4)), (.v (.int .u32 a0_5)), (.v (.int .u64 a0_6)), (.v (.int .i64 a0_7)), (.v (.int .i64 a0_8))])] := (ev_eq _ _).trans (by kernel_rfl)
-- "bodega/record.Valid"
theorem ev21 (a0_0 : Int) (a0_1 : Int) (a0_2 : Int) (a0_3 : Int) (a0_4 : Bool) (a0_5 : Int) (a0_6 : Int) (a0_7 : Int) (a0_8 : Int) : ev 21 [(.agg [(.v (.int .u32 a0_0)), (.v (.int .i64 a0_1)), (.v (.int .i64 a0_2)), (.v (.int .i64 a0_3)), (.v (.bool a0_4)), (.v (.int .u32 a0_5)), (.v (.int .u64 a0_6)), (.v (.int .i64 a0_7)), (.v (.int .i64 a0_8))])] =
  (ev 10 [(.v (.int .u64 a0_6))]).bind fun r0 =>
  cond (isI .i64 (cellAt r0 0))
   (cond (isI .i64 (cellAt r0 1))
     (cond (isB (cellAt r0 2))
       (cond (ltI a0_0 1)
         (some [(.v (.bool false))])
         (cond (ltI 4294967294 a0_0)
           (some [(.v (.bool false))])
           (cond (!(avBool (cellAt r0 2)))
             (some [(.v (.bool false))])
             (cond (!((a0_7 == 0) && (a0_8 == 0)))
               ((ev 42 [(.agg [(.v (.int .i64 a0_7)), (.v (.int .i64 a0_8))])]).bind fun r8 =>
                cond (isB (cellAt r8 0))
                 (cond (!(avBool (cellAt r8 0)))
                   (some [(.v (.bool false))])
                   (cond a0_4
                     (some [(.v (.bool ((a0_1 == 0) && ((a0_2 == 0) && (a0_3 == 0)))))])
                     (some [(.v (.bool (a0_5 == 0)))])))
                 (none))
               (cond a0_4
                 (some [(.v (.bool ((a0_1 == 0) && ((a0_2 == 0) && (a0_3 == 0)))))])
                 (some [(.v (.bool (a0_5 == 0)))]))))))
       (none))
     (none))
   (none) := (ev_eq _ _).trans (by kernel_rfl)
-- "bodega/bodegaref19.ValidVersion"
theorem ev22 (a0_0 : Int) (a0_1 : Int) (a0_2 : Int) (a0_3 : Int) (a0_4 : Bool) (a0_5 : Int) (a0_6 : Int) (a0_7 : Int) (a0_8 : Int) : ev 22 [(.agg [(.v (.int .u32 a0_0)), (.v (.int .i64 a0_1)), (.v (.int .i64 a0_2)), (.v (.int .i64 a0_3)), (.v (.bool a0_4)), (.v (.int .u32 a0_5)), (.v (.int .u64 a0_6)), (.v (.int .i64 a0_7)), (.v (.int .i64 a0_8))])] =
  (ev 11 [(.v (.int .u64 a0_6))]).bind fun r0 =>
  cond (isI .i64 (cellAt r0 0))
   (cond (isI .i64 (cellAt r0 1))
     (cond (isB (cellAt r0 2))
       (cond (!(avBool (cellAt r0 2)))
         (some [(.v (.bool false))])
         (cond (ltI a0_0 1)
           (some [(.v (.bool false))])
           (cond (ltI 4294967294 a0_0)
             (some [(.v (.bool false))])
             (cond (!((a0_7 == 0) && (a0_8 == 0)))
               ((ev 43 [(.agg [(.v (.int .i64 a0_7)), (.v (.int .i64 a0_8))])]).bind fun r8 =>
                cond (isB (cellAt r8 0))
                 (cond (!(avBool (cellAt r8 0)))
                   (some [(.v (.bool false))])
                   (cond a0_4
                     (some [(.v (.bool ((a0_1 == 0) && ((a0_2 == 0) && (a0_3 == 0)))))])
                     (some [(.v (.bool (a0_5 == 0)))])))
                 (none))
               (cond a0_4
                 (some [(.v (.bool ((a0_1 == 0) && ((a0_2 == 0) && (a0_3 == 0)))))])
                 (some [(.v (.bool (a0_5 == 0)))]))))))
       (none))
     (none))
   (none) := (ev_eq _ _).trans (by kernel_rfl)
-- "bodega/pointer.PackTag"
theorem ev24 (a0_0 : Int) (a0_1 : Int) (a0_2 : Int) : ev 24 [(.agg [(.v (.int .i64 a0_0)), (.v (.int .i64 a0_1)), (.v (.int .u32 a0_2))])] =
  some [(.v (.int .u64 (bits .or .u64 (bits .or .u64 (bits .and .u64 (IntKind.wrap .u64 a0_0) 255) (IntKind.wrap .u64 ((bits .and .u64 (IntKind.wrap .u64 a0_1) 16777215) * 256))) (IntKind.wrap .u64 ((IntKind.wrap .u64 a0_2) * 4294967296)))))] := (ev_eq _ _).trans (by kernel_rfl)
-- "bodega/pointer.UnpackTag"
theorem ev25 (a0_0 : Int) : ev 25 [(.v (.int .u64 a0_0))] =
  some [(.agg [(.v (.int .i64 (IntKind.wrap .i64 (bits .and .u64 a0_0 255)))), (.v (.int .i64 (IntKind.wrap .i64 (bits .and .u64 (Int.fdiv a0_0 256) 16777215)))), (.v (.int .u32 (IntKind.wrap .u32 (Int.fdiv a0_0 4294967296))))])] := (ev_eq _ _).trans (by kernel_rfl)
-- "bodega/record.Replace"
theorem ev26 (a0_0 : Int) (a0_1 : Int) (a0_2 : Int) (a0_3 : Int) (a0_4 : Int) (a0_5 : Int) (a0_6 : Int) (a0_7 : Int) (a0_8 : Int) (a1_0 : Int) (a1_1 : Int) (a1_2 : Int) (a1_3 : Int) (a1_4 : Int) (a1_5 : Int) (a1_6 : Int) (a1_7 : Int) (a1_8 : Int) (a2_0 : Int) (a2_1 : Int) (a2_2 : Int) (a2_3 : Int) (a2_4 : Bool) (a2_5 : Int) (a2_6 : Int) (a2_7 : Int) (a2_8 : Int) : ev 26 [(.agg [(.v (.int .i64 a0_0)), (.v (.int .u64 a0_1)), (.v (.int .u64 a0_2)), (.v (.int .u64 a0_3)), (.v (.int .u64 a0_4)), (.v (.int .u64 a0_5)), (.v (.int .u64 a0_6)), (.v (.int .u64 a0_7)), (.v (.int .u64 a0_8))]), (.agg [(.v (.int .i64 a1_0)), (.v (.int .u64 a1_1)), (.v (.int .u64 a1_2)), (.v (.int .u64 a1_3)), (.v (.int .u64 a1_4)), (.v (.int .u64 a1_5)), (.v (.int .u64 a1_6)), (.v (.int .u64 a1_7)), (.v (.int .u64 a1_8))]), (.agg [(.v (.int .u32 a2_0)), (.v (.int .i64 a2_1)), (.v (.int .i64 a2_2)), (.v (.int .i64 a2_3)), (.v (.bool a2_4)), (.v (.int .u32 a2_5)), (.v (.int .u64 a2_6)), (.v (.int .i64 a2_7)), (.v (.int .i64 a2_8))])] =
  (ev 44 [(.agg [(.v (.int .i64 a0_0)), (.v (.int .u64 a0_1)), (.v (.int .u64 a0_2)), (.v (.int .u64 a0_3)), (.v (.int .u64 a0_4)), (.v (.int .u64 a0_5)), (.v (.int .u64 a0_6)), (.v (.int .u64 a0_7)), (.v (.int .u64 a0_8))])]).bind fun r0 =>
  cond (isB (cellAt r0 0))
   (cond (avBool (cellAt r0 0))
     (some [(.lst true 9 []), (.v (.int .i64 3))])
     ((ev 44 [(.agg [(.v (.int .i64 a1_0)), (.v (.int .u64 a1_1)), (.v (.int .u64 a1_2)), (.v (.int .u64 a1_3)), (.v (.int .u64 a1_4)), (.v (.int .u64 a1_5)), (.v (.int .u64 a1_6)), (.v (.int .u64 a1_7)), (.v (.int .u64 a1_8))])]).bind fun r2 =>
      cond (isB (cellAt r2 0))
       (cond (avBool (cellAt r2 0))
         (some [(.lst true 9 []), (.v (.int .i64 3))])
         ((ev 16 [(.agg [(.v (.int .i64 a0_0)), (.v (.int .u64 a0_1)), (.v (.int .u64 a0_2)), (.v (.int .u64 a0_3)), (.v (.int .u64 a0_4)), (.v (.int .u64 a0_5)), (.v (.int .u64 a0_6)), (.v (.int .u64 a0_7)), (.v (.int .u64 a0_8))])]).bind fun r4 =>
          cond ((Ev.isAgg 9 (cellAt r4 0)) && ((isI .u32 (cellAt (obCells (cellAt r4 0)) 0)) && ((isI .i64 (cellAt (obCells (cellAt r4 0)) 1)) && ((isI .i64 (cellAt (obCells (cellAt r4 0)) 2)) && ((isI .i64 (cellAt (obCells (cellAt r4 0)) 3)) && ((isB (cellAt (obCells (cellAt r4 0)) 4)) && ((isI .u32 (cellAt (obCells (cellAt r4 0)) 5)) && ((isI .u64 (cellAt (obCells (cellAt r4 0)) 6)) && ((isI .i64 (cellAt (obCells (cellAt r4 0)) 7)) && (isI .i64 (cellAt (obCells (cellAt r4 0)) 8)))))))))))
           (cond (isI .i64 (cellAt r4 1))
             (cond (!((avInt (cellAt r4 1)) == 0))
               (some [(.lst true 9 []), (.v (.int .i64 (avInt (cellAt r4 1))))])
               ((ev 31 [(.agg [(.v (.int .i64 a1_0)), (.v (.int .u64 a1_1)), (.v (.int .u64 a1_2)), (.v (.int .u64 a1_3)), (.v (.int .u64 a1_4)), (.v (.int .u64 a1_5)), (.v (.int .u64 a1_6)), (.v (.int .u64 a1_7)), (.v (.int .u64 a1_8))])]).bind fun r17 =>
                cond ((Ev.isAgg 2 (cellAt r17 0)) && ((isI .i64 (cellAt (obCells (cellAt r17 0)) 0)) && (isI .i64 (cellAt (obCells (cellAt r17 0)) 1))))
                 ((ev 25 [(.v (.int .u64 a1_2))]).bind fun r20 =>
                  cond ((Ev.isAgg 3 (cellAt r20 0)) && ((isI .i64 (cellAt (obCells (cellAt r20 0)) 0)) && ((isI .i64 (cellAt (obCells (cellAt r20 0)) 1)) && (isI .u32 (cellAt (obCells (cellAt r20 0)) 2)))))
                   (cond (!((avInt (cellAt (obCells (cellAt r20 0)) 0)) == 1))
                     (some [(.lst true 9 []), (.v (.int .i64 1))])
                     ((ev 42 [(.agg [(.v (.int .i64 (avInt (cellAt (obCells (cellAt r17 0)) 0)))), (.v (.int .i64 (avInt (cellAt (obCells (cellAt r17 0)) 1))))])]).bind fun r26 =>
                      cond (isB (cellAt r26 0))
                       (cond (!(avBool (cellAt r26 0)))
                         (some [(.lst true 9 []), (.v (.int .i64 1))])
                         (cond (a1_0 == a0_0)
                           (some [(.lst true 9 []), (.v (.int .i64 1))])
                           (cond (!(a2_0 == (avInt (cellAt (obCells (cellAt r4 0)) 0))))
                             (some [(.lst true 9 []), (.v (.int .i64 1))])
                             ((ev 21 [(.agg [(.v (.int .u32 a2_0)), (.v (.int .i64 a2_1)), (.v (.int .i64 a2_2)), (.v (.int .i64 a2_3)), (.v (.bool a2_4)), (.v (.int .u32 a2_5)), (.v (.int .u64 a2_6)), (.v (.int .i64 (avInt (cellAt (obCells (cellAt r17 0)) 0)))), (.v (.int .i64 (avInt (cellAt (obCells (cellAt r17 0)) 1))))])]).bind fun r31 =>
                              cond (isB (cellAt r31 0))
                               (cond (!(avBool (cellAt r31 0)))
                                 (some [(.lst true 9 []), (.v (.int .i64 1))])
                                 ((ev 34 [(.agg [(.v (.int .i64 a1_0)), (.v (.int .u64 a1_1)), (.v (.int .u64 a1_2)), (.v (.int .u64 a1_3)), (.v (.int .u64 a1_4)), (.v (.int .u64 a1_5)), (.v (.int .u64 a1_6)), (.v (.int .u64 a1_7)), (.v (.int .u64 a1_8))]), (.agg [(.v (.int .u32 (avInt (cellAt (obCells (cellAt r4 0)) 0)))), (.v (.int .i64 (avInt (cellAt (obCells (cellAt r4 0)) 1)))), (.v (.int .i64 (avInt (cellAt (obCells (cellAt r4 0)) 2)))), (.v (.int .i64 (avInt (cellAt (obCells (cellAt r4 0)) 3)))), (.v (.bool (avBool (cellAt (obCells (cellAt r4 0)) 4)))), (.v (.int .u32 (avInt (cellAt (obCells (cellAt r4 0)) 5)))), (.v (.int .u64 (avInt (cellAt (obCells (cellAt r4 0)) 6)))), (.v (.int .i64 (avInt (cellAt (obCells (cellAt r4 0)) 7)))), (.v (.int .i64 (avInt (cellAt (obCells (cellAt r4 0)) 8))))])]).bind fun r34 =>
                                  cond ((Ev.isAgg 9 (cellAt r34 0)) && ((isI .i64 (cellAt (obCells (cellAt r34 0)) 0)) && ((isI .u64 (cellAt (obCells (cellAt r34 0)) 1)) && ((isI .u64 (cellAt (obCells (cellAt r34 0)) 2)) && ((isI .u64 (cellAt (obCells (cellAt r34 0)) 3)) && ((isI .u64 (cellAt (obCells (cellAt r34 0)) 4)) && ((isI .u64 (cellAt (obCells (cellAt r34 0)) 5)) && ((isI .u64 (cellAt (obCells (cellAt r34 0)) 6)) && ((isI .u64 (cellAt (obCells (cellAt r34 0)) 7)) && (isI .u64 (cellAt (obCells (cellAt r34 0)) 8)))))))))))
                                   ((ev 34 [(.agg [(.v (.int .i64 a0_0)), (.v (.int .u64 a0_1)), (.v (.int .u64 a0_2)), (.v (.int .u64 a0_3)), (.v (.int .u64 a0_4)), (.v (.int .u64 a0_5)), (.v (.int .u64 a0_6)), (.v (.int .u64 a0_7)), (.v (.int .u64 a0_8))]), (.agg [(.v (.int .u32 a2_0)), (.v (.int .i64 a2_1)), (.v (.int .i64 a2_2)), (.v (.int .i64 a2_3)), (.v (.bool a2_4)), (.v (.int .u32 a2_5)), (.v (.int .u64 a2_6)), (.v (.int .i64 (avInt (cellAt (obCells (cellAt r17 0)) 0)))), (.v (.int .i64 (avInt (cellAt (obCells (cellAt r17 0)) 1))))])]).bind fun r44 =>
                                    cond ((Ev.isAgg 9 (cellAt r44 0)) && ((isI .i64 (cellAt (obCells (cellAt r44 0)) 0)) && ((isI .u64 (cellAt (obCells (cellAt r44 0)) 1)) && ((isI .u64 (cellAt (obCells (cellAt r44 0)) 2)) && ((isI .u64 (cellAt (obCells (cellAt r44 0)) 3)) && ((isI .u64 (cellAt (obCells (cellAt r44 0)) 4)) && ((isI .u64 (cellAt (obCells (cellAt r44 0)) 5)) && ((isI .u64 (cellAt (obCells (cellAt r44 0)) 6)) && ((isI .u64 (cellAt (obCells (cellAt r44 0)) 7)) && (isI .u64 (cellAt (obCells (cellAt r44 0)) 8)))))))))))
                                     (cond (ltI (avInt (cellAt (obCells (cellAt r34 0)) 0)) (avInt (cellAt (obCells (cellAt r44 0)) 0)))
                                       (some [(.lst false 9 [[(.v (.int .i64 (avInt (cellAt (obCells (cellAt r34 0)) 0)))), (.v (.int .u64 (avInt (cellAt (obCells (cellAt r34 0)) 1)))), (.v (.int .u64 (avInt (cellAt (obCells (cellAt r34 0)) 2)))), (.v (.int .u64 (avInt (cellAt (obCells (cellAt r34 0)) 3)))), (.v (.int .u64 (avInt (cellAt (obCells (cellAt r34 0)) 4)))), (.v (.int .u64 (avInt (cellAt (obCells (cellAt r34 0)) 5)))), (.v (.int .u64 (avInt (cellAt (obCells (cellAt r34 0)) 6)))), (.v (.int .u64 (avInt (cellAt (obCells (cellAt r34 0)) 7)))), (.v (.int .u64 (avInt (cellAt (obCells (cellAt r34 0)) 8))))], [(.v (.int .i64 (avInt (cellAt (obCells (cellAt r44 0)) 0)))), (.v (.int .u64 (avInt (cellAt (obCells (cellAt r44 0)) 1)))), (.v (.int .u64 (avInt (cellAt (obCells (cellAt r44 0)) 2)))), (.v (.int .u64 (avInt (cellAt (obCells (cellAt r44 0)) 3)))), (.v (.int .u64 (avInt (cellAt (obCells (cellAt r44 0)) 4)))), (.v (.int .u64 (avInt (cellAt (obCells (cellAt r44 0)) 5)))), (.v (.int .u64 (avInt (cellAt (obCells (cellAt r44 0)) 6)))), (.v (.int .u64 (avInt (cellAt (obCells (cellAt r44 0)) 7)))), (.v (.int .u64 (avInt (cellAt (obCells (cellAt r44 0)) 8))))]]), (.v (.int .i64 0))])
                                       (some [(.lst false 9 [[(.v (.int .i64 (avInt (cellAt (obCells (cellAt r44 0)) 0)))), (.v (.int .u64 (avInt (cellAt (obCells (cellAt r44 0)) 1)))), (.v (.int .u64 (avInt (cellAt (obCells (cellAt r44 0)) 2)))), (.v (.int .u64 (avInt (cellAt (obCells (cellAt r44 0)) 3)))), (.v (.int .u64 (avInt (cellAt (obCells (cellAt r44 0)) 4)))), (.v (.int .u64 (avInt (cellAt (obCells (cellAt r44 0)) 5)))), (.v (.int .u64 (avInt (cellAt (obCells (cellAt r44 0)) 6)))), (.v (.int .u64 (avInt (cellAt (obCells (cellAt r44 0)) 7)))), (.v (.int .u64 (avInt (cellAt (obCells (cellAt r44 0)) 8))))], [(.v (.int .i64 (avInt (cellAt (obCells (cellAt r34 0)) 0)))), (.v (.int .u64 (avInt (cellAt (obCells (cellAt r34 0)) 1)))), (.v (.int .u64 (avInt (cellAt (obCells (cellAt r34 0)) 2)))), (.v (.int .u64 (avInt (cellAt (obCells (cellAt r34 0)) 3)))), (.v (.int .u64 (avInt (cellAt (obCells (cellAt r34 0)) 4)))), (.v (.int .u64 (avInt (cellAt (obCells (cellAt r34 0)) 5)))), (.v (.int .u64 (avInt (cellAt (obCells (cellAt r34 0)) 6)))), (.v (.int .u64 (avInt (cellAt (obCells (cellAt r34 0)) 7)))), (.v (.int .u64 (avInt (cellAt (obCells (cellAt r34 0)) 8))))]]), (.v (.int .i64 0))]))
                                     (none))
                                   (none)))
                               (none)))))
                       (none)))
                   (none))
                 (none)))
             (none))
           (none)))
       (none)))
   (none) := (ev_eq _ _).trans (by kernel_rfl)
-- "bodega/bodegaref19.Replace"
theorem ev27 (a0_0 : Int) (a0_1 : Int) (a0_2 : Int) (a0_3 : Int) (a0_4 : Int) (a0_5 : Int) (a0_6 : Int) (a0_7 : Int) (a0_8 : Int) (a1_0 : Int) (a1_1 : Int) (a1_2 : Int) (a1_3 : Int) (a1_4 : Int) (a1_5 : Int) (a1_6 : Int) (a1_7 : Int) (a1_8 : Int) (a2_0 : Int) (a2_1 : Int) (a2_2 : Int) (a2_3 : Int) (a2_4 : Bool) (a2_5 : Int) (a2_6 : Int) (a2_7 : Int) (a2_8 : Int) : ev 27 [(.agg [(.v (.int .i64 a0_0)), (.v (.int .u64 a0_1)), (.v (.int .u64 a0_2)), (.v (.int .u64 a0_3)), (.v (.int .u64 a0_4)), (.v (.int .u64 a0_5)), (.v (.int .u64 a0_6)), (.v (.int .u64 a0_7)), (.v (.int .u64 a0_8))]), (.agg [(.v (.int .i64 a1_0)), (.v (.int .u64 a1_1)), (.v (.int .u64 a1_2)), (.v (.int .u64 a1_3)), (.v (.int .u64 a1_4)), (.v (.int .u64 a1_5)), (.v (.int .u64 a1_6)), (.v (.int .u64 a1_7)), (.v (.int .u64 a1_8))]), (.agg [(.v (.int .u32 a2_0)), (.v (.int .i64 a2_1)), (.v (.int .i64 a2_2)), (.v (.int .i64 a2_3)), (.v (.bool a2_4)), (.v (.int .u32 a2_5)), (.v (.int .u64 a2_6)), (.v (.int .i64 a2_7)), (.v (.int .i64 a2_8))])] =
  (ev 45 [(.agg [(.v (.int .i64 a0_0)), (.v (.int .u64 a0_1)), (.v (.int .u64 a0_2)), (.v (.int .u64 a0_3)), (.v (.int .u64 a0_4)), (.v (.int .u64 a0_5)), (.v (.int .u64 a0_6)), (.v (.int .u64 a0_7)), (.v (.int .u64 a0_8))])]).bind fun r0 =>
  cond (isB (cellAt r0 0))
   (cond (avBool (cellAt r0 0))
     (some [(.lst true 9 []), (.v (.int .i64 3))])
     ((ev 45 [(.agg [(.v (.int .i64 a1_0)), (.v (.int .u64 a1_1)), (.v (.int .u64 a1_2)), (.v (.int .u64 a1_3)), (.v (.int .u64 a1_4)), (.v (.int .u64 a1_5)), (.v (.int .u64 a1_6)), (.v (.int .u64 a1_7)), (.v (.int .u64 a1_8))])]).bind fun r2 =>
      cond (isB (cellAt r2 0))
       (cond (avBool (cellAt r2 0))
         (some [(.lst true 9 []), (.v (.int .i64 3))])
         ((ev 17 [(.agg [(.v (.int .i64 a0_0)), (.v (.int .u64 a0_1)), (.v (.int .u64 a0_2)), (.v (.int .u64 a0_3)), (.v (.int .u64 a0_4)), (.v (.int .u64 a0_5)), (.v (.int .u64 a0_6)), (.v (.int .u64 a0_7)), (.v (.int .u64 a0_8))])]).bind fun r4 =>
          cond ((Ev.isAgg 9 (cellAt r4 0)) && ((isI .u32 (cellAt (obCells (cellAt r4 0)) 0)) && ((isI .i64 (cellAt (obCells (cellAt r4 0)) 1)) && ((isI .i64 (cellAt (obCells (cellAt r4 0)) 2)) && ((isI .i64 (cellAt (obCells (cellAt r4 0)) 3)) && ((isB (cellAt (obCells (cellAt r4 0)) 4)) && ((isI .u32 (cellAt (obCells (cellAt r4 0)) 5)) && ((isI .u64 (cellAt (obCells (cellAt r4 0)) 6)) && ((isI .i64 (cellAt (obCells (cellAt r4 0)) 7)) && (isI .i64 (cellAt (obCells (cellAt r4 0)) 8)))))))))))
           (cond (isI .i64 (cellAt r4 1))
             (cond (!((avInt (cellAt r4 1)) == 0))
               (some [(.lst true 9 []), (.v (.int .i64 14))])
               ((ev 46 [(.agg [(.v (.int .i64 a1_0)), (.v (.int .u64 a1_1)), (.v (.int .u64 a1_2)), (.v (.int .u64 a1_3)), (.v (.int .u64 a1_4)), (.v (.int .u64 a1_5)), (.v (.int .u64 a1_6)), (.v (.int .u64 a1_7)), (.v (.int .u64 a1_8))])]).bind fun r17 =>
                cond ((Ev.isAgg 2 (cellAt r17 0)) && ((isI .i64 (cellAt (obCells (cellAt r17 0)) 0)) && (isI .i64 (cellAt (obCells (cellAt r17 0)) 1))))
                 ((ev 36 [(.agg [(.v (.int .i64 a1_0)), (.v (.int .u64 a1_1)), (.v (.int .u64 a1_2)), (.v (.int .u64 a1_3)), (.v (.int .u64 a1_4)), (.v (.int .u64 a1_5)), (.v (.int .u64 a1_6)), (.v (.int .u64 a1_7)), (.v (.int .u64 a1_8))])]).bind fun r20 =>
                  cond (isI .i64 (cellAt r20 0))
                   (cond (!((avInt (cellAt r20 0)) == 1))
                     (some [(.lst true 9 []), (.v (.int .i64 1))])
                     ((ev 47 [(.v (.int .i64 a1_0))]).bind fun r23 =>
                      cond (isB (cellAt r23 0))
                       (cond (!(avBool (cellAt r23 0)))
                         (some [(.lst true 9 []), (.v (.int .i64 1))])
                         (cond (a1_0 == a0_0)
                           (some [(.lst true 9 []), (.v (.int .i64 1))])
                           (cond (!(a2_0 == (avInt (cellAt (obCells (cellAt r4 0)) 0))))
                             (some [(.lst true 9 []), (.v (.int .i64 1))])
                             ((ev 22 [(.agg [(.v (.int .u32 a2_0)), (.v (.int .i64 a2_1)), (.v (.int .i64 a2_2)), (.v (.int .i64 a2_3)), (.v (.bool a2_4)), (.v (.int .u32 a2_5)), (.v (.int .u64 a2_6)), (.v (.int .i64 (avInt (cellAt (obCells (cellAt r17 0)) 0)))), (.v (.int .i64 (avInt (cellAt (obCells (cellAt r17 0)) 1))))])]).bind fun r28 =>
                              cond (isB (cellAt r28 0))
                               (cond (!(avBool (cellAt r28 0)))
                                 (some [(.lst true 9 []), (.v (.int .i64 1))])
                                 ((ev 43 [(.agg [(.v (.int .i64 (avInt (cellAt (obCells (cellAt r17 0)) 0)))), (.v (.int .i64 (avInt (cellAt (obCells (cellAt r17 0)) 1))))])]).bind fun r31 =>
                                  cond (isB (cellAt r31 0))
                                   (cond (!(avBool (cellAt r31 0)))
                                     (some [(.lst true 9 []), (.v (.int .i64 1))])
                                     ((ev 19 [(.agg [(.v (.int .i64 a1_0)), (.v (.int .u64 a1_1)), (.v (.int .u64 a1_2)), (.v (.int .u64 a1_3)), (.v (.int .u64 a1_4)), (.v (.int .u64 a1_5)), (.v (.int .u64 a1_6)), (.v (.int .u64 a1_7)), (.v (.int .u64 a1_8))]), (.agg [(.v (.int .u32 (avInt (cellAt (obCells (cellAt r4 0)) 0)))), (.v (.int .i64 (avInt (cellAt (obCells (cellAt r4 0)) 1)))), (.v (.int .i64 (avInt (cellAt (obCells (cellAt r4 0)) 2)))), (.v (.int .i64 (avInt (cellAt (obCells (cellAt r4 0)) 3)))), (.v (.bool (avBool (cellAt (obCells (cellAt r4 0)) 4)))), (.v (.int .u32 (avInt (cellAt (obCells (cellAt r4 0)) 5)))), (.v (.int .u64 (avInt (cellAt (obCells (cellAt r4 0)) 6)))), (.v (.int .i64 (avInt (cellAt (obCells (cellAt r4 0)) 7)))), (.v (.int .i64 (avInt (cellAt (obCells (cellAt r4 0)) 8))))])]).bind fun r34 =>
                                      cond ((Ev.isAgg 9 (cellAt r34 0)) && ((isI .i64 (cellAt (obCells (cellAt r34 0)) 0)) && ((isI .u64 (cellAt (obCells (cellAt r34 0)) 1)) && ((isI .u64 (cellAt (obCells (cellAt r34 0)) 2)) && ((isI .u64 (cellAt (obCells (cellAt r34 0)) 3)) && ((isI .u64 (cellAt (obCells (cellAt r34 0)) 4)) && ((isI .u64 (cellAt (obCells (cellAt r34 0)) 5)) && ((isI .u64 (cellAt (obCells (cellAt r34 0)) 6)) && ((isI .u64 (cellAt (obCells (cellAt r34 0)) 7)) && (isI .u64 (cellAt (obCells (cellAt r34 0)) 8)))))))))))
                                       (cond (isI .i64 (cellAt r34 1))
                                         ((ev 19 [(.agg [(.v (.int .i64 a0_0)), (.v (.int .u64 a0_1)), (.v (.int .u64 a0_2)), (.v (.int .u64 a0_3)), (.v (.int .u64 a0_4)), (.v (.int .u64 a0_5)), (.v (.int .u64 a0_6)), (.v (.int .u64 a0_7)), (.v (.int .u64 a0_8))]), (.agg [(.v (.int .u32 a2_0)), (.v (.int .i64 a2_1)), (.v (.int .i64 a2_2)), (.v (.int .i64 a2_3)), (.v (.bool a2_4)), (.v (.int .u32 a2_5)), (.v (.int .u64 a2_6)), (.v (.int .i64 (avInt (cellAt (obCells (cellAt r17 0)) 0)))), (.v (.int .i64 (avInt (cellAt (obCells (cellAt r17 0)) 1))))])]).bind fun r45 =>
                                          cond ((Ev.isAgg 9 (cellAt r45 0)) && ((isI .i64 (cellAt (obCells (cellAt r45 0)) 0)) && ((isI .u64 (cellAt (obCells (cellAt r45 0)) 1)) && ((isI .u64 (cellAt (obCells (cellAt r45 0)) 2)) && ((isI .u64 (cellAt (obCells (cellAt r45 0)) 3)) && ((isI .u64 (cellAt (obCells (cellAt r45 0)) 4)) && ((isI .u64 (cellAt (obCells (cellAt r45 0)) 5)) && ((isI .u64 (cellAt (obCells (cellAt r45 0)) 6)) && ((isI .u64 (cellAt (obCells (cellAt r45 0)) 7)) && (isI .u64 (cellAt (obCells (cellAt r45 0)) 8)))))))))))
                                           (cond (isI .i64 (cellAt r45 1))
                                             ((ev 48 [(.lst true 0 []), (.lst false 9 [[(.v (.int .i64 (avInt (cellAt (obCells (cellAt r34 0)) 0)))), (.v (.int .u64 (avInt (cellAt (obCells (cellAt r34 0)) 1)))), (.v (.int .u64 (avInt (cellAt (obCells (cellAt r34 0)) 2)))), (.v (.int .u64 (avInt (cellAt (obCells (cellAt r34 0)) 3)))), (.v (.int .u64 (avInt (cellAt (obCells (cellAt r34 0)) 4)))), (.v (.int .u64 (avInt (cellAt (obCells (cellAt r34 0)) 5)))), (.v (.int .u64 (avInt (cellAt (obCells (cellAt r34 0)) 6)))), (.v (.int .u64 (avInt (cellAt (obCells (cellAt r34 0)) 7)))), (.v (.int .u64 (avInt (cellAt (obCells (cellAt r34 0)) 8))))], [(.v (.int .i64 (avInt (cellAt (obCells (cellAt r45 0)) 0)))), (.v (.int .u64 (avInt (cellAt (obCells (cellAt r45 0)) 1)))), (.v (.int .u64 (avInt (cellAt (obCells (cellAt r45 0)) 2)))), (.v (.int .u64 (avInt (cellAt (obCells (cellAt r45 0)) 3)))), (.v (.int .u64 (avInt (cellAt (obCells (cellAt r45 0)) 4)))), (.v (.int .u64 (avInt (cellAt (obCells (cellAt r45 0)) 5)))), (.v (.int .u64 (avInt (cellAt (obCells (cellAt r45 0)) 6)))), (.v (.int .u64 (avInt (cellAt (obCells (cellAt r45 0)) 7)))), (.v (.int .u64 (avInt (cellAt (obCells (cellAt r45 0)) 8))))]])]).bind fun r56 =>
                                              cond (isL 9 (cellAt r56 0))
                                               (some [(.lst (avNil (cellAt r56 0)) 9 (avXs (cellAt r56 0))), (.v (.int .i64 0))])
                                               (none))
                                             (none))
                                           (none))
                                         (none))
                                       (none)))
                                   (none)))
                               (none)))))
                       (none)))
                   (none))
                 (none)))
             (none))
           (none)))
       (none)))
   (none) := (ev_eq _ _).trans (by kernel_rfl)
-- "bodega/bodegaheap.SamePages"
theorem ev28 (a0_0n : Bool) (a0_0 : List (List AV)) (a1_0n : Bool) (a1_0 : List (List AV)) : ev 28 [(.lst a0_0n 9 a0_0), (.lst a1_0n 9 a1_0)] =
  cond (!((((List.length a0_0) : Nat) : Int) == (((List.length a1_0) : Nat) : Int)))
   (some [(.v (.bool false))])
   ((lp 28 0 0 ⟨[(0, (.lst a0_0n 9 a0_0)), (1, (.lst a1_0n 9 a1_0)), (5, (.v (.int .i64 0)))], []⟩).bind fun r4 =>
    cond (isEx 0 r4)
     (cond (likeStG ⟨[], []⟩ r4.st)
       (some [(.v (.bool true))])
       (none))
     (cond (isRt r4)
       (some r4.outs)
       (none))) := (ev_eq _ _).trans (by kernel_rfl)
theorem lp28_0 (x0n : Bool) (x0 : List (List AV)) (x1n : Bool) (x1 : List (List AV)) (x5 : Int) : lp 28 0 0 ⟨[(0, (.lst x0n 9 x0)), (1, (.lst x1n 9 x1)), (5, (.v (.int .i64 x5)))], []⟩ =
  cond (ltI x5 (((List.length x0) : Nat) : Int))
   (cond ((leI 0 x5) && (ltI x5 (((List.length x0) : Nat) : Int)))
     (cond (isI .i64 (cellAt (lget x0 (Int.toNat x5)) 0))
       (cond ((leI 0 x5) && (ltI x5 (((List.length x1) : Nat) : Int)))
         (cond (isI .i64 (cellAt (lget x1 (Int.toNat x5)) 0))
           (cond (!((avInt (cellAt (lget x0 (Int.toNat x5)) 0)) == (avInt (cellAt (lget x1 (Int.toNat x5)) 0))))
             (some ⟨none, ⟨[], []⟩, [(.v (.bool false))]⟩)
             (cond ((leI 0 x5) && (ltI x5 (((List.length x0) : Nat) : Int)))
               (cond (isI .u64 (cellAt (lget x0 (Int.toNat x5)) 1))
                 (cond ((leI 0 x5) && (ltI x5 (((List.length x1) : Nat) : Int)))
                   (cond (isI .u64 (cellAt (lget x1 (Int.toNat x5)) 1))
                     (cond (!((avInt (cellAt (lget x0 (Int.toNat x5)) 1)) == (avInt (cellAt (lget x1 (Int.toNat x5)) 1))))
                       (some ⟨none, ⟨[], []⟩, [(.v (.bool false))]⟩)
                       (cond ((leI 0 x5) && (ltI x5 (((List.length x0) : Nat) : Int)))
                         (cond ((isI .u64 (cellAt (lget x0 (Int.toNat x5)) 2)) && ((isI .u64 (cellAt (lget x0 (Int.toNat x5)) 3)) && ((isI .u64 (cellAt (lget x0 (Int.toNat x5)) 4)) && ((isI .u64 (cellAt (lget x0 (Int.toNat x5)) 5)) && ((isI .u64 (cellAt (lget x0 (Int.toNat x5)) 6)) && ((isI .u64 (cellAt (lget x0 (Int.toNat x5)) 7)) && (isI .u64 (cellAt (lget x0 (Int.toNat x5)) 8))))))))
                           (cond ((leI 0 x5) && (ltI x5 (((List.length x1) : Nat) : Int)))
                             (cond ((isI .u64 (cellAt (lget x1 (Int.toNat x5)) 2)) && ((isI .u64 (cellAt (lget x1 (Int.toNat x5)) 3)) && ((isI .u64 (cellAt (lget x1 (Int.toNat x5)) 4)) && ((isI .u64 (cellAt (lget x1 (Int.toNat x5)) 5)) && ((isI .u64 (cellAt (lget x1 (Int.toNat x5)) 6)) && ((isI .u64 (cellAt (lget x1 (Int.toNat x5)) 7)) && (isI .u64 (cellAt (lget x1 (Int.toNat x5)) 8))))))))
                               (cond (!(((avInt (cellAt (lget x0 (Int.toNat x5)) 2)) == (avInt (cellAt (lget x1 (Int.toNat x5)) 2))) && (((avInt (cellAt (lget x0 (Int.toNat x5)) 3)) == (avInt (cellAt (lget x1 (Int.toNat x5)) 3))) && (((avInt (cellAt (lget x0 (Int.toNat x5)) 4)) == (avInt (cellAt (lget x1 (Int.toNat x5)) 4))) && (((avInt (cellAt (lget x0 (Int.toNat x5)) 5)) == (avInt (cellAt (lget x1 (Int.toNat x5)) 5))) && (((avInt (cellAt (lget x0 (Int.toNat x5)) 6)) == (avInt (cellAt (lget x1 (Int.toNat x5)) 6))) && (((avInt (cellAt (lget x0 (Int.toNat x5)) 7)) == (avInt (cellAt (lget x1 (Int.toNat x5)) 7))) && ((avInt (cellAt (lget x0 (Int.toNat x5)) 8)) == (avInt (cellAt (lget x1 (Int.toNat x5)) 8))))))))))
                                 (some ⟨none, ⟨[], []⟩, [(.v (.bool false))]⟩)
                                 (lp 28 0 0 ⟨[(0, (.lst x0n 9 x0)), (1, (.lst x1n 9 x1)), (5, (.v (.int .i64 (IntKind.wrap .i64 (x5 + 1)))))], []⟩))
                               (none))
                             (none))
                           (none))
                         (none)))
                     (none))
                   (none))
                 (none))
               (none)))
           (none))
         (none))
       (none))
     (none))
   (some ⟨(some 0), ⟨[], []⟩, []⟩) := (lp_eq _ _ _ _).trans (by kernel_rfl)
-- "bodega/bodegaheap.Key"
theorem ev29 (a0_0 : Int) : ev 29 [(.v (.int .i64 a0_0))] =
  (ev 9 [(.v (.int .i64 a0_0)), (.v (.int .i64 50))]).bind fun r0 =>
  cond (isI .i64 (cellAt r0 0))
   (cond (leI 47 (avInt (cellAt r0 0)))
     ((ev 9 [(.v (.int .i64 a0_0)), (.v (.int .i64 4294967294))]).bind fun r3 =>
      cond (isI .i64 (cellAt r3 0))
       (some [(.v (.int .u32 (IntKind.wrap .u32 ((IntKind.wrap .u32 (avInt (cellAt r3 0))) + 1))))])
       (none))
     ((ev 9 [(.v (.int .i64 a0_0)), (.v (.int .i64 40))]).bind fun r8 =>
      cond (isI .i64 (cellAt r8 0))
       (some [(.v (.int .u32 (IntKind.wrap .u32 ((IntKind.wrap .u32 (avInt (cellAt r8 0))) + 1))))])
       (none)))
   (none) := (ev_eq _ _).trans (by kernel_rfl)
-- "bodega/pointer.Allocate"
theorem ev30 (a0_0 : Int) (a0_1 : Int) (a0_2 : Int) (a0_3 : Int) (a0_4 : Int) (a0_5 : Int) (a0_6 : Int) (a0_7 : Int) (a0_8 : Int) (a1_0 : Int) (a2_0 : Int) : ev 30 [(.agg [(.v (.int .i64 a0_0)), (.v (.int .u64 a0_1)), (.v (.int .u64 a0_2)), (.v (.int .u64 a0_3)), (.v (.int .u64 a0_4)), (.v (.int .u64 a0_5)), (.v (.int .u64 a0_6)), (.v (.int .u64 a0_7)), (.v (.int .u64 a0_8))]), (.v (.int .i64 a1_0)), (.v (.int .u32 a2_0))] =
  (ev 49 [(.agg [(.v (.int .i64 a0_0)), (.v (.int .u64 a0_1)), (.v (.int .u64 a0_2)), (.v (.int .u64 a0_3)), (.v (.int .u64 a0_4)), (.v (.int .u64 a0_5)), (.v (.int .u64 a0_6)), (.v (.int .u64 a0_7)), (.v (.int .u64 a0_8))])]).bind fun r0 =>
  cond ((Ev.isAgg 3 (cellAt r0 0)) && ((isI .i64 (cellAt (obCells (cellAt r0 0)) 0)) && ((isI .i64 (cellAt (obCells (cellAt r0 0)) 1)) && (isI .u32 (cellAt (obCells (cellAt r0 0)) 2)))))
   ((ev 50 [(.v (.int .i64 a0_0))]).bind fun r4 =>
    cond (isB (cellAt r4 0))
     (cond (!(avBool (cellAt r4 0)))
       (some [(.agg [(.v (.int .i64 0)), (.v (.int .u64 0)), (.v (.int .u64 0)), (.v (.int .u64 0)), (.v (.int .u64 0)), (.v (.int .u64 0)), (.v (.int .u64 0)), (.v (.int .u64 0)), (.v (.int .u64 0))]), (.v (.int .i64 1))])
       (cond (ltI a1_0 1)
         (some [(.agg [(.v (.int .i64 0)), (.v (.int .u64 0)), (.v (.int .u64 0)), (.v (.int .u64 0)), (.v (.int .u64 0)), (.v (.int .u64 0)), (.v (.int .u64 0)), (.v (.int .u64 0)), (.v (.int .u64 0))]), (.v (.int .i64 1))])
         (cond (ltI 4 a1_0)
           (some [(.agg [(.v (.int .i64 0)), (.v (.int .u64 0)), (.v (.int .u64 0)), (.v (.int .u64 0)), (.v (.int .u64 0)), (.v (.int .u64 0)), (.v (.int .u64 0)), (.v (.int .u64 0)), (.v (.int .u64 0))]), (.v (.int .i64 1))])
           ((ev 44 [(.agg [(.v (.int .i64 a0_0)), (.v (.int .u64 a0_1)), (.v (.int .u64 a0_2)), (.v (.int .u64 a0_3)), (.v (.int .u64 a0_4)), (.v (.int .u64 a0_5)), (.v (.int .u64 a0_6)), (.v (.int .u64 a0_7)), (.v (.int .u64 a0_8))])]).bind fun r9 =>
            cond (isB (cellAt r9 0))
             (cond (avBool (cellAt r9 0))
               (some [(.agg [(.v (.int .i64 0)), (.v (.int .u64 0)), (.v (.int .u64 0)), (.v (.int .u64 0)), (.v (.int .u64 0)), (.v (.int .u64 0)), (.v (.int .u64 0)), (.v (.int .u64 0)), (.v (.int .u64 0))]), (.v (.int .i64 3))])
               (cond (!((avInt (cellAt (obCells (cellAt r0 0)) 0)) == 0))
                 (some [(.agg [(.v (.int .i64 0)), (.v (.int .u64 0)), (.v (.int .u64 0)), (.v (.int .u64 0)), (.v (.int .u64 0)), (.v (.int .u64 0)), (.v (.int .u64 0)), (.v (.int .u64 0)), (.v (.int .u64 0))]), (.v (.int .i64 17))])
                 (cond ((avInt (cellAt (obCells (cellAt r0 0)) 1)) == 16777215)
                   (some [(.agg [(.v (.int .i64 0)), (.v (.int .u64 0)), (.v (.int .u64 0)), (.v (.int .u64 0)), (.v (.int .u64 0)), (.v (.int .u64 0)), (.v (.int .u64 0)), (.v (.int .u64 0)), (.v (.int .u64 0))]), (.v (.int .i64 18))])
                   ((ev 51 [(.agg [(.v (.int .i64 a0_0)), (.v (.int .u64 a0_1)), (.v (.int .u64 a0_2)), (.v (.int .u64 a0_3)), (.v (.int .u64 a0_4)), (.v (.int .u64 a0_5)), (.v (.int .u64 a0_6)), (.v (.int .u64 a0_7)), (.v (.int .u64 a0_8))]), (.agg [(.v (.int .i64 a1_0)), (.v (.int .i64 (IntKind.wrap .i64 ((avInt (cellAt (obCells (cellAt r0 0)) 1)) + 1)))), (.v (.int .u32 a2_0))])]).bind fun r14 =>
                    cond ((Ev.isAgg 9 (cellAt r14 0)) && ((isI .i64 (cellAt (obCells (cellAt r14 0)) 0)) && ((isI .u64 (cellAt (obCells (cellAt r14 0)) 1)) && ((isI .u64 (cellAt (obCells (cellAt r14 0)) 2)) && ((isI .u64 (cellAt (obCells (cellAt r14 0)) 3)) && ((isI .u64 (cellAt (obCells (cellAt r14 0)) 4)) && ((isI .u64 (cellAt (obCells (cellAt r14 0)) 5)) && ((isI .u64 (cellAt (obCells (cellAt r14 0)) 6)) && ((isI .u64 (cellAt (obCells (cellAt r14 0)) 7)) && (isI .u64 (cellAt (obCells (cellAt r14 0)) 8)))))))))))
                     (some [(.agg [(.v (.int .i64 (avInt (cellAt (obCells (cellAt r14 0)) 0)))), (.v (.int .u64 (avInt (cellAt (obCells (cellAt r14 0)) 1)))), (.v (.int .u64 (avInt (cellAt (obCells (cellAt r14 0)) 2)))), (.v (.int .u64 (avInt (cellAt (obCells (cellAt r14 0)) 3)))), (.v (.int .u64 (avInt (cellAt (obCells (cellAt r14 0)) 4)))), (.v (.int .u64 (avInt (cellAt (obCells (cellAt r14 0)) 5)))), (.v (.int .u64 (avInt (cellAt (obCells (cellAt r14 0)) 6)))), (.v (.int .u64 (avInt (cellAt (obCells (cellAt r14 0)) 7)))), (.v (.int .u64 (avInt (cellAt (obCells (cellAt r14 0)) 8))))]), (.v (.int .i64 0))])
                     (none)))))
             (none)))))
     (none))
   (none) := (ev_eq _ _).trans (by kernel_rfl)
-- "bodega/pointer.At"
theorem ev31 (a0_0 : Int) (a0_1 : Int) (a0_2 : Int) (a0_3 : Int) (a0_4 : Int) (a0_5 : Int) (a0_6 : Int) (a0_7 : Int) (a0_8 : Int) : ev 31 [(.agg [(.v (.int .i64 a0_0)), (.v (.int .u64 a0_1)), (.v (.int .u64 a0_2)), (.v (.int .u64 a0_3)), (.v (.int .u64 a0_4)), (.v (.int .u64 a0_5)), (.v (.int .u64 a0_6)), (.v (.int .u64 a0_7)), (.v (.int .u64 a0_8))])] =
  (ev 49 [(.agg [(.v (.int .i64 a0_0)), (.v (.int .u64 a0_1)), (.v (.int .u64 a0_2)), (.v (.int .u64 a0_3)), (.v (.int .u64 a0_4)), (.v (.int .u64 a0_5)), (.v (.int .u64 a0_6)), (.v (.int .u64 a0_7)), (.v (.int .u64 a0_8))])]).bind fun r0 =>
  cond ((Ev.isAgg 3 (cellAt r0 0)) && ((isI .i64 (cellAt (obCells (cellAt r0 0)) 0)) && ((isI .i64 (cellAt (obCells (cellAt r0 0)) 1)) && (isI .u32 (cellAt (obCells (cellAt r0 0)) 2)))))
   (some [(.agg [(.v (.int .i64 a0_0)), (.v (.int .i64 (avInt (cellAt (obCells (cellAt r0 0)) 1))))])])
   (none) := (ev_eq _ _).trans (by kernel_rfl)
-- "bodega/pointer.Open"
theorem ev32 (a0_0n : Bool) (a0_0 : List (List AV)) (a1_0 : Int) (a1_1 : Int) (a2_0 : Int) : ev 32 [(.lst a0_0n 9 a0_0), (.agg [(.v (.int .i64 a1_0)), (.v (.int .i64 a1_1))]), (.v (.int .i64 a2_0))] =
  (ev 52 [(.lst a0_0n 9 a0_0), (.agg [(.v (.int .i64 a1_0)), (.v (.int .i64 a1_1))]), (.v (.int .i64 a2_0)), (.v (.bool true))]).bind fun r0 =>
  cond ((Ev.isAgg 9 (cellAt r0 0)) && ((isI .i64 (cellAt (obCells (cellAt r0 0)) 0)) && ((isI .u64 (cellAt (obCells (cellAt r0 0)) 1)) && ((isI .u64 (cellAt (obCells (cellAt r0 0)) 2)) && ((isI .u64 (cellAt (obCells (cellAt r0 0)) 3)) && ((isI .u64 (cellAt (obCells (cellAt r0 0)) 4)) && ((isI .u64 (cellAt (obCells (cellAt r0 0)) 5)) && ((isI .u64 (cellAt (obCells (cellAt r0 0)) 6)) && ((isI .u64 (cellAt (obCells (cellAt r0 0)) 7)) && (isI .u64 (cellAt (obCells (cellAt r0 0)) 8)))))))))))
   (cond (isB (cellAt r0 1))
     (cond (isI .i64 (cellAt r0 2))
       (some [(.agg [(.v (.int .i64 (avInt (cellAt (obCells (cellAt r0 0)) 0)))), (.v (.int .u64 (avInt (cellAt (obCells (cellAt r0 0)) 1)))), (.v (.int .u64 (avInt (cellAt (obCells (cellAt r0 0)) 2)))), (.v (.int .u64 (avInt (cellAt (obCells (cellAt r0 0)) 3)))), (.v (.int .u64 (avInt (cellAt (obCells (cellAt r0 0)) 4)))), (.v (.int .u64 (avInt (cellAt (obCells (cellAt r0 0)) 5)))), (.v (.int .u64 (avInt (cellAt (obCells (cellAt r0 0)) 6)))), (.v (.int .u64 (avInt (cellAt (obCells (cellAt r0 0)) 7)))), (.v (.int .u64 (avInt (cellAt (obCells (cellAt r0 0)) 8))))]), (.v (.bool (avBool (cellAt r0 1)))), (.v (.int .i64 (avInt (cellAt r0 2))))])
       (none))
     (none))
   (none) := (ev_eq _ _).trans (by kernel_rfl)
-- "bodega/pointer.Unpack"
theorem ev33 (a0_0 : Int) : ev 33 [(.v (.int .u32 a0_0))] =
  some [(.agg [(.v (.int .i64 (IntKind.wrap .i64 (bits .and .u32 a0_0 255)))), (.v (.int .i64 (IntKind.wrap .i64 (Int.fdiv a0_0 256))))])] := (ev_eq _ _).trans (by kernel_rfl)
-- "bodega/record.fill"
theorem ev34 (a0_0 : Int) (a0_1 : Int) (a0_2 : Int) (a0_3 : Int) (a0_4 : Int) (a0_5 : Int) (a0_6 : Int) (a0_7 : Int) (a0_8 : Int) (a1_0 : Int) (a1_1 : Int) (a1_2 : Int) (a1_3 : Int) (a1_4 : Bool) (a1_5 : Int) (a1_6 : Int) (a1_7 : Int) (a1_8 : Int) : ev 34 [(.agg [(.v (.int .i64 a0_0)), (.v (.int .u64 a0_1)), (.v (.int .u64 a0_2)), (.v (.int .u64 a0_3)), (.v (.int .u64 a0_4)), (.v (.int .u64 a0_5)), (.v (.int .u64 a0_6)), (.v (.int .u64 a0_7)), (.v (.int .u64 a0_8))]), (.agg [(.v (.int .u32 a1_0)), (.v (.int .i64 a1_1)), (.v (.int .i64 a1_2)), (.v (.int .i64 a1_3)), (.v (.bool a1_4)), (.v (.int .u32 a1_5)), (.v (.int .u64 a1_6)), (.v (.int .i64 a1_7)), (.v (.int .i64 a1_8))])] =
  (ev 25 [(.v (.int .u64 a0_2))]).bind fun r0 =>
  cond ((Ev.isAgg 3 (cellAt r0 0)) && ((isI .i64 (cellAt (obCells (cellAt r0 0)) 0)) && ((isI .i64 (cellAt (obCells (cellAt r0 0)) 1)) && (isI .u32 (cellAt (obCells (cellAt r0 0)) 2)))))
   ((ev 53 [(.agg [(.v (.int .i64 a1_7)), (.v (.int .i64 a1_8))])]).bind fun r5 =>
    cond (isI .u32 (cellAt r5 0))
     (cond a1_4
       ((ev 24 [(.agg [(.v (.int .i64 (avInt (cellAt (obCells (cellAt r0 0)) 0)))), (.v (.int .i64 (avInt (cellAt (obCells (cellAt r0 0)) 1)))), (.v (.int .u32 1))])]).bind fun r38 =>
        cond (isI .u64 (cellAt r38 0))
         (some [(.agg [(.v (.int .i64 a0_0)), (.v (.int .u64 a0_1)), (.v (.int .u64 (avInt (cellAt r38 0)))), (.v (.int .u64 (bits .or .u64 (IntKind.wrap .u64 a1_0) (IntKind.wrap .u64 ((IntKind.wrap .u64 (avInt (cellAt r5 0))) * 4294967296))))), (.v (.int .u64 (IntKind.wrap .u64 a1_5))), (.v (.int .u64 (IntKind.wrap .u64 a1_2))), (.v (.int .u64 (IntKind.wrap .u64 a1_3))), (.v (.int .u64 a1_6)), (.v (.int .u64 0))])])
         (none))
       ((ev 24 [(.agg [(.v (.int .i64 (avInt (cellAt (obCells (cellAt r0 0)) 0)))), (.v (.int .i64 (avInt (cellAt (obCells (cellAt r0 0)) 1)))), (.v (.int .u32 0))])]).bind fun r40 =>
        cond (isI .u64 (cellAt r40 0))
         (some [(.agg [(.v (.int .i64 a0_0)), (.v (.int .u64 a0_1)), (.v (.int .u64 (avInt (cellAt r40 0)))), (.v (.int .u64 (bits .or .u64 (IntKind.wrap .u64 a1_0) (IntKind.wrap .u64 ((IntKind.wrap .u64 (avInt (cellAt r5 0))) * 4294967296))))), (.v (.int .u64 (IntKind.wrap .u64 a1_1))), (.v (.int .u64 (IntKind.wrap .u64 a1_2))), (.v (.int .u64 (IntKind.wrap .u64 a1_3))), (.v (.int .u64 a1_6)), (.v (.int .u64 0))])])
         (none)))
     (none))
   (none) := (ev_eq _ _).trans (by kernel_rfl)
-- "bodega/bodegaref19.Aux"
theorem ev35 (a0_0 : Int) (a0_1 : Int) (a0_2 : Int) (a0_3 : Int) (a0_4 : Int) (a0_5 : Int) (a0_6 : Int) (a0_7 : Int) (a0_8 : Int) : ev 35 [(.agg [(.v (.int .i64 a0_0)), (.v (.int .u64 a0_1)), (.v (.int .u64 a0_2)), (.v (.int .u64 a0_3)), (.v (.int .u64 a0_4)), (.v (.int .u64 a0_5)), (.v (.int .u64 a0_6)), (.v (.int .u64 a0_7)), (.v (.int .u64 a0_8))])] =
  some [(.v (.int .u32 (IntKind.wrap .u32 (Int.fdiv a0_2 4294967296))))] := (ev_eq _ _).trans (by kernel_rfl)
-- "bodega/bodegaref19.Kind"
theorem ev36 (a0_0 : Int) (a0_1 : Int) (a0_2 : Int) (a0_3 : Int) (a0_4 : Int) (a0_5 : Int) (a0_6 : Int) (a0_7 : Int) (a0_8 : Int) : ev 36 [(.agg [(.v (.int .i64 a0_0)), (.v (.int .u64 a0_1)), (.v (.int .u64 a0_2)), (.v (.int .u64 a0_3)), (.v (.int .u64 a0_4)), (.v (.int .u64 a0_5)), (.v (.int .u64 a0_6)), (.v (.int .u64 a0_7)), (.v (.int .u64 a0_8))])] =
  some [(.v (.int .i64 (IntKind.wrap .i64 (Int.tmod a0_2 256))))] := (ev_eq _ _).trans (by kernel_rfl)
-- "bodega/bodegaref19.nilOrValid"
theorem ev37 (a0_0 : Int) : ev 37 [(.v (.int .u32 a0_0))] =
  cond (a0_0 == 0)
   (some [(.v (.bool true))])
   ((ev 38 [(.v (.int .u32 a0_0))]).bind fun r1 =>
    cond ((Ev.isAgg 2 (cellAt r1 0)) && ((isI .i64 (cellAt (obCells (cellAt r1 0)) 0)) && (isI .i64 (cellAt (obCells (cellAt r1 0)) 1))))
     ((ev 43 [(.agg [(.v (.int .i64 (avInt (cellAt (obCells (cellAt r1 0)) 0)))), (.v (.int .i64 (avInt (cellAt (obCells (cellAt r1 0)) 1))))])]).bind fun r4 =>
      cond (isB (cellAt r4 0))
       (some [(.v (.bool (avBool (cellAt r4 0))))])
       (none))
     (none)) := (ev_eq _ _).trans (by kernel_rfl)
-- "bodega/bodegaref19.Unpack"
theorem ev38 (a0_0 : Int) : ev 38 [(.v (.int .u32 a0_0))] =
  some [(.agg [(.v (.int .i64 (IntKind.wrap .i64 (Int.tmod a0_0 256)))), (.v (.int .i64 (IntKind.wrap .i64 (IntKind.wrap .u32 (Int.tdiv a0_0 256)))))])] := (ev_eq _ _).trans (by kernel_rfl)
-- "bodega/bodegaref19.Tag"
theorem ev39 (a0_0 : Int) (a1_0 : Int) (a2_0 : Int) : ev 39 [(.v (.int .i64 a0_0)), (.v (.int .i64 a1_0)), (.v (.int .u32 a2_0))] =
  some [(.v (.int .u64 (IntKind.wrap .u64 ((IntKind.wrap .u64 ((Int.tmod (IntKind.wrap .u64 a0_0) 256) + (IntKind.wrap .u64 ((Int.tmod (IntKind.wrap .u64 a1_0) 16777216) * 256)))) + (IntKind.wrap .u64 ((IntKind.wrap .u64 a2_0) * 4294967296))))))] := (ev_eq _ _).trans (by kernel_rfl)
-- "bodega/bodegaref19.Gen"
theorem ev40 (a0_0 : Int) (a0_1 : Int) (a0_2 : Int) (a0_3 : Int) (a0_4 : Int) (a0_5 : Int) (a0_6 : Int) (a0_7 : Int) (a0_8 : Int) : ev 40 [(.agg [(.v (.int .i64 a0_0)), (.v (.int .u64 a0_1)), (.v (.int .u64 a0_2)), (.v (.int .u64 a0_3)), (.v (.int .u64 a0_4)), (.v (.int .u64 a0_5)), (.v (.int .u64 a0_6)), (.v (.int .u64 a0_7)), (.v (.int .u64 a0_8))])] =
  some [(.v (.int .i64 (IntKind.wrap .i64 (Int.tmod (IntKind.wrap .u64 (Int.tdiv a0_2 256)) 16777216))))] := (ev_eq _ _).trans (by kernel_rfl)
-- "bodega/bodegaref19.Pack"
theorem ev41 (a0_0 : Int) (a0_1 : Int) : ev 41 [(.agg [(.v (.int .i64 a0_0)), (.v (.int .i64 a0_1))])] =
  (ev 43 [(.agg [(.v (.int .i64 a0_0)), (.v (.int .i64 a0_1))])]).bind fun r0 =>
  cond (isB (cellAt r0 0))
   (cond (!(avBool (cellAt r0 0)))
     (some [(.v (.int .u32 0))])
     (some [(.v (.int .u32 (IntKind.wrap .u32 ((IntKind.wrap .u32 a0_0) + (IntKind.wrap .u32 (256 * (IntKind.wrap .u32 a0_1)))))))]))
   (none) := (ev_eq _ _).trans (by kernel_rfl)
-- "bodega/pointer.Valid"
theorem ev42 (a0_0 : Int) (a0_1 : Int) : ev 42 [(.agg [(.v (.int .i64 a0_0)), (.v (.int .i64 a0_1))])] =
  (ev 50 [(.v (.int .i64 a0_0))]).bind fun r0 =>
  cond (isB (cellAt r0 0))
   (cond (avBool (cellAt r0 0))
     (cond (leI 1 a0_1)
       (some [(.v (.bool (leI a0_1 16777215)))])
       (some [(.v (.bool false))]))
     (some [(.v (.bool false))]))
   (none) := (ev_eq _ _).trans (by kernel_rfl)
-- "bodega/bodegaref19.ValidPointer"
theorem ev43 (a0_0 : Int) (a0_1 : Int) : ev 43 [(.agg [(.v (.int .i64 a0_0)), (.v (.int .i64 a0_1))])] =
  (ev 47 [(.v (.int .i64 a0_0))]).bind fun r0 =>
  cond (isB (cellAt r0 0))
   (cond (avBool (cellAt r0 0))
     (cond (leI 1 a0_1)
       (some [(.v (.bool (leI a0_1 16777215)))])
       (some [(.v (.bool false))]))
     (some [(.v (.bool false))]))
   (none) := (ev_eq _ _).trans (by kernel_rfl)
-- "bodega/pointer.Locked"
theorem ev44 (a0_0 : Int) (a0_1 : Int) (a0_2 : Int) (a0_3 : Int) (a0_4 : Int) (a0_5 : Int) (a0_6 : Int) (a0_7 : Int) (a0_8 : Int) : ev 44 [(.agg [(.v (.int .i64 a0_0)), (.v (.int .u64 a0_1)), (.v (.int .u64 a0_2)), (.v (.int .u64 a0_3)), (.v (.int .u64 a0_4)), (.v (.int .u64 a0_5)), (.v (.int .u64 a0_6)), (.v (.int .u64 a0_7)), (.v (.int .u64 a0_8))])] =
  some [(.v (.bool (!((bits .and .u64 a0_1 255) == 0))))] := (ev_eq _ _).trans (by kernel_rfl)
-- "bodega/bodegaref19.Locked"
theorem ev45 (a0_0 : Int) (a0_1 : Int) (a0_2 : Int) (a0_3 : Int) (a0_4 : Int) (a0_5 : Int) (a0_6 : Int) (a0_7 : Int) (a0_8 : Int) : ev 45 [(.agg [(.v (.int .i64 a0_0)), (.v (.int .u64 a0_1)), (.v (.int .u64 a0_2)), (.v (.int .u64 a0_3)), (.v (.int .u64 a0_4)), (.v (.int .u64 a0_5)), (.v (.int .u64 a0_6)), (.v (.int .u64 a0_7)), (.v (.int .u64 a0_8))])] =
  some [(.v (.bool (!((Int.tmod a0_1 256) == 0))))] := (ev_eq _ _).trans (by kernel_rfl)
-- "bodega/bodegaref19.At"
theorem ev46 (a0_0 : Int) (a0_1 : Int) (a0_2 : Int) (a0_3 : Int) (a0_4 : Int) (a0_5 : Int) (a0_6 : Int) (a0_7 : Int) (a0_8 : Int) : ev 46 [(.agg [(.v (.int .i64 a0_0)), (.v (.int .u64 a0_1)), (.v (.int .u64 a0_2)), (.v (.int .u64 a0_3)), (.v (.int .u64 a0_4)), (.v (.int .u64 a0_5)), (.v (.int .u64 a0_6)), (.v (.int .u64 a0_7)), (.v (.int .u64 a0_8))])] =
  (ev 40 [(.agg [(.v (.int .i64 a0_0)), (.v (.int .u64 a0_1)), (.v (.int .u64 a0_2)), (.v (.int .u64 a0_3)), (.v (.int .u64 a0_4)), (.v (.int .u64 a0_5)), (.v (.int .u64 a0_6)), (.v (.int .u64 a0_7)), (.v (.int .u64 a0_8))])]).bind fun r0 =>
  cond (isI .i64 (cellAt r0 0))
   (some [(.agg [(.v (.int .i64 a0_0)), (.v (.int .i64 (avInt (cellAt r0 0))))])])
   (none) := (ev_eq _ _).trans (by kernel_rfl)
-- "bodega/bodegaref19.heapLine"
theorem ev47 (a0_0 : Int) : ev 47 [(.v (.int .i64 a0_0))] =
  cond (leI 104 a0_0)
   (some [(.v (.bool (ltI a0_0 256)))])
   (some [(.v (.bool false))]) := (ev_eq _ _).trans (by kernel_rfl)
-- "bodega/bodegaref19.Merge"
theorem ev48 (a0_0n : Bool) (a0_0 : List (List AV)) (a1_0n : Bool) (a1_0 : List (List AV)) : ev 48 [(.lst a0_0n 9 a0_0), (.lst a1_0n 9 a1_0)] =
  cond (leN ((0 + (List.length a0_0)) * 72) 140737488355328)
   (cond (leN (((List.length ([] ++ a0_0)) + (List.length a1_0)) * 72) 140737488355328)
     ((lp 48 0 0 ⟨[(5, (.sl true 0 0 none)), (6, (.sl ((List.isEmpty a1_0) && ((List.isEmpty a0_0) && false)) 1 0 none)), (7, (.v (.int .i64 0)))], [⟨1, 34, 9, false, []⟩, ⟨1, 34, 9, false, (([] ++ a0_0) ++ a1_0)⟩]⟩).bind fun r5 =>
      cond (isEx 0 r5)
       (cond (likeStG ⟨[(5, (.sl true 0 0 none))], [⟨1, 34, 9, false, []⟩]⟩ r5.st)
         (some [(.lst (avNil (frAt r5.st.fr 0).2) 9 (blAt r5.st.bl 0).xs)])
         (none))
       (cond (isRt r5)
         (some r5.outs)
         (none)))
     (none))
   (none) := (ev_eq _ _).trans (by kernel_rfl)
theorem lp48_0 (x5n : Bool) (x6n : Bool) (x7 : Int) (b0 : List (List AV)) (b1 : List (List AV)) : lp 48 0 0 ⟨[(5, (.sl x5n 0 0 none)), (6, (.sl x6n 1 0 none)), (7, (.v (.int .i64 x7)))], [⟨1, 34, 9, false, b0⟩, ⟨1, 34, 9, false, b1⟩]⟩ =
  cond (ltI x7 ((((List.length b1) - 0) : Nat) : Int))
   ((lp 48 1 0 ⟨[(5, (.sl x5n 0 0 none)), (6, (.sl x6n 1 0 none)), (7, (.v (.int .i64 x7))), (8, (.v (.int .i64 0)))], [⟨1, 34, 9, false, b0⟩, ⟨1, 34, 9, false, b1⟩]⟩).bind fun r10 =>
    cond (isEx 2 r10)
     (cond (likeStG ⟨[(5, (.sl x5n 0 0 none)), (6, (.sl x6n 1 0 none)), (7, (.v (.int .i64 x7))), (8, (.v (.int .i64 0)))], [⟨1, 34, 9, false, b0⟩, ⟨1, 34, 9, false, b1⟩]⟩ r10.st)
       (cond (ltI (avInt (frAt r10.st.fr 3).2) ((((List.length (blAt r10.st.bl 0).xs) - 0) : Nat) : Int))
         (cond ((leI 0 (avInt (frAt r10.st.fr 3).2)) && (ltI (avInt (frAt r10.st.fr 3).2) ((((List.length (blAt r10.st.bl 0).xs) - 0) : Nat) : Int)))
           (cond ((ltN (0 + (Int.toNat (avInt (frAt r10.st.fr 3).2))) (List.length (blAt r10.st.bl 0).xs)) && (isI .i64 (cellAt (lget (blAt r10.st.bl 0).xs (0 + (Int.toNat (avInt (frAt r10.st.fr 3).2)))) 0)))
             (cond ((leI 0 (avInt (frAt r10.st.fr 2).2)) && (ltI (avInt (frAt r10.st.fr 2).2) ((((List.length (blAt r10.st.bl 1).xs) - 0) : Nat) : Int)))
               (cond ((ltN (0 + (Int.toNat (avInt (frAt r10.st.fr 2).2))) (List.length (blAt r10.st.bl 1).xs)) && (isI .i64 (cellAt (lget (blAt r10.st.bl 1).xs (0 + (Int.toNat (avInt (frAt r10.st.fr 2).2)))) 0)))
                 (cond ((avInt (cellAt (lget (blAt r10.st.bl 0).xs (0 + (Int.toNat (avInt (frAt r10.st.fr 3).2)))) 0)) == (avInt (cellAt (lget (blAt r10.st.bl 1).xs (0 + (Int.toNat (avInt (frAt r10.st.fr 2).2)))) 0)))
                   (cond ((leI 0 (avInt (frAt r10.st.fr 2).2)) && (ltI (avInt (frAt r10.st.fr 2).2) ((((List.length (blAt r10.st.bl 1).xs) - 0) : Nat) : Int)))
                     (cond ((ltN (0 + (Int.toNat (avInt (frAt r10.st.fr 2).2))) (List.length (blAt r10.st.bl 1).xs)) && ((isI .i64 (cellAt (lget (blAt r10.st.bl 1).xs (0 + (Int.toNat (avInt (frAt r10.st.fr 2).2)))) 0)) && ((isI .u64 (cellAt (lget (blAt r10.st.bl 1).xs (0 + (Int.toNat (avInt (frAt r10.st.fr 2).2)))) 1)) && ((isI .u64 (cellAt (lget (blAt r10.st.bl 1).xs (0 + (Int.toNat (avInt (frAt r10.st.fr 2).2)))) 2)) && ((isI .u64 (cellAt (lget (blAt r10.st.bl 1).xs (0 + (Int.toNat (avInt (frAt r10.st.fr 2).2)))) 3)) && ((isI .u64 (cellAt (lget (blAt r10.st.bl 1).xs (0 + (Int.toNat (avInt (frAt r10.st.fr 2).2)))) 4)) && ((isI .u64 (cellAt (lget (blAt r10.st.bl 1).xs (0 + (Int.toNat (avInt (frAt r10.st.fr 2).2)))) 5)) && ((isI .u64 (cellAt (lget (blAt r10.st.bl 1).xs (0 + (Int.toNat (avInt (frAt r10.st.fr 2).2)))) 6)) && ((isI .u64 (cellAt (lget (blAt r10.st.bl 1).xs (0 + (Int.toNat (avInt (frAt r10.st.fr 2).2)))) 7)) && (isI .u64 (cellAt (lget (blAt r10.st.bl 1).xs (0 + (Int.toNat (avInt (frAt r10.st.fr 2).2)))) 8)))))))))))
                       (cond ((leI 0 (avInt (frAt r10.st.fr 3).2)) && (ltI (avInt (frAt r10.st.fr 3).2) ((((List.length (blAt r10.st.bl 0).xs) - 0) : Nat) : Int)))
                         (cond (ltN (0 + (Int.toNat (avInt (frAt r10.st.fr 3).2))) (List.length (blAt r10.st.bl 0).xs))
                           (lp 48 0 0 ⟨[(5, (.sl (avNil (frAt r10.st.fr 0).2) 0 0 none)), (6, (.sl (avNil (frAt r10.st.fr 1).2) 1 0 none)), (7, (.v (.int .i64 (IntKind.wrap .i64 ((avInt (frAt r10.st.fr 2).2) + 1)))))], [⟨1, 34, 9, false, (List.set (blAt r10.st.bl 0).xs (0 + (Int.toNat (avInt (frAt r10.st.fr 3).2))) [(.v (.int .i64 (avInt (cellAt (lget (blAt r10.st.bl 1).xs (0 + (Int.toNat (avInt (frAt r10.st.fr 2).2)))) 0)))), (.v (.int .u64 (avInt (cellAt (lget (blAt r10.st.bl 1).xs (0 + (Int.toNat (avInt (frAt r10.st.fr 2).2)))) 1)))), (.v (.int .u64 (avInt (cellAt (lget (blAt r10.st.bl 1).xs (0 + (Int.toNat (avInt (frAt r10.st.fr 2).2)))) 2)))), (.v (.int .u64 (avInt (cellAt (lget (blAt r10.st.bl 1).xs (0 + (Int.toNat (avInt (frAt r10.st.fr 2).2)))) 3)))), (.v (.int .u64 (avInt (cellAt (lget (blAt r10.st.bl 1).xs (0 + (Int.toNat (avInt (frAt r10.st.fr 2).2)))) 4)))), (.v (.int .u64 (avInt (cellAt (lget (blAt r10.st.bl 1).xs (0 + (Int.toNat (avInt (frAt r10.st.fr 2).2)))) 5)))), (.v (.int .u64 (avInt (cellAt (lget (blAt r10.st.bl 1).xs (0 + (Int.toNat (avInt (frAt r10.st.fr 2).2)))) 6)))), (.v (.int .u64 (avInt (cellAt (lget (blAt r10.st.bl 1).xs (0 + (Int.toNat (avInt (frAt r10.st.fr 2).2)))) 7)))), (.v (.int .u64 (avInt (cellAt (lget (blAt r10.st.bl 1).xs (0 + (Int.toNat (avInt (frAt r10.st.fr 2).2)))) 8))))])⟩, ⟨1, 34, 9, false, (blAt r10.st.bl 1).xs⟩]⟩)
                           (none))
                         (none))
                       (none))
                     (none))
                   (cond ((leI 0 (avInt (frAt r10.st.fr 3).2)) && (leI (avInt (frAt r10.st.fr 3).2) ((((List.length (blAt r10.st.bl 0).xs) - 0) : Nat) : Int)))
                     (cond ((leI 0 (avInt (frAt r10.st.fr 2).2)) && (ltI (avInt (frAt r10.st.fr 2).2) ((((List.length (blAt r10.st.bl 1).xs) - 0) : Nat) : Int)))
                       (cond ((ltN (0 + (Int.toNat (avInt (frAt r10.st.fr 2).2))) (List.length (blAt r10.st.bl 1).xs)) && ((isI .i64 (cellAt (lget (blAt r10.st.bl 1).xs (0 + (Int.toNat (avInt (frAt r10.st.fr 2).2)))) 0)) && ((isI .u64 (cellAt (lget (blAt r10.st.bl 1).xs (0 + (Int.toNat (avInt (frAt r10.st.fr 2).2)))) 1)) && ((isI .u64 (cellAt (lget (blAt r10.st.bl 1).xs (0 + (Int.toNat (avInt (frAt r10.st.fr 2).2)))) 2)) && ((isI .u64 (cellAt (lget (blAt r10.st.bl 1).xs (0 + (Int.toNat (avInt (frAt r10.st.fr 2).2)))) 3)) && ((isI .u64 (cellAt (lget (blAt r10.st.bl 1).xs (0 + (Int.toNat (avInt (frAt r10.st.fr 2).2)))) 4)) && ((isI .u64 (cellAt (lget (blAt r10.st.bl 1).xs (0 + (Int.toNat (avInt (frAt r10.st.fr 2).2)))) 5)) && ((isI .u64 (cellAt (lget (blAt r10.st.bl 1).xs (0 + (Int.toNat (avInt (frAt r10.st.fr 2).2)))) 6)) && ((isI .u64 (cellAt (lget (blAt r10.st.bl 1).xs (0 + (Int.toNat (avInt (frAt r10.st.fr 2).2)))) 7)) && (isI .u64 (cellAt (lget (blAt r10.st.bl 1).xs (0 + (Int.toNat (avInt (frAt r10.st.fr 2).2)))) 8)))))))))))
                         (cond ((leI 0 (avInt (frAt r10.st.fr 3).2)) && (leI (avInt (frAt r10.st.fr 3).2) ((((List.length (blAt r10.st.bl 0).xs) - 0) : Nat) : Int)))
                           (cond (leN ((1 + (List.length (List.drop (0 + (Int.toNat (avInt (frAt r10.st.fr 3).2))) (blAt r10.st.bl 0).xs))) * 72) 140737488355328)
                             (cond (leN (((List.length (List.take (Int.toNat (avInt (frAt r10.st.fr 3).2)) (blAt r10.st.bl 0).xs)) + (List.length ([[(.v (.int .i64 (avInt (cellAt (lget (blAt r10.st.bl 1).xs (0 + (Int.toNat (avInt (frAt r10.st.fr 2).2)))) 0)))), (.v (.int .u64 (avInt (cellAt (lget (blAt r10.st.bl 1).xs (0 + (Int.toNat (avInt (frAt r10.st.fr 2).2)))) 1)))), (.v (.int .u64 (avInt (cellAt (lget (blAt r10.st.bl 1).xs (0 + (Int.toNat (avInt (frAt r10.st.fr 2).2)))) 2)))), (.v (.int .u64 (avInt (cellAt (lget (blAt r10.st.bl 1).xs (0 + (Int.toNat (avInt (frAt r10.st.fr 2).2)))) 3)))), (.v (.int .u64 (avInt (cellAt (lget (blAt r10.st.bl 1).xs (0 + (Int.toNat (avInt (frAt r10.st.fr 2).2)))) 4)))), (.v (.int .u64 (avInt (cellAt (lget (blAt r10.st.bl 1).xs (0 + (Int.toNat (avInt (frAt r10.st.fr 2).2)))) 5)))), (.v (.int .u64 (avInt (cellAt (lget (blAt r10.st.bl 1).xs (0 + (Int.toNat (avInt (frAt r10.st.fr 2).2)))) 6)))), (.v (.int .u64 (avInt (cellAt (lget (blAt r10.st.bl 1).xs (0 + (Int.toNat (avInt (frAt r10.st.fr 2).2)))) 7)))), (.v (.int .u64 (avInt (cellAt (lget (blAt r10.st.bl 1).xs (0 + (Int.toNat (avInt (frAt r10.st.fr 2).2)))) 8))))]] ++ (List.drop (0 + (Int.toNat (avInt (frAt r10.st.fr 3).2))) (blAt r10.st.bl 0).xs)))) * 72) 140737488355328)
                               (lp 48 0 0 ⟨[(5, (.sl ((List.isEmpty ([[(.v (.int .i64 (avInt (cellAt (lget (blAt r10.st.bl 1).xs (0 + (Int.toNat (avInt (frAt r10.st.fr 2).2)))) 0)))), (.v (.int .u64 (avInt (cellAt (lget (blAt r10.st.bl 1).xs (0 + (Int.toNat (avInt (frAt r10.st.fr 2).2)))) 1)))), (.v (.int .u64 (avInt (cellAt (lget (blAt r10.st.bl 1).xs (0 + (Int.toNat (avInt (frAt r10.st.fr 2).2)))) 2)))), (.v (.int .u64 (avInt (cellAt (lget (blAt r10.st.bl 1).xs (0 + (Int.toNat (avInt (frAt r10.st.fr 2).2)))) 3)))), (.v (.int .u64 (avInt (cellAt (lget (blAt r10.st.bl 1).xs (0 + (Int.toNat (avInt (frAt r10.st.fr 2).2)))) 4)))), (.v (.int .u64 (avInt (cellAt (lget (blAt r10.st.bl 1).xs (0 + (Int.toNat (avInt (frAt r10.st.fr 2).2)))) 5)))), (.v (.int .u64 (avInt (cellAt (lget (blAt r10.st.bl 1).xs (0 + (Int.toNat (avInt (frAt r10.st.fr 2).2)))) 6)))), (.v (.int .u64 (avInt (cellAt (lget (blAt r10.st.bl 1).xs (0 + (Int.toNat (avInt (frAt r10.st.fr 2).2)))) 7)))), (.v (.int .u64 (avInt (cellAt (lget (blAt r10.st.bl 1).xs (0 + (Int.toNat (avInt (frAt r10.st.fr 2).2)))) 8))))]] ++ (List.drop (0 + (Int.toNat (avInt (frAt r10.st.fr 3).2))) (blAt r10.st.bl 0).xs))) && (avNil (frAt r10.st.fr 0).2)) 0 0 none)), (6, (.sl (avNil (frAt r10.st.fr 1).2) 1 0 none)), (7, (.v (.int .i64 (IntKind.wrap .i64 ((avInt (frAt r10.st.fr 2).2) + 1)))))], [⟨1, 34, 9, false, ((List.take (Int.toNat (avInt (frAt r10.st.fr 3).2)) (blAt r10.st.bl 0).xs) ++ ([[(.v (.int .i64 (avInt (cellAt (lget (blAt r10.st.bl 1).xs (0 + (Int.toNat (avInt (frAt r10.st.fr 2).2)))) 0)))), (.v (.int .u64 (avInt (cellAt (lget (blAt r10.st.bl 1).xs (0 + (Int.toNat (avInt (frAt r10.st.fr 2).2)))) 1)))), (.v (.int .u64 (avInt (cellAt (lget (blAt r10.st.bl 1).xs (0 + (Int.toNat (avInt (frAt r10.st.fr 2).2)))) 2)))), (.v (.int .u64 (avInt (cellAt (lget (blAt r10.st.bl 1).xs (0 + (Int.toNat (avInt (frAt r10.st.fr 2).2)))) 3)))), (.v (.int .u64 (avInt (cellAt (lget (blAt r10.st.bl 1).xs (0 + (Int.toNat (avInt (frAt r10.st.fr 2).2)))) 4)))), (.v (.int .u64 (avInt (cellAt (lget (blAt r10.st.bl 1).xs (0 + (Int.toNat (avInt (frAt r10.st.fr 2).2)))) 5)))), (.v (.int .u64 (avInt (cellAt (lget (blAt r10.st.bl 1).xs (0 + (Int.toNat (avInt (frAt r10.st.fr 2).2)))) 6)))), (.v (.int .u64 (avInt (cellAt (lget (blAt r10.st.bl 1).xs (0 + (Int.toNat (avInt (frAt r10.st.fr 2).2)))) 7)))), (.v (.int .u64 (avInt (cellAt (lget (blAt r10.st.bl 1).xs (0 + (Int.toNat (avInt (frAt r10.st.fr 2).2)))) 8))))]] ++ (List.drop (0 + (Int.toNat (avInt (frAt r10.st.fr 3).2))) (blAt r10.st.bl 0).xs)))⟩, ⟨1, 34, 9, false, (blAt r10.st.bl 1).xs⟩]⟩)
                               (none))
                             (none))
                           (none))
                         (none))
                       (none))
                     (none)))
                 (none))
               (none))
             (none))
           (none))
         (cond ((leI 0 (avInt (frAt r10.st.fr 3).2)) && (leI (avInt (frAt r10.st.fr 3).2) ((((List.length (blAt r10.st.bl 0).xs) - 0) : Nat) : Int)))
           (cond ((leI 0 (avInt (frAt r10.st.fr 2).2)) && (ltI (avInt (frAt r10.st.fr 2).2) ((((List.length (blAt r10.st.bl 1).xs) - 0) : Nat) : Int)))
             (cond ((ltN (0 + (Int.toNat (avInt (frAt r10.st.fr 2).2))) (List.length (blAt r10.st.bl 1).xs)) && ((isI .i64 (cellAt (lget (blAt r10.st.bl 1).xs (0 + (Int.toNat (avInt (frAt r10.st.fr 2).2)))) 0)) && ((isI .u64 (cellAt (lget (blAt r10.st.bl 1).xs (0 + (Int.toNat (avInt (frAt r10.st.fr 2).2)))) 1)) && ((isI .u64 (cellAt (lget (blAt r10.st.bl 1).xs (0 + (Int.toNat (avInt (frAt r10.st.fr 2).2)))) 2)) && ((isI .u64 (cellAt (lget (blAt r10.st.bl 1).xs (0 + (Int.toNat (avInt (frAt r10.st.fr 2).2)))) 3)) && ((isI .u64 (cellAt (lget (blAt r10.st.bl 1).xs (0 + (Int.toNat (avInt (frAt r10.st.fr 2).2)))) 4)) && ((isI .u64 (cellAt (lget (blAt r10.st.bl 1).xs (0 + (Int.toNat (avInt (frAt r10.st.fr 2).2)))) 5)) && ((isI .u64 (cellAt (lget (blAt r10.st.bl 1).xs (0 + (Int.toNat (avInt (frAt r10.st.fr 2).2)))) 6)) && ((isI .u64 (cellAt (lget (blAt r10.st.bl 1).xs (0 + (Int.toNat (avInt (frAt r10.st.fr 2).2)))) 7)) && (isI .u64 (cellAt (lget (blAt r10.st.bl 1).xs (0 + (Int.toNat (avInt (frAt r10.st.fr 2).2)))) 8)))))))))))
               (cond ((leI 0 (avInt (frAt r10.st.fr 3).2)) && (leI (avInt (frAt r10.st.fr 3).2) ((((List.length (blAt r10.st.bl 0).xs) - 0) : Nat) : Int)))
                 (cond (leN ((1 + (List.length (List.drop (0 + (Int.toNat (avInt (frAt r10.st.fr 3).2))) (blAt r10.st.bl 0).xs))) * 72) 140737488355328)
                   (cond (leN (((List.length (List.take (Int.toNat (avInt (frAt r10.st.fr 3).2)) (blAt r10.st.bl 0).xs)) + (List.length ([[(.v (.int .i64 (avInt (cellAt (lget (blAt r10.st.bl 1).xs (0 + (Int.toNat (avInt (frAt r10.st.fr 2).2)))) 0)))), (.v (.int .u64 (avInt (cellAt (lget (blAt r10.st.bl 1).xs (0 + (Int.toNat (avInt (frAt r10.st.fr 2).2)))) 1)))), (.v (.int .u64 (avInt (cellAt (lget (blAt r10.st.bl 1).xs (0 + (Int.toNat (avInt (frAt r10.st.fr 2).2)))) 2)))), (.v (.int .u64 (avInt (cellAt (lget (blAt r10.st.bl 1).xs (0 + (Int.toNat (avInt (frAt r10.st.fr 2).2)))) 3)))), (.v (.int .u64 (avInt (cellAt (lget (blAt r10.st.bl 1).xs (0 + (Int.toNat (avInt (frAt r10.st.fr 2).2)))) 4)))), (.v (.int .u64 (avInt (cellAt (lget (blAt r10.st.bl 1).xs (0 + (Int.toNat (avInt (frAt r10.st.fr 2).2)))) 5)))), (.v (.int .u64 (avInt (cellAt (lget (blAt r10.st.bl 1).xs (0 + (Int.toNat (avInt (frAt r10.st.fr 2).2)))) 6)))), (.v (.int .u64 (avInt (cellAt (lget (blAt r10.st.bl 1).xs (0 + (Int.toNat (avInt (frAt r10.st.fr 2).2)))) 7)))), (.v (.int .u64 (avInt (cellAt (lget (blAt r10.st.bl 1).xs (0 + (Int.toNat (avInt (frAt r10.st.fr 2).2)))) 8))))]] ++ (List.drop (0 + (Int.toNat (avInt (frAt r10.st.fr 3).2))) (blAt r10.st.bl 0).xs)))) * 72) 140737488355328)
                     (lp 48 0 0 ⟨[(5, (.sl ((List.isEmpty ([[(.v (.int .i64 (avInt (cellAt (lget (blAt r10.st.bl 1).xs (0 + (Int.toNat (avInt (frAt r10.st.fr 2).2)))) 0)))), (.v (.int .u64 (avInt (cellAt (lget (blAt r10.st.bl 1).xs (0 + (Int.toNat (avInt (frAt r10.st.fr 2).2)))) 1)))), (.v (.int .u64 (avInt (cellAt (lget (blAt r10.st.bl 1).xs (0 + (Int.toNat (avInt (frAt r10.st.fr 2).2)))) 2)))), (.v (.int .u64 (avInt (cellAt (lget (blAt r10.st.bl 1).xs (0 + (Int.toNat (avInt (frAt r10.st.fr 2).2)))) 3)))), (.v (.int .u64 (avInt (cellAt (lget (blAt r10.st.bl 1).xs (0 + (Int.toNat (avInt (frAt r10.st.fr 2).2)))) 4)))), (.v (.int .u64 (avInt (cellAt (lget (blAt r10.st.bl 1).xs (0 + (Int.toNat (avInt (frAt r10.st.fr 2).2)))) 5)))), (.v (.int .u64 (avInt (cellAt (lget (blAt r10.st.bl 1).xs (0 + (Int.toNat (avInt (frAt r10.st.fr 2).2)))) 6)))), (.v (.int .u64 (avInt (cellAt (lget (blAt r10.st.bl 1).xs (0 + (Int.toNat (avInt (frAt r10.st.fr 2).2)))) 7)))), (.v (.int .u64 (avInt (cellAt (lget (blAt r10.st.bl 1).xs (0 + (Int.toNat (avInt (frAt r10.st.fr 2).2)))) 8))))]] ++ (List.drop (0 + (Int.toNat (avInt (frAt r10.st.fr 3).2))) (blAt r10.st.bl 0).xs))) && (avNil (frAt r10.st.fr 0).2)) 0 0 none)), (6, (.sl (avNil (frAt r10.st.fr 1).2) 1 0 none)), (7, (.v (.int .i64 (IntKind.wrap .i64 ((avInt (frAt r10.st.fr 2).2) + 1)))))], [⟨1, 34, 9, false, ((List.take (Int.toNat (avInt (frAt r10.st.fr 3).2)) (blAt r10.st.bl 0).xs) ++ ([[(.v (.int .i64 (avInt (cellAt (lget (blAt r10.st.bl 1).xs (0 + (Int.toNat (avInt (frAt r10.st.fr 2).2)))) 0)))), (.v (.int .u64 (avInt (cellAt (lget (blAt r10.st.bl 1).xs (0 + (Int.toNat (avInt (frAt r10.st.fr 2).2)))) 1)))), (.v (.int .u64 (avInt (cellAt (lget (blAt r10.st.bl 1).xs (0 + (Int.toNat (avInt (frAt r10.st.fr 2).2)))) 2)))), (.v (.int .u64 (avInt (cellAt (lget (blAt r10.st.bl 1).xs (0 + (Int.toNat (avInt (frAt r10.st.fr 2).2)))) 3)))), (.v (.int .u64 (avInt (cellAt (lget (blAt r10.st.bl 1).xs (0 + (Int.toNat (avInt (frAt r10.st.fr 2).2)))) 4)))), (.v (.int .u64 (avInt (cellAt (lget (blAt r10.st.bl 1).xs (0 + (Int.toNat (avInt (frAt r10.st.fr 2).2)))) 5)))), (.v (.int .u64 (avInt (cellAt (lget (blAt r10.st.bl 1).xs (0 + (Int.toNat (avInt (frAt r10.st.fr 2).2)))) 6)))), (.v (.int .u64 (avInt (cellAt (lget (blAt r10.st.bl 1).xs (0 + (Int.toNat (avInt (frAt r10.st.fr 2).2)))) 7)))), (.v (.int .u64 (avInt (cellAt (lget (blAt r10.st.bl 1).xs (0 + (Int.toNat (avInt (frAt r10.st.fr 2).2)))) 8))))]] ++ (List.drop (0 + (Int.toNat (avInt (frAt r10.st.fr 3).2))) (blAt r10.st.bl 0).xs)))⟩, ⟨1, 34, 9, false, (blAt r10.st.bl 1).xs⟩]⟩)
                     (none))
                   (none))
                 (none))
               (none))
             (none))
           (none)))
       (none))
     (cond (isRt r10)
       (some ⟨none, ⟨[], []⟩, r10.outs⟩)
       (none)))
   (some ⟨(some 0), ⟨[(5, (.sl x5n 0 0 none))], [⟨1, 34, 9, false, b0⟩]⟩, []⟩) := (lp_eq _ _ _ _).trans (by kernel_rfl)
theorem lp48_1 (x5n : Bool) (x6n : Bool) (x7 : Int) (x8 : Int) (b0 : List (List AV)) (b1 : List (List AV)) : lp 48 1 0 ⟨[(5, (.sl x5n 0 0 none)), (6, (.sl x6n 1 0 none)), (7, (.v (.int .i64 x7))), (8, (.v (.int .i64 x8)))], [⟨1, 34, 9, false, b0⟩, ⟨1, 34, 9, false, b1⟩]⟩ =
  cond (ltI x8 ((((List.length b0) - 0) : Nat) : Int))
   (cond ((leI 0 x8) && (ltI x8 ((((List.length b0) - 0) : Nat) : Int)))
     (cond ((ltN (0 + (Int.toNat x8)) (List.length b0)) && (isI .i64 (cellAt (lget b0 (0 + (Int.toNat x8))) 0)))
       (cond ((leI 0 x7) && (ltI x7 ((((List.length b1) - 0) : Nat) : Int)))
         (cond ((ltN (0 + (Int.toNat x7)) (List.length b1)) && (isI .i64 (cellAt (lget b1 (0 + (Int.toNat x7))) 0)))
           (cond (ltI (avInt (cellAt (lget b0 (0 + (Int.toNat x8))) 0)) (avInt (cellAt (lget b1 (0 + (Int.toNat x7))) 0)))
             (lp 48 1 0 ⟨[(5, (.sl x5n 0 0 none)), (6, (.sl x6n 1 0 none)), (7, (.v (.int .i64 x7))), (8, (.v (.int .i64 (IntKind.wrap .i64 (x8 + 1)))))], [⟨1, 34, 9, false, b0⟩, ⟨1, 34, 9, false, b1⟩]⟩)
             (some ⟨(some 2), ⟨[(5, (.sl x5n 0 0 none)), (6, (.sl x6n 1 0 none)), (7, (.v (.int .i64 x7))), (8, (.v (.int .i64 x8)))], [⟨1, 34, 9, false, b0⟩, ⟨1, 34, 9, false, b1⟩]⟩, []⟩))
           (none))
         (none))
       (none))
     (none))
   (some ⟨(some 2), ⟨[(5, (.sl x5n 0 0 none)), (6, (.sl x6n 1 0 none)), (7, (.v (.int .i64 x7))), (8, (.v (.int .i64 x8)))], [⟨1, 34, 9, false, b0⟩, ⟨1, 34, 9, false, b1⟩]⟩, []⟩) := (lp_eq _ _ _ _).trans (by kernel_rfl)
-- "bodega/pointer.tagOf"
theorem ev49 (a0_0 : Int) (a0_1 : Int) (a0_2 : Int) (a0_3 : Int) (a0_4 : Int) (a0_5 : Int) (a0_6 : Int) (a0_7 : Int) (a0_8 : Int) : ev 49 [(.agg [(.v (.int .i64 a0_0)), (.v (.int .u64 a0_1)), (.v (.int .u64 a0_2)), (.v (.int .u64 a0_3)), (.v (.int .u64 a0_4)), (.v (.int .u64 a0_5)), (.v (.int .u64 a0_6)), (.v (.int .u64 a0_7)), (.v (.int .u64 a0_8))])] =
  (ev 25 [(.v (.int .u64 a0_2))]).bind fun r0 =>
  cond ((Ev.isAgg 3 (cellAt r0 0)) && ((isI .i64 (cellAt (obCells (cellAt r0 0)) 0)) && ((isI .i64 (cellAt (obCells (cellAt r0 0)) 1)) && (isI .u32 (cellAt (obCells (cellAt r0 0)) 2)))))
   (some [(.agg [(.v (.int .i64 (avInt (cellAt (obCells (cellAt r0 0)) 0)))), (.v (.int .i64 (avInt (cellAt (obCells (cellAt r0 0)) 1)))), (.v (.int .u32 (avInt (cellAt (obCells (cellAt r0 0)) 2))))])])
   (none) := (ev_eq _ _).trans (by kernel_rfl)
-- "bodega/pointer.inHeap"
theorem ev50 (a0_0 : Int) : ev 50 [(.v (.int .i64 a0_0))] =
  cond (leI 104 a0_0)
   (some [(.v (.bool (ltI a0_0 256)))])
   (some [(.v (.bool false))]) := (ev_eq _ _).trans (by kernel_rfl)
-- "bodega/pointer.tagged"
theorem ev51 (a0_0 : Int) (a0_1 : Int) (a0_2 : Int) (a0_3 : Int) (a0_4 : Int) (a0_5 : Int) (a0_6 : Int) (a0_7 : Int) (a0_8 : Int) (a1_0 : Int) (a1_1 : Int) (a1_2 : Int) : ev 51 [(.agg [(.v (.int .i64 a0_0)), (.v (.int .u64 a0_1)), (.v (.int .u64 a0_2)), (.v (.int .u64 a0_3)), (.v (.int .u64 a0_4)), (.v (.int .u64 a0_5)), (.v (.int .u64 a0_6)), (.v (.int .u64 a0_7)), (.v (.int .u64 a0_8))]), (.agg [(.v (.int .i64 a1_0)), (.v (.int .i64 a1_1)), (.v (.int .u32 a1_2))])] =
  (ev 24 [(.agg [(.v (.int .i64 a1_0)), (.v (.int .i64 a1_1)), (.v (.int .u32 a1_2))])]).bind fun r0 =>
  cond (isI .u64 (cellAt r0 0))
   (some [(.agg [(.v (.int .i64 a0_0)), (.v (.int .u64 a0_1)), (.v (.int .u64 (avInt (cellAt r0 0)))), (.v (.int .u64 0)), (.v (.int .u64 0)), (.v (.int .u64 0)), (.v (.int .u64 0)), (.v (.int .u64 0)), (.v (.int .u64 0))])])
   (none) := (ev_eq _ _).trans (by kernel_rfl)
-- "bodega/pointer.lookup"
theorem ev52 (a0_0n : Bool) (a0_0 : List (List AV)) (a1_0 : Int) (a1_1 : Int) (a2_0 : Int) (a3_0 : Bool) : ev 52 [(.lst a0_0n 9 a0_0), (.agg [(.v (.int .i64 a1_0)), (.v (.int .i64 a1_1))]), (.v (.int .i64 a2_0)), (.v (.bool a3_0))] =
  (ev 42 [(.agg [(.v (.int .i64 a1_0)), (.v (.int .i64 a1_1))])]).bind fun r0 =>
  cond (isB (cellAt r0 0))
   (cond (!(avBool (cellAt r0 0)))
     (some [(.agg [(.v (.int .i64 0)), (.v (.int .u64 0)), (.v (.int .u64 0)), (.v (.int .u64 0)), (.v (.int .u64 0)), (.v (.int .u64 0)), (.v (.int .u64 0)), (.v (.int .u64 0)), (.v (.int .u64 0))]), (.v (.bool false)), (.v (.int .i64 1))])
     ((ev 54 [(.lst a0_0n 9 a0_0), (.v (.int .i64 a1_0))]).bind fun r4 =>
      cond ((Ev.isAgg 9 (cellAt r4 0)) && ((isI .i64 (cellAt (obCells (cellAt r4 0)) 0)) && ((isI .u64 (cellAt (obCells (cellAt r4 0)) 1)) && ((isI .u64 (cellAt (obCells (cellAt r4 0)) 2)) && ((isI .u64 (cellAt (obCells (cellAt r4 0)) 3)) && ((isI .u64 (cellAt (obCells (cellAt r4 0)) 4)) && ((isI .u64 (cellAt (obCells (cellAt r4 0)) 5)) && ((isI .u64 (cellAt (obCells (cellAt r4 0)) 6)) && ((isI .u64 (cellAt (obCells (cellAt r4 0)) 7)) && (isI .u64 (cellAt (obCells (cellAt r4 0)) 8)))))))))))
       (cond (isB (cellAt r4 1))
         (cond (!(avBool (cellAt r4 1)))
           (some [(.agg [(.v (.int .i64 0)), (.v (.int .u64 0)), (.v (.int .u64 0)), (.v (.int .u64 0)), (.v (.int .u64 0)), (.v (.int .u64 0)), (.v (.int .u64 0)), (.v (.int .u64 0)), (.v (.int .u64 0))]), (.v (.bool false)), (.v (.int .i64 0))])
           ((ev 49 [(.agg [(.v (.int .i64 (avInt (cellAt (obCells (cellAt r4 0)) 0)))), (.v (.int .u64 (avInt (cellAt (obCells (cellAt r4 0)) 1)))), (.v (.int .u64 (avInt (cellAt (obCells (cellAt r4 0)) 2)))), (.v (.int .u64 (avInt (cellAt (obCells (cellAt r4 0)) 3)))), (.v (.int .u64 (avInt (cellAt (obCells (cellAt r4 0)) 4)))), (.v (.int .u64 (avInt (cellAt (obCells (cellAt r4 0)) 5)))), (.v (.int .u64 (avInt (cellAt (obCells (cellAt r4 0)) 6)))), (.v (.int .u64 (avInt (cellAt (obCells (cellAt r4 0)) 7)))), (.v (.int .u64 (avInt (cellAt (obCells (cellAt r4 0)) 8))))])]).bind fun r17 =>
            cond ((Ev.isAgg 3 (cellAt r17 0)) && ((isI .i64 (cellAt (obCells (cellAt r17 0)) 0)) && ((isI .i64 (cellAt (obCells (cellAt r17 0)) 1)) && (isI .u32 (cellAt (obCells (cellAt r17 0)) 2)))))
             (cond a3_0
               ((ev 44 [(.agg [(.v (.int .i64 (avInt (cellAt (obCells (cellAt r4 0)) 0)))), (.v (.int .u64 (avInt (cellAt (obCells (cellAt r4 0)) 1)))), (.v (.int .u64 (avInt (cellAt (obCells (cellAt r4 0)) 2)))), (.v (.int .u64 (avInt (cellAt (obCells (cellAt r4 0)) 3)))), (.v (.int .u64 (avInt (cellAt (obCells (cellAt r4 0)) 4)))), (.v (.int .u64 (avInt (cellAt (obCells (cellAt r4 0)) 5)))), (.v (.int .u64 (avInt (cellAt (obCells (cellAt r4 0)) 6)))), (.v (.int .u64 (avInt (cellAt (obCells (cellAt r4 0)) 7)))), (.v (.int .u64 (avInt (cellAt (obCells (cellAt r4 0)) 8))))])]).bind fun r21 =>
                cond (isB (cellAt r21 0))
                 (cond (avBool (cellAt r21 0))
                   (some [(.agg [(.v (.int .i64 0)), (.v (.int .u64 0)), (.v (.int .u64 0)), (.v (.int .u64 0)), (.v (.int .u64 0)), (.v (.int .u64 0)), (.v (.int .u64 0)), (.v (.int .u64 0)), (.v (.int .u64 0))]), (.v (.bool false)), (.v (.int .i64 3))])
                   (cond ((avInt (cellAt (obCells (cellAt r17 0)) 0)) == 0)
                     (some [(.agg [(.v (.int .i64 0)), (.v (.int .u64 0)), (.v (.int .u64 0)), (.v (.int .u64 0)), (.v (.int .u64 0)), (.v (.int .u64 0)), (.v (.int .u64 0)), (.v (.int .u64 0)), (.v (.int .u64 0))]), (.v (.bool false)), (.v (.int .i64 11))])
                     (cond (!((avInt (cellAt (obCells (cellAt r17 0)) 1)) == a1_1))
                       (some [(.agg [(.v (.int .i64 0)), (.v (.int .u64 0)), (.v (.int .u64 0)), (.v (.int .u64 0)), (.v (.int .u64 0)), (.v (.int .u64 0)), (.v (.int .u64 0)), (.v (.int .u64 0)), (.v (.int .u64 0))]), (.v (.bool false)), (.v (.int .i64 11))])
                       (cond (!((avInt (cellAt (obCells (cellAt r17 0)) 0)) == a2_0))
                         (some [(.agg [(.v (.int .i64 0)), (.v (.int .u64 0)), (.v (.int .u64 0)), (.v (.int .u64 0)), (.v (.int .u64 0)), (.v (.int .u64 0)), (.v (.int .u64 0)), (.v (.int .u64 0)), (.v (.int .u64 0))]), (.v (.bool false)), (.v (.int .i64 14))])
                         (some [(.agg [(.v (.int .i64 (avInt (cellAt (obCells (cellAt r4 0)) 0)))), (.v (.int .u64 (avInt (cellAt (obCells (cellAt r4 0)) 1)))), (.v (.int .u64 (avInt (cellAt (obCells (cellAt r4 0)) 2)))), (.v (.int .u64 (avInt (cellAt (obCells (cellAt r4 0)) 3)))), (.v (.int .u64 (avInt (cellAt (obCells (cellAt r4 0)) 4)))), (.v (.int .u64 (avInt (cellAt (obCells (cellAt r4 0)) 5)))), (.v (.int .u64 (avInt (cellAt (obCells (cellAt r4 0)) 6)))), (.v (.int .u64 (avInt (cellAt (obCells (cellAt r4 0)) 7)))), (.v (.int .u64 (avInt (cellAt (obCells (cellAt r4 0)) 8))))]), (.v (.bool true)), (.v (.int .i64 0))])))))
                 (none))
               (cond ((avInt (cellAt (obCells (cellAt r17 0)) 0)) == 0)
                 (some [(.agg [(.v (.int .i64 0)), (.v (.int .u64 0)), (.v (.int .u64 0)), (.v (.int .u64 0)), (.v (.int .u64 0)), (.v (.int .u64 0)), (.v (.int .u64 0)), (.v (.int .u64 0)), (.v (.int .u64 0))]), (.v (.bool false)), (.v (.int .i64 11))])
                 (cond (!((avInt (cellAt (obCells (cellAt r17 0)) 1)) == a1_1))
                   (some [(.agg [(.v (.int .i64 0)), (.v (.int .u64 0)), (.v (.int .u64 0)), (.v (.int .u64 0)), (.v (.int .u64 0)), (.v (.int .u64 0)), (.v (.int .u64 0)), (.v (.int .u64 0)), (.v (.int .u64 0))]), (.v (.bool false)), (.v (.int .i64 11))])
                   (cond (!((avInt (cellAt (obCells (cellAt r17 0)) 0)) == a2_0))
                     (some [(.agg [(.v (.int .i64 0)), (.v (.int .u64 0)), (.v (.int .u64 0)), (.v (.int .u64 0)), (.v (.int .u64 0)), (.v (.int .u64 0)), (.v (.int .u64 0)), (.v (.int .u64 0)), (.v (.int .u64 0))]), (.v (.bool false)), (.v (.int .i64 14))])
                     (some [(.agg [(.v (.int .i64 (avInt (cellAt (obCells (cellAt r4 0)) 0)))), (.v (.int .u64 (avInt (cellAt (obCells (cellAt r4 0)) 1)))), (.v (.int .u64 (avInt (cellAt (obCells (cellAt r4 0)) 2)))), (.v (.int .u64 (avInt (cellAt (obCells (cellAt r4 0)) 3)))), (.v (.int .u64 (avInt (cellAt (obCells (cellAt r4 0)) 4)))), (.v (.int .u64 (avInt (cellAt (obCells (cellAt r4 0)) 5)))), (.v (.int .u64 (avInt (cellAt (obCells (cellAt r4 0)) 6)))), (.v (.int .u64 (avInt (cellAt (obCells (cellAt r4 0)) 7)))), (.v (.int .u64 (avInt (cellAt (obCells (cellAt r4 0)) 8))))]), (.v (.bool true)), (.v (.int .i64 0))])))))
             (none)))
         (none))
       (none)))
   (none) := (ev_eq _ _).trans (by kernel_rfl)
-- "bodega/pointer.Pack"
theorem ev53 (a0_0 : Int) (a0_1 : Int) : ev 53 [(.agg [(.v (.int .i64 a0_0)), (.v (.int .i64 a0_1))])] =
  (ev 42 [(.agg [(.v (.int .i64 a0_0)), (.v (.int .i64 a0_1))])]).bind fun r0 =>
  cond (isB (cellAt r0 0))
   (cond (!(avBool (cellAt r0 0)))
     (some [(.v (.int .u32 0))])
     (some [(.v (.int .u32 (bits .or .u32 (IntKind.wrap .u32 ((IntKind.wrap .u32 a0_1) * 256)) (IntKind.wrap .u32 a0_0))))]))
   (none) := (ev_eq _ _).trans (by kernel_rfl)
-- "bodega/pointer.Latest"
theorem ev54 (a0_0n : Bool) (a0_0 : List (List AV)) (a1_0 : Int) : ev 54 [(.lst a0_0n 9 a0_0), (.v (.int .i64 a1_0))] =
  (lp 54 0 0 ⟨[(0, (.lst a0_0n 9 a0_0)), (1, (.v (.int .i64 a1_0))), (4, (.ptr 0 0 0)), (6, (.v (.int .i64 (IntKind.wrap .i64 ((((List.length a0_0) : Nat) : Int) - 1)))))], [⟨1, 34, 9, true, [[(.v (.int .i64 0)), (.v (.int .u64 0)), (.v (.int .u64 0)), (.v (.int .u64 0)), (.v (.int .u64 0)), (.v (.int .u64 0)), (.v (.int .u64 0)), (.v (.int .u64 0)), (.v (.int .u64 0))]]⟩]⟩).bind fun r2 =>
  cond (isEx 0 r2)
   (cond (likeStG ⟨[(4, (.ptr 0 0 0))], [⟨1, 34, 9, true, [[(.v (.int .i64 0)), (.v (.int .u64 0)), (.v (.int .u64 0)), (.v (.int .u64 0)), (.v (.int .u64 0)), (.v (.int .u64 0)), (.v (.int .u64 0)), (.v (.int .u64 0)), (.v (.int .u64 0))]]⟩]⟩ r2.st)
     (some [(.agg [(.v (.int .i64 0)), (.v (.int .u64 0)), (.v (.int .u64 0)), (.v (.int .u64 0)), (.v (.int .u64 0)), (.v (.int .u64 0)), (.v (.int .u64 0)), (.v (.int .u64 0)), (.v (.int .u64 0))]), (.v (.bool false))])
     (none))
   (cond (isRt r2)
     (some r2.outs)
     (none)) := (ev_eq _ _).trans (by kernel_rfl)
theorem lp54_0 (x0n : Bool) (x0 : List (List AV)) (x1 : Int) (x6 : Int) (b0_0 : Int) (b0_1 : Int) (b0_2 : Int) (b0_3 : Int) (b0_4 : Int) (b0_5 : Int) (b0_6 : Int) (b0_7 : Int) (b0_8 : Int) : lp 54 0 0 ⟨[(0, (.lst x0n 9 x0)), (1, (.v (.int .i64 x1))), (4, (.ptr 0 0 0)), (6, (.v (.int .i64 x6)))], [⟨1, 34, 9, true, [[(.v (.int .i64 b0_0)), (.v (.int .u64 b0_1)), (.v (.int .u64 b0_2)), (.v (.int .u64 b0_3)), (.v (.int .u64 b0_4)), (.v (.int .u64 b0_5)), (.v (.int .u64 b0_6)), (.v (.int .u64 b0_7)), (.v (.int .u64 b0_8))]]⟩]⟩ =
  cond (leI 0 x6)
   (cond ((leI 0 x6) && (ltI x6 (((List.length x0) : Nat) : Int)))
     (cond (isI .i64 (cellAt (lget x0 (Int.toNat x6)) 0))
       (cond ((avInt (cellAt (lget x0 (Int.toNat x6)) 0)) == x1)
         (cond ((leI 0 x6) && (ltI x6 (((List.length x0) : Nat) : Int)))
           (cond ((isI .i64 (cellAt (lget x0 (Int.toNat x6)) 0)) && ((isI .u64 (cellAt (lget x0 (Int.toNat x6)) 1)) && ((isI .u64 (cellAt (lget x0 (Int.toNat x6)) 2)) && ((isI .u64 (cellAt (lget x0 (Int.toNat x6)) 3)) && ((isI .u64 (cellAt (lget x0 (Int.toNat x6)) 4)) && ((isI .u64 (cellAt (lget x0 (Int.toNat x6)) 5)) && ((isI .u64 (cellAt (lget x0 (Int.toNat x6)) 6)) && ((isI .u64 (cellAt (lget x0 (Int.toNat x6)) 7)) && (isI .u64 (cellAt (lget x0 (Int.toNat x6)) 8))))))))))
             (some ⟨none, ⟨[], []⟩, [(.agg [(.v (.int .i64 (avInt (cellAt (lget x0 (Int.toNat x6)) 0)))), (.v (.int .u64 (avInt (cellAt (lget x0 (Int.toNat x6)) 1)))), (.v (.int .u64 (avInt (cellAt (lget x0 (Int.toNat x6)) 2)))), (.v (.int .u64 (avInt (cellAt (lget x0 (Int.toNat x6)) 3)))), (.v (.int .u64 (avInt (cellAt (lget x0 (Int.toNat x6)) 4)))), (.v (.int .u64 (avInt (cellAt (lget x0 (Int.toNat x6)) 5)))), (.v (.int .u64 (avInt (cellAt (lget x0 (Int.toNat x6)) 6)))), (.v (.int .u64 (avInt (cellAt (lget x0 (Int.toNat x6)) 7)))), (.v (.int .u64 (avInt (cellAt (lget x0 (Int.toNat x6)) 8))))]), (.v (.bool true))]⟩)
             (none))
           (none))
         (lp 54 0 0 ⟨[(0, (.lst x0n 9 x0)), (1, (.v (.int .i64 x1))), (4, (.ptr 0 0 0)), (6, (.v (.int .i64 (IntKind.wrap .i64 (x6 - 1)))))], [⟨1, 34, 9, true, [[(.v (.int .i64 b0_0)), (.v (.int .u64 b0_1)), (.v (.int .u64 b0_2)), (.v (.int .u64 b0_3)), (.v (.int .u64 b0_4)), (.v (.int .u64 b0_5)), (.v (.int .u64 b0_6)), (.v (.int .u64 b0_7)), (.v (.int .u64 b0_8))]]⟩]⟩))
       (none))
     (none))
   (some ⟨(some 0), ⟨[(4, (.ptr 0 0 0))], [⟨1, 34, 9, true, [[(.v (.int .i64 b0_0)), (.v (.int .u64 b0_1)), (.v (.int .u64 b0_2)), (.v (.int .u64 b0_3)), (.v (.int .u64 b0_4)), (.v (.int .u64 b0_5)), (.v (.int .u64 b0_6)), (.v (.int .u64 b0_7)), (.v (.int .u64 b0_8))]]⟩]⟩, []⟩) := (lp_eq _ _ _ _).trans (by kernel_rfl)
end Go.Proofs.Ythihfpcleejjfaa
