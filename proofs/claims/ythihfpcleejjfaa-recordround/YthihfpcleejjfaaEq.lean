/- The functions of the chapter, as the evaluator has them. -/
import Derived.Test.YthihfpcleejjfaaRows
import Derived.Test.YthihfpcleejjfaaEv43
set_option linter.all false
namespace Go.Proofs.Ythihfpcleejjfaa
open Go.Ev

def cfg : Cfg := { rw := fun _ => [], dat := fun _ => true, inl := fun _ => false, roll := fun _ => 7, join := fun _ => false }
noncomputable def ev (f : FuncId) (args : List AV) : Option (List AV) := evL Try.prog cfg f args
noncomputable def lp (f k nr : Nat) (s : St) : Option LR := lpL Try.prog cfg f k nr s
theorem ev_eq (f : FuncId) (args : List AV) : ev f args = evBodyG Try.prog cfg (evL Try.prog cfg) (inlD Try.prog cfg (evL Try.prog cfg) 5) (loopL Try.prog cfg f) f args := evL_eq f args
theorem lp_eq (f k nr : Nat) (s : St) : lp f k nr s = evRound Try.prog cfg (evL Try.prog cfg) (inlD Try.prog cfg (evL Try.prog cfg) 5) (loopL Try.prog cfg f) (cfg.roll f) (cfg.join f) (loopAt Try.prog f k).1 (loopAt Try.prog f k).2 (retAt Try.prog cfg f nr) s := loopL_eq f _ _ _ s

-- "bodega/bodegalaw21.RecordRound"
theorem ev6 (a0_0 : Int) (a0_1 : Int) (a0_2 : Int) (a0_3 : Int) (a0_4 : Int) (a0_5 : Int) (a0_6 : Int) (a0_7 : Int) (a0_8 : Int) (a1_0 : Int) (a1_1 : Int) (a1_2 : Int) (a1_3 : Int) (a1_4 : Bool) (a1_5 : Int) (a1_6 : Int) (a1_7 : Int) (a1_8 : Int) (a2_0 : Int) : ev 6 [(.agg [(.v (.int .i64 a0_0)), (.v (.int .u64 a0_1)), (.v (.int .u64 a0_2)), (.v (.int .u64 a0_3)), (.v (.int .u64 a0_4)), (.v (.int .u64 a0_5)), (.v (.int .u64 a0_6)), (.v (.int .u64 a0_7)), (.v (.int .u64 a0_8))]), (.agg [(.v (.int .u32 a1_0)), (.v (.int .i64 a1_1)), (.v (.int .i64 a1_2)), (.v (.int .i64 a1_3)), (.v (.bool a1_4)), (.v (.int .u32 a1_5)), (.v (.int .u64 a1_6)), (.v (.int .i64 a1_7)), (.v (.int .i64 a1_8))]), (.v (.int .i64 a2_0))] =
  (ev 15 [(.agg [(.v (.int .u32 a1_0)), (.v (.int .i64 a1_1)), (.v (.int .i64 a1_2)), (.v (.int .i64 a1_3)), (.v (.bool a1_4)), (.v (.int .u32 a1_5)), (.v (.int .u64 a1_6)), (.v (.int .i64 a1_7)), (.v (.int .i64 a1_8))]), (.v (.int .i64 a2_0))]).bind fun r0 =>
  cond ((Ev.isAgg 9 (cellAt r0 0)) && ((isI .u32 (cellAt (obCells (cellAt r0 0)) 0)) && ((isI .i64 (cellAt (obCells (cellAt r0 0)) 1)) && ((isI .i64 (cellAt (obCells (cellAt r0 0)) 2)) && ((isI .i64 (cellAt (obCells (cellAt r0 0)) 3)) && ((isB (cellAt (obCells (cellAt r0 0)) 4)) && ((isI .u32 (cellAt (obCells (cellAt r0 0)) 5)) && ((isI .u64 (cellAt (obCells (cellAt r0 0)) 6)) && ((isI .i64 (cellAt (obCells (cellAt r0 0)) 7)) && (isI .i64 (cellAt (obCells (cellAt r0 0)) 8)))))))))))
   ((ev 9 [(.v (.int .i64 (IntKind.wrap .i64 (Int.tdiv a2_0 3)))), (.v (.int .i64 16777216))]).bind fun r11 =>
    cond (isI .i64 (cellAt r11 0))
     ((ev 24 [(.agg [(.v (.int .i64 1)), (.v (.int .i64 (avInt (cellAt r11 0)))), (.v (.int .u32 (IntKind.wrap .u32 a0_2)))])]).bind fun r14 =>
      cond (isI .u64 (cellAt r14 0))
       ((ev 18 [(.agg [(.v (.int .i64 a0_0)), (.v (.int .u64 a0_1)), (.v (.int .u64 (avInt (cellAt r14 0)))), (.v (.int .u64 a0_3)), (.v (.int .u64 a0_4)), (.v (.int .u64 a0_5)), (.v (.int .u64 a0_6)), (.v (.int .u64 a0_7)), (.v (.int .u64 a0_8))]), (.agg [(.v (.int .u32 (avInt (cellAt (obCells (cellAt r0 0)) 0)))), (.v (.int .i64 (avInt (cellAt (obCells (cellAt r0 0)) 1)))), (.v (.int .i64 (avInt (cellAt (obCells (cellAt r0 0)) 2)))), (.v (.int .i64 (avInt (cellAt (obCells (cellAt r0 0)) 3)))), (.v (.bool (avBool (cellAt (obCells (cellAt r0 0)) 4)))), (.v (.int .u32 (avInt (cellAt (obCells (cellAt r0 0)) 5)))), (.v (.int .u64 (avInt (cellAt (obCells (cellAt r0 0)) 6)))), (.v (.int .i64 (avInt (cellAt (obCells (cellAt r0 0)) 7)))), (.v (.int .i64 (avInt (cellAt (obCells (cellAt r0 0)) 8))))])]).bind fun r16 =>
        cond ((Ev.isAgg 9 (cellAt r16 0)) && ((isI .i64 (cellAt (obCells (cellAt r16 0)) 0)) && ((isI .u64 (cellAt (obCells (cellAt r16 0)) 1)) && ((isI .u64 (cellAt (obCells (cellAt r16 0)) 2)) && ((isI .u64 (cellAt (obCells (cellAt r16 0)) 3)) && ((isI .u64 (cellAt (obCells (cellAt r16 0)) 4)) && ((isI .u64 (cellAt (obCells (cellAt r16 0)) 5)) && ((isI .u64 (cellAt (obCells (cellAt r16 0)) 6)) && ((isI .u64 (cellAt (obCells (cellAt r16 0)) 7)) && (isI .u64 (cellAt (obCells (cellAt r16 0)) 8)))))))))))
         (cond (isI .i64 (cellAt r16 1))
           (cond (!((avInt (cellAt r16 1)) == 0))
             ((ev 12 []).bind fun r28 =>
              cond (isB (cellAt r28 0))
               (cond (avBool (cellAt r28 0))
                 (cond ((avInt (cellAt r16 1)) == 1)
                   ((ev 21 [(.agg [(.v (.int .u32 (avInt (cellAt (obCells (cellAt r0 0)) 0)))), (.v (.int .i64 (avInt (cellAt (obCells (cellAt r0 0)) 1)))), (.v (.int .i64 (avInt (cellAt (obCells (cellAt r0 0)) 2)))), (.v (.int .i64 (avInt (cellAt (obCells (cellAt r0 0)) 3)))), (.v (.bool (avBool (cellAt (obCells (cellAt r0 0)) 4)))), (.v (.int .u32 (avInt (cellAt (obCells (cellAt r0 0)) 5)))), (.v (.int .u64 (avInt (cellAt (obCells (cellAt r0 0)) 6)))), (.v (.int .i64 (avInt (cellAt (obCells (cellAt r0 0)) 7)))), (.v (.int .i64 (avInt (cellAt (obCells (cellAt r0 0)) 8))))])]).bind fun r31 =>
                    cond (isB (cellAt r31 0))
                     (some [(.v (.bool (!(avBool (cellAt r31 0)))))])
                     (none))
                   (some [(.v (.bool false))]))
                 (some [(.v (.bool false))]))
               (none))
             ((ev 16 [(.agg [(.v (.int .i64 (avInt (cellAt (obCells (cellAt r16 0)) 0)))), (.v (.int .u64 (avInt (cellAt (obCells (cellAt r16 0)) 1)))), (.v (.int .u64 (avInt (cellAt (obCells (cellAt r16 0)) 2)))), (.v (.int .u64 (avInt (cellAt (obCells (cellAt r16 0)) 3)))), (.v (.int .u64 (avInt (cellAt (obCells (cellAt r16 0)) 4)))), (.v (.int .u64 (avInt (cellAt (obCells (cellAt r16 0)) 5)))), (.v (.int .u64 (avInt (cellAt (obCells (cellAt r16 0)) 6)))), (.v (.int .u64 (avInt (cellAt (obCells (cellAt r16 0)) 7)))), (.v (.int .u64 (avInt (cellAt (obCells (cellAt r16 0)) 8))))])]).bind fun r35 =>
              cond ((Ev.isAgg 9 (cellAt r35 0)) && ((isI .u32 (cellAt (obCells (cellAt r35 0)) 0)) && ((isI .i64 (cellAt (obCells (cellAt r35 0)) 1)) && ((isI .i64 (cellAt (obCells (cellAt r35 0)) 2)) && ((isI .i64 (cellAt (obCells (cellAt r35 0)) 3)) && ((isB (cellAt (obCells (cellAt r35 0)) 4)) && ((isI .u32 (cellAt (obCells (cellAt r35 0)) 5)) && ((isI .u64 (cellAt (obCells (cellAt r35 0)) 6)) && ((isI .i64 (cellAt (obCells (cellAt r35 0)) 7)) && (isI .i64 (cellAt (obCells (cellAt r35 0)) 8)))))))))))
               (cond (isI .i64 (cellAt r35 1))
                 ((ev 25 [(.v (.int .u64 (avInt (cellAt (obCells (cellAt r16 0)) 2))))]).bind fun r46 =>
                  cond ((Ev.isAgg 3 (cellAt r46 0)) && ((isI .i64 (cellAt (obCells (cellAt r46 0)) 0)) && ((isI .i64 (cellAt (obCells (cellAt r46 0)) 1)) && (isI .u32 (cellAt (obCells (cellAt r46 0)) 2)))))
                   ((ev 12 []).bind fun r50 =>
                    cond (isB (cellAt r50 0))
                     (cond (avBool (cellAt r50 0))
                       (cond ((avInt (cellAt r35 1)) == 0)
                         (cond (((avInt (cellAt (obCells (cellAt r35 0)) 0)) == (avInt (cellAt (obCells (cellAt r0 0)) 0))) && (((avInt (cellAt (obCells (cellAt r35 0)) 1)) == (avInt (cellAt (obCells (cellAt r0 0)) 1))) && (((avInt (cellAt (obCells (cellAt r35 0)) 2)) == (avInt (cellAt (obCells (cellAt r0 0)) 2))) && (((avInt (cellAt (obCells (cellAt r35 0)) 3)) == (avInt (cellAt (obCells (cellAt r0 0)) 3))) && (((avBool (cellAt (obCells (cellAt r35 0)) 4)) == (avBool (cellAt (obCells (cellAt r0 0)) 4))) && (((avInt (cellAt (obCells (cellAt r35 0)) 5)) == (avInt (cellAt (obCells (cellAt r0 0)) 5))) && (((avInt (cellAt (obCells (cellAt r35 0)) 6)) == (avInt (cellAt (obCells (cellAt r0 0)) 6))) && (((avInt (cellAt (obCells (cellAt r35 0)) 7)) == (avInt (cellAt (obCells (cellAt r0 0)) 7))) && ((avInt (cellAt (obCells (cellAt r35 0)) 8)) == (avInt (cellAt (obCells (cellAt r0 0)) 8)))))))))))
                           (cond ((avInt (cellAt (obCells (cellAt r16 0)) 0)) == a0_0)
                             (cond ((avInt (cellAt (obCells (cellAt r16 0)) 1)) == a0_1)
                               (cond ((avInt (cellAt (obCells (cellAt r46 0)) 0)) == 1)
                                 ((ev 9 [(.v (.int .i64 (IntKind.wrap .i64 (Int.tdiv a2_0 3)))), (.v (.int .i64 16777216))]).bind fun r58 =>
                                  cond (isI .i64 (cellAt r58 0))
                                   (some [(.v (.bool ((avInt (cellAt (obCells (cellAt r46 0)) 1)) == (avInt (cellAt r58 0)))))])
                                   (none))
                                 (some [(.v (.bool false))]))
                               (some [(.v (.bool false))]))
                             (some [(.v (.bool false))]))
                           (some [(.v (.bool false))]))
                         (some [(.v (.bool false))]))
                       (some [(.v (.bool false))]))
                     (none))
                   (none))
                 (none))
               (none)))
           (none))
         (none))
       (none))
     (none))
   (none) := (ev_eq _ _).trans (by kernel_rfl)
-- "bodega/bodegahand.Pick"
theorem ev9 (a0_0 : Int) (a1_0 : Int) : ev 9 [(.v (.int .i64 a0_0)), (.v (.int .i64 a1_0))] =
  cond (ltI a1_0 1)
   (some [(.v (.int .i64 0))])
   (cond (eqI a1_0 0)
     (none)
     (cond (eqI a1_0 0)
       (none)
       (some [(.v (.int .i64 (Int.tmod (IntKind.wrap .i64 ((Int.tmod a0_0 a1_0) + a1_0)) a1_0)))]))) := (ev_eq _ _).trans (by kernel_rfl)
-- "bodega/record.Origin"
theorem ev10 (a0_0 : Int) : ev 10 [(.v (.int .u64 a0_0))] =
  cond (ltI (IntKind.wrap .i64 ((IntKind.wrap .i64 (bits .and .u64 a0_0 255)) - 1)) 0)
   (some [(.v (.int .i64 0)), (.v (.int .i64 0)), (.v (.bool false))])
   ((ev 13 [(.v (.int .i64 (IntKind.wrap .i64 ((IntKind.wrap .i64 (bits .and .u64 a0_0 255)) - 1)))), (.v (.int .i64 (IntKind.wrap .i64 (Int.fdiv a0_0 256))))]).bind fun r6 =>
    cond (isI .u64 (cellAt r6 0))
     (cond ((avInt (cellAt r6 0)) == 0)
       (some [(.v (.int .i64 0)), (.v (.int .i64 0)), (.v (.bool false))])
       (some [(.v (.int .i64 (IntKind.wrap .i64 ((IntKind.wrap .i64 (bits .and .u64 a0_0 255)) - 1)))), (.v (.int .i64 (IntKind.wrap .i64 (Int.fdiv a0_0 256)))), (.v (.bool true))]))
     (none)) := (ev_eq _ _).trans (by kernel_rfl)
-- "bodega/bodegaref19.Origin"
theorem ev11 (a0_0 : Int) : ev 11 [(.v (.int .u64 a0_0))] =
  cond (leI 1073741824 (IntKind.wrap .u64 (Int.tdiv a0_0 256)))
   (some [(.v (.int .i64 0)), (.v (.int .i64 0)), (.v (.bool false))])
   ((ev 14 [(.v (.int .i64 (IntKind.wrap .i64 ((IntKind.wrap .i64 (Int.tmod a0_0 256)) - 1)))), (.v (.int .i64 (IntKind.wrap .i64 (IntKind.wrap .u64 (Int.tdiv a0_0 256)))))]).bind fun r8 =>
    cond (isI .u64 (cellAt r8 0))
     (cond ((avInt (cellAt r8 0)) == 0)
       (some [(.v (.int .i64 0)), (.v (.int .i64 0)), (.v (.bool false))])
       (some [(.v (.int .i64 (IntKind.wrap .i64 ((IntKind.wrap .i64 (Int.tmod a0_0 256)) - 1)))), (.v (.int .i64 (IntKind.wrap .i64 (IntKind.wrap .u64 (Int.tdiv a0_0 256))))), (.v (.bool true))]))
     (none)) := (ev_eq _ _).trans (by kernel_rfl)
-- "bodega/bodegalaw21.awake"
theorem ev12  : ev 12 [] =
  (ev 13 [(.v (.int .i64 2)), (.v (.int .i64 5))]).bind fun r0 =>
  cond (isI .u64 (cellAt r0 0))
   (some [(.v (.bool ((avInt (cellAt r0 0)) == 1283)))])
   (none) := (ev_eq _ _).trans (by kernel_rfl)
-- "bodega/record.Stamp"
theorem ev13 (a0_0 : Int) (a1_0 : Int) : ev 13 [(.v (.int .i64 a0_0)), (.v (.int .i64 a1_0))] =
  cond (ltI a0_0 0)
   (some [(.v (.int .u64 0))])
   (cond (leI 6 a0_0)
     (some [(.v (.int .u64 0))])
     (cond (ltI a1_0 1)
       (some [(.v (.int .u64 0))])
       (cond (leI 1073741824 a1_0)
         (some [(.v (.int .u64 0))])
         (some [(.v (.int .u64 (bits .or .u64 (IntKind.wrap .u64 ((IntKind.wrap .u64 a1_0) * 256)) (IntKind.wrap .u64 (IntKind.wrap .i64 (a0_0 + 1))))))])))) := (ev_eq _ _).trans (by kernel_rfl)
-- "bodega/bodegaref19.Stamp"
theorem ev14 (a0_0 : Int) (a1_0 : Int) : ev 14 [(.v (.int .i64 a0_0)), (.v (.int .i64 a1_0))] =
  cond (ltI a0_0 0)
   (some [(.v (.int .u64 0))])
   (cond (leI 6 a0_0)
     (some [(.v (.int .u64 0))])
     (cond (ltI a1_0 1)
       (some [(.v (.int .u64 0))])
       (cond (leI 1073741824 a1_0)
         (some [(.v (.int .u64 0))])
         (some [(.v (.int .u64 (IntKind.wrap .u64 ((IntKind.wrap .u64 ((IntKind.wrap .u64 ((IntKind.wrap .u64 a1_0) * 256)) + (IntKind.wrap .u64 a0_0))) + 1))))])))) := (ev_eq _ _).trans (by kernel_rfl)
-- "bodega/bodegalaw21.near"
theorem ev15 (a0_0 : Int) (a0_1 : Int) (a0_2 : Int) (a0_3 : Int) (a0_4 : Bool) (a0_5 : Int) (a0_6 : Int) (a0_7 : Int) (a0_8 : Int) (a1_0 : Int) : ev 15 [(.agg [(.v (.int .u32 a0_0)), (.v (.int .i64 a0_1)), (.v (.int .i64 a0_2)), (.v (.int .i64 a0_3)), (.v (.bool a0_4)), (.v (.int .u32 a0_5)), (.v (.int .u64 a0_6)), (.v (.int .i64 a0_7)), (.v (.int .i64 a0_8))]), (.v (.int .i64 a1_0))] =
  (ev 9 [(.v (.int .i64 a1_0)), (.v (.int .i64 3))]).bind fun r0 =>
  cond (isI .i64 (cellAt r0 0))
   (cond ((avInt (cellAt r0 0)) == 0)
     (some [(.agg [(.v (.int .u32 a0_0)), (.v (.int .i64 a0_1)), (.v (.int .i64 a0_2)), (.v (.int .i64 a0_3)), (.v (.bool a0_4)), (.v (.int .u32 a0_5)), (.v (.int .u64 a0_6)), (.v (.int .i64 a0_7)), (.v (.int .i64 a0_8))])])
     ((ev 9 [(.v (.int .i64 (IntKind.wrap .i64 (Int.tmod a0_6 5000)))), (.v (.int .i64 5000))]).bind fun r6 =>
      cond (isI .i64 (cellAt r6 0))
       (cond ((Int.tmod a0_7 2) == 0)
         (cond a0_4
           (cond (ltI 0 (Int.tmod a0_5 9))
             (cond (!a0_4)
               (cond ((Int.tmod a0_0 5) == 4)
                 (some [(.agg [(.v (.int .u32 (IntKind.wrap .u32 (0 - (Int.tmod a0_0 4))))), (.v (.int .i64 0)), (.v (.int .i64 0)), (.v (.int .i64 0)), (.v (.bool a0_4)), (.v (.int .u32 (IntKind.wrap .u32 (Int.tdiv (Int.tmod a0_5 8) 7)))), (.v (.int .u64 (IntKind.wrap .u64 (avInt (cellAt r6 0))))), (.v (.int .i64 0)), (.v (.int .i64 0))])])
                 (some [(.agg [(.v (.int .u32 a0_0)), (.v (.int .i64 0)), (.v (.int .i64 0)), (.v (.int .i64 0)), (.v (.bool a0_4)), (.v (.int .u32 (IntKind.wrap .u32 (Int.tdiv (Int.tmod a0_5 8) 7)))), (.v (.int .u64 (IntKind.wrap .u64 (avInt (cellAt r6 0))))), (.v (.int .i64 0)), (.v (.int .i64 0))])]))
               (cond ((Int.tmod a0_0 5) == 4)
                 (some [(.agg [(.v (.int .u32 (IntKind.wrap .u32 (0 - (Int.tmod a0_0 4))))), (.v (.int .i64 0)), (.v (.int .i64 0)), (.v (.int .i64 0)), (.v (.bool a0_4)), (.v (.int .u32 a0_5)), (.v (.int .u64 (IntKind.wrap .u64 (avInt (cellAt r6 0))))), (.v (.int .i64 0)), (.v (.int .i64 0))])])
                 (some [(.agg [(.v (.int .u32 a0_0)), (.v (.int .i64 0)), (.v (.int .i64 0)), (.v (.int .i64 0)), (.v (.bool a0_4)), (.v (.int .u32 a0_5)), (.v (.int .u64 (IntKind.wrap .u64 (avInt (cellAt r6 0))))), (.v (.int .i64 0)), (.v (.int .i64 0))])])))
             (cond (!a0_4)
               (cond ((Int.tmod a0_0 5) == 4)
                 (some [(.agg [(.v (.int .u32 (IntKind.wrap .u32 (0 - (Int.tmod a0_0 4))))), (.v (.int .i64 a0_1)), (.v (.int .i64 a0_2)), (.v (.int .i64 a0_3)), (.v (.bool a0_4)), (.v (.int .u32 (IntKind.wrap .u32 (Int.tdiv (Int.tmod a0_5 8) 7)))), (.v (.int .u64 (IntKind.wrap .u64 (avInt (cellAt r6 0))))), (.v (.int .i64 0)), (.v (.int .i64 0))])])
                 (some [(.agg [(.v (.int .u32 a0_0)), (.v (.int .i64 a0_1)), (.v (.int .i64 a0_2)), (.v (.int .i64 a0_3)), (.v (.bool a0_4)), (.v (.int .u32 (IntKind.wrap .u32 (Int.tdiv (Int.tmod a0_5 8) 7)))), (.v (.int .u64 (IntKind.wrap .u64 (avInt (cellAt r6 0))))), (.v (.int .i64 0)), (.v (.int .i64 0))])]))
               (cond ((Int.tmod a0_0 5) == 4)
                 (some [(.agg [(.v (.int .u32 (IntKind.wrap .u32 (0 - (Int.tmod a0_0 4))))), (.v (.int .i64 a0_1)), (.v (.int .i64 a0_2)), (.v (.int .i64 a0_3)), (.v (.bool a0_4)), (.v (.int .u32 a0_5)), (.v (.int .u64 (IntKind.wrap .u64 (avInt (cellAt r6 0))))), (.v (.int .i64 0)), (.v (.int .i64 0))])])
                 (some [(.agg [(.v (.int .u32 a0_0)), (.v (.int .i64 a0_1)), (.v (.int .i64 a0_2)), (.v (.int .i64 a0_3)), (.v (.bool a0_4)), (.v (.int .u32 a0_5)), (.v (.int .u64 (IntKind.wrap .u64 (avInt (cellAt r6 0))))), (.v (.int .i64 0)), (.v (.int .i64 0))])]))))
           (cond (!a0_4)
             (cond ((Int.tmod a0_0 5) == 4)
               (some [(.agg [(.v (.int .u32 (IntKind.wrap .u32 (0 - (Int.tmod a0_0 4))))), (.v (.int .i64 a0_1)), (.v (.int .i64 a0_2)), (.v (.int .i64 a0_3)), (.v (.bool a0_4)), (.v (.int .u32 (IntKind.wrap .u32 (Int.tdiv (Int.tmod a0_5 8) 7)))), (.v (.int .u64 (IntKind.wrap .u64 (avInt (cellAt r6 0))))), (.v (.int .i64 0)), (.v (.int .i64 0))])])
               (some [(.agg [(.v (.int .u32 a0_0)), (.v (.int .i64 a0_1)), (.v (.int .i64 a0_2)), (.v (.int .i64 a0_3)), (.v (.bool a0_4)), (.v (.int .u32 (IntKind.wrap .u32 (Int.tdiv (Int.tmod a0_5 8) 7)))), (.v (.int .u64 (IntKind.wrap .u64 (avInt (cellAt r6 0))))), (.v (.int .i64 0)), (.v (.int .i64 0))])]))
             (cond ((Int.tmod a0_0 5) == 4)
               (some [(.agg [(.v (.int .u32 (IntKind.wrap .u32 (0 - (Int.tmod a0_0 4))))), (.v (.int .i64 a0_1)), (.v (.int .i64 a0_2)), (.v (.int .i64 a0_3)), (.v (.bool a0_4)), (.v (.int .u32 a0_5)), (.v (.int .u64 (IntKind.wrap .u64 (avInt (cellAt r6 0))))), (.v (.int .i64 0)), (.v (.int .i64 0))])])
               (some [(.agg [(.v (.int .u32 a0_0)), (.v (.int .i64 a0_1)), (.v (.int .i64 a0_2)), (.v (.int .i64 a0_3)), (.v (.bool a0_4)), (.v (.int .u32 a0_5)), (.v (.int .u64 (IntKind.wrap .u64 (avInt (cellAt r6 0))))), (.v (.int .i64 0)), (.v (.int .i64 0))])]))))
         ((ev 9 [(.v (.int .i64 a0_7)), (.v (.int .i64 154))]).bind fun r56 =>
          cond (isI .i64 (cellAt r56 0))
           ((ev 9 [(.v (.int .i64 a0_8)), (.v (.int .i64 9))]).bind fun r59 =>
            cond (isI .i64 (cellAt r59 0))
             (cond a0_4
               (cond (ltI 0 (Int.tmod a0_5 9))
                 (cond (!a0_4)
                   (cond ((Int.tmod a0_0 5) == 4)
                     (some [(.agg [(.v (.int .u32 (IntKind.wrap .u32 (0 - (Int.tmod a0_0 4))))), (.v (.int .i64 0)), (.v (.int .i64 0)), (.v (.int .i64 0)), (.v (.bool a0_4)), (.v (.int .u32 (IntKind.wrap .u32 (Int.tdiv (Int.tmod a0_5 8) 7)))), (.v (.int .u64 (IntKind.wrap .u64 (avInt (cellAt r6 0))))), (.v (.int .i64 (IntKind.wrap .i64 (103 + (avInt (cellAt r56 0)))))), (.v (.int .i64 (avInt (cellAt r59 0))))])])
                     (some [(.agg [(.v (.int .u32 a0_0)), (.v (.int .i64 0)), (.v (.int .i64 0)), (.v (.int .i64 0)), (.v (.bool a0_4)), (.v (.int .u32 (IntKind.wrap .u32 (Int.tdiv (Int.tmod a0_5 8) 7)))), (.v (.int .u64 (IntKind.wrap .u64 (avInt (cellAt r6 0))))), (.v (.int .i64 (IntKind.wrap .i64 (103 + (avInt (cellAt r56 0)))))), (.v (.int .i64 (avInt (cellAt r59 0))))])]))
                   (cond ((Int.tmod a0_0 5) == 4)
                     (some [(.agg [(.v (.int .u32 (IntKind.wrap .u32 (0 - (Int.tmod a0_0 4))))), (.v (.int .i64 0)), (.v (.int .i64 0)), (.v (.int .i64 0)), (.v (.bool a0_4)), (.v (.int .u32 a0_5)), (.v (.int .u64 (IntKind.wrap .u64 (avInt (cellAt r6 0))))), (.v (.int .i64 (IntKind.wrap .i64 (103 + (avInt (cellAt r56 0)))))), (.v (.int .i64 (avInt (cellAt r59 0))))])])
                     (some [(.agg [(.v (.int .u32 a0_0)), (.v (.int .i64 0)), (.v (.int .i64 0)), (.v (.int .i64 0)), (.v (.bool a0_4)), (.v (.int .u32 a0_5)), (.v (.int .u64 (IntKind.wrap .u64 (avInt (cellAt r6 0))))), (.v (.int .i64 (IntKind.wrap .i64 (103 + (avInt (cellAt r56 0)))))), (.v (.int .i64 (avInt (cellAt r59 0))))])])))
                 (cond (!a0_4)
                   (cond ((Int.tmod a0_0 5) == 4)
                     (some [(.agg [(.v (.int .u32 (IntKind.wrap .u32 (0 - (Int.tmod a0_0 4))))), (.v (.int .i64 a0_1)), (.v (.int .i64 a0_2)), (.v (.int .i64 a0_3)), (.v (.bool a0_4)), (.v (.int .u32 (IntKind.wrap .u32 (Int.tdiv (Int.tmod a0_5 8) 7)))), (.v (.int .u64 (IntKind.wrap .u64 (avInt (cellAt r6 0))))), (.v (.int .i64 (IntKind.wrap .i64 (103 + (avInt (cellAt r56 0)))))), (.v (.int .i64 (avInt (cellAt r59 0))))])])
                     (some [(.agg [(.v (.int .u32 a0_0)), (.v (.int .i64 a0_1)), (.v (.int .i64 a0_2)), (.v (.int .i64 a0_3)), (.v (.bool a0_4)), (.v (.int .u32 (IntKind.wrap .u32 (Int.tdiv (Int.tmod a0_5 8) 7)))), (.v (.int .u64 (IntKind.wrap .u64 (avInt (cellAt r6 0))))), (.v (.int .i64 (IntKind.wrap .i64 (103 + (avInt (cellAt r56 0)))))), (.v (.int .i64 (avInt (cellAt r59 0))))])]))
                   (cond ((Int.tmod a0_0 5) == 4)
                     (some [(.agg [(.v (.int .u32 (IntKind.wrap .u32 (0 - (Int.tmod a0_0 4))))), (.v (.int .i64 a0_1)), (.v (.int .i64 a0_2)), (.v (.int .i64 a0_3)), (.v (.bool a0_4)), (.v (.int .u32 a0_5)), (.v (.int .u64 (IntKind.wrap .u64 (avInt (cellAt r6 0))))), (.v (.int .i64 (IntKind.wrap .i64 (103 + (avInt (cellAt r56 0)))))), (.v (.int .i64 (avInt (cellAt r59 0))))])])
                     (some [(.agg [(.v (.int .u32 a0_0)), (.v (.int .i64 a0_1)), (.v (.int .i64 a0_2)), (.v (.int .i64 a0_3)), (.v (.bool a0_4)), (.v (.int .u32 a0_5)), (.v (.int .u64 (IntKind.wrap .u64 (avInt (cellAt r6 0))))), (.v (.int .i64 (IntKind.wrap .i64 (103 + (avInt (cellAt r56 0)))))), (.v (.int .i64 (avInt (cellAt r59 0))))])]))))
               (cond (!a0_4)
                 (cond ((Int.tmod a0_0 5) == 4)
                   (some [(.agg [(.v (.int .u32 (IntKind.wrap .u32 (0 - (Int.tmod a0_0 4))))), (.v (.int .i64 a0_1)), (.v (.int .i64 a0_2)), (.v (.int .i64 a0_3)), (.v (.bool a0_4)), (.v (.int .u32 (IntKind.wrap .u32 (Int.tdiv (Int.tmod a0_5 8) 7)))), (.v (.int .u64 (IntKind.wrap .u64 (avInt (cellAt r6 0))))), (.v (.int .i64 (IntKind.wrap .i64 (103 + (avInt (cellAt r56 0)))))), (.v (.int .i64 (avInt (cellAt r59 0))))])])
                   (some [(.agg [(.v (.int .u32 a0_0)), (.v (.int .i64 a0_1)), (.v (.int .i64 a0_2)), (.v (.int .i64 a0_3)), (.v (.bool a0_4)), (.v (.int .u32 (IntKind.wrap .u32 (Int.tdiv (Int.tmod a0_5 8) 7)))), (.v (.int .u64 (IntKind.wrap .u64 (avInt (cellAt r6 0))))), (.v (.int .i64 (IntKind.wrap .i64 (103 + (avInt (cellAt r56 0)))))), (.v (.int .i64 (avInt (cellAt r59 0))))])]))
                 (cond ((Int.tmod a0_0 5) == 4)
                   (some [(.agg [(.v (.int .u32 (IntKind.wrap .u32 (0 - (Int.tmod a0_0 4))))), (.v (.int .i64 a0_1)), (.v (.int .i64 a0_2)), (.v (.int .i64 a0_3)), (.v (.bool a0_4)), (.v (.int .u32 a0_5)), (.v (.int .u64 (IntKind.wrap .u64 (avInt (cellAt r6 0))))), (.v (.int .i64 (IntKind.wrap .i64 (103 + (avInt (cellAt r56 0)))))), (.v (.int .i64 (avInt (cellAt r59 0))))])])
                   (some [(.agg [(.v (.int .u32 a0_0)), (.v (.int .i64 a0_1)), (.v (.int .i64 a0_2)), (.v (.int .i64 a0_3)), (.v (.bool a0_4)), (.v (.int .u32 a0_5)), (.v (.int .u64 (IntKind.wrap .u64 (avInt (cellAt r6 0))))), (.v (.int .i64 (IntKind.wrap .i64 (103 + (avInt (cellAt r56 0)))))), (.v (.int .i64 (avInt (cellAt r59 0))))])]))))
             (none))
           (none)))
       (none)))
   (none) := (ev_eq _ _).trans (by kernel_rfl)
-- "bodega/record.Read"
theorem ev16 (a0_0 : Int) (a0_1 : Int) (a0_2 : Int) (a0_3 : Int) (a0_4 : Int) (a0_5 : Int) (a0_6 : Int) (a0_7 : Int) (a0_8 : Int) : ev 16 [(.agg [(.v (.int .i64 a0_0)), (.v (.int .u64 a0_1)), (.v (.int .u64 a0_2)), (.v (.int .u64 a0_3)), (.v (.int .u64 a0_4)), (.v (.int .u64 a0_5)), (.v (.int .u64 a0_6)), (.v (.int .u64 a0_7)), (.v (.int .u64 a0_8))])] =
  (ev 25 [(.v (.int .u64 a0_2))]).bind fun r0 =>
  cond ((Ev.isAgg 3 (cellAt r0 0)) && ((isI .i64 (cellAt (obCells (cellAt r0 0)) 0)) && ((isI .i64 (cellAt (obCells (cellAt r0 0)) 1)) && (isI .u32 (cellAt (obCells (cellAt r0 0)) 2)))))
   (cond (!((avInt (cellAt (obCells (cellAt r0 0)) 0)) == 1))
     (some [(.agg [(.v (.int .u32 0)), (.v (.int .i64 0)), (.v (.int .i64 0)), (.v (.int .i64 0)), (.v (.bool false)), (.v (.int .u32 0)), (.v (.int .u64 0)), (.v (.int .i64 0)), (.v (.int .i64 0))]), (.v (.int .i64 14))])
     (cond (ltI 1 (avInt (cellAt (obCells (cellAt r0 0)) 2)))
       (some [(.agg [(.v (.int .u32 0)), (.v (.int .i64 0)), (.v (.int .i64 0)), (.v (.int .i64 0)), (.v (.bool false)), (.v (.int .u32 0)), (.v (.int .u64 0)), (.v (.int .i64 0)), (.v (.int .i64 0))]), (.v (.int .i64 14))])
       (cond (!((IntKind.wrap .u32 (Int.fdiv a0_3 4294967296)) == 0))
         ((ev 33 [(.v (.int .u32 (IntKind.wrap .u32 (Int.fdiv a0_3 4294967296))))]).bind fun r11 =>
          cond ((Ev.isAgg 2 (cellAt r11 0)) && ((isI .i64 (cellAt (obCells (cellAt r11 0)) 0)) && (isI .i64 (cellAt (obCells (cellAt r11 0)) 1))))
           (cond ((avInt (cellAt (obCells (cellAt r0 0)) 2)) == 1)
             ((ev 21 [(.agg [(.v (.int .u32 (IntKind.wrap .u32 a0_3))), (.v (.int .i64 0)), (.v (.int .i64 0)), (.v (.int .i64 0)), (.v (.bool ((avInt (cellAt (obCells (cellAt r0 0)) 2)) == 1))), (.v (.int .u32 (IntKind.wrap .u32 a0_4))), (.v (.int .u64 a0_7)), (.v (.int .i64 (avInt (cellAt (obCells (cellAt r11 0)) 0)))), (.v (.int .i64 (avInt (cellAt (obCells (cellAt r11 0)) 1))))])]).bind fun r15 =>
              cond (isB (cellAt r15 0))
               (cond (!(avBool (cellAt r15 0)))
                 (some [(.agg [(.v (.int .u32 0)), (.v (.int .i64 0)), (.v (.int .i64 0)), (.v (.int .i64 0)), (.v (.bool false)), (.v (.int .u32 0)), (.v (.int .u64 0)), (.v (.int .i64 0)), (.v (.int .i64 0))]), (.v (.int .i64 14))])
                 ((ev 34 [(.agg [(.v (.int .i64 a0_0)), (.v (.int .u64 a0_1)), (.v (.int .u64 a0_2)), (.v (.int .u64 a0_3)), (.v (.int .u64 a0_4)), (.v (.int .u64 a0_5)), (.v (.int .u64 a0_6)), (.v (.int .u64 a0_7)), (.v (.int .u64 a0_8))]), (.agg [(.v (.int .u32 (IntKind.wrap .u32 a0_3))), (.v (.int .i64 0)), (.v (.int .i64 0)), (.v (.int .i64 0)), (.v (.bool ((avInt (cellAt (obCells (cellAt r0 0)) 2)) == 1))), (.v (.int .u32 (IntKind.wrap .u32 a0_4))), (.v (.int .u64 a0_7)), (.v (.int .i64 (avInt (cellAt (obCells (cellAt r11 0)) 0)))), (.v (.int .i64 (avInt (cellAt (obCells (cellAt r11 0)) 1))))])]).bind fun r18 =>
                  cond ((Ev.isAgg 9 (cellAt r18 0)) && ((isI .i64 (cellAt (obCells (cellAt r18 0)) 0)) && ((isI .u64 (cellAt (obCells (cellAt r18 0)) 1)) && ((isI .u64 (cellAt (obCells (cellAt r18 0)) 2)) && ((isI .u64 (cellAt (obCells (cellAt r18 0)) 3)) && ((isI .u64 (cellAt (obCells (cellAt r18 0)) 4)) && ((isI .u64 (cellAt (obCells (cellAt r18 0)) 5)) && ((isI .u64 (cellAt (obCells (cellAt r18 0)) 6)) && ((isI .u64 (cellAt (obCells (cellAt r18 0)) 7)) && (isI .u64 (cellAt (obCells (cellAt r18 0)) 8)))))))))))
                   (cond (!(((avInt (cellAt (obCells (cellAt r18 0)) 2)) == a0_2) && (((avInt (cellAt (obCells (cellAt r18 0)) 3)) == a0_3) && (((avInt (cellAt (obCells (cellAt r18 0)) 4)) == a0_4) && (((avInt (cellAt (obCells (cellAt r18 0)) 5)) == a0_5) && (((avInt (cellAt (obCells (cellAt r18 0)) 6)) == a0_6) && (((avInt (cellAt (obCells (cellAt r18 0)) 7)) == a0_7) && ((avInt (cellAt (obCells (cellAt r18 0)) 8)) == a0_8))))))))
                     (some [(.agg [(.v (.int .u32 0)), (.v (.int .i64 0)), (.v (.int .i64 0)), (.v (.int .i64 0)), (.v (.bool false)), (.v (.int .u32 0)), (.v (.int .u64 0)), (.v (.int .i64 0)), (.v (.int .i64 0))]), (.v (.int .i64 14))])
                     (some [(.agg [(.v (.int .u32 (IntKind.wrap .u32 a0_3))), (.v (.int .i64 0)), (.v (.int .i64 0)), (.v (.int .i64 0)), (.v (.bool ((avInt (cellAt (obCells (cellAt r0 0)) 2)) == 1))), (.v (.int .u32 (IntKind.wrap .u32 a0_4))), (.v (.int .u64 a0_7)), (.v (.int .i64 (avInt (cellAt (obCells (cellAt r11 0)) 0)))), (.v (.int .i64 (avInt (cellAt (obCells (cellAt r11 0)) 1))))]), (.v (.int .i64 0))]))
                   (none)))
               (none))
             ((ev 21 [(.agg [(.v (.int .u32 (IntKind.wrap .u32 a0_3))), (.v (.int .i64 (IntKind.wrap .i64 a0_4))), (.v (.int .i64 (IntKind.wrap .i64 a0_5))), (.v (.int .i64 (IntKind.wrap .i64 a0_6))), (.v (.bool ((avInt (cellAt (obCells (cellAt r0 0)) 2)) == 1))), (.v (.int .u32 0)), (.v (.int .u64 a0_7)), (.v (.int .i64 (avInt (cellAt (obCells (cellAt r11 0)) 0)))), (.v (.int .i64 (avInt (cellAt (obCells (cellAt r11 0)) 1))))])]).bind fun r44 =>
              cond (isB (cellAt r44 0))
               (cond (!(avBool (cellAt r44 0)))
                 (some [(.agg [(.v (.int .u32 0)), (.v (.int .i64 0)), (.v (.int .i64 0)), (.v (.int .i64 0)), (.v (.bool false)), (.v (.int .u32 0)), (.v (.int .u64 0)), (.v (.int .i64 0)), (.v (.int .i64 0))]), (.v (.int .i64 14))])
                 ((ev 34 [(.agg [(.v (.int .i64 a0_0)), (.v (.int .u64 a0_1)), (.v (.int .u64 a0_2)), (.v (.int .u64 a0_3)), (.v (.int .u64 a0_4)), (.v (.int .u64 a0_5)), (.v (.int .u64 a0_6)), (.v (.int .u64 a0_7)), (.v (.int .u64 a0_8))]), (.agg [(.v (.int .u32 (IntKind.wrap .u32 a0_3))), (.v (.int .i64 (IntKind.wrap .i64 a0_4))), (.v (.int .i64 (IntKind.wrap .i64 a0_5))), (.v (.int .i64 (IntKind.wrap .i64 a0_6))), (.v (.bool ((avInt (cellAt (obCells (cellAt r0 0)) 2)) == 1))), (.v (.int .u32 0)), (.v (.int .u64 a0_7)), (.v (.int .i64 (avInt (cellAt (obCells (cellAt r11 0)) 0)))), (.v (.int .i64 (avInt (cellAt (obCells (cellAt r11 0)) 1))))])]).bind fun r47 =>
                  cond ((Ev.isAgg 9 (cellAt r47 0)) && ((isI .i64 (cellAt (obCells (cellAt r47 0)) 0)) && ((isI .u64 (cellAt (obCells (cellAt r47 0)) 1)) && ((isI .u64 (cellAt (obCells (cellAt r47 0)) 2)) && ((isI .u64 (cellAt (obCells (cellAt r47 0)) 3)) && ((isI .u64 (cellAt (obCells (cellAt r47 0)) 4)) && ((isI .u64 (cellAt (obCells (cellAt r47 0)) 5)) && ((isI .u64 (cellAt (obCells (cellAt r47 0)) 6)) && ((isI .u64 (cellAt (obCells (cellAt r47 0)) 7)) && (isI .u64 (cellAt (obCells (cellAt r47 0)) 8)))))))))))
                   (cond (!(((avInt (cellAt (obCells (cellAt r47 0)) 2)) == a0_2) && (((avInt (cellAt (obCells (cellAt r47 0)) 3)) == a0_3) && (((avInt (cellAt (obCells (cellAt r47 0)) 4)) == a0_4) && (((avInt (cellAt (obCells (cellAt r47 0)) 5)) == a0_5) && (((avInt (cellAt (obCells (cellAt r47 0)) 6)) == a0_6) && (((avInt (cellAt (obCells (cellAt r47 0)) 7)) == a0_7) && ((avInt (cellAt (obCells (cellAt r47 0)) 8)) == a0_8))))))))
                     (some [(.agg [(.v (.int .u32 0)), (.v (.int .i64 0)), (.v (.int .i64 0)), (.v (.int .i64 0)), (.v (.bool false)), (.v (.int .u32 0)), (.v (.int .u64 0)), (.v (.int .i64 0)), (.v (.int .i64 0))]), (.v (.int .i64 14))])
                     (some [(.agg [(.v (.int .u32 (IntKind.wrap .u32 a0_3))), (.v (.int .i64 (IntKind.wrap .i64 a0_4))), (.v (.int .i64 (IntKind.wrap .i64 a0_5))), (.v (.int .i64 (IntKind.wrap .i64 a0_6))), (.v (.bool ((avInt (cellAt (obCells (cellAt r0 0)) 2)) == 1))), (.v (.int .u32 0)), (.v (.int .u64 a0_7)), (.v (.int .i64 (avInt (cellAt (obCells (cellAt r11 0)) 0)))), (.v (.int .i64 (avInt (cellAt (obCells (cellAt r11 0)) 1))))]), (.v (.int .i64 0))]))
                   (none)))
               (none)))
           (none))
         (cond ((avInt (cellAt (obCells (cellAt r0 0)) 2)) == 1)
           ((ev 21 [(.agg [(.v (.int .u32 (IntKind.wrap .u32 a0_3))), (.v (.int .i64 0)), (.v (.int .i64 0)), (.v (.int .i64 0)), (.v (.bool ((avInt (cellAt (obCells (cellAt r0 0)) 2)) == 1))), (.v (.int .u32 (IntKind.wrap .u32 a0_4))), (.v (.int .u64 a0_7)), (.v (.int .i64 0)), (.v (.int .i64 0))])]).bind fun r60 =>
            cond (isB (cellAt r60 0))
             (cond (!(avBool (cellAt r60 0)))
               (some [(.agg [(.v (.int .u32 0)), (.v (.int .i64 0)), (.v (.int .i64 0)), (.v (.int .i64 0)), (.v (.bool false)), (.v (.int .u32 0)), (.v (.int .u64 0)), (.v (.int .i64 0)), (.v (.int .i64 0))]), (.v (.int .i64 14))])
               ((ev 34 [(.agg [(.v (.int .i64 a0_0)), (.v (.int .u64 a0_1)), (.v (.int .u64 a0_2)), (.v (.int .u64 a0_3)), (.v (.int .u64 a0_4)), (.v (.int .u64 a0_5)), (.v (.int .u64 a0_6)), (.v (.int .u64 a0_7)), (.v (.int .u64 a0_8))]), (.agg [(.v (.int .u32 (IntKind.wrap .u32 a0_3))), (.v (.int .i64 0)), (.v (.int .i64 0)), (.v (.int .i64 0)), (.v (.bool ((avInt (cellAt (obCells (cellAt r0 0)) 2)) == 1))), (.v (.int .u32 (IntKind.wrap .u32 a0_4))), (.v (.int .u64 a0_7)), (.v (.int .i64 0)), (.v (.int .i64 0))])]).bind fun r63 =>
                cond ((Ev.isAgg 9 (cellAt r63 0)) && ((isI .i64 (cellAt (obCells (cellAt r63 0)) 0)) && ((isI .u64 (cellAt (obCells (cellAt r63 0)) 1)) && ((isI .u64 (cellAt (obCells (cellAt r63 0)) 2)) && ((isI .u64 (cellAt (obCells (cellAt r63 0)) 3)) && ((isI .u64 (cellAt (obCells (cellAt r63 0)) 4)) && ((isI .u64 (cellAt (obCells (cellAt r63 0)) 5)) && ((isI .u64 (cellAt (obCells (cellAt r63 0)) 6)) && ((isI .u64 (cellAt (obCells (cellAt r63 0)) 7)) && (isI .u64 (cellAt (obCells (cellAt r63 0)) 8)))))))))))
                 (cond (!(((avInt (cellAt (obCells (cellAt r63 0)) 2)) == a0_2) && (((avInt (cellAt (obCells (cellAt r63 0)) 3)) == a0_3) && (((avInt (cellAt (obCells (cellAt r63 0)) 4)) == a0_4) && (((avInt (cellAt (obCells (cellAt r63 0)) 5)) == a0_5) && (((avInt (cellAt (obCells (cellAt r63 0)) 6)) == a0_6) && (((avInt (cellAt (obCells (cellAt r63 0)) 7)) == a0_7) && ((avInt (cellAt (obCells (cellAt r63 0)) 8)) == a0_8))))))))
                   (some [(.agg [(.v (.int .u32 0)), (.v (.int .i64 0)), (.v (.int .i64 0)), (.v (.int .i64 0)), (.v (.bool false)), (.v (.int .u32 0)), (.v (.int .u64 0)), (.v (.int .i64 0)), (.v (.int .i64 0))]), (.v (.int .i64 14))])
                   (some [(.agg [(.v (.int .u32 (IntKind.wrap .u32 a0_3))), (.v (.int .i64 0)), (.v (.int .i64 0)), (.v (.int .i64 0)), (.v (.bool ((avInt (cellAt (obCells (cellAt r0 0)) 2)) == 1))), (.v (.int .u32 (IntKind.wrap .u32 a0_4))), (.v (.int .u64 a0_7)), (.v (.int .i64 0)), (.v (.int .i64 0))]), (.v (.int .i64 0))]))
                 (none)))
             (none))
           ((ev 21 [(.agg [(.v (.int .u32 (IntKind.wrap .u32 a0_3))), (.v (.int .i64 (IntKind.wrap .i64 a0_4))), (.v (.int .i64 (IntKind.wrap .i64 a0_5))), (.v (.int .i64 (IntKind.wrap .i64 a0_6))), (.v (.bool ((avInt (cellAt (obCells (cellAt r0 0)) 2)) == 1))), (.v (.int .u32 0)), (.v (.int .u64 a0_7)), (.v (.int .i64 0)), (.v (.int .i64 0))])]).bind fun r89 =>
            cond (isB (cellAt r89 0))
             (cond (!(avBool (cellAt r89 0)))
               (some [(.agg [(.v (.int .u32 0)), (.v (.int .i64 0)), (.v (.int .i64 0)), (.v (.int .i64 0)), (.v (.bool false)), (.v (.int .u32 0)), (.v (.int .u64 0)), (.v (.int .i64 0)), (.v (.int .i64 0))]), (.v (.int .i64 14))])
               ((ev 34 [(.agg [(.v (.int .i64 a0_0)), (.v (.int .u64 a0_1)), (.v (.int .u64 a0_2)), (.v (.int .u64 a0_3)), (.v (.int .u64 a0_4)), (.v (.int .u64 a0_5)), (.v (.int .u64 a0_6)), (.v (.int .u64 a0_7)), (.v (.int .u64 a0_8))]), (.agg [(.v (.int .u32 (IntKind.wrap .u32 a0_3))), (.v (.int .i64 (IntKind.wrap .i64 a0_4))), (.v (.int .i64 (IntKind.wrap .i64 a0_5))), (.v (.int .i64 (IntKind.wrap .i64 a0_6))), (.v (.bool ((avInt (cellAt (obCells (cellAt r0 0)) 2)) == 1))), (.v (.int .u32 0)), (.v (.int .u64 a0_7)), (.v (.int .i64 0)), (.v (.int .i64 0))])]).bind fun r92 =>
                cond ((Ev.isAgg 9 (cellAt r92 0)) && ((isI .i64 (cellAt (obCells (cellAt r92 0)) 0)) && ((isI .u64 (cellAt (obCells (cellAt r92 0)) 1)) && ((isI .u64 (cellAt (obCells (cellAt r92 0)) 2)) && ((isI .u64 (cellAt (obCells (cellAt r92 0)) 3)) && ((isI .u64 (cellAt (obCells (cellAt r92 0)) 4)) && ((isI .u64 (cellAt (obCells (cellAt r92 0)) 5)) && ((isI .u64 (cellAt (obCells (cellAt r92 0)) 6)) && ((isI .u64 (cellAt (obCells (cellAt r92 0)) 7)) && (isI .u64 (cellAt (obCells (cellAt r92 0)) 8)))))))))))
                 (cond (!(((avInt (cellAt (obCells (cellAt r92 0)) 2)) == a0_2) && (((avInt (cellAt (obCells (cellAt r92 0)) 3)) == a0_3) && (((avInt (cellAt (obCells (cellAt r92 0)) 4)) == a0_4) && (((avInt (cellAt (obCells (cellAt r92 0)) 5)) == a0_5) && (((avInt (cellAt (obCells (cellAt r92 0)) 6)) == a0_6) && (((avInt (cellAt (obCells (cellAt r92 0)) 7)) == a0_7) && ((avInt (cellAt (obCells (cellAt r92 0)) 8)) == a0_8))))))))
                   (some [(.agg [(.v (.int .u32 0)), (.v (.int .i64 0)), (.v (.int .i64 0)), (.v (.int .i64 0)), (.v (.bool false)), (.v (.int .u32 0)), (.v (.int .u64 0)), (.v (.int .i64 0)), (.v (.int .i64 0))]), (.v (.int .i64 14))])
                   (some [(.agg [(.v (.int .u32 (IntKind.wrap .u32 a0_3))), (.v (.int .i64 (IntKind.wrap .i64 a0_4))), (.v (.int .i64 (IntKind.wrap .i64 a0_5))), (.v (.int .i64 (IntKind.wrap .i64 a0_6))), (.v (.bool ((avInt (cellAt (obCells (cellAt r0 0)) 2)) == 1))), (.v (.int .u32 0)), (.v (.int .u64 a0_7)), (.v (.int .i64 0)), (.v (.int .i64 0))]), (.v (.int .i64 0))]))
                 (none)))
             (none))))))
   (none) := (ev_eq _ _).trans (by kernel_rfl)
-- "bodega/record.Write"
theorem ev18 (a0_0 : Int) (a0_1 : Int) (a0_2 : Int) (a0_3 : Int) (a0_4 : Int) (a0_5 : Int) (a0_6 : Int) (a0_7 : Int) (a0_8 : Int) (a1_0 : Int) (a1_1 : Int) (a1_2 : Int) (a1_3 : Int) (a1_4 : Bool) (a1_5 : Int) (a1_6 : Int) (a1_7 : Int) (a1_8 : Int) : ev 18 [(.agg [(.v (.int .i64 a0_0)), (.v (.int .u64 a0_1)), (.v (.int .u64 a0_2)), (.v (.int .u64 a0_3)), (.v (.int .u64 a0_4)), (.v (.int .u64 a0_5)), (.v (.int .u64 a0_6)), (.v (.int .u64 a0_7)), (.v (.int .u64 a0_8))]), (.agg [(.v (.int .u32 a1_0)), (.v (.int .i64 a1_1)), (.v (.int .i64 a1_2)), (.v (.int .i64 a1_3)), (.v (.bool a1_4)), (.v (.int .u32 a1_5)), (.v (.int .u64 a1_6)), (.v (.int .i64 a1_7)), (.v (.int .i64 a1_8))])] =
  (ev 21 [(.agg [(.v (.int .u32 a1_0)), (.v (.int .i64 a1_1)), (.v (.int .i64 a1_2)), (.v (.int .i64 a1_3)), (.v (.bool a1_4)), (.v (.int .u32 a1_5)), (.v (.int .u64 a1_6)), (.v (.int .i64 a1_7)), (.v (.int .i64 a1_8))])]).bind fun r0 =>
  cond (isB (cellAt r0 0))
   (cond (!(avBool (cellAt r0 0)))
     (some [(.agg [(.v (.int .i64 0)), (.v (.int .u64 0)), (.v (.int .u64 0)), (.v (.int .u64 0)), (.v (.int .u64 0)), (.v (.int .u64 0)), (.v (.int .u64 0)), (.v (.int .u64 0)), (.v (.int .u64 0))]), (.v (.int .i64 1))])
     ((ev 25 [(.v (.int .u64 a0_2))]).bind fun r3 =>
      cond ((Ev.isAgg 3 (cellAt r3 0)) && ((isI .i64 (cellAt (obCells (cellAt r3 0)) 0)) && ((isI .i64 (cellAt (obCells (cellAt r3 0)) 1)) && (isI .u32 (cellAt (obCells (cellAt r3 0)) 2)))))
       (cond (!((avInt (cellAt (obCells (cellAt r3 0)) 0)) == 1))
         (some [(.agg [(.v (.int .i64 0)), (.v (.int .u64 0)), (.v (.int .u64 0)), (.v (.int .u64 0)), (.v (.int .u64 0)), (.v (.int .u64 0)), (.v (.int .u64 0)), (.v (.int .u64 0)), (.v (.int .u64 0))]), (.v (.int .i64 1))])
         ((ev 34 [(.agg [(.v (.int .i64 a0_0)), (.v (.int .u64 a0_1)), (.v (.int .u64 a0_2)), (.v (.int .u64 a0_3)), (.v (.int .u64 a0_4)), (.v (.int .u64 a0_5)), (.v (.int .u64 a0_6)), (.v (.int .u64 a0_7)), (.v (.int .u64 a0_8))]), (.agg [(.v (.int .u32 a1_0)), (.v (.int .i64 a1_1)), (.v (.int .i64 a1_2)), (.v (.int .i64 a1_3)), (.v (.bool a1_4)), (.v (.int .u32 a1_5)), (.v (.int .u64 a1_6)), (.v (.int .i64 a1_7)), (.v (.int .i64 a1_8))])]).bind fun r8 =>
          cond ((Ev.isAgg 9 (cellAt r8 0)) && ((isI .i64 (cellAt (obCells (cellAt r8 0)) 0)) && ((isI .u64 (cellAt (obCells (cellAt r8 0)) 1)) && ((isI .u64 (cellAt (obCells (cellAt r8 0)) 2)) && ((isI .u64 (cellAt (obCells (cellAt r8 0)) 3)) && ((isI .u64 (cellAt (obCells (cellAt r8 0)) 4)) && ((isI .u64 (cellAt (obCells (cellAt r8 0)) 5)) && ((isI .u64 (cellAt (obCells (cellAt r8 0)) 6)) && ((isI .u64 (cellAt (obCells (cellAt r8 0)) 7)) && (isI .u64 (cellAt (obCells (cellAt r8 0)) 8)))))))))))
           (some [(.agg [(.v (.int .i64 (avInt (cellAt (obCells (cellAt r8 0)) 0)))), (.v (.int .u64 (avInt (cellAt (obCells (cellAt r8 0)) 1)))), (.v (.int .u64 (avInt (cellAt (obCells (cellAt r8 0)) 2)))), (.v (.int .u64 (avInt (cellAt (obCells (cellAt r8 0)) 3)))), (.v (.int .u64 (avInt (cellAt (obCells (cellAt r8 0)) 4)))), (.v (.int .u64 (avInt (cellAt (obCells (cellAt r8 0)) 5)))), (.v (.int .u64 (avInt (cellAt (obCells (cellAt r8 0)) 6)))), (.v (.int .u64 (avInt (cellAt (obCells (cellAt r8 0)) 7)))), (.v (.int .u64 (avInt (cellAt (obCells (cellAt r8 0)) 8))))]), (.v (.int .i64 0))])
           (none)))
       (none)))
   (none) := (ev_eq _ _).trans (by kernel_rfl)
-- "bodega/record.Valid"
theorem ev21 (a0_0 : Int) (a0_1 : Int) (a0_2 : Int) (a0_3 : Int) (a0_4 : Bool) (a0_5 : Int) (a0_6 : Int) (a0_7 : Int) (a0_8 : Int) : ev 21 [(.agg [(.v (.int .u32 a0_0)), (.v (.int .i64 a0_1)), (.v (.int .i64 a0_2)), (.v (.int .i64 a0_3)), (.v (.bool a0_4)), (.v (.int .u32 a0_5)), (.v (.int .u64 a0_6)), (.v (.int .i64 a0_7)), (.v (.int .i64 a0_8))])] =
  (ev 10 [(.v (.int .u64 a0_6))]).bind fun r0 =>
  cond (isI .i64 (cellAt r0 0))
   (cond (isI .i64 (cellAt r0 1))
     (cond (isB (cellAt r0 2))
       (cond (ltI a0_0 1)
         (some [(.v (.bool false))])
         (cond (ltI 4294967294 a0_0)
           (some [(.v (.bool false))])
           (cond (!(avBool (cellAt r0 2)))
             (some [(.v (.bool false))])
             (cond (!((a0_7 == 0) && (a0_8 == 0)))
               ((ev 42 [(.agg [(.v (.int .i64 a0_7)), (.v (.int .i64 a0_8))])]).bind fun r8 =>
                cond (isB (cellAt r8 0))
                 (cond (!(avBool (cellAt r8 0)))
                   (some [(.v (.bool false))])
                   (cond a0_4
                     (some [(.v (.bool ((a0_1 == 0) && ((a0_2 == 0) && (a0_3 == 0)))))])
                     (some [(.v (.bool (a0_5 == 0)))])))
                 (none))
               (cond a0_4
                 (some [(.v (.bool ((a0_1 == 0) && ((a0_2 == 0) && (a0_3 == 0)))))])
                 (some [(.v (.bool (a0_5 == 0)))]))))))
       (none))
     (none))
   (none) := (ev_eq _ _).trans (by kernel_rfl)
-- "bodega/bodegaref19.ValidVersion"
theorem ev22 (a0_0 : Int) (a0_1 : Int) (a0_2 : Int) (a0_3 : Int) (a0_4 : Bool) (a0_5 : Int) (a0_6 : Int) (a0_7 : Int) (a0_8 : Int) : ev 22 [(.agg [(.v (.int .u32 a0_0)), (.v (.int .i64 a0_1)), (.v (.int .i64 a0_2)), (.v (.int .i64 a0_3)), (.v (.bool a0_4)), (.v (.int .u32 a0_5)), (.v (.int .u64 a0_6)), (.v (.int .i64 a0_7)), (.v (.int .i64 a0_8))])] =
  (ev 11 [(.v (.int .u64 a0_6))]).bind fun r0 =>
  cond (isI .i64 (cellAt r0 0))
   (cond (isI .i64 (cellAt r0 1))
     (cond (isB (cellAt r0 2))
       (cond (!(avBool (cellAt r0 2)))
         (some [(.v (.bool false))])
         (cond (ltI a0_0 1)
           (some [(.v (.bool false))])
           (cond (ltI 4294967294 a0_0)
             (some [(.v (.bool false))])
             (cond (!((a0_7 == 0) && (a0_8 == 0)))
               ((ev 43 [(.agg [(.v (.int .i64 a0_7)), (.v (.int .i64 a0_8))])]).bind fun r8 =>
                cond (isB (cellAt r8 0))
                 (cond (!(avBool (cellAt r8 0)))
                   (some [(.v (.bool false))])
                   (cond a0_4
                     (some [(.v (.bool ((a0_1 == 0) && ((a0_2 == 0) && (a0_3 == 0)))))])
                     (some [(.v (.bool (a0_5 == 0)))])))
                 (none))
               (cond a0_4
                 (some [(.v (.bool ((a0_1 == 0) && ((a0_2 == 0) && (a0_3 == 0)))))])
                 (some [(.v (.bool (a0_5 == 0)))]))))))
       (none))
     (none))
   (none) := (ev_eq _ _).trans (by kernel_rfl)
-- "bodega/bodegalaw21.same"
theorem ev23 (a0_0 : Int) (a0_1 : Int) (a0_2 : Int) (a0_3 : Int) (a0_4 : Int) (a0_5 : Int) (a0_6 : Int) (a0_7 : Int) (a0_8 : Int) (a1_0 : Int) (a1_1 : Int) (a1_2 : Int) (a1_3 : Int) (a1_4 : Int) (a1_5 : Int) (a1_6 : Int) (a1_7 : Int) (a1_8 : Int) : ev 23 [(.agg [(.v (.int .i64 a0_0)), (.v (.int .u64 a0_1)), (.v (.int .u64 a0_2)), (.v (.int .u64 a0_3)), (.v (.int .u64 a0_4)), (.v (.int .u64 a0_5)), (.v (.int .u64 a0_6)), (.v (.int .u64 a0_7)), (.v (.int .u64 a0_8))]), (.agg [(.v (.int .i64 a1_0)), (.v (.int .u64 a1_1)), (.v (.int .u64 a1_2)), (.v (.int .u64 a1_3)), (.v (.int .u64 a1_4)), (.v (.int .u64 a1_5)), (.v (.int .u64 a1_6)), (.v (.int .u64 a1_7)), (.v (.int .u64 a1_8))])] =
  cond (a0_0 == a1_0)
   (cond (a0_1 == a1_1)
     (some [(.v (.bool ((a0_2 == a1_2) && ((a0_3 == a1_3) && ((a0_4 == a1_4) && ((a0_5 == a1_5) && ((a0_6 == a1_6) && ((a0_7 == a1_7) && (a0_8 == a1_8)))))))))])
     (some [(.v (.bool false))]))
   (some [(.v (.bool false))]) := (ev_eq _ _).trans (by kernel_rfl)
-- "bodega/pointer.PackTag"
theorem ev24 (a0_0 : Int) (a0_1 : Int) (a0_2 : Int) : ev 24 [(.agg [(.v (.int .i64 a0_0)), (.v (.int .i64 a0_1)), (.v (.int .u32 a0_2))])] =
  some [(.v (.int .u64 (bits .or .u64 (bits .or .u64 (bits .and .u64 (IntKind.wrap .u64 a0_0) 255) (IntKind.wrap .u64 ((bits .and .u64 (IntKind.wrap .u64 a0_1) 16777215) * 256))) (IntKind.wrap .u64 ((IntKind.wrap .u64 a0_2) * 4294967296)))))] := (ev_eq _ _).trans (by kernel_rfl)
-- "bodega/pointer.UnpackTag"
theorem ev25 (a0_0 : Int) : ev 25 [(.v (.int .u64 a0_0))] =
  some [(.agg [(.v (.int .i64 (IntKind.wrap .i64 (bits .and .u64 a0_0 255)))), (.v (.int .i64 (IntKind.wrap .i64 (bits .and .u64 (Int.fdiv a0_0 256) 16777215)))), (.v (.int .u32 (IntKind.wrap .u32 (Int.fdiv a0_0 4294967296))))])] := (ev_eq _ _).trans (by kernel_rfl)
-- "bodega/pointer.Unpack"
theorem ev33 (a0_0 : Int) : ev 33 [(.v (.int .u32 a0_0))] =
  some [(.agg [(.v (.int .i64 (IntKind.wrap .i64 (bits .and .u32 a0_0 255)))), (.v (.int .i64 (IntKind.wrap .i64 (Int.fdiv a0_0 256))))])] := (ev_eq _ _).trans (by kernel_rfl)
-- "bodega/record.fill"
theorem ev34 (a0_0 : Int) (a0_1 : Int) (a0_2 : Int) (a0_3 : Int) (a0_4 : Int) (a0_5 : Int) (a0_6 : Int) (a0_7 : Int) (a0_8 : Int) (a1_0 : Int) (a1_1 : Int) (a1_2 : Int) (a1_3 : Int) (a1_4 : Bool) (a1_5 : Int) (a1_6 : Int) (a1_7 : Int) (a1_8 : Int) : ev 34 [(.agg [(.v (.int .i64 a0_0)), (.v (.int .u64 a0_1)), (.v (.int .u64 a0_2)), (.v (.int .u64 a0_3)), (.v (.int .u64 a0_4)), (.v (.int .u64 a0_5)), (.v (.int .u64 a0_6)), (.v (.int .u64 a0_7)), (.v (.int .u64 a0_8))]), (.agg [(.v (.int .u32 a1_0)), (.v (.int .i64 a1_1)), (.v (.int .i64 a1_2)), (.v (.int .i64 a1_3)), (.v (.bool a1_4)), (.v (.int .u32 a1_5)), (.v (.int .u64 a1_6)), (.v (.int .i64 a1_7)), (.v (.int .i64 a1_8))])] =
  (ev 25 [(.v (.int .u64 a0_2))]).bind fun r0 =>
  cond ((Ev.isAgg 3 (cellAt r0 0)) && ((isI .i64 (cellAt (obCells (cellAt r0 0)) 0)) && ((isI .i64 (cellAt (obCells (cellAt r0 0)) 1)) && (isI .u32 (cellAt (obCells (cellAt r0 0)) 2)))))
   ((ev 53 [(.agg [(.v (.int .i64 a1_7)), (.v (.int .i64 a1_8))])]).bind fun r5 =>
    cond (isI .u32 (cellAt r5 0))
     (cond a1_4
       ((ev 24 [(.agg [(.v (.int .i64 (avInt (cellAt (obCells (cellAt r0 0)) 0)))), (.v (.int .i64 (avInt (cellAt (obCells (cellAt r0 0)) 1)))), (.v (.int .u32 1))])]).bind fun r38 =>
        cond (isI .u64 (cellAt r38 0))
         (some [(.agg [(.v (.int .i64 a0_0)), (.v (.int .u64 a0_1)), (.v (.int .u64 (avInt (cellAt r38 0)))), (.v (.int .u64 (bits .or .u64 (IntKind.wrap .u64 a1_0) (IntKind.wrap .u64 ((IntKind.wrap .u64 (avInt (cellAt r5 0))) * 4294967296))))), (.v (.int .u64 (IntKind.wrap .u64 a1_5))), (.v (.int .u64 (IntKind.wrap .u64 a1_2))), (.v (.int .u64 (IntKind.wrap .u64 a1_3))), (.v (.int .u64 a1_6)), (.v (.int .u64 0))])])
         (none))
       ((ev 24 [(.agg [(.v (.int .i64 (avInt (cellAt (obCells (cellAt r0 0)) 0)))), (.v (.int .i64 (avInt (cellAt (obCells (cellAt r0 0)) 1)))), (.v (.int .u32 0))])]).bind fun r40 =>
        cond (isI .u64 (cellAt r40 0))
         (some [(.agg [(.v (.int .i64 a0_0)), (.v (.int .u64 a0_1)), (.v (.int .u64 (avInt (cellAt r40 0)))), (.v (.int .u64 (bits .or .u64 (IntKind.wrap .u64 a1_0) (IntKind.wrap .u64 ((IntKind.wrap .u64 (avInt (cellAt r5 0))) * 4294967296))))), (.v (.int .u64 (IntKind.wrap .u64 a1_1))), (.v (.int .u64 (IntKind.wrap .u64 a1_2))), (.v (.int .u64 (IntKind.wrap .u64 a1_3))), (.v (.int .u64 a1_6)), (.v (.int .u64 0))])])
         (none)))
     (none))
   (none) := (ev_eq _ _).trans (by kernel_rfl)
-- "bodega/pointer.Valid"
theorem ev42 (a0_0 : Int) (a0_1 : Int) : ev 42 [(.agg [(.v (.int .i64 a0_0)), (.v (.int .i64 a0_1))])] =
  (ev 50 [(.v (.int .i64 a0_0))]).bind fun r0 =>
  cond (isB (cellAt r0 0))
   (cond (avBool (cellAt r0 0))
     (cond (leI 1 a0_1)
       (some [(.v (.bool (leI a0_1 16777215)))])
       (some [(.v (.bool false))]))
     (some [(.v (.bool false))]))
   (none) := (ev_eq _ _).trans (by kernel_rfl)
-- "bodega/bodegaref19.ValidPointer"
theorem ev43 (a0_0 : Int) (a0_1 : Int) : ev 43 [(.agg [(.v (.int .i64 a0_0)), (.v (.int .i64 a0_1))])] =
  (ev 47 [(.v (.int .i64 a0_0))]).bind fun r0 =>
  cond (isB (cellAt r0 0))
   (cond (avBool (cellAt r0 0))
     (cond (leI 1 a0_1)
       (some [(.v (.bool (leI a0_1 16777215)))])
       (some [(.v (.bool false))]))
     (some [(.v (.bool false))]))
   (none) := (ev_eq _ _).trans (by kernel_rfl)
-- "bodega/bodegaref19.heapLine"
theorem ev47 (a0_0 : Int) : ev 47 [(.v (.int .i64 a0_0))] =
  cond (leI 104 a0_0)
   (some [(.v (.bool (ltI a0_0 256)))])
   (some [(.v (.bool false))]) := (ev_eq _ _).trans (by kernel_rfl)
-- "bodega/pointer.inHeap"
theorem ev50 (a0_0 : Int) : ev 50 [(.v (.int .i64 a0_0))] =
  cond (leI 104 a0_0)
   (some [(.v (.bool (ltI a0_0 256)))])
   (some [(.v (.bool false))]) := (ev_eq _ _).trans (by kernel_rfl)
-- "bodega/pointer.Pack"
theorem ev53 (a0_0 : Int) (a0_1 : Int) : ev 53 [(.agg [(.v (.int .i64 a0_0)), (.v (.int .i64 a0_1))])] =
  (ev 42 [(.agg [(.v (.int .i64 a0_0)), (.v (.int .i64 a0_1))])]).bind fun r0 =>
  cond (isB (cellAt r0 0))
   (cond (!(avBool (cellAt r0 0)))
     (some [(.v (.int .u32 0))])
     (some [(.v (.int .u32 (bits .or .u32 (IntKind.wrap .u32 ((IntKind.wrap .u32 a0_1) * 256)) (IntKind.wrap .u32 a0_0))))]))
   (none) := (ev_eq _ _).trans (by kernel_rfl)
end Go.Proofs.Ythihfpcleejjfaa
