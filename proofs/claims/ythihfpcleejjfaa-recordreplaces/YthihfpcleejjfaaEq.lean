/- The functions of the chapter, as the evaluator has them. -/
import Derived.Test.YthihfpcleejjfaaRows
import Derived.Test.YthihfpcleejjfaaEv43
set_option linter.all false
namespace Go.Proofs.Ythihfpcleejjfaa
open Go.Ev

def cfg : Cfg := { rw := fun _ => [], dat := fun _ => true, inl := fun _ => false, roll := fun _ => 7, join := fun _ => false }
noncomputable def ev (f : FuncId) (args : List AV) : Option (List AV) := evL Try.prog cfg f args
noncomputable def lp (f k nr : Nat) (s : St) : Option LR := lpL Try.prog cfg f k nr s
theorem ev_eq (f : FuncId) (args : List AV) : ev f args = evBodyG Try.prog cfg (evL Try.prog cfg) (inlD Try.prog cfg (evL Try.prog cfg) 5) (loopL Try.prog cfg f) f args := evL_eq f args
theorem lp_eq (f k nr : Nat) (s : St) : lp f k nr s = evRound Try.prog cfg (evL Try.prog cfg) (inlD Try.prog cfg (evL Try.prog cfg) 5) (loopL Try.prog cfg f) (cfg.roll f) (cfg.join f) (loopAt Try.prog f k).1 (loopAt Try.prog f k).2 (retAt Try.prog cfg f nr) s := loopL_eq f _ _ _ s

-- "bodega/bodegalaw21.RecordPages"
theorem ev5 (a0_0 : Int) (a0_1 : Int) (a0_2 : Int) (a0_3 : Int) (a0_4 : Int) (a0_5 : Int) (a0_6 : Int) (a0_7 : Int) (a0_8 : Int) (a1_0 : Int) (a1_1 : Int) (a1_2 : Int) (a1_3 : Int) (a1_4 : Bool) (a1_5 : Int) (a1_6 : Int) (a1_7 : Int) (a1_8 : Int) (a2_0 : Int) (a3_0 : Int) : ev 5 [(.agg [(.v (.int .i64 a0_0)), (.v (.int .u64 a0_1)), (.v (.int .u64 a0_2)), (.v (.int .u64 a0_3)), (.v (.int .u64 a0_4)), (.v (.int .u64 a0_5)), (.v (.int .u64 a0_6)), (.v (.int .u64 a0_7)), (.v (.int .u64 a0_8))]), (.agg [(.v (.int .u32 a1_0)), (.v (.int .i64 a1_1)), (.v (.int .i64 a1_2)), (.v (.int .i64 a1_3)), (.v (.bool a1_4)), (.v (.int .u32 a1_5)), (.v (.int .u64 a1_6)), (.v (.int .i64 a1_7)), (.v (.int .i64 a1_8))]), (.v (.int .i64 a2_0)), (.v (.int .u64 a3_0))] =
  (ev 15 [(.agg [(.v (.int .u32 a1_0)), (.v (.int .i64 a1_1)), (.v (.int .i64 a1_2)), (.v (.int .i64 a1_3)), (.v (.bool a1_4)), (.v (.int .u32 a1_5)), (.v (.int .u64 a1_6)), (.v (.int .i64 a1_7)), (.v (.int .i64 a1_8))]), (.v (.int .i64 a2_0))]).bind fun r0 =>
  cond ((Ev.isAgg 9 (cellAt r0 0)) && ((isI .u32 (cellAt (obCells (cellAt r0 0)) 0)) && ((isI .i64 (cellAt (obCells (cellAt r0 0)) 1)) && ((isI .i64 (cellAt (obCells (cellAt r0 0)) 2)) && ((isI .i64 (cellAt (obCells (cellAt r0 0)) 3)) && ((isB (cellAt (obCells (cellAt r0 0)) 4)) && ((isI .u32 (cellAt (obCells (cellAt r0 0)) 5)) && ((isI .u64 (cellAt (obCells (cellAt r0 0)) 6)) && ((isI .i64 (cellAt (obCells (cellAt r0 0)) 7)) && (isI .i64 (cellAt (obCells (cellAt r0 0)) 8)))))))))))
   ((ev 9 [(.v (.int .i64 (IntKind.wrap .i64 (Int.tdiv a2_0 3)))), (.v (.int .i64 4))]).bind fun r11 =>
    cond (isI .i64 (cellAt r11 0))
     (cond (ltI 0 (avInt (cellAt r11 0)))
       ((ev 16 [(.agg [(.v (.int .i64 a0_0)), (.v (.int .u64 a0_1)), (.v (.int .u64 (IntKind.wrap .u64 ((IntKind.wrap .u64 ((Int.tmod a3_0 3) + (IntKind.wrap .u64 ((Int.tmod (IntKind.wrap .u64 (Int.tdiv a3_0 3)) 9) * 256)))) + (IntKind.wrap .u64 ((Int.tmod (IntKind.wrap .u64 (Int.tdiv a3_0 27)) 3) * 4294967296)))))), (.v (.int .u64 a0_3)), (.v (.int .u64 a0_4)), (.v (.int .u64 a0_5)), (.v (.int .u64 a0_6)), (.v (.int .u64 a0_7)), (.v (.int .u64 a0_8))])]).bind fun r23 =>
        cond ((Ev.isAgg 9 (cellAt r23 0)) && ((isI .u32 (cellAt (obCells (cellAt r23 0)) 0)) && ((isI .i64 (cellAt (obCells (cellAt r23 0)) 1)) && ((isI .i64 (cellAt (obCells (cellAt r23 0)) 2)) && ((isI .i64 (cellAt (obCells (cellAt r23 0)) 3)) && ((isB (cellAt (obCells (cellAt r23 0)) 4)) && ((isI .u32 (cellAt (obCells (cellAt r23 0)) 5)) && ((isI .u64 (cellAt (obCells (cellAt r23 0)) 6)) && ((isI .i64 (cellAt (obCells (cellAt r23 0)) 7)) && (isI .i64 (cellAt (obCells (cellAt r23 0)) 8)))))))))))
         (cond (isI .i64 (cellAt r23 1))
           ((ev 17 [(.agg [(.v (.int .i64 a0_0)), (.v (.int .u64 a0_1)), (.v (.int .u64 (IntKind.wrap .u64 ((IntKind.wrap .u64 ((Int.tmod a3_0 3) + (IntKind.wrap .u64 ((Int.tmod (IntKind.wrap .u64 (Int.tdiv a3_0 3)) 9) * 256)))) + (IntKind.wrap .u64 ((Int.tmod (IntKind.wrap .u64 (Int.tdiv a3_0 27)) 3) * 4294967296)))))), (.v (.int .u64 a0_3)), (.v (.int .u64 a0_4)), (.v (.int .u64 a0_5)), (.v (.int .u64 a0_6)), (.v (.int .u64 a0_7)), (.v (.int .u64 a0_8))])]).bind fun r34 =>
            cond ((Ev.isAgg 9 (cellAt r34 0)) && ((isI .u32 (cellAt (obCells (cellAt r34 0)) 0)) && ((isI .i64 (cellAt (obCells (cellAt r34 0)) 1)) && ((isI .i64 (cellAt (obCells (cellAt r34 0)) 2)) && ((isI .i64 (cellAt (obCells (cellAt r34 0)) 3)) && ((isB (cellAt (obCells (cellAt r34 0)) 4)) && ((isI .u32 (cellAt (obCells (cellAt r34 0)) 5)) && ((isI .u64 (cellAt (obCells (cellAt r34 0)) 6)) && ((isI .i64 (cellAt (obCells (cellAt r34 0)) 7)) && (isI .i64 (cellAt (obCells (cellAt r34 0)) 8)))))))))))
             (cond (isI .i64 (cellAt r34 1))
               ((ev 18 [(.agg [(.v (.int .i64 a0_0)), (.v (.int .u64 a0_1)), (.v (.int .u64 (IntKind.wrap .u64 ((IntKind.wrap .u64 ((Int.tmod a3_0 3) + (IntKind.wrap .u64 ((Int.tmod (IntKind.wrap .u64 (Int.tdiv a3_0 3)) 9) * 256)))) + (IntKind.wrap .u64 ((Int.tmod (IntKind.wrap .u64 (Int.tdiv a3_0 27)) 3) * 4294967296)))))), (.v (.int .u64 a0_3)), (.v (.int .u64 a0_4)), (.v (.int .u64 a0_5)), (.v (.int .u64 a0_6)), (.v (.int .u64 a0_7)), (.v (.int .u64 a0_8))]), (.agg [(.v (.int .u32 (avInt (cellAt (obCells (cellAt r0 0)) 0)))), (.v (.int .i64 (avInt (cellAt (obCells (cellAt r0 0)) 1)))), (.v (.int .i64 (avInt (cellAt (obCells (cellAt r0 0)) 2)))), (.v (.int .i64 (avInt (cellAt (obCells (cellAt r0 0)) 3)))), (.v (.bool (avBool (cellAt (obCells (cellAt r0 0)) 4)))), (.v (.int .u32 (avInt (cellAt (obCells (cellAt r0 0)) 5)))), (.v (.int .u64 (avInt (cellAt (obCells (cellAt r0 0)) 6)))), (.v (.int .i64 (avInt (cellAt (obCells (cellAt r0 0)) 7)))), (.v (.int .i64 (avInt (cellAt (obCells (cellAt r0 0)) 8))))])]).bind fun r45 =>
                cond ((Ev.isAgg 9 (cellAt r45 0)) && ((isI .i64 (cellAt (obCells (cellAt r45 0)) 0)) && ((isI .u64 (cellAt (obCells (cellAt r45 0)) 1)) && ((isI .u64 (cellAt (obCells (cellAt r45 0)) 2)) && ((isI .u64 (cellAt (obCells (cellAt r45 0)) 3)) && ((isI .u64 (cellAt (obCells (cellAt r45 0)) 4)) && ((isI .u64 (cellAt (obCells (cellAt r45 0)) 5)) && ((isI .u64 (cellAt (obCells (cellAt r45 0)) 6)) && ((isI .u64 (cellAt (obCells (cellAt r45 0)) 7)) && (isI .u64 (cellAt (obCells (cellAt r45 0)) 8)))))))))))
                 (cond (isI .i64 (cellAt r45 1))
                   ((ev 20 [(.agg [(.v (.int .u32 (avInt (cellAt (obCells (cellAt r0 0)) 0)))), (.v (.int .i64 (avInt (cellAt (obCells (cellAt r0 0)) 1)))), (.v (.int .i64 (avInt (cellAt (obCells (cellAt r0 0)) 2)))), (.v (.int .i64 (avInt (cellAt (obCells (cellAt r0 0)) 3)))), (.v (.bool (avBool (cellAt (obCells (cellAt r0 0)) 4)))), (.v (.int .u32 (avInt (cellAt (obCells (cellAt r0 0)) 5)))), (.v (.int .u64 (avInt (cellAt (obCells (cellAt r0 0)) 6)))), (.v (.int .i64 (avInt (cellAt (obCells (cellAt r0 0)) 7)))), (.v (.int .i64 (avInt (cellAt (obCells (cellAt r0 0)) 8))))])]).bind fun r56 =>
                    cond ((Ev.isAgg 9 (cellAt r56 0)) && ((isI .u32 (cellAt (obCells (cellAt r56 0)) 0)) && ((isI .i64 (cellAt (obCells (cellAt r56 0)) 1)) && ((isI .i64 (cellAt (obCells (cellAt r56 0)) 2)) && ((isI .i64 (cellAt (obCells (cellAt r56 0)) 3)) && ((isB (cellAt (obCells (cellAt r56 0)) 4)) && ((isI .u32 (cellAt (obCells (cellAt r56 0)) 5)) && ((isI .u64 (cellAt (obCells (cellAt r56 0)) 6)) && ((isI .i64 (cellAt (obCells (cellAt r56 0)) 7)) && (isI .i64 (cellAt (obCells (cellAt r56 0)) 8)))))))))))
                     ((ev 19 [(.agg [(.v (.int .i64 a0_0)), (.v (.int .u64 a0_1)), (.v (.int .u64 (IntKind.wrap .u64 ((IntKind.wrap .u64 ((Int.tmod a3_0 3) + (IntKind.wrap .u64 ((Int.tmod (IntKind.wrap .u64 (Int.tdiv a3_0 3)) 9) * 256)))) + (IntKind.wrap .u64 ((Int.tmod (IntKind.wrap .u64 (Int.tdiv a3_0 27)) 3) * 4294967296)))))), (.v (.int .u64 a0_3)), (.v (.int .u64 a0_4)), (.v (.int .u64 a0_5)), (.v (.int .u64 a0_6)), (.v (.int .u64 a0_7)), (.v (.int .u64 a0_8))]), (.agg [(.v (.int .u32 (avInt (cellAt (obCells (cellAt r56 0)) 0)))), (.v (.int .i64 (avInt (cellAt (obCells (cellAt r56 0)) 1)))), (.v (.int .i64 (avInt (cellAt (obCells (cellAt r56 0)) 2)))), (.v (.int .i64 (avInt (cellAt (obCells (cellAt r56 0)) 3)))), (.v (.bool (avBool (cellAt (obCells (cellAt r56 0)) 4)))), (.v (.int .u32 (avInt (cellAt (obCells (cellAt r56 0)) 5)))), (.v (.int .u64 (avInt (cellAt (obCells (cellAt r56 0)) 6)))), (.v (.int .i64 (avInt (cellAt (obCells (cellAt r56 0)) 7)))), (.v (.int .i64 (avInt (cellAt (obCells (cellAt r56 0)) 8))))])]).bind fun r66 =>
                      cond ((Ev.isAgg 9 (cellAt r66 0)) && ((isI .i64 (cellAt (obCells (cellAt r66 0)) 0)) && ((isI .u64 (cellAt (obCells (cellAt r66 0)) 1)) && ((isI .u64 (cellAt (obCells (cellAt r66 0)) 2)) && ((isI .u64 (cellAt (obCells (cellAt r66 0)) 3)) && ((isI .u64 (cellAt (obCells (cellAt r66 0)) 4)) && ((isI .u64 (cellAt (obCells (cellAt r66 0)) 5)) && ((isI .u64 (cellAt (obCells (cellAt r66 0)) 6)) && ((isI .u64 (cellAt (obCells (cellAt r66 0)) 7)) && (isI .u64 (cellAt (obCells (cellAt r66 0)) 8)))))))))))
                       (cond (isI .i64 (cellAt r66 1))
                         ((ev 12 []).bind fun r77 =>
                          cond (isB (cellAt r77 0))
                           (cond (!(avBool (cellAt r77 0)))
                             (some [(.v (.bool false))])
                             ((ev 21 [(.agg [(.v (.int .u32 (avInt (cellAt (obCells (cellAt r0 0)) 0)))), (.v (.int .i64 (avInt (cellAt (obCells (cellAt r0 0)) 1)))), (.v (.int .i64 (avInt (cellAt (obCells (cellAt r0 0)) 2)))), (.v (.int .i64 (avInt (cellAt (obCells (cellAt r0 0)) 3)))), (.v (.bool (avBool (cellAt (obCells (cellAt r0 0)) 4)))), (.v (.int .u32 (avInt (cellAt (obCells (cellAt r0 0)) 5)))), (.v (.int .u64 (avInt (cellAt (obCells (cellAt r0 0)) 6)))), (.v (.int .i64 (avInt (cellAt (obCells (cellAt r0 0)) 7)))), (.v (.int .i64 (avInt (cellAt (obCells (cellAt r0 0)) 8))))])]).bind fun r80 =>
                              cond (isB (cellAt r80 0))
                               ((ev 20 [(.agg [(.v (.int .u32 (avInt (cellAt (obCells (cellAt r0 0)) 0)))), (.v (.int .i64 (avInt (cellAt (obCells (cellAt r0 0)) 1)))), (.v (.int .i64 (avInt (cellAt (obCells (cellAt r0 0)) 2)))), (.v (.int .i64 (avInt (cellAt (obCells (cellAt r0 0)) 3)))), (.v (.bool (avBool (cellAt (obCells (cellAt r0 0)) 4)))), (.v (.int .u32 (avInt (cellAt (obCells (cellAt r0 0)) 5)))), (.v (.int .u64 (avInt (cellAt (obCells (cellAt r0 0)) 6)))), (.v (.int .i64 (avInt (cellAt (obCells (cellAt r0 0)) 7)))), (.v (.int .i64 (avInt (cellAt (obCells (cellAt r0 0)) 8))))])]).bind fun r82 =>
                                cond ((Ev.isAgg 9 (cellAt r82 0)) && ((isI .u32 (cellAt (obCells (cellAt r82 0)) 0)) && ((isI .i64 (cellAt (obCells (cellAt r82 0)) 1)) && ((isI .i64 (cellAt (obCells (cellAt r82 0)) 2)) && ((isI .i64 (cellAt (obCells (cellAt r82 0)) 3)) && ((isB (cellAt (obCells (cellAt r82 0)) 4)) && ((isI .u32 (cellAt (obCells (cellAt r82 0)) 5)) && ((isI .u64 (cellAt (obCells (cellAt r82 0)) 6)) && ((isI .i64 (cellAt (obCells (cellAt r82 0)) 7)) && (isI .i64 (cellAt (obCells (cellAt r82 0)) 8)))))))))))
                                 ((ev 22 [(.agg [(.v (.int .u32 (avInt (cellAt (obCells (cellAt r82 0)) 0)))), (.v (.int .i64 (avInt (cellAt (obCells (cellAt r82 0)) 1)))), (.v (.int .i64 (avInt (cellAt (obCells (cellAt r82 0)) 2)))), (.v (.int .i64 (avInt (cellAt (obCells (cellAt r82 0)) 3)))), (.v (.bool (avBool (cellAt (obCells (cellAt r82 0)) 4)))), (.v (.int .u32 (avInt (cellAt (obCells (cellAt r82 0)) 5)))), (.v (.int .u64 (avInt (cellAt (obCells (cellAt r82 0)) 6)))), (.v (.int .i64 (avInt (cellAt (obCells (cellAt r82 0)) 7)))), (.v (.int .i64 (avInt (cellAt (obCells (cellAt r82 0)) 8))))])]).bind fun r92 =>
                                  cond (isB (cellAt r92 0))
                                   (cond (!((avBool (cellAt r80 0)) == (avBool (cellAt r92 0))))
                                     (some [(.v (.bool false))])
                                     ((ev 20 [(.agg [(.v (.int .u32 (avInt (cellAt (obCells (cellAt r23 0)) 0)))), (.v (.int .i64 (avInt (cellAt (obCells (cellAt r23 0)) 1)))), (.v (.int .i64 (avInt (cellAt (obCells (cellAt r23 0)) 2)))), (.v (.int .i64 (avInt (cellAt (obCells (cellAt r23 0)) 3)))), (.v (.bool (avBool (cellAt (obCells (cellAt r23 0)) 4)))), (.v (.int .u32 (avInt (cellAt (obCells (cellAt r23 0)) 5)))), (.v (.int .u64 (avInt (cellAt (obCells (cellAt r23 0)) 6)))), (.v (.int .i64 (avInt (cellAt (obCells (cellAt r23 0)) 7)))), (.v (.int .i64 (avInt (cellAt (obCells (cellAt r23 0)) 8))))])]).bind fun r95 =>
                                      cond ((Ev.isAgg 9 (cellAt r95 0)) && ((isI .u32 (cellAt (obCells (cellAt r95 0)) 0)) && ((isI .i64 (cellAt (obCells (cellAt r95 0)) 1)) && ((isI .i64 (cellAt (obCells (cellAt r95 0)) 2)) && ((isI .i64 (cellAt (obCells (cellAt r95 0)) 3)) && ((isB (cellAt (obCells (cellAt r95 0)) 4)) && ((isI .u32 (cellAt (obCells (cellAt r95 0)) 5)) && ((isI .u64 (cellAt (obCells (cellAt r95 0)) 6)) && ((isI .i64 (cellAt (obCells (cellAt r95 0)) 7)) && (isI .i64 (cellAt (obCells (cellAt r95 0)) 8)))))))))))
                                       (cond (!(((avInt (cellAt (obCells (cellAt r95 0)) 0)) == (avInt (cellAt (obCells (cellAt r34 0)) 0))) && (((avInt (cellAt (obCells (cellAt r95 0)) 1)) == (avInt (cellAt (obCells (cellAt r34 0)) 1))) && (((avInt (cellAt (obCells (cellAt r95 0)) 2)) == (avInt (cellAt (obCells (cellAt r34 0)) 2))) && (((avInt (cellAt (obCells (cellAt r95 0)) 3)) == (avInt (cellAt (obCells (cellAt r34 0)) 3))) && (((avBool (cellAt (obCells (cellAt r95 0)) 4)) == (avBool (cellAt (obCells (cellAt r34 0)) 4))) && (((avInt (cellAt (obCells (cellAt r95 0)) 5)) == (avInt (cellAt (obCells (cellAt r34 0)) 5))) && (((avInt (cellAt (obCells (cellAt r95 0)) 6)) == (avInt (cellAt (obCells (cellAt r34 0)) 6))) && (((avInt (cellAt (obCells (cellAt r95 0)) 7)) == (avInt (cellAt (obCells (cellAt r34 0)) 7))) && ((avInt (cellAt (obCells (cellAt r95 0)) 8)) == (avInt (cellAt (obCells (cellAt r34 0)) 8))))))))))))
                                         (some [(.v (.bool false))])
                                         (cond (!((avInt (cellAt r23 1)) == (avInt (cellAt r34 1))))
                                           (some [(.v (.bool false))])
                                           ((ev 23 [(.agg [(.v (.int .i64 (avInt (cellAt (obCells (cellAt r45 0)) 0)))), (.v (.int .u64 (avInt (cellAt (obCells (cellAt r45 0)) 1)))), (.v (.int .u64 (avInt (cellAt (obCells (cellAt r45 0)) 2)))), (.v (.int .u64 (avInt (cellAt (obCells (cellAt r45 0)) 3)))), (.v (.int .u64 (avInt (cellAt (obCells (cellAt r45 0)) 4)))), (.v (.int .u64 (avInt (cellAt (obCells (cellAt r45 0)) 5)))), (.v (.int .u64 (avInt (cellAt (obCells (cellAt r45 0)) 6)))), (.v (.int .u64 (avInt (cellAt (obCells (cellAt r45 0)) 7)))), (.v (.int .u64 (avInt (cellAt (obCells (cellAt r45 0)) 8))))]), (.agg [(.v (.int .i64 (avInt (cellAt (obCells (cellAt r66 0)) 0)))), (.v (.int .u64 (avInt (cellAt (obCells (cellAt r66 0)) 1)))), (.v (.int .u64 (avInt (cellAt (obCells (cellAt r66 0)) 2)))), (.v (.int .u64 (avInt (cellAt (obCells (cellAt r66 0)) 3)))), (.v (.int .u64 (avInt (cellAt (obCells (cellAt r66 0)) 4)))), (.v (.int .u64 (avInt (cellAt (obCells (cellAt r66 0)) 5)))), (.v (.int .u64 (avInt (cellAt (obCells (cellAt r66 0)) 6)))), (.v (.int .u64 (avInt (cellAt (obCells (cellAt r66 0)) 7)))), (.v (.int .u64 (avInt (cellAt (obCells (cellAt r66 0)) 8))))])]).bind fun r107 =>
                                            cond (isB (cellAt r107 0))
                                             (cond (!(avBool (cellAt r107 0)))
                                               (some [(.v (.bool false))])
                                               (cond (!((avInt (cellAt r45 1)) == (avInt (cellAt r66 1))))
                                                 (some [(.v (.bool false))])
                                                 (cond (!((avInt (cellAt r45 1)) == 0))
                                                   (some [(.v (.bool true))])
                                                   ((ev 9 [(.v (.int .i64 (IntKind.wrap .i64 (Int.tdiv a2_0 12)))), (.v (.int .i64 7))]).bind fun r114 =>
                                                    cond (isI .i64 (cellAt r114 0))
                                                     (cond ((leI 0 (avInt (cellAt r114 0))) && (ltI (avInt (cellAt r114 0)) 7))
                                                       (cond (ltI (Int.tmod (IntKind.wrap .u64 (Int.tdiv a3_0 81)) 64) 0)
                                                         (none)
                                                         (cond ((leI 0 (avInt (cellAt r114 0))) && (ltI (avInt (cellAt r114 0)) 7))
                                                           ((ev 16 [(.agg [(.v (.int .i64 (avInt (cellAt (obCells (cellAt r45 0)) 0)))), (.v (.int .u64 (avInt (cellAt (obCells (cellAt r45 0)) 1)))), (.v (.int .u64 (cond (Nat.beq (Int.toNat (avInt (cellAt r114 0))) 0) (bits .xor .u64 (cond (Nat.beq (Int.toNat (avInt (cellAt r114 0))) 0) (avInt (cellAt (obCells (cellAt r45 0)) 2)) (cond (Nat.beq (Int.toNat (avInt (cellAt r114 0))) 1) (avInt (cellAt (obCells (cellAt r45 0)) 3)) (cond (Nat.beq (Int.toNat (avInt (cellAt r114 0))) 2) (avInt (cellAt (obCells (cellAt r45 0)) 4)) (cond (Nat.beq (Int.toNat (avInt (cellAt r114 0))) 3) (avInt (cellAt (obCells (cellAt r45 0)) 5)) (cond (Nat.beq (Int.toNat (avInt (cellAt r114 0))) 4) (avInt (cellAt (obCells (cellAt r45 0)) 6)) (cond (Nat.beq (Int.toNat (avInt (cellAt r114 0))) 5) (avInt (cellAt (obCells (cellAt r45 0)) 7)) (avInt (cellAt (obCells (cellAt r45 0)) 8)))))))) (IntKind.wrap .u64 (1 * (2 ^ (min (Int.toNat (Int.tmod (IntKind.wrap .u64 (Int.tdiv a3_0 81)) 64)) 64))))) (avInt (cellAt (obCells (cellAt r45 0)) 2))))), (.v (.int .u64 (cond (Nat.beq (Int.toNat (avInt (cellAt r114 0))) 1) (bits .xor .u64 (cond (Nat.beq (Int.toNat (avInt (cellAt r114 0))) 0) (avInt (cellAt (obCells (cellAt r45 0)) 2)) (cond (Nat.beq (Int.toNat (avInt (cellAt r114 0))) 1) (avInt (cellAt (obCells (cellAt r45 0)) 3)) (cond (Nat.beq (Int.toNat (avInt (cellAt r114 0))) 2) (avInt (cellAt (obCells (cellAt r45 0)) 4)) (cond (Nat.beq (Int.toNat (avInt (cellAt r114 0))) 3) (avInt (cellAt (obCells (cellAt r45 0)) 5)) (cond (Nat.beq (Int.toNat (avInt (cellAt r114 0))) 4) (avInt (cellAt (obCells (cellAt r45 0)) 6)) (cond (Nat.beq (Int.toNat (avInt (cellAt r114 0))) 5) (avInt (cellAt (obCells (cellAt r45 0)) 7)) (avInt (cellAt (obCells (cellAt r45 0)) 8)))))))) (IntKind.wrap .u64 (1 * (2 ^ (min (Int.toNat (Int.tmod (IntKind.wrap .u64 (Int.tdiv a3_0 81)) 64)) 64))))) (avInt (cellAt (obCells (cellAt r45 0)) 3))))), (.v (.int .u64 (cond (Nat.beq (Int.toNat (avInt (cellAt r114 0))) 2) (bits .xor .u64 (cond (Nat.beq (Int.toNat (avInt (cellAt r114 0))) 0) (avInt (cellAt (obCells (cellAt r45 0)) 2)) (cond (Nat.beq (Int.toNat (avInt (cellAt r114 0))) 1) (avInt (cellAt (obCells (cellAt r45 0)) 3)) (cond (Nat.beq (Int.toNat (avInt (cellAt r114 0))) 2) (avInt (cellAt (obCells (cellAt r45 0)) 4)) (cond (Nat.beq (Int.toNat (avInt (cellAt r114 0))) 3) (avInt (cellAt (obCells (cellAt r45 0)) 5)) (cond (Nat.beq (Int.toNat (avInt (cellAt r114 0))) 4) (avInt (cellAt (obCells (cellAt r45 0)) 6)) (cond (Nat.beq (Int.toNat (avInt (cellAt r114 0))) 5) (avInt (cellAt (obCells (cellAt r45 0)) 7)) (avInt (cellAt (obCells (cellAt r45 0)) 8)))))))) (IntKind.wrap .u64 (1 * (2 ^ (min (Int.toNat (Int.tmod (IntKind.wrap .u64 (Int.tdiv a3_0 81)) 64)) 64))))) (avInt (cellAt (obCells (cellAt r45 0)) 4))))), (.v (.int .u64 (cond (Nat.beq (Int.toNat (avInt (cellAt r114 0))) 3) (bits .xor .u64 (cond (Nat.beq (Int.toNat (avInt (cellAt r114 0))) 0) (avInt (cellAt (obCells (cellAt r45 0)) 2)) (cond (Nat.beq (Int.toNat (avInt (cellAt r114 0))) 1) (avInt (cellAt (obCells (cellAt r45 0)) 3)) (cond (Nat.beq (Int.toNat (avInt (cellAt r114 0))) 2) (avInt (cellAt (obCells (cellAt r45 0)) 4)) (cond (Nat.beq (Int.toNat (avInt (cellAt r114 0))) 3) (avInt (cellAt (obCells (cellAt r45 0)) 5)) (cond (Nat.beq (Int.toNat (avInt (cellAt r114 0))) 4) (avInt (cellAt (obCells (cellAt r45 0)) 6)) (cond (Nat.beq (Int.toNat (avInt (cellAt r114 0))) 5) (avInt (cellAt (obCells (cellAt r45 0)) 7)) (avInt (cellAt (obCells (cellAt r45 0)) 8)))))))) (IntKind.wrap .u64 (1 * (2 ^ (min (Int.toNat (Int.tmod (IntKind.wrap .u64 (Int.tdiv a3_0 81)) 64)) 64))))) (avInt (cellAt (obCells (cellAt r45 0)) 5))))), (.v (.int .u64 (cond (Nat.beq (Int.toNat (avInt (cellAt r114 0))) 4) (bits .xor .u64 (cond (Nat.beq (Int.toNat (avInt (cellAt r114 0))) 0) (avInt (cellAt (obCells (cellAt r45 0)) 2)) (cond (Nat.beq (Int.toNat (avInt (cellAt r114 0))) 1) (avInt (cellAt (obCells (cellAt r45 0)) 3)) (cond (Nat.beq (Int.toNat (avInt (cellAt r114 0))) 2) (avInt (cellAt (obCells (cellAt r45 0)) 4)) (cond (Nat.beq (Int.toNat (avInt (cellAt r114 0))) 3) (avInt (cellAt (obCells (cellAt r45 0)) 5)) (cond (Nat.beq (Int.toNat (avInt (cellAt r114 0))) 4) (avInt (cellAt (obCells (cellAt r45 0)) 6)) (cond (Nat.beq (Int.toNat (avInt (cellAt r114 0))) 5) (avInt (cellAt (obCells (cellAt r45 0)) 7)) (avInt (cellAt (obCells (cellAt r45 0)) 8)))))))) (IntKind.wrap .u64 (1 * (2 ^ (min (Int.toNat (Int.tmod (IntKind.wrap .u64 (Int.tdiv a3_0 81)) 64)) 64))))) (avInt (cellAt (obCells (cellAt r45 0)) 6))))), (.v (.int .u64 (cond (Nat.beq (Int.toNat (avInt (cellAt r114 0))) 5) (bits .xor .u64 (cond (Nat.beq (Int.toNat (avInt (cellAt r114 0))) 0) (avInt (cellAt (obCells (cellAt r45 0)) 2)) (cond (Nat.beq (Int.toNat (avInt (cellAt r114 0))) 1) (avInt (cellAt (obCells (cellAt r45 0)) 3)) (cond (Nat.beq (Int.toNat (avInt (cellAt r114 0))) 2) (avInt (cellAt (obCells (cellAt r45 0)) 4)) (cond (Nat.beq (Int.toNat (avInt (cellAt r114 0))) 3) (avInt (cellAt (obCells (cellAt r45 0)) 5)) (cond (Nat.beq (Int.toNat (avInt (cellAt r114 0))) 4) (avInt (cellAt (obCells (cellAt r45 0)) 6)) (cond (Nat.beq (Int.toNat (avInt (cellAt r114 0))) 5) (avInt (cellAt (obCells (cellAt r45 0)) 7)) (avInt (cellAt (obCells (cellAt r45 0)) 8)))))))) (IntKind.wrap .u64 (1 * (2 ^ (min (Int.toNat (Int.tmod (IntKind.wrap .u64 (Int.tdiv a3_0 81)) 64)) 64))))) (avInt (cellAt (obCells (cellAt r45 0)) 7))))), (.v (.int .u64 (cond (Nat.beq (Int.toNat (avInt (cellAt r114 0))) 6) (bits .xor .u64 (cond (Nat.beq (Int.toNat (avInt (cellAt r114 0))) 0) (avInt (cellAt (obCells (cellAt r45 0)) 2)) (cond (Nat.beq (Int.toNat (avInt (cellAt r114 0))) 1) (avInt (cellAt (obCells (cellAt r45 0)) 3)) (cond (Nat.beq (Int.toNat (avInt (cellAt r114 0))) 2) (avInt (cellAt (obCells (cellAt r45 0)) 4)) (cond (Nat.beq (Int.toNat (avInt (cellAt r114 0))) 3) (avInt (cellAt (obCells (cellAt r45 0)) 5)) (cond (Nat.beq (Int.toNat (avInt (cellAt r114 0))) 4) (avInt (cellAt (obCells (cellAt r45 0)) 6)) (cond (Nat.beq (Int.toNat (avInt (cellAt r114 0))) 5) (avInt (cellAt (obCells (cellAt r45 0)) 7)) (avInt (cellAt (obCells (cellAt r45 0)) 8)))))))) (IntKind.wrap .u64 (1 * (2 ^ (min (Int.toNat (Int.tmod (IntKind.wrap .u64 (Int.tdiv a3_0 81)) 64)) 64))))) (avInt (cellAt (obCells (cellAt r45 0)) 8)))))])]).bind fun r130 =>
                                                            cond ((Ev.isAgg 9 (cellAt r130 0)) && ((isI .u32 (cellAt (obCells (cellAt r130 0)) 0)) && ((isI .i64 (cellAt (obCells (cellAt r130 0)) 1)) && ((isI .i64 (cellAt (obCells (cellAt r130 0)) 2)) && ((isI .i64 (cellAt (obCells (cellAt r130 0)) 3)) && ((isB (cellAt (obCells (cellAt r130 0)) 4)) && ((isI .u32 (cellAt (obCells (cellAt r130 0)) 5)) && ((isI .u64 (cellAt (obCells (cellAt r130 0)) 6)) && ((isI .i64 (cellAt (obCells (cellAt r130 0)) 7)) && (isI .i64 (cellAt (obCells (cellAt r130 0)) 8)))))))))))
                                                             (cond (isI .i64 (cellAt r130 1))
                                                               ((ev 17 [(.agg [(.v (.int .i64 (avInt (cellAt (obCells (cellAt r45 0)) 0)))), (.v (.int .u64 (avInt (cellAt (obCells (cellAt r45 0)) 1)))), (.v (.int .u64 (cond (Nat.beq (Int.toNat (avInt (cellAt r114 0))) 0) (bits .xor .u64 (cond (Nat.beq (Int.toNat (avInt (cellAt r114 0))) 0) (avInt (cellAt (obCells (cellAt r45 0)) 2)) (cond (Nat.beq (Int.toNat (avInt (cellAt r114 0))) 1) (avInt (cellAt (obCells (cellAt r45 0)) 3)) (cond (Nat.beq (Int.toNat (avInt (cellAt r114 0))) 2) (avInt (cellAt (obCells (cellAt r45 0)) 4)) (cond (Nat.beq (Int.toNat (avInt (cellAt r114 0))) 3) (avInt (cellAt (obCells (cellAt r45 0)) 5)) (cond (Nat.beq (Int.toNat (avInt (cellAt r114 0))) 4) (avInt (cellAt (obCells (cellAt r45 0)) 6)) (cond (Nat.beq (Int.toNat (avInt (cellAt r114 0))) 5) (avInt (cellAt (obCells (cellAt r45 0)) 7)) (avInt (cellAt (obCells (cellAt r45 0)) 8)))))))) (IntKind.wrap .u64 (1 * (2 ^ (min (Int.toNat (Int.tmod (IntKind.wrap .u64 (Int.tdiv a3_0 81)) 64)) 64))))) (avInt (cellAt (obCells (cellAt r45 0)) 2))))), (.v (.int .u64 (cond (Nat.beq (Int.toNat (avInt (cellAt r114 0))) 1) (bits .xor .u64 (cond (Nat.beq (Int.toNat (avInt (cellAt r114 0))) 0) (avInt (cellAt (obCells (cellAt r45 0)) 2)) (cond (Nat.beq (Int.toNat (avInt (cellAt r114 0))) 1) (avInt (cellAt (obCells (cellAt r45 0)) 3)) (cond (Nat.beq (Int.toNat (avInt (cellAt r114 0))) 2) (avInt (cellAt (obCells (cellAt r45 0)) 4)) (cond (Nat.beq (Int.toNat (avInt (cellAt r114 0))) 3) (avInt (cellAt (obCells (cellAt r45 0)) 5)) (cond (Nat.beq (Int.toNat (avInt (cellAt r114 0))) 4) (avInt (cellAt (obCells (cellAt r45 0)) 6)) (cond (Nat.beq (Int.toNat (avInt (cellAt r114 0))) 5) (avInt (cellAt (obCells (cellAt r45 0)) 7)) (avInt (cellAt (obCells (cellAt r45 0)) 8)))))))) (IntKind.wrap .u64 (1 * (2 ^ (min (Int.toNat (Int.tmod (IntKind.wrap .u64 (Int.tdiv a3_0 81)) 64)) 64))))) (avInt (cellAt (obCells (cellAt r45 0)) 3))))), (.v (.int .u64 (cond (Nat.beq (Int.toNat (avInt (cellAt r114 0))) 2) (bits .xor .u64 (cond (Nat.beq (Int.toNat (avInt (cellAt r114 0))) 0) (avInt (cellAt (obCells (cellAt r45 0)) 2)) (cond (Nat.beq (Int.toNat (avInt (cellAt r114 0))) 1) (avInt (cellAt (obCells (cellAt r45 0)) 3)) (cond (Nat.beq (Int.toNat (avInt (cellAt r114 0))) 2) (avInt (cellAt (obCells (cellAt r45 0)) 4)) (cond (Nat.beq (Int.toNat (avInt (cellAt r114 0))) 3) (avInt (cellAt (obCells (cellAt r45 0)) 5)) (cond (Nat.beq (Int.toNat (avInt (cellAt r114 0))) 4) (avInt (cellAt (obCells (cellAt r45 0)) 6)) (cond (Nat.beq (Int.toNat (avInt (cellAt r114 0))) 5) (avInt (cellAt (obCells (cellAt r45 0)) 7)) (avInt (cellAt (obCells (cellAt r45 0)) 8)))))))) (IntKind.wrap .u64 (1 * (2 ^ (min (Int.toNat (Int.tmod (IntKind.wrap .u64 (Int.tdiv a3_0 81)) 64)) 64))))) (avInt (cellAt (obCells (cellAt r45 0)) 4))))), (.v (.int .u64 (cond (Nat.beq (Int.toNat (avInt (cellAt r114 0))) 3) (bits .xor .u64 (cond (Nat.beq (Int.toNat (avInt (cellAt r114 0))) 0) (avInt (cellAt (obCells (cellAt r45 0)) 2)) (cond (Nat.beq (Int.toNat (avInt (cellAt r114 0))) 1) (avInt (cellAt (obCells (cellAt r45 0)) 3)) (cond (Nat.beq (Int.toNat (avInt (cellAt r114 0))) 2) (avInt (cellAt (obCells (cellAt r45 0)) 4)) (cond (Nat.beq (Int.toNat (avInt (cellAt r114 0))) 3) (avInt (cellAt (obCells (cellAt r45 0)) 5)) (cond (Nat.beq (Int.toNat (avInt (cellAt r114 0))) 4) (avInt (cellAt (obCells (cellAt r45 0)) 6)) (cond (Nat.beq (Int.toNat (avInt (cellAt r114 0))) 5) (avInt (cellAt (obCells (cellAt r45 0)) 7)) (avInt (cellAt (obCells (cellAt r45 0)) 8)))))))) (IntKind.wrap .u64 (1 * (2 ^ (min (Int.toNat (Int.tmod (IntKind.wrap .u64 (Int.tdiv a3_0 81)) 64)) 64))))) (avInt (cellAt (obCells (cellAt r45 0)) 5))))), (.v (.int .u64 (cond (Nat.beq (Int.toNat (avInt (cellAt r114 0))) 4) (bits .xor .u64 (cond (Nat.beq (Int.toNat (avInt (cellAt r114 0))) 0) (avInt (cellAt (obCells (cellAt r45 0)) 2)) (cond (Nat.beq (Int.toNat (avInt (cellAt r114 0))) 1) (avInt (cellAt (obCells (cellAt r45 0)) 3)) (cond (Nat.beq (Int.toNat (avInt (cellAt r114 0))) 2) (avInt (cellAt (obCells (cellAt r45 0)) 4)) (cond (Nat.beq (Int.toNat (avInt (cellAt r114 0))) 3) (avInt (cellAt (obCells (cellAt r45 0)) 5)) (cond (Nat.beq (Int.toNat (avInt (cellAt r114 0))) 4) (avInt (cellAt (obCells (cellAt r45 0)) 6)) (cond (Nat.beq (Int.toNat (avInt (cellAt r114 0))) 5) (avInt (cellAt (obCells (cellAt r45 0)) 7)) (avInt (cellAt (obCells (cellAt r45 0)) 8)))))))) (IntKind.wrap .u64 (1 * (2 ^ (min (Int.toNat (Int.tmod (IntKind.wrap .u64 (Int.tdiv a3_0 81)) 64)) 64))))) (avInt (cellAt (obCells (cellAt r45 0)) 6))))), (.v (.int .u64 (cond (Nat.beq (Int.toNat (avInt (cellAt r114 0))) 5) (bits .xor .u64 (cond (Nat.beq (Int.toNat (avInt (cellAt r114 0))) 0) (avInt (cellAt (obCells (cellAt r45 0)) 2)) (cond (Nat.beq (Int.toNat (avInt (cellAt r114 0))) 1) (avInt (cellAt (obCells (cellAt r45 0)) 3)) (cond (Nat.beq (Int.toNat (avInt (cellAt r114 0))) 2) (avInt (cellAt (obCells (cellAt r45 0)) 4)) (cond (Nat.beq (Int.toNat (avInt (cellAt r114 0))) 3) (avInt (cellAt (obCells (cellAt r45 0)) 5)) (cond (Nat.beq (Int.toNat (avInt (cellAt r114 0))) 4) (avInt (cellAt (obCells (cellAt r45 0)) 6)) (cond (Nat.beq (Int.toNat (avInt (cellAt r114 0))) 5) (avInt (cellAt (obCells (cellAt r45 0)) 7)) (avInt (cellAt (obCells (cellAt r45 0)) 8)))))))) (IntKind.wrap .u64 (1 * (2 ^ (min (Int.toNat (Int.tmod (IntKind.wrap .u64 (Int.tdiv a3_0 81)) 64)) 64))))) (avInt (cellAt (obCells (cellAt r45 0)) 7))))), (.v (.int .u64 (cond (Nat.beq (Int.toNat (avInt (cellAt r114 0))) 6) (bits .xor .u64 (cond (Nat.beq (Int.toNat (avInt (cellAt r114 0))) 0) (avInt (cellAt (obCells (cellAt r45 0)) 2)) (cond (Nat.beq (Int.toNat (avInt (cellAt r114 0))) 1) (avInt (cellAt (obCells (cellAt r45 0)) 3)) (cond (Nat.beq (Int.toNat (avInt (cellAt r114 0))) 2) (avInt (cellAt (obCells (cellAt r45 0)) 4)) (cond (Nat.beq (Int.toNat (avInt (cellAt r114 0))) 3) (avInt (cellAt (obCells (cellAt r45 0)) 5)) (cond (Nat.beq (Int.toNat (avInt (cellAt r114 0))) 4) (avInt (cellAt (obCells (cellAt r45 0)) 6)) (cond (Nat.beq (Int.toNat (avInt (cellAt r114 0))) 5) (avInt (cellAt (obCells (cellAt r45 0)) 7)) (avInt (cellAt (obCells (cellAt r45 0)) 8)))))))) (IntKind.wrap .u64 (1 * (2 ^ (min (Int.toNat (Int.tmod (IntKind.wrap .u64 (Int.tdiv a3_0 81)) 64)) 64))))) (avInt (cellAt (obCells (cellAt r45 0)) 8)))))])]).bind fun r141 =>
                                                                cond ((Ev.isAgg 9 (cellAt r141 0)) && ((isI .u32 (cellAt (obCells (cellAt r141 0)) 0)) && ((isI .i64 (cellAt (obCells (cellAt r141 0)) 1)) && ((isI .i64 (cellAt (obCells (cellAt r141 0)) 2)) && ((isI .i64 (cellAt (obCells (cellAt r141 0)) 3)) && ((isB (cellAt (obCells (cellAt r141 0)) 4)) && ((isI .u32 (cellAt (obCells (cellAt r141 0)) 5)) && ((isI .u64 (cellAt (obCells (cellAt r141 0)) 6)) && ((isI .i64 (cellAt (obCells (cellAt r141 0)) 7)) && (isI .i64 (cellAt (obCells (cellAt r141 0)) 8)))))))))))
                                                                 (cond (isI .i64 (cellAt r141 1))
                                                                   ((ev 20 [(.agg [(.v (.int .u32 (avInt (cellAt (obCells (cellAt r130 0)) 0)))), (.v (.int .i64 (avInt (cellAt (obCells (cellAt r130 0)) 1)))), (.v (.int .i64 (avInt (cellAt (obCells (cellAt r130 0)) 2)))), (.v (.int .i64 (avInt (cellAt (obCells (cellAt r130 0)) 3)))), (.v (.bool (avBool (cellAt (obCells (cellAt r130 0)) 4)))), (.v (.int .u32 (avInt (cellAt (obCells (cellAt r130 0)) 5)))), (.v (.int .u64 (avInt (cellAt (obCells (cellAt r130 0)) 6)))), (.v (.int .i64 (avInt (cellAt (obCells (cellAt r130 0)) 7)))), (.v (.int .i64 (avInt (cellAt (obCells (cellAt r130 0)) 8))))])]).bind fun r152 =>
                                                                    cond ((Ev.isAgg 9 (cellAt r152 0)) && ((isI .u32 (cellAt (obCells (cellAt r152 0)) 0)) && ((isI .i64 (cellAt (obCells (cellAt r152 0)) 1)) && ((isI .i64 (cellAt (obCells (cellAt r152 0)) 2)) && ((isI .i64 (cellAt (obCells (cellAt r152 0)) 3)) && ((isB (cellAt (obCells (cellAt r152 0)) 4)) && ((isI .u32 (cellAt (obCells (cellAt r152 0)) 5)) && ((isI .u64 (cellAt (obCells (cellAt r152 0)) 6)) && ((isI .i64 (cellAt (obCells (cellAt r152 0)) 7)) && (isI .i64 (cellAt (obCells (cellAt r152 0)) 8)))))))))))
                                                                     (cond (((avInt (cellAt (obCells (cellAt r152 0)) 0)) == (avInt (cellAt (obCells (cellAt r141 0)) 0))) && (((avInt (cellAt (obCells (cellAt r152 0)) 1)) == (avInt (cellAt (obCells (cellAt r141 0)) 1))) && (((avInt (cellAt (obCells (cellAt r152 0)) 2)) == (avInt (cellAt (obCells (cellAt r141 0)) 2))) && (((avInt (cellAt (obCells (cellAt r152 0)) 3)) == (avInt (cellAt (obCells (cellAt r141 0)) 3))) && (((avBool (cellAt (obCells (cellAt r152 0)) 4)) == (avBool (cellAt (obCells (cellAt r141 0)) 4))) && (((avInt (cellAt (obCells (cellAt r152 0)) 5)) == (avInt (cellAt (obCells (cellAt r141 0)) 5))) && (((avInt (cellAt (obCells (cellAt r152 0)) 6)) == (avInt (cellAt (obCells (cellAt r141 0)) 6))) && (((avInt (cellAt (obCells (cellAt r152 0)) 7)) == (avInt (cellAt (obCells (cellAt r141 0)) 7))) && ((avInt (cellAt (obCells (cellAt r152 0)) 8)) == (avInt (cellAt (obCells (cellAt r141 0)) 8)))))))))))
                                                                       (some [(.v (.bool ((avInt (cellAt r130 1)) == (avInt (cellAt r141 1)))))])
                                                                       (some [(.v (.bool false))]))
                                                                     (none))
                                                                   (none))
                                                                 (none))
                                                               (none))
                                                             (none))
                                                           (none)))
                                                       (none))
                                                     (none)))))
                                             (none))))
                                       (none)))
                                   (none))
                                 (none))
                               (none)))
                           (none))
                         (none))
                       (none))
                     (none))
                   (none))
                 (none))
               (none))
             (none))
           (none))
         (none))
       ((ev 16 [(.agg [(.v (.int .i64 a0_0)), (.v (.int .u64 a0_1)), (.v (.int .u64 a0_2)), (.v (.int .u64 a0_3)), (.v (.int .u64 a0_4)), (.v (.int .u64 a0_5)), (.v (.int .u64 a0_6)), (.v (.int .u64 a0_7)), (.v (.int .u64 a0_8))])]).bind fun r165 =>
        cond ((Ev.isAgg 9 (cellAt r165 0)) && ((isI .u32 (cellAt (obCells (cellAt r165 0)) 0)) && ((isI .i64 (cellAt (obCells (cellAt r165 0)) 1)) && ((isI .i64 (cellAt (obCells (cellAt r165 0)) 2)) && ((isI .i64 (cellAt (obCells (cellAt r165 0)) 3)) && ((isB (cellAt (obCells (cellAt r165 0)) 4)) && ((isI .u32 (cellAt (obCells (cellAt r165 0)) 5)) && ((isI .u64 (cellAt (obCells (cellAt r165 0)) 6)) && ((isI .i64 (cellAt (obCells (cellAt r165 0)) 7)) && (isI .i64 (cellAt (obCells (cellAt r165 0)) 8)))))))))))
         (cond (isI .i64 (cellAt r165 1))
           ((ev 17 [(.agg [(.v (.int .i64 a0_0)), (.v (.int .u64 a0_1)), (.v (.int .u64 a0_2)), (.v (.int .u64 a0_3)), (.v (.int .u64 a0_4)), (.v (.int .u64 a0_5)), (.v (.int .u64 a0_6)), (.v (.int .u64 a0_7)), (.v (.int .u64 a0_8))])]).bind fun r176 =>
            cond ((Ev.isAgg 9 (cellAt r176 0)) && ((isI .u32 (cellAt (obCells (cellAt r176 0)) 0)) && ((isI .i64 (cellAt (obCells (cellAt r176 0)) 1)) && ((isI .i64 (cellAt (obCells (cellAt r176 0)) 2)) && ((isI .i64 (cellAt (obCells (cellAt r176 0)) 3)) && ((isB (cellAt (obCells (cellAt r176 0)) 4)) && ((isI .u32 (cellAt (obCells (cellAt r176 0)) 5)) && ((isI .u64 (cellAt (obCells (cellAt r176 0)) 6)) && ((isI .i64 (cellAt (obCells (cellAt r176 0)) 7)) && (isI .i64 (cellAt (obCells (cellAt r176 0)) 8)))))))))))
             (cond (isI .i64 (cellAt r176 1))
               ((ev 18 [(.agg [(.v (.int .i64 a0_0)), (.v (.int .u64 a0_1)), (.v (.int .u64 a0_2)), (.v (.int .u64 a0_3)), (.v (.int .u64 a0_4)), (.v (.int .u64 a0_5)), (.v (.int .u64 a0_6)), (.v (.int .u64 a0_7)), (.v (.int .u64 a0_8))]), (.agg [(.v (.int .u32 (avInt (cellAt (obCells (cellAt r0 0)) 0)))), (.v (.int .i64 (avInt (cellAt (obCells (cellAt r0 0)) 1)))), (.v (.int .i64 (avInt (cellAt (obCells (cellAt r0 0)) 2)))), (.v (.int .i64 (avInt (cellAt (obCells (cellAt r0 0)) 3)))), (.v (.bool (avBool (cellAt (obCells (cellAt r0 0)) 4)))), (.v (.int .u32 (avInt (cellAt (obCells (cellAt r0 0)) 5)))), (.v (.int .u64 (avInt (cellAt (obCells (cellAt r0 0)) 6)))), (.v (.int .i64 (avInt (cellAt (obCells (cellAt r0 0)) 7)))), (.v (.int .i64 (avInt (cellAt (obCells (cellAt r0 0)) 8))))])]).bind fun r187 =>
                cond ((Ev.isAgg 9 (cellAt r187 0)) && ((isI .i64 (cellAt (obCells (cellAt r187 0)) 0)) && ((isI .u64 (cellAt (obCells (cellAt r187 0)) 1)) && ((isI .u64 (cellAt (obCells (cellAt r187 0)) 2)) && ((isI .u64 (cellAt (obCells (cellAt r187 0)) 3)) && ((isI .u64 (cellAt (obCells (cellAt r187 0)) 4)) && ((isI .u64 (cellAt (obCells (cellAt r187 0)) 5)) && ((isI .u64 (cellAt (obCells (cellAt r187 0)) 6)) && ((isI .u64 (cellAt (obCells (cellAt r187 0)) 7)) && (isI .u64 (cellAt (obCells (cellAt r187 0)) 8)))))))))))
                 (cond (isI .i64 (cellAt r187 1))
                   ((ev 20 [(.agg [(.v (.int .u32 (avInt (cellAt (obCells (cellAt r0 0)) 0)))), (.v (.int .i64 (avInt (cellAt (obCells (cellAt r0 0)) 1)))), (.v (.int .i64 (avInt (cellAt (obCells (cellAt r0 0)) 2)))), (.v (.int .i64 (avInt (cellAt (obCells (cellAt r0 0)) 3)))), (.v (.bool (avBool (cellAt (obCells (cellAt r0 0)) 4)))), (.v (.int .u32 (avInt (cellAt (obCells (cellAt r0 0)) 5)))), (.v (.int .u64 (avInt (cellAt (obCells (cellAt r0 0)) 6)))), (.v (.int .i64 (avInt (cellAt (obCells (cellAt r0 0)) 7)))), (.v (.int .i64 (avInt (cellAt (obCells (cellAt r0 0)) 8))))])]).bind fun r198 =>
                    cond ((Ev.isAgg 9 (cellAt r198 0)) && ((isI .u32 (cellAt (obCells (cellAt r198 0)) 0)) && ((isI .i64 (cellAt (obCells (cellAt r198 0)) 1)) && ((isI .i64 (cellAt (obCells (cellAt r198 0)) 2)) && ((isI .i64 (cellAt (obCells (cellAt r198 0)) 3)) && ((isB (cellAt (obCells (cellAt r198 0)) 4)) && ((isI .u32 (cellAt (obCells (cellAt r198 0)) 5)) && ((isI .u64 (cellAt (obCells (cellAt r198 0)) 6)) && ((isI .i64 (cellAt (obCells (cellAt r198 0)) 7)) && (isI .i64 (cellAt (obCells (cellAt r198 0)) 8)))))))))))
                     ((ev 19 [(.agg [(.v (.int .i64 a0_0)), (.v (.int .u64 a0_1)), (.v (.int .u64 a0_2)), (.v (.int .u64 a0_3)), (.v (.int .u64 a0_4)), (.v (.int .u64 a0_5)), (.v (.int .u64 a0_6)), (.v (.int .u64 a0_7)), (.v (.int .u64 a0_8))]), (.agg [(.v (.int .u32 (avInt (cellAt (obCells (cellAt r198 0)) 0)))), (.v (.int .i64 (avInt (cellAt (obCells (cellAt r198 0)) 1)))), (.v (.int .i64 (avInt (cellAt (obCells (cellAt r198 0)) 2)))), (.v (.int .i64 (avInt (cellAt (obCells (cellAt r198 0)) 3)))), (.v (.bool (avBool (cellAt (obCells (cellAt r198 0)) 4)))), (.v (.int .u32 (avInt (cellAt (obCells (cellAt r198 0)) 5)))), (.v (.int .u64 (avInt (cellAt (obCells (cellAt r198 0)) 6)))), (.v (.int .i64 (avInt (cellAt (obCells (cellAt r198 0)) 7)))), (.v (.int .i64 (avInt (cellAt (obCells (cellAt r198 0)) 8))))])]).bind fun r208 =>
                      cond ((Ev.isAgg 9 (cellAt r208 0)) && ((isI .i64 (cellAt (obCells (cellAt r208 0)) 0)) && ((isI .u64 (cellAt (obCells (cellAt r208 0)) 1)) && ((isI .u64 (cellAt (obCells (cellAt r208 0)) 2)) && ((isI .u64 (cellAt (obCells (cellAt r208 0)) 3)) && ((isI .u64 (cellAt (obCells (cellAt r208 0)) 4)) && ((isI .u64 (cellAt (obCells (cellAt r208 0)) 5)) && ((isI .u64 (cellAt (obCells (cellAt r208 0)) 6)) && ((isI .u64 (cellAt (obCells (cellAt r208 0)) 7)) && (isI .u64 (cellAt (obCells (cellAt r208 0)) 8)))))))))))
                       (cond (isI .i64 (cellAt r208 1))
                         ((ev 12 []).bind fun r219 =>
                          cond (isB (cellAt r219 0))
                           (cond (!(avBool (cellAt r219 0)))
                             (some [(.v (.bool false))])
                             ((ev 21 [(.agg [(.v (.int .u32 (avInt (cellAt (obCells (cellAt r0 0)) 0)))), (.v (.int .i64 (avInt (cellAt (obCells (cellAt r0 0)) 1)))), (.v (.int .i64 (avInt (cellAt (obCells (cellAt r0 0)) 2)))), (.v (.int .i64 (avInt (cellAt (obCells (cellAt r0 0)) 3)))), (.v (.bool (avBool (cellAt (obCells (cellAt r0 0)) 4)))), (.v (.int .u32 (avInt (cellAt (obCells (cellAt r0 0)) 5)))), (.v (.int .u64 (avInt (cellAt (obCells (cellAt r0 0)) 6)))), (.v (.int .i64 (avInt (cellAt (obCells (cellAt r0 0)) 7)))), (.v (.int .i64 (avInt (cellAt (obCells (cellAt r0 0)) 8))))])]).bind fun r222 =>
                              cond (isB (cellAt r222 0))
                               ((ev 20 [(.agg [(.v (.int .u32 (avInt (cellAt (obCells (cellAt r0 0)) 0)))), (.v (.int .i64 (avInt (cellAt (obCells (cellAt r0 0)) 1)))), (.v (.int .i64 (avInt (cellAt (obCells (cellAt r0 0)) 2)))), (.v (.int .i64 (avInt (cellAt (obCells (cellAt r0 0)) 3)))), (.v (.bool (avBool (cellAt (obCells (cellAt r0 0)) 4)))), (.v (.int .u32 (avInt (cellAt (obCells (cellAt r0 0)) 5)))), (.v (.int .u64 (avInt (cellAt (obCells (cellAt r0 0)) 6)))), (.v (.int .i64 (avInt (cellAt (obCells (cellAt r0 0)) 7)))), (.v (.int .i64 (avInt (cellAt (obCells (cellAt r0 0)) 8))))])]).bind fun r224 =>
                                cond ((Ev.isAgg 9 (cellAt r224 0)) && ((isI .u32 (cellAt (obCells (cellAt r224 0)) 0)) && ((isI .i64 (cellAt (obCells (cellAt r224 0)) 1)) && ((isI .i64 (cellAt (obCells (cellAt r224 0)) 2)) && ((isI .i64 (cellAt (obCells (cellAt r224 0)) 3)) && ((isB (cellAt (obCells (cellAt r224 0)) 4)) && ((isI .u32 (cellAt (obCells (cellAt r224 0)) 5)) && ((isI .u64 (cellAt (obCells (cellAt r224 0)) 6)) && ((isI .i64 (cellAt (obCells (cellAt r224 0)) 7)) && (isI .i64 (cellAt (obCells (cellAt r224 0)) 8)))))))))))
                                 ((ev 22 [(.agg [(.v (.int .u32 (avInt (cellAt (obCells (cellAt r224 0)) 0)))), (.v (.int .i64 (avInt (cellAt (obCells (cellAt r224 0)) 1)))), (.v (.int .i64 (avInt (cellAt (obCells (cellAt r224 0)) 2)))), (.v (.int .i64 (avInt (cellAt (obCells (cellAt r224 0)) 3)))), (.v (.bool (avBool (cellAt (obCells (cellAt r224 0)) 4)))), (.v (.int .u32 (avInt (cellAt (obCells (cellAt r224 0)) 5)))), (.v (.int .u64 (avInt (cellAt (obCells (cellAt r224 0)) 6)))), (.v (.int .i64 (avInt (cellAt (obCells (cellAt r224 0)) 7)))), (.v (.int .i64 (avInt (cellAt (obCells (cellAt r224 0)) 8))))])]).bind fun r234 =>
                                  cond (isB (cellAt r234 0))
                                   (cond (!((avBool (cellAt r222 0)) == (avBool (cellAt r234 0))))
                                     (some [(.v (.bool false))])
                                     ((ev 20 [(.agg [(.v (.int .u32 (avInt (cellAt (obCells (cellAt r165 0)) 0)))), (.v (.int .i64 (avInt (cellAt (obCells (cellAt r165 0)) 1)))), (.v (.int .i64 (avInt (cellAt (obCells (cellAt r165 0)) 2)))), (.v (.int .i64 (avInt (cellAt (obCells (cellAt r165 0)) 3)))), (.v (.bool (avBool (cellAt (obCells (cellAt r165 0)) 4)))), (.v (.int .u32 (avInt (cellAt (obCells (cellAt r165 0)) 5)))), (.v (.int .u64 (avInt (cellAt (obCells (cellAt r165 0)) 6)))), (.v (.int .i64 (avInt (cellAt (obCells (cellAt r165 0)) 7)))), (.v (.int .i64 (avInt (cellAt (obCells (cellAt r165 0)) 8))))])]).bind fun r237 =>
                                      cond ((Ev.isAgg 9 (cellAt r237 0)) && ((isI .u32 (cellAt (obCells (cellAt r237 0)) 0)) && ((isI .i64 (cellAt (obCells (cellAt r237 0)) 1)) && ((isI .i64 (cellAt (obCells (cellAt r237 0)) 2)) && ((isI .i64 (cellAt (obCells (cellAt r237 0)) 3)) && ((isB (cellAt (obCells (cellAt r237 0)) 4)) && ((isI .u32 (cellAt (obCells (cellAt r237 0)) 5)) && ((isI .u64 (cellAt (obCells (cellAt r237 0)) 6)) && ((isI .i64 (cellAt (obCells (cellAt r237 0)) 7)) && (isI .i64 (cellAt (obCells (cellAt r237 0)) 8)))))))))))
                                       (cond (!(((avInt (cellAt (obCells (cellAt r237 0)) 0)) == (avInt (cellAt (obCells (cellAt r176 0)) 0))) && (((avInt (cellAt (obCells (cellAt r237 0)) 1)) == (avInt (cellAt (obCells (cellAt r176 0)) 1))) && (((avInt (cellAt (obCells (cellAt r237 0)) 2)) == (avInt (cellAt (obCells (cellAt r176 0)) 2))) && (((avInt (cellAt (obCells (cellAt r237 0)) 3)) == (avInt (cellAt (obCells (cellAt r176 0)) 3))) && (((avBool (cellAt (obCells (cellAt r237 0)) 4)) == (avBool (cellAt (obCells (cellAt r176 0)) 4))) && (((avInt (cellAt (obCells (cellAt r237 0)) 5)) == (avInt (cellAt (obCells (cellAt r176 0)) 5))) && (((avInt (cellAt (obCells (cellAt r237 0)) 6)) == (avInt (cellAt (obCells (cellAt r176 0)) 6))) && (((avInt (cellAt (obCells (cellAt r237 0)) 7)) == (avInt (cellAt (obCells (cellAt r176 0)) 7))) && ((avInt (cellAt (obCells (cellAt r237 0)) 8)) == (avInt (cellAt (obCells (cellAt r176 0)) 8))))))))))))
                                         (some [(.v (.bool false))])
                                         (cond (!((avInt (cellAt r165 1)) == (avInt (cellAt r176 1))))
                                           (some [(.v (.bool false))])
                                           ((ev 23 [(.agg [(.v (.int .i64 (avInt (cellAt (obCells (cellAt r187 0)) 0)))), (.v (.int .u64 (avInt (cellAt (obCells (cellAt r187 0)) 1)))), (.v (.int .u64 (avInt (cellAt (obCells (cellAt r187 0)) 2)))), (.v (.int .u64 (avInt (cellAt (obCells (cellAt r187 0)) 3)))), (.v (.int .u64 (avInt (cellAt (obCells (cellAt r187 0)) 4)))), (.v (.int .u64 (avInt (cellAt (obCells (cellAt r187 0)) 5)))), (.v (.int .u64 (avInt (cellAt (obCells (cellAt r187 0)) 6)))), (.v (.int .u64 (avInt (cellAt (obCells (cellAt r187 0)) 7)))), (.v (.int .u64 (avInt (cellAt (obCells (cellAt r187 0)) 8))))]), (.agg [(.v (.int .i64 (avInt (cellAt (obCells (cellAt r208 0)) 0)))), (.v (.int .u64 (avInt (cellAt (obCells (cellAt r208 0)) 1)))), (.v (.int .u64 (avInt (cellAt (obCells (cellAt r208 0)) 2)))), (.v (.int .u64 (avInt (cellAt (obCells (cellAt r208 0)) 3)))), (.v (.int .u64 (avInt (cellAt (obCells (cellAt r208 0)) 4)))), (.v (.int .u64 (avInt (cellAt (obCells (cellAt r208 0)) 5)))), (.v (.int .u64 (avInt (cellAt (obCells (cellAt r208 0)) 6)))), (.v (.int .u64 (avInt (cellAt (obCells (cellAt r208 0)) 7)))), (.v (.int .u64 (avInt (cellAt (obCells (cellAt r208 0)) 8))))])]).bind fun r249 =>
                                            cond (isB (cellAt r249 0))
                                             (cond (!(avBool (cellAt r249 0)))
                                               (some [(.v (.bool false))])
                                               (cond (!((avInt (cellAt r187 1)) == (avInt (cellAt r208 1))))
                                                 (some [(.v (.bool false))])
                                                 (cond (!((avInt (cellAt r187 1)) == 0))
                                                   (some [(.v (.bool true))])
                                                   ((ev 9 [(.v (.int .i64 (IntKind.wrap .i64 (Int.tdiv a2_0 12)))), (.v (.int .i64 7))]).bind fun r256 =>
                                                    cond (isI .i64 (cellAt r256 0))
                                                     (cond ((leI 0 (avInt (cellAt r256 0))) && (ltI (avInt (cellAt r256 0)) 7))
                                                       (cond (ltI (Int.tmod (IntKind.wrap .u64 (Int.tdiv a3_0 81)) 64) 0)
                                                         (none)
                                                         (cond ((leI 0 (avInt (cellAt r256 0))) && (ltI (avInt (cellAt r256 0)) 7))
                                                           ((ev 16 [(.agg [(.v (.int .i64 (avInt (cellAt (obCells (cellAt r187 0)) 0)))), (.v (.int .u64 (avInt (cellAt (obCells (cellAt r187 0)) 1)))), (.v (.int .u64 (cond (Nat.beq (Int.toNat (avInt (cellAt r256 0))) 0) (bits .xor .u64 (cond (Nat.beq (Int.toNat (avInt (cellAt r256 0))) 0) (avInt (cellAt (obCells (cellAt r187 0)) 2)) (cond (Nat.beq (Int.toNat (avInt (cellAt r256 0))) 1) (avInt (cellAt (obCells (cellAt r187 0)) 3)) (cond (Nat.beq (Int.toNat (avInt (cellAt r256 0))) 2) (avInt (cellAt (obCells (cellAt r187 0)) 4)) (cond (Nat.beq (Int.toNat (avInt (cellAt r256 0))) 3) (avInt (cellAt (obCells (cellAt r187 0)) 5)) (cond (Nat.beq (Int.toNat (avInt (cellAt r256 0))) 4) (avInt (cellAt (obCells (cellAt r187 0)) 6)) (cond (Nat.beq (Int.toNat (avInt (cellAt r256 0))) 5) (avInt (cellAt (obCells (cellAt r187 0)) 7)) (avInt (cellAt (obCells (cellAt r187 0)) 8)))))))) (IntKind.wrap .u64 (1 * (2 ^ (min (Int.toNat (Int.tmod (IntKind.wrap .u64 (Int.tdiv a3_0 81)) 64)) 64))))) (avInt (cellAt (obCells (cellAt r187 0)) 2))))), (.v (.int .u64 (cond (Nat.beq (Int.toNat (avInt (cellAt r256 0))) 1) (bits .xor .u64 (cond (Nat.beq (Int.toNat (avInt (cellAt r256 0))) 0) (avInt (cellAt (obCells (cellAt r187 0)) 2)) (cond (Nat.beq (Int.toNat (avInt (cellAt r256 0))) 1) (avInt (cellAt (obCells (cellAt r187 0)) 3)) (cond (Nat.beq (Int.toNat (avInt (cellAt r256 0))) 2) (avInt (cellAt (obCells (cellAt r187 0)) 4)) (cond (Nat.beq (Int.toNat (avInt (cellAt r256 0))) 3) (avInt (cellAt (obCells (cellAt r187 0)) 5)) (cond (Nat.beq (Int.toNat (avInt (cellAt r256 0))) 4) (avInt (cellAt (obCells (cellAt r187 0)) 6)) (cond (Nat.beq (Int.toNat (avInt (cellAt r256 0))) 5) (avInt (cellAt (obCells (cellAt r187 0)) 7)) (avInt (cellAt (obCells (cellAt r187 0)) 8)))))))) (IntKind.wrap .u64 (1 * (2 ^ (min (Int.toNat (Int.tmod (IntKind.wrap .u64 (Int.tdiv a3_0 81)) 64)) 64))))) (avInt (cellAt (obCells (cellAt r187 0)) 3))))), (.v (.int .u64 (cond (Nat.beq (Int.toNat (avInt (cellAt r256 0))) 2) (bits .xor .u64 (cond (Nat.beq (Int.toNat (avInt (cellAt r256 0))) 0) (avInt (cellAt (obCells (cellAt r187 0)) 2)) (cond (Nat.beq (Int.toNat (avInt (cellAt r256 0))) 1) (avInt (cellAt (obCells (cellAt r187 0)) 3)) (cond (Nat.beq (Int.toNat (avInt (cellAt r256 0))) 2) (avInt (cellAt (obCells (cellAt r187 0)) 4)) (cond (Nat.beq (Int.toNat (avInt (cellAt r256 0))) 3) (avInt (cellAt (obCells (cellAt r187 0)) 5)) (cond (Nat.beq (Int.toNat (avInt (cellAt r256 0))) 4) (avInt (cellAt (obCells (cellAt r187 0)) 6)) (cond (Nat.beq (Int.toNat (avInt (cellAt r256 0))) 5) (avInt (cellAt (obCells (cellAt r187 0)) 7)) (avInt (cellAt (obCells (cellAt r187 0)) 8)))))))) (IntKind.wrap .u64 (1 * (2 ^ (min (Int.toNat (Int.tmod (IntKind.wrap .u64 (Int.tdiv a3_0 81)) 64)) 64))))) (avInt (cellAt (obCells (cellAt r187 0)) 4))))), (.v (.int .u64 (cond (Nat.beq (Int.toNat (avInt (cellAt r256 0))) 3) (bits .xor .u64 (cond (Nat.beq (Int.toNat (avInt (cellAt r256 0))) 0) (avInt (cellAt (obCells (cellAt r187 0)) 2)) (cond (Nat.beq (Int.toNat (avInt (cellAt r256 0))) 1) (avInt (cellAt (obCells (cellAt r187 0)) 3)) (cond (Nat.beq (Int.toNat (avInt (cellAt r256 0))) 2) (avInt (cellAt (obCells (cellAt r187 0)) 4)) (cond (Nat.beq (Int.toNat (avInt (cellAt r256 0))) 3) (avInt (cellAt (obCells (cellAt r187 0)) 5)) (cond (Nat.beq (Int.toNat (avInt (cellAt r256 0))) 4) (avInt (cellAt (obCells (cellAt r187 0)) 6)) (cond (Nat.beq (Int.toNat (avInt (cellAt r256 0))) 5) (avInt (cellAt (obCells (cellAt r187 0)) 7)) (avInt (cellAt (obCells (cellAt r187 0)) 8)))))))) (IntKind.wrap .u64 (1 * (2 ^ (min (Int.toNat (Int.tmod (IntKind.wrap .u64 (Int.tdiv a3_0 81)) 64)) 64))))) (avInt (cellAt (obCells (cellAt r187 0)) 5))))), (.v (.int .u64 (cond (Nat.beq (Int.toNat (avInt (cellAt r256 0))) 4) (bits .xor .u64 (cond (Nat.beq (Int.toNat (avInt (cellAt r256 0))) 0) (avInt (cellAt (obCells (cellAt r187 0)) 2)) (cond (Nat.beq (Int.toNat (avInt (cellAt r256 0))) 1) (avInt (cellAt (obCells (cellAt r187 0)) 3)) (cond (Nat.beq (Int.toNat (avInt (cellAt r256 0))) 2) (avInt (cellAt (obCells (cellAt r187 0)) 4)) (cond (Nat.beq (Int.toNat (avInt (cellAt r256 0))) 3) (avInt (cellAt (obCells (cellAt r187 0)) 5)) (cond (Nat.beq (Int.toNat (avInt (cellAt r256 0))) 4) (avInt (cellAt (obCells (cellAt r187 0)) 6)) (cond (Nat.beq (Int.toNat (avInt (cellAt r256 0))) 5) (avInt (cellAt (obCells (cellAt r187 0)) 7)) (avInt (cellAt (obCells (cellAt r187 0)) 8)))))))) (IntKind.wrap .u64 (1 * (2 ^ (min (Int.toNat (Int.tmod (IntKind.wrap .u64 (Int.tdiv a3_0 81)) 64)) 64))))) (avInt (cellAt (obCells (cellAt r187 0)) 6))))), (.v (.int .u64 (cond (Nat.beq (Int.toNat (avInt (cellAt r256 0))) 5) (bits .xor .u64 (cond (Nat.beq (Int.toNat (avInt (cellAt r256 0))) 0) (avInt (cellAt (obCells (cellAt r187 0)) 2)) (cond (Nat.beq (Int.toNat (avInt (cellAt r256 0))) 1) (avInt (cellAt (obCells (cellAt r187 0)) 3)) (cond (Nat.beq (Int.toNat (avInt (cellAt r256 0))) 2) (avInt (cellAt (obCells (cellAt r187 0)) 4)) (cond (Nat.beq (Int.toNat (avInt (cellAt r256 0))) 3) (avInt (cellAt (obCells (cellAt r187 0)) 5)) (cond (Nat.beq (Int.toNat (avInt (cellAt r256 0))) 4) (avInt (cellAt (obCells (cellAt r187 0)) 6)) (cond (Nat.beq (Int.toNat (avInt (cellAt r256 0))) 5) (avInt (cellAt (obCells (cellAt r187 0)) 7)) (avInt (cellAt (obCells (cellAt r187 0)) 8)))))))) (IntKind.wrap .u64 (1 * (2 ^ (min (Int.toNat (Int.tmod (IntKind.wrap .u64 (Int.tdiv a3_0 81)) 64)) 64))))) (avInt (cellAt (obCells (cellAt r187 0)) 7))))), (.v (.int .u64 (cond (Nat.beq (Int.toNat (avInt (cellAt r256 0))) 6) (bits .xor .u64 (cond (Nat.beq (Int.toNat (avInt (cellAt r256 0))) 0) (avInt (cellAt (obCells (cellAt r187 0)) 2)) (cond (Nat.beq (Int.toNat (avInt (cellAt r256 0))) 1) (avInt (cellAt (obCells (cellAt r187 0)) 3)) (cond (Nat.beq (Int.toNat (avInt (cellAt r256 0))) 2) (avInt (cellAt (obCells (cellAt r187 0)) 4)) (cond (Nat.beq (Int.toNat (avInt (cellAt r256 0))) 3) (avInt (cellAt (obCells (cellAt r187 0)) 5)) (cond (Nat.beq (Int.toNat (avInt (cellAt r256 0))) 4) (avInt (cellAt (obCells (cellAt r187 0)) 6)) (cond (Nat.beq (Int.toNat (avInt (cellAt r256 0))) 5) (avInt (cellAt (obCells (cellAt r187 0)) 7)) (avInt (cellAt (obCells (cellAt r187 0)) 8)))))))) (IntKind.wrap .u64 (1 * (2 ^ (min (Int.toNat (Int.tmod (IntKind.wrap .u64 (Int.tdiv a3_0 81)) 64)) 64))))) (avInt (cellAt (obCells (cellAt r187 0)) 8)))))])]).bind fun r272 =>
                                                            cond ((Ev.isAgg 9 (cellAt r272 0)) && ((isI .u32 (cellAt (obCells (cellAt r272 0)) 0)) && ((isI .i64 (cellAt (obCells (cellAt r272 0)) 1)) && ((isI .i64 (cellAt (obCells (cellAt r272 0)) 2)) && ((isI .i64 (cellAt (obCells (cellAt r272 0)) 3)) && ((isB (cellAt (obCells (cellAt r272 0)) 4)) && ((isI .u32 (cellAt (obCells (cellAt r272 0)) 5)) && ((isI .u64 (cellAt (obCells (cellAt r272 0)) 6)) && ((isI .i64 (cellAt (obCells (cellAt r272 0)) 7)) && (isI .i64 (cellAt (obCells (cellAt r272 0)) 8)))))))))))
                                                             (cond (isI .i64 (cellAt r272 1))
                                                               ((ev 17 [(.agg [(.v (.int .i64 (avInt (cellAt (obCells (cellAt r187 0)) 0)))), (.v (.int .u64 (avInt (cellAt (obCells (cellAt r187 0)) 1)))), (.v (.int .u64 (cond (Nat.beq (Int.toNat (avInt (cellAt r256 0))) 0) (bits .xor .u64 (cond (Nat.beq (Int.toNat (avInt (cellAt r256 0))) 0) (avInt (cellAt (obCells (cellAt r187 0)) 2)) (cond (Nat.beq (Int.toNat (avInt (cellAt r256 0))) 1) (avInt (cellAt (obCells (cellAt r187 0)) 3)) (cond (Nat.beq (Int.toNat (avInt (cellAt r256 0))) 2) (avInt (cellAt (obCells (cellAt r187 0)) 4)) (cond (Nat.beq (Int.toNat (avInt (cellAt r256 0))) 3) (avInt (cellAt (obCells (cellAt r187 0)) 5)) (cond (Nat.beq (Int.toNat (avInt (cellAt r256 0))) 4) (avInt (cellAt (obCells (cellAt r187 0)) 6)) (cond (Nat.beq (Int.toNat (avInt (cellAt r256 0))) 5) (avInt (cellAt (obCells (cellAt r187 0)) 7)) (avInt (cellAt (obCells (cellAt r187 0)) 8)))))))) (IntKind.wrap .u64 (1 * (2 ^ (min (Int.toNat (Int.tmod (IntKind.wrap .u64 (Int.tdiv a3_0 81)) 64)) 64))))) (avInt (cellAt (obCells (cellAt r187 0)) 2))))), (.v (.int .u64 (cond (Nat.beq (Int.toNat (avInt (cellAt r256 0))) 1) (bits .xor .u64 (cond (Nat.beq (Int.toNat (avInt (cellAt r256 0))) 0) (avInt (cellAt (obCells (cellAt r187 0)) 2)) (cond (Nat.beq (Int.toNat (avInt (cellAt r256 0))) 1) (avInt (cellAt (obCells (cellAt r187 0)) 3)) (cond (Nat.beq (Int.toNat (avInt (cellAt r256 0))) 2) (avInt (cellAt (obCells (cellAt r187 0)) 4)) (cond (Nat.beq (Int.toNat (avInt (cellAt r256 0))) 3) (avInt (cellAt (obCells (cellAt r187 0)) 5)) (cond (Nat.beq (Int.toNat (avInt (cellAt r256 0))) 4) (avInt (cellAt (obCells (cellAt r187 0)) 6)) (cond (Nat.beq (Int.toNat (avInt (cellAt r256 0))) 5) (avInt (cellAt (obCells (cellAt r187 0)) 7)) (avInt (cellAt (obCells (cellAt r187 0)) 8)))))))) (IntKind.wrap .u64 (1 * (2 ^ (min (Int.toNat (Int.tmod (IntKind.wrap .u64 (Int.tdiv a3_0 81)) 64)) 64))))) (avInt (cellAt (obCells (cellAt r187 0)) 3))))), (.v (.int .u64 (cond (Nat.beq (Int.toNat (avInt (cellAt r256 0))) 2) (bits .xor .u64 (cond (Nat.beq (Int.toNat (avInt (cellAt r256 0))) 0) (avInt (cellAt (obCells (cellAt r187 0)) 2)) (cond (Nat.beq (Int.toNat (avInt (cellAt r256 0))) 1) (avInt (cellAt (obCells (cellAt r187 0)) 3)) (cond (Nat.beq (Int.toNat (avInt (cellAt r256 0))) 2) (avInt (cellAt (obCells (cellAt r187 0)) 4)) (cond (Nat.beq (Int.toNat (avInt (cellAt r256 0))) 3) (avInt (cellAt (obCells (cellAt r187 0)) 5)) (cond (Nat.beq (Int.toNat (avInt (cellAt r256 0))) 4) (avInt (cellAt (obCells (cellAt r187 0)) 6)) (cond (Nat.beq (Int.toNat (avInt (cellAt r256 0))) 5) (avInt (cellAt (obCells (cellAt r187 0)) 7)) (avInt (cellAt (obCells (cellAt r187 0)) 8)))))))) (IntKind.wrap .u64 (1 * (2 ^ (min (Int.toNat (Int.tmod (IntKind.wrap .u64 (Int.tdiv a3_0 81)) 64)) 64))))) (avInt (cellAt (obCells (cellAt r187 0)) 4))))), (.v (.int .u64 (cond (Nat.beq (Int.toNat (avInt (cellAt r256 0))) 3) (bits .xor .u64 (cond (Nat.beq (Int.toNat (avInt (cellAt r256 0))) 0) (avInt (cellAt (obCells (cellAt r187 0)) 2)) (cond (Nat.beq (Int.toNat (avInt (cellAt r256 0))) 1) (avInt (cellAt (obCells (cellAt r187 0)) 3)) (cond (Nat.beq (Int.toNat (avInt (cellAt r256 0))) 2) (avInt (cellAt (obCells (cellAt r187 0)) 4)) (cond (Nat.beq (Int.toNat (avInt (cellAt r256 0))) 3) (avInt (cellAt (obCells (cellAt r187 0)) 5)) (cond (Nat.beq (Int.toNat (avInt (cellAt r256 0))) 4) (avInt (cellAt (obCells (cellAt r187 0)) 6)) (cond (Nat.beq (Int.toNat (avInt (cellAt r256 0))) 5) (avInt (cellAt (obCells (cellAt r187 0)) 7)) (avInt (cellAt (obCells (cellAt r187 0)) 8)))))))) (IntKind.wrap .u64 (1 * (2 ^ (min (Int.toNat (Int.tmod (IntKind.wrap .u64 (Int.tdiv a3_0 81)) 64)) 64))))) (avInt (cellAt (obCells (cellAt r187 0)) 5))))), (.v (.int .u64 (cond (Nat.beq (Int.toNat (avInt (cellAt r256 0))) 4) (bits .xor .u64 (cond (Nat.beq (Int.toNat (avInt (cellAt r256 0))) 0) (avInt (cellAt (obCells (cellAt r187 0)) 2)) (cond (Nat.beq (Int.toNat (avInt (cellAt r256 0))) 1) (avInt (cellAt (obCells (cellAt r187 0)) 3)) (cond (Nat.beq (Int.toNat (avInt (cellAt r256 0))) 2) (avInt (cellAt (obCells (cellAt r187 0)) 4)) (cond (Nat.beq (Int.toNat (avInt (cellAt r256 0))) 3) (avInt (cellAt (obCells (cellAt r187 0)) 5)) (cond (Nat.beq (Int.toNat (avInt (cellAt r256 0))) 4) (avInt (cellAt (obCells (cellAt r187 0)) 6)) (cond (Nat.beq (Int.toNat (avInt (cellAt r256 0))) 5) (avInt (cellAt (obCells (cellAt r187 0)) 7)) (avInt (cellAt (obCells (cellAt r187 0)) 8)))))))) (IntKind.wrap .u64 (1 * (2 ^ (min (Int.toNat (Int.tmod (IntKind.wrap .u64 (Int.tdiv a3_0 81)) 64)) 64))))) (avInt (cellAt (obCells (cellAt r187 0)) 6))))), (.v (.int .u64 (cond (Nat.beq (Int.toNat (avInt (cellAt r256 0))) 5) (bits .xor .u64 (cond (Nat.beq (Int.toNat (avInt (cellAt r256 0))) 0) (avInt (cellAt (obCells (cellAt r187 0)) 2)) (cond (Nat.beq (Int.toNat (avInt (cellAt r256 0))) 1) (avInt (cellAt (obCells (cellAt r187 0)) 3)) (cond (Nat.beq (Int.toNat (avInt (cellAt r256 0))) 2) (avInt (cellAt (obCells (cellAt r187 0)) 4)) (cond (Nat.beq (Int.toNat (avInt (cellAt r256 0))) 3) (avInt (cellAt (obCells (cellAt r187 0)) 5)) (cond (Nat.beq (Int.toNat (avInt (cellAt r256 0))) 4) (avInt (cellAt (obCells (cellAt r187 0)) 6)) (cond (Nat.beq (Int.toNat (avInt (cellAt r256 0))) 5) (avInt (cellAt (obCells (cellAt r187 0)) 7)) (avInt (cellAt (obCells (cellAt r187 0)) 8)))))))) (IntKind.wrap .u64 (1 * (2 ^ (min (Int.toNat (Int.tmod (IntKind.wrap .u64 (Int.tdiv a3_0 81)) 64)) 64))))) (avInt (cellAt (obCells (cellAt r187 0)) 7))))), (.v (.int .u64 (cond (Nat.beq (Int.toNat (avInt (cellAt r256 0))) 6) (bits .xor .u64 (cond (Nat.beq (Int.toNat (avInt (cellAt r256 0))) 0) (avInt (cellAt (obCells (cellAt r187 0)) 2)) (cond (Nat.beq (Int.toNat (avInt (cellAt r256 0))) 1) (avInt (cellAt (obCells (cellAt r187 0)) 3)) (cond (Nat.beq (Int.toNat (avInt (cellAt r256 0))) 2) (avInt (cellAt (obCells (cellAt r187 0)) 4)) (cond (Nat.beq (Int.toNat (avInt (cellAt r256 0))) 3) (avInt (cellAt (obCells (cellAt r187 0)) 5)) (cond (Nat.beq (Int.toNat (avInt (cellAt r256 0))) 4) (avInt (cellAt (obCells (cellAt r187 0)) 6)) (cond (Nat.beq (Int.toNat (avInt (cellAt r256 0))) 5) (avInt (cellAt (obCells (cellAt r187 0)) 7)) (avInt (cellAt (obCells (cellAt r187 0)) 8)))))))) (IntKind.wrap .u64 (1 * (2 ^ (min (Int.toNat (Int.tmod (IntKind.wrap .u64 (Int.tdiv a3_0 81)) 64)) 64))))) (avInt (cellAt (obCells (cellAt r187 0)) 8)))))])]).bind fun r283 =>
                                                                cond ((Ev.isAgg 9 (cellAt r283 0)) && ((isI .u32 (cellAt (obCells (cellAt r283 0)) 0)) && ((isI .i64 (cellAt (obCells (cellAt r283 0)) 1)) && ((isI .i64 (cellAt (obCells (cellAt r283 0)) 2)) && ((isI .i64 (cellAt (obCells (cellAt r283 0)) 3)) && ((isB (cellAt (obCells (cellAt r283 0)) 4)) && ((isI .u32 (cellAt (obCells (cellAt r283 0)) 5)) && ((isI .u64 (cellAt (obCells (cellAt r283 0)) 6)) && ((isI .i64 (cellAt (obCells (cellAt r283 0)) 7)) && (isI .i64 (cellAt (obCells (cellAt r283 0)) 8)))))))))))
                                                                 (cond (isI .i64 (cellAt r283 1))
                                                                   ((ev 20 [(.agg [(.v (.int .u32 (avInt (cellAt (obCells (cellAt r272 0)) 0)))), (.v (.int .i64 (avInt (cellAt (obCells (cellAt r272 0)) 1)))), (.v (.int .i64 (avInt (cellAt (obCells (cellAt r272 0)) 2)))), (.v (.int .i64 (avInt (cellAt (obCells (cellAt r272 0)) 3)))), (.v (.bool (avBool (cellAt (obCells (cellAt r272 0)) 4)))), (.v (.int .u32 (avInt (cellAt (obCells (cellAt r272 0)) 5)))), (.v (.int .u64 (avInt (cellAt (obCells (cellAt r272 0)) 6)))), (.v (.int .i64 (avInt (cellAt (obCells (cellAt r272 0)) 7)))), (.v (.int .i64 (avInt (cellAt (obCells (cellAt r272 0)) 8))))])]).bind fun r294 =>
                                                                    cond ((Ev.isAgg 9 (cellAt r294 0)) && ((isI .u32 (cellAt (obCells (cellAt r294 0)) 0)) && ((isI .i64 (cellAt (obCells (cellAt r294 0)) 1)) && ((isI .i64 (cellAt (obCells (cellAt r294 0)) 2)) && ((isI .i64 (cellAt (obCells (cellAt r294 0)) 3)) && ((isB (cellAt (obCells (cellAt r294 0)) 4)) && ((isI .u32 (cellAt (obCells (cellAt r294 0)) 5)) && ((isI .u64 (cellAt (obCells (cellAt r294 0)) 6)) && ((isI .i64 (cellAt (obCells (cellAt r294 0)) 7)) && (isI .i64 (cellAt (obCells (cellAt r294 0)) 8)))))))))))
                                                                     (cond (((avInt (cellAt (obCells (cellAt r294 0)) 0)) == (avInt (cellAt (obCells (cellAt r283 0)) 0))) && (((avInt (cellAt (obCells (cellAt r294 0)) 1)) == (avInt (cellAt (obCells (cellAt r283 0)) 1))) && (((avInt (cellAt (obCells (cellAt r294 0)) 2)) == (avInt (cellAt (obCells (cellAt r283 0)) 2))) && (((avInt (cellAt (obCells (cellAt r294 0)) 3)) == (avInt (cellAt (obCells (cellAt r283 0)) 3))) && (((avBool (cellAt (obCells (cellAt r294 0)) 4)) == (avBool (cellAt (obCells (cellAt r283 0)) 4))) && (((avInt (cellAt (obCells (cellAt r294 0)) 5)) == (avInt (cellAt (obCells (cellAt r283 0)) 5))) && (((avInt (cellAt (obCells (cellAt r294 0)) 6)) == (avInt (cellAt (obCells (cellAt r283 0)) 6))) && (((avInt (cellAt (obCells (cellAt r294 0)) 7)) == (avInt (cellAt (obCells (cellAt r283 0)) 7))) && ((avInt (cellAt (obCells (cellAt r294 0)) 8)) == (avInt (cellAt (obCells (cellAt r283 0)) 8)))))))))))
                                                                       (some [(.v (.bool ((avInt (cellAt r272 1)) == (avInt (cellAt r283 1)))))])
                                                                       (some [(.v (.bool false))]))
                                                                     (none))
                                                                   (none))
                                                                 (none))
                                                               (none))
                                                             (none))
                                                           (none)))
                                                       (none))
                                                     (none)))))
                                             (none))))
                                       (none)))
                                   (none))
                                 (none))
                               (none)))
                           (none))
                         (none))
                       (none))
                     (none))
                   (none))
                 (none))
               (none))
             (none))
           (none))
         (none)))
     (none))
   (none) := (ev_eq _ _).trans (by kernel_rfl)
-- "bodega/bodegalaw21.RecordRound"
theorem ev6 (a0_0 : Int) (a0_1 : Int) (a0_2 : Int) (a0_3 : Int) (a0_4 : Int) (a0_5 : Int) (a0_6 : Int) (a0_7 : Int) (a0_8 : Int) (a1_0 : Int) (a1_1 : Int) (a1_2 : Int) (a1_3 : Int) (a1_4 : Bool) (a1_5 : Int) (a1_6 : Int) (a1_7 : Int) (a1_8 : Int) (a2_0 : Int) : ev 6 [(.agg [(.v (.int .i64 a0_0)), (.v (.int .u64 a0_1)), (.v (.int .u64 a0_2)), (.v (.int .u64 a0_3)), (.v (.int .u64 a0_4)), (.v (.int .u64 a0_5)), (.v (.int .u64 a0_6)), (.v (.int .u64 a0_7)), (.v (.int .u64 a0_8))]), (.agg [(.v (.int .u32 a1_0)), (.v (.int .i64 a1_1)), (.v (.int .i64 a1_2)), (.v (.int .i64 a1_3)), (.v (.bool a1_4)), (.v (.int .u32 a1_5)), (.v (.int .u64 a1_6)), (.v (.int .i64 a1_7)), (.v (.int .i64 a1_8))]), (.v (.int .i64 a2_0))] =
  (ev 15 [(.agg [(.v (.int .u32 a1_0)), (.v (.int .i64 a1_1)), (.v (.int .i64 a1_2)), (.v (.int .i64 a1_3)), (.v (.bool a1_4)), (.v (.int .u32 a1_5)), (.v (.int .u64 a1_6)), (.v (.int .i64 a1_7)), (.v (.int .i64 a1_8))]), (.v (.int .i64 a2_0))]).bind fun r0 =>
  cond ((Ev.isAgg 9 (cellAt r0 0)) && ((isI .u32 (cellAt (obCells (cellAt r0 0)) 0)) && ((isI .i64 (cellAt (obCells (cellAt r0 0)) 1)) && ((isI .i64 (cellAt (obCells (cellAt r0 0)) 2)) && ((isI .i64 (cellAt (obCells (cellAt r0 0)) 3)) && ((isB (cellAt (obCells (cellAt r0 0)) 4)) && ((isI .u32 (cellAt (obCells (cellAt r0 0)) 5)) && ((isI .u64 (cellAt (obCells (cellAt r0 0)) 6)) && ((isI .i64 (cellAt (obCells (cellAt r0 0)) 7)) && (isI .i64 (cellAt (obCells (cellAt r0 0)) 8)))))))))))
   ((ev 9 [(.v (.int .i64 (IntKind.wrap .i64 (Int.tdiv a2_0 3)))), (.v (.int .i64 16777216))]).bind fun r11 =>
    cond (isI .i64 (cellAt r11 0))
     ((ev 24 [(.agg [(.v (.int .i64 1)), (.v (.int .i64 (avInt (cellAt r11 0)))), (.v (.int .u32 (IntKind.wrap .u32 a0_2)))])]).bind fun r14 =>
      cond (isI .u64 (cellAt r14 0))
       ((ev 18 [(.agg [(.v (.int .i64 a0_0)), (.v (.int .u64 a0_1)), (.v (.int .u64 (avInt (cellAt r14 0)))), (.v (.int .u64 a0_3)), (.v (.int .u64 a0_4)), (.v (.int .u64 a0_5)), (.v (.int .u64 a0_6)), (.v (.int .u64 a0_7)), (.v (.int .u64 a0_8))]), (.agg [(.v (.int .u32 (avInt (cellAt (obCells (cellAt r0 0)) 0)))), (.v (.int .i64 (avInt (cellAt (obCells (cellAt r0 0)) 1)))), (.v (.int .i64 (avInt (cellAt (obCells (cellAt r0 0)) 2)))), (.v (.int .i64 (avInt (cellAt (obCells (cellAt r0 0)) 3)))), (.v (.bool (avBool (cellAt (obCells (cellAt r0 0)) 4)))), (.v (.int .u32 (avInt (cellAt (obCells (cellAt r0 0)) 5)))), (.v (.int .u64 (avInt (cellAt (obCells (cellAt r0 0)) 6)))), (.v (.int .i64 (avInt (cellAt (obCells (cellAt r0 0)) 7)))), (.v (.int .i64 (avInt (cellAt (obCells (cellAt r0 0)) 8))))])]).bind fun r16 =>
        cond ((Ev.isAgg 9 (cellAt r16 0)) && ((isI .i64 (cellAt (obCells (cellAt r16 0)) 0)) && ((isI .u64 (cellAt (obCells (cellAt r16 0)) 1)) && ((isI .u64 (cellAt (obCells (cellAt r16 0)) 2)) && ((isI .u64 (cellAt (obCells (cellAt r16 0)) 3)) && ((isI .u64 (cellAt (obCells (cellAt r16 0)) 4)) && ((isI .u64 (cellAt (obCells (cellAt r16 0)) 5)) && ((isI .u64 (cellAt (obCells (cellAt r16 0)) 6)) && ((isI .u64 (cellAt (obCells (cellAt r16 0)) 7)) && (isI .u64 (cellAt (obCells (cellAt r16 0)) 8)))))))))))
         (cond (isI .i64 (cellAt r16 1))
           (cond (!((avInt (cellAt r16 1)) == 0))
             ((ev 12 []).bind fun r28 =>
              cond (isB (cellAt r28 0))
               (cond (avBool (cellAt r28 0))
                 (cond ((avInt (cellAt r16 1)) == 1)
                   ((ev 21 [(.agg [(.v (.int .u32 (avInt (cellAt (obCells (cellAt r0 0)) 0)))), (.v (.int .i64 (avInt (cellAt (obCells (cellAt r0 0)) 1)))), (.v (.int .i64 (avInt (cellAt (obCells (cellAt r0 0)) 2)))), (.v (.int .i64 (avInt (cellAt (obCells (cellAt r0 0)) 3)))), (.v (.bool (avBool (cellAt (obCells (cellAt r0 0)) 4)))), (.v (.int .u32 (avInt (cellAt (obCells (cellAt r0 0)) 5)))), (.v (.int .u64 (avInt (cellAt (obCells (cellAt r0 0)) 6)))), (.v (.int .i64 (avInt (cellAt (obCells (cellAt r0 0)) 7)))), (.v (.int .i64 (avInt (cellAt (obCells (cellAt r0 0)) 8))))])]).bind fun r31 =>
                    cond (isB (cellAt r31 0))
                     (some [(.v (.bool (!(avBool (cellAt r31 0)))))])
                     (none))
                   (some [(.v (.bool false))]))
                 (some [(.v (.bool false))]))
               (none))
             ((ev 16 [(.agg [(.v (.int .i64 (avInt (cellAt (obCells (cellAt r16 0)) 0)))), (.v (.int .u64 (avInt (cellAt (obCells (cellAt r16 0)) 1)))), (.v (.int .u64 (avInt (cellAt (obCells (cellAt r16 0)) 2)))), (.v (.int .u64 (avInt (cellAt (obCells (cellAt r16 0)) 3)))), (.v (.int .u64 (avInt (cellAt (obCells (cellAt r16 0)) 4)))), (.v (.int .u64 (avInt (cellAt (obCells (cellAt r16 0)) 5)))), (.v (.int .u64 (avInt (cellAt (obCells (cellAt r16 0)) 6)))), (.v (.int .u64 (avInt (cellAt (obCells (cellAt r16 0)) 7)))), (.v (.int .u64 (avInt (cellAt (obCells (cellAt r16 0)) 8))))])]).bind fun r35 =>
              cond ((Ev.isAgg 9 (cellAt r35 0)) && ((isI .u32 (cellAt (obCells (cellAt r35 0)) 0)) && ((isI .i64 (cellAt (obCells (cellAt r35 0)) 1)) && ((isI .i64 (cellAt (obCells (cellAt r35 0)) 2)) && ((isI .i64 (cellAt (obCells (cellAt r35 0)) 3)) && ((isB (cellAt (obCells (cellAt r35 0)) 4)) && ((isI .u32 (cellAt (obCells (cellAt r35 0)) 5)) && ((isI .u64 (cellAt (obCells (cellAt r35 0)) 6)) && ((isI .i64 (cellAt (obCells (cellAt r35 0)) 7)) && (isI .i64 (cellAt (obCells (cellAt r35 0)) 8)))))))))))
               (cond (isI .i64 (cellAt r35 1))
                 ((ev 25 [(.v (.int .u64 (avInt (cellAt (obCells (cellAt r16 0)) 2))))]).bind fun r46 =>
                  cond ((Ev.isAgg 3 (cellAt r46 0)) && ((isI .i64 (cellAt (obCells (cellAt r46 0)) 0)) && ((isI .i64 (cellAt (obCells (cellAt r46 0)) 1)) && (isI .u32 (cellAt (obCells (cellAt r46 0)) 2)))))
                   ((ev 12 []).bind fun r50 =>
                    cond (isB (cellAt r50 0))
                     (cond (avBool (cellAt r50 0))
                       (cond ((avInt (cellAt r35 1)) == 0)
                         (cond (((avInt (cellAt (obCells (cellAt r35 0)) 0)) == (avInt (cellAt (obCells (cellAt r0 0)) 0))) && (((avInt (cellAt (obCells (cellAt r35 0)) 1)) == (avInt (cellAt (obCells (cellAt r0 0)) 1))) && (((avInt (cellAt (obCells (cellAt r35 0)) 2)) == (avInt (cellAt (obCells (cellAt r0 0)) 2))) && (((avInt (cellAt (obCells (cellAt r35 0)) 3)) == (avInt (cellAt (obCells (cellAt r0 0)) 3))) && (((avBool (cellAt (obCells (cellAt r35 0)) 4)) == (avBool (cellAt (obCells (cellAt r0 0)) 4))) && (((avInt (cellAt (obCells (cellAt r35 0)) 5)) == (avInt (cellAt (obCells (cellAt r0 0)) 5))) && (((avInt (cellAt (obCells (cellAt r35 0)) 6)) == (avInt (cellAt (obCells (cellAt r0 0)) 6))) && (((avInt (cellAt (obCells (cellAt r35 0)) 7)) == (avInt (cellAt (obCells (cellAt r0 0)) 7))) && ((avInt (cellAt (obCells (cellAt r35 0)) 8)) == (avInt (cellAt (obCells (cellAt r0 0)) 8)))))))))))
                           (cond ((avInt (cellAt (obCells (cellAt r16 0)) 0)) == a0_0)
                             (cond ((avInt (cellAt (obCells (cellAt r16 0)) 1)) == a0_1)
                               (cond ((avInt (cellAt (obCells (cellAt r46 0)) 0)) == 1)
                                 ((ev 9 [(.v (.int .i64 (IntKind.wrap .i64 (Int.tdiv a2_0 3)))), (.v (.int .i64 16777216))]).bind fun r58 =>
                                  cond (isI .i64 (cellAt r58 0))
                                   (some [(.v (.bool ((avInt (cellAt (obCells (cellAt r46 0)) 1)) == (avInt (cellAt r58 0)))))])
                                   (none))
                                 (some [(.v (.bool false))]))
                               (some [(.v (.bool false))]))
                             (some [(.v (.bool false))]))
                           (some [(.v (.bool false))]))
                         (some [(.v (.bool false))]))
                       (some [(.v (.bool false))]))
                     (none))
                   (none))
                 (none))
               (none)))
           (none))
         (none))
       (none))
     (none))
   (none) := (ev_eq _ _).trans (by kernel_rfl)
-- "bodega/bodegalaw21.RecordReplaces"
theorem ev7 (a0_0 : Int) (a0_1 : Int) (a0_2 : Int) (a0_3 : Int) (a0_4 : Int) (a0_5 : Int) (a0_6 : Int) (a0_7 : Int) (a0_8 : Int) (a1_0 : Int) (a1_1 : Int) (a1_2 : Int) (a1_3 : Int) (a1_4 : Int) (a1_5 : Int) (a1_6 : Int) (a1_7 : Int) (a1_8 : Int) (a2_0 : Int) (a2_1 : Int) (a2_2 : Int) (a2_3 : Int) (a2_4 : Bool) (a2_5 : Int) (a2_6 : Int) (a2_7 : Int) (a2_8 : Int) (a3_0 : Int) (a3_1 : Int) (a3_2 : Int) (a3_3 : Int) (a3_4 : Bool) (a3_5 : Int) (a3_6 : Int) (a3_7 : Int) (a3_8 : Int) (a4_0 : Int) : ev 7 [(.agg [(.v (.int .i64 a0_0)), (.v (.int .u64 a0_1)), (.v (.int .u64 a0_2)), (.v (.int .u64 a0_3)), (.v (.int .u64 a0_4)), (.v (.int .u64 a0_5)), (.v (.int .u64 a0_6)), (.v (.int .u64 a0_7)), (.v (.int .u64 a0_8))]), (.agg [(.v (.int .i64 a1_0)), (.v (.int .u64 a1_1)), (.v (.int .u64 a1_2)), (.v (.int .u64 a1_3)), (.v (.int .u64 a1_4)), (.v (.int .u64 a1_5)), (.v (.int .u64 a1_6)), (.v (.int .u64 a1_7)), (.v (.int .u64 a1_8))]), (.agg [(.v (.int .u32 a2_0)), (.v (.int .i64 a2_1)), (.v (.int .i64 a2_2)), (.v (.int .i64 a2_3)), (.v (.bool a2_4)), (.v (.int .u32 a2_5)), (.v (.int .u64 a2_6)), (.v (.int .i64 a2_7)), (.v (.int .i64 a2_8))]), (.agg [(.v (.int .u32 a3_0)), (.v (.int .i64 a3_1)), (.v (.int .i64 a3_2)), (.v (.int .i64 a3_3)), (.v (.bool a3_4)), (.v (.int .u32 a3_5)), (.v (.int .u64 a3_6)), (.v (.int .i64 a3_7)), (.v (.int .i64 a3_8))]), (.v (.int .i64 a4_0))] =
  (ev 15 [(.agg [(.v (.int .u32 a2_0)), (.v (.int .i64 a2_1)), (.v (.int .i64 a2_2)), (.v (.int .i64 a2_3)), (.v (.bool a2_4)), (.v (.int .u32 a2_5)), (.v (.int .u64 a2_6)), (.v (.int .i64 a2_7)), (.v (.int .i64 a2_8))]), (.v (.int .i64 a4_0))]).bind fun r0 =>
  cond ((Ev.isAgg 9 (cellAt r0 0)) && ((isI .u32 (cellAt (obCells (cellAt r0 0)) 0)) && ((isI .i64 (cellAt (obCells (cellAt r0 0)) 1)) && ((isI .i64 (cellAt (obCells (cellAt r0 0)) 2)) && ((isI .i64 (cellAt (obCells (cellAt r0 0)) 3)) && ((isB (cellAt (obCells (cellAt r0 0)) 4)) && ((isI .u32 (cellAt (obCells (cellAt r0 0)) 5)) && ((isI .u64 (cellAt (obCells (cellAt r0 0)) 6)) && ((isI .i64 (cellAt (obCells (cellAt r0 0)) 7)) && (isI .i64 (cellAt (obCells (cellAt r0 0)) 8)))))))))))
   ((ev 15 [(.agg [(.v (.int .u32 a3_0)), (.v (.int .i64 a3_1)), (.v (.int .i64 a3_2)), (.v (.int .i64 a3_3)), (.v (.bool a3_4)), (.v (.int .u32 a3_5)), (.v (.int .u64 a3_6)), (.v (.int .i64 a3_7)), (.v (.int .i64 a3_8))]), (.v (.int .i64 (IntKind.wrap .i64 (Int.tdiv a4_0 3))))]).bind fun r11 =>
    cond ((Ev.isAgg 9 (cellAt r11 0)) && ((isI .u32 (cellAt (obCells (cellAt r11 0)) 0)) && ((isI .i64 (cellAt (obCells (cellAt r11 0)) 1)) && ((isI .i64 (cellAt (obCells (cellAt r11 0)) 2)) && ((isI .i64 (cellAt (obCells (cellAt r11 0)) 3)) && ((isB (cellAt (obCells (cellAt r11 0)) 4)) && ((isI .u32 (cellAt (obCells (cellAt r11 0)) 5)) && ((isI .u64 (cellAt (obCells (cellAt r11 0)) 6)) && ((isI .i64 (cellAt (obCells (cellAt r11 0)) 7)) && (isI .i64 (cellAt (obCells (cellAt r11 0)) 8)))))))))))
     ((ev 9 [(.v (.int .i64 (IntKind.wrap .i64 (Int.tdiv a4_0 9)))), (.v (.int .i64 12))]).bind fun r22 =>
      cond (isI .i64 (cellAt r22 0))
       (cond (ltI 0 (avInt (cellAt r22 0)))
         ((ev 9 [(.v (.int .i64 a0_0)), (.v (.int .i64 20))]).bind fun r25 =>
          cond (isI .i64 (cellAt r25 0))
           ((ev 9 [(.v (.int .i64 a1_0)), (.v (.int .i64 21))]).bind fun r28 =>
            cond (isI .i64 (cellAt r28 0))
             ((ev 18 [(.agg [(.v (.int .i64 (IntKind.wrap .i64 (104 + (avInt (cellAt r25 0)))))), (.v (.int .u64 (IntKind.wrap .u64 ((IntKind.wrap .u64 (Int.tdiv a0_1 256)) * 256)))), (.v (.int .u64 (IntKind.wrap .u64 (1 + (IntKind.wrap .u64 ((Int.tmod a0_2 9) * 256)))))), (.v (.int .u64 a0_3)), (.v (.int .u64 a0_4)), (.v (.int .u64 a0_5)), (.v (.int .u64 a0_6)), (.v (.int .u64 a0_7)), (.v (.int .u64 a0_8))]), (.agg [(.v (.int .u32 (avInt (cellAt (obCells (cellAt r0 0)) 0)))), (.v (.int .i64 (avInt (cellAt (obCells (cellAt r0 0)) 1)))), (.v (.int .i64 (avInt (cellAt (obCells (cellAt r0 0)) 2)))), (.v (.int .i64 (avInt (cellAt (obCells (cellAt r0 0)) 3)))), (.v (.bool (avBool (cellAt (obCells (cellAt r0 0)) 4)))), (.v (.int .u32 (avInt (cellAt (obCells (cellAt r0 0)) 5)))), (.v (.int .u64 (avInt (cellAt (obCells (cellAt r0 0)) 6)))), (.v (.int .i64 (avInt (cellAt (obCells (cellAt r0 0)) 7)))), (.v (.int .i64 (avInt (cellAt (obCells (cellAt r0 0)) 8))))])]).bind fun r41 =>
              cond ((Ev.isAgg 9 (cellAt r41 0)) && ((isI .i64 (cellAt (obCells (cellAt r41 0)) 0)) && ((isI .u64 (cellAt (obCells (cellAt r41 0)) 1)) && ((isI .u64 (cellAt (obCells (cellAt r41 0)) 2)) && ((isI .u64 (cellAt (obCells (cellAt r41 0)) 3)) && ((isI .u64 (cellAt (obCells (cellAt r41 0)) 4)) && ((isI .u64 (cellAt (obCells (cellAt r41 0)) 5)) && ((isI .u64 (cellAt (obCells (cellAt r41 0)) 6)) && ((isI .u64 (cellAt (obCells (cellAt r41 0)) 7)) && (isI .u64 (cellAt (obCells (cellAt r41 0)) 8)))))))))))
               (cond (isI .i64 (cellAt r41 1))
                 (cond ((avInt (cellAt r41 1)) == 0)
                   (cond ((avInt (cellAt r22 0)) == 2)
                     ((ev 26 [(.agg [(.v (.int .i64 (avInt (cellAt (obCells (cellAt r41 0)) 0)))), (.v (.int .u64 (IntKind.wrap .u64 ((avInt (cellAt (obCells (cellAt r41 0)) 1)) + 1)))), (.v (.int .u64 (avInt (cellAt (obCells (cellAt r41 0)) 2)))), (.v (.int .u64 (avInt (cellAt (obCells (cellAt r41 0)) 3)))), (.v (.int .u64 (avInt (cellAt (obCells (cellAt r41 0)) 4)))), (.v (.int .u64 (avInt (cellAt (obCells (cellAt r41 0)) 5)))), (.v (.int .u64 (avInt (cellAt (obCells (cellAt r41 0)) 6)))), (.v (.int .u64 (avInt (cellAt (obCells (cellAt r41 0)) 7)))), (.v (.int .u64 (avInt (cellAt (obCells (cellAt r41 0)) 8))))]), (.agg [(.v (.int .i64 (IntKind.wrap .i64 (103 + (avInt (cellAt r28 0)))))), (.v (.int .u64 (IntKind.wrap .u64 ((IntKind.wrap .u64 (Int.tdiv a1_1 256)) * 256)))), (.v (.int .u64 (IntKind.wrap .u64 (1 + (IntKind.wrap .u64 ((Int.tmod a1_2 9) * 256)))))), (.v (.int .u64 a1_3)), (.v (.int .u64 a1_4)), (.v (.int .u64 a1_5)), (.v (.int .u64 a1_6)), (.v (.int .u64 a1_7)), (.v (.int .u64 a1_8))]), (.agg [(.v (.int .u32 (avInt (cellAt (obCells (cellAt r0 0)) 0)))), (.v (.int .i64 (avInt (cellAt (obCells (cellAt r11 0)) 1)))), (.v (.int .i64 (avInt (cellAt (obCells (cellAt r11 0)) 2)))), (.v (.int .i64 (avInt (cellAt (obCells (cellAt r11 0)) 3)))), (.v (.bool (avBool (cellAt (obCells (cellAt r11 0)) 4)))), (.v (.int .u32 (avInt (cellAt (obCells (cellAt r11 0)) 5)))), (.v (.int .u64 (avInt (cellAt (obCells (cellAt r11 0)) 6)))), (.v (.int .i64 (avInt (cellAt (obCells (cellAt r11 0)) 7)))), (.v (.int .i64 (avInt (cellAt (obCells (cellAt r11 0)) 8))))])]).bind fun r55 =>
                      cond (isL 9 (cellAt r55 0))
                       (cond (isI .i64 (cellAt r55 1))
                         ((ev 20 [(.agg [(.v (.int .u32 (avInt (cellAt (obCells (cellAt r0 0)) 0)))), (.v (.int .i64 (avInt (cellAt (obCells (cellAt r11 0)) 1)))), (.v (.int .i64 (avInt (cellAt (obCells (cellAt r11 0)) 2)))), (.v (.int .i64 (avInt (cellAt (obCells (cellAt r11 0)) 3)))), (.v (.bool (avBool (cellAt (obCells (cellAt r11 0)) 4)))), (.v (.int .u32 (avInt (cellAt (obCells (cellAt r11 0)) 5)))), (.v (.int .u64 (avInt (cellAt (obCells (cellAt r11 0)) 6)))), (.v (.int .i64 (avInt (cellAt (obCells (cellAt r11 0)) 7)))), (.v (.int .i64 (avInt (cellAt (obCells (cellAt r11 0)) 8))))])]).bind fun r59 =>
                          cond ((Ev.isAgg 9 (cellAt r59 0)) && ((isI .u32 (cellAt (obCells (cellAt r59 0)) 0)) && ((isI .i64 (cellAt (obCells (cellAt r59 0)) 1)) && ((isI .i64 (cellAt (obCells (cellAt r59 0)) 2)) && ((isI .i64 (cellAt (obCells (cellAt r59 0)) 3)) && ((isB (cellAt (obCells (cellAt r59 0)) 4)) && ((isI .u32 (cellAt (obCells (cellAt r59 0)) 5)) && ((isI .u64 (cellAt (obCells (cellAt r59 0)) 6)) && ((isI .i64 (cellAt (obCells (cellAt r59 0)) 7)) && (isI .i64 (cellAt (obCells (cellAt r59 0)) 8)))))))))))
                           ((ev 27 [(.agg [(.v (.int .i64 (avInt (cellAt (obCells (cellAt r41 0)) 0)))), (.v (.int .u64 (IntKind.wrap .u64 ((avInt (cellAt (obCells (cellAt r41 0)) 1)) + 1)))), (.v (.int .u64 (avInt (cellAt (obCells (cellAt r41 0)) 2)))), (.v (.int .u64 (avInt (cellAt (obCells (cellAt r41 0)) 3)))), (.v (.int .u64 (avInt (cellAt (obCells (cellAt r41 0)) 4)))), (.v (.int .u64 (avInt (cellAt (obCells (cellAt r41 0)) 5)))), (.v (.int .u64 (avInt (cellAt (obCells (cellAt r41 0)) 6)))), (.v (.int .u64 (avInt (cellAt (obCells (cellAt r41 0)) 7)))), (.v (.int .u64 (avInt (cellAt (obCells (cellAt r41 0)) 8))))]), (.agg [(.v (.int .i64 (IntKind.wrap .i64 (103 + (avInt (cellAt r28 0)))))), (.v (.int .u64 (IntKind.wrap .u64 ((IntKind.wrap .u64 (Int.tdiv a1_1 256)) * 256)))), (.v (.int .u64 (IntKind.wrap .u64 (1 + (IntKind.wrap .u64 ((Int.tmod a1_2 9) * 256)))))), (.v (.int .u64 a1_3)), (.v (.int .u64 a1_4)), (.v (.int .u64 a1_5)), (.v (.int .u64 a1_6)), (.v (.int .u64 a1_7)), (.v (.int .u64 a1_8))]), (.agg [(.v (.int .u32 (avInt (cellAt (obCells (cellAt r59 0)) 0)))), (.v (.int .i64 (avInt (cellAt (obCells (cellAt r59 0)) 1)))), (.v (.int .i64 (avInt (cellAt (obCells (cellAt r59 0)) 2)))), (.v (.int .i64 (avInt (cellAt (obCells (cellAt r59 0)) 3)))), (.v (.bool (avBool (cellAt (obCells (cellAt r59 0)) 4)))), (.v (.int .u32 (avInt (cellAt (obCells (cellAt r59 0)) 5)))), (.v (.int .u64 (avInt (cellAt (obCells (cellAt r59 0)) 6)))), (.v (.int .i64 (avInt (cellAt (obCells (cellAt r59 0)) 7)))), (.v (.int .i64 (avInt (cellAt (obCells (cellAt r59 0)) 8))))])]).bind fun r69 =>
                            cond (isL 9 (cellAt r69 0))
                             (cond (isI .i64 (cellAt r69 1))
                               ((ev 12 []).bind fun r73 =>
                                cond (isB (cellAt r73 0))
                                 (cond (avBool (cellAt r73 0))
                                   (cond ((avInt (cellAt r55 1)) == (avInt (cellAt r69 1)))
                                     ((ev 28 [(.lst (avNil (cellAt r55 0)) 9 (avXs (cellAt r55 0))), (.lst (avNil (cellAt r69 0)) 9 (avXs (cellAt r69 0)))]).bind fun r76 =>
                                      cond (isB (cellAt r76 0))
                                       (some [(.v (.bool (avBool (cellAt r76 0))))])
                                       (none))
                                     (some [(.v (.bool false))]))
                                   (some [(.v (.bool false))]))
                                 (none))
                               (none))
                             (none))
                           (none))
                         (none))
                       (none))
                     (cond ((avInt (cellAt r22 0)) == 3)
                       ((ev 26 [(.agg [(.v (.int .i64 (avInt (cellAt (obCells (cellAt r41 0)) 0)))), (.v (.int .u64 (avInt (cellAt (obCells (cellAt r41 0)) 1)))), (.v (.int .u64 (avInt (cellAt (obCells (cellAt r41 0)) 2)))), (.v (.int .u64 (avInt (cellAt (obCells (cellAt r41 0)) 3)))), (.v (.int .u64 (avInt (cellAt (obCells (cellAt r41 0)) 4)))), (.v (.int .u64 (avInt (cellAt (obCells (cellAt r41 0)) 5)))), (.v (.int .u64 (avInt (cellAt (obCells (cellAt r41 0)) 6)))), (.v (.int .u64 (avInt (cellAt (obCells (cellAt r41 0)) 7)))), (.v (.int .u64 (avInt (cellAt (obCells (cellAt r41 0)) 8))))]), (.agg [(.v (.int .i64 (IntKind.wrap .i64 (103 + (avInt (cellAt r28 0)))))), (.v (.int .u64 (IntKind.wrap .u64 ((IntKind.wrap .u64 ((IntKind.wrap .u64 (Int.tdiv a1_1 256)) * 256)) + 1)))), (.v (.int .u64 (IntKind.wrap .u64 (1 + (IntKind.wrap .u64 ((Int.tmod a1_2 9) * 256)))))), (.v (.int .u64 a1_3)), (.v (.int .u64 a1_4)), (.v (.int .u64 a1_5)), (.v (.int .u64 a1_6)), (.v (.int .u64 a1_7)), (.v (.int .u64 a1_8))]), (.agg [(.v (.int .u32 (avInt (cellAt (obCells (cellAt r0 0)) 0)))), (.v (.int .i64 (avInt (cellAt (obCells (cellAt r11 0)) 1)))), (.v (.int .i64 (avInt (cellAt (obCells (cellAt r11 0)) 2)))), (.v (.int .i64 (avInt (cellAt (obCells (cellAt r11 0)) 3)))), (.v (.bool (avBool (cellAt (obCells (cellAt r11 0)) 4)))), (.v (.int .u32 (avInt (cellAt (obCells (cellAt r11 0)) 5)))), (.v (.int .u64 (avInt (cellAt (obCells (cellAt r11 0)) 6)))), (.v (.int .i64 (avInt (cellAt (obCells (cellAt r11 0)) 7)))), (.v (.int .i64 (avInt (cellAt (obCells (cellAt r11 0)) 8))))])]).bind fun r80 =>
                        cond (isL 9 (cellAt r80 0))
                         (cond (isI .i64 (cellAt r80 1))
                           ((ev 20 [(.agg [(.v (.int .u32 (avInt (cellAt (obCells (cellAt r0 0)) 0)))), (.v (.int .i64 (avInt (cellAt (obCells (cellAt r11 0)) 1)))), (.v (.int .i64 (avInt (cellAt (obCells (cellAt r11 0)) 2)))), (.v (.int .i64 (avInt (cellAt (obCells (cellAt r11 0)) 3)))), (.v (.bool (avBool (cellAt (obCells (cellAt r11 0)) 4)))), (.v (.int .u32 (avInt (cellAt (obCells (cellAt r11 0)) 5)))), (.v (.int .u64 (avInt (cellAt (obCells (cellAt r11 0)) 6)))), (.v (.int .i64 (avInt (cellAt (obCells (cellAt r11 0)) 7)))), (.v (.int .i64 (avInt (cellAt (obCells (cellAt r11 0)) 8))))])]).bind fun r84 =>
                            cond ((Ev.isAgg 9 (cellAt r84 0)) && ((isI .u32 (cellAt (obCells (cellAt r84 0)) 0)) && ((isI .i64 (cellAt (obCells (cellAt r84 0)) 1)) && ((isI .i64 (cellAt (obCells (cellAt r84 0)) 2)) && ((isI .i64 (cellAt (obCells (cellAt r84 0)) 3)) && ((isB (cellAt (obCells (cellAt r84 0)) 4)) && ((isI .u32 (cellAt (obCells (cellAt r84 0)) 5)) && ((isI .u64 (cellAt (obCells (cellAt r84 0)) 6)) && ((isI .i64 (cellAt (obCells (cellAt r84 0)) 7)) && (isI .i64 (cellAt (obCells (cellAt r84 0)) 8)))))))))))
                             ((ev 27 [(.agg [(.v (.int .i64 (avInt (cellAt (obCells (cellAt r41 0)) 0)))), (.v (.int .u64 (avInt (cellAt (obCells (cellAt r41 0)) 1)))), (.v (.int .u64 (avInt (cellAt (obCells (cellAt r41 0)) 2)))), (.v (.int .u64 (avInt (cellAt (obCells (cellAt r41 0)) 3)))), (.v (.int .u64 (avInt (cellAt (obCells (cellAt r41 0)) 4)))), (.v (.int .u64 (avInt (cellAt (obCells (cellAt r41 0)) 5)))), (.v (.int .u64 (avInt (cellAt (obCells (cellAt r41 0)) 6)))), (.v (.int .u64 (avInt (cellAt (obCells (cellAt r41 0)) 7)))), (.v (.int .u64 (avInt (cellAt (obCells (cellAt r41 0)) 8))))]), (.agg [(.v (.int .i64 (IntKind.wrap .i64 (103 + (avInt (cellAt r28 0)))))), (.v (.int .u64 (IntKind.wrap .u64 ((IntKind.wrap .u64 ((IntKind.wrap .u64 (Int.tdiv a1_1 256)) * 256)) + 1)))), (.v (.int .u64 (IntKind.wrap .u64 (1 + (IntKind.wrap .u64 ((Int.tmod a1_2 9) * 256)))))), (.v (.int .u64 a1_3)), (.v (.int .u64 a1_4)), (.v (.int .u64 a1_5)), (.v (.int .u64 a1_6)), (.v (.int .u64 a1_7)), (.v (.int .u64 a1_8))]), (.agg [(.v (.int .u32 (avInt (cellAt (obCells (cellAt r84 0)) 0)))), (.v (.int .i64 (avInt (cellAt (obCells (cellAt r84 0)) 1)))), (.v (.int .i64 (avInt (cellAt (obCells (cellAt r84 0)) 2)))), (.v (.int .i64 (avInt (cellAt (obCells (cellAt r84 0)) 3)))), (.v (.bool (avBool (cellAt (obCells (cellAt r84 0)) 4)))), (.v (.int .u32 (avInt (cellAt (obCells (cellAt r84 0)) 5)))), (.v (.int .u64 (avInt (cellAt (obCells (cellAt r84 0)) 6)))), (.v (.int .i64 (avInt (cellAt (obCells (cellAt r84 0)) 7)))), (.v (.int .i64 (avInt (cellAt (obCells (cellAt r84 0)) 8))))])]).bind fun r94 =>
                              cond (isL 9 (cellAt r94 0))
                               (cond (isI .i64 (cellAt r94 1))
                                 ((ev 12 []).bind fun r98 =>
                                  cond (isB (cellAt r98 0))
                                   (cond (avBool (cellAt r98 0))
                                     (cond ((avInt (cellAt r80 1)) == (avInt (cellAt r94 1)))
                                       ((ev 28 [(.lst (avNil (cellAt r80 0)) 9 (avXs (cellAt r80 0))), (.lst (avNil (cellAt r94 0)) 9 (avXs (cellAt r94 0)))]).bind fun r101 =>
                                        cond (isB (cellAt r101 0))
                                         (some [(.v (.bool (avBool (cellAt r101 0))))])
                                         (none))
                                       (some [(.v (.bool false))]))
                                     (some [(.v (.bool false))]))
                                   (none))
                                 (none))
                               (none))
                             (none))
                           (none))
                         (none))
                       (cond ((avInt (cellAt r22 0)) == 4)
                         ((ev 26 [(.agg [(.v (.int .i64 (avInt (cellAt (obCells (cellAt r41 0)) 0)))), (.v (.int .u64 (avInt (cellAt (obCells (cellAt r41 0)) 1)))), (.v (.int .u64 (avInt (cellAt (obCells (cellAt r41 0)) 2)))), (.v (.int .u64 (avInt (cellAt (obCells (cellAt r41 0)) 3)))), (.v (.int .u64 (avInt (cellAt (obCells (cellAt r41 0)) 4)))), (.v (.int .u64 (avInt (cellAt (obCells (cellAt r41 0)) 5)))), (.v (.int .u64 (avInt (cellAt (obCells (cellAt r41 0)) 6)))), (.v (.int .u64 (avInt (cellAt (obCells (cellAt r41 0)) 7)))), (.v (.int .u64 (avInt (cellAt (obCells (cellAt r41 0)) 8))))]), (.agg [(.v (.int .i64 (avInt (cellAt (obCells (cellAt r41 0)) 0)))), (.v (.int .u64 (IntKind.wrap .u64 ((IntKind.wrap .u64 (Int.tdiv a1_1 256)) * 256)))), (.v (.int .u64 (IntKind.wrap .u64 (1 + (IntKind.wrap .u64 ((Int.tmod a1_2 9) * 256)))))), (.v (.int .u64 a1_3)), (.v (.int .u64 a1_4)), (.v (.int .u64 a1_5)), (.v (.int .u64 a1_6)), (.v (.int .u64 a1_7)), (.v (.int .u64 a1_8))]), (.agg [(.v (.int .u32 (avInt (cellAt (obCells (cellAt r0 0)) 0)))), (.v (.int .i64 (avInt (cellAt (obCells (cellAt r11 0)) 1)))), (.v (.int .i64 (avInt (cellAt (obCells (cellAt r11 0)) 2)))), (.v (.int .i64 (avInt (cellAt (obCells (cellAt r11 0)) 3)))), (.v (.bool (avBool (cellAt (obCells (cellAt r11 0)) 4)))), (.v (.int .u32 (avInt (cellAt (obCells (cellAt r11 0)) 5)))), (.v (.int .u64 (avInt (cellAt (obCells (cellAt r11 0)) 6)))), (.v (.int .i64 (avInt (cellAt (obCells (cellAt r11 0)) 7)))), (.v (.int .i64 (avInt (cellAt (obCells (cellAt r11 0)) 8))))])]).bind fun r104 =>
                          cond (isL 9 (cellAt r104 0))
                           (cond (isI .i64 (cellAt r104 1))
                             ((ev 20 [(.agg [(.v (.int .u32 (avInt (cellAt (obCells (cellAt r0 0)) 0)))), (.v (.int .i64 (avInt (cellAt (obCells (cellAt r11 0)) 1)))), (.v (.int .i64 (avInt (cellAt (obCells (cellAt r11 0)) 2)))), (.v (.int .i64 (avInt (cellAt (obCells (cellAt r11 0)) 3)))), (.v (.bool (avBool (cellAt (obCells (cellAt r11 0)) 4)))), (.v (.int .u32 (avInt (cellAt (obCells (cellAt r11 0)) 5)))), (.v (.int .u64 (avInt (cellAt (obCells (cellAt r11 0)) 6)))), (.v (.int .i64 (avInt (cellAt (obCells (cellAt r11 0)) 7)))), (.v (.int .i64 (avInt (cellAt (obCells (cellAt r11 0)) 8))))])]).bind fun r108 =>
                              cond ((Ev.isAgg 9 (cellAt r108 0)) && ((isI .u32 (cellAt (obCells (cellAt r108 0)) 0)) && ((isI .i64 (cellAt (obCells (cellAt r108 0)) 1)) && ((isI .i64 (cellAt (obCells (cellAt r108 0)) 2)) && ((isI .i64 (cellAt (obCells (cellAt r108 0)) 3)) && ((isB (cellAt (obCells (cellAt r108 0)) 4)) && ((isI .u32 (cellAt (obCells (cellAt r108 0)) 5)) && ((isI .u64 (cellAt (obCells (cellAt r108 0)) 6)) && ((isI .i64 (cellAt (obCells (cellAt r108 0)) 7)) && (isI .i64 (cellAt (obCells (cellAt r108 0)) 8)))))))))))
                               ((ev 27 [(.agg [(.v (.int .i64 (avInt (cellAt (obCells (cellAt r41 0)) 0)))), (.v (.int .u64 (avInt (cellAt (obCells (cellAt r41 0)) 1)))), (.v (.int .u64 (avInt (cellAt (obCells (cellAt r41 0)) 2)))), (.v (.int .u64 (avInt (cellAt (obCells (cellAt r41 0)) 3)))), (.v (.int .u64 (avInt (cellAt (obCells (cellAt r41 0)) 4)))), (.v (.int .u64 (avInt (cellAt (obCells (cellAt r41 0)) 5)))), (.v (.int .u64 (avInt (cellAt (obCells (cellAt r41 0)) 6)))), (.v (.int .u64 (avInt (cellAt (obCells (cellAt r41 0)) 7)))), (.v (.int .u64 (avInt (cellAt (obCells (cellAt r41 0)) 8))))]), (.agg [(.v (.int .i64 (avInt (cellAt (obCells (cellAt r41 0)) 0)))), (.v (.int .u64 (IntKind.wrap .u64 ((IntKind.wrap .u64 (Int.tdiv a1_1 256)) * 256)))), (.v (.int .u64 (IntKind.wrap .u64 (1 + (IntKind.wrap .u64 ((Int.tmod a1_2 9) * 256)))))), (.v (.int .u64 a1_3)), (.v (.int .u64 a1_4)), (.v (.int .u64 a1_5)), (.v (.int .u64 a1_6)), (.v (.int .u64 a1_7)), (.v (.int .u64 a1_8))]), (.agg [(.v (.int .u32 (avInt (cellAt (obCells (cellAt r108 0)) 0)))), (.v (.int .i64 (avInt (cellAt (obCells (cellAt r108 0)) 1)))), (.v (.int .i64 (avInt (cellAt (obCells (cellAt r108 0)) 2)))), (.v (.int .i64 (avInt (cellAt (obCells (cellAt r108 0)) 3)))), (.v (.bool (avBool (cellAt (obCells (cellAt r108 0)) 4)))), (.v (.int .u32 (avInt (cellAt (obCells (cellAt r108 0)) 5)))), (.v (.int .u64 (avInt (cellAt (obCells (cellAt r108 0)) 6)))), (.v (.int .i64 (avInt (cellAt (obCells (cellAt r108 0)) 7)))), (.v (.int .i64 (avInt (cellAt (obCells (cellAt r108 0)) 8))))])]).bind fun r118 =>
                                cond (isL 9 (cellAt r118 0))
                                 (cond (isI .i64 (cellAt r118 1))
                                   ((ev 12 []).bind fun r122 =>
                                    cond (isB (cellAt r122 0))
                                     (cond (avBool (cellAt r122 0))
                                       (cond ((avInt (cellAt r104 1)) == (avInt (cellAt r118 1)))
                                         ((ev 28 [(.lst (avNil (cellAt r104 0)) 9 (avXs (cellAt r104 0))), (.lst (avNil (cellAt r118 0)) 9 (avXs (cellAt r118 0)))]).bind fun r125 =>
                                          cond (isB (cellAt r125 0))
                                           (some [(.v (.bool (avBool (cellAt r125 0))))])
                                           (none))
                                         (some [(.v (.bool false))]))
                                       (some [(.v (.bool false))]))
                                     (none))
                                   (none))
                                 (none))
                               (none))
                             (none))
                           (none))
                         (cond ((avInt (cellAt r22 0)) == 5)
                           ((ev 26 [(.agg [(.v (.int .i64 (avInt (cellAt (obCells (cellAt r41 0)) 0)))), (.v (.int .u64 (avInt (cellAt (obCells (cellAt r41 0)) 1)))), (.v (.int .u64 (avInt (cellAt (obCells (cellAt r41 0)) 2)))), (.v (.int .u64 (avInt (cellAt (obCells (cellAt r41 0)) 3)))), (.v (.int .u64 (avInt (cellAt (obCells (cellAt r41 0)) 4)))), (.v (.int .u64 (avInt (cellAt (obCells (cellAt r41 0)) 5)))), (.v (.int .u64 (avInt (cellAt (obCells (cellAt r41 0)) 6)))), (.v (.int .u64 (avInt (cellAt (obCells (cellAt r41 0)) 7)))), (.v (.int .u64 (avInt (cellAt (obCells (cellAt r41 0)) 8))))]), (.agg [(.v (.int .i64 (IntKind.wrap .i64 (103 + (avInt (cellAt r28 0)))))), (.v (.int .u64 (IntKind.wrap .u64 ((IntKind.wrap .u64 (Int.tdiv a1_1 256)) * 256)))), (.v (.int .u64 (IntKind.wrap .u64 (1 + (IntKind.wrap .u64 ((Int.tmod a1_2 9) * 256)))))), (.v (.int .u64 a1_3)), (.v (.int .u64 a1_4)), (.v (.int .u64 a1_5)), (.v (.int .u64 a1_6)), (.v (.int .u64 a1_7)), (.v (.int .u64 a1_8))]), (.agg [(.v (.int .u32 (IntKind.wrap .u32 ((avInt (cellAt (obCells (cellAt r0 0)) 0)) + 1)))), (.v (.int .i64 (avInt (cellAt (obCells (cellAt r11 0)) 1)))), (.v (.int .i64 (avInt (cellAt (obCells (cellAt r11 0)) 2)))), (.v (.int .i64 (avInt (cellAt (obCells (cellAt r11 0)) 3)))), (.v (.bool (avBool (cellAt (obCells (cellAt r11 0)) 4)))), (.v (.int .u32 (avInt (cellAt (obCells (cellAt r11 0)) 5)))), (.v (.int .u64 (avInt (cellAt (obCells (cellAt r11 0)) 6)))), (.v (.int .i64 (avInt (cellAt (obCells (cellAt r11 0)) 7)))), (.v (.int .i64 (avInt (cellAt (obCells (cellAt r11 0)) 8))))])]).bind fun r129 =>
                            cond (isL 9 (cellAt r129 0))
                             (cond (isI .i64 (cellAt r129 1))
                               ((ev 20 [(.agg [(.v (.int .u32 (IntKind.wrap .u32 ((avInt (cellAt (obCells (cellAt r0 0)) 0)) + 1)))), (.v (.int .i64 (avInt (cellAt (obCells (cellAt r11 0)) 1)))), (.v (.int .i64 (avInt (cellAt (obCells (cellAt r11 0)) 2)))), (.v (.int .i64 (avInt (cellAt (obCells (cellAt r11 0)) 3)))), (.v (.bool (avBool (cellAt (obCells (cellAt r11 0)) 4)))), (.v (.int .u32 (avInt (cellAt (obCells (cellAt r11 0)) 5)))), (.v (.int .u64 (avInt (cellAt (obCells (cellAt r11 0)) 6)))), (.v (.int .i64 (avInt (cellAt (obCells (cellAt r11 0)) 7)))), (.v (.int .i64 (avInt (cellAt (obCells (cellAt r11 0)) 8))))])]).bind fun r133 =>
                                cond ((Ev.isAgg 9 (cellAt r133 0)) && ((isI .u32 (cellAt (obCells (cellAt r133 0)) 0)) && ((isI .i64 (cellAt (obCells (cellAt r133 0)) 1)) && ((isI .i64 (cellAt (obCells (cellAt r133 0)) 2)) && ((isI .i64 (cellAt (obCells (cellAt r133 0)) 3)) && ((isB (cellAt (obCells (cellAt r133 0)) 4)) && ((isI .u32 (cellAt (obCells (cellAt r133 0)) 5)) && ((isI .u64 (cellAt (obCells (cellAt r133 0)) 6)) && ((isI .i64 (cellAt (obCells (cellAt r133 0)) 7)) && (isI .i64 (cellAt (obCells (cellAt r133 0)) 8)))))))))))
                                 ((ev 27 [(.agg [(.v (.int .i64 (avInt (cellAt (obCells (cellAt r41 0)) 0)))), (.v (.int .u64 (avInt (cellAt (obCells (cellAt r41 0)) 1)))), (.v (.int .u64 (avInt (cellAt (obCells (cellAt r41 0)) 2)))), (.v (.int .u64 (avInt (cellAt (obCells (cellAt r41 0)) 3)))), (.v (.int .u64 (avInt (cellAt (obCells (cellAt r41 0)) 4)))), (.v (.int .u64 (avInt (cellAt (obCells (cellAt r41 0)) 5)))), (.v (.int .u64 (avInt (cellAt (obCells (cellAt r41 0)) 6)))), (.v (.int .u64 (avInt (cellAt (obCells (cellAt r41 0)) 7)))), (.v (.int .u64 (avInt (cellAt (obCells (cellAt r41 0)) 8))))]), (.agg [(.v (.int .i64 (IntKind.wrap .i64 (103 + (avInt (cellAt r28 0)))))), (.v (.int .u64 (IntKind.wrap .u64 ((IntKind.wrap .u64 (Int.tdiv a1_1 256)) * 256)))), (.v (.int .u64 (IntKind.wrap .u64 (1 + (IntKind.wrap .u64 ((Int.tmod a1_2 9) * 256)))))), (.v (.int .u64 a1_3)), (.v (.int .u64 a1_4)), (.v (.int .u64 a1_5)), (.v (.int .u64 a1_6)), (.v (.int .u64 a1_7)), (.v (.int .u64 a1_8))]), (.agg [(.v (.int .u32 (avInt (cellAt (obCells (cellAt r133 0)) 0)))), (.v (.int .i64 (avInt (cellAt (obCells (cellAt r133 0)) 1)))), (.v (.int .i64 (avInt (cellAt (obCells (cellAt r133 0)) 2)))), (.v (.int .i64 (avInt (cellAt (obCells (cellAt r133 0)) 3)))), (.v (.bool (avBool (cellAt (obCells (cellAt r133 0)) 4)))), (.v (.int .u32 (avInt (cellAt (obCells (cellAt r133 0)) 5)))), (.v (.int .u64 (avInt (cellAt (obCells (cellAt r133 0)) 6)))), (.v (.int .i64 (avInt (cellAt (obCells (cellAt r133 0)) 7)))), (.v (.int .i64 (avInt (cellAt (obCells (cellAt r133 0)) 8))))])]).bind fun r143 =>
                                  cond (isL 9 (cellAt r143 0))
                                   (cond (isI .i64 (cellAt r143 1))
                                     ((ev 12 []).bind fun r147 =>
                                      cond (isB (cellAt r147 0))
                                       (cond (avBool (cellAt r147 0))
                                         (cond ((avInt (cellAt r129 1)) == (avInt (cellAt r143 1)))
                                           ((ev 28 [(.lst (avNil (cellAt r129 0)) 9 (avXs (cellAt r129 0))), (.lst (avNil (cellAt r143 0)) 9 (avXs (cellAt r143 0)))]).bind fun r150 =>
                                            cond (isB (cellAt r150 0))
                                             (some [(.v (.bool (avBool (cellAt r150 0))))])
                                             (none))
                                           (some [(.v (.bool false))]))
                                         (some [(.v (.bool false))]))
                                       (none))
                                     (none))
                                   (none))
                                 (none))
                               (none))
                             (none))
                           (cond ((avInt (cellAt r22 0)) == 6)
                             ((ev 26 [(.agg [(.v (.int .i64 (avInt (cellAt (obCells (cellAt r41 0)) 0)))), (.v (.int .u64 (avInt (cellAt (obCells (cellAt r41 0)) 1)))), (.v (.int .u64 (avInt (cellAt (obCells (cellAt r41 0)) 2)))), (.v (.int .u64 (avInt (cellAt (obCells (cellAt r41 0)) 3)))), (.v (.int .u64 (avInt (cellAt (obCells (cellAt r41 0)) 4)))), (.v (.int .u64 (avInt (cellAt (obCells (cellAt r41 0)) 5)))), (.v (.int .u64 (avInt (cellAt (obCells (cellAt r41 0)) 6)))), (.v (.int .u64 (avInt (cellAt (obCells (cellAt r41 0)) 7)))), (.v (.int .u64 (avInt (cellAt (obCells (cellAt r41 0)) 8))))]), (.agg [(.v (.int .i64 (IntKind.wrap .i64 (103 + (avInt (cellAt r28 0)))))), (.v (.int .u64 (IntKind.wrap .u64 ((IntKind.wrap .u64 (Int.tdiv a1_1 256)) * 256)))), (.v (.int .u64 (IntKind.wrap .u64 ((IntKind.wrap .u64 (1 + (IntKind.wrap .u64 ((Int.tmod a1_2 9) * 256)))) + 1)))), (.v (.int .u64 a1_3)), (.v (.int .u64 a1_4)), (.v (.int .u64 a1_5)), (.v (.int .u64 a1_6)), (.v (.int .u64 a1_7)), (.v (.int .u64 a1_8))]), (.agg [(.v (.int .u32 (avInt (cellAt (obCells (cellAt r0 0)) 0)))), (.v (.int .i64 (avInt (cellAt (obCells (cellAt r11 0)) 1)))), (.v (.int .i64 (avInt (cellAt (obCells (cellAt r11 0)) 2)))), (.v (.int .i64 (avInt (cellAt (obCells (cellAt r11 0)) 3)))), (.v (.bool (avBool (cellAt (obCells (cellAt r11 0)) 4)))), (.v (.int .u32 (avInt (cellAt (obCells (cellAt r11 0)) 5)))), (.v (.int .u64 (avInt (cellAt (obCells (cellAt r11 0)) 6)))), (.v (.int .i64 (avInt (cellAt (obCells (cellAt r11 0)) 7)))), (.v (.int .i64 (avInt (cellAt (obCells (cellAt r11 0)) 8))))])]).bind fun r154 =>
                              cond (isL 9 (cellAt r154 0))
                               (cond (isI .i64 (cellAt r154 1))
                                 ((ev 20 [(.agg [(.v (.int .u32 (avInt (cellAt (obCells (cellAt r0 0)) 0)))), (.v (.int .i64 (avInt (cellAt (obCells (cellAt r11 0)) 1)))), (.v (.int .i64 (avInt (cellAt (obCells (cellAt r11 0)) 2)))), (.v (.int .i64 (avInt (cellAt (obCells (cellAt r11 0)) 3)))), (.v (.bool (avBool (cellAt (obCells (cellAt r11 0)) 4)))), (.v (.int .u32 (avInt (cellAt (obCells (cellAt r11 0)) 5)))), (.v (.int .u64 (avInt (cellAt (obCells (cellAt r11 0)) 6)))), (.v (.int .i64 (avInt (cellAt (obCells (cellAt r11 0)) 7)))), (.v (.int .i64 (avInt (cellAt (obCells (cellAt r11 0)) 8))))])]).bind fun r158 =>
                                  cond ((Ev.isAgg 9 (cellAt r158 0)) && ((isI .u32 (cellAt (obCells (cellAt r158 0)) 0)) && ((isI .i64 (cellAt (obCells (cellAt r158 0)) 1)) && ((isI .i64 (cellAt (obCells (cellAt r158 0)) 2)) && ((isI .i64 (cellAt (obCells (cellAt r158 0)) 3)) && ((isB (cellAt (obCells (cellAt r158 0)) 4)) && ((isI .u32 (cellAt (obCells (cellAt r158 0)) 5)) && ((isI .u64 (cellAt (obCells (cellAt r158 0)) 6)) && ((isI .i64 (cellAt (obCells (cellAt r158 0)) 7)) && (isI .i64 (cellAt (obCells (cellAt r158 0)) 8)))))))))))
                                   ((ev 27 [(.agg [(.v (.int .i64 (avInt (cellAt (obCells (cellAt r41 0)) 0)))), (.v (.int .u64 (avInt (cellAt (obCells (cellAt r41 0)) 1)))), (.v (.int .u64 (avInt (cellAt (obCells (cellAt r41 0)) 2)))), (.v (.int .u64 (avInt (cellAt (obCells (cellAt r41 0)) 3)))), (.v (.int .u64 (avInt (cellAt (obCells (cellAt r41 0)) 4)))), (.v (.int .u64 (avInt (cellAt (obCells (cellAt r41 0)) 5)))), (.v (.int .u64 (avInt (cellAt (obCells (cellAt r41 0)) 6)))), (.v (.int .u64 (avInt (cellAt (obCells (cellAt r41 0)) 7)))), (.v (.int .u64 (avInt (cellAt (obCells (cellAt r41 0)) 8))))]), (.agg [(.v (.int .i64 (IntKind.wrap .i64 (103 + (avInt (cellAt r28 0)))))), (.v (.int .u64 (IntKind.wrap .u64 ((IntKind.wrap .u64 (Int.tdiv a1_1 256)) * 256)))), (.v (.int .u64 (IntKind.wrap .u64 ((IntKind.wrap .u64 (1 + (IntKind.wrap .u64 ((Int.tmod a1_2 9) * 256)))) + 1)))), (.v (.int .u64 a1_3)), (.v (.int .u64 a1_4)), (.v (.int .u64 a1_5)), (.v (.int .u64 a1_6)), (.v (.int .u64 a1_7)), (.v (.int .u64 a1_8))]), (.agg [(.v (.int .u32 (avInt (cellAt (obCells (cellAt r158 0)) 0)))), (.v (.int .i64 (avInt (cellAt (obCells (cellAt r158 0)) 1)))), (.v (.int .i64 (avInt (cellAt (obCells (cellAt r158 0)) 2)))), (.v (.int .i64 (avInt (cellAt (obCells (cellAt r158 0)) 3)))), (.v (.bool (avBool (cellAt (obCells (cellAt r158 0)) 4)))), (.v (.int .u32 (avInt (cellAt (obCells (cellAt r158 0)) 5)))), (.v (.int .u64 (avInt (cellAt (obCells (cellAt r158 0)) 6)))), (.v (.int .i64 (avInt (cellAt (obCells (cellAt r158 0)) 7)))), (.v (.int .i64 (avInt (cellAt (obCells (cellAt r158 0)) 8))))])]).bind fun r168 =>
                                    cond (isL 9 (cellAt r168 0))
                                     (cond (isI .i64 (cellAt r168 1))
                                       ((ev 12 []).bind fun r172 =>
                                        cond (isB (cellAt r172 0))
                                         (cond (avBool (cellAt r172 0))
                                           (cond ((avInt (cellAt r154 1)) == (avInt (cellAt r168 1)))
                                             ((ev 28 [(.lst (avNil (cellAt r154 0)) 9 (avXs (cellAt r154 0))), (.lst (avNil (cellAt r168 0)) 9 (avXs (cellAt r168 0)))]).bind fun r175 =>
                                              cond (isB (cellAt r175 0))
                                               (some [(.v (.bool (avBool (cellAt r175 0))))])
                                               (none))
                                             (some [(.v (.bool false))]))
                                           (some [(.v (.bool false))]))
                                         (none))
                                       (none))
                                     (none))
                                   (none))
                                 (none))
                               (none))
                             ((ev 26 [(.agg [(.v (.int .i64 (avInt (cellAt (obCells (cellAt r41 0)) 0)))), (.v (.int .u64 (avInt (cellAt (obCells (cellAt r41 0)) 1)))), (.v (.int .u64 (avInt (cellAt (obCells (cellAt r41 0)) 2)))), (.v (.int .u64 (avInt (cellAt (obCells (cellAt r41 0)) 3)))), (.v (.int .u64 (avInt (cellAt (obCells (cellAt r41 0)) 4)))), (.v (.int .u64 (avInt (cellAt (obCells (cellAt r41 0)) 5)))), (.v (.int .u64 (avInt (cellAt (obCells (cellAt r41 0)) 6)))), (.v (.int .u64 (avInt (cellAt (obCells (cellAt r41 0)) 7)))), (.v (.int .u64 (avInt (cellAt (obCells (cellAt r41 0)) 8))))]), (.agg [(.v (.int .i64 (IntKind.wrap .i64 (103 + (avInt (cellAt r28 0)))))), (.v (.int .u64 (IntKind.wrap .u64 ((IntKind.wrap .u64 (Int.tdiv a1_1 256)) * 256)))), (.v (.int .u64 (IntKind.wrap .u64 (1 + (IntKind.wrap .u64 ((Int.tmod a1_2 9) * 256)))))), (.v (.int .u64 a1_3)), (.v (.int .u64 a1_4)), (.v (.int .u64 a1_5)), (.v (.int .u64 a1_6)), (.v (.int .u64 a1_7)), (.v (.int .u64 a1_8))]), (.agg [(.v (.int .u32 (avInt (cellAt (obCells (cellAt r0 0)) 0)))), (.v (.int .i64 (avInt (cellAt (obCells (cellAt r11 0)) 1)))), (.v (.int .i64 (avInt (cellAt (obCells (cellAt r11 0)) 2)))), (.v (.int .i64 (avInt (cellAt (obCells (cellAt r11 0)) 3)))), (.v (.bool (avBool (cellAt (obCells (cellAt r11 0)) 4)))), (.v (.int .u32 (avInt (cellAt (obCells (cellAt r11 0)) 5)))), (.v (.int .u64 (avInt (cellAt (obCells (cellAt r11 0)) 6)))), (.v (.int .i64 (avInt (cellAt (obCells (cellAt r11 0)) 7)))), (.v (.int .i64 (avInt (cellAt (obCells (cellAt r11 0)) 8))))])]).bind fun r177 =>
                              cond (isL 9 (cellAt r177 0))
                               (cond (isI .i64 (cellAt r177 1))
                                 ((ev 20 [(.agg [(.v (.int .u32 (avInt (cellAt (obCells (cellAt r0 0)) 0)))), (.v (.int .i64 (avInt (cellAt (obCells (cellAt r11 0)) 1)))), (.v (.int .i64 (avInt (cellAt (obCells (cellAt r11 0)) 2)))), (.v (.int .i64 (avInt (cellAt (obCells (cellAt r11 0)) 3)))), (.v (.bool (avBool (cellAt (obCells (cellAt r11 0)) 4)))), (.v (.int .u32 (avInt (cellAt (obCells (cellAt r11 0)) 5)))), (.v (.int .u64 (avInt (cellAt (obCells (cellAt r11 0)) 6)))), (.v (.int .i64 (avInt (cellAt (obCells (cellAt r11 0)) 7)))), (.v (.int .i64 (avInt (cellAt (obCells (cellAt r11 0)) 8))))])]).bind fun r181 =>
                                  cond ((Ev.isAgg 9 (cellAt r181 0)) && ((isI .u32 (cellAt (obCells (cellAt r181 0)) 0)) && ((isI .i64 (cellAt (obCells (cellAt r181 0)) 1)) && ((isI .i64 (cellAt (obCells (cellAt r181 0)) 2)) && ((isI .i64 (cellAt (obCells (cellAt r181 0)) 3)) && ((isB (cellAt (obCells (cellAt r181 0)) 4)) && ((isI .u32 (cellAt (obCells (cellAt r181 0)) 5)) && ((isI .u64 (cellAt (obCells (cellAt r181 0)) 6)) && ((isI .i64 (cellAt (obCells (cellAt r181 0)) 7)) && (isI .i64 (cellAt (obCells (cellAt r181 0)) 8)))))))))))
                                   ((ev 27 [(.agg [(.v (.int .i64 (avInt (cellAt (obCells (cellAt r41 0)) 0)))), (.v (.int .u64 (avInt (cellAt (obCells (cellAt r41 0)) 1)))), (.v (.int .u64 (avInt (cellAt (obCells (cellAt r41 0)) 2)))), (.v (.int .u64 (avInt (cellAt (obCells (cellAt r41 0)) 3)))), (.v (.int .u64 (avInt (cellAt (obCells (cellAt r41 0)) 4)))), (.v (.int .u64 (avInt (cellAt (obCells (cellAt r41 0)) 5)))), (.v (.int .u64 (avInt (cellAt (obCells (cellAt r41 0)) 6)))), (.v (.int .u64 (avInt (cellAt (obCells (cellAt r41 0)) 7)))), (.v (.int .u64 (avInt (cellAt (obCells (cellAt r41 0)) 8))))]), (.agg [(.v (.int .i64 (IntKind.wrap .i64 (103 + (avInt (cellAt r28 0)))))), (.v (.int .u64 (IntKind.wrap .u64 ((IntKind.wrap .u64 (Int.tdiv a1_1 256)) * 256)))), (.v (.int .u64 (IntKind.wrap .u64 (1 + (IntKind.wrap .u64 ((Int.tmod a1_2 9) * 256)))))), (.v (.int .u64 a1_3)), (.v (.int .u64 a1_4)), (.v (.int .u64 a1_5)), (.v (.int .u64 a1_6)), (.v (.int .u64 a1_7)), (.v (.int .u64 a1_8))]), (.agg [(.v (.int .u32 (avInt (cellAt (obCells (cellAt r181 0)) 0)))), (.v (.int .i64 (avInt (cellAt (obCells (cellAt r181 0)) 1)))), (.v (.int .i64 (avInt (cellAt (obCells (cellAt r181 0)) 2)))), (.v (.int .i64 (avInt (cellAt (obCells (cellAt r181 0)) 3)))), (.v (.bool (avBool (cellAt (obCells (cellAt r181 0)) 4)))), (.v (.int .u32 (avInt (cellAt (obCells (cellAt r181 0)) 5)))), (.v (.int .u64 (avInt (cellAt (obCells (cellAt r181 0)) 6)))), (.v (.int .i64 (avInt (cellAt (obCells (cellAt r181 0)) 7)))), (.v (.int .i64 (avInt (cellAt (obCells (cellAt r181 0)) 8))))])]).bind fun r191 =>
                                    cond (isL 9 (cellAt r191 0))
                                     (cond (isI .i64 (cellAt r191 1))
                                       ((ev 12 []).bind fun r195 =>
                                        cond (isB (cellAt r195 0))
                                         (cond (avBool (cellAt r195 0))
                                           (cond ((avInt (cellAt r177 1)) == (avInt (cellAt r191 1)))
                                             ((ev 28 [(.lst (avNil (cellAt r177 0)) 9 (avXs (cellAt r177 0))), (.lst (avNil (cellAt r191 0)) 9 (avXs (cellAt r191 0)))]).bind fun r198 =>
                                              cond (isB (cellAt r198 0))
                                               (some [(.v (.bool (avBool (cellAt r198 0))))])
                                               (none))
                                             (some [(.v (.bool false))]))
                                           (some [(.v (.bool false))]))
                                         (none))
                                       (none))
                                     (none))
                                   (none))
                                 (none))
                               (none)))))))
                   (cond ((avInt (cellAt r22 0)) == 2)
                     ((ev 26 [(.agg [(.v (.int .i64 (IntKind.wrap .i64 (104 + (avInt (cellAt r25 0)))))), (.v (.int .u64 (IntKind.wrap .u64 ((IntKind.wrap .u64 ((IntKind.wrap .u64 (Int.tdiv a0_1 256)) * 256)) + 1)))), (.v (.int .u64 (IntKind.wrap .u64 (1 + (IntKind.wrap .u64 ((Int.tmod a0_2 9) * 256)))))), (.v (.int .u64 a0_3)), (.v (.int .u64 a0_4)), (.v (.int .u64 a0_5)), (.v (.int .u64 a0_6)), (.v (.int .u64 a0_7)), (.v (.int .u64 a0_8))]), (.agg [(.v (.int .i64 (IntKind.wrap .i64 (103 + (avInt (cellAt r28 0)))))), (.v (.int .u64 (IntKind.wrap .u64 ((IntKind.wrap .u64 (Int.tdiv a1_1 256)) * 256)))), (.v (.int .u64 (IntKind.wrap .u64 (1 + (IntKind.wrap .u64 ((Int.tmod a1_2 9) * 256)))))), (.v (.int .u64 a1_3)), (.v (.int .u64 a1_4)), (.v (.int .u64 a1_5)), (.v (.int .u64 a1_6)), (.v (.int .u64 a1_7)), (.v (.int .u64 a1_8))]), (.agg [(.v (.int .u32 (avInt (cellAt (obCells (cellAt r0 0)) 0)))), (.v (.int .i64 (avInt (cellAt (obCells (cellAt r11 0)) 1)))), (.v (.int .i64 (avInt (cellAt (obCells (cellAt r11 0)) 2)))), (.v (.int .i64 (avInt (cellAt (obCells (cellAt r11 0)) 3)))), (.v (.bool (avBool (cellAt (obCells (cellAt r11 0)) 4)))), (.v (.int .u32 (avInt (cellAt (obCells (cellAt r11 0)) 5)))), (.v (.int .u64 (avInt (cellAt (obCells (cellAt r11 0)) 6)))), (.v (.int .i64 (avInt (cellAt (obCells (cellAt r11 0)) 7)))), (.v (.int .i64 (avInt (cellAt (obCells (cellAt r11 0)) 8))))])]).bind fun r203 =>
                      cond (isL 9 (cellAt r203 0))
                       (cond (isI .i64 (cellAt r203 1))
                         ((ev 20 [(.agg [(.v (.int .u32 (avInt (cellAt (obCells (cellAt r0 0)) 0)))), (.v (.int .i64 (avInt (cellAt (obCells (cellAt r11 0)) 1)))), (.v (.int .i64 (avInt (cellAt (obCells (cellAt r11 0)) 2)))), (.v (.int .i64 (avInt (cellAt (obCells (cellAt r11 0)) 3)))), (.v (.bool (avBool (cellAt (obCells (cellAt r11 0)) 4)))), (.v (.int .u32 (avInt (cellAt (obCells (cellAt r11 0)) 5)))), (.v (.int .u64 (avInt (cellAt (obCells (cellAt r11 0)) 6)))), (.v (.int .i64 (avInt (cellAt (obCells (cellAt r11 0)) 7)))), (.v (.int .i64 (avInt (cellAt (obCells (cellAt r11 0)) 8))))])]).bind fun r207 =>
                          cond ((Ev.isAgg 9 (cellAt r207 0)) && ((isI .u32 (cellAt (obCells (cellAt r207 0)) 0)) && ((isI .i64 (cellAt (obCells (cellAt r207 0)) 1)) && ((isI .i64 (cellAt (obCells (cellAt r207 0)) 2)) && ((isI .i64 (cellAt (obCells (cellAt r207 0)) 3)) && ((isB (cellAt (obCells (cellAt r207 0)) 4)) && ((isI .u32 (cellAt (obCells (cellAt r207 0)) 5)) && ((isI .u64 (cellAt (obCells (cellAt r207 0)) 6)) && ((isI .i64 (cellAt (obCells (cellAt r207 0)) 7)) && (isI .i64 (cellAt (obCells (cellAt r207 0)) 8)))))))))))
                           ((ev 27 [(.agg [(.v (.int .i64 (IntKind.wrap .i64 (104 + (avInt (cellAt r25 0)))))), (.v (.int .u64 (IntKind.wrap .u64 ((IntKind.wrap .u64 ((IntKind.wrap .u64 (Int.tdiv a0_1 256)) * 256)) + 1)))), (.v (.int .u64 (IntKind.wrap .u64 (1 + (IntKind.wrap .u64 ((Int.tmod a0_2 9) * 256)))))), (.v (.int .u64 a0_3)), (.v (.int .u64 a0_4)), (.v (.int .u64 a0_5)), (.v (.int .u64 a0_6)), (.v (.int .u64 a0_7)), (.v (.int .u64 a0_8))]), (.agg [(.v (.int .i64 (IntKind.wrap .i64 (103 + (avInt (cellAt r28 0)))))), (.v (.int .u64 (IntKind.wrap .u64 ((IntKind.wrap .u64 (Int.tdiv a1_1 256)) * 256)))), (.v (.int .u64 (IntKind.wrap .u64 (1 + (IntKind.wrap .u64 ((Int.tmod a1_2 9) * 256)))))), (.v (.int .u64 a1_3)), (.v (.int .u64 a1_4)), (.v (.int .u64 a1_5)), (.v (.int .u64 a1_6)), (.v (.int .u64 a1_7)), (.v (.int .u64 a1_8))]), (.agg [(.v (.int .u32 (avInt (cellAt (obCells (cellAt r207 0)) 0)))), (.v (.int .i64 (avInt (cellAt (obCells (cellAt r207 0)) 1)))), (.v (.int .i64 (avInt (cellAt (obCells (cellAt r207 0)) 2)))), (.v (.int .i64 (avInt (cellAt (obCells (cellAt r207 0)) 3)))), (.v (.bool (avBool (cellAt (obCells (cellAt r207 0)) 4)))), (.v (.int .u32 (avInt (cellAt (obCells (cellAt r207 0)) 5)))), (.v (.int .u64 (avInt (cellAt (obCells (cellAt r207 0)) 6)))), (.v (.int .i64 (avInt (cellAt (obCells (cellAt r207 0)) 7)))), (.v (.int .i64 (avInt (cellAt (obCells (cellAt r207 0)) 8))))])]).bind fun r217 =>
                            cond (isL 9 (cellAt r217 0))
                             (cond (isI .i64 (cellAt r217 1))
                               ((ev 12 []).bind fun r221 =>
                                cond (isB (cellAt r221 0))
                                 (cond (avBool (cellAt r221 0))
                                   (cond ((avInt (cellAt r203 1)) == (avInt (cellAt r217 1)))
                                     ((ev 28 [(.lst (avNil (cellAt r203 0)) 9 (avXs (cellAt r203 0))), (.lst (avNil (cellAt r217 0)) 9 (avXs (cellAt r217 0)))]).bind fun r224 =>
                                      cond (isB (cellAt r224 0))
                                       (some [(.v (.bool (avBool (cellAt r224 0))))])
                                       (none))
                                     (some [(.v (.bool false))]))
                                   (some [(.v (.bool false))]))
                                 (none))
                               (none))
                             (none))
                           (none))
                         (none))
                       (none))
                     (cond ((avInt (cellAt r22 0)) == 3)
                       ((ev 26 [(.agg [(.v (.int .i64 (IntKind.wrap .i64 (104 + (avInt (cellAt r25 0)))))), (.v (.int .u64 (IntKind.wrap .u64 ((IntKind.wrap .u64 (Int.tdiv a0_1 256)) * 256)))), (.v (.int .u64 (IntKind.wrap .u64 (1 + (IntKind.wrap .u64 ((Int.tmod a0_2 9) * 256)))))), (.v (.int .u64 a0_3)), (.v (.int .u64 a0_4)), (.v (.int .u64 a0_5)), (.v (.int .u64 a0_6)), (.v (.int .u64 a0_7)), (.v (.int .u64 a0_8))]), (.agg [(.v (.int .i64 (IntKind.wrap .i64 (103 + (avInt (cellAt r28 0)))))), (.v (.int .u64 (IntKind.wrap .u64 ((IntKind.wrap .u64 ((IntKind.wrap .u64 (Int.tdiv a1_1 256)) * 256)) + 1)))), (.v (.int .u64 (IntKind.wrap .u64 (1 + (IntKind.wrap .u64 ((Int.tmod a1_2 9) * 256)))))), (.v (.int .u64 a1_3)), (.v (.int .u64 a1_4)), (.v (.int .u64 a1_5)), (.v (.int .u64 a1_6)), (.v (.int .u64 a1_7)), (.v (.int .u64 a1_8))]), (.agg [(.v (.int .u32 (avInt (cellAt (obCells (cellAt r0 0)) 0)))), (.v (.int .i64 (avInt (cellAt (obCells (cellAt r11 0)) 1)))), (.v (.int .i64 (avInt (cellAt (obCells (cellAt r11 0)) 2)))), (.v (.int .i64 (avInt (cellAt (obCells (cellAt r11 0)) 3)))), (.v (.bool (avBool (cellAt (obCells (cellAt r11 0)) 4)))), (.v (.int .u32 (avInt (cellAt (obCells (cellAt r11 0)) 5)))), (.v (.int .u64 (avInt (cellAt (obCells (cellAt r11 0)) 6)))), (.v (.int .i64 (avInt (cellAt (obCells (cellAt r11 0)) 7)))), (.v (.int .i64 (avInt (cellAt (obCells (cellAt r11 0)) 8))))])]).bind fun r228 =>
                        cond (isL 9 (cellAt r228 0))
                         (cond (isI .i64 (cellAt r228 1))
                           ((ev 20 [(.agg [(.v (.int .u32 (avInt (cellAt (obCells (cellAt r0 0)) 0)))), (.v (.int .i64 (avInt (cellAt (obCells (cellAt r11 0)) 1)))), (.v (.int .i64 (avInt (cellAt (obCells (cellAt r11 0)) 2)))), (.v (.int .i64 (avInt (cellAt (obCells (cellAt r11 0)) 3)))), (.v (.bool (avBool (cellAt (obCells (cellAt r11 0)) 4)))), (.v (.int .u32 (avInt (cellAt (obCells (cellAt r11 0)) 5)))), (.v (.int .u64 (avInt (cellAt (obCells (cellAt r11 0)) 6)))), (.v (.int .i64 (avInt (cellAt (obCells (cellAt r11 0)) 7)))), (.v (.int .i64 (avInt (cellAt (obCells (cellAt r11 0)) 8))))])]).bind fun r232 =>
                            cond ((Ev.isAgg 9 (cellAt r232 0)) && ((isI .u32 (cellAt (obCells (cellAt r232 0)) 0)) && ((isI .i64 (cellAt (obCells (cellAt r232 0)) 1)) && ((isI .i64 (cellAt (obCells (cellAt r232 0)) 2)) && ((isI .i64 (cellAt (obCells (cellAt r232 0)) 3)) && ((isB (cellAt (obCells (cellAt r232 0)) 4)) && ((isI .u32 (cellAt (obCells (cellAt r232 0)) 5)) && ((isI .u64 (cellAt (obCells (cellAt r232 0)) 6)) && ((isI .i64 (cellAt (obCells (cellAt r232 0)) 7)) && (isI .i64 (cellAt (obCells (cellAt r232 0)) 8)))))))))))
                             ((ev 27 [(.agg [(.v (.int .i64 (IntKind.wrap .i64 (104 + (avInt (cellAt r25 0)))))), (.v (.int .u64 (IntKind.wrap .u64 ((IntKind.wrap .u64 (Int.tdiv a0_1 256)) * 256)))), (.v (.int .u64 (IntKind.wrap .u64 (1 + (IntKind.wrap .u64 ((Int.tmod a0_2 9) * 256)))))), (.v (.int .u64 a0_3)), (.v (.int .u64 a0_4)), (.v (.int .u64 a0_5)), (.v (.int .u64 a0_6)), (.v (.int .u64 a0_7)), (.v (.int .u64 a0_8))]), (.agg [(.v (.int .i64 (IntKind.wrap .i64 (103 + (avInt (cellAt r28 0)))))), (.v (.int .u64 (IntKind.wrap .u64 ((IntKind.wrap .u64 ((IntKind.wrap .u64 (Int.tdiv a1_1 256)) * 256)) + 1)))), (.v (.int .u64 (IntKind.wrap .u64 (1 + (IntKind.wrap .u64 ((Int.tmod a1_2 9) * 256)))))), (.v (.int .u64 a1_3)), (.v (.int .u64 a1_4)), (.v (.int .u64 a1_5)), (.v (.int .u64 a1_6)), (.v (.int .u64 a1_7)), (.v (.int .u64 a1_8))]), (.agg [(.v (.int .u32 (avInt (cellAt (obCells (cellAt r232 0)) 0)))), (.v (.int .i64 (avInt (cellAt (obCells (cellAt r232 0)) 1)))), (.v (.int .i64 (avInt (cellAt (obCells (cellAt r232 0)) 2)))), (.v (.int .i64 (avInt (cellAt (obCells (cellAt r232 0)) 3)))), (.v (.bool (avBool (cellAt (obCells (cellAt r232 0)) 4)))), (.v (.int .u32 (avInt (cellAt (obCells (cellAt r232 0)) 5)))), (.v (.int .u64 (avInt (cellAt (obCells (cellAt r232 0)) 6)))), (.v (.int .i64 (avInt (cellAt (obCells (cellAt r232 0)) 7)))), (.v (.int .i64 (avInt (cellAt (obCells (cellAt r232 0)) 8))))])]).bind fun r242 =>
                              cond (isL 9 (cellAt r242 0))
                               (cond (isI .i64 (cellAt r242 1))
                                 ((ev 12 []).bind fun r246 =>
                                  cond (isB (cellAt r246 0))
                                   (cond (avBool (cellAt r246 0))
                                     (cond ((avInt (cellAt r228 1)) == (avInt (cellAt r242 1)))
                                       ((ev 28 [(.lst (avNil (cellAt r228 0)) 9 (avXs (cellAt r228 0))), (.lst (avNil (cellAt r242 0)) 9 (avXs (cellAt r242 0)))]).bind fun r249 =>
                                        cond (isB (cellAt r249 0))
                                         (some [(.v (.bool (avBool (cellAt r249 0))))])
                                         (none))
                                       (some [(.v (.bool false))]))
                                     (some [(.v (.bool false))]))
                                   (none))
                                 (none))
                               (none))
                             (none))
                           (none))
                         (none))
                       (cond ((avInt (cellAt r22 0)) == 4)
                         ((ev 26 [(.agg [(.v (.int .i64 (IntKind.wrap .i64 (104 + (avInt (cellAt r25 0)))))), (.v (.int .u64 (IntKind.wrap .u64 ((IntKind.wrap .u64 (Int.tdiv a0_1 256)) * 256)))), (.v (.int .u64 (IntKind.wrap .u64 (1 + (IntKind.wrap .u64 ((Int.tmod a0_2 9) * 256)))))), (.v (.int .u64 a0_3)), (.v (.int .u64 a0_4)), (.v (.int .u64 a0_5)), (.v (.int .u64 a0_6)), (.v (.int .u64 a0_7)), (.v (.int .u64 a0_8))]), (.agg [(.v (.int .i64 (IntKind.wrap .i64 (104 + (avInt (cellAt r25 0)))))), (.v (.int .u64 (IntKind.wrap .u64 ((IntKind.wrap .u64 (Int.tdiv a1_1 256)) * 256)))), (.v (.int .u64 (IntKind.wrap .u64 (1 + (IntKind.wrap .u64 ((Int.tmod a1_2 9) * 256)))))), (.v (.int .u64 a1_3)), (.v (.int .u64 a1_4)), (.v (.int .u64 a1_5)), (.v (.int .u64 a1_6)), (.v (.int .u64 a1_7)), (.v (.int .u64 a1_8))]), (.agg [(.v (.int .u32 (avInt (cellAt (obCells (cellAt r0 0)) 0)))), (.v (.int .i64 (avInt (cellAt (obCells (cellAt r11 0)) 1)))), (.v (.int .i64 (avInt (cellAt (obCells (cellAt r11 0)) 2)))), (.v (.int .i64 (avInt (cellAt (obCells (cellAt r11 0)) 3)))), (.v (.bool (avBool (cellAt (obCells (cellAt r11 0)) 4)))), (.v (.int .u32 (avInt (cellAt (obCells (cellAt r11 0)) 5)))), (.v (.int .u64 (avInt (cellAt (obCells (cellAt r11 0)) 6)))), (.v (.int .i64 (avInt (cellAt (obCells (cellAt r11 0)) 7)))), (.v (.int .i64 (avInt (cellAt (obCells (cellAt r11 0)) 8))))])]).bind fun r252 =>
                          cond (isL 9 (cellAt r252 0))
                           (cond (isI .i64 (cellAt r252 1))
                             ((ev 20 [(.agg [(.v (.int .u32 (avInt (cellAt (obCells (cellAt r0 0)) 0)))), (.v (.int .i64 (avInt (cellAt (obCells (cellAt r11 0)) 1)))), (.v (.int .i64 (avInt (cellAt (obCells (cellAt r11 0)) 2)))), (.v (.int .i64 (avInt (cellAt (obCells (cellAt r11 0)) 3)))), (.v (.bool (avBool (cellAt (obCells (cellAt r11 0)) 4)))), (.v (.int .u32 (avInt (cellAt (obCells (cellAt r11 0)) 5)))), (.v (.int .u64 (avInt (cellAt (obCells (cellAt r11 0)) 6)))), (.v (.int .i64 (avInt (cellAt (obCells (cellAt r11 0)) 7)))), (.v (.int .i64 (avInt (cellAt (obCells (cellAt r11 0)) 8))))])]).bind fun r256 =>
                              cond ((Ev.isAgg 9 (cellAt r256 0)) && ((isI .u32 (cellAt (obCells (cellAt r256 0)) 0)) && ((isI .i64 (cellAt (obCells (cellAt r256 0)) 1)) && ((isI .i64 (cellAt (obCells (cellAt r256 0)) 2)) && ((isI .i64 (cellAt (obCells (cellAt r256 0)) 3)) && ((isB (cellAt (obCells (cellAt r256 0)) 4)) && ((isI .u32 (cellAt (obCells (cellAt r256 0)) 5)) && ((isI .u64 (cellAt (obCells (cellAt r256 0)) 6)) && ((isI .i64 (cellAt (obCells (cellAt r256 0)) 7)) && (isI .i64 (cellAt (obCells (cellAt r256 0)) 8)))))))))))
                               ((ev 27 [(.agg [(.v (.int .i64 (IntKind.wrap .i64 (104 + (avInt (cellAt r25 0)))))), (.v (.int .u64 (IntKind.wrap .u64 ((IntKind.wrap .u64 (Int.tdiv a0_1 256)) * 256)))), (.v (.int .u64 (IntKind.wrap .u64 (1 + (IntKind.wrap .u64 ((Int.tmod a0_2 9) * 256)))))), (.v (.int .u64 a0_3)), (.v (.int .u64 a0_4)), (.v (.int .u64 a0_5)), (.v (.int .u64 a0_6)), (.v (.int .u64 a0_7)), (.v (.int .u64 a0_8))]), (.agg [(.v (.int .i64 (IntKind.wrap .i64 (104 + (avInt (cellAt r25 0)))))), (.v (.int .u64 (IntKind.wrap .u64 ((IntKind.wrap .u64 (Int.tdiv a1_1 256)) * 256)))), (.v (.int .u64 (IntKind.wrap .u64 (1 + (IntKind.wrap .u64 ((Int.tmod a1_2 9) * 256)))))), (.v (.int .u64 a1_3)), (.v (.int .u64 a1_4)), (.v (.int .u64 a1_5)), (.v (.int .u64 a1_6)), (.v (.int .u64 a1_7)), (.v (.int .u64 a1_8))]), (.agg [(.v (.int .u32 (avInt (cellAt (obCells (cellAt r256 0)) 0)))), (.v (.int .i64 (avInt (cellAt (obCells (cellAt r256 0)) 1)))), (.v (.int .i64 (avInt (cellAt (obCells (cellAt r256 0)) 2)))), (.v (.int .i64 (avInt (cellAt (obCells (cellAt r256 0)) 3)))), (.v (.bool (avBool (cellAt (obCells (cellAt r256 0)) 4)))), (.v (.int .u32 (avInt (cellAt (obCells (cellAt r256 0)) 5)))), (.v (.int .u64 (avInt (cellAt (obCells (cellAt r256 0)) 6)))), (.v (.int .i64 (avInt (cellAt (obCells (cellAt r256 0)) 7)))), (.v (.int .i64 (avInt (cellAt (obCells (cellAt r256 0)) 8))))])]).bind fun r266 =>
                                cond (isL 9 (cellAt r266 0))
                                 (cond (isI .i64 (cellAt r266 1))
                                   ((ev 12 []).bind fun r270 =>
                                    cond (isB (cellAt r270 0))
                                     (cond (avBool (cellAt r270 0))
                                       (cond ((avInt (cellAt r252 1)) == (avInt (cellAt r266 1)))
                                         ((ev 28 [(.lst (avNil (cellAt r252 0)) 9 (avXs (cellAt r252 0))), (.lst (avNil (cellAt r266 0)) 9 (avXs (cellAt r266 0)))]).bind fun r273 =>
                                          cond (isB (cellAt r273 0))
                                           (some [(.v (.bool (avBool (cellAt r273 0))))])
                                           (none))
                                         (some [(.v (.bool false))]))
                                       (some [(.v (.bool false))]))
                                     (none))
                                   (none))
                                 (none))
                               (none))
                             (none))
                           (none))
                         (cond ((avInt (cellAt r22 0)) == 5)
                           ((ev 26 [(.agg [(.v (.int .i64 (IntKind.wrap .i64 (104 + (avInt (cellAt r25 0)))))), (.v (.int .u64 (IntKind.wrap .u64 ((IntKind.wrap .u64 (Int.tdiv a0_1 256)) * 256)))), (.v (.int .u64 (IntKind.wrap .u64 (1 + (IntKind.wrap .u64 ((Int.tmod a0_2 9) * 256)))))), (.v (.int .u64 a0_3)), (.v (.int .u64 a0_4)), (.v (.int .u64 a0_5)), (.v (.int .u64 a0_6)), (.v (.int .u64 a0_7)), (.v (.int .u64 a0_8))]), (.agg [(.v (.int .i64 (IntKind.wrap .i64 (103 + (avInt (cellAt r28 0)))))), (.v (.int .u64 (IntKind.wrap .u64 ((IntKind.wrap .u64 (Int.tdiv a1_1 256)) * 256)))), (.v (.int .u64 (IntKind.wrap .u64 (1 + (IntKind.wrap .u64 ((Int.tmod a1_2 9) * 256)))))), (.v (.int .u64 a1_3)), (.v (.int .u64 a1_4)), (.v (.int .u64 a1_5)), (.v (.int .u64 a1_6)), (.v (.int .u64 a1_7)), (.v (.int .u64 a1_8))]), (.agg [(.v (.int .u32 (IntKind.wrap .u32 ((avInt (cellAt (obCells (cellAt r0 0)) 0)) + 1)))), (.v (.int .i64 (avInt (cellAt (obCells (cellAt r11 0)) 1)))), (.v (.int .i64 (avInt (cellAt (obCells (cellAt r11 0)) 2)))), (.v (.int .i64 (avInt (cellAt (obCells (cellAt r11 0)) 3)))), (.v (.bool (avBool (cellAt (obCells (cellAt r11 0)) 4)))), (.v (.int .u32 (avInt (cellAt (obCells (cellAt r11 0)) 5)))), (.v (.int .u64 (avInt (cellAt (obCells (cellAt r11 0)) 6)))), (.v (.int .i64 (avInt (cellAt (obCells (cellAt r11 0)) 7)))), (.v (.int .i64 (avInt (cellAt (obCells (cellAt r11 0)) 8))))])]).bind fun r277 =>
                            cond (isL 9 (cellAt r277 0))
                             (cond (isI .i64 (cellAt r277 1))
                               ((ev 20 [(.agg [(.v (.int .u32 (IntKind.wrap .u32 ((avInt (cellAt (obCells (cellAt r0 0)) 0)) + 1)))), (.v (.int .i64 (avInt (cellAt (obCells (cellAt r11 0)) 1)))), (.v (.int .i64 (avInt (cellAt (obCells (cellAt r11 0)) 2)))), (.v (.int .i64 (avInt (cellAt (obCells (cellAt r11 0)) 3)))), (.v (.bool (avBool (cellAt (obCells (cellAt r11 0)) 4)))), (.v (.int .u32 (avInt (cellAt (obCells (cellAt r11 0)) 5)))), (.v (.int .u64 (avInt (cellAt (obCells (cellAt r11 0)) 6)))), (.v (.int .i64 (avInt (cellAt (obCells (cellAt r11 0)) 7)))), (.v (.int .i64 (avInt (cellAt (obCells (cellAt r11 0)) 8))))])]).bind fun r281 =>
                                cond ((Ev.isAgg 9 (cellAt r281 0)) && ((isI .u32 (cellAt (obCells (cellAt r281 0)) 0)) && ((isI .i64 (cellAt (obCells (cellAt r281 0)) 1)) && ((isI .i64 (cellAt (obCells (cellAt r281 0)) 2)) && ((isI .i64 (cellAt (obCells (cellAt r281 0)) 3)) && ((isB (cellAt (obCells (cellAt r281 0)) 4)) && ((isI .u32 (cellAt (obCells (cellAt r281 0)) 5)) && ((isI .u64 (cellAt (obCells (cellAt r281 0)) 6)) && ((isI .i64 (cellAt (obCells (cellAt r281 0)) 7)) && (isI .i64 (cellAt (obCells (cellAt r281 0)) 8)))))))))))
                                 ((ev 27 [(.agg [(.v (.int .i64 (IntKind.wrap .i64 (104 + (avInt (cellAt r25 0)))))), (.v (.int .u64 (IntKind.wrap .u64 ((IntKind.wrap .u64 (Int.tdiv a0_1 256)) * 256)))), (.v (.int .u64 (IntKind.wrap .u64 (1 + (IntKind.wrap .u64 ((Int.tmod a0_2 9) * 256)))))), (.v (.int .u64 a0_3)), (.v (.int .u64 a0_4)), (.v (.int .u64 a0_5)), (.v (.int .u64 a0_6)), (.v (.int .u64 a0_7)), (.v (.int .u64 a0_8))]), (.agg [(.v (.int .i64 (IntKind.wrap .i64 (103 + (avInt (cellAt r28 0)))))), (.v (.int .u64 (IntKind.wrap .u64 ((IntKind.wrap .u64 (Int.tdiv a1_1 256)) * 256)))), (.v (.int .u64 (IntKind.wrap .u64 (1 + (IntKind.wrap .u64 ((Int.tmod a1_2 9) * 256)))))), (.v (.int .u64 a1_3)), (.v (.int .u64 a1_4)), (.v (.int .u64 a1_5)), (.v (.int .u64 a1_6)), (.v (.int .u64 a1_7)), (.v (.int .u64 a1_8))]), (.agg [(.v (.int .u32 (avInt (cellAt (obCells (cellAt r281 0)) 0)))), (.v (.int .i64 (avInt (cellAt (obCells (cellAt r281 0)) 1)))), (.v (.int .i64 (avInt (cellAt (obCells (cellAt r281 0)) 2)))), (.v (.int .i64 (avInt (cellAt (obCells (cellAt r281 0)) 3)))), (.v (.bool (avBool (cellAt (obCells (cellAt r281 0)) 4)))), (.v (.int .u32 (avInt (cellAt (obCells (cellAt r281 0)) 5)))), (.v (.int .u64 (avInt (cellAt (obCells (cellAt r281 0)) 6)))), (.v (.int .i64 (avInt (cellAt (obCells (cellAt r281 0)) 7)))), (.v (.int .i64 (avInt (cellAt (obCells (cellAt r281 0)) 8))))])]).bind fun r291 =>
                                  cond (isL 9 (cellAt r291 0))
                                   (cond (isI .i64 (cellAt r291 1))
                                     ((ev 12 []).bind fun r295 =>
                                      cond (isB (cellAt r295 0))
                                       (cond (avBool (cellAt r295 0))
                                         (cond ((avInt (cellAt r277 1)) == (avInt (cellAt r291 1)))
                                           ((ev 28 [(.lst (avNil (cellAt r277 0)) 9 (avXs (cellAt r277 0))), (.lst (avNil (cellAt r291 0)) 9 (avXs (cellAt r291 0)))]).bind fun r298 =>
                                            cond (isB (cellAt r298 0))
                                             (some [(.v (.bool (avBool (cellAt r298 0))))])
                                             (none))
                                           (some [(.v (.bool false))]))
                                         (some [(.v (.bool false))]))
                                       (none))
                                     (none))
                                   (none))
                                 (none))
                               (none))
                             (none))
                           (cond ((avInt (cellAt r22 0)) == 6)
                             ((ev 26 [(.agg [(.v (.int .i64 (IntKind.wrap .i64 (104 + (avInt (cellAt r25 0)))))), (.v (.int .u64 (IntKind.wrap .u64 ((IntKind.wrap .u64 (Int.tdiv a0_1 256)) * 256)))), (.v (.int .u64 (IntKind.wrap .u64 (1 + (IntKind.wrap .u64 ((Int.tmod a0_2 9) * 256)))))), (.v (.int .u64 a0_3)), (.v (.int .u64 a0_4)), (.v (.int .u64 a0_5)), (.v (.int .u64 a0_6)), (.v (.int .u64 a0_7)), (.v (.int .u64 a0_8))]), (.agg [(.v (.int .i64 (IntKind.wrap .i64 (103 + (avInt (cellAt r28 0)))))), (.v (.int .u64 (IntKind.wrap .u64 ((IntKind.wrap .u64 (Int.tdiv a1_1 256)) * 256)))), (.v (.int .u64 (IntKind.wrap .u64 ((IntKind.wrap .u64 (1 + (IntKind.wrap .u64 ((Int.tmod a1_2 9) * 256)))) + 1)))), (.v (.int .u64 a1_3)), (.v (.int .u64 a1_4)), (.v (.int .u64 a1_5)), (.v (.int .u64 a1_6)), (.v (.int .u64 a1_7)), (.v (.int .u64 a1_8))]), (.agg [(.v (.int .u32 (avInt (cellAt (obCells (cellAt r0 0)) 0)))), (.v (.int .i64 (avInt (cellAt (obCells (cellAt r11 0)) 1)))), (.v (.int .i64 (avInt (cellAt (obCells (cellAt r11 0)) 2)))), (.v (.int .i64 (avInt (cellAt (obCells (cellAt r11 0)) 3)))), (.v (.bool (avBool (cellAt (obCells (cellAt r11 0)) 4)))), (.v (.int .u32 (avInt (cellAt (obCells (cellAt r11 0)) 5)))), (.v (.int .u64 (avInt (cellAt (obCells (cellAt r11 0)) 6)))), (.v (.int .i64 (avInt (cellAt (obCells (cellAt r11 0)) 7)))), (.v (.int .i64 (avInt (cellAt (obCells (cellAt r11 0)) 8))))])]).bind fun r302 =>
                              cond (isL 9 (cellAt r302 0))
                               (cond (isI .i64 (cellAt r302 1))
                                 ((ev 20 [(.agg [(.v (.int .u32 (avInt (cellAt (obCells (cellAt r0 0)) 0)))), (.v (.int .i64 (avInt (cellAt (obCells (cellAt r11 0)) 1)))), (.v (.int .i64 (avInt (cellAt (obCells (cellAt r11 0)) 2)))), (.v (.int .i64 (avInt (cellAt (obCells (cellAt r11 0)) 3)))), (.v (.bool (avBool (cellAt (obCells (cellAt r11 0)) 4)))), (.v (.int .u32 (avInt (cellAt (obCells (cellAt r11 0)) 5)))), (.v (.int .u64 (avInt (cellAt (obCells (cellAt r11 0)) 6)))), (.v (.int .i64 (avInt (cellAt (obCells (cellAt r11 0)) 7)))), (.v (.int .i64 (avInt (cellAt (obCells (cellAt r11 0)) 8))))])]).bind fun r306 =>
                                  cond ((Ev.isAgg 9 (cellAt r306 0)) && ((isI .u32 (cellAt (obCells (cellAt r306 0)) 0)) && ((isI .i64 (cellAt (obCells (cellAt r306 0)) 1)) && ((isI .i64 (cellAt (obCells (cellAt r306 0)) 2)) && ((isI .i64 (cellAt (obCells (cellAt r306 0)) 3)) && ((isB (cellAt (obCells (cellAt r306 0)) 4)) && ((isI .u32 (cellAt (obCells (cellAt r306 0)) 5)) && ((isI .u64 (cellAt (obCells (cellAt r306 0)) 6)) && ((isI .i64 (cellAt (obCells (cellAt r306 0)) 7)) && (isI .i64 (cellAt (obCells (cellAt r306 0)) 8)))))))))))
                                   ((ev 27 [(.agg [(.v (.int .i64 (IntKind.wrap .i64 (104 + (avInt (cellAt r25 0)))))), (.v (.int .u64 (IntKind.wrap .u64 ((IntKind.wrap .u64 (Int.tdiv a0_1 256)) * 256)))), (.v (.int .u64 (IntKind.wrap .u64 (1 + (IntKind.wrap .u64 ((Int.tmod a0_2 9) * 256)))))), (.v (.int .u64 a0_3)), (.v (.int .u64 a0_4)), (.v (.int .u64 a0_5)), (.v (.int .u64 a0_6)), (.v (.int .u64 a0_7)), (.v (.int .u64 a0_8))]), (.agg [(.v (.int .i64 (IntKind.wrap .i64 (103 + (avInt (cellAt r28 0)))))), (.v (.int .u64 (IntKind.wrap .u64 ((IntKind.wrap .u64 (Int.tdiv a1_1 256)) * 256)))), (.v (.int .u64 (IntKind.wrap .u64 ((IntKind.wrap .u64 (1 + (IntKind.wrap .u64 ((Int.tmod a1_2 9) * 256)))) + 1)))), (.v (.int .u64 a1_3)), (.v (.int .u64 a1_4)), (.v (.int .u64 a1_5)), (.v (.int .u64 a1_6)), (.v (.int .u64 a1_7)), (.v (.int .u64 a1_8))]), (.agg [(.v (.int .u32 (avInt (cellAt (obCells (cellAt r306 0)) 0)))), (.v (.int .i64 (avInt (cellAt (obCells (cellAt r306 0)) 1)))), (.v (.int .i64 (avInt (cellAt (obCells (cellAt r306 0)) 2)))), (.v (.int .i64 (avInt (cellAt (obCells (cellAt r306 0)) 3)))), (.v (.bool (avBool (cellAt (obCells (cellAt r306 0)) 4)))), (.v (.int .u32 (avInt (cellAt (obCells (cellAt r306 0)) 5)))), (.v (.int .u64 (avInt (cellAt (obCells (cellAt r306 0)) 6)))), (.v (.int .i64 (avInt (cellAt (obCells (cellAt r306 0)) 7)))), (.v (.int .i64 (avInt (cellAt (obCells (cellAt r306 0)) 8))))])]).bind fun r316 =>
                                    cond (isL 9 (cellAt r316 0))
                                     (cond (isI .i64 (cellAt r316 1))
                                       ((ev 12 []).bind fun r320 =>
                                        cond (isB (cellAt r320 0))
                                         (cond (avBool (cellAt r320 0))
                                           (cond ((avInt (cellAt r302 1)) == (avInt (cellAt r316 1)))
                                             ((ev 28 [(.lst (avNil (cellAt r302 0)) 9 (avXs (cellAt r302 0))), (.lst (avNil (cellAt r316 0)) 9 (avXs (cellAt r316 0)))]).bind fun r323 =>
                                              cond (isB (cellAt r323 0))
                                               (some [(.v (.bool (avBool (cellAt r323 0))))])
                                               (none))
                                             (some [(.v (.bool false))]))
                                           (some [(.v (.bool false))]))
                                         (none))
                                       (none))
                                     (none))
                                   (none))
                                 (none))
                               (none))
                             ((ev 26 [(.agg [(.v (.int .i64 (IntKind.wrap .i64 (104 + (avInt (cellAt r25 0)))))), (.v (.int .u64 (IntKind.wrap .u64 ((IntKind.wrap .u64 (Int.tdiv a0_1 256)) * 256)))), (.v (.int .u64 (IntKind.wrap .u64 (1 + (IntKind.wrap .u64 ((Int.tmod a0_2 9) * 256)))))), (.v (.int .u64 a0_3)), (.v (.int .u64 a0_4)), (.v (.int .u64 a0_5)), (.v (.int .u64 a0_6)), (.v (.int .u64 a0_7)), (.v (.int .u64 a0_8))]), (.agg [(.v (.int .i64 (IntKind.wrap .i64 (103 + (avInt (cellAt r28 0)))))), (.v (.int .u64 (IntKind.wrap .u64 ((IntKind.wrap .u64 (Int.tdiv a1_1 256)) * 256)))), (.v (.int .u64 (IntKind.wrap .u64 (1 + (IntKind.wrap .u64 ((Int.tmod a1_2 9) * 256)))))), (.v (.int .u64 a1_3)), (.v (.int .u64 a1_4)), (.v (.int .u64 a1_5)), (.v (.int .u64 a1_6)), (.v (.int .u64 a1_7)), (.v (.int .u64 a1_8))]), (.agg [(.v (.int .u32 (avInt (cellAt (obCells (cellAt r0 0)) 0)))), (.v (.int .i64 (avInt (cellAt (obCells (cellAt r11 0)) 1)))), (.v (.int .i64 (avInt (cellAt (obCells (cellAt r11 0)) 2)))), (.v (.int .i64 (avInt (cellAt (obCells (cellAt r11 0)) 3)))), (.v (.bool (avBool (cellAt (obCells (cellAt r11 0)) 4)))), (.v (.int .u32 (avInt (cellAt (obCells (cellAt r11 0)) 5)))), (.v (.int .u64 (avInt (cellAt (obCells (cellAt r11 0)) 6)))), (.v (.int .i64 (avInt (cellAt (obCells (cellAt r11 0)) 7)))), (.v (.int .i64 (avInt (cellAt (obCells (cellAt r11 0)) 8))))])]).bind fun r325 =>
                              cond (isL 9 (cellAt r325 0))
                               (cond (isI .i64 (cellAt r325 1))
                                 ((ev 20 [(.agg [(.v (.int .u32 (avInt (cellAt (obCells (cellAt r0 0)) 0)))), (.v (.int .i64 (avInt (cellAt (obCells (cellAt r11 0)) 1)))), (.v (.int .i64 (avInt (cellAt (obCells (cellAt r11 0)) 2)))), (.v (.int .i64 (avInt (cellAt (obCells (cellAt r11 0)) 3)))), (.v (.bool (avBool (cellAt (obCells (cellAt r11 0)) 4)))), (.v (.int .u32 (avInt (cellAt (obCells (cellAt r11 0)) 5)))), (.v (.int .u64 (avInt (cellAt (obCells (cellAt r11 0)) 6)))), (.v (.int .i64 (avInt (cellAt (obCells (cellAt r11 0)) 7)))), (.v (.int .i64 (avInt (cellAt (obCells (cellAt r11 0)) 8))))])]).bind fun r329 =>
                                  cond ((Ev.isAgg 9 (cellAt r329 0)) && ((isI .u32 (cellAt (obCells (cellAt r329 0)) 0)) && ((isI .i64 (cellAt (obCells (cellAt r329 0)) 1)) && ((isI .i64 (cellAt (obCells (cellAt r329 0)) 2)) && ((isI .i64 (cellAt (obCells (cellAt r329 0)) 3)) && ((isB (cellAt (obCells (cellAt r329 0)) 4)) && ((isI .u32 (cellAt (obCells (cellAt r329 0)) 5)) && ((isI .u64 (cellAt (obCells (cellAt r329 0)) 6)) && ((isI .i64 (cellAt (obCells (cellAt r329 0)) 7)) && (isI .i64 (cellAt (obCells (cellAt r329 0)) 8)))))))))))
                                   ((ev 27 [(.agg [(.v (.int .i64 (IntKind.wrap .i64 (104 + (avInt (cellAt r25 0)))))), (.v (.int .u64 (IntKind.wrap .u64 ((IntKind.wrap .u64 (Int.tdiv a0_1 256)) * 256)))), (.v (.int .u64 (IntKind.wrap .u64 (1 + (IntKind.wrap .u64 ((Int.tmod a0_2 9) * 256)))))), (.v (.int .u64 a0_3)), (.v (.int .u64 a0_4)), (.v (.int .u64 a0_5)), (.v (.int .u64 a0_6)), (.v (.int .u64 a0_7)), (.v (.int .u64 a0_8))]), (.agg [(.v (.int .i64 (IntKind.wrap .i64 (103 + (avInt (cellAt r28 0)))))), (.v (.int .u64 (IntKind.wrap .u64 ((IntKind.wrap .u64 (Int.tdiv a1_1 256)) * 256)))), (.v (.int .u64 (IntKind.wrap .u64 (1 + (IntKind.wrap .u64 ((Int.tmod a1_2 9) * 256)))))), (.v (.int .u64 a1_3)), (.v (.int .u64 a1_4)), (.v (.int .u64 a1_5)), (.v (.int .u64 a1_6)), (.v (.int .u64 a1_7)), (.v (.int .u64 a1_8))]), (.agg [(.v (.int .u32 (avInt (cellAt (obCells (cellAt r329 0)) 0)))), (.v (.int .i64 (avInt (cellAt (obCells (cellAt r329 0)) 1)))), (.v (.int .i64 (avInt (cellAt (obCells (cellAt r329 0)) 2)))), (.v (.int .i64 (avInt (cellAt (obCells (cellAt r329 0)) 3)))), (.v (.bool (avBool (cellAt (obCells (cellAt r329 0)) 4)))), (.v (.int .u32 (avInt (cellAt (obCells (cellAt r329 0)) 5)))), (.v (.int .u64 (avInt (cellAt (obCells (cellAt r329 0)) 6)))), (.v (.int .i64 (avInt (cellAt (obCells (cellAt r329 0)) 7)))), (.v (.int .i64 (avInt (cellAt (obCells (cellAt r329 0)) 8))))])]).bind fun r339 =>
                                    cond (isL 9 (cellAt r339 0))
                                     (cond (isI .i64 (cellAt r339 1))
                                       ((ev 12 []).bind fun r343 =>
                                        cond (isB (cellAt r343 0))
                                         (cond (avBool (cellAt r343 0))
                                           (cond ((avInt (cellAt r325 1)) == (avInt (cellAt r339 1)))
                                             ((ev 28 [(.lst (avNil (cellAt r325 0)) 9 (avXs (cellAt r325 0))), (.lst (avNil (cellAt r339 0)) 9 (avXs (cellAt r339 0)))]).bind fun r346 =>
                                              cond (isB (cellAt r346 0))
                                               (some [(.v (.bool (avBool (cellAt r346 0))))])
                                               (none))
                                             (some [(.v (.bool false))]))
                                           (some [(.v (.bool false))]))
                                         (none))
                                       (none))
                                     (none))
                                   (none))
                                 (none))
                               (none))))))))
                 (none))
               (none))
             (none))
           (none))
         (cond ((avInt (cellAt r22 0)) == 2)
           ((ev 26 [(.agg [(.v (.int .i64 a0_0)), (.v (.int .u64 (IntKind.wrap .u64 (a0_1 + 1)))), (.v (.int .u64 a0_2)), (.v (.int .u64 a0_3)), (.v (.int .u64 a0_4)), (.v (.int .u64 a0_5)), (.v (.int .u64 a0_6)), (.v (.int .u64 a0_7)), (.v (.int .u64 a0_8))]), (.agg [(.v (.int .i64 a1_0)), (.v (.int .u64 a1_1)), (.v (.int .u64 a1_2)), (.v (.int .u64 a1_3)), (.v (.int .u64 a1_4)), (.v (.int .u64 a1_5)), (.v (.int .u64 a1_6)), (.v (.int .u64 a1_7)), (.v (.int .u64 a1_8))]), (.agg [(.v (.int .u32 (avInt (cellAt (obCells (cellAt r11 0)) 0)))), (.v (.int .i64 (avInt (cellAt (obCells (cellAt r11 0)) 1)))), (.v (.int .i64 (avInt (cellAt (obCells (cellAt r11 0)) 2)))), (.v (.int .i64 (avInt (cellAt (obCells (cellAt r11 0)) 3)))), (.v (.bool (avBool (cellAt (obCells (cellAt r11 0)) 4)))), (.v (.int .u32 (avInt (cellAt (obCells (cellAt r11 0)) 5)))), (.v (.int .u64 (avInt (cellAt (obCells (cellAt r11 0)) 6)))), (.v (.int .i64 (avInt (cellAt (obCells (cellAt r11 0)) 7)))), (.v (.int .i64 (avInt (cellAt (obCells (cellAt r11 0)) 8))))])]).bind fun r351 =>
            cond (isL 9 (cellAt r351 0))
             (cond (isI .i64 (cellAt r351 1))
               ((ev 20 [(.agg [(.v (.int .u32 (avInt (cellAt (obCells (cellAt r11 0)) 0)))), (.v (.int .i64 (avInt (cellAt (obCells (cellAt r11 0)) 1)))), (.v (.int .i64 (avInt (cellAt (obCells (cellAt r11 0)) 2)))), (.v (.int .i64 (avInt (cellAt (obCells (cellAt r11 0)) 3)))), (.v (.bool (avBool (cellAt (obCells (cellAt r11 0)) 4)))), (.v (.int .u32 (avInt (cellAt (obCells (cellAt r11 0)) 5)))), (.v (.int .u64 (avInt (cellAt (obCells (cellAt r11 0)) 6)))), (.v (.int .i64 (avInt (cellAt (obCells (cellAt r11 0)) 7)))), (.v (.int .i64 (avInt (cellAt (obCells (cellAt r11 0)) 8))))])]).bind fun r355 =>
                cond ((Ev.isAgg 9 (cellAt r355 0)) && ((isI .u32 (cellAt (obCells (cellAt r355 0)) 0)) && ((isI .i64 (cellAt (obCells (cellAt r355 0)) 1)) && ((isI .i64 (cellAt (obCells (cellAt r355 0)) 2)) && ((isI .i64 (cellAt (obCells (cellAt r355 0)) 3)) && ((isB (cellAt (obCells (cellAt r355 0)) 4)) && ((isI .u32 (cellAt (obCells (cellAt r355 0)) 5)) && ((isI .u64 (cellAt (obCells (cellAt r355 0)) 6)) && ((isI .i64 (cellAt (obCells (cellAt r355 0)) 7)) && (isI .i64 (cellAt (obCells (cellAt r355 0)) 8)))))))))))
                 ((ev 27 [(.agg [(.v (.int .i64 a0_0)), (.v (.int .u64 (IntKind.wrap .u64 (a0_1 + 1)))), (.v (.int .u64 a0_2)), (.v (.int .u64 a0_3)), (.v (.int .u64 a0_4)), (.v (.int .u64 a0_5)), (.v (.int .u64 a0_6)), (.v (.int .u64 a0_7)), (.v (.int .u64 a0_8))]), (.agg [(.v (.int .i64 a1_0)), (.v (.int .u64 a1_1)), (.v (.int .u64 a1_2)), (.v (.int .u64 a1_3)), (.v (.int .u64 a1_4)), (.v (.int .u64 a1_5)), (.v (.int .u64 a1_6)), (.v (.int .u64 a1_7)), (.v (.int .u64 a1_8))]), (.agg [(.v (.int .u32 (avInt (cellAt (obCells (cellAt r355 0)) 0)))), (.v (.int .i64 (avInt (cellAt (obCells (cellAt r355 0)) 1)))), (.v (.int .i64 (avInt (cellAt (obCells (cellAt r355 0)) 2)))), (.v (.int .i64 (avInt (cellAt (obCells (cellAt r355 0)) 3)))), (.v (.bool (avBool (cellAt (obCells (cellAt r355 0)) 4)))), (.v (.int .u32 (avInt (cellAt (obCells (cellAt r355 0)) 5)))), (.v (.int .u64 (avInt (cellAt (obCells (cellAt r355 0)) 6)))), (.v (.int .i64 (avInt (cellAt (obCells (cellAt r355 0)) 7)))), (.v (.int .i64 (avInt (cellAt (obCells (cellAt r355 0)) 8))))])]).bind fun r365 =>
                  cond (isL 9 (cellAt r365 0))
                   (cond (isI .i64 (cellAt r365 1))
                     ((ev 12 []).bind fun r369 =>
                      cond (isB (cellAt r369 0))
                       (cond (avBool (cellAt r369 0))
                         (cond ((avInt (cellAt r351 1)) == (avInt (cellAt r365 1)))
                           ((ev 28 [(.lst (avNil (cellAt r351 0)) 9 (avXs (cellAt r351 0))), (.lst (avNil (cellAt r365 0)) 9 (avXs (cellAt r365 0)))]).bind fun r372 =>
                            cond (isB (cellAt r372 0))
                             (some [(.v (.bool (avBool (cellAt r372 0))))])
                             (none))
                           (some [(.v (.bool false))]))
                         (some [(.v (.bool false))]))
                       (none))
                     (none))
                   (none))
                 (none))
               (none))
             (none))
           (cond ((avInt (cellAt r22 0)) == 3)
             ((ev 26 [(.agg [(.v (.int .i64 a0_0)), (.v (.int .u64 a0_1)), (.v (.int .u64 a0_2)), (.v (.int .u64 a0_3)), (.v (.int .u64 a0_4)), (.v (.int .u64 a0_5)), (.v (.int .u64 a0_6)), (.v (.int .u64 a0_7)), (.v (.int .u64 a0_8))]), (.agg [(.v (.int .i64 a1_0)), (.v (.int .u64 (IntKind.wrap .u64 (a1_1 + 1)))), (.v (.int .u64 a1_2)), (.v (.int .u64 a1_3)), (.v (.int .u64 a1_4)), (.v (.int .u64 a1_5)), (.v (.int .u64 a1_6)), (.v (.int .u64 a1_7)), (.v (.int .u64 a1_8))]), (.agg [(.v (.int .u32 (avInt (cellAt (obCells (cellAt r11 0)) 0)))), (.v (.int .i64 (avInt (cellAt (obCells (cellAt r11 0)) 1)))), (.v (.int .i64 (avInt (cellAt (obCells (cellAt r11 0)) 2)))), (.v (.int .i64 (avInt (cellAt (obCells (cellAt r11 0)) 3)))), (.v (.bool (avBool (cellAt (obCells (cellAt r11 0)) 4)))), (.v (.int .u32 (avInt (cellAt (obCells (cellAt r11 0)) 5)))), (.v (.int .u64 (avInt (cellAt (obCells (cellAt r11 0)) 6)))), (.v (.int .i64 (avInt (cellAt (obCells (cellAt r11 0)) 7)))), (.v (.int .i64 (avInt (cellAt (obCells (cellAt r11 0)) 8))))])]).bind fun r376 =>
              cond (isL 9 (cellAt r376 0))
               (cond (isI .i64 (cellAt r376 1))
                 ((ev 20 [(.agg [(.v (.int .u32 (avInt (cellAt (obCells (cellAt r11 0)) 0)))), (.v (.int .i64 (avInt (cellAt (obCells (cellAt r11 0)) 1)))), (.v (.int .i64 (avInt (cellAt (obCells (cellAt r11 0)) 2)))), (.v (.int .i64 (avInt (cellAt (obCells (cellAt r11 0)) 3)))), (.v (.bool (avBool (cellAt (obCells (cellAt r11 0)) 4)))), (.v (.int .u32 (avInt (cellAt (obCells (cellAt r11 0)) 5)))), (.v (.int .u64 (avInt (cellAt (obCells (cellAt r11 0)) 6)))), (.v (.int .i64 (avInt (cellAt (obCells (cellAt r11 0)) 7)))), (.v (.int .i64 (avInt (cellAt (obCells (cellAt r11 0)) 8))))])]).bind fun r380 =>
                  cond ((Ev.isAgg 9 (cellAt r380 0)) && ((isI .u32 (cellAt (obCells (cellAt r380 0)) 0)) && ((isI .i64 (cellAt (obCells (cellAt r380 0)) 1)) && ((isI .i64 (cellAt (obCells (cellAt r380 0)) 2)) && ((isI .i64 (cellAt (obCells (cellAt r380 0)) 3)) && ((isB (cellAt (obCells (cellAt r380 0)) 4)) && ((isI .u32 (cellAt (obCells (cellAt r380 0)) 5)) && ((isI .u64 (cellAt (obCells (cellAt r380 0)) 6)) && ((isI .i64 (cellAt (obCells (cellAt r380 0)) 7)) && (isI .i64 (cellAt (obCells (cellAt r380 0)) 8)))))))))))
                   ((ev 27 [(.agg [(.v (.int .i64 a0_0)), (.v (.int .u64 a0_1)), (.v (.int .u64 a0_2)), (.v (.int .u64 a0_3)), (.v (.int .u64 a0_4)), (.v (.int .u64 a0_5)), (.v (.int .u64 a0_6)), (.v (.int .u64 a0_7)), (.v (.int .u64 a0_8))]), (.agg [(.v (.int .i64 a1_0)), (.v (.int .u64 (IntKind.wrap .u64 (a1_1 + 1)))), (.v (.int .u64 a1_2)), (.v (.int .u64 a1_3)), (.v (.int .u64 a1_4)), (.v (.int .u64 a1_5)), (.v (.int .u64 a1_6)), (.v (.int .u64 a1_7)), (.v (.int .u64 a1_8))]), (.agg [(.v (.int .u32 (avInt (cellAt (obCells (cellAt r380 0)) 0)))), (.v (.int .i64 (avInt (cellAt (obCells (cellAt r380 0)) 1)))), (.v (.int .i64 (avInt (cellAt (obCells (cellAt r380 0)) 2)))), (.v (.int .i64 (avInt (cellAt (obCells (cellAt r380 0)) 3)))), (.v (.bool (avBool (cellAt (obCells (cellAt r380 0)) 4)))), (.v (.int .u32 (avInt (cellAt (obCells (cellAt r380 0)) 5)))), (.v (.int .u64 (avInt (cellAt (obCells (cellAt r380 0)) 6)))), (.v (.int .i64 (avInt (cellAt (obCells (cellAt r380 0)) 7)))), (.v (.int .i64 (avInt (cellAt (obCells (cellAt r380 0)) 8))))])]).bind fun r390 =>
                    cond (isL 9 (cellAt r390 0))
                     (cond (isI .i64 (cellAt r390 1))
                       ((ev 12 []).bind fun r394 =>
                        cond (isB (cellAt r394 0))
                         (cond (avBool (cellAt r394 0))
                           (cond ((avInt (cellAt r376 1)) == (avInt (cellAt r390 1)))
                             ((ev 28 [(.lst (avNil (cellAt r376 0)) 9 (avXs (cellAt r376 0))), (.lst (avNil (cellAt r390 0)) 9 (avXs (cellAt r390 0)))]).bind fun r397 =>
                              cond (isB (cellAt r397 0))
                               (some [(.v (.bool (avBool (cellAt r397 0))))])
                               (none))
                             (some [(.v (.bool false))]))
                           (some [(.v (.bool false))]))
                         (none))
                       (none))
                     (none))
                   (none))
                 (none))
               (none))
             (cond ((avInt (cellAt r22 0)) == 4)
               ((ev 26 [(.agg [(.v (.int .i64 a0_0)), (.v (.int .u64 a0_1)), (.v (.int .u64 a0_2)), (.v (.int .u64 a0_3)), (.v (.int .u64 a0_4)), (.v (.int .u64 a0_5)), (.v (.int .u64 a0_6)), (.v (.int .u64 a0_7)), (.v (.int .u64 a0_8))]), (.agg [(.v (.int .i64 a0_0)), (.v (.int .u64 a1_1)), (.v (.int .u64 a1_2)), (.v (.int .u64 a1_3)), (.v (.int .u64 a1_4)), (.v (.int .u64 a1_5)), (.v (.int .u64 a1_6)), (.v (.int .u64 a1_7)), (.v (.int .u64 a1_8))]), (.agg [(.v (.int .u32 (avInt (cellAt (obCells (cellAt r11 0)) 0)))), (.v (.int .i64 (avInt (cellAt (obCells (cellAt r11 0)) 1)))), (.v (.int .i64 (avInt (cellAt (obCells (cellAt r11 0)) 2)))), (.v (.int .i64 (avInt (cellAt (obCells (cellAt r11 0)) 3)))), (.v (.bool (avBool (cellAt (obCells (cellAt r11 0)) 4)))), (.v (.int .u32 (avInt (cellAt (obCells (cellAt r11 0)) 5)))), (.v (.int .u64 (avInt (cellAt (obCells (cellAt r11 0)) 6)))), (.v (.int .i64 (avInt (cellAt (obCells (cellAt r11 0)) 7)))), (.v (.int .i64 (avInt (cellAt (obCells (cellAt r11 0)) 8))))])]).bind fun r400 =>
                cond (isL 9 (cellAt r400 0))
                 (cond (isI .i64 (cellAt r400 1))
                   ((ev 20 [(.agg [(.v (.int .u32 (avInt (cellAt (obCells (cellAt r11 0)) 0)))), (.v (.int .i64 (avInt (cellAt (obCells (cellAt r11 0)) 1)))), (.v (.int .i64 (avInt (cellAt (obCells (cellAt r11 0)) 2)))), (.v (.int .i64 (avInt (cellAt (obCells (cellAt r11 0)) 3)))), (.v (.bool (avBool (cellAt (obCells (cellAt r11 0)) 4)))), (.v (.int .u32 (avInt (cellAt (obCells (cellAt r11 0)) 5)))), (.v (.int .u64 (avInt (cellAt (obCells (cellAt r11 0)) 6)))), (.v (.int .i64 (avInt (cellAt (obCells (cellAt r11 0)) 7)))), (.v (.int .i64 (avInt (cellAt (obCells (cellAt r11 0)) 8))))])]).bind fun r404 =>
                    cond ((Ev.isAgg 9 (cellAt r404 0)) && ((isI .u32 (cellAt (obCells (cellAt r404 0)) 0)) && ((isI .i64 (cellAt (obCells (cellAt r404 0)) 1)) && ((isI .i64 (cellAt (obCells (cellAt r404 0)) 2)) && ((isI .i64 (cellAt (obCells (cellAt r404 0)) 3)) && ((isB (cellAt (obCells (cellAt r404 0)) 4)) && ((isI .u32 (cellAt (obCells (cellAt r404 0)) 5)) && ((isI .u64 (cellAt (obCells (cellAt r404 0)) 6)) && ((isI .i64 (cellAt (obCells (cellAt r404 0)) 7)) && (isI .i64 (cellAt (obCells (cellAt r404 0)) 8)))))))))))
                     ((ev 27 [(.agg [(.v (.int .i64 a0_0)), (.v (.int .u64 a0_1)), (.v (.int .u64 a0_2)), (.v (.int .u64 a0_3)), (.v (.int .u64 a0_4)), (.v (.int .u64 a0_5)), (.v (.int .u64 a0_6)), (.v (.int .u64 a0_7)), (.v (.int .u64 a0_8))]), (.agg [(.v (.int .i64 a0_0)), (.v (.int .u64 a1_1)), (.v (.int .u64 a1_2)), (.v (.int .u64 a1_3)), (.v (.int .u64 a1_4)), (.v (.int .u64 a1_5)), (.v (.int .u64 a1_6)), (.v (.int .u64 a1_7)), (.v (.int .u64 a1_8))]), (.agg [(.v (.int .u32 (avInt (cellAt (obCells (cellAt r404 0)) 0)))), (.v (.int .i64 (avInt (cellAt (obCells (cellAt r404 0)) 1)))), (.v (.int .i64 (avInt (cellAt (obCells (cellAt r404 0)) 2)))), (.v (.int .i64 (avInt (cellAt (obCells (cellAt r404 0)) 3)))), (.v (.bool (avBool (cellAt (obCells (cellAt r404 0)) 4)))), (.v (.int .u32 (avInt (cellAt (obCells (cellAt r404 0)) 5)))), (.v (.int .u64 (avInt (cellAt (obCells (cellAt r404 0)) 6)))), (.v (.int .i64 (avInt (cellAt (obCells (cellAt r404 0)) 7)))), (.v (.int .i64 (avInt (cellAt (obCells (cellAt r404 0)) 8))))])]).bind fun r414 =>
                      cond (isL 9 (cellAt r414 0))
                       (cond (isI .i64 (cellAt r414 1))
                         ((ev 12 []).bind fun r418 =>
                          cond (isB (cellAt r418 0))
                           (cond (avBool (cellAt r418 0))
                             (cond ((avInt (cellAt r400 1)) == (avInt (cellAt r414 1)))
                               ((ev 28 [(.lst (avNil (cellAt r400 0)) 9 (avXs (cellAt r400 0))), (.lst (avNil (cellAt r414 0)) 9 (avXs (cellAt r414 0)))]).bind fun r421 =>
                                cond (isB (cellAt r421 0))
                                 (some [(.v (.bool (avBool (cellAt r421 0))))])
                                 (none))
                               (some [(.v (.bool false))]))
                             (some [(.v (.bool false))]))
                           (none))
                         (none))
                       (none))
                     (none))
                   (none))
                 (none))
               (cond ((avInt (cellAt r22 0)) == 5)
                 ((ev 26 [(.agg [(.v (.int .i64 a0_0)), (.v (.int .u64 a0_1)), (.v (.int .u64 a0_2)), (.v (.int .u64 a0_3)), (.v (.int .u64 a0_4)), (.v (.int .u64 a0_5)), (.v (.int .u64 a0_6)), (.v (.int .u64 a0_7)), (.v (.int .u64 a0_8))]), (.agg [(.v (.int .i64 a1_0)), (.v (.int .u64 a1_1)), (.v (.int .u64 a1_2)), (.v (.int .u64 a1_3)), (.v (.int .u64 a1_4)), (.v (.int .u64 a1_5)), (.v (.int .u64 a1_6)), (.v (.int .u64 a1_7)), (.v (.int .u64 a1_8))]), (.agg [(.v (.int .u32 (IntKind.wrap .u32 ((avInt (cellAt (obCells (cellAt r11 0)) 0)) + 1)))), (.v (.int .i64 (avInt (cellAt (obCells (cellAt r11 0)) 1)))), (.v (.int .i64 (avInt (cellAt (obCells (cellAt r11 0)) 2)))), (.v (.int .i64 (avInt (cellAt (obCells (cellAt r11 0)) 3)))), (.v (.bool (avBool (cellAt (obCells (cellAt r11 0)) 4)))), (.v (.int .u32 (avInt (cellAt (obCells (cellAt r11 0)) 5)))), (.v (.int .u64 (avInt (cellAt (obCells (cellAt r11 0)) 6)))), (.v (.int .i64 (avInt (cellAt (obCells (cellAt r11 0)) 7)))), (.v (.int .i64 (avInt (cellAt (obCells (cellAt r11 0)) 8))))])]).bind fun r425 =>
                  cond (isL 9 (cellAt r425 0))
                   (cond (isI .i64 (cellAt r425 1))
                     ((ev 20 [(.agg [(.v (.int .u32 (IntKind.wrap .u32 ((avInt (cellAt (obCells (cellAt r11 0)) 0)) + 1)))), (.v (.int .i64 (avInt (cellAt (obCells (cellAt r11 0)) 1)))), (.v (.int .i64 (avInt (cellAt (obCells (cellAt r11 0)) 2)))), (.v (.int .i64 (avInt (cellAt (obCells (cellAt r11 0)) 3)))), (.v (.bool (avBool (cellAt (obCells (cellAt r11 0)) 4)))), (.v (.int .u32 (avInt (cellAt (obCells (cellAt r11 0)) 5)))), (.v (.int .u64 (avInt (cellAt (obCells (cellAt r11 0)) 6)))), (.v (.int .i64 (avInt (cellAt (obCells (cellAt r11 0)) 7)))), (.v (.int .i64 (avInt (cellAt (obCells (cellAt r11 0)) 8))))])]).bind fun r429 =>
                      cond ((Ev.isAgg 9 (cellAt r429 0)) && ((isI .u32 (cellAt (obCells (cellAt r429 0)) 0)) && ((isI .i64 (cellAt (obCells (cellAt r429 0)) 1)) && ((isI .i64 (cellAt (obCells (cellAt r429 0)) 2)) && ((isI .i64 (cellAt (obCells (cellAt r429 0)) 3)) && ((isB (cellAt (obCells (cellAt r429 0)) 4)) && ((isI .u32 (cellAt (obCells (cellAt r429 0)) 5)) && ((isI .u64 (cellAt (obCells (cellAt r429 0)) 6)) && ((isI .i64 (cellAt (obCells (cellAt r429 0)) 7)) && (isI .i64 (cellAt (obCells (cellAt r429 0)) 8)))))))))))
                       ((ev 27 [(.agg [(.v (.int .i64 a0_0)), (.v (.int .u64 a0_1)), (.v (.int .u64 a0_2)), (.v (.int .u64 a0_3)), (.v (.int .u64 a0_4)), (.v (.int .u64 a0_5)), (.v (.int .u64 a0_6)), (.v (.int .u64 a0_7)), (.v (.int .u64 a0_8))]), (.agg [(.v (.int .i64 a1_0)), (.v (.int .u64 a1_1)), (.v (.int .u64 a1_2)), (.v (.int .u64 a1_3)), (.v (.int .u64 a1_4)), (.v (.int .u64 a1_5)), (.v (.int .u64 a1_6)), (.v (.int .u64 a1_7)), (.v (.int .u64 a1_8))]), (.agg [(.v (.int .u32 (avInt (cellAt (obCells (cellAt r429 0)) 0)))), (.v (.int .i64 (avInt (cellAt (obCells (cellAt r429 0)) 1)))), (.v (.int .i64 (avInt (cellAt (obCells (cellAt r429 0)) 2)))), (.v (.int .i64 (avInt (cellAt (obCells (cellAt r429 0)) 3)))), (.v (.bool (avBool (cellAt (obCells (cellAt r429 0)) 4)))), (.v (.int .u32 (avInt (cellAt (obCells (cellAt r429 0)) 5)))), (.v (.int .u64 (avInt (cellAt (obCells (cellAt r429 0)) 6)))), (.v (.int .i64 (avInt (cellAt (obCells (cellAt r429 0)) 7)))), (.v (.int .i64 (avInt (cellAt (obCells (cellAt r429 0)) 8))))])]).bind fun r439 =>
                        cond (isL 9 (cellAt r439 0))
                         (cond (isI .i64 (cellAt r439 1))
                           ((ev 12 []).bind fun r443 =>
                            cond (isB (cellAt r443 0))
                             (cond (avBool (cellAt r443 0))
                               (cond ((avInt (cellAt r425 1)) == (avInt (cellAt r439 1)))
                                 ((ev 28 [(.lst (avNil (cellAt r425 0)) 9 (avXs (cellAt r425 0))), (.lst (avNil (cellAt r439 0)) 9 (avXs (cellAt r439 0)))]).bind fun r446 =>
                                  cond (isB (cellAt r446 0))
                                   (some [(.v (.bool (avBool (cellAt r446 0))))])
                                   (none))
                                 (some [(.v (.bool false))]))
                               (some [(.v (.bool false))]))
                             (none))
                           (none))
                         (none))
                       (none))
                     (none))
                   (none))
                 (cond ((avInt (cellAt r22 0)) == 6)
                   ((ev 26 [(.agg [(.v (.int .i64 a0_0)), (.v (.int .u64 a0_1)), (.v (.int .u64 a0_2)), (.v (.int .u64 a0_3)), (.v (.int .u64 a0_4)), (.v (.int .u64 a0_5)), (.v (.int .u64 a0_6)), (.v (.int .u64 a0_7)), (.v (.int .u64 a0_8))]), (.agg [(.v (.int .i64 a1_0)), (.v (.int .u64 a1_1)), (.v (.int .u64 (IntKind.wrap .u64 (a1_2 + 1)))), (.v (.int .u64 a1_3)), (.v (.int .u64 a1_4)), (.v (.int .u64 a1_5)), (.v (.int .u64 a1_6)), (.v (.int .u64 a1_7)), (.v (.int .u64 a1_8))]), (.agg [(.v (.int .u32 (avInt (cellAt (obCells (cellAt r11 0)) 0)))), (.v (.int .i64 (avInt (cellAt (obCells (cellAt r11 0)) 1)))), (.v (.int .i64 (avInt (cellAt (obCells (cellAt r11 0)) 2)))), (.v (.int .i64 (avInt (cellAt (obCells (cellAt r11 0)) 3)))), (.v (.bool (avBool (cellAt (obCells (cellAt r11 0)) 4)))), (.v (.int .u32 (avInt (cellAt (obCells (cellAt r11 0)) 5)))), (.v (.int .u64 (avInt (cellAt (obCells (cellAt r11 0)) 6)))), (.v (.int .i64 (avInt (cellAt (obCells (cellAt r11 0)) 7)))), (.v (.int .i64 (avInt (cellAt (obCells (cellAt r11 0)) 8))))])]).bind fun r450 =>
                    cond (isL 9 (cellAt r450 0))
                     (cond (isI .i64 (cellAt r450 1))
                       ((ev 20 [(.agg [(.v (.int .u32 (avInt (cellAt (obCells (cellAt r11 0)) 0)))), (.v (.int .i64 (avInt (cellAt (obCells (cellAt r11 0)) 1)))), (.v (.int .i64 (avInt (cellAt (obCells (cellAt r11 0)) 2)))), (.v (.int .i64 (avInt (cellAt (obCells (cellAt r11 0)) 3)))), (.v (.bool (avBool (cellAt (obCells (cellAt r11 0)) 4)))), (.v (.int .u32 (avInt (cellAt (obCells (cellAt r11 0)) 5)))), (.v (.int .u64 (avInt (cellAt (obCells (cellAt r11 0)) 6)))), (.v (.int .i64 (avInt (cellAt (obCells (cellAt r11 0)) 7)))), (.v (.int .i64 (avInt (cellAt (obCells (cellAt r11 0)) 8))))])]).bind fun r454 =>
                        cond ((Ev.isAgg 9 (cellAt r454 0)) && ((isI .u32 (cellAt (obCells (cellAt r454 0)) 0)) && ((isI .i64 (cellAt (obCells (cellAt r454 0)) 1)) && ((isI .i64 (cellAt (obCells (cellAt r454 0)) 2)) && ((isI .i64 (cellAt (obCells (cellAt r454 0)) 3)) && ((isB (cellAt (obCells (cellAt r454 0)) 4)) && ((isI .u32 (cellAt (obCells (cellAt r454 0)) 5)) && ((isI .u64 (cellAt (obCells (cellAt r454 0)) 6)) && ((isI .i64 (cellAt (obCells (cellAt r454 0)) 7)) && (isI .i64 (cellAt (obCells (cellAt r454 0)) 8)))))))))))
                         ((ev 27 [(.agg [(.v (.int .i64 a0_0)), (.v (.int .u64 a0_1)), (.v (.int .u64 a0_2)), (.v (.int .u64 a0_3)), (.v (.int .u64 a0_4)), (.v (.int .u64 a0_5)), (.v (.int .u64 a0_6)), (.v (.int .u64 a0_7)), (.v (.int .u64 a0_8))]), (.agg [(.v (.int .i64 a1_0)), (.v (.int .u64 a1_1)), (.v (.int .u64 (IntKind.wrap .u64 (a1_2 + 1)))), (.v (.int .u64 a1_3)), (.v (.int .u64 a1_4)), (.v (.int .u64 a1_5)), (.v (.int .u64 a1_6)), (.v (.int .u64 a1_7)), (.v (.int .u64 a1_8))]), (.agg [(.v (.int .u32 (avInt (cellAt (obCells (cellAt r454 0)) 0)))), (.v (.int .i64 (avInt (cellAt (obCells (cellAt r454 0)) 1)))), (.v (.int .i64 (avInt (cellAt (obCells (cellAt r454 0)) 2)))), (.v (.int .i64 (avInt (cellAt (obCells (cellAt r454 0)) 3)))), (.v (.bool (avBool (cellAt (obCells (cellAt r454 0)) 4)))), (.v (.int .u32 (avInt (cellAt (obCells (cellAt r454 0)) 5)))), (.v (.int .u64 (avInt (cellAt (obCells (cellAt r454 0)) 6)))), (.v (.int .i64 (avInt (cellAt (obCells (cellAt r454 0)) 7)))), (.v (.int .i64 (avInt (cellAt (obCells (cellAt r454 0)) 8))))])]).bind fun r464 =>
                          cond (isL 9 (cellAt r464 0))
                           (cond (isI .i64 (cellAt r464 1))
                             ((ev 12 []).bind fun r468 =>
                              cond (isB (cellAt r468 0))
                               (cond (avBool (cellAt r468 0))
                                 (cond ((avInt (cellAt r450 1)) == (avInt (cellAt r464 1)))
                                   ((ev 28 [(.lst (avNil (cellAt r450 0)) 9 (avXs (cellAt r450 0))), (.lst (avNil (cellAt r464 0)) 9 (avXs (cellAt r464 0)))]).bind fun r471 =>
                                    cond (isB (cellAt r471 0))
                                     (some [(.v (.bool (avBool (cellAt r471 0))))])
                                     (none))
                                   (some [(.v (.bool false))]))
                                 (some [(.v (.bool false))]))
                               (none))
                             (none))
                           (none))
                         (none))
                       (none))
                     (none))
                   ((ev 26 [(.agg [(.v (.int .i64 a0_0)), (.v (.int .u64 a0_1)), (.v (.int .u64 a0_2)), (.v (.int .u64 a0_3)), (.v (.int .u64 a0_4)), (.v (.int .u64 a0_5)), (.v (.int .u64 a0_6)), (.v (.int .u64 a0_7)), (.v (.int .u64 a0_8))]), (.agg [(.v (.int .i64 a1_0)), (.v (.int .u64 a1_1)), (.v (.int .u64 a1_2)), (.v (.int .u64 a1_3)), (.v (.int .u64 a1_4)), (.v (.int .u64 a1_5)), (.v (.int .u64 a1_6)), (.v (.int .u64 a1_7)), (.v (.int .u64 a1_8))]), (.agg [(.v (.int .u32 (avInt (cellAt (obCells (cellAt r11 0)) 0)))), (.v (.int .i64 (avInt (cellAt (obCells (cellAt r11 0)) 1)))), (.v (.int .i64 (avInt (cellAt (obCells (cellAt r11 0)) 2)))), (.v (.int .i64 (avInt (cellAt (obCells (cellAt r11 0)) 3)))), (.v (.bool (avBool (cellAt (obCells (cellAt r11 0)) 4)))), (.v (.int .u32 (avInt (cellAt (obCells (cellAt r11 0)) 5)))), (.v (.int .u64 (avInt (cellAt (obCells (cellAt r11 0)) 6)))), (.v (.int .i64 (avInt (cellAt (obCells (cellAt r11 0)) 7)))), (.v (.int .i64 (avInt (cellAt (obCells (cellAt r11 0)) 8))))])]).bind fun r473 =>
                    cond (isL 9 (cellAt r473 0))
                     (cond (isI .i64 (cellAt r473 1))
                       ((ev 20 [(.agg [(.v (.int .u32 (avInt (cellAt (obCells (cellAt r11 0)) 0)))), (.v (.int .i64 (avInt (cellAt (obCells (cellAt r11 0)) 1)))), (.v (.int .i64 (avInt (cellAt (obCells (cellAt r11 0)) 2)))), (.v (.int .i64 (avInt (cellAt (obCells (cellAt r11 0)) 3)))), (.v (.bool (avBool (cellAt (obCells (cellAt r11 0)) 4)))), (.v (.int .u32 (avInt (cellAt (obCells (cellAt r11 0)) 5)))), (.v (.int .u64 (avInt (cellAt (obCells (cellAt r11 0)) 6)))), (.v (.int .i64 (avInt (cellAt (obCells (cellAt r11 0)) 7)))), (.v (.int .i64 (avInt (cellAt (obCells (cellAt r11 0)) 8))))])]).bind fun r477 =>
                        cond ((Ev.isAgg 9 (cellAt r477 0)) && ((isI .u32 (cellAt (obCells (cellAt r477 0)) 0)) && ((isI .i64 (cellAt (obCells (cellAt r477 0)) 1)) && ((isI .i64 (cellAt (obCells (cellAt r477 0)) 2)) && ((isI .i64 (cellAt (obCells (cellAt r477 0)) 3)) && ((isB (cellAt (obCells (cellAt r477 0)) 4)) && ((isI .u32 (cellAt (obCells (cellAt r477 0)) 5)) && ((isI .u64 (cellAt (obCells (cellAt r477 0)) 6)) && ((isI .i64 (cellAt (obCells (cellAt r477 0)) 7)) && (isI .i64 (cellAt (obCells (cellAt r477 0)) 8)))))))))))
                         ((ev 27 [(.agg [(.v (.int .i64 a0_0)), (.v (.int .u64 a0_1)), (.v (.int .u64 a0_2)), (.v (.int .u64 a0_3)), (.v (.int .u64 a0_4)), (.v (.int .u64 a0_5)), (.v (.int .u64 a0_6)), (.v (.int .u64 a0_7)), (.v (.int .u64 a0_8))]), (.agg [(.v (.int .i64 a1_0)), (.v (.int .u64 a1_1)), (.v (.int .u64 a1_2)), (.v (.int .u64 a1_3)), (.v (.int .u64 a1_4)), (.v (.int .u64 a1_5)), (.v (.int .u64 a1_6)), (.v (.int .u64 a1_7)), (.v (.int .u64 a1_8))]), (.agg [(.v (.int .u32 (avInt (cellAt (obCells (cellAt r477 0)) 0)))), (.v (.int .i64 (avInt (cellAt (obCells (cellAt r477 0)) 1)))), (.v (.int .i64 (avInt (cellAt (obCells (cellAt r477 0)) 2)))), (.v (.int .i64 (avInt (cellAt (obCells (cellAt r477 0)) 3)))), (.v (.bool (avBool (cellAt (obCells (cellAt r477 0)) 4)))), (.v (.int .u32 (avInt (cellAt (obCells (cellAt r477 0)) 5)))), (.v (.int .u64 (avInt (cellAt (obCells (cellAt r477 0)) 6)))), (.v (.int .i64 (avInt (cellAt (obCells (cellAt r477 0)) 7)))), (.v (.int .i64 (avInt (cellAt (obCells (cellAt r477 0)) 8))))])]).bind fun r487 =>
                          cond (isL 9 (cellAt r487 0))
                           (cond (isI .i64 (cellAt r487 1))
                             ((ev 12 []).bind fun r491 =>
                              cond (isB (cellAt r491 0))
                               (cond (avBool (cellAt r491 0))
                                 (cond ((avInt (cellAt r473 1)) == (avInt (cellAt r487 1)))
                                   ((ev 28 [(.lst (avNil (cellAt r473 0)) 9 (avXs (cellAt r473 0))), (.lst (avNil (cellAt r487 0)) 9 (avXs (cellAt r487 0)))]).bind fun r494 =>
                                    cond (isB (cellAt r494 0))
                                     (some [(.v (.bool (avBool (cellAt r494 0))))])
                                     (none))
                                   (some [(.v (.bool false))]))
                                 (some [(.v (.bool false))]))
                               (none))
                             (none))
                           (none))
                         (none))
                       (none))
                     (none))))))))
       (none))
     (none))
   (none) := (ev_eq _ _).trans (by kernel_rfl)
-- "bodega/bodegahand.Pick"
theorem ev9 (a0_0 : Int) (a1_0 : Int) : ev 9 [(.v (.int .i64 a0_0)), (.v (.int .i64 a1_0))] =
  cond (ltI a1_0 1)
   (some [(.v (.int .i64 0))])
   (cond (eqI a1_0 0)
     (none)
     (cond (eqI a1_0 0)
       (none)
       (some [(.v (.int .i64 (Int.tmod (IntKind.wrap .i64 ((Int.tmod a0_0 a1_0) + a1_0)) a1_0)))]))) := (ev_eq _ _).trans (by kernel_rfl)
-- "bodega/record.Origin"
theorem ev10 (a0_0 : Int) : ev 10 [(.v (.int .u64 a0_0))] =
  cond (ltI (IntKind.wrap .i64 ((IntKind.wrap .i64 (bits .and .u64 a0_0 255)) - 1)) 0)
   (some [(.v (.int .i64 0)), (.v (.int .i64 0)), (.v (.bool false))])
   ((ev 13 [(.v (.int .i64 (IntKind.wrap .i64 ((IntKind.wrap .i64 (bits .and .u64 a0_0 255)) - 1)))), (.v (.int .i64 (IntKind.wrap .i64 (Int.fdiv a0_0 256))))]).bind fun r6 =>
    cond (isI .u64 (cellAt r6 0))
     (cond ((avInt (cellAt r6 0)) == 0)
       (some [(.v (.int .i64 0)), (.v (.int .i64 0)), (.v (.bool false))])
       (some [(.v (.int .i64 (IntKind.wrap .i64 ((IntKind.wrap .i64 (bits .and .u64 a0_0 255)) - 1)))), (.v (.int .i64 (IntKind.wrap .i64 (Int.fdiv a0_0 256)))), (.v (.bool true))]))
     (none)) := (ev_eq _ _).trans (by kernel_rfl)
-- "bodega/bodegaref19.Origin"
theorem ev11 (a0_0 : Int) : ev 11 [(.v (.int .u64 a0_0))] =
  cond (leI 1073741824 (IntKind.wrap .u64 (Int.tdiv a0_0 256)))
   (some [(.v (.int .i64 0)), (.v (.int .i64 0)), (.v (.bool false))])
   ((ev 14 [(.v (.int .i64 (IntKind.wrap .i64 ((IntKind.wrap .i64 (Int.tmod a0_0 256)) - 1)))), (.v (.int .i64 (IntKind.wrap .i64 (IntKind.wrap .u64 (Int.tdiv a0_0 256)))))]).bind fun r8 =>
    cond (isI .u64 (cellAt r8 0))
     (cond ((avInt (cellAt r8 0)) == 0)
       (some [(.v (.int .i64 0)), (.v (.int .i64 0)), (.v (.bool false))])
       (some [(.v (.int .i64 (IntKind.wrap .i64 ((IntKind.wrap .i64 (Int.tmod a0_0 256)) - 1)))), (.v (.int .i64 (IntKind.wrap .i64 (IntKind.wrap .u64 (Int.tdiv a0_0 256))))), (.v (.bool true))]))
     (none)) := (ev_eq _ _).trans (by kernel_rfl)
-- "bodega/bodegalaw21.awake"
theorem ev12  : ev 12 [] =
  (ev 13 [(.v (.int .i64 2)), (.v (.int .i64 5))]).bind fun r0 =>
  cond (isI .u64 (cellAt r0 0))
   (some [(.v (.bool ((avInt (cellAt r0 0)) == 1283)))])
   (none) := (ev_eq _ _).trans (by kernel_rfl)
-- "bodega/record.Stamp"
theorem ev13 (a0_0 : Int) (a1_0 : Int) : ev 13 [(.v (.int .i64 a0_0)), (.v (.int .i64 a1_0))] =
  cond (ltI a0_0 0)
   (some [(.v (.int .u64 0))])
   (cond (leI 6 a0_0)
     (some [(.v (.int .u64 0))])
     (cond (ltI a1_0 1)
       (some [(.v (.int .u64 0))])
       (cond (leI 1073741824 a1_0)
         (some [(.v (.int .u64 0))])
         (some [(.v (.int .u64 (bits .or .u64 (IntKind.wrap .u64 ((IntKind.wrap .u64 a1_0) * 256)) (IntKind.wrap .u64 (IntKind.wrap .i64 (a0_0 + 1))))))])))) := (ev_eq _ _).trans (by kernel_rfl)
-- "bodega/bodegaref19.Stamp"
theorem ev14 (a0_0 : Int) (a1_0 : Int) : ev 14 [(.v (.int .i64 a0_0)), (.v (.int .i64 a1_0))] =
  cond (ltI a0_0 0)
   (some [(.v (.int .u64 0))])
   (cond (leI 6 a0_0)
     (some [(.v (.int .u64 0))])
     (cond (ltI a1_0 1)
       (some [(.v (.int .u64 0))])
       (cond (leI 1073741824 a1_0)
         (some [(.v (.int .u64 0))])
         (some [(.v (.int .u64 (IntKind.wrap .u64 ((IntKind.wrap .u64 ((IntKind.wrap .u64 ((IntKind.wrap .u64 a1_0) * 256)) + (IntKind.wrap .u64 a0_0))) + 1))))])))) := (ev_eq _ _).trans (by kernel_rfl)
-- "bodega/bodegalaw21.near"
theorem ev15 (a0_0 : Int) (a0_1 : Int) (a0_2 : Int) (a0_3 : Int) (a0_4 : Bool) (a0_5 : Int) (a0_6 : Int) (a0_7 : Int) (a0_8 : Int) (a1_0 : Int) : ev 15 [(.agg [(.v (.int .u32 a0_0)), (.v (.int .i64 a0_1)), (.v (.int .i64 a0_2)), (.v (.int .i64 a0_3)), (.v (.bool a0_4)), (.v (.int .u32 a0_5)), (.v (.int .u64 a0_6)), (.v (.int .i64 a0_7)), (.v (.int .i64 a0_8))]), (.v (.int .i64 a1_0))] =
  (ev 9 [(.v (.int .i64 a1_0)), (.v (.int .i64 3))]).bind fun r0 =>
  cond (isI .i64 (cellAt r0 0))
   (cond ((avInt (cellAt r0 0)) == 0)
     (some [(.agg [(.v (.int .u32 a0_0)), (.v (.int .i64 a0_1)), (.v (.int .i64 a0_2)), (.v (.int .i64 a0_3)), (.v (.bool a0_4)), (.v (.int .u32 a0_5)), (.v (.int .u64 a0_6)), (.v (.int .i64 a0_7)), (.v (.int .i64 a0_8))])])
     ((ev 9 [(.v (.int .i64 (IntKind.wrap .i64 (Int.tmod a0_6 5000)))), (.v (.int .i64 5000))]).bind fun r6 =>
      cond (isI .i64 (cellAt r6 0))
       (cond ((Int.tmod a0_7 2) == 0)
         (cond a0_4
           (cond (ltI 0 (Int.tmod a0_5 9))
             (cond (!a0_4)
               (cond ((Int.tmod a0_0 5) == 4)
                 (some [(.agg [(.v (.int .u32 (IntKind.wrap .u32 (0 - (Int.tmod a0_0 4))))), (.v (.int .i64 0)), (.v (.int .i64 0)), (.v (.int .i64 0)), (.v (.bool a0_4)), (.v (.int .u32 (IntKind.wrap .u32 (Int.tdiv (Int.tmod a0_5 8) 7)))), (.v (.int .u64 (IntKind.wrap .u64 (avInt (cellAt r6 0))))), (.v (.int .i64 0)), (.v (.int .i64 0))])])
                 (some [(.agg [(.v (.int .u32 a0_0)), (.v (.int .i64 0)), (.v (.int .i64 0)), (.v (.int .i64 0)), (.v (.bool a0_4)), (.v (.int .u32 (IntKind.wrap .u32 (Int.tdiv (Int.tmod a0_5 8) 7)))), (.v (.int .u64 (IntKind.wrap .u64 (avInt (cellAt r6 0))))), (.v (.int .i64 0)), (.v (.int .i64 0))])]))
               (cond ((Int.tmod a0_0 5) == 4)
                 (some [(.agg [(.v (.int .u32 (IntKind.wrap .u32 (0 - (Int.tmod a0_0 4))))), (.v (.int .i64 0)), (.v (.int .i64 0)), (.v (.int .i64 0)), (.v (.bool a0_4)), (.v (.int .u32 a0_5)), (.v (.int .u64 (IntKind.wrap .u64 (avInt (cellAt r6 0))))), (.v (.int .i64 0)), (.v (.int .i64 0))])])
                 (some [(.agg [(.v (.int .u32 a0_0)), (.v (.int .i64 0)), (.v (.int .i64 0)), (.v (.int .i64 0)), (.v (.bool a0_4)), (.v (.int .u32 a0_5)), (.v (.int .u64 (IntKind.wrap .u64 (avInt (cellAt r6 0))))), (.v (.int .i64 0)), (.v (.int .i64 0))])])))
             (cond (!a0_4)
               (cond ((Int.tmod a0_0 5) == 4)
                 (some [(.agg [(.v (.int .u32 (IntKind.wrap .u32 (0 - (Int.tmod a0_0 4))))), (.v (.int .i64 a0_1)), (.v (.int .i64 a0_2)), (.v (.int .i64 a0_3)), (.v (.bool a0_4)), (.v (.int .u32 (IntKind.wrap .u32 (Int.tdiv (Int.tmod a0_5 8) 7)))), (.v (.int .u64 (IntKind.wrap .u64 (avInt (cellAt r6 0))))), (.v (.int .i64 0)), (.v (.int .i64 0))])])
                 (some [(.agg [(.v (.int .u32 a0_0)), (.v (.int .i64 a0_1)), (.v (.int .i64 a0_2)), (.v (.int .i64 a0_3)), (.v (.bool a0_4)), (.v (.int .u32 (IntKind.wrap .u32 (Int.tdiv (Int.tmod a0_5 8) 7)))), (.v (.int .u64 (IntKind.wrap .u64 (avInt (cellAt r6 0))))), (.v (.int .i64 0)), (.v (.int .i64 0))])]))
               (cond ((Int.tmod a0_0 5) == 4)
                 (some [(.agg [(.v (.int .u32 (IntKind.wrap .u32 (0 - (Int.tmod a0_0 4))))), (.v (.int .i64 a0_1)), (.v (.int .i64 a0_2)), (.v (.int .i64 a0_3)), (.v (.bool a0_4)), (.v (.int .u32 a0_5)), (.v (.int .u64 (IntKind.wrap .u64 (avInt (cellAt r6 0))))), (.v (.int .i64 0)), (.v (.int .i64 0))])])
                 (some [(.agg [(.v (.int .u32 a0_0)), (.v (.int .i64 a0_1)), (.v (.int .i64 a0_2)), (.v (.int .i64 a0_3)), (.v (.bool a0_4)), (.v (.int .u32 a0_5)), (.v (.int .u64 (IntKind.wrap .u64 (avInt (cellAt r6 0))))), (.v (.int .i64 0)), (.v (.int .i64 0))])]))))
           (cond (!a0_4)
             (cond ((Int.tmod a0_0 5) == 4)
               (some [(.agg [(.v (.int .u32 (IntKind.wrap .u32 (0 - (Int.tmod a0_0 4))))), (.v (.int .i64 a0_1)), (.v (.int .i64 a0_2)), (.v (.int .i64 a0_3)), (.v (.bool a0_4)), (.v (.int .u32 (IntKind.wrap .u32 (Int.tdiv (Int.tmod a0_5 8) 7)))), (.v (.int .u64 (IntKind.wrap .u64 (avInt (cellAt r6 0))))), (.v (.int .i64 0)), (.v (.int .i64 0))])])
               (some [(.agg [(.v (.int .u32 a0_0)), (.v (.int .i64 a0_1)), (.v (.int .i64 a0_2)), (.v (.int .i64 a0_3)), (.v (.bool a0_4)), (.v (.int .u32 (IntKind.wrap .u32 (Int.tdiv (Int.tmod a0_5 8) 7)))), (.v (.int .u64 (IntKind.wrap .u64 (avInt (cellAt r6 0))))), (.v (.int .i64 0)), (.v (.int .i64 0))])]))
             (cond ((Int.tmod a0_0 5) == 4)
               (some [(.agg [(.v (.int .u32 (IntKind.wrap .u32 (0 - (Int.tmod a0_0 4))))), (.v (.int .i64 a0_1)), (.v (.int .i64 a0_2)), (.v (.int .i64 a0_3)), (.v (.bool a0_4)), (.v (.int .u32 a0_5)), (.v (.int .u64 (IntKind.wrap .u64 (avInt (cellAt r6 0))))), (.v (.int .i64 0)), (.v (.int .i64 0))])])
               (some [(.agg [(.v (.int .u32 a0_0)), (.v (.int .i64 a0_1)), (.v (.int .i64 a0_2)), (.v (.int .i64 a0_3)), (.v (.bool a0_4)), (.v (.int .u32 a0_5)), (.v (.int .u64 (IntKind.wrap .u64 (avInt (cellAt r6 0))))), (.v (.int .i64 0)), (.v (.int .i64 0))])]))))
         ((ev 9 [(.v (.int .i64 a0_7)), (.v (.int .i64 154))]).bind fun r56 =>
          cond (isI .i64 (cellAt r56 0))
           ((ev 9 [(.v (.int .i64 a0_8)), (.v (.int .i64 9))]).bind fun r59 =>
            cond (isI .i64 (cellAt r59 0))
             (cond a0_4
               (cond (ltI 0 (Int.tmod a0_5 9))
                 (cond (!a0_4)
                   (cond ((Int.tmod a0_0 5) == 4)
                     (some [(.agg [(.v (.int .u32 (IntKind.wrap .u32 (0 - (Int.tmod a0_0 4))))), (.v (.int .i64 0)), (.v (.int .i64 0)), (.v (.int .i64 0)), (.v (.bool a0_4)), (.v (.int .u32 (IntKind.wrap .u32 (Int.tdiv (Int.tmod a0_5 8) 7)))), (.v (.int .u64 (IntKind.wrap .u64 (avInt (cellAt r6 0))))), (.v (.int .i64 (IntKind.wrap .i64 (103 + (avInt (cellAt r56 0)))))), (.v (.int .i64 (avInt (cellAt r59 0))))])])
                     (some [(.agg [(.v (.int .u32 a0_0)), (.v (.int .i64 0)), (.v (.int .i64 0)), (.v (.int .i64 0)), (.v (.bool a0_4)), (.v (.int .u32 (IntKind.wrap .u32 (Int.tdiv (Int.tmod a0_5 8) 7)))), (.v (.int .u64 (IntKind.wrap .u64 (avInt (cellAt r6 0))))), (.v (.int .i64 (IntKind.wrap .i64 (103 + (avInt (cellAt r56 0)))))), (.v (.int .i64 (avInt (cellAt r59 0))))])]))
                   (cond ((Int.tmod a0_0 5) == 4)
                     (some [(.agg [(.v (.int .u32 (IntKind.wrap .u32 (0 - (Int.tmod a0_0 4))))), (.v (.int .i64 0)), (.v (.int .i64 0)), (.v (.int .i64 0)), (.v (.bool a0_4)), (.v (.int .u32 a0_5)), (.v (.int .u64 (IntKind.wrap .u64 (avInt (cellAt r6 0))))), (.v (.int .i64 (IntKind.wrap .i64 (103 + (avInt (cellAt r56 0)))))), (.v (.int .i64 (avInt (cellAt r59 0))))])])
                     (some [(.agg [(.v (.int .u32 a0_0)), (.v (.int .i64 0)), (.v (.int .i64 0)), (.v (.int .i64 0)), (.v (.bool a0_4)), (.v (.int .u32 a0_5)), (.v (.int .u64 (IntKind.wrap .u64 (avInt (cellAt r6 0))))), (.v (.int .i64 (IntKind.wrap .i64 (103 + (avInt (cellAt r56 0)))))), (.v (.int .i64 (avInt (cellAt r59 0))))])])))
                 (cond (!a0_4)
                   (cond ((Int.tmod a0_0 5) == 4)
                     (some [(.agg [(.v (.int .u32 (IntKind.wrap .u32 (0 - (Int.tmod a0_0 4))))), (.v (.int .i64 a0_1)), (.v (.int .i64 a0_2)), (.v (.int .i64 a0_3)), (.v (.bool a0_4)), (.v (.int .u32 (IntKind.wrap .u32 (Int.tdiv (Int.tmod a0_5 8) 7)))), (.v (.int .u64 (IntKind.wrap .u64 (avInt (cellAt r6 0))))), (.v (.int .i64 (IntKind.wrap .i64 (103 + (avInt (cellAt r56 0)))))), (.v (.int .i64 (avInt (cellAt r59 0))))])])
                     (some [(.agg [(.v (.int .u32 a0_0)), (.v (.int .i64 a0_1)), (.v (.int .i64 a0_2)), (.v (.int .i64 a0_3)), (.v (.bool a0_4)), (.v (.int .u32 (IntKind.wrap .u32 (Int.tdiv (Int.tmod a0_5 8) 7)))), (.v (.int .u64 (IntKind.wrap .u64 (avInt (cellAt r6 0))))), (.v (.int .i64 (IntKind.wrap .i64 (103 + (avInt (cellAt r56 0)))))), (.v (.int .i64 (avInt (cellAt r59 0))))])]))
                   (cond ((Int.tmod a0_0 5) == 4)
                     (some [(.agg [(.v (.int .u32 (IntKind.wrap .u32 (0 - (Int.tmod a0_0 4))))), (.v (.int .i64 a0_1)), (.v (.int .i64 a0_2)), (.v (.int .i64 a0_3)), (.v (.bool a0_4)), (.v (.int .u32 a0_5)), (.v (.int .u64 (IntKind.wrap .u64 (avInt (cellAt r6 0))))), (.v (.int .i64 (IntKind.wrap .i64 (103 + (avInt (cellAt r56 0)))))), (.v (.int .i64 (avInt (cellAt r59 0))))])])
                     (some [(.agg [(.v (.int .u32 a0_0)), (.v (.int .i64 a0_1)), (.v (.int .i64 a0_2)), (.v (.int .i64 a0_3)), (.v (.bool a0_4)), (.v (.int .u32 a0_5)), (.v (.int .u64 (IntKind.wrap .u64 (avInt (cellAt r6 0))))), (.v (.int .i64 (IntKind.wrap .i64 (103 + (avInt (cellAt r56 0)))))), (.v (.int .i64 (avInt (cellAt r59 0))))])]))))
               (cond (!a0_4)
                 (cond ((Int.tmod a0_0 5) == 4)
                   (some [(.agg [(.v (.int .u32 (IntKind.wrap .u32 (0 - (Int.tmod a0_0 4))))), (.v (.int .i64 a0_1)), (.v (.int .i64 a0_2)), (.v (.int .i64 a0_3)), (.v (.bool a0_4)), (.v (.int .u32 (IntKind.wrap .u32 (Int.tdiv (Int.tmod a0_5 8) 7)))), (.v (.int .u64 (IntKind.wrap .u64 (avInt (cellAt r6 0))))), (.v (.int .i64 (IntKind.wrap .i64 (103 + (avInt (cellAt r56 0)))))), (.v (.int .i64 (avInt (cellAt r59 0))))])])
                   (some [(.agg [(.v (.int .u32 a0_0)), (.v (.int .i64 a0_1)), (.v (.int .i64 a0_2)), (.v (.int .i64 a0_3)), (.v (.bool a0_4)), (.v (.int .u32 (IntKind.wrap .u32 (Int.tdiv (Int.tmod a0_5 8) 7)))), (.v (.int .u64 (IntKind.wrap .u64 (avInt (cellAt r6 0))))), (.v (.int .i64 (IntKind.wrap .i64 (103 + (avInt (cellAt r56 0)))))), (.v (.int .i64 (avInt (cellAt r59 0))))])]))
                 (cond ((Int.tmod a0_0 5) == 4)
                   (some [(.agg [(.v (.int .u32 (IntKind.wrap .u32 (0 - (Int.tmod a0_0 4))))), (.v (.int .i64 a0_1)), (.v (.int .i64 a0_2)), (.v (.int .i64 a0_3)), (.v (.bool a0_4)), (.v (.int .u32 a0_5)), (.v (.int .u64 (IntKind.wrap .u64 (avInt (cellAt r6 0))))), (.v (.int .i64 (IntKind.wrap .i64 (103 + (avInt (cellAt r56 0)))))), (.v (.int .i64 (avInt (cellAt r59 0))))])])
                   (some [(.agg [(.v (.int .u32 a0_0)), (.v (.int .i64 a0_1)), (.v (.int .i64 a0_2)), (.v (.int .i64 a0_3)), (.v (.bool a0_4)), (.v (.int .u32 a0_5)), (.v (.int .u64 (IntKind.wrap .u64 (avInt (cellAt r6 0))))), (.v (.int .i64 (IntKind.wrap .i64 (103 + (avInt (cellAt r56 0)))))), (.v (.int .i64 (avInt (cellAt r59 0))))])]))))
             (none))
           (none)))
       (none)))
   (none) := (ev_eq _ _).trans (by kernel_rfl)
-- "bodega/record.Read"
theorem ev16 (a0_0 : Int) (a0_1 : Int) (a0_2 : Int) (a0_3 : Int) (a0_4 : Int) (a0_5 : Int) (a0_6 : Int) (a0_7 : Int) (a0_8 : Int) : ev 16 [(.agg [(.v (.int .i64 a0_0)), (.v (.int .u64 a0_1)), (.v (.int .u64 a0_2)), (.v (.int .u64 a0_3)), (.v (.int .u64 a0_4)), (.v (.int .u64 a0_5)), (.v (.int .u64 a0_6)), (.v (.int .u64 a0_7)), (.v (.int .u64 a0_8))])] =
  (ev 25 [(.v (.int .u64 a0_2))]).bind fun r0 =>
  cond ((Ev.isAgg 3 (cellAt r0 0)) && ((isI .i64 (cellAt (obCells (cellAt r0 0)) 0)) && ((isI .i64 (cellAt (obCells (cellAt r0 0)) 1)) && (isI .u32 (cellAt (obCells (cellAt r0 0)) 2)))))
   (cond (!((avInt (cellAt (obCells (cellAt r0 0)) 0)) == 1))
     (some [(.agg [(.v (.int .u32 0)), (.v (.int .i64 0)), (.v (.int .i64 0)), (.v (.int .i64 0)), (.v (.bool false)), (.v (.int .u32 0)), (.v (.int .u64 0)), (.v (.int .i64 0)), (.v (.int .i64 0))]), (.v (.int .i64 14))])
     (cond (ltI 1 (avInt (cellAt (obCells (cellAt r0 0)) 2)))
       (some [(.agg [(.v (.int .u32 0)), (.v (.int .i64 0)), (.v (.int .i64 0)), (.v (.int .i64 0)), (.v (.bool false)), (.v (.int .u32 0)), (.v (.int .u64 0)), (.v (.int .i64 0)), (.v (.int .i64 0))]), (.v (.int .i64 14))])
       (cond (!((IntKind.wrap .u32 (Int.fdiv a0_3 4294967296)) == 0))
         ((ev 33 [(.v (.int .u32 (IntKind.wrap .u32 (Int.fdiv a0_3 4294967296))))]).bind fun r11 =>
          cond ((Ev.isAgg 2 (cellAt r11 0)) && ((isI .i64 (cellAt (obCells (cellAt r11 0)) 0)) && (isI .i64 (cellAt (obCells (cellAt r11 0)) 1))))
           (cond ((avInt (cellAt (obCells (cellAt r0 0)) 2)) == 1)
             ((ev 21 [(.agg [(.v (.int .u32 (IntKind.wrap .u32 a0_3))), (.v (.int .i64 0)), (.v (.int .i64 0)), (.v (.int .i64 0)), (.v (.bool ((avInt (cellAt (obCells (cellAt r0 0)) 2)) == 1))), (.v (.int .u32 (IntKind.wrap .u32 a0_4))), (.v (.int .u64 a0_7)), (.v (.int .i64 (avInt (cellAt (obCells (cellAt r11 0)) 0)))), (.v (.int .i64 (avInt (cellAt (obCells (cellAt r11 0)) 1))))])]).bind fun r15 =>
              cond (isB (cellAt r15 0))
               (cond (!(avBool (cellAt r15 0)))
                 (some [(.agg [(.v (.int .u32 0)), (.v (.int .i64 0)), (.v (.int .i64 0)), (.v (.int .i64 0)), (.v (.bool false)), (.v (.int .u32 0)), (.v (.int .u64 0)), (.v (.int .i64 0)), (.v (.int .i64 0))]), (.v (.int .i64 14))])
                 ((ev 34 [(.agg [(.v (.int .i64 a0_0)), (.v (.int .u64 a0_1)), (.v (.int .u64 a0_2)), (.v (.int .u64 a0_3)), (.v (.int .u64 a0_4)), (.v (.int .u64 a0_5)), (.v (.int .u64 a0_6)), (.v (.int .u64 a0_7)), (.v (.int .u64 a0_8))]), (.agg [(.v (.int .u32 (IntKind.wrap .u32 a0_3))), (.v (.int .i64 0)), (.v (.int .i64 0)), (.v (.int .i64 0)), (.v (.bool ((avInt (cellAt (obCells (cellAt r0 0)) 2)) == 1))), (.v (.int .u32 (IntKind.wrap .u32 a0_4))), (.v (.int .u64 a0_7)), (.v (.int .i64 (avInt (cellAt (obCells (cellAt r11 0)) 0)))), (.v (.int .i64 (avInt (cellAt (obCells (cellAt r11 0)) 1))))])]).bind fun r18 =>
                  cond ((Ev.isAgg 9 (cellAt r18 0)) && ((isI .i64 (cellAt (obCells (cellAt r18 0)) 0)) && ((isI .u64 (cellAt (obCells (cellAt r18 0)) 1)) && ((isI .u64 (cellAt (obCells (cellAt r18 0)) 2)) && ((isI .u64 (cellAt (obCells (cellAt r18 0)) 3)) && ((isI .u64 (cellAt (obCells (cellAt r18 0)) 4)) && ((isI .u64 (cellAt (obCells (cellAt r18 0)) 5)) && ((isI .u64 (cellAt (obCells (cellAt r18 0)) 6)) && ((isI .u64 (cellAt (obCells (cellAt r18 0)) 7)) && (isI .u64 (cellAt (obCells (cellAt r18 0)) 8)))))))))))
                   (cond (!(((avInt (cellAt (obCells (cellAt r18 0)) 2)) == a0_2) && (((avInt (cellAt (obCells (cellAt r18 0)) 3)) == a0_3) && (((avInt (cellAt (obCells (cellAt r18 0)) 4)) == a0_4) && (((avInt (cellAt (obCells (cellAt r18 0)) 5)) == a0_5) && (((avInt (cellAt (obCells (cellAt r18 0)) 6)) == a0_6) && (((avInt (cellAt (obCells (cellAt r18 0)) 7)) == a0_7) && ((avInt (cellAt (obCells (cellAt r18 0)) 8)) == a0_8))))))))
                     (some [(.agg [(.v (.int .u32 0)), (.v (.int .i64 0)), (.v (.int .i64 0)), (.v (.int .i64 0)), (.v (.bool false)), (.v (.int .u32 0)), (.v (.int .u64 0)), (.v (.int .i64 0)), (.v (.int .i64 0))]), (.v (.int .i64 14))])
                     (some [(.agg [(.v (.int .u32 (IntKind.wrap .u32 a0_3))), (.v (.int .i64 0)), (.v (.int .i64 0)), (.v (.int .i64 0)), (.v (.bool ((avInt (cellAt (obCells (cellAt r0 0)) 2)) == 1))), (.v (.int .u32 (IntKind.wrap .u32 a0_4))), (.v (.int .u64 a0_7)), (.v (.int .i64 (avInt (cellAt (obCells (cellAt r11 0)) 0)))), (.v (.int .i64 (avInt (cellAt (obCells (cellAt r11 0)) 1))))]), (.v (.int .i64 0))]))
                   (none)))
               (none))
             ((ev 21 [(.agg [(.v (.int .u32 (IntKind.wrap .u32 a0_3))), (.v (.int .i64 (IntKind.wrap .i64 a0_4))), (.v (.int .i64 (IntKind.wrap .i64 a0_5))), (.v (.int .i64 (IntKind.wrap .i64 a0_6))), (.v (.bool ((avInt (cellAt (obCells (cellAt r0 0)) 2)) == 1))), (.v (.int .u32 0)), (.v (.int .u64 a0_7)), (.v (.int .i64 (avInt (cellAt (obCells (cellAt r11 0)) 0)))), (.v (.int .i64 (avInt (cellAt (obCells (cellAt r11 0)) 1))))])]).bind fun r44 =>
              cond (isB (cellAt r44 0))
               (cond (!(avBool (cellAt r44 0)))
                 (some [(.agg [(.v (.int .u32 0)), (.v (.int .i64 0)), (.v (.int .i64 0)), (.v (.int .i64 0)), (.v (.bool false)), (.v (.int .u32 0)), (.v (.int .u64 0)), (.v (.int .i64 0)), (.v (.int .i64 0))]), (.v (.int .i64 14))])
                 ((ev 34 [(.agg [(.v (.int .i64 a0_0)), (.v (.int .u64 a0_1)), (.v (.int .u64 a0_2)), (.v (.int .u64 a0_3)), (.v (.int .u64 a0_4)), (.v (.int .u64 a0_5)), (.v (.int .u64 a0_6)), (.v (.int .u64 a0_7)), (.v (.int .u64 a0_8))]), (.agg [(.v (.int .u32 (IntKind.wrap .u32 a0_3))), (.v (.int .i64 (IntKind.wrap .i64 a0_4))), (.v (.int .i64 (IntKind.wrap .i64 a0_5))), (.v (.int .i64 (IntKind.wrap .i64 a0_6))), (.v (.bool ((avInt (cellAt (obCells (cellAt r0 0)) 2)) == 1))), (.v (.int .u32 0)), (.v (.int .u64 a0_7)), (.v (.int .i64 (avInt (cellAt (obCells (cellAt r11 0)) 0)))), (.v (.int .i64 (avInt (cellAt (obCells (cellAt r11 0)) 1))))])]).bind fun r47 =>
                  cond ((Ev.isAgg 9 (cellAt r47 0)) && ((isI .i64 (cellAt (obCells (cellAt r47 0)) 0)) && ((isI .u64 (cellAt (obCells (cellAt r47 0)) 1)) && ((isI .u64 (cellAt (obCells (cellAt r47 0)) 2)) && ((isI .u64 (cellAt (obCells (cellAt r47 0)) 3)) && ((isI .u64 (cellAt (obCells (cellAt r47 0)) 4)) && ((isI .u64 (cellAt (obCells (cellAt r47 0)) 5)) && ((isI .u64 (cellAt (obCells (cellAt r47 0)) 6)) && ((isI .u64 (cellAt (obCells (cellAt r47 0)) 7)) && (isI .u64 (cellAt (obCells (cellAt r47 0)) 8)))))))))))
                   (cond (!(((avInt (cellAt (obCells (cellAt r47 0)) 2)) == a0_2) && (((avInt (cellAt (obCells (cellAt r47 0)) 3)) == a0_3) && (((avInt (cellAt (obCells (cellAt r47 0)) 4)) == a0_4) && (((avInt (cellAt (obCells (cellAt r47 0)) 5)) == a0_5) && (((avInt (cellAt (obCells (cellAt r47 0)) 6)) == a0_6) && (((avInt (cellAt (obCells (cellAt r47 0)) 7)) == a0_7) && ((avInt (cellAt (obCells (cellAt r47 0)) 8)) == a0_8))))))))
                     (some [(.agg [(.v (.int .u32 0)), (.v (.int .i64 0)), (.v (.int .i64 0)), (.v (.int .i64 0)), (.v (.bool false)), (.v (.int .u32 0)), (.v (.int .u64 0)), (.v (.int .i64 0)), (.v (.int .i64 0))]), (.v (.int .i64 14))])
                     (some [(.agg [(.v (.int .u32 (IntKind.wrap .u32 a0_3))), (.v (.int .i64 (IntKind.wrap .i64 a0_4))), (.v (.int .i64 (IntKind.wrap .i64 a0_5))), (.v (.int .i64 (IntKind.wrap .i64 a0_6))), (.v (.bool ((avInt (cellAt (obCells (cellAt r0 0)) 2)) == 1))), (.v (.int .u32 0)), (.v (.int .u64 a0_7)), (.v (.int .i64 (avInt (cellAt (obCells (cellAt r11 0)) 0)))), (.v (.int .i64 (avInt (cellAt (obCells (cellAt r11 0)) 1))))]), (.v (.int .i64 0))]))
                   (none)))
               (none)))
           (none))
         (cond ((avInt (cellAt (obCells (cellAt r0 0)) 2)) == 1)
           ((ev 21 [(.agg [(.v (.int .u32 (IntKind.wrap .u32 a0_3))), (.v (.int .i64 0)), (.v (.int .i64 0)), (.v (.int .i64 0)), (.v (.bool ((avInt (cellAt (obCells (cellAt r0 0)) 2)) == 1))), (.v (.int .u32 (IntKind.wrap .u32 a0_4))), (.v (.int .u64 a0_7)), (.v (.int .i64 0)), (.v (.int .i64 0))])]).bind fun r60 =>
            cond (isB (cellAt r60 0))
             (cond (!(avBool (cellAt r60 0)))
               (some [(.agg [(.v (.int .u32 0)), (.v (.int .i64 0)), (.v (.int .i64 0)), (.v (.int .i64 0)), (.v (.bool false)), (.v (.int .u32 0)), (.v (.int .u64 0)), (.v (.int .i64 0)), (.v (.int .i64 0))]), (.v (.int .i64 14))])
               ((ev 34 [(.agg [(.v (.int .i64 a0_0)), (.v (.int .u64 a0_1)), (.v (.int .u64 a0_2)), (.v (.int .u64 a0_3)), (.v (.int .u64 a0_4)), (.v (.int .u64 a0_5)), (.v (.int .u64 a0_6)), (.v (.int .u64 a0_7)), (.v (.int .u64 a0_8))]), (.agg [(.v (.int .u32 (IntKind.wrap .u32 a0_3))), (.v (.int .i64 0)), (.v (.int .i64 0)), (.v (.int .i64 0)), (.v (.bool ((avInt (cellAt (obCells (cellAt r0 0)) 2)) == 1))), (.v (.int .u32 (IntKind.wrap .u32 a0_4))), (.v (.int .u64 a0_7)), (.v (.int .i64 0)), (.v (.int .i64 0))])]).bind fun r63 =>
                cond ((Ev.isAgg 9 (cellAt r63 0)) && ((isI .i64 (cellAt (obCells (cellAt r63 0)) 0)) && ((isI .u64 (cellAt (obCells (cellAt r63 0)) 1)) && ((isI .u64 (cellAt (obCells (cellAt r63 0)) 2)) && ((isI .u64 (cellAt (obCells (cellAt r63 0)) 3)) && ((isI .u64 (cellAt (obCells (cellAt r63 0)) 4)) && ((isI .u64 (cellAt (obCells (cellAt r63 0)) 5)) && ((isI .u64 (cellAt (obCells (cellAt r63 0)) 6)) && ((isI .u64 (cellAt (obCells (cellAt r63 0)) 7)) && (isI .u64 (cellAt (obCells (cellAt r63 0)) 8)))))))))))
                 (cond (!(((avInt (cellAt (obCells (cellAt r63 0)) 2)) == a0_2) && (((avInt (cellAt (obCells (cellAt r63 0)) 3)) == a0_3) && (((avInt (cellAt (obCells (cellAt r63 0)) 4)) == a0_4) && (((avInt (cellAt (obCells (cellAt r63 0)) 5)) == a0_5) && (((avInt (cellAt (obCells (cellAt r63 0)) 6)) == a0_6) && (((avInt (cellAt (obCells (cellAt r63 0)) 7)) == a0_7) && ((avInt (cellAt (obCells (cellAt r63 0)) 8)) == a0_8))))))))
                   (some [(.agg [(.v (.int .u32 0)), (.v (.int .i64 0)), (.v (.int .i64 0)), (.v (.int .i64 0)), (.v (.bool false)), (.v (.int .u32 0)), (.v (.int .u64 0)), (.v (.int .i64 0)), (.v (.int .i64 0))]), (.v (.int .i64 14))])
                   (some [(.agg [(.v (.int .u32 (IntKind.wrap .u32 a0_3))), (.v (.int .i64 0)), (.v (.int .i64 0)), (.v (.int .i64 0)), (.v (.bool ((avInt (cellAt (obCells (cellAt r0 0)) 2)) == 1))), (.v (.int .u32 (IntKind.wrap .u32 a0_4))), (.v (.int .u64 a0_7)), (.v (.int .i64 0)), (.v (.int .i64 0))]), (.v (.int .i64 0))]))
                 (none)))
             (none))
           ((ev 21 [(.agg [(.v (.int .u32 (IntKind.wrap .u32 a0_3))), (.v (.int .i64 (IntKind.wrap .i64 a0_4))), (.v (.int .i64 (IntKind.wrap .i64 a0_5))), (.v (.int .i64 (IntKind.wrap .i64 a0_6))), (.v (.bool ((avInt (cellAt (obCells (cellAt r0 0)) 2)) == 1))), (.v (.int .u32 0)), (.v (.int .u64 a0_7)), (.v (.int .i64 0)), (.v (.int .i64 0))])]).bind fun r89 =>
            cond (isB (cellAt r89 0))
             (cond (!(avBool (cellAt r89 0)))
               (some [(.agg [(.v (.int .u32 0)), (.v (.int .i64 0)), (.v (.int .i64 0)), (.v (.int .i64 0)), (.v (.bool false)), (.v (.int .u32 0)), (.v (.int .u64 0)), (.v (.int .i64 0)), (.v (.int .i64 0))]), (.v (.int .i64 14))])
               ((ev 34 [(.agg [(.v (.int .i64 a0_0)), (.v (.int .u64 a0_1)), (.v (.int .u64 a0_2)), (.v (.int .u64 a0_3)), (.v (.int .u64 a0_4)), (.v (.int .u64 a0_5)), (.v (.int .u64 a0_6)), (.v (.int .u64 a0_7)), (.v (.int .u64 a0_8))]), (.agg [(.v (.int .u32 (IntKind.wrap .u32 a0_3))), (.v (.int .i64 (IntKind.wrap .i64 a0_4))), (.v (.int .i64 (IntKind.wrap .i64 a0_5))), (.v (.int .i64 (IntKind.wrap .i64 a0_6))), (.v (.bool ((avInt (cellAt (obCells (cellAt r0 0)) 2)) == 1))), (.v (.int .u32 0)), (.v (.int .u64 a0_7)), (.v (.int .i64 0)), (.v (.int .i64 0))])]).bind fun r92 =>
                cond ((Ev.isAgg 9 (cellAt r92 0)) && ((isI .i64 (cellAt (obCells (cellAt r92 0)) 0)) && ((isI .u64 (cellAt (obCells (cellAt r92 0)) 1)) && ((isI .u64 (cellAt (obCells (cellAt r92 0)) 2)) && ((isI .u64 (cellAt (obCells (cellAt r92 0)) 3)) && ((isI .u64 (cellAt (obCells (cellAt r92 0)) 4)) && ((isI .u64 (cellAt (obCells (cellAt r92 0)) 5)) && ((isI .u64 (cellAt (obCells (cellAt r92 0)) 6)) && ((isI .u64 (cellAt (obCells (cellAt r92 0)) 7)) && (isI .u64 (cellAt (obCells (cellAt r92 0)) 8)))))))))))
                 (cond (!(((avInt (cellAt (obCells (cellAt r92 0)) 2)) == a0_2) && (((avInt (cellAt (obCells (cellAt r92 0)) 3)) == a0_3) && (((avInt (cellAt (obCells (cellAt r92 0)) 4)) == a0_4) && (((avInt (cellAt (obCells (cellAt r92 0)) 5)) == a0_5) && (((avInt (cellAt (obCells (cellAt r92 0)) 6)) == a0_6) && (((avInt (cellAt (obCells (cellAt r92 0)) 7)) == a0_7) && ((avInt (cellAt (obCells (cellAt r92 0)) 8)) == a0_8))))))))
                   (some [(.agg [(.v (.int .u32 0)), (.v (.int .i64 0)), (.v (.int .i64 0)), (.v (.int .i64 0)), (.v (.bool false)), (.v (.int .u32 0)), (.v (.int .u64 0)), (.v (.int .i64 0)), (.v (.int .i64 0))]), (.v (.int .i64 14))])
                   (some [(.agg [(.v (.int .u32 (IntKind.wrap .u32 a0_3))), (.v (.int .i64 (IntKind.wrap .i64 a0_4))), (.v (.int .i64 (IntKind.wrap .i64 a0_5))), (.v (.int .i64 (IntKind.wrap .i64 a0_6))), (.v (.bool ((avInt (cellAt (obCells (cellAt r0 0)) 2)) == 1))), (.v (.int .u32 0)), (.v (.int .u64 a0_7)), (.v (.int .i64 0)), (.v (.int .i64 0))]), (.v (.int .i64 0))]))
                 (none)))
             (none))))))
   (none) := (ev_eq _ _).trans (by kernel_rfl)
-- "bodega/bodegaref19.ReadRecord"
theorem ev17 (a0_0 : Int) (a0_1 : Int) (a0_2 : Int) (a0_3 : Int) (a0_4 : Int) (a0_5 : Int) (a0_6 : Int) (a0_7 : Int) (a0_8 : Int) : ev 17 [(.agg [(.v (.int .i64 a0_0)), (.v (.int .u64 a0_1)), (.v (.int .u64 a0_2)), (.v (.int .u64 a0_3)), (.v (.int .u64 a0_4)), (.v (.int .u64 a0_5)), (.v (.int .u64 a0_6)), (.v (.int .u64 a0_7)), (.v (.int .u64 a0_8))])] =
  (ev 35 [(.agg [(.v (.int .i64 a0_0)), (.v (.int .u64 a0_1)), (.v (.int .u64 a0_2)), (.v (.int .u64 a0_3)), (.v (.int .u64 a0_4)), (.v (.int .u64 a0_5)), (.v (.int .u64 a0_6)), (.v (.int .u64 a0_7)), (.v (.int .u64 a0_8))])]).bind fun r1 =>
  cond (isI .u32 (cellAt r1 0))
   ((ev 36 [(.agg [(.v (.int .i64 a0_0)), (.v (.int .u64 a0_1)), (.v (.int .u64 a0_2)), (.v (.int .u64 a0_3)), (.v (.int .u64 a0_4)), (.v (.int .u64 a0_5)), (.v (.int .u64 a0_6)), (.v (.int .u64 a0_7)), (.v (.int .u64 a0_8))])]).bind fun r6 =>
    cond (isI .i64 (cellAt r6 0))
     (cond (!((avInt (cellAt r6 0)) == 1))
       (some [(.agg [(.v (.int .u32 0)), (.v (.int .i64 0)), (.v (.int .i64 0)), (.v (.int .i64 0)), (.v (.bool false)), (.v (.int .u32 0)), (.v (.int .u64 0)), (.v (.int .i64 0)), (.v (.int .i64 0))]), (.v (.int .i64 14))])
       ((ev 35 [(.agg [(.v (.int .i64 a0_0)), (.v (.int .u64 a0_1)), (.v (.int .u64 a0_2)), (.v (.int .u64 a0_3)), (.v (.int .u64 a0_4)), (.v (.int .u64 a0_5)), (.v (.int .u64 a0_6)), (.v (.int .u64 a0_7)), (.v (.int .u64 a0_8))])]).bind fun r9 =>
        cond (isI .u32 (cellAt r9 0))
         (cond (ltI 1 (avInt (cellAt r9 0)))
           (some [(.agg [(.v (.int .u32 0)), (.v (.int .i64 0)), (.v (.int .i64 0)), (.v (.int .i64 0)), (.v (.bool false)), (.v (.int .u32 0)), (.v (.int .u64 0)), (.v (.int .i64 0)), (.v (.int .i64 0))]), (.v (.int .i64 14))])
           (cond (!(a0_8 == 0))
             (some [(.agg [(.v (.int .u32 0)), (.v (.int .i64 0)), (.v (.int .i64 0)), (.v (.int .i64 0)), (.v (.bool false)), (.v (.int .u32 0)), (.v (.int .u64 0)), (.v (.int .i64 0)), (.v (.int .i64 0))]), (.v (.int .i64 14))])
             ((ev 37 [(.v (.int .u32 (IntKind.wrap .u32 (Int.fdiv a0_3 4294967296))))]).bind fun r13 =>
              cond (isB (cellAt r13 0))
               (cond (!(avBool (cellAt r13 0)))
                 (some [(.agg [(.v (.int .u32 0)), (.v (.int .i64 0)), (.v (.int .i64 0)), (.v (.int .i64 0)), (.v (.bool false)), (.v (.int .u32 0)), (.v (.int .u64 0)), (.v (.int .i64 0)), (.v (.int .i64 0))]), (.v (.int .i64 14))])
                 (cond (!((IntKind.wrap .u32 (Int.fdiv a0_3 4294967296)) == 0))
                   ((ev 38 [(.v (.int .u32 (IntKind.wrap .u32 (Int.fdiv a0_3 4294967296))))]).bind fun r17 =>
                    cond ((Ev.isAgg 2 (cellAt r17 0)) && ((isI .i64 (cellAt (obCells (cellAt r17 0)) 0)) && (isI .i64 (cellAt (obCells (cellAt r17 0)) 1))))
                     (cond ((avInt (cellAt r1 0)) == 1)
                       (cond (leI 4294967296 a0_4)
                         (some [(.agg [(.v (.int .u32 0)), (.v (.int .i64 0)), (.v (.int .i64 0)), (.v (.int .i64 0)), (.v (.bool false)), (.v (.int .u32 0)), (.v (.int .u64 0)), (.v (.int .i64 0)), (.v (.int .i64 0))]), (.v (.int .i64 14))])
                         (cond (!(a0_5 == 0))
                           (some [(.agg [(.v (.int .u32 0)), (.v (.int .i64 0)), (.v (.int .i64 0)), (.v (.int .i64 0)), (.v (.bool false)), (.v (.int .u32 0)), (.v (.int .u64 0)), (.v (.int .i64 0)), (.v (.int .i64 0))]), (.v (.int .i64 14))])
                           (cond (!(a0_6 == 0))
                             (some [(.agg [(.v (.int .u32 0)), (.v (.int .i64 0)), (.v (.int .i64 0)), (.v (.int .i64 0)), (.v (.bool false)), (.v (.int .u32 0)), (.v (.int .u64 0)), (.v (.int .i64 0)), (.v (.int .i64 0))]), (.v (.int .i64 14))])
                             ((ev 22 [(.agg [(.v (.int .u32 (IntKind.wrap .u32 a0_3))), (.v (.int .i64 0)), (.v (.int .i64 0)), (.v (.int .i64 0)), (.v (.bool ((avInt (cellAt r1 0)) == 1))), (.v (.int .u32 (IntKind.wrap .u32 a0_4))), (.v (.int .u64 a0_7)), (.v (.int .i64 (avInt (cellAt (obCells (cellAt r17 0)) 0)))), (.v (.int .i64 (avInt (cellAt (obCells (cellAt r17 0)) 1))))])]).bind fun r24 =>
                              cond (isB (cellAt r24 0))
                               (cond (!(avBool (cellAt r24 0)))
                                 (some [(.agg [(.v (.int .u32 0)), (.v (.int .i64 0)), (.v (.int .i64 0)), (.v (.int .i64 0)), (.v (.bool false)), (.v (.int .u32 0)), (.v (.int .u64 0)), (.v (.int .i64 0)), (.v (.int .i64 0))]), (.v (.int .i64 14))])
                                 (some [(.agg [(.v (.int .u32 (IntKind.wrap .u32 a0_3))), (.v (.int .i64 0)), (.v (.int .i64 0)), (.v (.int .i64 0)), (.v (.bool ((avInt (cellAt r1 0)) == 1))), (.v (.int .u32 (IntKind.wrap .u32 a0_4))), (.v (.int .u64 a0_7)), (.v (.int .i64 (avInt (cellAt (obCells (cellAt r17 0)) 0)))), (.v (.int .i64 (avInt (cellAt (obCells (cellAt r17 0)) 1))))]), (.v (.int .i64 0))]))
                               (none)))))
                       ((lp 17 0 0 ⟨[(1, (.ptr 0 0 0)), (2, (.ptr 1 0 0)), (4, (.ptr 2 0 0)), (6, (.v (.int .i64 0)))], [⟨1, 34, 9, true, [[(.v (.int .i64 a0_0)), (.v (.int .u64 a0_1)), (.v (.int .u64 a0_2)), (.v (.int .u64 a0_3)), (.v (.int .u64 a0_4)), (.v (.int .u64 a0_5)), (.v (.int .u64 a0_6)), (.v (.int .u64 a0_7)), (.v (.int .u64 a0_8))]]⟩, ⟨1, 51, 9, true, [[(.v (.int .u32 0)), (.v (.int .i64 0)), (.v (.int .i64 0)), (.v (.int .i64 0)), (.v (.bool false)), (.v (.int .u32 0)), (.v (.int .u64 0)), (.v (.int .i64 0)), (.v (.int .i64 0))]]⟩, ⟨1, 51, 9, true, [[(.v (.int .u32 (IntKind.wrap .u32 a0_3))), (.v (.int .i64 0)), (.v (.int .i64 0)), (.v (.int .i64 0)), (.v (.bool ((avInt (cellAt r1 0)) == 1))), (.v (.int .u32 0)), (.v (.int .u64 a0_7)), (.v (.int .i64 (avInt (cellAt (obCells (cellAt r17 0)) 0)))), (.v (.int .i64 (avInt (cellAt (obCells (cellAt r17 0)) 1))))]]⟩]⟩).bind fun r28 =>
                        cond (isEx 0 r28)
                         (cond (likeStG ⟨[(2, (.ptr 0 0 0)), (4, (.ptr 1 0 0))], [⟨1, 51, 9, true, [[(.v (.int .u32 0)), (.v (.int .i64 0)), (.v (.int .i64 0)), (.v (.int .i64 0)), (.v (.bool false)), (.v (.int .u32 0)), (.v (.int .u64 0)), (.v (.int .i64 0)), (.v (.int .i64 0))]]⟩, ⟨1, 51, 9, true, [[(.v (.int .u32 (IntKind.wrap .u32 a0_3))), (.v (.int .i64 0)), (.v (.int .i64 0)), (.v (.int .i64 0)), (.v (.bool ((avInt (cellAt r1 0)) == 1))), (.v (.int .u32 0)), (.v (.int .u64 a0_7)), (.v (.int .i64 (avInt (cellAt (obCells (cellAt r17 0)) 0)))), (.v (.int .i64 (avInt (cellAt (obCells (cellAt r17 0)) 1))))]]⟩]⟩ r28.st)
                           ((ev 22 [(.agg [(.v (.int .u32 (avInt (cellAt (lget (blAt r28.st.bl 1).xs 0) 0)))), (.v (.int .i64 (avInt (cellAt (lget (blAt r28.st.bl 1).xs 0) 1)))), (.v (.int .i64 (avInt (cellAt (lget (blAt r28.st.bl 1).xs 0) 2)))), (.v (.int .i64 (avInt (cellAt (lget (blAt r28.st.bl 1).xs 0) 3)))), (.v (.bool (avBool (cellAt (lget (blAt r28.st.bl 1).xs 0) 4)))), (.v (.int .u32 (avInt (cellAt (lget (blAt r28.st.bl 1).xs 0) 5)))), (.v (.int .u64 (avInt (cellAt (lget (blAt r28.st.bl 1).xs 0) 6)))), (.v (.int .i64 (avInt (cellAt (lget (blAt r28.st.bl 1).xs 0) 7)))), (.v (.int .i64 (avInt (cellAt (lget (blAt r28.st.bl 1).xs 0) 8))))])]).bind fun r47 =>
                            cond (isB (cellAt r47 0))
                             (cond (!(avBool (cellAt r47 0)))
                               (some [(.agg [(.v (.int .u32 0)), (.v (.int .i64 0)), (.v (.int .i64 0)), (.v (.int .i64 0)), (.v (.bool false)), (.v (.int .u32 0)), (.v (.int .u64 0)), (.v (.int .i64 0)), (.v (.int .i64 0))]), (.v (.int .i64 14))])
                               (some [(.agg [(.v (.int .u32 (avInt (cellAt (lget (blAt r28.st.bl 1).xs 0) 0)))), (.v (.int .i64 (avInt (cellAt (lget (blAt r28.st.bl 1).xs 0) 1)))), (.v (.int .i64 (avInt (cellAt (lget (blAt r28.st.bl 1).xs 0) 2)))), (.v (.int .i64 (avInt (cellAt (lget (blAt r28.st.bl 1).xs 0) 3)))), (.v (.bool (avBool (cellAt (lget (blAt r28.st.bl 1).xs 0) 4)))), (.v (.int .u32 (avInt (cellAt (lget (blAt r28.st.bl 1).xs 0) 5)))), (.v (.int .u64 (avInt (cellAt (lget (blAt r28.st.bl 1).xs 0) 6)))), (.v (.int .i64 (avInt (cellAt (lget (blAt r28.st.bl 1).xs 0) 7)))), (.v (.int .i64 (avInt (cellAt (lget (blAt r28.st.bl 1).xs 0) 8))))]), (.v (.int .i64 0))]))
                             (none))
                           (none))
                         (cond (isRt r28)
                           (some r28.outs)
                           (none))))
                     (none))
                   (cond ((avInt (cellAt r1 0)) == 1)
                     (cond (leI 4294967296 a0_4)
                       (some [(.agg [(.v (.int .u32 0)), (.v (.int .i64 0)), (.v (.int .i64 0)), (.v (.int .i64 0)), (.v (.bool false)), (.v (.int .u32 0)), (.v (.int .u64 0)), (.v (.int .i64 0)), (.v (.int .i64 0))]), (.v (.int .i64 14))])
                       (cond (!(a0_5 == 0))
                         (some [(.agg [(.v (.int .u32 0)), (.v (.int .i64 0)), (.v (.int .i64 0)), (.v (.int .i64 0)), (.v (.bool false)), (.v (.int .u32 0)), (.v (.int .u64 0)), (.v (.int .i64 0)), (.v (.int .i64 0))]), (.v (.int .i64 14))])
                         (cond (!(a0_6 == 0))
                           (some [(.agg [(.v (.int .u32 0)), (.v (.int .i64 0)), (.v (.int .i64 0)), (.v (.int .i64 0)), (.v (.bool false)), (.v (.int .u32 0)), (.v (.int .u64 0)), (.v (.int .i64 0)), (.v (.int .i64 0))]), (.v (.int .i64 14))])
                           ((ev 22 [(.agg [(.v (.int .u32 (IntKind.wrap .u32 a0_3))), (.v (.int .i64 0)), (.v (.int .i64 0)), (.v (.int .i64 0)), (.v (.bool ((avInt (cellAt r1 0)) == 1))), (.v (.int .u32 (IntKind.wrap .u32 a0_4))), (.v (.int .u64 a0_7)), (.v (.int .i64 0)), (.v (.int .i64 0))])]).bind fun r56 =>
                            cond (isB (cellAt r56 0))
                             (cond (!(avBool (cellAt r56 0)))
                               (some [(.agg [(.v (.int .u32 0)), (.v (.int .i64 0)), (.v (.int .i64 0)), (.v (.int .i64 0)), (.v (.bool false)), (.v (.int .u32 0)), (.v (.int .u64 0)), (.v (.int .i64 0)), (.v (.int .i64 0))]), (.v (.int .i64 14))])
                               (some [(.agg [(.v (.int .u32 (IntKind.wrap .u32 a0_3))), (.v (.int .i64 0)), (.v (.int .i64 0)), (.v (.int .i64 0)), (.v (.bool ((avInt (cellAt r1 0)) == 1))), (.v (.int .u32 (IntKind.wrap .u32 a0_4))), (.v (.int .u64 a0_7)), (.v (.int .i64 0)), (.v (.int .i64 0))]), (.v (.int .i64 0))]))
                             (none)))))
                     ((lp 17 0 0 ⟨[(1, (.ptr 0 0 0)), (2, (.ptr 1 0 0)), (4, (.ptr 2 0 0)), (6, (.v (.int .i64 0)))], [⟨1, 34, 9, true, [[(.v (.int .i64 a0_0)), (.v (.int .u64 a0_1)), (.v (.int .u64 a0_2)), (.v (.int .u64 a0_3)), (.v (.int .u64 a0_4)), (.v (.int .u64 a0_5)), (.v (.int .u64 a0_6)), (.v (.int .u64 a0_7)), (.v (.int .u64 a0_8))]]⟩, ⟨1, 51, 9, true, [[(.v (.int .u32 0)), (.v (.int .i64 0)), (.v (.int .i64 0)), (.v (.int .i64 0)), (.v (.bool false)), (.v (.int .u32 0)), (.v (.int .u64 0)), (.v (.int .i64 0)), (.v (.int .i64 0))]]⟩, ⟨1, 51, 9, true, [[(.v (.int .u32 (IntKind.wrap .u32 a0_3))), (.v (.int .i64 0)), (.v (.int .i64 0)), (.v (.int .i64 0)), (.v (.bool ((avInt (cellAt r1 0)) == 1))), (.v (.int .u32 0)), (.v (.int .u64 a0_7)), (.v (.int .i64 0)), (.v (.int .i64 0))]]⟩]⟩).bind fun r60 =>
                      cond (isEx 0 r60)
                       (cond (likeStG ⟨[(2, (.ptr 0 0 0)), (4, (.ptr 1 0 0))], [⟨1, 51, 9, true, [[(.v (.int .u32 0)), (.v (.int .i64 0)), (.v (.int .i64 0)), (.v (.int .i64 0)), (.v (.bool false)), (.v (.int .u32 0)), (.v (.int .u64 0)), (.v (.int .i64 0)), (.v (.int .i64 0))]]⟩, ⟨1, 51, 9, true, [[(.v (.int .u32 (IntKind.wrap .u32 a0_3))), (.v (.int .i64 0)), (.v (.int .i64 0)), (.v (.int .i64 0)), (.v (.bool ((avInt (cellAt r1 0)) == 1))), (.v (.int .u32 0)), (.v (.int .u64 a0_7)), (.v (.int .i64 0)), (.v (.int .i64 0))]]⟩]⟩ r60.st)
                         ((ev 22 [(.agg [(.v (.int .u32 (avInt (cellAt (lget (blAt r60.st.bl 1).xs 0) 0)))), (.v (.int .i64 (avInt (cellAt (lget (blAt r60.st.bl 1).xs 0) 1)))), (.v (.int .i64 (avInt (cellAt (lget (blAt r60.st.bl 1).xs 0) 2)))), (.v (.int .i64 (avInt (cellAt (lget (blAt r60.st.bl 1).xs 0) 3)))), (.v (.bool (avBool (cellAt (lget (blAt r60.st.bl 1).xs 0) 4)))), (.v (.int .u32 (avInt (cellAt (lget (blAt r60.st.bl 1).xs 0) 5)))), (.v (.int .u64 (avInt (cellAt (lget (blAt r60.st.bl 1).xs 0) 6)))), (.v (.int .i64 (avInt (cellAt (lget (blAt r60.st.bl 1).xs 0) 7)))), (.v (.int .i64 (avInt (cellAt (lget (blAt r60.st.bl 1).xs 0) 8))))])]).bind fun r79 =>
                          cond (isB (cellAt r79 0))
                           (cond (!(avBool (cellAt r79 0)))
                             (some [(.agg [(.v (.int .u32 0)), (.v (.int .i64 0)), (.v (.int .i64 0)), (.v (.int .i64 0)), (.v (.bool false)), (.v (.int .u32 0)), (.v (.int .u64 0)), (.v (.int .i64 0)), (.v (.int .i64 0))]), (.v (.int .i64 14))])
                             (some [(.agg [(.v (.int .u32 (avInt (cellAt (lget (blAt r60.st.bl 1).xs 0) 0)))), (.v (.int .i64 (avInt (cellAt (lget (blAt r60.st.bl 1).xs 0) 1)))), (.v (.int .i64 (avInt (cellAt (lget (blAt r60.st.bl 1).xs 0) 2)))), (.v (.int .i64 (avInt (cellAt (lget (blAt r60.st.bl 1).xs 0) 3)))), (.v (.bool (avBool (cellAt (lget (blAt r60.st.bl 1).xs 0) 4)))), (.v (.int .u32 (avInt (cellAt (lget (blAt r60.st.bl 1).xs 0) 5)))), (.v (.int .u64 (avInt (cellAt (lget (blAt r60.st.bl 1).xs 0) 6)))), (.v (.int .i64 (avInt (cellAt (lget (blAt r60.st.bl 1).xs 0) 7)))), (.v (.int .i64 (avInt (cellAt (lget (blAt r60.st.bl 1).xs 0) 8))))]), (.v (.int .i64 0))]))
                           (none))
                         (none))
                       (cond (isRt r60)
                         (some r60.outs)
                         (none))))))
               (none))))
         (none)))
     (none))
   (none) := (ev_eq _ _).trans (by kernel_rfl)
theorem lp17_0 (x6 : Int) (b0_0 : Int) (b0_1 : Int) (b0_2 : Int) (b0_3 : Int) (b0_4 : Int) (b0_5 : Int) (b0_6 : Int) (b0_7 : Int) (b0_8 : Int) (b1_0 : Int) (b1_1 : Int) (b1_2 : Int) (b1_3 : Int) (b1_4 : Bool) (b1_5 : Int) (b1_6 : Int) (b1_7 : Int) (b1_8 : Int) (b2_0 : Int) (b2_1 : Int) (b2_2 : Int) (b2_3 : Int) (b2_4 : Bool) (b2_5 : Int) (b2_6 : Int) (b2_7 : Int) (b2_8 : Int) : lp 17 0 0 ⟨[(1, (.ptr 0 0 0)), (2, (.ptr 1 0 0)), (4, (.ptr 2 0 0)), (6, (.v (.int .i64 x6)))], [⟨1, 34, 9, true, [[(.v (.int .i64 b0_0)), (.v (.int .u64 b0_1)), (.v (.int .u64 b0_2)), (.v (.int .u64 b0_3)), (.v (.int .u64 b0_4)), (.v (.int .u64 b0_5)), (.v (.int .u64 b0_6)), (.v (.int .u64 b0_7)), (.v (.int .u64 b0_8))]]⟩, ⟨1, 51, 9, true, [[(.v (.int .u32 b1_0)), (.v (.int .i64 b1_1)), (.v (.int .i64 b1_2)), (.v (.int .i64 b1_3)), (.v (.bool b1_4)), (.v (.int .u32 b1_5)), (.v (.int .u64 b1_6)), (.v (.int .i64 b1_7)), (.v (.int .i64 b1_8))]]⟩, ⟨1, 51, 9, true, [[(.v (.int .u32 b2_0)), (.v (.int .i64 b2_1)), (.v (.int .i64 b2_2)), (.v (.int .i64 b2_3)), (.v (.bool b2_4)), (.v (.int .u32 b2_5)), (.v (.int .u64 b2_6)), (.v (.int .i64 b2_7)), (.v (.int .i64 b2_8))]]⟩]⟩ =
  cond (ltI x6 3)
   (cond ((leI 0 (IntKind.wrap .i64 (2 + x6))) && (ltI (IntKind.wrap .i64 (2 + x6)) 7))
     (cond ((leI 0 x6) && (ltI x6 3))
       (lp 17 0 0 ⟨[(1, (.ptr 0 0 0)), (2, (.ptr 1 0 0)), (4, (.ptr 2 0 0)), (6, (.v (.int .i64 (IntKind.wrap .i64 (x6 + 1)))))], [⟨1, 34, 9, true, [[(.v (.int .i64 b0_0)), (.v (.int .u64 b0_1)), (.v (.int .u64 b0_2)), (.v (.int .u64 b0_3)), (.v (.int .u64 b0_4)), (.v (.int .u64 b0_5)), (.v (.int .u64 b0_6)), (.v (.int .u64 b0_7)), (.v (.int .u64 b0_8))]]⟩, ⟨1, 51, 9, true, [[(.v (.int .u32 b1_0)), (.v (.int .i64 b1_1)), (.v (.int .i64 b1_2)), (.v (.int .i64 b1_3)), (.v (.bool b1_4)), (.v (.int .u32 b1_5)), (.v (.int .u64 b1_6)), (.v (.int .i64 b1_7)), (.v (.int .i64 b1_8))]]⟩, ⟨1, 51, 9, true, [[(.v (.int .u32 b2_0)), (.v (.int .i64 (cond (Nat.beq (Int.toNat x6) 0) (IntKind.wrap .i64 (cond (Nat.beq (Int.toNat (IntKind.wrap .i64 (2 + x6))) 0) b0_2 (cond (Nat.beq (Int.toNat (IntKind.wrap .i64 (2 + x6))) 1) b0_3 (cond (Nat.beq (Int.toNat (IntKind.wrap .i64 (2 + x6))) 2) b0_4 (cond (Nat.beq (Int.toNat (IntKind.wrap .i64 (2 + x6))) 3) b0_5 (cond (Nat.beq (Int.toNat (IntKind.wrap .i64 (2 + x6))) 4) b0_6 (cond (Nat.beq (Int.toNat (IntKind.wrap .i64 (2 + x6))) 5) b0_7 b0_8))))))) b2_1))), (.v (.int .i64 (cond (Nat.beq (Int.toNat x6) 1) (IntKind.wrap .i64 (cond (Nat.beq (Int.toNat (IntKind.wrap .i64 (2 + x6))) 0) b0_2 (cond (Nat.beq (Int.toNat (IntKind.wrap .i64 (2 + x6))) 1) b0_3 (cond (Nat.beq (Int.toNat (IntKind.wrap .i64 (2 + x6))) 2) b0_4 (cond (Nat.beq (Int.toNat (IntKind.wrap .i64 (2 + x6))) 3) b0_5 (cond (Nat.beq (Int.toNat (IntKind.wrap .i64 (2 + x6))) 4) b0_6 (cond (Nat.beq (Int.toNat (IntKind.wrap .i64 (2 + x6))) 5) b0_7 b0_8))))))) b2_2))), (.v (.int .i64 (cond (Nat.beq (Int.toNat x6) 2) (IntKind.wrap .i64 (cond (Nat.beq (Int.toNat (IntKind.wrap .i64 (2 + x6))) 0) b0_2 (cond (Nat.beq (Int.toNat (IntKind.wrap .i64 (2 + x6))) 1) b0_3 (cond (Nat.beq (Int.toNat (IntKind.wrap .i64 (2 + x6))) 2) b0_4 (cond (Nat.beq (Int.toNat (IntKind.wrap .i64 (2 + x6))) 3) b0_5 (cond (Nat.beq (Int.toNat (IntKind.wrap .i64 (2 + x6))) 4) b0_6 (cond (Nat.beq (Int.toNat (IntKind.wrap .i64 (2 + x6))) 5) b0_7 b0_8))))))) b2_3))), (.v (.bool b2_4)), (.v (.int .u32 b2_5)), (.v (.int .u64 b2_6)), (.v (.int .i64 b2_7)), (.v (.int .i64 b2_8))]]⟩]⟩)
       (none))
     (none))
   (some ⟨(some 0), ⟨[(2, (.ptr 0 0 0)), (4, (.ptr 1 0 0))], [⟨1, 51, 9, true, [[(.v (.int .u32 b1_0)), (.v (.int .i64 b1_1)), (.v (.int .i64 b1_2)), (.v (.int .i64 b1_3)), (.v (.bool b1_4)), (.v (.int .u32 b1_5)), (.v (.int .u64 b1_6)), (.v (.int .i64 b1_7)), (.v (.int .i64 b1_8))]]⟩, ⟨1, 51, 9, true, [[(.v (.int .u32 b2_0)), (.v (.int .i64 b2_1)), (.v (.int .i64 b2_2)), (.v (.int .i64 b2_3)), (.v (.bool b2_4)), (.v (.int .u32 b2_5)), (.v (.int .u64 b2_6)), (.v (.int .i64 b2_7)), (.v (.int .i64 b2_8))]]⟩]⟩, []⟩) := (lp_eq _ _ _ _).trans (by kernel_rfl)
-- "bodega/record.Write"
theorem ev18 (a0_0 : Int) (a0_1 : Int) (a0_2 : Int) (a0_3 : Int) (a0_4 : Int) (a0_5 : Int) (a0_6 : Int) (a0_7 : Int) (a0_8 : Int) (a1_0 : Int) (a1_1 : Int) (a1_2 : Int) (a1_3 : Int) (a1_4 : Bool) (a1_5 : Int) (a1_6 : Int) (a1_7 : Int) (a1_8 : Int) : ev 18 [(.agg [(.v (.int .i64 a0_0)), (.v (.int .u64 a0_1)), (.v (.int .u64 a0_2)), (.v (.int .u64 a0_3)), (.v (.int .u64 a0_4)), (.v (.int .u64 a0_5)), (.v (.int .u64 a0_6)), (.v (.int .u64 a0_7)), (.v (.int .u64 a0_8))]), (.agg [(.v (.int .u32 a1_0)), (.v (.int .i64 a1_1)), (.v (.int .i64 a1_2)), (.v (.int .i64 a1_3)), (.v (.bool a1_4)), (.v (.int .u32 a1_5)), (.v (.int .u64 a1_6)), (.v (.int .i64 a1_7)), (.v (.int .i64 a1_8))])] =
  (ev 21 [(.agg [(.v (.int .u32 a1_0)), (.v (.int .i64 a1_1)), (.v (.int .i64 a1_2)), (.v (.int .i64 a1_3)), (.v (.bool a1_4)), (.v (.int .u32 a1_5)), (.v (.int .u64 a1_6)), (.v (.int .i64 a1_7)), (.v (.int .i64 a1_8))])]).bind fun r0 =>
  cond (isB (cellAt r0 0))
   (cond (!(avBool (cellAt r0 0)))
     (some [(.agg [(.v (.int .i64 0)), (.v (.int .u64 0)), (.v (.int .u64 0)), (.v (.int .u64 0)), (.v (.int .u64 0)), (.v (.int .u64 0)), (.v (.int .u64 0)), (.v (.int .u64 0)), (.v (.int .u64 0))]), (.v (.int .i64 1))])
     ((ev 25 [(.v (.int .u64 a0_2))]).bind fun r3 =>
      cond ((Ev.isAgg 3 (cellAt r3 0)) && ((isI .i64 (cellAt (obCells (cellAt r3 0)) 0)) && ((isI .i64 (cellAt (obCells (cellAt r3 0)) 1)) && (isI .u32 (cellAt (obCells (cellAt r3 0)) 2)))))
       (cond (!((avInt (cellAt (obCells (cellAt r3 0)) 0)) == 1))
         (some [(.agg [(.v (.int .i64 0)), (.v (.int .u64 0)), (.v (.int .u64 0)), (.v (.int .u64 0)), (.v (.int .u64 0)), (.v (.int .u64 0)), (.v (.int .u64 0)), (.v (.int .u64 0)), (.v (.int .u64 0))]), (.v (.int .i64 1))])
         ((ev 34 [(.agg [(.v (.int .i64 a0_0)), (.v (.int .u64 a0_1)), (.v (.int .u64 a0_2)), (.v (.int .u64 a0_3)), (.v (.int .u64 a0_4)), (.v (.int .u64 a0_5)), (.v (.int .u64 a0_6)), (.v (.int .u64 a0_7)), (.v (.int .u64 a0_8))]), (.agg [(.v (.int .u32 a1_0)), (.v (.int .i64 a1_1)), (.v (.int .i64 a1_2)), (.v (.int .i64 a1_3)), (.v (.bool a1_4)), (.v (.int .u32 a1_5)), (.v (.int .u64 a1_6)), (.v (.int .i64 a1_7)), (.v (.int .i64 a1_8))])]).bind fun r8 =>
          cond ((Ev.isAgg 9 (cellAt r8 0)) && ((isI .i64 (cellAt (obCells (cellAt r8 0)) 0)) && ((isI .u64 (cellAt (obCells (cellAt r8 0)) 1)) && ((isI .u64 (cellAt (obCells (cellAt r8 0)) 2)) && ((isI .u64 (cellAt (obCells (cellAt r8 0)) 3)) && ((isI .u64 (cellAt (obCells (cellAt r8 0)) 4)) && ((isI .u64 (cellAt (obCells (cellAt r8 0)) 5)) && ((isI .u64 (cellAt (obCells (cellAt r8 0)) 6)) && ((isI .u64 (cellAt (obCells (cellAt r8 0)) 7)) && (isI .u64 (cellAt (obCells (cellAt r8 0)) 8)))))))))))
           (some [(.agg [(.v (.int .i64 (avInt (cellAt (obCells (cellAt r8 0)) 0)))), (.v (.int .u64 (avInt (cellAt (obCells (cellAt r8 0)) 1)))), (.v (.int .u64 (avInt (cellAt (obCells (cellAt r8 0)) 2)))), (.v (.int .u64 (avInt (cellAt (obCells (cellAt r8 0)) 3)))), (.v (.int .u64 (avInt (cellAt (obCells (cellAt r8 0)) 4)))), (.v (.int .u64 (avInt (cellAt (obCells (cellAt r8 0)) 5)))), (.v (.int .u64 (avInt (cellAt (obCells (cellAt r8 0)) 6)))), (.v (.int .u64 (avInt (cellAt (obCells (cellAt r8 0)) 7)))), (.v (.int .u64 (avInt (cellAt (obCells (cellAt r8 0)) 8))))]), (.v (.int .i64 0))])
           (none)))
       (none)))
   (none) := (ev_eq _ _).trans (by kernel_rfl)
-- "bodega/bodegaref19.WriteRecord"
theorem ev19 (a0_0 : Int) (a0_1 : Int) (a0_2 : Int) (a0_3 : Int) (a0_4 : Int) (a0_5 : Int) (a0_6 : Int) (a0_7 : Int) (a0_8 : Int) (a1_0 : Int) (a1_1 : Int) (a1_2 : Int) (a1_3 : Int) (a1_4 : Bool) (a1_5 : Int) (a1_6 : Int) (a1_7 : Int) (a1_8 : Int) : ev 19 [(.agg [(.v (.int .i64 a0_0)), (.v (.int .u64 a0_1)), (.v (.int .u64 a0_2)), (.v (.int .u64 a0_3)), (.v (.int .u64 a0_4)), (.v (.int .u64 a0_5)), (.v (.int .u64 a0_6)), (.v (.int .u64 a0_7)), (.v (.int .u64 a0_8))]), (.agg [(.v (.int .u32 a1_0)), (.v (.int .i64 a1_1)), (.v (.int .i64 a1_2)), (.v (.int .i64 a1_3)), (.v (.bool a1_4)), (.v (.int .u32 a1_5)), (.v (.int .u64 a1_6)), (.v (.int .i64 a1_7)), (.v (.int .i64 a1_8))])] =
  (ev 22 [(.agg [(.v (.int .u32 a1_0)), (.v (.int .i64 a1_1)), (.v (.int .i64 a1_2)), (.v (.int .i64 a1_3)), (.v (.bool a1_4)), (.v (.int .u32 a1_5)), (.v (.int .u64 a1_6)), (.v (.int .i64 a1_7)), (.v (.int .i64 a1_8))])]).bind fun r0 =>
  cond (isB (cellAt r0 0))
   (cond (!(avBool (cellAt r0 0)))
     (some [(.agg [(.v (.int .i64 0)), (.v (.int .u64 0)), (.v (.int .u64 0)), (.v (.int .u64 0)), (.v (.int .u64 0)), (.v (.int .u64 0)), (.v (.int .u64 0)), (.v (.int .u64 0)), (.v (.int .u64 0))]), (.v (.int .i64 1))])
     ((ev 36 [(.agg [(.v (.int .i64 a0_0)), (.v (.int .u64 a0_1)), (.v (.int .u64 a0_2)), (.v (.int .u64 a0_3)), (.v (.int .u64 a0_4)), (.v (.int .u64 a0_5)), (.v (.int .u64 a0_6)), (.v (.int .u64 a0_7)), (.v (.int .u64 a0_8))])]).bind fun r3 =>
      cond (isI .i64 (cellAt r3 0))
       (cond (!((avInt (cellAt r3 0)) == 1))
         (some [(.agg [(.v (.int .i64 0)), (.v (.int .u64 0)), (.v (.int .u64 0)), (.v (.int .u64 0)), (.v (.int .u64 0)), (.v (.int .u64 0)), (.v (.int .u64 0)), (.v (.int .u64 0)), (.v (.int .u64 0))]), (.v (.int .i64 1))])
         (cond a1_4
           ((ev 40 [(.agg [(.v (.int .i64 a0_0)), (.v (.int .u64 a0_1)), (.v (.int .u64 a0_2)), (.v (.int .u64 a0_3)), (.v (.int .u64 a0_4)), (.v (.int .u64 a0_5)), (.v (.int .u64 a0_6)), (.v (.int .u64 a0_7)), (.v (.int .u64 a0_8))])]).bind fun r6 =>
            cond (isI .i64 (cellAt r6 0))
             ((ev 39 [(.v (.int .i64 1)), (.v (.int .i64 (avInt (cellAt r6 0)))), (.v (.int .u32 1))]).bind fun r8 =>
              cond (isI .u64 (cellAt r8 0))
               ((ev 41 [(.agg [(.v (.int .i64 a1_7)), (.v (.int .i64 a1_8))])]).bind fun r11 =>
                cond (isI .u32 (cellAt r11 0))
                 (cond a1_4
                   (some [(.agg [(.v (.int .i64 a0_0)), (.v (.int .u64 a0_1)), (.v (.int .u64 (avInt (cellAt r8 0)))), (.v (.int .u64 (IntKind.wrap .u64 ((IntKind.wrap .u64 a1_0) + (IntKind.wrap .u64 ((IntKind.wrap .u64 (avInt (cellAt r11 0))) * 4294967296)))))), (.v (.int .u64 (IntKind.wrap .u64 a1_5))), (.v (.int .u64 0)), (.v (.int .u64 0)), (.v (.int .u64 a1_6)), (.v (.int .u64 0))]), (.v (.int .i64 0))])
                   ((lp 19 0 0 ⟨[(3, (.ptr 0 0 0)), (4, (.ptr 1 0 0)), (6, (.ptr 2 0 0)), (8, (.v (.int .i64 0)))], [⟨1, 51, 9, true, [[(.v (.int .u32 a1_0)), (.v (.int .i64 a1_1)), (.v (.int .i64 a1_2)), (.v (.int .i64 a1_3)), (.v (.bool a1_4)), (.v (.int .u32 a1_5)), (.v (.int .u64 a1_6)), (.v (.int .i64 a1_7)), (.v (.int .i64 a1_8))]]⟩, ⟨1, 34, 9, true, [[(.v (.int .i64 0)), (.v (.int .u64 0)), (.v (.int .u64 0)), (.v (.int .u64 0)), (.v (.int .u64 0)), (.v (.int .u64 0)), (.v (.int .u64 0)), (.v (.int .u64 0)), (.v (.int .u64 0))]]⟩, ⟨1, 34, 9, true, [[(.v (.int .i64 a0_0)), (.v (.int .u64 a0_1)), (.v (.int .u64 (avInt (cellAt r8 0)))), (.v (.int .u64 (IntKind.wrap .u64 ((IntKind.wrap .u64 a1_0) + (IntKind.wrap .u64 ((IntKind.wrap .u64 (avInt (cellAt r11 0))) * 4294967296)))))), (.v (.int .u64 0)), (.v (.int .u64 0)), (.v (.int .u64 0)), (.v (.int .u64 0)), (.v (.int .u64 0))]]⟩]⟩).bind fun r17 =>
                    cond (isEx 0 r17)
                     (cond (likeStG ⟨[(3, (.ptr 0 0 0)), (4, (.ptr 1 0 0)), (6, (.ptr 2 0 0))], [⟨1, 51, 9, true, [[(.v (.int .u32 a1_0)), (.v (.int .i64 a1_1)), (.v (.int .i64 a1_2)), (.v (.int .i64 a1_3)), (.v (.bool a1_4)), (.v (.int .u32 a1_5)), (.v (.int .u64 a1_6)), (.v (.int .i64 a1_7)), (.v (.int .i64 a1_8))]]⟩, ⟨1, 34, 9, true, [[(.v (.int .i64 0)), (.v (.int .u64 0)), (.v (.int .u64 0)), (.v (.int .u64 0)), (.v (.int .u64 0)), (.v (.int .u64 0)), (.v (.int .u64 0)), (.v (.int .u64 0)), (.v (.int .u64 0))]]⟩, ⟨1, 34, 9, true, [[(.v (.int .i64 a0_0)), (.v (.int .u64 a0_1)), (.v (.int .u64 (avInt (cellAt r8 0)))), (.v (.int .u64 (IntKind.wrap .u64 ((IntKind.wrap .u64 a1_0) + (IntKind.wrap .u64 ((IntKind.wrap .u64 (avInt (cellAt r11 0))) * 4294967296)))))), (.v (.int .u64 0)), (.v (.int .u64 0)), (.v (.int .u64 0)), (.v (.int .u64 0)), (.v (.int .u64 0))]]⟩]⟩ r17.st)
                       (some [(.agg [(.v (.int .i64 (avInt (cellAt (lget (blAt r17.st.bl 2).xs 0) 0)))), (.v (.int .u64 (avInt (cellAt (lget (blAt r17.st.bl 2).xs 0) 1)))), (.v (.int .u64 (avInt (cellAt (lget (blAt r17.st.bl 2).xs 0) 2)))), (.v (.int .u64 (avInt (cellAt (lget (blAt r17.st.bl 2).xs 0) 3)))), (.v (.int .u64 (avInt (cellAt (lget (blAt r17.st.bl 2).xs 0) 4)))), (.v (.int .u64 (avInt (cellAt (lget (blAt r17.st.bl 2).xs 0) 5)))), (.v (.int .u64 (avInt (cellAt (lget (blAt r17.st.bl 2).xs 0) 6)))), (.v (.int .u64 (avInt (cellAt (lget (blAt r17.st.bl 0).xs 0) 6)))), (.v (.int .u64 (avInt (cellAt (lget (blAt r17.st.bl 2).xs 0) 8))))]), (.v (.int .i64 0))])
                       (none))
                     (cond (isRt r17)
                       (some r17.outs)
                       (none))))
                 (none))
               (none))
             (none))
           ((ev 40 [(.agg [(.v (.int .i64 a0_0)), (.v (.int .u64 a0_1)), (.v (.int .u64 a0_2)), (.v (.int .u64 a0_3)), (.v (.int .u64 a0_4)), (.v (.int .u64 a0_5)), (.v (.int .u64 a0_6)), (.v (.int .u64 a0_7)), (.v (.int .u64 a0_8))])]).bind fun r45 =>
            cond (isI .i64 (cellAt r45 0))
             ((ev 39 [(.v (.int .i64 1)), (.v (.int .i64 (avInt (cellAt r45 0)))), (.v (.int .u32 0))]).bind fun r47 =>
              cond (isI .u64 (cellAt r47 0))
               ((ev 41 [(.agg [(.v (.int .i64 a1_7)), (.v (.int .i64 a1_8))])]).bind fun r50 =>
                cond (isI .u32 (cellAt r50 0))
                 (cond a1_4
                   (some [(.agg [(.v (.int .i64 a0_0)), (.v (.int .u64 a0_1)), (.v (.int .u64 (avInt (cellAt r47 0)))), (.v (.int .u64 (IntKind.wrap .u64 ((IntKind.wrap .u64 a1_0) + (IntKind.wrap .u64 ((IntKind.wrap .u64 (avInt (cellAt r50 0))) * 4294967296)))))), (.v (.int .u64 (IntKind.wrap .u64 a1_5))), (.v (.int .u64 0)), (.v (.int .u64 0)), (.v (.int .u64 a1_6)), (.v (.int .u64 0))]), (.v (.int .i64 0))])
                   ((lp 19 0 0 ⟨[(3, (.ptr 0 0 0)), (4, (.ptr 1 0 0)), (6, (.ptr 2 0 0)), (8, (.v (.int .i64 0)))], [⟨1, 51, 9, true, [[(.v (.int .u32 a1_0)), (.v (.int .i64 a1_1)), (.v (.int .i64 a1_2)), (.v (.int .i64 a1_3)), (.v (.bool a1_4)), (.v (.int .u32 a1_5)), (.v (.int .u64 a1_6)), (.v (.int .i64 a1_7)), (.v (.int .i64 a1_8))]]⟩, ⟨1, 34, 9, true, [[(.v (.int .i64 0)), (.v (.int .u64 0)), (.v (.int .u64 0)), (.v (.int .u64 0)), (.v (.int .u64 0)), (.v (.int .u64 0)), (.v (.int .u64 0)), (.v (.int .u64 0)), (.v (.int .u64 0))]]⟩, ⟨1, 34, 9, true, [[(.v (.int .i64 a0_0)), (.v (.int .u64 a0_1)), (.v (.int .u64 (avInt (cellAt r47 0)))), (.v (.int .u64 (IntKind.wrap .u64 ((IntKind.wrap .u64 a1_0) + (IntKind.wrap .u64 ((IntKind.wrap .u64 (avInt (cellAt r50 0))) * 4294967296)))))), (.v (.int .u64 0)), (.v (.int .u64 0)), (.v (.int .u64 0)), (.v (.int .u64 0)), (.v (.int .u64 0))]]⟩]⟩).bind fun r56 =>
                    cond (isEx 0 r56)
                     (cond (likeStG ⟨[(3, (.ptr 0 0 0)), (4, (.ptr 1 0 0)), (6, (.ptr 2 0 0))], [⟨1, 51, 9, true, [[(.v (.int .u32 a1_0)), (.v (.int .i64 a1_1)), (.v (.int .i64 a1_2)), (.v (.int .i64 a1_3)), (.v (.bool a1_4)), (.v (.int .u32 a1_5)), (.v (.int .u64 a1_6)), (.v (.int .i64 a1_7)), (.v (.int .i64 a1_8))]]⟩, ⟨1, 34, 9, true, [[(.v (.int .i64 0)), (.v (.int .u64 0)), (.v (.int .u64 0)), (.v (.int .u64 0)), (.v (.int .u64 0)), (.v (.int .u64 0)), (.v (.int .u64 0)), (.v (.int .u64 0)), (.v (.int .u64 0))]]⟩, ⟨1, 34, 9, true, [[(.v (.int .i64 a0_0)), (.v (.int .u64 a0_1)), (.v (.int .u64 (avInt (cellAt r47 0)))), (.v (.int .u64 (IntKind.wrap .u64 ((IntKind.wrap .u64 a1_0) + (IntKind.wrap .u64 ((IntKind.wrap .u64 (avInt (cellAt r50 0))) * 4294967296)))))), (.v (.int .u64 0)), (.v (.int .u64 0)), (.v (.int .u64 0)), (.v (.int .u64 0)), (.v (.int .u64 0))]]⟩]⟩ r56.st)
                       (some [(.agg [(.v (.int .i64 (avInt (cellAt (lget (blAt r56.st.bl 2).xs 0) 0)))), (.v (.int .u64 (avInt (cellAt (lget (blAt r56.st.bl 2).xs 0) 1)))), (.v (.int .u64 (avInt (cellAt (lget (blAt r56.st.bl 2).xs 0) 2)))), (.v (.int .u64 (avInt (cellAt (lget (blAt r56.st.bl 2).xs 0) 3)))), (.v (.int .u64 (avInt (cellAt (lget (blAt r56.st.bl 2).xs 0) 4)))), (.v (.int .u64 (avInt (cellAt (lget (blAt r56.st.bl 2).xs 0) 5)))), (.v (.int .u64 (avInt (cellAt (lget (blAt r56.st.bl 2).xs 0) 6)))), (.v (.int .u64 (avInt (cellAt (lget (blAt r56.st.bl 0).xs 0) 6)))), (.v (.int .u64 (avInt (cellAt (lget (blAt r56.st.bl 2).xs 0) 8))))]), (.v (.int .i64 0))])
                       (none))
                     (cond (isRt r56)
                       (some r56.outs)
                       (none))))
                 (none))
               (none))
             (none))))
       (none)))
   (none) := (ev_eq _ _).trans (by kernel_rfl)
theorem lp19_0 (x8 : Int) (b0_0 : Int) (b0_1 : Int) (b0_2 : Int) (b0_3 : Int) (b0_4 : Bool) (b0_5 : Int) (b0_6 : Int) (b0_7 : Int) (b0_8 : Int) (b1_0 : Int) (b1_1 : Int) (b1_2 : Int) (b1_3 : Int) (b1_4 : Int) (b1_5 : Int) (b1_6 : Int) (b1_7 : Int) (b1_8 : Int) (b2_0 : Int) (b2_1 : Int) (b2_2 : Int) (b2_3 : Int) (b2_4 : Int) (b2_5 : Int) (b2_6 : Int) (b2_7 : Int) (b2_8 : Int) : lp 19 0 0 ⟨[(3, (.ptr 0 0 0)), (4, (.ptr 1 0 0)), (6, (.ptr 2 0 0)), (8, (.v (.int .i64 x8)))], [⟨1, 51, 9, true, [[(.v (.int .u32 b0_0)), (.v (.int .i64 b0_1)), (.v (.int .i64 b0_2)), (.v (.int .i64 b0_3)), (.v (.bool b0_4)), (.v (.int .u32 b0_5)), (.v (.int .u64 b0_6)), (.v (.int .i64 b0_7)), (.v (.int .i64 b0_8))]]⟩, ⟨1, 34, 9, true, [[(.v (.int .i64 b1_0)), (.v (.int .u64 b1_1)), (.v (.int .u64 b1_2)), (.v (.int .u64 b1_3)), (.v (.int .u64 b1_4)), (.v (.int .u64 b1_5)), (.v (.int .u64 b1_6)), (.v (.int .u64 b1_7)), (.v (.int .u64 b1_8))]]⟩, ⟨1, 34, 9, true, [[(.v (.int .i64 b2_0)), (.v (.int .u64 b2_1)), (.v (.int .u64 b2_2)), (.v (.int .u64 b2_3)), (.v (.int .u64 b2_4)), (.v (.int .u64 b2_5)), (.v (.int .u64 b2_6)), (.v (.int .u64 b2_7)), (.v (.int .u64 b2_8))]]⟩]⟩ =
  cond (ltI x8 3)
   (cond ((leI 0 x8) && (ltI x8 3))
     (cond ((leI 0 (IntKind.wrap .i64 (2 + x8))) && (ltI (IntKind.wrap .i64 (2 + x8)) 7))
       (lp 19 0 0 ⟨[(3, (.ptr 0 0 0)), (4, (.ptr 1 0 0)), (6, (.ptr 2 0 0)), (8, (.v (.int .i64 (IntKind.wrap .i64 (x8 + 1)))))], [⟨1, 51, 9, true, [[(.v (.int .u32 b0_0)), (.v (.int .i64 b0_1)), (.v (.int .i64 b0_2)), (.v (.int .i64 b0_3)), (.v (.bool b0_4)), (.v (.int .u32 b0_5)), (.v (.int .u64 b0_6)), (.v (.int .i64 b0_7)), (.v (.int .i64 b0_8))]]⟩, ⟨1, 34, 9, true, [[(.v (.int .i64 b1_0)), (.v (.int .u64 b1_1)), (.v (.int .u64 b1_2)), (.v (.int .u64 b1_3)), (.v (.int .u64 b1_4)), (.v (.int .u64 b1_5)), (.v (.int .u64 b1_6)), (.v (.int .u64 b1_7)), (.v (.int .u64 b1_8))]]⟩, ⟨1, 34, 9, true, [[(.v (.int .i64 b2_0)), (.v (.int .u64 b2_1)), (.v (.int .u64 (cond (Nat.beq (Int.toNat (IntKind.wrap .i64 (2 + x8))) 0) (IntKind.wrap .u64 (cond (Nat.beq (Int.toNat x8) 0) b0_1 (cond (Nat.beq (Int.toNat x8) 1) b0_2 b0_3))) b2_2))), (.v (.int .u64 (cond (Nat.beq (Int.toNat (IntKind.wrap .i64 (2 + x8))) 1) (IntKind.wrap .u64 (cond (Nat.beq (Int.toNat x8) 0) b0_1 (cond (Nat.beq (Int.toNat x8) 1) b0_2 b0_3))) b2_3))), (.v (.int .u64 (cond (Nat.beq (Int.toNat (IntKind.wrap .i64 (2 + x8))) 2) (IntKind.wrap .u64 (cond (Nat.beq (Int.toNat x8) 0) b0_1 (cond (Nat.beq (Int.toNat x8) 1) b0_2 b0_3))) b2_4))), (.v (.int .u64 (cond (Nat.beq (Int.toNat (IntKind.wrap .i64 (2 + x8))) 3) (IntKind.wrap .u64 (cond (Nat.beq (Int.toNat x8) 0) b0_1 (cond (Nat.beq (Int.toNat x8) 1) b0_2 b0_3))) b2_5))), (.v (.int .u64 (cond (Nat.beq (Int.toNat (IntKind.wrap .i64 (2 + x8))) 4) (IntKind.wrap .u64 (cond (Nat.beq (Int.toNat x8) 0) b0_1 (cond (Nat.beq (Int.toNat x8) 1) b0_2 b0_3))) b2_6))), (.v (.int .u64 (cond (Nat.beq (Int.toNat (IntKind.wrap .i64 (2 + x8))) 5) (IntKind.wrap .u64 (cond (Nat.beq (Int.toNat x8) 0) b0_1 (cond (Nat.beq (Int.toNat x8) 1) b0_2 b0_3))) b2_7))), (.v (.int .u64 (cond (Nat.beq (Int.toNat (IntKind.wrap .i64 (2 + x8))) 6) (IntKind.wrap .u64 (cond (Nat.beq (Int.toNat x8) 0) b0_1 (cond (Nat.beq (Int.toNat x8) 1) b0_2 b0_3))) b2_8)))]]⟩]⟩)
       (none))
     (none))
   (some ⟨(some 0), ⟨[(3, (.ptr 0 0 0)), (4, (.ptr 1 0 0)), (6, (.ptr 2 0 0))], [⟨1, 51, 9, true, [[(.v (.int .u32 b0_0)), (.v (.int .i64 b0_1)), (.v (.int .i64 b0_2)), (.v (.int .i64 b0_3)), (.v (.bool b0_4)), (.v (.int .u32 b0_5)), (.v (.int .u64 b0_6)), (.v (.int .i64 b0_7)), (.v (.int .i64 b0_8))]]⟩, ⟨1, 34, 9, true, [[(.v (.int .i64 b1_0)), (.v (.int .u64 b1_1)), (.v (.int .u64 b1_2)), (.v (.int .u64 b1_3)), (.v (.int .u64 b1_4)), (.v (.int .u64 b1_5)), (.v (.int .u64 b1_6)), (.v (.int .u64 b1_7)), (.v (.int .u64 b1_8))]]⟩, ⟨1, 34, 9, true, [[(.v (.int .i64 b2_0)), (.v (.int .u64 b2_1)), (.v (.int .u64 b2_2)), (.v (.int .u64 b2_3)), (.v (.int .u64 b2_4)), (.v (.int .u64 b2_5)), (.v (.int .u64 b2_6)), (.v (.int .u64 b2_7)), (.v (.int .u64 b2_8))]]⟩]⟩, []⟩) := (lp_eq _ _ _ _).trans (by kernel_rfl)
-- "bodega/bodegalaw21.ref"
theorem ev20 (a0_0 : Int) (a0_1 : Int) (a0_2 : Int) (a0_3 : Int) (a0_4 : Bool) (a0_5 : Int) (a0_6 : Int) (a0_7 : Int) (a0_8 : Int) : ev 20 [(.agg [(.v (.int .u32 a0_0)), (.v (.int .i64 a0_1)), (.v (.int .i64 a0_2)), (.v (.int .i64 a0_3)), (.v (.bool a0_4)), (.v (.int .u32 a0_5)), (.v (.int .u64 a0_6)), (.v (.int .i64 a0_7)), (.v (.int .i64 a0_8))])] =
  some [(.agg [(.v (.int .u32 a0_0)), (.v (.int .i64 a0_1)), (.v (.int .i64 a0_2)), (.v (.int .i64 a0_3)), (.v (.bool a0_4)), (.v (.int .u32 a0_5)), (.v (.int .u64 a0_6)), (.v (.int .i64 a0_7)), (.v (.int .i64 a0_8))])] := (ev_eq _ _).trans (by kernel_rfl)
-- "bodega/record.Valid"
theorem ev21 (a0_0 : Int) (a0_1 : Int) (a0_2 : Int) (a0_3 : Int) (a0_4 : Bool) (a0_5 : Int) (a0_6 : Int) (a0_7 : Int) (a0_8 : Int) : ev 21 [(.agg [(.v (.int .u32 a0_0)), (.v (.int .i64 a0_1)), (.v (.int .i64 a0_2)), (.v (.int .i64 a0_3)), (.v (.bool a0_4)), (.v (.int .u32 a0_5)), (.v (.int .u64 a0_6)), (.v (.int .i64 a0_7)), (.v (.int .i64 a0_8))])] =
  (ev 10 [(.v (.int .u64 a0_6))]).bind fun r0 =>
  cond (isI .i64 (cellAt r0 0))
   (cond (isI .i64 (cellAt r0 1))
     (cond (isB (cellAt r0 2))
       (cond (ltI a0_0 1)
         (some [(.v (.bool false))])
         (cond (ltI 4294967294 a0_0)
           (some [(.v (.bool false))])
           (cond (!(avBool (cellAt r0 2)))
             (some [(.v (.bool false))])
             (cond (!((a0_7 == 0) && (a0_8 == 0)))
               ((ev 42 [(.agg [(.v (.int .i64 a0_7)), (.v (.int .i64 a0_8))])]).bind fun r8 =>
                cond (isB (cellAt r8 0))
                 (cond (!(avBool (cellAt r8 0)))
                   (some [(.v (.bool false))])
                   (cond a0_4
                     (some [(.v (.bool ((a0_1 == 0) && ((a0_2 == 0) && (a0_3 == 0)))))])
                     (some [(.v (.bool (a0_5 == 0)))])))
                 (none))
               (cond a0_4
                 (some [(.v (.bool ((a0_1 == 0) && ((a0_2 == 0) && (a0_3 == 0)))))])
                 (some [(.v (.bool (a0_5 == 0)))]))))))
       (none))
     (none))
   (none) := (ev_eq _ _).trans (by kernel_rfl)
-- "bodega/bodegaref19.ValidVersion"
theorem ev22 (a0_0 : Int) (a0_1 : Int) (a0_2 : Int) (a0_3 : Int) (a0_4 : Bool) (a0_5 : Int) (a0_6 : Int) (a0_7 : Int) (a0_8 : Int) : ev 22 [(.agg [(.v (.int .u32 a0_0)), (.v (.int .i64 a0_1)), (.v (.int .i64 a0_2)), (.v (.int .i64 a0_3)), (.v (.bool a0_4)), (.v (.int .u32 a0_5)), (.v (.int .u64 a0_6)), (.v (.int .i64 a0_7)), (.v (.int .i64 a0_8))])] =
  (ev 11 [(.v (.int .u64 a0_6))]).bind fun r0 =>
  cond (isI .i64 (cellAt r0 0))
   (cond (isI .i64 (cellAt r0 1))
     (cond (isB (cellAt r0 2))
       (cond (!(avBool (cellAt r0 2)))
         (some [(.v (.bool false))])
         (cond (ltI a0_0 1)
           (some [(.v (.bool false))])
           (cond (ltI 4294967294 a0_0)
             (some [(.v (.bool false))])
             (cond (!((a0_7 == 0) && (a0_8 == 0)))
               ((ev 43 [(.agg [(.v (.int .i64 a0_7)), (.v (.int .i64 a0_8))])]).bind fun r8 =>
                cond (isB (cellAt r8 0))
                 (cond (!(avBool (cellAt r8 0)))
                   (some [(.v (.bool false))])
                   (cond a0_4
                     (some [(.v (.bool ((a0_1 == 0) && ((a0_2 == 0) && (a0_3 == 0)))))])
                     (some [(.v (.bool (a0_5 == 0)))])))
                 (none))
               (cond a0_4
                 (some [(.v (.bool ((a0_1 == 0) && ((a0_2 == 0) && (a0_3 == 0)))))])
                 (some [(.v (.bool (a0_5 == 0)))]))))))
       (none))
     (none))
   (none) := (ev_eq _ _).trans (by kernel_rfl)
-- "bodega/bodegalaw21.same"
theorem ev23 (a0_0 : Int) (a0_1 : Int) (a0_2 : Int) (a0_3 : Int) (a0_4 : Int) (a0_5 : Int) (a0_6 : Int) (a0_7 : Int) (a0_8 : Int) (a1_0 : Int) (a1_1 : Int) (a1_2 : Int) (a1_3 : Int) (a1_4 : Int) (a1_5 : Int) (a1_6 : Int) (a1_7 : Int) (a1_8 : Int) : ev 23 [(.agg [(.v (.int .i64 a0_0)), (.v (.int .u64 a0_1)), (.v (.int .u64 a0_2)), (.v (.int .u64 a0_3)), (.v (.int .u64 a0_4)), (.v (.int .u64 a0_5)), (.v (.int .u64 a0_6)), (.v (.int .u64 a0_7)), (.v (.int .u64 a0_8))]), (.agg [(.v (.int .i64 a1_0)), (.v (.int .u64 a1_1)), (.v (.int .u64 a1_2)), (.v (.int .u64 a1_3)), (.v (.int .u64 a1_4)), (.v (.int .u64 a1_5)), (.v (.int .u64 a1_6)), (.v (.int .u64 a1_7)), (.v (.int .u64 a1_8))])] =
  cond (a0_0 == a1_0)
   (cond (a0_1 == a1_1)
     (some [(.v (.bool ((a0_2 == a1_2) && ((a0_3 == a1_3) && ((a0_4 == a1_4) && ((a0_5 == a1_5) && ((a0_6 == a1_6) && ((a0_7 == a1_7) && (a0_8 == a1_8)))))))))])
     (some [(.v (.bool false))]))
   (some [(.v (.bool false))]) := (ev_eq _ _).trans (by kernel_rfl)
-- "bodega/pointer.PackTag"
theorem ev24 (a0_0 : Int) (a0_1 : Int) (a0_2 : Int) : ev 24 [(.agg [(.v (.int .i64 a0_0)), (.v (.int .i64 a0_1)), (.v (.int .u32 a0_2))])] =
  some [(.v (.int .u64 (bits .or .u64 (bits .or .u64 (bits .and .u64 (IntKind.wrap .u64 a0_0) 255) (IntKind.wrap .u64 ((bits .and .u64 (IntKind.wrap .u64 a0_1) 16777215) * 256))) (IntKind.wrap .u64 ((IntKind.wrap .u64 a0_2) * 4294967296)))))] := (ev_eq _ _).trans (by kernel_rfl)
-- "bodega/pointer.UnpackTag"
theorem ev25 (a0_0 : Int) : ev 25 [(.v (.int .u64 a0_0))] =
  some [(.agg [(.v (.int .i64 (IntKind.wrap .i64 (bits .and .u64 a0_0 255)))), (.v (.int .i64 (IntKind.wrap .i64 (bits .and .u64 (Int.fdiv a0_0 256) 16777215)))), (.v (.int .u32 (IntKind.wrap .u32 (Int.fdiv a0_0 4294967296))))])] := (ev_eq _ _).trans (by kernel_rfl)
-- "bodega/record.Replace"
theorem ev26 (a0_0 : Int) (a0_1 : Int) (a0_2 : Int) (a0_3 : Int) (a0_4 : Int) (a0_5 : Int) (a0_6 : Int) (a0_7 : Int) (a0_8 : Int) (a1_0 : Int) (a1_1 : Int) (a1_2 : Int) (a1_3 : Int) (a1_4 : Int) (a1_5 : Int) (a1_6 : Int) (a1_7 : Int) (a1_8 : Int) (a2_0 : Int) (a2_1 : Int) (a2_2 : Int) (a2_3 : Int) (a2_4 : Bool) (a2_5 : Int) (a2_6 : Int) (a2_7 : Int) (a2_8 : Int) : ev 26 [(.agg [(.v (.int .i64 a0_0)), (.v (.int .u64 a0_1)), (.v (.int .u64 a0_2)), (.v (.int .u64 a0_3)), (.v (.int .u64 a0_4)), (.v (.int .u64 a0_5)), (.v (.int .u64 a0_6)), (.v (.int .u64 a0_7)), (.v (.int .u64 a0_8))]), (.agg [(.v (.int .i64 a1_0)), (.v (.int .u64 a1_1)), (.v (.int .u64 a1_2)), (.v (.int .u64 a1_3)), (.v (.int .u64 a1_4)), (.v (.int .u64 a1_5)), (.v (.int .u64 a1_6)), (.v (.int .u64 a1_7)), (.v (.int .u64 a1_8))]), (.agg [(.v (.int .u32 a2_0)), (.v (.int .i64 a2_1)), (.v (.int .i64 a2_2)), (.v (.int .i64 a2_3)), (.v (.bool a2_4)), (.v (.int .u32 a2_5)), (.v (.int .u64 a2_6)), (.v (.int .i64 a2_7)), (.v (.int .i64 a2_8))])] =
  (ev 44 [(.agg [(.v (.int .i64 a0_0)), (.v (.int .u64 a0_1)), (.v (.int .u64 a0_2)), (.v (.int .u64 a0_3)), (.v (.int .u64 a0_4)), (.v (.int .u64 a0_5)), (.v (.int .u64 a0_6)), (.v (.int .u64 a0_7)), (.v (.int .u64 a0_8))])]).bind fun r0 =>
  cond (isB (cellAt r0 0))
   (cond (avBool (cellAt r0 0))
     (some [(.lst true 9 []), (.v (.int .i64 3))])
     ((ev 44 [(.agg [(.v (.int .i64 a1_0)), (.v (.int .u64 a1_1)), (.v (.int .u64 a1_2)), (.v (.int .u64 a1_3)), (.v (.int .u64 a1_4)), (.v (.int .u64 a1_5)), (.v (.int .u64 a1_6)), (.v (.int .u64 a1_7)), (.v (.int .u64 a1_8))])]).bind fun r2 =>
      cond (isB (cellAt r2 0))
       (cond (avBool (cellAt r2 0))
         (some [(.lst true 9 []), (.v (.int .i64 3))])
         ((ev 16 [(.agg [(.v (.int .i64 a0_0)), (.v (.int .u64 a0_1)), (.v (.int .u64 a0_2)), (.v (.int .u64 a0_3)), (.v (.int .u64 a0_4)), (.v (.int .u64 a0_5)), (.v (.int .u64 a0_6)), (.v (.int .u64 a0_7)), (.v (.int .u64 a0_8))])]).bind fun r4 =>
          cond ((Ev.isAgg 9 (cellAt r4 0)) && ((isI .u32 (cellAt (obCells (cellAt r4 0)) 0)) && ((isI .i64 (cellAt (obCells (cellAt r4 0)) 1)) && ((isI .i64 (cellAt (obCells (cellAt r4 0)) 2)) && ((isI .i64 (cellAt (obCells (cellAt r4 0)) 3)) && ((isB (cellAt (obCells (cellAt r4 0)) 4)) && ((isI .u32 (cellAt (obCells (cellAt r4 0)) 5)) && ((isI .u64 (cellAt (obCells (cellAt r4 0)) 6)) && ((isI .i64 (cellAt (obCells (cellAt r4 0)) 7)) && (isI .i64 (cellAt (obCells (cellAt r4 0)) 8)))))))))))
           (cond (isI .i64 (cellAt r4 1))
             (cond (!((avInt (cellAt r4 1)) == 0))
               (some [(.lst true 9 []), (.v (.int .i64 (avInt (cellAt r4 1))))])
               ((ev 31 [(.agg [(.v (.int .i64 a1_0)), (.v (.int .u64 a1_1)), (.v (.int .u64 a1_2)), (.v (.int .u64 a1_3)), (.v (.int .u64 a1_4)), (.v (.int .u64 a1_5)), (.v (.int .u64 a1_6)), (.v (.int .u64 a1_7)), (.v (.int .u64 a1_8))])]).bind fun r17 =>
                cond ((Ev.isAgg 2 (cellAt r17 0)) && ((isI .i64 (cellAt (obCells (cellAt r17 0)) 0)) && (isI .i64 (cellAt (obCells (cellAt r17 0)) 1))))
                 ((ev 25 [(.v (.int .u64 a1_2))]).bind fun r20 =>
                  cond ((Ev.isAgg 3 (cellAt r20 0)) && ((isI .i64 (cellAt (obCells (cellAt r20 0)) 0)) && ((isI .i64 (cellAt (obCells (cellAt r20 0)) 1)) && (isI .u32 (cellAt (obCells (cellAt r20 0)) 2)))))
                   (cond (!((avInt (cellAt (obCells (cellAt r20 0)) 0)) == 1))
                     (some [(.lst true 9 []), (.v (.int .i64 1))])
                     ((ev 42 [(.agg [(.v (.int .i64 (avInt (cellAt (obCells (cellAt r17 0)) 0)))), (.v (.int .i64 (avInt (cellAt (obCells (cellAt r17 0)) 1))))])]).bind fun r26 =>
                      cond (isB (cellAt r26 0))
                       (cond (!(avBool (cellAt r26 0)))
                         (some [(.lst true 9 []), (.v (.int .i64 1))])
                         (cond (a1_0 == a0_0)
                           (some [(.lst true 9 []), (.v (.int .i64 1))])
                           (cond (!(a2_0 == (avInt (cellAt (obCells (cellAt r4 0)) 0))))
                             (some [(.lst true 9 []), (.v (.int .i64 1))])
                             ((ev 21 [(.agg [(.v (.int .u32 a2_0)), (.v (.int .i64 a2_1)), (.v (.int .i64 a2_2)), (.v (.int .i64 a2_3)), (.v (.bool a2_4)), (.v (.int .u32 a2_5)), (.v (.int .u64 a2_6)), (.v (.int .i64 (avInt (cellAt (obCells (cellAt r17 0)) 0)))), (.v (.int .i64 (avInt (cellAt (obCells (cellAt r17 0)) 1))))])]).bind fun r31 =>
                              cond (isB (cellAt r31 0))
                               (cond (!(avBool (cellAt r31 0)))
                                 (some [(.lst true 9 []), (.v (.int .i64 1))])
                                 ((ev 34 [(.agg [(.v (.int .i64 a1_0)), (.v (.int .u64 a1_1)), (.v (.int .u64 a1_2)), (.v (.int .u64 a1_3)), (.v (.int .u64 a1_4)), (.v (.int .u64 a1_5)), (.v (.int .u64 a1_6)), (.v (.int .u64 a1_7)), (.v (.int .u64 a1_8))]), (.agg [(.v (.int .u32 (avInt (cellAt (obCells (cellAt r4 0)) 0)))), (.v (.int .i64 (avInt (cellAt (obCells (cellAt r4 0)) 1)))), (.v (.int .i64 (avInt (cellAt (obCells (cellAt r4 0)) 2)))), (.v (.int .i64 (avInt (cellAt (obCells (cellAt r4 0)) 3)))), (.v (.bool (avBool (cellAt (obCells (cellAt r4 0)) 4)))), (.v (.int .u32 (avInt (cellAt (obCells (cellAt r4 0)) 5)))), (.v (.int .u64 (avInt (cellAt (obCells (cellAt r4 0)) 6)))), (.v (.int .i64 (avInt (cellAt (obCells (cellAt r4 0)) 7)))), (.v (.int .i64 (avInt (cellAt (obCells (cellAt r4 0)) 8))))])]).bind fun r34 =>
                                  cond ((Ev.isAgg 9 (cellAt r34 0)) && ((isI .i64 (cellAt (obCells (cellAt r34 0)) 0)) && ((isI .u64 (cellAt (obCells (cellAt r34 0)) 1)) && ((isI .u64 (cellAt (obCells (cellAt r34 0)) 2)) && ((isI .u64 (cellAt (obCells (cellAt r34 0)) 3)) && ((isI .u64 (cellAt (obCells (cellAt r34 0)) 4)) && ((isI .u64 (cellAt (obCells (cellAt r34 0)) 5)) && ((isI .u64 (cellAt (obCells (cellAt r34 0)) 6)) && ((isI .u64 (cellAt (obCells (cellAt r34 0)) 7)) && (isI .u64 (cellAt (obCells (cellAt r34 0)) 8)))))))))))
                                   ((ev 34 [(.agg [(.v (.int .i64 a0_0)), (.v (.int .u64 a0_1)), (.v (.int .u64 a0_2)), (.v (.int .u64 a0_3)), (.v (.int .u64 a0_4)), (.v (.int .u64 a0_5)), (.v (.int .u64 a0_6)), (.v (.int .u64 a0_7)), (.v (.int .u64 a0_8))]), (.agg [(.v (.int .u32 a2_0)), (.v (.int .i64 a2_1)), (.v (.int .i64 a2_2)), (.v (.int .i64 a2_3)), (.v (.bool a2_4)), (.v (.int .u32 a2_5)), (.v (.int .u64 a2_6)), (.v (.int .i64 (avInt (cellAt (obCells (cellAt r17 0)) 0)))), (.v (.int .i64 (avInt (cellAt (obCells (cellAt r17 0)) 1))))])]).bind fun r44 =>
                                    cond ((Ev.isAgg 9 (cellAt r44 0)) && ((isI .i64 (cellAt (obCells (cellAt r44 0)) 0)) && ((isI .u64 (cellAt (obCells (cellAt r44 0)) 1)) && ((isI .u64 (cellAt (obCells (cellAt r44 0)) 2)) && ((isI .u64 (cellAt (obCells (cellAt r44 0)) 3)) && ((isI .u64 (cellAt (obCells (cellAt r44 0)) 4)) && ((isI .u64 (cellAt (obCells (cellAt r44 0)) 5)) && ((isI .u64 (cellAt (obCells (cellAt r44 0)) 6)) && ((isI .u64 (cellAt (obCells (cellAt r44 0)) 7)) && (isI .u64 (cellAt (obCells (cellAt r44 0)) 8)))))))))))
                                     (cond (ltI (avInt (cellAt (obCells (cellAt r34 0)) 0)) (avInt (cellAt (obCells (cellAt r44 0)) 0)))
                                       (some [(.lst false 9 [[(.v (.int .i64 (avInt (cellAt (obCells (cellAt r34 0)) 0)))), (.v (.int .u64 (avInt (cellAt (obCells (cellAt r34 0)) 1)))), (.v (.int .u64 (avInt (cellAt (obCells (cellAt r34 0)) 2)))), (.v (.int .u64 (avInt (cellAt (obCells (cellAt r34 0)) 3)))), (.v (.int .u64 (avInt (cellAt (obCells (cellAt r34 0)) 4)))), (.v (.int .u64 (avInt (cellAt (obCells (cellAt r34 0)) 5)))), (.v (.int .u64 (avInt (cellAt (obCells (cellAt r34 0)) 6)))), (.v (.int .u64 (avInt (cellAt (obCells (cellAt r34 0)) 7)))), (.v (.int .u64 (avInt (cellAt (obCells (cellAt r34 0)) 8))))], [(.v (.int .i64 (avInt (cellAt (obCells (cellAt r44 0)) 0)))), (.v (.int .u64 (avInt (cellAt (obCells (cellAt r44 0)) 1)))), (.v (.int .u64 (avInt (cellAt (obCells (cellAt r44 0)) 2)))), (.v (.int .u64 (avInt (cellAt (obCells (cellAt r44 0)) 3)))), (.v (.int .u64 (avInt (cellAt (obCells (cellAt r44 0)) 4)))), (.v (.int .u64 (avInt (cellAt (obCells (cellAt r44 0)) 5)))), (.v (.int .u64 (avInt (cellAt (obCells (cellAt r44 0)) 6)))), (.v (.int .u64 (avInt (cellAt (obCells (cellAt r44 0)) 7)))), (.v (.int .u64 (avInt (cellAt (obCells (cellAt r44 0)) 8))))]]), (.v (.int .i64 0))])
                                       (some [(.lst false 9 [[(.v (.int .i64 (avInt (cellAt (obCells (cellAt r44 0)) 0)))), (.v (.int .u64 (avInt (cellAt (obCells (cellAt r44 0)) 1)))), (.v (.int .u64 (avInt (cellAt (obCells (cellAt r44 0)) 2)))), (.v (.int .u64 (avInt (cellAt (obCells (cellAt r44 0)) 3)))), (.v (.int .u64 (avInt (cellAt (obCells (cellAt r44 0)) 4)))), (.v (.int .u64 (avInt (cellAt (obCells (cellAt r44 0)) 5)))), (.v (.int .u64 (avInt (cellAt (obCells (cellAt r44 0)) 6)))), (.v (.int .u64 (avInt (cellAt (obCells (cellAt r44 0)) 7)))), (.v (.int .u64 (avInt (cellAt (obCells (cellAt r44 0)) 8))))], [(.v (.int .i64 (avInt (cellAt (obCells (cellAt r34 0)) 0)))), (.v (.int .u64 (avInt (cellAt (obCells (cellAt r34 0)) 1)))), (.v (.int .u64 (avInt (cellAt (obCells (cellAt r34 0)) 2)))), (.v (.int .u64 (avInt (cellAt (obCells (cellAt r34 0)) 3)))), (.v (.int .u64 (avInt (cellAt (obCells (cellAt r34 0)) 4)))), (.v (.int .u64 (avInt (cellAt (obCells (cellAt r34 0)) 5)))), (.v (.int .u64 (avInt (cellAt (obCells (cellAt r34 0)) 6)))), (.v (.int .u64 (avInt (cellAt (obCells (cellAt r34 0)) 7)))), (.v (.int .u64 (avInt (cellAt (obCells (cellAt r34 0)) 8))))]]), (.v (.int .i64 0))]))
                                     (none))
                                   (none)))
                               (none)))))
                       (none)))
                   (none))
                 (none)))
             (none))
           (none)))
       (none)))
   (none) := (ev_eq _ _).trans (by kernel_rfl)
-- "bodega/bodegaref19.Replace"
theorem ev27 (a0_0 : Int) (a0_1 : Int) (a0_2 : Int) (a0_3 : Int) (a0_4 : Int) (a0_5 : Int) (a0_6 : Int) (a0_7 : Int) (a0_8 : Int) (a1_0 : Int) (a1_1 : Int) (a1_2 : Int) (a1_3 : Int) (a1_4 : Int) (a1_5 : Int) (a1_6 : Int) (a1_7 : Int) (a1_8 : Int) (a2_0 : Int) (a2_1 : Int) (a2_2 : Int) (a2_3 : Int) (a2_4 : Bool) (a2_5 : Int) (a2_6 : Int) (a2_7 : Int) (a2_8 : Int) : ev 27 [(.agg [(.v (.int .i64 a0_0)), (.v (.int .u64 a0_1)), (.v (.int .u64 a0_2)), (.v (.int .u64 a0_3)), (.v (.int .u64 a0_4)), (.v (.int .u64 a0_5)), (.v (.int .u64 a0_6)), (.v (.int .u64 a0_7)), (.v (.int .u64 a0_8))]), (.agg [(.v (.int .i64 a1_0)), (.v (.int .u64 a1_1)), (.v (.int .u64 a1_2)), (.v (.int .u64 a1_3)), (.v (.int .u64 a1_4)), (.v (.int .u64 a1_5)), (.v (.int .u64 a1_6)), (.v (.int .u64 a1_7)), (.v (.int .u64 a1_8))]), (.agg [(.v (.int .u32 a2_0)), (.v (.int .i64 a2_1)), (.v (.int .i64 a2_2)), (.v (.int .i64 a2_3)), (.v (.bool a2_4)), (.v (.int .u32 a2_5)), (.v (.int .u64 a2_6)), (.v (.int .i64 a2_7)), (.v (.int .i64 a2_8))])] =
  (ev 45 [(.agg [(.v (.int .i64 a0_0)), (.v (.int .u64 a0_1)), (.v (.int .u64 a0_2)), (.v (.int .u64 a0_3)), (.v (.int .u64 a0_4)), (.v (.int .u64 a0_5)), (.v (.int .u64 a0_6)), (.v (.int .u64 a0_7)), (.v (.int .u64 a0_8))])]).bind fun r0 =>
  cond (isB (cellAt r0 0))
   (cond (avBool (cellAt r0 0))
     (some [(.lst true 9 []), (.v (.int .i64 3))])
     ((ev 45 [(.agg [(.v (.int .i64 a1_0)), (.v (.int .u64 a1_1)), (.v (.int .u64 a1_2)), (.v (.int .u64 a1_3)), (.v (.int .u64 a1_4)), (.v (.int .u64 a1_5)), (.v (.int .u64 a1_6)), (.v (.int .u64 a1_7)), (.v (.int .u64 a1_8))])]).bind fun r2 =>
      cond (isB (cellAt r2 0))
       (cond (avBool (cellAt r2 0))
         (some [(.lst true 9 []), (.v (.int .i64 3))])
         ((ev 17 [(.agg [(.v (.int .i64 a0_0)), (.v (.int .u64 a0_1)), (.v (.int .u64 a0_2)), (.v (.int .u64 a0_3)), (.v (.int .u64 a0_4)), (.v (.int .u64 a0_5)), (.v (.int .u64 a0_6)), (.v (.int .u64 a0_7)), (.v (.int .u64 a0_8))])]).bind fun r4 =>
          cond ((Ev.isAgg 9 (cellAt r4 0)) && ((isI .u32 (cellAt (obCells (cellAt r4 0)) 0)) && ((isI .i64 (cellAt (obCells (cellAt r4 0)) 1)) && ((isI .i64 (cellAt (obCells (cellAt r4 0)) 2)) && ((isI .i64 (cellAt (obCells (cellAt r4 0)) 3)) && ((isB (cellAt (obCells (cellAt r4 0)) 4)) && ((isI .u32 (cellAt (obCells (cellAt r4 0)) 5)) && ((isI .u64 (cellAt (obCells (cellAt r4 0)) 6)) && ((isI .i64 (cellAt (obCells (cellAt r4 0)) 7)) && (isI .i64 (cellAt (obCells (cellAt r4 0)) 8)))))))))))
           (cond (isI .i64 (cellAt r4 1))
             (cond (!((avInt (cellAt r4 1)) == 0))
               (some [(.lst true 9 []), (.v (.int .i64 14))])
               ((ev 46 [(.agg [(.v (.int .i64 a1_0)), (.v (.int .u64 a1_1)), (.v (.int .u64 a1_2)), (.v (.int .u64 a1_3)), (.v (.int .u64 a1_4)), (.v (.int .u64 a1_5)), (.v (.int .u64 a1_6)), (.v (.int .u64 a1_7)), (.v (.int .u64 a1_8))])]).bind fun r17 =>
                cond ((Ev.isAgg 2 (cellAt r17 0)) && ((isI .i64 (cellAt (obCells (cellAt r17 0)) 0)) && (isI .i64 (cellAt (obCells (cellAt r17 0)) 1))))
                 ((ev 36 [(.agg [(.v (.int .i64 a1_0)), (.v (.int .u64 a1_1)), (.v (.int .u64 a1_2)), (.v (.int .u64 a1_3)), (.v (.int .u64 a1_4)), (.v (.int .u64 a1_5)), (.v (.int .u64 a1_6)), (.v (.int .u64 a1_7)), (.v (.int .u64 a1_8))])]).bind fun r20 =>
                  cond (isI .i64 (cellAt r20 0))
                   (cond (!((avInt (cellAt r20 0)) == 1))
                     (some [(.lst true 9 []), (.v (.int .i64 1))])
                     ((ev 47 [(.v (.int .i64 a1_0))]).bind fun r23 =>
                      cond (isB (cellAt r23 0))
                       (cond (!(avBool (cellAt r23 0)))
                         (some [(.lst true 9 []), (.v (.int .i64 1))])
                         (cond (a1_0 == a0_0)
                           (some [(.lst true 9 []), (.v (.int .i64 1))])
                           (cond (!(a2_0 == (avInt (cellAt (obCells (cellAt r4 0)) 0))))
                             (some [(.lst true 9 []), (.v (.int .i64 1))])
                             ((ev 22 [(.agg [(.v (.int .u32 a2_0)), (.v (.int .i64 a2_1)), (.v (.int .i64 a2_2)), (.v (.int .i64 a2_3)), (.v (.bool a2_4)), (.v (.int .u32 a2_5)), (.v (.int .u64 a2_6)), (.v (.int .i64 (avInt (cellAt (obCells (cellAt r17 0)) 0)))), (.v (.int .i64 (avInt (cellAt (obCells (cellAt r17 0)) 1))))])]).bind fun r28 =>
                              cond (isB (cellAt r28 0))
                               (cond (!(avBool (cellAt r28 0)))
                                 (some [(.lst true 9 []), (.v (.int .i64 1))])
                                 ((ev 43 [(.agg [(.v (.int .i64 (avInt (cellAt (obCells (cellAt r17 0)) 0)))), (.v (.int .i64 (avInt (cellAt (obCells (cellAt r17 0)) 1))))])]).bind fun r31 =>
                                  cond (isB (cellAt r31 0))
                                   (cond (!(avBool (cellAt r31 0)))
                                     (some [(.lst true 9 []), (.v (.int .i64 1))])
                                     ((ev 19 [(.agg [(.v (.int .i64 a1_0)), (.v (.int .u64 a1_1)), (.v (.int .u64 a1_2)), (.v (.int .u64 a1_3)), (.v (.int .u64 a1_4)), (.v (.int .u64 a1_5)), (.v (.int .u64 a1_6)), (.v (.int .u64 a1_7)), (.v (.int .u64 a1_8))]), (.agg [(.v (.int .u32 (avInt (cellAt (obCells (cellAt r4 0)) 0)))), (.v (.int .i64 (avInt (cellAt (obCells (cellAt r4 0)) 1)))), (.v (.int .i64 (avInt (cellAt (obCells (cellAt r4 0)) 2)))), (.v (.int .i64 (avInt (cellAt (obCells (cellAt r4 0)) 3)))), (.v (.bool (avBool (cellAt (obCells (cellAt r4 0)) 4)))), (.v (.int .u32 (avInt (cellAt (obCells (cellAt r4 0)) 5)))), (.v (.int .u64 (avInt (cellAt (obCells (cellAt r4 0)) 6)))), (.v (.int .i64 (avInt (cellAt (obCells (cellAt r4 0)) 7)))), (.v (.int .i64 (avInt (cellAt (obCells (cellAt r4 0)) 8))))])]).bind fun r34 =>
                                      cond ((Ev.isAgg 9 (cellAt r34 0)) && ((isI .i64 (cellAt (obCells (cellAt r34 0)) 0)) && ((isI .u64 (cellAt (obCells (cellAt r34 0)) 1)) && ((isI .u64 (cellAt (obCells (cellAt r34 0)) 2)) && ((isI .u64 (cellAt (obCells (cellAt r34 0)) 3)) && ((isI .u64 (cellAt (obCells (cellAt r34 0)) 4)) && ((isI .u64 (cellAt (obCells (cellAt r34 0)) 5)) && ((isI .u64 (cellAt (obCells (cellAt r34 0)) 6)) && ((isI .u64 (cellAt (obCells (cellAt r34 0)) 7)) && (isI .u64 (cellAt (obCells (cellAt r34 0)) 8)))))))))))
                                       (cond (isI .i64 (cellAt r34 1))
                                         ((ev 19 [(.agg [(.v (.int .i64 a0_0)), (.v (.int .u64 a0_1)), (.v (.int .u64 a0_2)), (.v (.int .u64 a0_3)), (.v (.int .u64 a0_4)), (.v (.int .u64 a0_5)), (.v (.int .u64 a0_6)), (.v (.int .u64 a0_7)), (.v (.int .u64 a0_8))]), (.agg [(.v (.int .u32 a2_0)), (.v (.int .i64 a2_1)), (.v (.int .i64 a2_2)), (.v (.int .i64 a2_3)), (.v (.bool a2_4)), (.v (.int .u32 a2_5)), (.v (.int .u64 a2_6)), (.v (.int .i64 (avInt (cellAt (obCells (cellAt r17 0)) 0)))), (.v (.int .i64 (avInt (cellAt (obCells (cellAt r17 0)) 1))))])]).bind fun r45 =>
                                          cond ((Ev.isAgg 9 (cellAt r45 0)) && ((isI .i64 (cellAt (obCells (cellAt r45 0)) 0)) && ((isI .u64 (cellAt (obCells (cellAt r45 0)) 1)) && ((isI .u64 (cellAt (obCells (cellAt r45 0)) 2)) && ((isI .u64 (cellAt (obCells (cellAt r45 0)) 3)) && ((isI .u64 (cellAt (obCells (cellAt r45 0)) 4)) && ((isI .u64 (cellAt (obCells (cellAt r45 0)) 5)) && ((isI .u64 (cellAt (obCells (cellAt r45 0)) 6)) && ((isI .u64 (cellAt (obCells (cellAt r45 0)) 7)) && (isI .u64 (cellAt (obCells (cellAt r45 0)) 8)))))))))))
                                           (cond (isI .i64 (cellAt r45 1))
                                             ((ev 48 [(.lst true 0 []), (.lst false 9 [[(.v (.int .i64 (avInt (cellAt (obCells (cellAt r34 0)) 0)))), (.v (.int .u64 (avInt (cellAt (obCells (cellAt r34 0)) 1)))), (.v (.int .u64 (avInt (cellAt (obCells (cellAt r34 0)) 2)))), (.v (.int .u64 (avInt (cellAt (obCells (cellAt r34 0)) 3)))), (.v (.int .u64 (avInt (cellAt (obCells (cellAt r34 0)) 4)))), (.v (.int .u64 (avInt (cellAt (obCells (cellAt r34 0)) 5)))), (.v (.int .u64 (avInt (cellAt (obCells (cellAt r34 0)) 6)))), (.v (.int .u64 (avInt (cellAt (obCells (cellAt r34 0)) 7)))), (.v (.int .u64 (avInt (cellAt (obCells (cellAt r34 0)) 8))))], [(.v (.int .i64 (avInt (cellAt (obCells (cellAt r45 0)) 0)))), (.v (.int .u64 (avInt (cellAt (obCells (cellAt r45 0)) 1)))), (.v (.int .u64 (avInt (cellAt (obCells (cellAt r45 0)) 2)))), (.v (.int .u64 (avInt (cellAt (obCells (cellAt r45 0)) 3)))), (.v (.int .u64 (avInt (cellAt (obCells (cellAt r45 0)) 4)))), (.v (.int .u64 (avInt (cellAt (obCells (cellAt r45 0)) 5)))), (.v (.int .u64 (avInt (cellAt (obCells (cellAt r45 0)) 6)))), (.v (.int .u64 (avInt (cellAt (obCells (cellAt r45 0)) 7)))), (.v (.int .u64 (avInt (cellAt (obCells (cellAt r45 0)) 8))))]])]).bind fun r56 =>
                                              cond (isL 9 (cellAt r56 0))
                                               (some [(.lst (avNil (cellAt r56 0)) 9 (avXs (cellAt r56 0))), (.v (.int .i64 0))])
                                               (none))
                                             (none))
                                           (none))
                                         (none))
                                       (none)))
                                   (none)))
                               (none)))))
                       (none)))
                   (none))
                 (none)))
             (none))
           (none)))
       (none)))
   (none) := (ev_eq _ _).trans (by kernel_rfl)
-- "bodega/bodegaheap.SamePages"
theorem ev28 (a0_0n : Bool) (a0_0 : List (List AV)) (a1_0n : Bool) (a1_0 : List (List AV)) : ev 28 [(.lst a0_0n 9 a0_0), (.lst a1_0n 9 a1_0)] =
  cond (!((((List.length a0_0) : Nat) : Int) == (((List.length a1_0) : Nat) : Int)))
   (some [(.v (.bool false))])
   ((lp 28 0 0 ⟨[(0, (.lst a0_0n 9 a0_0)), (1, (.lst a1_0n 9 a1_0)), (5, (.v (.int .i64 0)))], []⟩).bind fun r4 =>
    cond (isEx 0 r4)
     (cond (likeStG ⟨[], []⟩ r4.st)
       (some [(.v (.bool true))])
       (none))
     (cond (isRt r4)
       (some r4.outs)
       (none))) := (ev_eq _ _).trans (by kernel_rfl)
theorem lp28_0 (x0n : Bool) (x0 : List (List AV)) (x1n : Bool) (x1 : List (List AV)) (x5 : Int) : lp 28 0 0 ⟨[(0, (.lst x0n 9 x0)), (1, (.lst x1n 9 x1)), (5, (.v (.int .i64 x5)))], []⟩ =
  cond (ltI x5 (((List.length x0) : Nat) : Int))
   (cond ((leI 0 x5) && (ltI x5 (((List.length x0) : Nat) : Int)))
     (cond (isI .i64 (cellAt (lget x0 (Int.toNat x5)) 0))
       (cond ((leI 0 x5) && (ltI x5 (((List.length x1) : Nat) : Int)))
         (cond (isI .i64 (cellAt (lget x1 (Int.toNat x5)) 0))
           (cond (!((avInt (cellAt (lget x0 (Int.toNat x5)) 0)) == (avInt (cellAt (lget x1 (Int.toNat x5)) 0))))
             (some ⟨none, ⟨[], []⟩, [(.v (.bool false))]⟩)
             (cond ((leI 0 x5) && (ltI x5 (((List.length x0) : Nat) : Int)))
               (cond (isI .u64 (cellAt (lget x0 (Int.toNat x5)) 1))
                 (cond ((leI 0 x5) && (ltI x5 (((List.length x1) : Nat) : Int)))
                   (cond (isI .u64 (cellAt (lget x1 (Int.toNat x5)) 1))
                     (cond (!((avInt (cellAt (lget x0 (Int.toNat x5)) 1)) == (avInt (cellAt (lget x1 (Int.toNat x5)) 1))))
                       (some ⟨none, ⟨[], []⟩, [(.v (.bool false))]⟩)
                       (cond ((leI 0 x5) && (ltI x5 (((List.length x0) : Nat) : Int)))
                         (cond ((isI .u64 (cellAt (lget x0 (Int.toNat x5)) 2)) && ((isI .u64 (cellAt (lget x0 (Int.toNat x5)) 3)) && ((isI .u64 (cellAt (lget x0 (Int.toNat x5)) 4)) && ((isI .u64 (cellAt (lget x0 (Int.toNat x5)) 5)) && ((isI .u64 (cellAt (lget x0 (Int.toNat x5)) 6)) && ((isI .u64 (cellAt (lget x0 (Int.toNat x5)) 7)) && (isI .u64 (cellAt (lget x0 (Int.toNat x5)) 8))))))))
                           (cond ((leI 0 x5) && (ltI x5 (((List.length x1) : Nat) : Int)))
                             (cond ((isI .u64 (cellAt (lget x1 (Int.toNat x5)) 2)) && ((isI .u64 (cellAt (lget x1 (Int.toNat x5)) 3)) && ((isI .u64 (cellAt (lget x1 (Int.toNat x5)) 4)) && ((isI .u64 (cellAt (lget x1 (Int.toNat x5)) 5)) && ((isI .u64 (cellAt (lget x1 (Int.toNat x5)) 6)) && ((isI .u64 (cellAt (lget x1 (Int.toNat x5)) 7)) && (isI .u64 (cellAt (lget x1 (Int.toNat x5)) 8))))))))
                               (cond (!(((avInt (cellAt (lget x0 (Int.toNat x5)) 2)) == (avInt (cellAt (lget x1 (Int.toNat x5)) 2))) && (((avInt (cellAt (lget x0 (Int.toNat x5)) 3)) == (avInt (cellAt (lget x1 (Int.toNat x5)) 3))) && (((avInt (cellAt (lget x0 (Int.toNat x5)) 4)) == (avInt (cellAt (lget x1 (Int.toNat x5)) 4))) && (((avInt (cellAt (lget x0 (Int.toNat x5)) 5)) == (avInt (cellAt (lget x1 (Int.toNat x5)) 5))) && (((avInt (cellAt (lget x0 (Int.toNat x5)) 6)) == (avInt (cellAt (lget x1 (Int.toNat x5)) 6))) && (((avInt (cellAt (lget x0 (Int.toNat x5)) 7)) == (avInt (cellAt (lget x1 (Int.toNat x5)) 7))) && ((avInt (cellAt (lget x0 (Int.toNat x5)) 8)) == (avInt (cellAt (lget x1 (Int.toNat x5)) 8))))))))))
                                 (some ⟨none, ⟨[], []⟩, [(.v (.bool false))]⟩)
                                 (lp 28 0 0 ⟨[(0, (.lst x0n 9 x0)), (1, (.lst x1n 9 x1)), (5, (.v (.int .i64 (IntKind.wrap .i64 (x5 + 1)))))], []⟩))
                               (none))
                             (none))
                           (none))
                         (none)))
                     (none))
                   (none))
                 (none))
               (none)))
           (none))
         (none))
       (none))
     (none))
   (some ⟨(some 0), ⟨[], []⟩, []⟩) := (lp_eq _ _ _ _).trans (by kernel_rfl)
-- "bodega/pointer.At"
theorem ev31 (a0_0 : Int) (a0_1 : Int) (a0_2 : Int) (a0_3 : Int) (a0_4 : Int) (a0_5 : Int) (a0_6 : Int) (a0_7 : Int) (a0_8 : Int) : ev 31 [(.agg [(.v (.int .i64 a0_0)), (.v (.int .u64 a0_1)), (.v (.int .u64 a0_2)), (.v (.int .u64 a0_3)), (.v (.int .u64 a0_4)), (.v (.int .u64 a0_5)), (.v (.int .u64 a0_6)), (.v (.int .u64 a0_7)), (.v (.int .u64 a0_8))])] =
  (ev 49 [(.agg [(.v (.int .i64 a0_0)), (.v (.int .u64 a0_1)), (.v (.int .u64 a0_2)), (.v (.int .u64 a0_3)), (.v (.int .u64 a0_4)), (.v (.int .u64 a0_5)), (.v (.int .u64 a0_6)), (.v (.int .u64 a0_7)), (.v (.int .u64 a0_8))])]).bind fun r0 =>
  cond ((Ev.isAgg 3 (cellAt r0 0)) && ((isI .i64 (cellAt (obCells (cellAt r0 0)) 0)) && ((isI .i64 (cellAt (obCells (cellAt r0 0)) 1)) && (isI .u32 (cellAt (obCells (cellAt r0 0)) 2)))))
   (some [(.agg [(.v (.int .i64 a0_0)), (.v (.int .i64 (avInt (cellAt (obCells (cellAt r0 0)) 1))))])])
   (none) := (ev_eq _ _).trans (by kernel_rfl)
-- "bodega/pointer.Unpack"
theorem ev33 (a0_0 : Int) : ev 33 [(.v (.int .u32 a0_0))] =
  some [(.agg [(.v (.int .i64 (IntKind.wrap .i64 (bits .and .u32 a0_0 255)))), (.v (.int .i64 (IntKind.wrap .i64 (Int.fdiv a0_0 256))))])] := (ev_eq _ _).trans (by kernel_rfl)
-- "bodega/record.fill"
theorem ev34 (a0_0 : Int) (a0_1 : Int) (a0_2 : Int) (a0_3 : Int) (a0_4 : Int) (a0_5 : Int) (a0_6 : Int) (a0_7 : Int) (a0_8 : Int) (a1_0 : Int) (a1_1 : Int) (a1_2 : Int) (a1_3 : Int) (a1_4 : Bool) (a1_5 : Int) (a1_6 : Int) (a1_7 : Int) (a1_8 : Int) : ev 34 [(.agg [(.v (.int .i64 a0_0)), (.v (.int .u64 a0_1)), (.v (.int .u64 a0_2)), (.v (.int .u64 a0_3)), (.v (.int .u64 a0_4)), (.v (.int .u64 a0_5)), (.v (.int .u64 a0_6)), (.v (.int .u64 a0_7)), (.v (.int .u64 a0_8))]), (.agg [(.v (.int .u32 a1_0)), (.v (.int .i64 a1_1)), (.v (.int .i64 a1_2)), (.v (.int .i64 a1_3)), (.v (.bool a1_4)), (.v (.int .u32 a1_5)), (.v (.int .u64 a1_6)), (.v (.int .i64 a1_7)), (.v (.int .i64 a1_8))])] =
  (ev 25 [(.v (.int .u64 a0_2))]).bind fun r0 =>
  cond ((Ev.isAgg 3 (cellAt r0 0)) && ((isI .i64 (cellAt (obCells (cellAt r0 0)) 0)) && ((isI .i64 (cellAt (obCells (cellAt r0 0)) 1)) && (isI .u32 (cellAt (obCells (cellAt r0 0)) 2)))))
   ((ev 53 [(.agg [(.v (.int .i64 a1_7)), (.v (.int .i64 a1_8))])]).bind fun r5 =>
    cond (isI .u32 (cellAt r5 0))
     (cond a1_4
       ((ev 24 [(.agg [(.v (.int .i64 (avInt (cellAt (obCells (cellAt r0 0)) 0)))), (.v (.int .i64 (avInt (cellAt (obCells (cellAt r0 0)) 1)))), (.v (.int .u32 1))])]).bind fun r38 =>
        cond (isI .u64 (cellAt r38 0))
         (some [(.agg [(.v (.int .i64 a0_0)), (.v (.int .u64 a0_1)), (.v (.int .u64 (avInt (cellAt r38 0)))), (.v (.int .u64 (bits .or .u64 (IntKind.wrap .u64 a1_0) (IntKind.wrap .u64 ((IntKind.wrap .u64 (avInt (cellAt r5 0))) * 4294967296))))), (.v (.int .u64 (IntKind.wrap .u64 a1_5))), (.v (.int .u64 (IntKind.wrap .u64 a1_2))), (.v (.int .u64 (IntKind.wrap .u64 a1_3))), (.v (.int .u64 a1_6)), (.v (.int .u64 0))])])
         (none))
       ((ev 24 [(.agg [(.v (.int .i64 (avInt (cellAt (obCells (cellAt r0 0)) 0)))), (.v (.int .i64 (avInt (cellAt (obCells (cellAt r0 0)) 1)))), (.v (.int .u32 0))])]).bind fun r40 =>
        cond (isI .u64 (cellAt r40 0))
         (some [(.agg [(.v (.int .i64 a0_0)), (.v (.int .u64 a0_1)), (.v (.int .u64 (avInt (cellAt r40 0)))), (.v (.int .u64 (bits .or .u64 (IntKind.wrap .u64 a1_0) (IntKind.wrap .u64 ((IntKind.wrap .u64 (avInt (cellAt r5 0))) * 4294967296))))), (.v (.int .u64 (IntKind.wrap .u64 a1_1))), (.v (.int .u64 (IntKind.wrap .u64 a1_2))), (.v (.int .u64 (IntKind.wrap .u64 a1_3))), (.v (.int .u64 a1_6)), (.v (.int .u64 0))])])
         (none)))
     (none))
   (none) := (ev_eq _ _).trans (by kernel_rfl)
-- "bodega/bodegaref19.Aux"
theorem ev35 (a0_0 : Int) (a0_1 : Int) (a0_2 : Int) (a0_3 : Int) (a0_4 : Int) (a0_5 : Int) (a0_6 : Int) (a0_7 : Int) (a0_8 : Int) : ev 35 [(.agg [(.v (.int .i64 a0_0)), (.v (.int .u64 a0_1)), (.v (.int .u64 a0_2)), (.v (.int .u64 a0_3)), (.v (.int .u64 a0_4)), (.v (.int .u64 a0_5)), (.v (.int .u64 a0_6)), (.v (.int .u64 a0_7)), (.v (.int .u64 a0_8))])] =
  some [(.v (.int .u32 (IntKind.wrap .u32 (Int.fdiv a0_2 4294967296))))] := (ev_eq _ _).trans (by kernel_rfl)
-- "bodega/bodegaref19.Kind"
theorem ev36 (a0_0 : Int) (a0_1 : Int) (a0_2 : Int) (a0_3 : Int) (a0_4 : Int) (a0_5 : Int) (a0_6 : Int) (a0_7 : Int) (a0_8 : Int) : ev 36 [(.agg [(.v (.int .i64 a0_0)), (.v (.int .u64 a0_1)), (.v (.int .u64 a0_2)), (.v (.int .u64 a0_3)), (.v (.int .u64 a0_4)), (.v (.int .u64 a0_5)), (.v (.int .u64 a0_6)), (.v (.int .u64 a0_7)), (.v (.int .u64 a0_8))])] =
  some [(.v (.int .i64 (IntKind.wrap .i64 (Int.tmod a0_2 256))))] := (ev_eq _ _).trans (by kernel_rfl)
-- "bodega/bodegaref19.nilOrValid"
theorem ev37 (a0_0 : Int) : ev 37 [(.v (.int .u32 a0_0))] =
  cond (a0_0 == 0)
   (some [(.v (.bool true))])
   ((ev 38 [(.v (.int .u32 a0_0))]).bind fun r1 =>
    cond ((Ev.isAgg 2 (cellAt r1 0)) && ((isI .i64 (cellAt (obCells (cellAt r1 0)) 0)) && (isI .i64 (cellAt (obCells (cellAt r1 0)) 1))))
     ((ev 43 [(.agg [(.v (.int .i64 (avInt (cellAt (obCells (cellAt r1 0)) 0)))), (.v (.int .i64 (avInt (cellAt (obCells (cellAt r1 0)) 1))))])]).bind fun r4 =>
      cond (isB (cellAt r4 0))
       (some [(.v (.bool (avBool (cellAt r4 0))))])
       (none))
     (none)) := (ev_eq _ _).trans (by kernel_rfl)
-- "bodega/bodegaref19.Unpack"
theorem ev38 (a0_0 : Int) : ev 38 [(.v (.int .u32 a0_0))] =
  some [(.agg [(.v (.int .i64 (IntKind.wrap .i64 (Int.tmod a0_0 256)))), (.v (.int .i64 (IntKind.wrap .i64 (IntKind.wrap .u32 (Int.tdiv a0_0 256)))))])] := (ev_eq _ _).trans (by kernel_rfl)
-- "bodega/bodegaref19.Tag"
theorem ev39 (a0_0 : Int) (a1_0 : Int) (a2_0 : Int) : ev 39 [(.v (.int .i64 a0_0)), (.v (.int .i64 a1_0)), (.v (.int .u32 a2_0))] =
  some [(.v (.int .u64 (IntKind.wrap .u64 ((IntKind.wrap .u64 ((Int.tmod (IntKind.wrap .u64 a0_0) 256) + (IntKind.wrap .u64 ((Int.tmod (IntKind.wrap .u64 a1_0) 16777216) * 256)))) + (IntKind.wrap .u64 ((IntKind.wrap .u64 a2_0) * 4294967296))))))] := (ev_eq _ _).trans (by kernel_rfl)
-- "bodega/bodegaref19.Gen"
theorem ev40 (a0_0 : Int) (a0_1 : Int) (a0_2 : Int) (a0_3 : Int) (a0_4 : Int) (a0_5 : Int) (a0_6 : Int) (a0_7 : Int) (a0_8 : Int) : ev 40 [(.agg [(.v (.int .i64 a0_0)), (.v (.int .u64 a0_1)), (.v (.int .u64 a0_2)), (.v (.int .u64 a0_3)), (.v (.int .u64 a0_4)), (.v (.int .u64 a0_5)), (.v (.int .u64 a0_6)), (.v (.int .u64 a0_7)), (.v (.int .u64 a0_8))])] =
  some [(.v (.int .i64 (IntKind.wrap .i64 (Int.tmod (IntKind.wrap .u64 (Int.tdiv a0_2 256)) 16777216))))] := (ev_eq _ _).trans (by kernel_rfl)
-- "bodega/bodegaref19.Pack"
theorem ev41 (a0_0 : Int) (a0_1 : Int) : ev 41 [(.agg [(.v (.int .i64 a0_0)), (.v (.int .i64 a0_1))])] =
  (ev 43 [(.agg [(.v (.int .i64 a0_0)), (.v (.int .i64 a0_1))])]).bind fun r0 =>
  cond (isB (cellAt r0 0))
   (cond (!(avBool (cellAt r0 0)))
     (some [(.v (.int .u32 0))])
     (some [(.v (.int .u32 (IntKind.wrap .u32 ((IntKind.wrap .u32 a0_0) + (IntKind.wrap .u32 (256 * (IntKind.wrap .u32 a0_1)))))))]))
   (none) := (ev_eq _ _).trans (by kernel_rfl)
-- "bodega/pointer.Valid"
theorem ev42 (a0_0 : Int) (a0_1 : Int) : ev 42 [(.agg [(.v (.int .i64 a0_0)), (.v (.int .i64 a0_1))])] =
  (ev 50 [(.v (.int .i64 a0_0))]).bind fun r0 =>
  cond (isB (cellAt r0 0))
   (cond (avBool (cellAt r0 0))
     (cond (leI 1 a0_1)
       (some [(.v (.bool (leI a0_1 16777215)))])
       (some [(.v (.bool false))]))
     (some [(.v (.bool false))]))
   (none) := (ev_eq _ _).trans (by kernel_rfl)
-- "bodega/bodegaref19.ValidPointer"
theorem ev43 (a0_0 : Int) (a0_1 : Int) : ev 43 [(.agg [(.v (.int .i64 a0_0)), (.v (.int .i64 a0_1))])] =
  (ev 47 [(.v (.int .i64 a0_0))]).bind fun r0 =>
  cond (isB (cellAt r0 0))
   (cond (avBool (cellAt r0 0))
     (cond (leI 1 a0_1)
       (some [(.v (.bool (leI a0_1 16777215)))])
       (some [(.v (.bool false))]))
     (some [(.v (.bool false))]))
   (none) := (ev_eq _ _).trans (by kernel_rfl)
-- "bodega/pointer.Locked"
theorem ev44 (a0_0 : Int) (a0_1 : Int) (a0_2 : Int) (a0_3 : Int) (a0_4 : Int) (a0_5 : Int) (a0_6 : Int) (a0_7 : Int) (a0_8 : Int) : ev 44 [(.agg [(.v (.int .i64 a0_0)), (.v (.int .u64 a0_1)), (.v (.int .u64 a0_2)), (.v (.int .u64 a0_3)), (.v (.int .u64 a0_4)), (.v (.int .u64 a0_5)), (.v (.int .u64 a0_6)), (.v (.int .u64 a0_7)), (.v (.int .u64 a0_8))])] =
  some [(.v (.bool (!((bits .and .u64 a0_1 255) == 0))))] := (ev_eq _ _).trans (by kernel_rfl)
-- "bodega/bodegaref19.Locked"
theorem ev45 (a0_0 : Int) (a0_1 : Int) (a0_2 : Int) (a0_3 : Int) (a0_4 : Int) (a0_5 : Int) (a0_6 : Int) (a0_7 : Int) (a0_8 : Int) : ev 45 [(.agg [(.v (.int .i64 a0_0)), (.v (.int .u64 a0_1)), (.v (.int .u64 a0_2)), (.v (.int .u64 a0_3)), (.v (.int .u64 a0_4)), (.v (.int .u64 a0_5)), (.v (.int .u64 a0_6)), (.v (.int .u64 a0_7)), (.v (.int .u64 a0_8))])] =
  some [(.v (.bool (!((Int.tmod a0_1 256) == 0))))] := (ev_eq _ _).trans (by kernel_rfl)
-- "bodega/bodegaref19.At"
theorem ev46 (a0_0 : Int) (a0_1 : Int) (a0_2 : Int) (a0_3 : Int) (a0_4 : Int) (a0_5 : Int) (a0_6 : Int) (a0_7 : Int) (a0_8 : Int) : ev 46 [(.agg [(.v (.int .i64 a0_0)), (.v (.int .u64 a0_1)), (.v (.int .u64 a0_2)), (.v (.int .u64 a0_3)), (.v (.int .u64 a0_4)), (.v (.int .u64 a0_5)), (.v (.int .u64 a0_6)), (.v (.int .u64 a0_7)), (.v (.int .u64 a0_8))])] =
  (ev 40 [(.agg [(.v (.int .i64 a0_0)), (.v (.int .u64 a0_1)), (.v (.int .u64 a0_2)), (.v (.int .u64 a0_3)), (.v (.int .u64 a0_4)), (.v (.int .u64 a0_5)), (.v (.int .u64 a0_6)), (.v (.int .u64 a0_7)), (.v (.int .u64 a0_8))])]).bind fun r0 =>
  cond (isI .i64 (cellAt r0 0))
   (some [(.agg [(.v (.int .i64 a0_0)), (.v (.int .i64 (avInt (cellAt r0 0))))])])
   (none) := (ev_eq _ _).trans (by kernel_rfl)
-- "bodega/bodegaref19.heapLine"
theorem ev47 (a0_0 : Int) : ev 47 [(.v (.int .i64 a0_0))] =
  cond (leI 104 a0_0)
   (some [(.v (.bool (ltI a0_0 256)))])
   (some [(.v (.bool false))]) := (ev_eq _ _).trans (by kernel_rfl)
-- "bodega/bodegaref19.Merge"
theorem ev48 (a0_0n : Bool) (a0_0 : List (List AV)) (a1_0n : Bool) (a1_0 : List (List AV)) : ev 48 [(.lst a0_0n 9 a0_0), (.lst a1_0n 9 a1_0)] =
  cond (leN ((0 + (List.length a0_0)) * 72) 140737488355328)
   (cond (leN (((List.length ([] ++ a0_0)) + (List.length a1_0)) * 72) 140737488355328)
     ((lp 48 0 0 ⟨[(5, (.sl true 0 0 none)), (6, (.sl ((List.isEmpty a1_0) && ((List.isEmpty a0_0) && false)) 1 0 none)), (7, (.v (.int .i64 0)))], [⟨1, 34, 9, false, []⟩, ⟨1, 34, 9, false, (([] ++ a0_0) ++ a1_0)⟩]⟩).bind fun r5 =>
      cond (isEx 0 r5)
       (cond (likeStG ⟨[(5, (.sl true 0 0 none))], [⟨1, 34, 9, false, []⟩]⟩ r5.st)
         (some [(.lst (avNil (frAt r5.st.fr 0).2) 9 (blAt r5.st.bl 0).xs)])
         (none))
       (cond (isRt r5)
         (some r5.outs)
         (none)))
     (none))
   (none) := (ev_eq _ _).trans (by kernel_rfl)
theorem lp48_0 (x5n : Bool) (x6n : Bool) (x7 : Int) (b0 : List (List AV)) (b1 : List (List AV)) : lp 48 0 0 ⟨[(5, (.sl x5n 0 0 none)), (6, (.sl x6n 1 0 none)), (7, (.v (.int .i64 x7)))], [⟨1, 34, 9, false, b0⟩, ⟨1, 34, 9, false, b1⟩]⟩ =
  cond (ltI x7 ((((List.length b1) - 0) : Nat) : Int))
   ((lp 48 1 0 ⟨[(5, (.sl x5n 0 0 none)), (6, (.sl x6n 1 0 none)), (7, (.v (.int .i64 x7))), (8, (.v (.int .i64 0)))], [⟨1, 34, 9, false, b0⟩, ⟨1, 34, 9, false, b1⟩]⟩).bind fun r10 =>
    cond (isEx 2 r10)
     (cond (likeStG ⟨[(5, (.sl x5n 0 0 none)), (6, (.sl x6n 1 0 none)), (7, (.v (.int .i64 x7))), (8, (.v (.int .i64 0)))], [⟨1, 34, 9, false, b0⟩, ⟨1, 34, 9, false, b1⟩]⟩ r10.st)
       (cond (ltI (avInt (frAt r10.st.fr 3).2) ((((List.length (blAt r10.st.bl 0).xs) - 0) : Nat) : Int))
         (cond ((leI 0 (avInt (frAt r10.st.fr 3).2)) && (ltI (avInt (frAt r10.st.fr 3).2) ((((List.length (blAt r10.st.bl 0).xs) - 0) : Nat) : Int)))
           (cond ((ltN (0 + (Int.toNat (avInt (frAt r10.st.fr 3).2))) (List.length (blAt r10.st.bl 0).xs)) && (isI .i64 (cellAt (lget (blAt r10.st.bl 0).xs (0 + (Int.toNat (avInt (frAt r10.st.fr 3).2)))) 0)))
             (cond ((leI 0 (avInt (frAt r10.st.fr 2).2)) && (ltI (avInt (frAt r10.st.fr 2).2) ((((List.length (blAt r10.st.bl 1).xs) - 0) : Nat) : Int)))
               (cond ((ltN (0 + (Int.toNat (avInt (frAt r10.st.fr 2).2))) (List.length (blAt r10.st.bl 1).xs)) && (isI .i64 (cellAt (lget (blAt r10.st.bl 1).xs (0 + (Int.toNat (avInt (frAt r10.st.fr 2).2)))) 0)))
                 (cond ((avInt (cellAt (lget (blAt r10.st.bl 0).xs (0 + (Int.toNat (avInt (frAt r10.st.fr 3).2)))) 0)) == (avInt (cellAt (lget (blAt r10.st.bl 1).xs (0 + (Int.toNat (avInt (frAt r10.st.fr 2).2)))) 0)))
                   (cond ((leI 0 (avInt (frAt r10.st.fr 2).2)) && (ltI (avInt (frAt r10.st.fr 2).2) ((((List.length (blAt r10.st.bl 1).xs) - 0) : Nat) : Int)))
                     (cond ((ltN (0 + (Int.toNat (avInt (frAt r10.st.fr 2).2))) (List.length (blAt r10.st.bl 1).xs)) && ((isI .i64 (cellAt (lget (blAt r10.st.bl 1).xs (0 + (Int.toNat (avInt (frAt r10.st.fr 2).2)))) 0)) && ((isI .u64 (cellAt (lget (blAt r10.st.bl 1).xs (0 + (Int.toNat (avInt (frAt r10.st.fr 2).2)))) 1)) && ((isI .u64 (cellAt (lget (blAt r10.st.bl 1).xs (0 + (Int.toNat (avInt (frAt r10.st.fr 2).2)))) 2)) && ((isI .u64 (cellAt (lget (blAt r10.st.bl 1).xs (0 + (Int.toNat (avInt (frAt r10.st.fr 2).2)))) 3)) && ((isI .u64 (cellAt (lget (blAt r10.st.bl 1).xs (0 + (Int.toNat (avInt (frAt r10.st.fr 2).2)))) 4)) && ((isI .u64 (cellAt (lget (blAt r10.st.bl 1).xs (0 + (Int.toNat (avInt (frAt r10.st.fr 2).2)))) 5)) && ((isI .u64 (cellAt (lget (blAt r10.st.bl 1).xs (0 + (Int.toNat (avInt (frAt r10.st.fr 2).2)))) 6)) && ((isI .u64 (cellAt (lget (blAt r10.st.bl 1).xs (0 + (Int.toNat (avInt (frAt r10.st.fr 2).2)))) 7)) && (isI .u64 (cellAt (lget (blAt r10.st.bl 1).xs (0 + (Int.toNat (avInt (frAt r10.st.fr 2).2)))) 8)))))))))))
                       (cond ((leI 0 (avInt (frAt r10.st.fr 3).2)) && (ltI (avInt (frAt r10.st.fr 3).2) ((((List.length (blAt r10.st.bl 0).xs) - 0) : Nat) : Int)))
                         (cond (ltN (0 + (Int.toNat (avInt (frAt r10.st.fr 3).2))) (List.length (blAt r10.st.bl 0).xs))
                           (lp 48 0 0 ⟨[(5, (.sl (avNil (frAt r10.st.fr 0).2) 0 0 none)), (6, (.sl (avNil (frAt r10.st.fr 1).2) 1 0 none)), (7, (.v (.int .i64 (IntKind.wrap .i64 ((avInt (frAt r10.st.fr 2).2) + 1)))))], [⟨1, 34, 9, false, (List.set (blAt r10.st.bl 0).xs (0 + (Int.toNat (avInt (frAt r10.st.fr 3).2))) [(.v (.int .i64 (avInt (cellAt (lget (blAt r10.st.bl 1).xs (0 + (Int.toNat (avInt (frAt r10.st.fr 2).2)))) 0)))), (.v (.int .u64 (avInt (cellAt (lget (blAt r10.st.bl 1).xs (0 + (Int.toNat (avInt (frAt r10.st.fr 2).2)))) 1)))), (.v (.int .u64 (avInt (cellAt (lget (blAt r10.st.bl 1).xs (0 + (Int.toNat (avInt (frAt r10.st.fr 2).2)))) 2)))), (.v (.int .u64 (avInt (cellAt (lget (blAt r10.st.bl 1).xs (0 + (Int.toNat (avInt (frAt r10.st.fr 2).2)))) 3)))), (.v (.int .u64 (avInt (cellAt (lget (blAt r10.st.bl 1).xs (0 + (Int.toNat (avInt (frAt r10.st.fr 2).2)))) 4)))), (.v (.int .u64 (avInt (cellAt (lget (blAt r10.st.bl 1).xs (0 + (Int.toNat (avInt (frAt r10.st.fr 2).2)))) 5)))), (.v (.int .u64 (avInt (cellAt (lget (blAt r10.st.bl 1).xs (0 + (Int.toNat (avInt (frAt r10.st.fr 2).2)))) 6)))), (.v (.int .u64 (avInt (cellAt (lget (blAt r10.st.bl 1).xs (0 + (Int.toNat (avInt (frAt r10.st.fr 2).2)))) 7)))), (.v (.int .u64 (avInt (cellAt (lget (blAt r10.st.bl 1).xs (0 + (Int.toNat (avInt (frAt r10.st.fr 2).2)))) 8))))])⟩, ⟨1, 34, 9, false, (blAt r10.st.bl 1).xs⟩]⟩)
                           (none))
                         (none))
                       (none))
                     (none))
                   (cond ((leI 0 (avInt (frAt r10.st.fr 3).2)) && (leI (avInt (frAt r10.st.fr 3).2) ((((List.length (blAt r10.st.bl 0).xs) - 0) : Nat) : Int)))
                     (cond ((leI 0 (avInt (frAt r10.st.fr 2).2)) && (ltI (avInt (frAt r10.st.fr 2).2) ((((List.length (blAt r10.st.bl 1).xs) - 0) : Nat) : Int)))
                       (cond ((ltN (0 + (Int.toNat (avInt (frAt r10.st.fr 2).2))) (List.length (blAt r10.st.bl 1).xs)) && ((isI .i64 (cellAt (lget (blAt r10.st.bl 1).xs (0 + (Int.toNat (avInt (frAt r10.st.fr 2).2)))) 0)) && ((isI .u64 (cellAt (lget (blAt r10.st.bl 1).xs (0 + (Int.toNat (avInt (frAt r10.st.fr 2).2)))) 1)) && ((isI .u64 (cellAt (lget (blAt r10.st.bl 1).xs (0 + (Int.toNat (avInt (frAt r10.st.fr 2).2)))) 2)) && ((isI .u64 (cellAt (lget (blAt r10.st.bl 1).xs (0 + (Int.toNat (avInt (frAt r10.st.fr 2).2)))) 3)) && ((isI .u64 (cellAt (lget (blAt r10.st.bl 1).xs (0 + (Int.toNat (avInt (frAt r10.st.fr 2).2)))) 4)) && ((isI .u64 (cellAt (lget (blAt r10.st.bl 1).xs (0 + (Int.toNat (avInt (frAt r10.st.fr 2).2)))) 5)) && ((isI .u64 (cellAt (lget (blAt r10.st.bl 1).xs (0 + (Int.toNat (avInt (frAt r10.st.fr 2).2)))) 6)) && ((isI .u64 (cellAt (lget (blAt r10.st.bl 1).xs (0 + (Int.toNat (avInt (frAt r10.st.fr 2).2)))) 7)) && (isI .u64 (cellAt (lget (blAt r10.st.bl 1).xs (0 + (Int.toNat (avInt (frAt r10.st.fr 2).2)))) 8)))))))))))
                         (cond ((leI 0 (avInt (frAt r10.st.fr 3).2)) && (leI (avInt (frAt r10.st.fr 3).2) ((((List.length (blAt r10.st.bl 0).xs) - 0) : Nat) : Int)))
                           (cond (leN ((1 + (List.length (List.drop (0 + (Int.toNat (avInt (frAt r10.st.fr 3).2))) (blAt r10.st.bl 0).xs))) * 72) 140737488355328)
                             (cond (leN (((List.length (List.take (Int.toNat (avInt (frAt r10.st.fr 3).2)) (blAt r10.st.bl 0).xs)) + (List.length ([[(.v (.int .i64 (avInt (cellAt (lget (blAt r10.st.bl 1).xs (0 + (Int.toNat (avInt (frAt r10.st.fr 2).2)))) 0)))), (.v (.int .u64 (avInt (cellAt (lget (blAt r10.st.bl 1).xs (0 + (Int.toNat (avInt (frAt r10.st.fr 2).2)))) 1)))), (.v (.int .u64 (avInt (cellAt (lget (blAt r10.st.bl 1).xs (0 + (Int.toNat (avInt (frAt r10.st.fr 2).2)))) 2)))), (.v (.int .u64 (avInt (cellAt (lget (blAt r10.st.bl 1).xs (0 + (Int.toNat (avInt (frAt r10.st.fr 2).2)))) 3)))), (.v (.int .u64 (avInt (cellAt (lget (blAt r10.st.bl 1).xs (0 + (Int.toNat (avInt (frAt r10.st.fr 2).2)))) 4)))), (.v (.int .u64 (avInt (cellAt (lget (blAt r10.st.bl 1).xs (0 + (Int.toNat (avInt (frAt r10.st.fr 2).2)))) 5)))), (.v (.int .u64 (avInt (cellAt (lget (blAt r10.st.bl 1).xs (0 + (Int.toNat (avInt (frAt r10.st.fr 2).2)))) 6)))), (.v (.int .u64 (avInt (cellAt (lget (blAt r10.st.bl 1).xs (0 + (Int.toNat (avInt (frAt r10.st.fr 2).2)))) 7)))), (.v (.int .u64 (avInt (cellAt (lget (blAt r10.st.bl 1).xs (0 + (Int.toNat (avInt (frAt r10.st.fr 2).2)))) 8))))]] ++ (List.drop (0 + (Int.toNat (avInt (frAt r10.st.fr 3).2))) (blAt r10.st.bl 0).xs)))) * 72) 140737488355328)
                               (lp 48 0 0 ⟨[(5, (.sl ((List.isEmpty ([[(.v (.int .i64 (avInt (cellAt (lget (blAt r10.st.bl 1).xs (0 + (Int.toNat (avInt (frAt r10.st.fr 2).2)))) 0)))), (.v (.int .u64 (avInt (cellAt (lget (blAt r10.st.bl 1).xs (0 + (Int.toNat (avInt (frAt r10.st.fr 2).2)))) 1)))), (.v (.int .u64 (avInt (cellAt (lget (blAt r10.st.bl 1).xs (0 + (Int.toNat (avInt (frAt r10.st.fr 2).2)))) 2)))), (.v (.int .u64 (avInt (cellAt (lget (blAt r10.st.bl 1).xs (0 + (Int.toNat (avInt (frAt r10.st.fr 2).2)))) 3)))), (.v (.int .u64 (avInt (cellAt (lget (blAt r10.st.bl 1).xs (0 + (Int.toNat (avInt (frAt r10.st.fr 2).2)))) 4)))), (.v (.int .u64 (avInt (cellAt (lget (blAt r10.st.bl 1).xs (0 + (Int.toNat (avInt (frAt r10.st.fr 2).2)))) 5)))), (.v (.int .u64 (avInt (cellAt (lget (blAt r10.st.bl 1).xs (0 + (Int.toNat (avInt (frAt r10.st.fr 2).2)))) 6)))), (.v (.int .u64 (avInt (cellAt (lget (blAt r10.st.bl 1).xs (0 + (Int.toNat (avInt (frAt r10.st.fr 2).2)))) 7)))), (.v (.int .u64 (avInt (cellAt (lget (blAt r10.st.bl 1).xs (0 + (Int.toNat (avInt (frAt r10.st.fr 2).2)))) 8))))]] ++ (List.drop (0 + (Int.toNat (avInt (frAt r10.st.fr 3).2))) (blAt r10.st.bl 0).xs))) && (avNil (frAt r10.st.fr 0).2)) 0 0 none)), (6, (.sl (avNil (frAt r10.st.fr 1).2) 1 0 none)), (7, (.v (.int .i64 (IntKind.wrap .i64 ((avInt (frAt r10.st.fr 2).2) + 1)))))], [⟨1, 34, 9, false, ((List.take (Int.toNat (avInt (frAt r10.st.fr 3).2)) (blAt r10.st.bl 0).xs) ++ ([[(.v (.int .i64 (avInt (cellAt (lget (blAt r10.st.bl 1).xs (0 + (Int.toNat (avInt (frAt r10.st.fr 2).2)))) 0)))), (.v (.int .u64 (avInt (cellAt (lget (blAt r10.st.bl 1).xs (0 + (Int.toNat (avInt (frAt r10.st.fr 2).2)))) 1)))), (.v (.int .u64 (avInt (cellAt (lget (blAt r10.st.bl 1).xs (0 + (Int.toNat (avInt (frAt r10.st.fr 2).2)))) 2)))), (.v (.int .u64 (avInt (cellAt (lget (blAt r10.st.bl 1).xs (0 + (Int.toNat (avInt (frAt r10.st.fr 2).2)))) 3)))), (.v (.int .u64 (avInt (cellAt (lget (blAt r10.st.bl 1).xs (0 + (Int.toNat (avInt (frAt r10.st.fr 2).2)))) 4)))), (.v (.int .u64 (avInt (cellAt (lget (blAt r10.st.bl 1).xs (0 + (Int.toNat (avInt (frAt r10.st.fr 2).2)))) 5)))), (.v (.int .u64 (avInt (cellAt (lget (blAt r10.st.bl 1).xs (0 + (Int.toNat (avInt (frAt r10.st.fr 2).2)))) 6)))), (.v (.int .u64 (avInt (cellAt (lget (blAt r10.st.bl 1).xs (0 + (Int.toNat (avInt (frAt r10.st.fr 2).2)))) 7)))), (.v (.int .u64 (avInt (cellAt (lget (blAt r10.st.bl 1).xs (0 + (Int.toNat (avInt (frAt r10.st.fr 2).2)))) 8))))]] ++ (List.drop (0 + (Int.toNat (avInt (frAt r10.st.fr 3).2))) (blAt r10.st.bl 0).xs)))⟩, ⟨1, 34, 9, false, (blAt r10.st.bl 1).xs⟩]⟩)
                               (none))
                             (none))
                           (none))
                         (none))
                       (none))
                     (none)))
                 (none))
               (none))
             (none))
           (none))
         (cond ((leI 0 (avInt (frAt r10.st.fr 3).2)) && (leI (avInt (frAt r10.st.fr 3).2) ((((List.length (blAt r10.st.bl 0).xs) - 0) : Nat) : Int)))
           (cond ((leI 0 (avInt (frAt r10.st.fr 2).2)) && (ltI (avInt (frAt r10.st.fr 2).2) ((((List.length (blAt r10.st.bl 1).xs) - 0) : Nat) : Int)))
             (cond ((ltN (0 + (Int.toNat (avInt (frAt r10.st.fr 2).2))) (List.length (blAt r10.st.bl 1).xs)) && ((isI .i64 (cellAt (lget (blAt r10.st.bl 1).xs (0 + (Int.toNat (avInt (frAt r10.st.fr 2).2)))) 0)) && ((isI .u64 (cellAt (lget (blAt r10.st.bl 1).xs (0 + (Int.toNat (avInt (frAt r10.st.fr 2).2)))) 1)) && ((isI .u64 (cellAt (lget (blAt r10.st.bl 1).xs (0 + (Int.toNat (avInt (frAt r10.st.fr 2).2)))) 2)) && ((isI .u64 (cellAt (lget (blAt r10.st.bl 1).xs (0 + (Int.toNat (avInt (frAt r10.st.fr 2).2)))) 3)) && ((isI .u64 (cellAt (lget (blAt r10.st.bl 1).xs (0 + (Int.toNat (avInt (frAt r10.st.fr 2).2)))) 4)) && ((isI .u64 (cellAt (lget (blAt r10.st.bl 1).xs (0 + (Int.toNat (avInt (frAt r10.st.fr 2).2)))) 5)) && ((isI .u64 (cellAt (lget (blAt r10.st.bl 1).xs (0 + (Int.toNat (avInt (frAt r10.st.fr 2).2)))) 6)) && ((isI .u64 (cellAt (lget (blAt r10.st.bl 1).xs (0 + (Int.toNat (avInt (frAt r10.st.fr 2).2)))) 7)) && (isI .u64 (cellAt (lget (blAt r10.st.bl 1).xs (0 + (Int.toNat (avInt (frAt r10.st.fr 2).2)))) 8)))))))))))
               (cond ((leI 0 (avInt (frAt r10.st.fr 3).2)) && (leI (avInt (frAt r10.st.fr 3).2) ((((List.length (blAt r10.st.bl 0).xs) - 0) : Nat) : Int)))
                 (cond (leN ((1 + (List.length (List.drop (0 + (Int.toNat (avInt (frAt r10.st.fr 3).2))) (blAt r10.st.bl 0).xs))) * 72) 140737488355328)
                   (cond (leN (((List.length (List.take (Int.toNat (avInt (frAt r10.st.fr 3).2)) (blAt r10.st.bl 0).xs)) + (List.length ([[(.v (.int .i64 (avInt (cellAt (lget (blAt r10.st.bl 1).xs (0 + (Int.toNat (avInt (frAt r10.st.fr 2).2)))) 0)))), (.v (.int .u64 (avInt (cellAt (lget (blAt r10.st.bl 1).xs (0 + (Int.toNat (avInt (frAt r10.st.fr 2).2)))) 1)))), (.v (.int .u64 (avInt (cellAt (lget (blAt r10.st.bl 1).xs (0 + (Int.toNat (avInt (frAt r10.st.fr 2).2)))) 2)))), (.v (.int .u64 (avInt (cellAt (lget (blAt r10.st.bl 1).xs (0 + (Int.toNat (avInt (frAt r10.st.fr 2).2)))) 3)))), (.v (.int .u64 (avInt (cellAt (lget (blAt r10.st.bl 1).xs (0 + (Int.toNat (avInt (frAt r10.st.fr 2).2)))) 4)))), (.v (.int .u64 (avInt (cellAt (lget (blAt r10.st.bl 1).xs (0 + (Int.toNat (avInt (frAt r10.st.fr 2).2)))) 5)))), (.v (.int .u64 (avInt (cellAt (lget (blAt r10.st.bl 1).xs (0 + (Int.toNat (avInt (frAt r10.st.fr 2).2)))) 6)))), (.v (.int .u64 (avInt (cellAt (lget (blAt r10.st.bl 1).xs (0 + (Int.toNat (avInt (frAt r10.st.fr 2).2)))) 7)))), (.v (.int .u64 (avInt (cellAt (lget (blAt r10.st.bl 1).xs (0 + (Int.toNat (avInt (frAt r10.st.fr 2).2)))) 8))))]] ++ (List.drop (0 + (Int.toNat (avInt (frAt r10.st.fr 3).2))) (blAt r10.st.bl 0).xs)))) * 72) 140737488355328)
                     (lp 48 0 0 ⟨[(5, (.sl ((List.isEmpty ([[(.v (.int .i64 (avInt (cellAt (lget (blAt r10.st.bl 1).xs (0 + (Int.toNat (avInt (frAt r10.st.fr 2).2)))) 0)))), (.v (.int .u64 (avInt (cellAt (lget (blAt r10.st.bl 1).xs (0 + (Int.toNat (avInt (frAt r10.st.fr 2).2)))) 1)))), (.v (.int .u64 (avInt (cellAt (lget (blAt r10.st.bl 1).xs (0 + (Int.toNat (avInt (frAt r10.st.fr 2).2)))) 2)))), (.v (.int .u64 (avInt (cellAt (lget (blAt r10.st.bl 1).xs (0 + (Int.toNat (avInt (frAt r10.st.fr 2).2)))) 3)))), (.v (.int .u64 (avInt (cellAt (lget (blAt r10.st.bl 1).xs (0 + (Int.toNat (avInt (frAt r10.st.fr 2).2)))) 4)))), (.v (.int .u64 (avInt (cellAt (lget (blAt r10.st.bl 1).xs (0 + (Int.toNat (avInt (frAt r10.st.fr 2).2)))) 5)))), (.v (.int .u64 (avInt (cellAt (lget (blAt r10.st.bl 1).xs (0 + (Int.toNat (avInt (frAt r10.st.fr 2).2)))) 6)))), (.v (.int .u64 (avInt (cellAt (lget (blAt r10.st.bl 1).xs (0 + (Int.toNat (avInt (frAt r10.st.fr 2).2)))) 7)))), (.v (.int .u64 (avInt (cellAt (lget (blAt r10.st.bl 1).xs (0 + (Int.toNat (avInt (frAt r10.st.fr 2).2)))) 8))))]] ++ (List.drop (0 + (Int.toNat (avInt (frAt r10.st.fr 3).2))) (blAt r10.st.bl 0).xs))) && (avNil (frAt r10.st.fr 0).2)) 0 0 none)), (6, (.sl (avNil (frAt r10.st.fr 1).2) 1 0 none)), (7, (.v (.int .i64 (IntKind.wrap .i64 ((avInt (frAt r10.st.fr 2).2) + 1)))))], [⟨1, 34, 9, false, ((List.take (Int.toNat (avInt (frAt r10.st.fr 3).2)) (blAt r10.st.bl 0).xs) ++ ([[(.v (.int .i64 (avInt (cellAt (lget (blAt r10.st.bl 1).xs (0 + (Int.toNat (avInt (frAt r10.st.fr 2).2)))) 0)))), (.v (.int .u64 (avInt (cellAt (lget (blAt r10.st.bl 1).xs (0 + (Int.toNat (avInt (frAt r10.st.fr 2).2)))) 1)))), (.v (.int .u64 (avInt (cellAt (lget (blAt r10.st.bl 1).xs (0 + (Int.toNat (avInt (frAt r10.st.fr 2).2)))) 2)))), (.v (.int .u64 (avInt (cellAt (lget (blAt r10.st.bl 1).xs (0 + (Int.toNat (avInt (frAt r10.st.fr 2).2)))) 3)))), (.v (.int .u64 (avInt (cellAt (lget (blAt r10.st.bl 1).xs (0 + (Int.toNat (avInt (frAt r10.st.fr 2).2)))) 4)))), (.v (.int .u64 (avInt (cellAt (lget (blAt r10.st.bl 1).xs (0 + (Int.toNat (avInt (frAt r10.st.fr 2).2)))) 5)))), (.v (.int .u64 (avInt (cellAt (lget (blAt r10.st.bl 1).xs (0 + (Int.toNat (avInt (frAt r10.st.fr 2).2)))) 6)))), (.v (.int .u64 (avInt (cellAt (lget (blAt r10.st.bl 1).xs (0 + (Int.toNat (avInt (frAt r10.st.fr 2).2)))) 7)))), (.v (.int .u64 (avInt (cellAt (lget (blAt r10.st.bl 1).xs (0 + (Int.toNat (avInt (frAt r10.st.fr 2).2)))) 8))))]] ++ (List.drop (0 + (Int.toNat (avInt (frAt r10.st.fr 3).2))) (blAt r10.st.bl 0).xs)))⟩, ⟨1, 34, 9, false, (blAt r10.st.bl 1).xs⟩]⟩)
                     (none))
                   (none))
                 (none))
               (none))
             (none))
           (none)))
       (none))
     (cond (isRt r10)
       (some ⟨none, ⟨[], []⟩, r10.outs⟩)
       (none)))
   (some ⟨(some 0), ⟨[(5, (.sl x5n 0 0 none))], [⟨1, 34, 9, false, b0⟩]⟩, []⟩) := (lp_eq _ _ _ _).trans (by kernel_rfl)
theorem lp48_1 (x5n : Bool) (x6n : Bool) (x7 : Int) (x8 : Int) (b0 : List (List AV)) (b1 : List (List AV)) : lp 48 1 0 ⟨[(5, (.sl x5n 0 0 none)), (6, (.sl x6n 1 0 none)), (7, (.v (.int .i64 x7))), (8, (.v (.int .i64 x8)))], [⟨1, 34, 9, false, b0⟩, ⟨1, 34, 9, false, b1⟩]⟩ =
  cond (ltI x8 ((((List.length b0) - 0) : Nat) : Int))
   (cond ((leI 0 x8) && (ltI x8 ((((List.length b0) - 0) : Nat) : Int)))
     (cond ((ltN (0 + (Int.toNat x8)) (List.length b0)) && (isI .i64 (cellAt (lget b0 (0 + (Int.toNat x8))) 0)))
       (cond ((leI 0 x7) && (ltI x7 ((((List.length b1) - 0) : Nat) : Int)))
         (cond ((ltN (0 + (Int.toNat x7)) (List.length b1)) && (isI .i64 (cellAt (lget b1 (0 + (Int.toNat x7))) 0)))
           (cond (ltI (avInt (cellAt (lget b0 (0 + (Int.toNat x8))) 0)) (avInt (cellAt (lget b1 (0 + (Int.toNat x7))) 0)))
             (lp 48 1 0 ⟨[(5, (.sl x5n 0 0 none)), (6, (.sl x6n 1 0 none)), (7, (.v (.int .i64 x7))), (8, (.v (.int .i64 (IntKind.wrap .i64 (x8 + 1)))))], [⟨1, 34, 9, false, b0⟩, ⟨1, 34, 9, false, b1⟩]⟩)
             (some ⟨(some 2), ⟨[(5, (.sl x5n 0 0 none)), (6, (.sl x6n 1 0 none)), (7, (.v (.int .i64 x7))), (8, (.v (.int .i64 x8)))], [⟨1, 34, 9, false, b0⟩, ⟨1, 34, 9, false, b1⟩]⟩, []⟩))
           (none))
         (none))
       (none))
     (none))
   (some ⟨(some 2), ⟨[(5, (.sl x5n 0 0 none)), (6, (.sl x6n 1 0 none)), (7, (.v (.int .i64 x7))), (8, (.v (.int .i64 x8)))], [⟨1, 34, 9, false, b0⟩, ⟨1, 34, 9, false, b1⟩]⟩, []⟩) := (lp_eq _ _ _ _).trans (by kernel_rfl)
-- "bodega/pointer.tagOf"
theorem ev49 (a0_0 : Int) (a0_1 : Int) (a0_2 : Int) (a0_3 : Int) (a0_4 : Int) (a0_5 : Int) (a0_6 : Int) (a0_7 : Int) (a0_8 : Int) : ev 49 [(.agg [(.v (.int .i64 a0_0)), (.v (.int .u64 a0_1)), (.v (.int .u64 a0_2)), (.v (.int .u64 a0_3)), (.v (.int .u64 a0_4)), (.v (.int .u64 a0_5)), (.v (.int .u64 a0_6)), (.v (.int .u64 a0_7)), (.v (.int .u64 a0_8))])] =
  (ev 25 [(.v (.int .u64 a0_2))]).bind fun r0 =>
  cond ((Ev.isAgg 3 (cellAt r0 0)) && ((isI .i64 (cellAt (obCells (cellAt r0 0)) 0)) && ((isI .i64 (cellAt (obCells (cellAt r0 0)) 1)) && (isI .u32 (cellAt (obCells (cellAt r0 0)) 2)))))
   (some [(.agg [(.v (.int .i64 (avInt (cellAt (obCells (cellAt r0 0)) 0)))), (.v (.int .i64 (avInt (cellAt (obCells (cellAt r0 0)) 1)))), (.v (.int .u32 (avInt (cellAt (obCells (cellAt r0 0)) 2))))])])
   (none) := (ev_eq _ _).trans (by kernel_rfl)
-- "bodega/pointer.inHeap"
theorem ev50 (a0_0 : Int) : ev 50 [(.v (.int .i64 a0_0))] =
  cond (leI 104 a0_0)
   (some [(.v (.bool (ltI a0_0 256)))])
   (some [(.v (.bool false))]) := (ev_eq _ _).trans (by kernel_rfl)
-- "bodega/pointer.Pack"
theorem ev53 (a0_0 : Int) (a0_1 : Int) : ev 53 [(.agg [(.v (.int .i64 a0_0)), (.v (.int .i64 a0_1))])] =
  (ev 42 [(.agg [(.v (.int .i64 a0_0)), (.v (.int .i64 a0_1))])]).bind fun r0 =>
  cond (isB (cellAt r0 0))
   (cond (!(avBool (cellAt r0 0)))
     (some [(.v (.int .u32 0))])
     (some [(.v (.int .u32 (bits .or .u32 (IntKind.wrap .u32 ((IntKind.wrap .u32 a0_1) * 256)) (IntKind.wrap .u32 a0_0))))]))
   (none) := (ev_eq _ _).trans (by kernel_rfl)
end Go.Proofs.Ythihfpcleejjfaa
