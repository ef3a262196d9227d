/- The functions of the chapter, as the evaluator has them. -/
import Derived.Test.YtkefjdmoikegbaaRows
import Derived.Test.YtkefjdmoikegbaaEv10
import Derived.Test.YtkefjdmoikegbaaEv12
import Derived.Test.YtkefjdmoikegbaaPiecesS
import Derived.Test.YtkefjdmoikegbaaTab2
set_option linter.all false
namespace Go.Proofs.Ytkefjdmoikegbaa
open Go.Ev

def rwF : FuncId → List Bool
  | 11 => [true] | 13 => [true, true] | 21 => [true] | 22 => [true] | 33 => [true] | 37 => [true] | 39 => [false, false, true] | 48 => [true] | 68 => [true] | 69 => [true]
  | 45 => [true] | 46 => [true, true] | 50 => [true] | 74 => [true] | 23 => [true] | 54 => [true] | 56 => [true] | 57 => [true] | 58 => [true] | 82 => [true] | _ => []
def stepN (r : Nat) : Nat := bif Nat.beq (r % 2) 1 then Nat.xor (r / 2) 14514072000185962306 else r / 2
def tabN (i : Nat) : Nat := stepN (stepN (stepN (stepN (stepN (stepN (stepN (stepN i)))))))
def tabL : List AV := (List.range 256).map fun i => .v (.int .u64 (tabN i : Nat))
def extF : FuncId → Option (List AV → Option (List AV))
  | 38 => some pieceG
  | 87 => some fun l => match l with | [] => some [.agg tabL] | _ => none
  | _ => none
def cfg0 : Cfg := { rw := rwF, dat := fun _ => false, inl := fun f => Nat.beq f 8 || Nat.beq f 32 || Nat.beq f 37, roll := fun _ => 8, join := fun _ => false, cl := fun f => Nat.beq f 35 || Nat.beq f 41 }
def cfg : Cfg := { cfg0 with ext := extF }
noncomputable def ev (f : FuncId) (args : List AV) : Option (List AV) := evL Try.prog cfg f args
noncomputable def lp (f k nr : Nat) (s : St) : Option LR := lpL Try.prog cfg f k nr s
theorem ev_eq (f : FuncId) (args : List AV) : ev f args = evTop cfg f args (evBodyG Try.prog cfg (evL Try.prog cfg) (inlD Try.prog cfg (evL Try.prog cfg) 5) (loopL Try.prog cfg f) f args) := evL_eq f args
theorem lp_eq (f k nr : Nat) (s : St) : lp f k nr s = evRound Try.prog cfg (evL Try.prog cfg) (inlD Try.prog cfg (evL Try.prog cfg) 5) (loopL Try.prog cfg f) (cfg.roll f) (cfg.join f) (loopAt Try.prog f k).1 (loopAt Try.prog f k).2 (retAt Try.prog cfg f nr) s := loopL_eq f _ _ _ s

-- "bodega/bodegahand.Pick"
theorem ev10 (a0_0 : Int) (a1_0 : Int) : ev 10 [(.v (.int .i64 a0_0)), (.v (.int .i64 a1_0))] =
  cond (ltI a1_0 1)
   (some [(.v (.int .i64 0))])
   (cond (eqI a1_0 0)
     (none)
     (cond (eqI a1_0 0)
       (none)
       (some [(.v (.int .i64 (Int.tmod (IntKind.wrap .i64 ((Int.tmod a0_0 a1_0) + a1_0)) a1_0)))]))) := (ev_eq _ _).trans (by kernel_rfl)
-- "bodega/bodegaref4.Count"
theorem ev42 (a0_0 : Int) (a0_1 : Int) (a0_2 : Int) (a0_3 : Int) (a0_4 : Int) (a0_5 : Int) (a0_6n : Bool) (a0_6 : List (List AV)) (a0_7 : Int) (a0_8 : Int) : ev 42 [(.agg [(.v (.int .i64 a0_0)), (.v (.int .i64 a0_1)), (.v (.int .i64 a0_2)), (.v (.int .i64 a0_3)), (.v (.int .u64 a0_4)), (.v (.int .u64 a0_5)), (.lst a0_6n 1 a0_6), (.v (.int .u64 a0_7)), (.v (.int .i64 a0_8))])] =
  cond (a0_0 == 1)
   (some [(.v (.int .i64 a0_3))])
   (cond (a0_0 == 2)
     (some [(.v (.int .i64 (((List.length a0_6) : Nat) : Int)))])
     (some [(.v (.int .i64 1))])) := (ev_eq _ _).trans (by kernel_rfl)
-- "bodega/bodegaref4.Control"
theorem ev85 (a0_0 : Int) (a0_1 : Int) (a0_2 : Int) (a0_3 : Int) (a0_4 : Int) (a0_5 : Int) (a0_6n : Bool) (a0_6 : List (List AV)) (a0_7 : Int) (a0_8 : Int) : ev 85 [(.agg [(.v (.int .i64 a0_0)), (.v (.int .i64 a0_1)), (.v (.int .i64 a0_2)), (.v (.int .i64 a0_3)), (.v (.int .u64 a0_4)), (.v (.int .u64 a0_5)), (.lst a0_6n 1 a0_6), (.v (.int .u64 a0_7)), (.v (.int .i64 a0_8))])] =
  (ev 42 [(.agg [(.v (.int .i64 a0_0)), (.v (.int .i64 a0_1)), (.v (.int .i64 a0_2)), (.v (.int .i64 a0_3)), (.v (.int .u64 a0_4)), (.v (.int .u64 a0_5)), (.lst a0_6n 1 a0_6), (.v (.int .u64 a0_7)), (.v (.int .i64 a0_8))])]).bind fun r0 =>
  cond (isI .i64 (cellAt r0 0))
   (cond (ltI (IntKind.wrap .i64 (Int.tdiv (IntKind.wrap .i64 ((IntKind.wrap .i64 (a0_2 + (avInt (cellAt r0 0)))) - 1)) 8)) 3)
     (some [(.v (.bool true))])
     (cond (a0_0 == 1)
       (some [(.v (.bool ((IntKind.wrap .i64 (Int.tdiv (IntKind.wrap .i64 ((IntKind.wrap .i64 (a0_2 + (avInt (cellAt r0 0)))) - 1)) 8)) == 3)))])
       (some [(.v (.bool false))])))
   (none) := (ev_eq _ _).trans (by kernel_rfl)
-- "bodega/bodegaref4.Pieces"
theorem ev20 (a0_0 : Int) (a0_1 : Int) (a0_2 : Int) (a0_3 : Int) (a0_4 : Int) (a0_5 : Int) (a0_6n : Bool) (a0_6 : List (List AV)) (a0_7 : Int) (a0_8 : Int) : ev 20 [(.agg [(.v (.int .i64 a0_0)), (.v (.int .i64 a0_1)), (.v (.int .i64 a0_2)), (.v (.int .i64 a0_3)), (.v (.int .u64 a0_4)), (.v (.int .u64 a0_5)), (.lst a0_6n 1 a0_6), (.v (.int .u64 a0_7)), (.v (.int .i64 a0_8))])] =
  (ev 42 [(.agg [(.v (.int .i64 a0_0)), (.v (.int .i64 a0_1)), (.v (.int .i64 a0_2)), (.v (.int .i64 a0_3)), (.v (.int .u64 a0_4)), (.v (.int .u64 a0_5)), (.lst a0_6n 1 a0_6), (.v (.int .u64 a0_7)), (.v (.int .i64 a0_8))])]).bind fun r0 =>
  cond (isI .i64 (cellAt r0 0))
   ((lp 20 0 0 ⟨[(3, (.sl true 0 0 none)), (4, (.v (.int .i64 a0_2))), (5, (.v (.int .i64 (avInt (cellAt r0 0)))))], [⟨1, 54, 2, false, []⟩]⟩).bind fun r2 =>
    cond (isEx 0 r2)
     (cond (likeStG ⟨[(3, (.sl true 0 0 none))], [⟨1, 54, 2, false, []⟩]⟩ r2.st)
       (some [(.ow (avNil (frAt r2.st.fr 0).2) 54 2 (blAt r2.st.bl 0).xs)])
       (none))
     (cond (isRt r2)
       (some r2.outs)
       (none)))
   (none) := (ev_eq _ _).trans (by kernel_rfl)
theorem lp20_0 (x3n : Bool) (x4 : Int) (x5 : Int) (b0 : List (List AV)) : lp 20 0 0 ⟨[(3, (.sl x3n 0 0 none)), (4, (.v (.int .i64 x4))), (5, (.v (.int .i64 x5)))], [⟨1, 54, 2, false, b0⟩]⟩ =
  cond (ltI 0 x5)
   (cond (leN (((List.length b0) + 1) * 16) 140737488355328)
     (lp 20 0 0 ⟨[(3, (.sl false 0 0 none)), (4, (.v (.int .i64 (IntKind.wrap .i64 (x4 + (if (IntKind.wrap .i64 (8 - (Int.tmod x4 8))) < x5 then (IntKind.wrap .i64 (8 - (Int.tmod x4 8))) else x5)))))), (5, (.v (.int .i64 (IntKind.wrap .i64 (x5 - (if (IntKind.wrap .i64 (8 - (Int.tmod x4 8))) < x5 then (IntKind.wrap .i64 (8 - (Int.tmod x4 8))) else x5))))))], [⟨1, 54, 2, false, (b0 ++ [[(.v (.int .i64 x4)), (.v (.int .i64 (if (IntKind.wrap .i64 (8 - (Int.tmod x4 8))) < x5 then (IntKind.wrap .i64 (8 - (Int.tmod x4 8))) else x5)))]])⟩]⟩)
     (none))
   (some ⟨(some 0), ⟨[(3, (.sl x3n 0 0 none))], [⟨1, 54, 2, false, b0⟩]⟩, []⟩) := (lp_eq _ _ _ _).trans (by kernel_rfl)
-- "bodega/bodegalaw5.QueuepairOrder"
-- "bodega/bodegalaw5.QueuepairTorn"
-- "(*bodega/queuepair.Pair).Post"
theorem ev11 (a0_0_0 : Int) (a0_0_1 : Int) (a0_0_2 : Int) (a0_0_3n : Bool) (a0_0_3 : List (List AV)) (a0_0_4 : Int) (a0_0_5n : Bool) (a0_0_5 : List (List AV)) (a1_0 : Int) (a1_1 : Int) (a1_2 : Int) (a1_3 : Int) (a1_4 : Int) (a1_5 : Int) (a1_6n : Bool) (a1_6 : List (List AV)) (a1_7 : Int) (a1_8 : Int) (a2_0 : Int) : ev 11 [(.ob 83 [(.v (.int .i64 a0_0_0)), (.v (.int .i64 a0_0_1)), (.v (.int .i64 a0_0_2)), (.ow a0_0_3n 38 9 a0_0_3), (.v (.int .i64 a0_0_4)), (.ow a0_0_5n 23 1 a0_0_5)]), (.agg [(.v (.int .i64 a1_0)), (.v (.int .i64 a1_1)), (.v (.int .i64 a1_2)), (.v (.int .i64 a1_3)), (.v (.int .u64 a1_4)), (.v (.int .u64 a1_5)), (.lst a1_6n 1 a1_6), (.v (.int .u64 a1_7)), (.v (.int .i64 a1_8))]), (.v (.int .i64 a2_0))] =
  (ev 34 [(.agg [(.v (.int .i64 a1_0)), (.v (.int .i64 a1_1)), (.v (.int .i64 a1_2)), (.v (.int .i64 a1_3)), (.v (.int .u64 a1_4)), (.v (.int .u64 a1_5)), (.lst a1_6n 1 a1_6), (.v (.int .u64 a1_7)), (.v (.int .i64 a1_8))]), (.v (.int .i64 5)), (.v (.int .i64 a2_0))]).bind fun r0 =>
  cond (isI .i64 (cellAt r0 0))
   (cond (!((avInt (cellAt r0 0)) == 0))
     (some [(.v (.int .i64 (avInt (cellAt r0 0)))), (.ob 83 [(.v (.int .i64 a0_0_0)), (.v (.int .i64 a0_0_1)), (.v (.int .i64 a0_0_2)), (.ow a0_0_3n 38 9 a0_0_3), (.v (.int .i64 a0_0_4)), (.ow a0_0_5n 23 1 a0_0_5)])])
     (cond (!(a1_1 == a0_0_2))
       (some [(.v (.int .i64 1)), (.ob 83 [(.v (.int .i64 a0_0_0)), (.v (.int .i64 a0_0_1)), (.v (.int .i64 a0_0_2)), (.ow a0_0_3n 38 9 a0_0_3), (.v (.int .i64 a0_0_4)), (.ow a0_0_5n 23 1 a0_0_5)])])
       (cond (leI 1024 ((((List.length a0_0_3) - 0) : Nat) : Int))
         (some [(.v (.int .i64 12)), (.ob 83 [(.v (.int .i64 a0_0_0)), (.v (.int .i64 a0_0_1)), (.v (.int .i64 a0_0_2)), (.ow a0_0_3n 38 9 a0_0_3), (.v (.int .i64 a0_0_4)), (.ow a0_0_5n 23 1 a0_0_5)])])
         ((ev 35 [(.agg [(.v (.int .i64 a1_0)), (.v (.int .i64 a1_1)), (.v (.int .i64 a1_2)), (.v (.int .i64 a1_3)), (.v (.int .u64 a1_4)), (.v (.int .u64 a1_5)), (.lst a1_6n 1 a1_6), (.v (.int .u64 a1_7)), (.v (.int .i64 a1_8))])]).bind fun r5 =>
          cond ((Ev.isAgg 9 (cellAt r5 0)) && ((isI .i64 (cellAt (obCells (cellAt r5 0)) 0)) && ((isI .i64 (cellAt (obCells (cellAt r5 0)) 1)) && ((isI .i64 (cellAt (obCells (cellAt r5 0)) 2)) && ((isI .i64 (cellAt (obCells (cellAt r5 0)) 3)) && ((isI .u64 (cellAt (obCells (cellAt r5 0)) 4)) && ((isI .u64 (cellAt (obCells (cellAt r5 0)) 5)) && ((isL 1 (cellAt (obCells (cellAt r5 0)) 6)) && ((isI .u64 (cellAt (obCells (cellAt r5 0)) 7)) && (isI .i64 (cellAt (obCells (cellAt r5 0)) 8)))))))))))
           (cond (leN (((List.length a0_0_3) + 1) * 88) 140737488355328)
             (some [(.v (.int .i64 0)), (.ob 83 [(.v (.int .i64 a0_0_0)), (.v (.int .i64 a0_0_1)), (.v (.int .i64 a0_0_2)), (.ow false 38 9 (a0_0_3 ++ [[(.v (.int .i64 (avInt (cellAt (obCells (cellAt r5 0)) 0)))), (.v (.int .i64 (avInt (cellAt (obCells (cellAt r5 0)) 1)))), (.v (.int .i64 (avInt (cellAt (obCells (cellAt r5 0)) 2)))), (.v (.int .i64 (avInt (cellAt (obCells (cellAt r5 0)) 3)))), (.v (.int .u64 (avInt (cellAt (obCells (cellAt r5 0)) 4)))), (.v (.int .u64 (avInt (cellAt (obCells (cellAt r5 0)) 5)))), (.lst (avNil (cellAt (obCells (cellAt r5 0)) 6)) 1 (avXs (cellAt (obCells (cellAt r5 0)) 6))), (.v (.int .u64 (avInt (cellAt (obCells (cellAt r5 0)) 7)))), (.v (.int .i64 (avInt (cellAt (obCells (cellAt r5 0)) 8))))]])), (.v (.int .i64 a0_0_4)), (.ow a0_0_5n 23 1 a0_0_5)])])
             (none))
           (none)))))
   (none) := (ev_eq _ _).trans (by kernel_rfl)
-- "(*bodega/queuepair.Pair).Pending"
theorem ev12 (a0_0_0 : Int) (a0_0_1 : Int) (a0_0_2 : Int) (a0_0_3n : Bool) (a0_0_3 : List (List AV)) (a0_0_4 : Int) (a0_0_5n : Bool) (a0_0_5 : List (List AV)) : ev 12 [(.ep [(.v (.int .i64 a0_0_0)), (.v (.int .i64 a0_0_1)), (.v (.int .i64 a0_0_2)), (.lst a0_0_3n 9 a0_0_3), (.v (.int .i64 a0_0_4)), (.lst a0_0_5n 1 a0_0_5)] 0)] =
  some [(.v (.int .i64 (((List.length a0_0_3) : Nat) : Int)))] := (ev_eq _ _).trans (by kernel_rfl)
-- "(*bodega/queuepair.Pair).Step"
theorem ev13 (a0_0_0 : Int) (a0_0_1 : Int) (a0_0_2 : Int) (a0_0_3n : Bool) (a0_0_3 : List (List AV)) (a0_0_4 : Int) (a0_0_5n : Bool) (a0_0_5 : List (List AV)) (a1_0_0n : Bool) (a1_0_0 : List (List AV)) (a1_0_1 : Bool) : ev 13 [(.ob 83 [(.v (.int .i64 a0_0_0)), (.v (.int .i64 a0_0_1)), (.v (.int .i64 a0_0_2)), (.ow a0_0_3n 38 9 a0_0_3), (.v (.int .i64 a0_0_4)), (.ow a0_0_5n 23 1 a0_0_5)]), (.ob 93 [(.ow a1_0_0n 23 1 a1_0_0), (.v (.bool a1_0_1))])] =
  cond (((((List.length a0_0_3) - 0) : Nat) : Int) == 0)
   (some [(.agg [(.v (.int .i64 0)), (.lst true 1 [])]), (.v (.bool false)), (.ob 83 [(.v (.int .i64 a0_0_0)), (.v (.int .i64 a0_0_1)), (.v (.int .i64 a0_0_2)), (.ow a0_0_3n 38 9 a0_0_3), (.v (.int .i64 a0_0_4)), (.ow a0_0_5n 23 1 a0_0_5)]), (.ob 93 [(.ow a1_0_0n 23 1 a1_0_0), (.v (.bool a1_0_1))])])
   (cond (true && (ltI 0 ((((List.length a0_0_3) - 0) : Nat) : Int)))
     (cond ((ltN 0 (List.length a0_0_3)) && ((isI .i64 (cellAt (lget a0_0_3 0) 0)) && ((isI .i64 (cellAt (lget a0_0_3 0) 1)) && ((isI .i64 (cellAt (lget a0_0_3 0) 2)) && ((isI .i64 (cellAt (lget a0_0_3 0) 3)) && ((isI .u64 (cellAt (lget a0_0_3 0) 4)) && ((isI .u64 (cellAt (lget a0_0_3 0) 5)) && ((isL 1 (cellAt (lget a0_0_3 0) 6)) && ((isI .u64 (cellAt (lget a0_0_3 0) 7)) && (isI .i64 (cellAt (lget a0_0_3 0) 8)))))))))))
       ((ev 36 [(.ep [(.v (.int .i64 a0_0_0)), (.v (.int .i64 a0_0_1)), (.v (.int .i64 a0_0_2)), (.lst a0_0_3n 9 a0_0_3), (.v (.int .i64 a0_0_4)), (.lst a0_0_5n 1 a0_0_5)] 0), (.agg [(.v (.int .i64 (avInt (cellAt (lget a0_0_3 0) 0)))), (.v (.int .i64 (avInt (cellAt (lget a0_0_3 0) 1)))), (.v (.int .i64 (avInt (cellAt (lget a0_0_3 0) 2)))), (.v (.int .i64 (avInt (cellAt (lget a0_0_3 0) 3)))), (.v (.int .u64 (avInt (cellAt (lget a0_0_3 0) 4)))), (.v (.int .u64 (avInt (cellAt (lget a0_0_3 0) 5)))), (.lst (avNil (cellAt (lget a0_0_3 0) 6)) 1 (avXs (cellAt (lget a0_0_3 0) 6))), (.v (.int .u64 (avInt (cellAt (lget a0_0_3 0) 7)))), (.v (.int .i64 (avInt (cellAt (lget a0_0_3 0) 8))))]), (.ep [(.lst a1_0_0n 1 a1_0_0), (.v (.bool a1_0_1))] 0)]).bind fun r11 =>
        cond (isI .i64 (cellAt r11 0))
         (cond (!((avInt (cellAt r11 0)) == 0))
           (cond (true && (leI 1 ((((List.length a0_0_3) - 0) : Nat) : Int)))
             ((ev 66 [(.lst a0_0_3n 9 (List.drop 1 a0_0_3))]).bind fun r13 =>
              cond (isOw 38 9 (cellAt r13 0))
               (some [(.agg [(.v (.int .i64 (avInt (cellAt r11 0)))), (.lst true 1 [])]), (.v (.bool true)), (.ob 83 [(.v (.int .i64 a0_0_0)), (.v (.int .i64 a0_0_1)), (.v (.int .i64 a0_0_2)), (.ow (avNil (cellAt r13 0)) 38 9 (avXs (cellAt r13 0))), (.v (.int .i64 0)), (.lst true 0 [])]), (.ob 93 [(.ow a1_0_0n 23 1 a1_0_0), (.v (.bool a1_0_1))])])
               (none))
             (none))
           ((ev 38 [(.agg [(.v (.int .i64 (avInt (cellAt (lget a0_0_3 0) 0)))), (.v (.int .i64 (avInt (cellAt (lget a0_0_3 0) 1)))), (.v (.int .i64 (avInt (cellAt (lget a0_0_3 0) 2)))), (.v (.int .i64 (avInt (cellAt (lget a0_0_3 0) 3)))), (.v (.int .u64 (avInt (cellAt (lget a0_0_3 0) 4)))), (.v (.int .u64 (avInt (cellAt (lget a0_0_3 0) 5)))), (.lst (avNil (cellAt (lget a0_0_3 0) 6)) 1 (avXs (cellAt (lget a0_0_3 0) 6))), (.v (.int .u64 (avInt (cellAt (lget a0_0_3 0) 7)))), (.v (.int .i64 (avInt (cellAt (lget a0_0_3 0) 8))))])]).bind fun r17 =>
            cond (isOw 89 2 (cellAt r17 0))
             (cond ((leI 0 a0_0_4) && (ltI a0_0_4 ((((List.length (avXs (cellAt r17 0))) - 0) : Nat) : Int)))
               (cond ((ltN (0 + (Int.toNat a0_0_4)) (List.length (avXs (cellAt r17 0)))) && ((isI .i64 (cellAt (lget (avXs (cellAt r17 0)) (0 + (Int.toNat a0_0_4))) 0)) && (isI .i64 (cellAt (lget (avXs (cellAt r17 0)) (0 + (Int.toNat a0_0_4))) 1))))
                 ((ev 39 [(.agg [(.v (.int .i64 (avInt (cellAt (lget a0_0_3 0) 0)))), (.v (.int .i64 (avInt (cellAt (lget a0_0_3 0) 1)))), (.v (.int .i64 (avInt (cellAt (lget a0_0_3 0) 2)))), (.v (.int .i64 (avInt (cellAt (lget a0_0_3 0) 3)))), (.v (.int .u64 (avInt (cellAt (lget a0_0_3 0) 4)))), (.v (.int .u64 (avInt (cellAt (lget a0_0_3 0) 5)))), (.lst (avNil (cellAt (lget a0_0_3 0) 6)) 1 (avXs (cellAt (lget a0_0_3 0) 6))), (.v (.int .u64 (avInt (cellAt (lget a0_0_3 0) 7)))), (.v (.int .i64 (avInt (cellAt (lget a0_0_3 0) 8))))]), (.agg [(.v (.int .i64 (avInt (cellAt (lget (avXs (cellAt r17 0)) (0 + (Int.toNat a0_0_4))) 0)))), (.v (.int .i64 (avInt (cellAt (lget (avXs (cellAt r17 0)) (0 + (Int.toNat a0_0_4))) 1))))]), (.ob 93 [(.ow a1_0_0n 23 1 a1_0_0), (.v (.bool a1_0_1))])]).bind fun r23 =>
                  cond (isOw 23 1 (cellAt r23 0))
                   (cond (((isOb 93 (cellAt r23 1)) && (Nat.beq (List.length (obCells (cellAt r23 1))) 2)) && (likeG [(.ow a1_0_0n 23 1 a1_0_0), (.v (.bool a1_0_1))] 0 (obCells (cellAt r23 1))))
                     (cond (leN (((List.length a0_0_5) + (List.length (avXs (cellAt r23 0)))) * 8) 140737488355328)
                       (cond (ltI (IntKind.wrap .i64 (a0_0_4 + 1)) ((((List.length (avXs (cellAt r17 0))) - 0) : Nat) : Int))
                         (some [(.agg [(.v (.int .i64 0)), (.lst true 1 [])]), (.v (.bool false)), (.ob 83 [(.v (.int .i64 a0_0_0)), (.v (.int .i64 a0_0_1)), (.v (.int .i64 a0_0_2)), (.ow a0_0_3n 38 9 a0_0_3), (.v (.int .i64 (IntKind.wrap .i64 (a0_0_4 + 1)))), (.ow ((List.isEmpty (avXs (cellAt r23 0))) && a0_0_5n) 23 1 (a0_0_5 ++ (avXs (cellAt r23 0))))]), (.ob 93 [(.ow (avNil (cellAt (obCells (cellAt r23 1)) 0)) 23 1 (avXs (cellAt (obCells (cellAt r23 1)) 0))), (.v (.bool (avBool (cellAt (obCells (cellAt r23 1)) 1))))])])
                         (cond (true && (leI 1 ((((List.length a0_0_3) - 0) : Nat) : Int)))
                           ((ev 66 [(.lst a0_0_3n 9 (List.drop 1 a0_0_3))]).bind fun r35 =>
                            cond (isOw 38 9 (cellAt r35 0))
                             (some [(.agg [(.v (.int .i64 0)), (.lst ((List.isEmpty (avXs (cellAt r23 0))) && a0_0_5n) 1 (a0_0_5 ++ (avXs (cellAt r23 0))))]), (.v (.bool true)), (.ob 83 [(.v (.int .i64 a0_0_0)), (.v (.int .i64 a0_0_1)), (.v (.int .i64 a0_0_2)), (.ow (avNil (cellAt r35 0)) 38 9 (avXs (cellAt r35 0))), (.v (.int .i64 0)), (.lst true 0 [])]), (.ob 93 [(.ow (avNil (cellAt (obCells (cellAt r23 1)) 0)) 23 1 (avXs (cellAt (obCells (cellAt r23 1)) 0))), (.v (.bool (avBool (cellAt (obCells (cellAt r23 1)) 1))))])])
                             (none))
                           (none)))
                       (none))
                     (none))
                   (none))
                 (none))
               (none))
             (none)))
         (none))
       (none))
     (none)) := (ev_eq _ _).trans (by kernel_rfl)
-- "(*bodega/memnode.Node).Read"
theorem ev14 (a0_0_0n : Bool) (a0_0_0 : List (List AV)) (a0_0_1 : Bool) (a1_0 : Int) (a2_0 : Int) : ev 14 [(.ep [(.lst a0_0_0n 1 a0_0_0), (.v (.bool a0_0_1))] 0), (.v (.int .i64 a1_0)), (.v (.int .i64 a2_0))] =
  (ev 40 [(.ep [(.lst a0_0_0n 1 a0_0_0), (.v (.bool a0_0_1))] 0), (.v (.int .i64 a1_0)), (.v (.int .i64 a2_0))]).bind fun r0 =>
  cond (isI .i64 (cellAt r0 0))
   (cond (!((avInt (cellAt r0 0)) == 0))
     (some [(.ow true 23 1 []), (.v (.int .i64 (avInt (cellAt r0 0))))])
     (cond (((leI 0 a1_0) && (leI a1_0 (IntKind.wrap .i64 (a1_0 + a2_0)))) && (leI (IntKind.wrap .i64 (a1_0 + a2_0)) (((List.length a0_0_0) : Nat) : Int)))
       ((ev 41 [(.lst a0_0_0n 1 (List.take ((Int.toNat (IntKind.wrap .i64 (a1_0 + a2_0))) - (Int.toNat a1_0)) (List.drop (Int.toNat a1_0) a0_0_0)))]).bind fun r6 =>
        cond (isOw 23 1 (cellAt r6 0))
         (some [(.ow (avNil (cellAt r6 0)) 23 1 (avXs (cellAt r6 0))), (.v (.int .i64 0))])
         (none))
       (none)))
   (none) := (ev_eq _ _).trans (by kernel_rfl)
-- "bodega/bodegaref1.SameWords"
theorem ev15 (a0_0n : Bool) (a0_0 : List (List AV)) (a1_0n : Bool) (a1_0 : List (List AV)) : ev 15 [(.lst a0_0n 1 a0_0), (.lst a1_0n 1 a1_0)] =
  cond (!((((List.length a0_0) : Nat) : Int) == (((List.length a1_0) : Nat) : Int)))
   (some [(.v (.bool false))])
   ((lp 15 0 0 ⟨[(0, (.lst a0_0n 1 a0_0)), (1, (.lst a1_0n 1 a1_0)), (5, (.v (.int .i64 0)))], []⟩).bind fun r2 =>
    cond (isEx 0 r2)
     (cond (likeStG ⟨[], []⟩ r2.st)
       (some [(.v (.bool true))])
       (none))
     (cond (isRt r2)
       (some r2.outs)
       (none))) := (ev_eq _ _).trans (by kernel_rfl)
theorem lp15_0 (x0n : Bool) (x0 : List (List AV)) (x1n : Bool) (x1 : List (List AV)) (x5 : Int) : lp 15 0 0 ⟨[(0, (.lst x0n 1 x0)), (1, (.lst x1n 1 x1)), (5, (.v (.int .i64 x5)))], []⟩ =
  cond (ltI x5 (((List.length x0) : Nat) : Int))
   (cond ((leI 0 x5) && (ltI x5 (((List.length x0) : Nat) : Int)))
     (cond (isI .u64 (cellAt (lget x0 (Int.toNat x5)) 0))
       (cond ((leI 0 x5) && (ltI x5 (((List.length x1) : Nat) : Int)))
         (cond (isI .u64 (cellAt (lget x1 (Int.toNat x5)) 0))
           (cond (!((avInt (cellAt (lget x0 (Int.toNat x5)) 0)) == (avInt (cellAt (lget x1 (Int.toNat x5)) 0))))
             (some ⟨none, ⟨[], []⟩, [(.v (.bool false))]⟩)
             (lp 15 0 0 ⟨[(0, (.lst x0n 1 x0)), (1, (.lst x1n 1 x1)), (5, (.v (.int .i64 (IntKind.wrap .i64 (x5 + 1)))))], []⟩))
           (none))
         (none))
       (none))
     (none))
   (some ⟨(some 0), ⟨[], []⟩, []⟩) := (lp_eq _ _ _ _).trans (by kernel_rfl)
-- "bodega/queuepair.New"
theorem ev16 (a0_0 : Int) (a1_0 : Int) (a2_0 : Int) : ev 16 [(.v (.int .i64 a0_0)), (.v (.int .i64 a1_0)), (.v (.int .i64 a2_0))] =
  cond (ltI a0_0 0)
   (some [(.v (.pointer none)), (.v (.int .i64 1))])
   (cond (leI 6 a0_0)
     (some [(.v (.pointer none)), (.v (.int .i64 1))])
     (cond (ltI a1_0 0)
       (some [(.v (.pointer none)), (.v (.int .i64 2))])
       (cond (ltI 59 a1_0)
         (some [(.v (.pointer none)), (.v (.int .i64 2))])
         (cond (ltI a2_0 0)
           (some [(.v (.pointer none)), (.v (.int .i64 2))])
           (cond (leI 5 a2_0)
             (some [(.v (.pointer none)), (.v (.int .i64 2))])
             (some [(.ob 83 [(.v (.int .i64 a0_0)), (.v (.int .i64 a1_0)), (.v (.int .i64 a2_0)), (.ow true 38 9 []), (.v (.int .i64 0)), (.ow true 23 1 [])]), (.v (.int .i64 0))])))))) := (ev_eq _ _).trans (by kernel_rfl)
-- "(*bodega/memnode.Node).Fail"
theorem ev21 (a0_0_0n : Bool) (a0_0_0 : List (List AV)) (a0_0_1 : Bool) : ev 21 [(.ob 93 [(.ow a0_0_0n 23 1 a0_0_0), (.v (.bool a0_0_1))])] =
  some [(.ob 93 [(.ow a0_0_0n 23 1 a0_0_0), (.v (.bool true))])] := (ev_eq _ _).trans (by kernel_rfl)
-- "(*bodega/memnode.Node).Back"
theorem ev22 (a0_0_0n : Bool) (a0_0_0 : List (List AV)) (a0_0_1 : Bool) : ev 22 [(.ob 93 [(.ow a0_0_0n 23 1 a0_0_0), (.v (.bool a0_0_1))])] =
  cond (!a0_0_1)
   (some [(.v (.bool false)), (.ob 93 [(.ow a0_0_0n 23 1 a0_0_0), (.v (.bool a0_0_1))])])
   ((ev 43 [(.ep [(.lst a0_0_0n 1 a0_0_0), (.v (.bool a0_0_1))] 0)]).bind fun r1 =>
    cond (isI .u64 (cellAt r1 0))
     (cond (leI 31 (avInt (cellAt r1 0)))
       (some [(.v (.bool false)), (.ob 93 [(.ow a0_0_0n 23 1 a0_0_0), (.v (.bool a0_0_1))])])
       (cond (true && (ltI 1 ((((List.length a0_0_0) - 0) : Nat) : Int)))
         (cond ((ltN 1 (List.length a0_0_0)) && (isI .u64 (cellAt (lget a0_0_0 1) 0)))
           (cond (true && (ltI 1 ((((List.length a0_0_0) - 0) : Nat) : Int)))
             (cond (ltN 1 (List.length a0_0_0))
               (some [(.v (.bool true)), (.ob 93 [(.ow a0_0_0n 23 1 (List.set a0_0_0 1 [(.v (.int .u64 (IntKind.wrap .u64 ((avInt (cellAt (lget a0_0_0 1) 0)) + 1))))])), (.v (.bool false))])])
               (none))
             (none))
           (none))
         (none)))
     (none)) := (ev_eq _ _).trans (by kernel_rfl)
-- "bodega/memnode.New"
theorem ev31 (a0_0 : Int) : ev 31 [(.v (.int .i64 a0_0))] =
  cond (ltI a0_0 1)
   (some [(.v (.pointer none)), (.v (.int .i64 2))])
   (cond (ltI 256 a0_0)
     (some [(.v (.pointer none)), (.v (.int .i64 2))])
     (cond ((((leI 0 (IntKind.wrap .i64 (a0_0 * 8))) && (leI (IntKind.wrap .i64 (a0_0 * 8)) (IntKind.wrap .i64 (a0_0 * 8)))) && (leI ((IntKind.wrap .i64 (a0_0 * 8)) * 8) 281474976710656)) && (leI (IntKind.wrap .i64 (a0_0 * 8)) 281474976710656))
       (some [(.ob 93 [(.ow false 23 1 (List.replicate (Int.toNat (IntKind.wrap .i64 (a0_0 * 8))) ([(.v (.int .u64 0))] : List AV))), (.v (.bool false))]), (.v (.int .i64 0))])
       (none))) := (ev_eq _ _).trans (by kernel_rfl)
-- "(*bodega/memnode.Node).Write"
theorem ev33 (a0_0_0n : Bool) (a0_0_0 : List (List AV)) (a0_0_1 : Bool) (a1_0 : Int) (a2_0n : Bool) (a2_0 : List (List AV)) : ev 33 [(.ob 93 [(.ow a0_0_0n 23 1 a0_0_0), (.v (.bool a0_0_1))]), (.v (.int .i64 a1_0)), (.lst a2_0n 1 a2_0)] =
  (ev 40 [(.ep [(.lst a0_0_0n 1 a0_0_0), (.v (.bool a0_0_1))] 0), (.v (.int .i64 a1_0)), (.v (.int .i64 (((List.length a2_0) : Nat) : Int)))]).bind fun r1 =>
  cond (isI .i64 (cellAt r1 0))
   (cond (!((avInt (cellAt r1 0)) == 0))
     (some [(.v (.int .i64 (avInt (cellAt r1 0)))), (.ob 93 [(.ow a0_0_0n 23 1 a0_0_0), (.v (.bool a0_0_1))])])
     (cond ((leI 0 a1_0) && (leI a1_0 ((((List.length a0_0_0) - 0) : Nat) : Int)))
       (some [(.v (.int .i64 0)), (.ob 93 [(.ow a0_0_0n 23 1 (((List.take (0 + (Int.toNat a1_0)) a0_0_0) ++ (List.take (min (List.length a2_0) ((List.length a0_0_0) - (0 + (Int.toNat a1_0)))) a2_0)) ++ (List.drop ((0 + (Int.toNat a1_0)) + (min (List.length a2_0) ((List.length a0_0_0) - (0 + (Int.toNat a1_0))))) a0_0_0))), (.v (.bool a0_0_1))])])
       (none)))
   (none) := (ev_eq _ _).trans (by kernel_rfl)
-- "bodega/verb.Valid"
theorem ev34 (a0_0 : Int) (a0_1 : Int) (a0_2 : Int) (a0_3 : Int) (a0_4 : Int) (a0_5 : Int) (a0_6n : Bool) (a0_6 : List (List AV)) (a0_7 : Int) (a0_8 : Int) (a1_0 : Int) (a2_0 : Int) : ev 34 [(.agg [(.v (.int .i64 a0_0)), (.v (.int .i64 a0_1)), (.v (.int .i64 a0_2)), (.v (.int .i64 a0_3)), (.v (.int .u64 a0_4)), (.v (.int .u64 a0_5)), (.lst a0_6n 1 a0_6), (.v (.int .u64 a0_7)), (.v (.int .i64 a0_8))]), (.v (.int .i64 a1_0)), (.v (.int .i64 a2_0))] =
  (ev 59 [(.agg [(.v (.int .i64 a0_0)), (.v (.int .i64 a0_1)), (.v (.int .i64 a0_2)), (.v (.int .i64 a0_3)), (.v (.int .u64 a0_4)), (.v (.int .u64 a0_5)), (.lst a0_6n 1 a0_6), (.v (.int .u64 a0_7)), (.v (.int .i64 a0_8))])]).bind fun r0 =>
  cond (isI .i64 (cellAt r0 0))
   (cond (ltI (avInt (cellAt r0 0)) 1)
     (some [(.v (.int .i64 1))])
     ((ev 60 [(.agg [(.v (.int .i64 a0_0)), (.v (.int .i64 a0_1)), (.v (.int .i64 a0_2)), (.v (.int .i64 a0_3)), (.v (.int .u64 a0_4)), (.v (.int .u64 a0_5)), (.lst a0_6n 1 a0_6), (.v (.int .u64 a0_7)), (.v (.int .i64 a0_8))]), (.v (.int .i64 a1_0)), (.v (.int .i64 a2_0))]).bind fun r2 =>
      cond (isB (cellAt r2 0))
       (cond (!(avBool (cellAt r2 0)))
         (some [(.v (.int .i64 2))])
         ((ev 61 [(.agg [(.v (.int .i64 a0_0)), (.v (.int .i64 a0_1)), (.v (.int .i64 a0_2)), (.v (.int .i64 a0_3)), (.v (.int .u64 a0_4)), (.v (.int .u64 a0_5)), (.lst a0_6n 1 a0_6), (.v (.int .u64 a0_7)), (.v (.int .i64 a0_8))])]).bind fun r4 =>
          cond (isI .i64 (cellAt r4 0))
           (cond (isI .i64 (cellAt r4 1))
             ((ev 62 [(.agg [(.v (.int .i64 a0_0)), (.v (.int .i64 a0_1)), (.v (.int .i64 a0_2)), (.v (.int .i64 a0_3)), (.v (.int .u64 a0_4)), (.v (.int .u64 a0_5)), (.lst a0_6n 1 a0_6), (.v (.int .u64 a0_7)), (.v (.int .i64 a0_8))])]).bind fun r7 =>
              cond (isI .i64 (cellAt r7 0))
               (cond (leI (avInt (cellAt r4 0)) (avInt (cellAt r7 0)))
                 ((ev 62 [(.agg [(.v (.int .i64 a0_0)), (.v (.int .i64 a0_1)), (.v (.int .i64 a0_2)), (.v (.int .i64 a0_3)), (.v (.int .u64 a0_4)), (.v (.int .u64 a0_5)), (.lst a0_6n 1 a0_6), (.v (.int .u64 a0_7)), (.v (.int .i64 a0_8))])]).bind fun r10 =>
                  cond (isI .i64 (cellAt r10 0))
                   (cond (ltI (avInt (cellAt r10 0)) (avInt (cellAt r4 1)))
                     (some [(.v (.int .i64 2))])
                     (some [(.v (.int .i64 0))]))
                   (none))
                 (some [(.v (.int .i64 0))]))
               (none))
             (none))
           (none)))
       (none)))
   (none) := (ev_eq _ _).trans (by kernel_rfl)
-- "bodega/queuepair.clone"
theorem ev35 (a0_0 : Int) (a0_1 : Int) (a0_2 : Int) (a0_3 : Int) (a0_4 : Int) (a0_5 : Int) (a0_6n : Bool) (a0_6 : List (List AV)) (a0_7 : Int) (a0_8 : Int) : ev 35 [(.agg [(.v (.int .i64 a0_0)), (.v (.int .i64 a0_1)), (.v (.int .i64 a0_2)), (.v (.int .i64 a0_3)), (.v (.int .u64 a0_4)), (.v (.int .u64 a0_5)), (.lst a0_6n 1 a0_6), (.v (.int .u64 a0_7)), (.v (.int .i64 a0_8))])] =
  (ev 41 [(.lst a0_6n 1 a0_6)]).bind fun r0 =>
  cond (isOw 23 1 (cellAt r0 0))
   (some [(.agg [(.v (.int .i64 a0_0)), (.v (.int .i64 a0_1)), (.v (.int .i64 a0_2)), (.v (.int .i64 a0_3)), (.v (.int .u64 a0_4)), (.v (.int .u64 a0_5)), (.lst (avNil (cellAt r0 0)) 1 (avXs (cellAt r0 0))), (.v (.int .u64 a0_7)), (.v (.int .i64 a0_8))])])
   (none) := (ev_eq _ _).trans (by kernel_rfl)
-- "(*bodega/queuepair.Pair).refusal"
theorem ev36 (a0_0_0 : Int) (a0_0_1 : Int) (a0_0_2 : Int) (a0_0_3n : Bool) (a0_0_3 : List (List AV)) (a0_0_4 : Int) (a0_0_5n : Bool) (a0_0_5 : List (List AV)) (a1_0 : Int) (a1_1 : Int) (a1_2 : Int) (a1_3 : Int) (a1_4 : Int) (a1_5 : Int) (a1_6n : Bool) (a1_6 : List (List AV)) (a1_7 : Int) (a1_8 : Int) (a2_0_0n : Bool) (a2_0_0 : List (List AV)) (a2_0_1 : Bool) : ev 36 [(.ep [(.v (.int .i64 a0_0_0)), (.v (.int .i64 a0_0_1)), (.v (.int .i64 a0_0_2)), (.lst a0_0_3n 9 a0_0_3), (.v (.int .i64 a0_0_4)), (.lst a0_0_5n 1 a0_0_5)] 0), (.agg [(.v (.int .i64 a1_0)), (.v (.int .i64 a1_1)), (.v (.int .i64 a1_2)), (.v (.int .i64 a1_3)), (.v (.int .u64 a1_4)), (.v (.int .u64 a1_5)), (.lst a1_6n 1 a1_6), (.v (.int .u64 a1_7)), (.v (.int .i64 a1_8))]), (.ep [(.lst a2_0_0n 1 a2_0_0), (.v (.bool a2_0_1))] 0)] =
  (ev 63 [(.ep [(.lst a2_0_0n 1 a2_0_0), (.v (.bool a2_0_1))] 0)]).bind fun r0 =>
  cond (isB (cellAt r0 0))
   (cond (!(avBool (cellAt r0 0)))
     (some [(.v (.int .i64 4))])
     ((ev 53 [(.ep [(.lst a2_0_0n 1 a2_0_0), (.v (.bool a2_0_1))] 0)]).bind fun r2 =>
      cond (isI .i64 (cellAt r2 0))
       ((ev 34 [(.agg [(.v (.int .i64 a1_0)), (.v (.int .i64 a1_1)), (.v (.int .i64 a1_2)), (.v (.int .i64 a1_3)), (.v (.int .u64 a1_4)), (.v (.int .u64 a1_5)), (.lst a1_6n 1 a1_6), (.v (.int .u64 a1_7)), (.v (.int .i64 a1_8))]), (.v (.int .i64 5)), (.v (.int .i64 (avInt (cellAt r2 0))))]).bind fun r4 =>
        cond (isI .i64 (cellAt r4 0))
         (cond (!((avInt (cellAt r4 0)) == 0))
           (some [(.v (.int .i64 2))])
           ((ev 64 [(.ep [(.lst a2_0_0n 1 a2_0_0), (.v (.bool a2_0_1))] 0), (.v (.int .i64 (IntKind.wrap .i64 (24 + a0_0_0))))]).bind fun r8 =>
            cond (isI .u64 (cellAt r8 0))
             ((ev 64 [(.ep [(.lst a2_0_0n 1 a2_0_0), (.v (.bool a2_0_1))] 0), (.v (.int .i64 0))]).bind fun r11 =>
              cond (isI .u64 (cellAt r11 0))
               ((ev 64 [(.ep [(.lst a2_0_0n 1 a2_0_0), (.v (.bool a2_0_1))] 0), (.v (.int .i64 1))]).bind fun r13 =>
                cond (isI .u64 (cellAt r13 0))
                 ((ev 65 [(.agg [(.v (.int .i64 a1_0)), (.v (.int .i64 a1_1)), (.v (.int .i64 a1_2)), (.v (.int .i64 a1_3)), (.v (.int .u64 a1_4)), (.v (.int .u64 a1_5)), (.lst a1_6n 1 a1_6), (.v (.int .u64 a1_7)), (.v (.int .i64 a1_8))]), (.v (.int .i64 a0_0_1)), (.v (.int .u64 (avInt (cellAt r8 0)))), (.v (.int .u64 (avInt (cellAt r11 0)))), (.v (.int .u64 (avInt (cellAt r13 0))))]).bind fun r15 =>
                  cond (isI .i64 (cellAt r15 0))
                   (some [(.v (.int .i64 (avInt (cellAt r15 0))))])
                   (none))
                 (none))
               (none))
             (none)))
         (none))
       (none)))
   (none) := (ev_eq _ _).trans (by kernel_rfl)
-- "bodega/queuepair.execute"
theorem ev39 (a0_0 : Int) (a0_1 : Int) (a0_2 : Int) (a0_3 : Int) (a0_4 : Int) (a0_5 : Int) (a0_6n : Bool) (a0_6 : List (List AV)) (a0_7 : Int) (a0_8 : Int) (a1_0 : Int) (a1_1 : Int) (a2_0_0n : Bool) (a2_0_0 : List (List AV)) (a2_0_1 : Bool) : ev 39 [(.agg [(.v (.int .i64 a0_0)), (.v (.int .i64 a0_1)), (.v (.int .i64 a0_2)), (.v (.int .i64 a0_3)), (.v (.int .u64 a0_4)), (.v (.int .u64 a0_5)), (.lst a0_6n 1 a0_6), (.v (.int .u64 a0_7)), (.v (.int .i64 a0_8))]), (.agg [(.v (.int .i64 a1_0)), (.v (.int .i64 a1_1))]), (.ob 93 [(.ow a2_0_0n 23 1 a2_0_0), (.v (.bool a2_0_1))])] =
  cond (a0_0 == 1)
   ((ev 14 [(.ep [(.lst a2_0_0n 1 a2_0_0), (.v (.bool a2_0_1))] 0), (.v (.int .i64 a1_0)), (.v (.int .i64 a1_1))]).bind fun r1 =>
    cond (isOw 23 1 (cellAt r1 0))
     (cond (isI .i64 (cellAt r1 1))
       (cond (false || (((List.all (avXs (cellAt r1 0)) rowV) && true) && true))
         (some [(.ow (avNil (cellAt r1 0)) 23 1 (avXs (cellAt r1 0))), (.ob 93 [(.ow a2_0_0n 23 1 a2_0_0), (.v (.bool a2_0_1))])])
         (none))
       (none))
     (none))
   (cond (a0_0 == 2)
     (cond (((leI 0 (IntKind.wrap .i64 (a1_0 - a0_2))) && (leI (IntKind.wrap .i64 (a1_0 - a0_2)) (IntKind.wrap .i64 ((IntKind.wrap .i64 (a1_0 - a0_2)) + a1_1)))) && (leI (IntKind.wrap .i64 ((IntKind.wrap .i64 (a1_0 - a0_2)) + a1_1)) (((List.length a0_6) : Nat) : Int)))
       ((ev 33 [(.ob 93 [(.ow a2_0_0n 23 1 a2_0_0), (.v (.bool a2_0_1))]), (.v (.int .i64 a1_0)), (.lst a0_6n 1 (List.take ((Int.toNat (IntKind.wrap .i64 ((IntKind.wrap .i64 (a1_0 - a0_2)) + a1_1))) - (Int.toNat (IntKind.wrap .i64 (a1_0 - a0_2)))) (List.drop (Int.toNat (IntKind.wrap .i64 (a1_0 - a0_2))) a0_6)))]).bind fun r9 =>
        cond (isI .i64 (cellAt r9 0))
         (cond (((isOb 93 (cellAt r9 1)) && (Nat.beq (List.length (obCells (cellAt r9 1))) 2)) && (likeG [(.ow a2_0_0n 23 1 a2_0_0), (.v (.bool a2_0_1))] 0 (obCells (cellAt r9 1))))
           (some [(.ow true 23 1 []), (.ob 93 [(.ow (avNil (cellAt (obCells (cellAt r9 1)) 0)) 23 1 (avXs (cellAt (obCells (cellAt r9 1)) 0))), (.v (.bool (avBool (cellAt (obCells (cellAt r9 1)) 1))))])])
           (none))
         (none))
       (none))
     (cond (a0_0 == 3)
       ((ev 68 [(.ob 93 [(.ow a2_0_0n 23 1 a2_0_0), (.v (.bool a2_0_1))]), (.v (.int .i64 a0_2)), (.v (.int .u64 a0_4)), (.v (.int .u64 a0_5))]).bind fun r16 =>
        cond (isI .u64 (cellAt r16 0))
         (cond (isI .i64 (cellAt r16 1))
           (cond (((isOb 93 (cellAt r16 2)) && (Nat.beq (List.length (obCells (cellAt r16 2))) 2)) && (likeG [(.ow a2_0_0n 23 1 a2_0_0), (.v (.bool a2_0_1))] 0 (obCells (cellAt r16 2))))
             (some [(.ow false 23 1 [[(.v (.int .u64 (avInt (cellAt r16 0))))]]), (.ob 93 [(.ow (avNil (cellAt (obCells (cellAt r16 2)) 0)) 23 1 (avXs (cellAt (obCells (cellAt r16 2)) 0))), (.v (.bool (avBool (cellAt (obCells (cellAt r16 2)) 1))))])])
             (none))
           (none))
         (none))
       (cond (a0_0 == 4)
         ((ev 69 [(.ob 93 [(.ow a2_0_0n 23 1 a2_0_0), (.v (.bool a2_0_1))]), (.v (.int .i64 a0_2)), (.v (.int .u64 a0_5))]).bind fun r24 =>
          cond (isI .u64 (cellAt r24 0))
           (cond (isI .i64 (cellAt r24 1))
             (cond (((isOb 93 (cellAt r24 2)) && (Nat.beq (List.length (obCells (cellAt r24 2))) 2)) && (likeG [(.ow a2_0_0n 23 1 a2_0_0), (.v (.bool a2_0_1))] 0 (obCells (cellAt r24 2))))
               (some [(.ow false 23 1 [[(.v (.int .u64 (avInt (cellAt r24 0))))]]), (.ob 93 [(.ow (avNil (cellAt (obCells (cellAt r24 2)) 0)) 23 1 (avXs (cellAt (obCells (cellAt r24 2)) 0))), (.v (.bool (avBool (cellAt (obCells (cellAt r24 2)) 1))))])])
               (none))
             (none))
           (none))
         (some [(.ow true 23 1 []), (.ob 93 [(.ow a2_0_0n 23 1 a2_0_0), (.v (.bool a2_0_1))])])))) := (ev_eq _ _).trans (by kernel_rfl)
-- "(*bodega/memnode.Node).check"
theorem ev40 (a0_0_0n : Bool) (a0_0_0 : List (List AV)) (a0_0_1 : Bool) (a1_0 : Int) (a2_0 : Int) : ev 40 [(.ep [(.lst a0_0_0n 1 a0_0_0), (.v (.bool a0_0_1))] 0), (.v (.int .i64 a1_0)), (.v (.int .i64 a2_0))] =
  cond (ltI a2_0 1)
   (some [(.v (.int .i64 2))])
   (cond (ltI a1_0 0)
     (some [(.v (.int .i64 2))])
     (cond (leI (((List.length a0_0_0) : Nat) : Int) a1_0)
       (some [(.v (.int .i64 2))])
       (cond (ltI (IntKind.wrap .i64 ((((List.length a0_0_0) : Nat) : Int) - a1_0)) a2_0)
         (some [(.v (.int .i64 2))])
         (cond a0_0_1
           (some [(.v (.int .i64 4))])
           (some [(.v (.int .i64 0))]))))) := (ev_eq _ _).trans (by kernel_rfl)
-- "slices.Clone[[]uint64,uint64]"
theorem ev41 (a0_0n : Bool) (a0_0 : List (List AV)) : ev 41 [(.lst a0_0n 1 a0_0)] =
  cond a0_0n
   (some [(.ow true 23 1 [])])
   (cond (leN ((0 + (List.length a0_0)) * 8) 140737488355328)
     (some [(.ow ((List.isEmpty a0_0) && false) 23 1 ([] ++ a0_0))])
     (none)) := (ev_eq _ _).trans (by kernel_rfl)
-- "(*bodega/memnode.Node).Boot"
theorem ev43 (a0_0_0n : Bool) (a0_0_0 : List (List AV)) (a0_0_1 : Bool) : ev 43 [(.ep [(.lst a0_0_0n 1 a0_0_0), (.v (.bool a0_0_1))] 0)] =
  cond (true && (ltI 1 (((List.length a0_0_0) : Nat) : Int)))
   (cond (isI .u64 (cellAt (lget a0_0_0 1) 0))
     (some [(.v (.int .u64 (avInt (cellAt (lget a0_0_0 1) 0))))])
     (none))
   (none) := (ev_eq _ _).trans (by kernel_rfl)
-- "(*bodega/memnode.Node).Lines"
theorem ev53 (a0_0_0n : Bool) (a0_0_0 : List (List AV)) (a0_0_1 : Bool) : ev 53 [(.ep [(.lst a0_0_0n 1 a0_0_0), (.v (.bool a0_0_1))] 0)] =
  some [(.v (.int .i64 (IntKind.wrap .i64 (Int.tdiv (((List.length a0_0_0) : Nat) : Int) 8))))] := (ev_eq _ _).trans (by kernel_rfl)
-- "bodega/verb.Count"
theorem ev59 (a0_0 : Int) (a0_1 : Int) (a0_2 : Int) (a0_3 : Int) (a0_4 : Int) (a0_5 : Int) (a0_6n : Bool) (a0_6 : List (List AV)) (a0_7 : Int) (a0_8 : Int) : ev 59 [(.agg [(.v (.int .i64 a0_0)), (.v (.int .i64 a0_1)), (.v (.int .i64 a0_2)), (.v (.int .i64 a0_3)), (.v (.int .u64 a0_4)), (.v (.int .u64 a0_5)), (.lst a0_6n 1 a0_6), (.v (.int .u64 a0_7)), (.v (.int .i64 a0_8))])] =
  cond (a0_0 == 1)
   (some [(.v (.int .i64 a0_3))])
   (cond (a0_0 == 2)
     (some [(.v (.int .i64 (((List.length a0_6) : Nat) : Int)))])
     (cond (a0_0 == 3)
       (some [(.v (.int .i64 1))])
       (cond (a0_0 == 4)
         (some [(.v (.int .i64 1))])
         (some [(.v (.int .i64 0))])))) := (ev_eq _ _).trans (by kernel_rfl)
-- "bodega/verb.inside"
theorem ev60 (a0_0 : Int) (a0_1 : Int) (a0_2 : Int) (a0_3 : Int) (a0_4 : Int) (a0_5 : Int) (a0_6n : Bool) (a0_6 : List (List AV)) (a0_7 : Int) (a0_8 : Int) (a1_0 : Int) (a2_0 : Int) : ev 60 [(.agg [(.v (.int .i64 a0_0)), (.v (.int .i64 a0_1)), (.v (.int .i64 a0_2)), (.v (.int .i64 a0_3)), (.v (.int .u64 a0_4)), (.v (.int .u64 a0_5)), (.lst a0_6n 1 a0_6), (.v (.int .u64 a0_7)), (.v (.int .i64 a0_8))]), (.v (.int .i64 a1_0)), (.v (.int .i64 a2_0))] =
  cond (ltI a1_0 1)
   (some [(.v (.bool false))])
   (cond (ltI 5 a1_0)
     (some [(.v (.bool false))])
     (cond (ltI a2_0 1)
       (some [(.v (.bool false))])
       (cond (ltI 256 a2_0)
         (some [(.v (.bool false))])
         (cond (ltI a0_1 0)
           (some [(.v (.bool false))])
           (cond (leI a1_0 a0_1)
             (some [(.v (.bool false))])
             (cond (ltI a0_2 0)
               (some [(.v (.bool false))])
               (cond (leI (IntKind.wrap .i64 (a2_0 * 8)) a0_2)
                 (some [(.v (.bool false))])
                 ((ev 59 [(.agg [(.v (.int .i64 a0_0)), (.v (.int .i64 a0_1)), (.v (.int .i64 a0_2)), (.v (.int .i64 a0_3)), (.v (.int .u64 a0_4)), (.v (.int .u64 a0_5)), (.lst a0_6n 1 a0_6), (.v (.int .u64 a0_7)), (.v (.int .i64 a0_8))])]).bind fun r9 =>
                  cond (isI .i64 (cellAt r9 0))
                   (cond (ltI 1024 (avInt (cellAt r9 0)))
                     (some [(.v (.bool false))])
                     ((ev 61 [(.agg [(.v (.int .i64 a0_0)), (.v (.int .i64 a0_1)), (.v (.int .i64 a0_2)), (.v (.int .i64 a0_3)), (.v (.int .u64 a0_4)), (.v (.int .u64 a0_5)), (.lst a0_6n 1 a0_6), (.v (.int .u64 a0_7)), (.v (.int .i64 a0_8))])]).bind fun r12 =>
                      cond (isI .i64 (cellAt r12 0))
                       (cond (isI .i64 (cellAt r12 1))
                         (cond (ltI (avInt (cellAt r12 1)) a2_0)
                           (some [(.v (.bool (ltI (IntKind.wrap .i64 ((avInt (cellAt r12 1)) - (avInt (cellAt r12 0)))) 128)))])
                           (some [(.v (.bool false))]))
                         (none))
                       (none)))
                   (none))))))))) := (ev_eq _ _).trans (by kernel_rfl)
-- "bodega/verb.span"
theorem ev61 (a0_0 : Int) (a0_1 : Int) (a0_2 : Int) (a0_3 : Int) (a0_4 : Int) (a0_5 : Int) (a0_6n : Bool) (a0_6 : List (List AV)) (a0_7 : Int) (a0_8 : Int) : ev 61 [(.agg [(.v (.int .i64 a0_0)), (.v (.int .i64 a0_1)), (.v (.int .i64 a0_2)), (.v (.int .i64 a0_3)), (.v (.int .u64 a0_4)), (.v (.int .u64 a0_5)), (.lst a0_6n 1 a0_6), (.v (.int .u64 a0_7)), (.v (.int .i64 a0_8))])] =
  (ev 59 [(.agg [(.v (.int .i64 a0_0)), (.v (.int .i64 a0_1)), (.v (.int .i64 a0_2)), (.v (.int .i64 a0_3)), (.v (.int .u64 a0_4)), (.v (.int .u64 a0_5)), (.lst a0_6n 1 a0_6), (.v (.int .u64 a0_7)), (.v (.int .i64 a0_8))])]).bind fun r1 =>
  cond (isI .i64 (cellAt r1 0))
   (some [(.v (.int .i64 (IntKind.wrap .i64 (Int.tdiv a0_2 8)))), (.v (.int .i64 (IntKind.wrap .i64 (Int.tdiv (IntKind.wrap .i64 ((IntKind.wrap .i64 (a0_2 + (avInt (cellAt r1 0)))) - 1)) 8))))])
   (none) := (ev_eq _ _).trans (by kernel_rfl)
-- "bodega/verb.lastLine"
theorem ev62 (a0_0 : Int) (a0_1 : Int) (a0_2 : Int) (a0_3 : Int) (a0_4 : Int) (a0_5 : Int) (a0_6n : Bool) (a0_6 : List (List AV)) (a0_7 : Int) (a0_8 : Int) : ev 62 [(.agg [(.v (.int .i64 a0_0)), (.v (.int .i64 a0_1)), (.v (.int .i64 a0_2)), (.v (.int .i64 a0_3)), (.v (.int .u64 a0_4)), (.v (.int .u64 a0_5)), (.lst a0_6n 1 a0_6), (.v (.int .u64 a0_7)), (.v (.int .i64 a0_8))])] =
  cond (a0_0 == 1)
   (some [(.v (.int .i64 3))])
   (some [(.v (.int .i64 2))]) := (ev_eq _ _).trans (by kernel_rfl)
-- "(*bodega/memnode.Node).Up"
theorem ev63 (a0_0_0n : Bool) (a0_0_0 : List (List AV)) (a0_0_1 : Bool) : ev 63 [(.ep [(.lst a0_0_0n 1 a0_0_0), (.v (.bool a0_0_1))] 0)] =
  some [(.v (.bool (!a0_0_1)))] := (ev_eq _ _).trans (by kernel_rfl)
-- "bodega/queuepair.word"
theorem ev64 (a0_0_0n : Bool) (a0_0_0 : List (List AV)) (a0_0_1 : Bool) (a1_0 : Int) : ev 64 [(.ep [(.lst a0_0_0n 1 a0_0_0), (.v (.bool a0_0_1))] 0), (.v (.int .i64 a1_0))] =
  (ev 14 [(.ep [(.lst a0_0_0n 1 a0_0_0), (.v (.bool a0_0_1))] 0), (.v (.int .i64 a1_0)), (.v (.int .i64 1))]).bind fun r0 =>
  cond (isOw 23 1 (cellAt r0 0))
   (cond (isI .i64 (cellAt r0 1))
     (cond (!((avInt (cellAt r0 1)) == 0))
       (some [(.v (.int .u64 0))])
       (cond (true && (ltI 0 ((((List.length (avXs (cellAt r0 0))) - 0) : Nat) : Int)))
         (cond ((ltN 0 (List.length (avXs (cellAt r0 0)))) && (isI .u64 (cellAt (lget (avXs (cellAt r0 0)) 0) 0)))
           (some [(.v (.int .u64 (avInt (cellAt (lget (avXs (cellAt r0 0)) 0) 0))))])
           (none))
         (none)))
     (none))
   (none) := (ev_eq _ _).trans (by kernel_rfl)
-- "bodega/verb.Check"
theorem ev65 (a0_0 : Int) (a0_1 : Int) (a0_2 : Int) (a0_3 : Int) (a0_4 : Int) (a0_5 : Int) (a0_6n : Bool) (a0_6 : List (List AV)) (a0_7 : Int) (a0_8 : Int) (a1_0 : Int) (a2_0 : Int) (a3_0 : Int) (a4_0 : Int) : ev 65 [(.agg [(.v (.int .i64 a0_0)), (.v (.int .i64 a0_1)), (.v (.int .i64 a0_2)), (.v (.int .i64 a0_3)), (.v (.int .u64 a0_4)), (.v (.int .u64 a0_5)), (.lst a0_6n 1 a0_6), (.v (.int .u64 a0_7)), (.v (.int .i64 a0_8))]), (.v (.int .i64 a1_0)), (.v (.int .u64 a2_0)), (.v (.int .u64 a3_0)), (.v (.int .u64 a4_0))] =
  (ev 83 [(.agg [(.v (.int .i64 a0_0)), (.v (.int .i64 a0_1)), (.v (.int .i64 a0_2)), (.v (.int .i64 a0_3)), (.v (.int .u64 a0_4)), (.v (.int .u64 a0_5)), (.lst a0_6n 1 a0_6), (.v (.int .u64 a0_7)), (.v (.int .i64 a0_8))])]).bind fun r0 =>
  cond (isI .i64 (cellAt r0 0))
   (cond ((avInt (cellAt r0 0)) == 1)
     (cond (a0_0 == 1)
       (some [(.v (.int .i64 0))])
       (cond (ltI a1_0 0)
         (some [(.v (.int .i64 5))])
         (cond (ltI (IntKind.wrap .u64 a1_0) a2_0)
           (some [(.v (.int .i64 5))])
           (cond ((avInt (cellAt r0 0)) == 1)
             (some [(.v (.int .i64 0))])
             (cond (ltI a0_8 0)
               (some [(.v (.int .i64 5))])
               (cond (!((IntKind.wrap .u64 a0_8) == a4_0))
                 (some [(.v (.int .i64 5))])
                 (cond (!(a0_7 == a3_0))
                   (some [(.v (.int .i64 5))])
                   (some [(.v (.int .i64 0))]))))))))
     (cond (ltI a1_0 0)
       (some [(.v (.int .i64 5))])
       (cond (ltI (IntKind.wrap .u64 a1_0) a2_0)
         (some [(.v (.int .i64 5))])
         (cond ((avInt (cellAt r0 0)) == 1)
           (some [(.v (.int .i64 0))])
           (cond (ltI a0_8 0)
             (some [(.v (.int .i64 5))])
             (cond (!((IntKind.wrap .u64 a0_8) == a4_0))
               (some [(.v (.int .i64 5))])
               (cond (!(a0_7 == a3_0))
                 (some [(.v (.int .i64 5))])
                 (some [(.v (.int .i64 0))]))))))))
   (none) := (ev_eq _ _).trans (by kernel_rfl)
-- "slices.Clone[[]bodega/api.Verb,bodega/api.Verb]"
theorem ev66 (a0_0n : Bool) (a0_0 : List (List AV)) : ev 66 [(.lst a0_0n 9 a0_0)] =
  cond a0_0n
   (some [(.ow true 38 9 [])])
   (cond (leN ((0 + (List.length a0_0)) * 88) 140737488355328)
     (some [(.ow ((List.isEmpty a0_0) && false) 38 9 ([] ++ a0_0))])
     (none)) := (ev_eq _ _).trans (by kernel_rfl)
-- "(*bodega/memnode.Node).Cas"
theorem ev68 (a0_0_0n : Bool) (a0_0_0 : List (List AV)) (a0_0_1 : Bool) (a1_0 : Int) (a2_0 : Int) (a3_0 : Int) : ev 68 [(.ob 93 [(.ow a0_0_0n 23 1 a0_0_0), (.v (.bool a0_0_1))]), (.v (.int .i64 a1_0)), (.v (.int .u64 a2_0)), (.v (.int .u64 a3_0))] =
  (ev 40 [(.ep [(.lst a0_0_0n 1 a0_0_0), (.v (.bool a0_0_1))] 0), (.v (.int .i64 a1_0)), (.v (.int .i64 1))]).bind fun r0 =>
  cond (isI .i64 (cellAt r0 0))
   (cond (!((avInt (cellAt r0 0)) == 0))
     (some [(.v (.int .u64 0)), (.v (.int .i64 (avInt (cellAt r0 0)))), (.ob 93 [(.ow a0_0_0n 23 1 a0_0_0), (.v (.bool a0_0_1))])])
     (cond ((leI 0 a1_0) && (ltI a1_0 ((((List.length a0_0_0) - 0) : Nat) : Int)))
       (cond ((ltN (0 + (Int.toNat a1_0)) (List.length a0_0_0)) && (isI .u64 (cellAt (lget a0_0_0 (0 + (Int.toNat a1_0))) 0)))
         (cond ((avInt (cellAt (lget a0_0_0 (0 + (Int.toNat a1_0))) 0)) == a2_0)
           (cond ((leI 0 a1_0) && (ltI a1_0 ((((List.length a0_0_0) - 0) : Nat) : Int)))
             (cond (ltN (0 + (Int.toNat a1_0)) (List.length a0_0_0))
               (some [(.v (.int .u64 (avInt (cellAt (lget a0_0_0 (0 + (Int.toNat a1_0))) 0)))), (.v (.int .i64 0)), (.ob 93 [(.ow a0_0_0n 23 1 (List.set a0_0_0 (0 + (Int.toNat a1_0)) [(.v (.int .u64 a3_0))])), (.v (.bool a0_0_1))])])
               (none))
             (none))
           (some [(.v (.int .u64 (avInt (cellAt (lget a0_0_0 (0 + (Int.toNat a1_0))) 0)))), (.v (.int .i64 0)), (.ob 93 [(.ow a0_0_0n 23 1 a0_0_0), (.v (.bool a0_0_1))])]))
         (none))
       (none)))
   (none) := (ev_eq _ _).trans (by kernel_rfl)
-- "(*bodega/memnode.Node).Add"
theorem ev69 (a0_0_0n : Bool) (a0_0_0 : List (List AV)) (a0_0_1 : Bool) (a1_0 : Int) (a2_0 : Int) : ev 69 [(.ob 93 [(.ow a0_0_0n 23 1 a0_0_0), (.v (.bool a0_0_1))]), (.v (.int .i64 a1_0)), (.v (.int .u64 a2_0))] =
  (ev 40 [(.ep [(.lst a0_0_0n 1 a0_0_0), (.v (.bool a0_0_1))] 0), (.v (.int .i64 a1_0)), (.v (.int .i64 1))]).bind fun r0 =>
  cond (isI .i64 (cellAt r0 0))
   (cond (!((avInt (cellAt r0 0)) == 0))
     (some [(.v (.int .u64 0)), (.v (.int .i64 (avInt (cellAt r0 0)))), (.ob 93 [(.ow a0_0_0n 23 1 a0_0_0), (.v (.bool a0_0_1))])])
     (cond ((leI 0 a1_0) && (ltI a1_0 ((((List.length a0_0_0) - 0) : Nat) : Int)))
       (cond ((ltN (0 + (Int.toNat a1_0)) (List.length a0_0_0)) && (isI .u64 (cellAt (lget a0_0_0 (0 + (Int.toNat a1_0))) 0)))
         (cond ((leI 0 a1_0) && (ltI a1_0 ((((List.length a0_0_0) - 0) : Nat) : Int)))
           (cond ((ltN (0 + (Int.toNat a1_0)) (List.length a0_0_0)) && (isI .u64 (cellAt (lget a0_0_0 (0 + (Int.toNat a1_0))) 0)))
             (cond ((leI 0 a1_0) && (ltI a1_0 ((((List.length a0_0_0) - 0) : Nat) : Int)))
               (cond (ltN (0 + (Int.toNat a1_0)) (List.length a0_0_0))
                 (some [(.v (.int .u64 (avInt (cellAt (lget a0_0_0 (0 + (Int.toNat a1_0))) 0)))), (.v (.int .i64 0)), (.ob 93 [(.ow a0_0_0n 23 1 (List.set a0_0_0 (0 + (Int.toNat a1_0)) [(.v (.int .u64 (IntKind.wrap .u64 ((avInt (cellAt (lget a0_0_0 (0 + (Int.toNat a1_0))) 0)) + a2_0))))])), (.v (.bool a0_0_1))])])
                 (none))
               (none))
             (none))
           (none))
         (none))
       (none)))
   (none) := (ev_eq _ _).trans (by kernel_rfl)
-- "bodega/verb.Class"
theorem ev83 (a0_0 : Int) (a0_1 : Int) (a0_2 : Int) (a0_3 : Int) (a0_4 : Int) (a0_5 : Int) (a0_6n : Bool) (a0_6 : List (List AV)) (a0_7 : Int) (a0_8 : Int) : ev 83 [(.agg [(.v (.int .i64 a0_0)), (.v (.int .i64 a0_1)), (.v (.int .i64 a0_2)), (.v (.int .i64 a0_3)), (.v (.int .u64 a0_4)), (.v (.int .u64 a0_5)), (.lst a0_6n 1 a0_6), (.v (.int .u64 a0_7)), (.v (.int .i64 a0_8))])] =
  (ev 62 [(.agg [(.v (.int .i64 a0_0)), (.v (.int .i64 a0_1)), (.v (.int .i64 a0_2)), (.v (.int .i64 a0_3)), (.v (.int .u64 a0_4)), (.v (.int .u64 a0_5)), (.lst a0_6n 1 a0_6), (.v (.int .u64 a0_7)), (.v (.int .i64 a0_8))])]).bind fun r1 =>
  cond (isI .i64 (cellAt r1 0))
   (cond (leI (IntKind.wrap .i64 (Int.tdiv a0_2 8)) (avInt (cellAt r1 0)))
     (some [(.v (.int .i64 1))])
     (some [(.v (.int .i64 2))]))
   (none) := (ev_eq _ _).trans (by kernel_rfl)
end Go.Proofs.Ytkefjdmoikegbaa
