/- The functions of the chapter, as the evaluator has them. -/
import Derived.Test.YtokagdgcfmjlnaaRows
import Derived.Test.YtokagdgcfmjlnaaEv10
set_option linter.all false
namespace Go.Proofs.Ytokagdgcfmjlnaa
open Go.Ev

def rwF : FuncId → List Bool
  | 14 => [true, true] | 15 => [true] | 16 => [true] | 17 => [true] | 18 => [true] | 20 => [true] | 31 => [true, true] | 32 => [true] | 34 => [true] | _ => []
def stepN (r : Nat) : Nat := bif Nat.beq (r % 2) 1 then Nat.xor (r / 2) 14514072000185962306 else r / 2
def tabN (i : Nat) : Nat := stepN (stepN (stepN (stepN (stepN (stepN (stepN (stepN i)))))))
def tabL : List AV := (List.range 256).map fun i => .v (.int .u64 (tabN i : Nat))
def extF : FuncId → Option (List AV → Option (List AV))
  | 44 => some fun l => match l with | [] => some [.agg tabL] | _ => none
  | _ => none
def cfg0 : Cfg := { rw := rwF, dat := fun _ => false, inl := fun f => Nat.beq f 13, roll := fun _ => 8, join := fun _ => false }
def cfg : Cfg := { cfg0 with ext := extF }
noncomputable def ev (f : FuncId) (args : List AV) : Option (List AV) := evL Try.prog cfg f args
noncomputable def lp (f k nr : Nat) (s : St) : Option LR := lpL Try.prog cfg f k nr s
theorem ev_eq (f : FuncId) (args : List AV) : ev f args = evTop cfg f args (evBodyG Try.prog cfg (callX Try.prog cfg) (inlD Try.prog cfg (callX Try.prog cfg) 5) (loopL Try.prog cfg f) f args) := evL_eqX f args
theorem lp_eq (f k nr : Nat) (s : St) : lp f k nr s = evRound Try.prog cfg (callX Try.prog cfg) (inlD Try.prog cfg (callX Try.prog cfg) 5) (loopL Try.prog cfg f) (cfg.roll f) (cfg.join f) (loopAt Try.prog f k).1 (loopAt Try.prog f k).2 (retAt Try.prog cfg f nr) s := loopL_eqX f _ _ _ s

-- "bodega/bodegahand.Pick"
theorem ev8 (a0_0 : Int) (a1_0 : Int) : ev 8 [(.v (.int .i64 a0_0)), (.v (.int .i64 a1_0))] =
  cond (ltI a1_0 1)
   (some [(.v (.int .i64 0))])
   (cond (eqI a1_0 0)
     (none)
     (cond (eqI a1_0 0)
       (none)
       (some [(.v (.int .i64 (Int.tmod (IntKind.wrap .i64 ((Int.tmod a0_0 a1_0) + a1_0)) a1_0)))]))) := (ev_eq _ _).trans (by kernel_rfl)
-- "bodega/memnode.New"
theorem ev9 (a0_0 : Int) : ev 9 [(.v (.int .i64 a0_0))] =
  cond (ltI a0_0 1)
   (some [(.v (.pointer none)), (.v (.int .i64 2))])
   (cond (ltI 256 a0_0)
     (some [(.v (.pointer none)), (.v (.int .i64 2))])
     (cond ((((leI 0 (IntKind.wrap .i64 (a0_0 * 8))) && (leI (IntKind.wrap .i64 (a0_0 * 8)) (IntKind.wrap .i64 (a0_0 * 8)))) && (leI ((IntKind.wrap .i64 (a0_0 * 8)) * 8) 281474976710656)) && (leI (IntKind.wrap .i64 (a0_0 * 8)) 281474976710656))
       (some [(.ob 60 [(.ow false 31 1 (List.replicate (Int.toNat (IntKind.wrap .i64 (a0_0 * 8))) [(.v (.int .u64 0))])), (.v (.bool false))]), (.v (.int .i64 0))])
       (none))) := (ev_eq _ _).trans (by kernel_rfl)
-- "bodega/bodegalaw3.awake"
theorem ev10  : ev 10 [] =
  (ev 9 [(.v (.int .i64 1))]).bind fun r0 =>
  cond (isNP (cellAt r0 0))
   (cond (isI .i64 (cellAt r0 1))
     (cond (!((avInt (cellAt r0 1)) == 0))
       (some [(.v (.bool false))])
       (some [(.v (.bool false))]))
     (none))
   (cond (((isOb 60 (cellAt r0 0)) && (Nat.beq (List.length (obCells (cellAt r0 0))) 2)) && ((isOw 31 1 (cellAt (obCells (cellAt r0 0)) 0)) && (isB (cellAt (obCells (cellAt r0 0)) 1))))
     (cond (isI .i64 (cellAt r0 1))
       (cond (!((avInt (cellAt r0 1)) == 0))
         (some [(.v (.bool false))])
         ((ev 17 [(.ob 60 [(.ow (avNil (cellAt (obCells (cellAt r0 0)) 0)) 31 1 (avXs (cellAt (obCells (cellAt r0 0)) 0))), (.v (.bool (avBool (cellAt (obCells (cellAt r0 0)) 1))))]), (.v (.int .i64 0)), (.v (.int .u64 0)), (.v (.int .u64 5))]).bind fun r8 =>
          cond (isI .u64 (cellAt r8 0))
           (cond (isI .i64 (cellAt r8 1))
             (cond (((isOb 60 (cellAt r8 2)) && (Nat.beq (List.length (obCells (cellAt r8 2))) 2)) && (likeG [(.ow (avNil (cellAt (obCells (cellAt r0 0)) 0)) 31 1 (avXs (cellAt (obCells (cellAt r0 0)) 0))), (.v (.bool (avBool (cellAt (obCells (cellAt r0 0)) 1))))] 0 (obCells (cellAt r8 2))))
               ((ev 17 [(.ob 60 [(.ow (avNil (cellAt (obCells (cellAt r8 2)) 0)) 31 1 (avXs (cellAt (obCells (cellAt r8 2)) 0))), (.v (.bool (avBool (cellAt (obCells (cellAt r8 2)) 1))))]), (.v (.int .i64 0)), (.v (.int .u64 0)), (.v (.int .u64 6))]).bind fun r15 =>
                cond (isI .u64 (cellAt r15 0))
                 (cond (isI .i64 (cellAt r15 1))
                   (cond (((isOb 60 (cellAt r15 2)) && (Nat.beq (List.length (obCells (cellAt r15 2))) 2)) && (likeG [(.ow (avNil (cellAt (obCells (cellAt r8 2)) 0)) 31 1 (avXs (cellAt (obCells (cellAt r8 2)) 0))), (.v (.bool (avBool (cellAt (obCells (cellAt r8 2)) 1))))] 0 (obCells (cellAt r15 2))))
                     ((ev 11 [(.ep [(.lst (avNil (cellAt (obCells (cellAt r15 2)) 0)) 1 (avXs (cellAt (obCells (cellAt r15 2)) 0))), (.v (.bool (avBool (cellAt (obCells (cellAt r15 2)) 1))))] 0), (.v (.int .i64 0)), (.v (.int .i64 1))]).bind fun r22 =>
                      cond (isOw 31 1 (cellAt r22 0))
                       (cond (isI .i64 (cellAt r22 1))
                         (cond (false || (((List.all (avXs (cellAt r22 0)) rowV) && true) && true))
                           (cond ((avInt (cellAt r8 0)) == 0)
                             (cond ((avInt (cellAt r8 1)) == 0)
                               (cond ((avInt (cellAt r15 0)) == 5)
                                 (cond ((avInt (cellAt r15 1)) == 0)
                                   (cond ((avInt (cellAt r22 1)) == 0)
                                     (cond (((((List.length (avXs (cellAt r22 0))) - 0) : Nat) : Int) == 1)
                                       (cond (true && (ltI 0 ((((List.length (avXs (cellAt r22 0))) - 0) : Nat) : Int)))
                                         (cond ((ltN 0 (List.length (avXs (cellAt r22 0)))) && (isI .u64 (cellAt (lget (avXs (cellAt r22 0)) 0) 0)))
                                           (cond ((avInt (cellAt (lget (avXs (cellAt r22 0)) 0) 0)) == 5)
                                             ((ev 19 [(.ep [(.lst (avNil (cellAt (obCells (cellAt r15 2)) 0)) 1 (avXs (cellAt (obCells (cellAt r15 2)) 0))), (.v (.bool (avBool (cellAt (obCells (cellAt r15 2)) 1))))] 0)]).bind fun r35 =>
                                              cond (isB (cellAt r35 0))
                                               (cond (avBool (cellAt r35 0))
                                                 ((ev 22 [(.ep [(.lst (avNil (cellAt (obCells (cellAt r15 2)) 0)) 1 (avXs (cellAt (obCells (cellAt r15 2)) 0))), (.v (.bool (avBool (cellAt (obCells (cellAt r15 2)) 1))))] 0)]).bind fun r37 =>
                                                  cond (isI .i64 (cellAt r37 0))
                                                   (some [(.v (.bool ((avInt (cellAt r37 0)) == 1)))])
                                                   (none))
                                                 (some [(.v (.bool false))]))
                                               (none))
                                             (some [(.v (.bool false))]))
                                           (none))
                                         (none))
                                       (some [(.v (.bool false))]))
                                     (some [(.v (.bool false))]))
                                   (some [(.v (.bool false))]))
                                 (some [(.v (.bool false))]))
                               (some [(.v (.bool false))]))
                             (some [(.v (.bool false))]))
                           (none))
                         (none))
                       (none))
                     (none))
                   (none))
                 (none))
               (none))
             (none))
           (none)))
       (none))
     (none)) := (ev_eq _ _).trans (by kernel_rfl)
-- "(*bodega/memnode.Node).Read"
theorem ev11 (a0_0_0n : Bool) (a0_0_0 : List (List AV)) (a0_0_1 : Bool) (a1_0 : Int) (a2_0 : Int) : ev 11 [(.ep [(.lst a0_0_0n 1 a0_0_0), (.v (.bool a0_0_1))] 0), (.v (.int .i64 a1_0)), (.v (.int .i64 a2_0))] =
  (ev 28 [(.ep [(.lst a0_0_0n 1 a0_0_0), (.v (.bool a0_0_1))] 0), (.v (.int .i64 a1_0)), (.v (.int .i64 a2_0))]).bind fun r0 =>
  cond (isI .i64 (cellAt r0 0))
   (cond (!((avInt (cellAt r0 0)) == 0))
     (some [(.ow true 31 1 []), (.v (.int .i64 (avInt (cellAt r0 0))))])
     (cond (((leI 0 a1_0) && (leI a1_0 (IntKind.wrap .i64 (a1_0 + a2_0)))) && (leI (IntKind.wrap .i64 (a1_0 + a2_0)) (((List.length a0_0_0) : Nat) : Int)))
       ((ev 29 [(.lst a0_0_0n 1 (List.take ((Int.toNat (IntKind.wrap .i64 (a1_0 + a2_0))) - (Int.toNat a1_0)) (List.drop (Int.toNat a1_0) a0_0_0)))]).bind fun r6 =>
        cond (isOw 31 1 (cellAt r6 0))
         (some [(.ow (avNil (cellAt r6 0)) 31 1 (avXs (cellAt r6 0))), (.v (.int .i64 0))])
         (none))
       (none)))
   (none) := (ev_eq _ _).trans (by kernel_rfl)
-- "(*bodega/memnode.Node).Boot"
theorem ev12 (a0_0_0n : Bool) (a0_0_0 : List (List AV)) (a0_0_1 : Bool) : ev 12 [(.ep [(.lst a0_0_0n 1 a0_0_0), (.v (.bool a0_0_1))] 0)] =
  cond (true && (ltI 1 (((List.length a0_0_0) : Nat) : Int)))
   (cond (isI .u64 (cellAt (lget a0_0_0 1) 0))
     (some [(.v (.int .u64 (avInt (cellAt (lget a0_0_0 1) 0))))])
     (none))
   (none) := (ev_eq _ _).trans (by kernel_rfl)
-- "(*bodega/memnode.Node).Write"
theorem ev15 (a0_0_0n : Bool) (a0_0_0 : List (List AV)) (a0_0_1 : Bool) (a1_0 : Int) (a2_0n : Bool) (a2_0 : List (List AV)) : ev 15 [(.ob 60 [(.ow a0_0_0n 31 1 a0_0_0), (.v (.bool a0_0_1))]), (.v (.int .i64 a1_0)), (.lst a2_0n 1 a2_0)] =
  (ev 28 [(.ep [(.lst a0_0_0n 1 a0_0_0), (.v (.bool a0_0_1))] 0), (.v (.int .i64 a1_0)), (.v (.int .i64 (((List.length a2_0) : Nat) : Int)))]).bind fun r1 =>
  cond (isI .i64 (cellAt r1 0))
   (cond (!((avInt (cellAt r1 0)) == 0))
     (some [(.v (.int .i64 (avInt (cellAt r1 0)))), (.ob 60 [(.ow a0_0_0n 31 1 a0_0_0), (.v (.bool a0_0_1))])])
     (cond ((leI 0 a1_0) && (leI a1_0 ((((List.length a0_0_0) - 0) : Nat) : Int)))
       (some [(.v (.int .i64 0)), (.ob 60 [(.ow a0_0_0n 31 1 (((List.take (0 + (Int.toNat a1_0)) a0_0_0) ++ (List.take (min (List.length a2_0) ((List.length a0_0_0) - (0 + (Int.toNat a1_0)))) a2_0)) ++ (List.drop ((0 + (Int.toNat a1_0)) + (min (List.length a2_0) ((List.length a0_0_0) - (0 + (Int.toNat a1_0))))) a0_0_0))), (.v (.bool a0_0_1))])])
       (none)))
   (none) := (ev_eq _ _).trans (by kernel_rfl)
-- "(*bodega/memnode.Node).Fail"
theorem ev16 (a0_0_0n : Bool) (a0_0_0 : List (List AV)) (a0_0_1 : Bool) : ev 16 [(.ob 60 [(.ow a0_0_0n 31 1 a0_0_0), (.v (.bool a0_0_1))])] =
  some [(.ob 60 [(.ow a0_0_0n 31 1 a0_0_0), (.v (.bool true))])] := (ev_eq _ _).trans (by kernel_rfl)
-- "(*bodega/memnode.Node).Cas"
theorem ev17 (a0_0_0n : Bool) (a0_0_0 : List (List AV)) (a0_0_1 : Bool) (a1_0 : Int) (a2_0 : Int) (a3_0 : Int) : ev 17 [(.ob 60 [(.ow a0_0_0n 31 1 a0_0_0), (.v (.bool a0_0_1))]), (.v (.int .i64 a1_0)), (.v (.int .u64 a2_0)), (.v (.int .u64 a3_0))] =
  (ev 28 [(.ep [(.lst a0_0_0n 1 a0_0_0), (.v (.bool a0_0_1))] 0), (.v (.int .i64 a1_0)), (.v (.int .i64 1))]).bind fun r0 =>
  cond (isI .i64 (cellAt r0 0))
   (cond (!((avInt (cellAt r0 0)) == 0))
     (some [(.v (.int .u64 0)), (.v (.int .i64 (avInt (cellAt r0 0)))), (.ob 60 [(.ow a0_0_0n 31 1 a0_0_0), (.v (.bool a0_0_1))])])
     (cond ((leI 0 a1_0) && (ltI a1_0 ((((List.length a0_0_0) - 0) : Nat) : Int)))
       (cond ((ltN (0 + (Int.toNat a1_0)) (List.length a0_0_0)) && (isI .u64 (cellAt (lget a0_0_0 (0 + (Int.toNat a1_0))) 0)))
         (cond ((avInt (cellAt (lget a0_0_0 (0 + (Int.toNat a1_0))) 0)) == a2_0)
           (cond ((leI 0 a1_0) && (ltI a1_0 ((((List.length a0_0_0) - 0) : Nat) : Int)))
             (cond (ltN (0 + (Int.toNat a1_0)) (List.length a0_0_0))
               (some [(.v (.int .u64 (avInt (cellAt (lget a0_0_0 (0 + (Int.toNat a1_0))) 0)))), (.v (.int .i64 0)), (.ob 60 [(.ow a0_0_0n 31 1 (List.set a0_0_0 (0 + (Int.toNat a1_0)) [(.v (.int .u64 a3_0))])), (.v (.bool a0_0_1))])])
               (none))
             (none))
           (some [(.v (.int .u64 (avInt (cellAt (lget a0_0_0 (0 + (Int.toNat a1_0))) 0)))), (.v (.int .i64 0)), (.ob 60 [(.ow a0_0_0n 31 1 a0_0_0), (.v (.bool a0_0_1))])]))
         (none))
       (none)))
   (none) := (ev_eq _ _).trans (by kernel_rfl)
-- "(*bodega/memnode.Node).Add"
theorem ev18 (a0_0_0n : Bool) (a0_0_0 : List (List AV)) (a0_0_1 : Bool) (a1_0 : Int) (a2_0 : Int) : ev 18 [(.ob 60 [(.ow a0_0_0n 31 1 a0_0_0), (.v (.bool a0_0_1))]), (.v (.int .i64 a1_0)), (.v (.int .u64 a2_0))] =
  (ev 28 [(.ep [(.lst a0_0_0n 1 a0_0_0), (.v (.bool a0_0_1))] 0), (.v (.int .i64 a1_0)), (.v (.int .i64 1))]).bind fun r0 =>
  cond (isI .i64 (cellAt r0 0))
   (cond (!((avInt (cellAt r0 0)) == 0))
     (some [(.v (.int .u64 0)), (.v (.int .i64 (avInt (cellAt r0 0)))), (.ob 60 [(.ow a0_0_0n 31 1 a0_0_0), (.v (.bool a0_0_1))])])
     (cond ((leI 0 a1_0) && (ltI a1_0 ((((List.length a0_0_0) - 0) : Nat) : Int)))
       (cond ((ltN (0 + (Int.toNat a1_0)) (List.length a0_0_0)) && (isI .u64 (cellAt (lget a0_0_0 (0 + (Int.toNat a1_0))) 0)))
         (cond ((leI 0 a1_0) && (ltI a1_0 ((((List.length a0_0_0) - 0) : Nat) : Int)))
           (cond ((ltN (0 + (Int.toNat a1_0)) (List.length a0_0_0)) && (isI .u64 (cellAt (lget a0_0_0 (0 + (Int.toNat a1_0))) 0)))
             (cond ((leI 0 a1_0) && (ltI a1_0 ((((List.length a0_0_0) - 0) : Nat) : Int)))
               (cond (ltN (0 + (Int.toNat a1_0)) (List.length a0_0_0))
                 (some [(.v (.int .u64 (avInt (cellAt (lget a0_0_0 (0 + (Int.toNat a1_0))) 0)))), (.v (.int .i64 0)), (.ob 60 [(.ow a0_0_0n 31 1 (List.set a0_0_0 (0 + (Int.toNat a1_0)) [(.v (.int .u64 (IntKind.wrap .u64 ((avInt (cellAt (lget a0_0_0 (0 + (Int.toNat a1_0))) 0)) + a2_0))))])), (.v (.bool a0_0_1))])])
                 (none))
               (none))
             (none))
           (none))
         (none))
       (none)))
   (none) := (ev_eq _ _).trans (by kernel_rfl)
-- "(*bodega/memnode.Node).Up"
theorem ev19 (a0_0_0n : Bool) (a0_0_0 : List (List AV)) (a0_0_1 : Bool) : ev 19 [(.ep [(.lst a0_0_0n 1 a0_0_0), (.v (.bool a0_0_1))] 0)] =
  some [(.v (.bool (!a0_0_1)))] := (ev_eq _ _).trans (by kernel_rfl)
-- "(*bodega/memnode.Node).Back"
theorem ev20 (a0_0_0n : Bool) (a0_0_0 : List (List AV)) (a0_0_1 : Bool) : ev 20 [(.ob 60 [(.ow a0_0_0n 31 1 a0_0_0), (.v (.bool a0_0_1))])] =
  cond (!a0_0_1)
   (some [(.v (.bool false)), (.ob 60 [(.ow a0_0_0n 31 1 a0_0_0), (.v (.bool a0_0_1))])])
   ((ev 12 [(.ep [(.lst a0_0_0n 1 a0_0_0), (.v (.bool a0_0_1))] 0)]).bind fun r1 =>
    cond (isI .u64 (cellAt r1 0))
     (cond (leI 31 (avInt (cellAt r1 0)))
       (some [(.v (.bool false)), (.ob 60 [(.ow a0_0_0n 31 1 a0_0_0), (.v (.bool a0_0_1))])])
       (cond (true && (ltI 1 ((((List.length a0_0_0) - 0) : Nat) : Int)))
         (cond ((ltN 1 (List.length a0_0_0)) && (isI .u64 (cellAt (lget a0_0_0 1) 0)))
           (cond (true && (ltI 1 ((((List.length a0_0_0) - 0) : Nat) : Int)))
             (cond (ltN 1 (List.length a0_0_0))
               (some [(.v (.bool true)), (.ob 60 [(.ow a0_0_0n 31 1 (List.set a0_0_0 1 [(.v (.int .u64 (IntKind.wrap .u64 ((avInt (cellAt (lget a0_0_0 1) 0)) + 1))))])), (.v (.bool false))])])
               (none))
             (none))
           (none))
         (none)))
     (none)) := (ev_eq _ _).trans (by kernel_rfl)
-- "bodega/bodegaref1.SameWords"
theorem ev21 (a0_0n : Bool) (a0_0 : List (List AV)) (a1_0n : Bool) (a1_0 : List (List AV)) : ev 21 [(.lst a0_0n 1 a0_0), (.lst a1_0n 1 a1_0)] =
  cond (!((((List.length a0_0) : Nat) : Int) == (((List.length a1_0) : Nat) : Int)))
   (some [(.v (.bool false))])
   ((lp 21 0 0 ⟨[(0, (.lst a0_0n 1 a0_0)), (1, (.lst a1_0n 1 a1_0)), (5, (.v (.int .i64 0)))], []⟩).bind fun r2 =>
    cond (isEx 0 r2)
     (cond (likeStG ⟨[], []⟩ r2.st)
       (some [(.v (.bool true))])
       (none))
     (cond (isRt r2)
       (some r2.outs)
       (none))) := (ev_eq _ _).trans (by kernel_rfl)
theorem lp21_0 (x0n : Bool) (x0 : List (List AV)) (x1n : Bool) (x1 : List (List AV)) (x5 : Int) : lp 21 0 0 ⟨[(0, (.lst x0n 1 x0)), (1, (.lst x1n 1 x1)), (5, (.v (.int .i64 x5)))], []⟩ =
  cond (ltI x5 (((List.length x0) : Nat) : Int))
   (cond ((leI 0 x5) && (ltI x5 (((List.length x0) : Nat) : Int)))
     (cond (isI .u64 (cellAt (lget x0 (Int.toNat x5)) 0))
       (cond ((leI 0 x5) && (ltI x5 (((List.length x1) : Nat) : Int)))
         (cond (isI .u64 (cellAt (lget x1 (Int.toNat x5)) 0))
           (cond (!((avInt (cellAt (lget x0 (Int.toNat x5)) 0)) == (avInt (cellAt (lget x1 (Int.toNat x5)) 0))))
             (some ⟨none, ⟨[], []⟩, [(.v (.bool false))]⟩)
             (lp 21 0 0 ⟨[(0, (.lst x0n 1 x0)), (1, (.lst x1n 1 x1)), (5, (.v (.int .i64 (IntKind.wrap .i64 (x5 + 1)))))], []⟩))
           (none))
         (none))
       (none))
     (none))
   (some ⟨(some 0), ⟨[], []⟩, []⟩) := (lp_eq _ _ _ _).trans (by kernel_rfl)
-- "(*bodega/memnode.Node).Lines"
theorem ev22 (a0_0_0n : Bool) (a0_0_0 : List (List AV)) (a0_0_1 : Bool) : ev 22 [(.ep [(.lst a0_0_0n 1 a0_0_0), (.v (.bool a0_0_1))] 0)] =
  some [(.v (.int .i64 (IntKind.wrap .i64 (Int.tdiv (((List.length a0_0_0) : Nat) : Int) 8))))] := (ev_eq _ _).trans (by kernel_rfl)
-- "bodega/bodegahand.SameImage"
theorem ev23 (a0_0n : Bool) (a0_0 : List (List AV)) (a1_0_0n : Bool) (a1_0_0 : List (List AV)) (a1_0_1 : Bool) : ev 23 [(.lst a0_0n 1 a0_0), (.ep [(.lst a1_0_0n 1 a1_0_0), (.v (.bool a1_0_1))] 0)] =
  cond (List.all a0_0 Ev.isByte)
   ((ev 33 [(.ep [(.lst a1_0_0n 1 a1_0_0), (.v (.bool a1_0_1))] 0)]).bind fun r1 =>
    cond (isOw 5 1 (cellAt r1 0))
     (cond (List.all (avXs (cellAt r1 0)) Ev.isByte)
       (some [(.v (.bool ((ByteArray.toList ⟨(List.map Ev.byteOf a0_0).toArray⟩) == (ByteArray.toList ⟨(List.map Ev.byteOf (avXs (cellAt r1 0))).toArray⟩))))])
       (none))
     (none))
   (none) := (ev_eq _ _).trans (by kernel_rfl)
-- "(*bodega/memnode.Node).Image"
theorem ev24 (a0_0_0n : Bool) (a0_0_0 : List (List AV)) (a0_0_1 : Bool) : ev 24 [(.ep [(.lst a0_0_0n 1 a0_0_0), (.v (.bool a0_0_1))] 0)] =
  (ev 22 [(.ep [(.lst a0_0_0n 1 a0_0_0), (.v (.bool a0_0_1))] 0)]).bind fun r0 =>
  cond (isI .i64 (cellAt r0 0))
   ((ev 22 [(.ep [(.lst a0_0_0n 1 a0_0_0), (.v (.bool a0_0_1))] 0)]).bind fun r3 =>
    cond (isI .i64 (cellAt r3 0))
     (cond a0_0_1
       ((lp 24 0 0 ⟨[(3, (.sl false 0 0 none)), (26, (.lst a0_0_0n 1 a0_0_0)), (27, (.v (.int .i64 (((List.length a0_0_0) : Nat) : Int)))), (28, (.v (.int .i64 0)))], [⟨1, 5, 1, false, [[(.v (.int .u8 77))], [(.v (.int .u8 69))], [(.v (.int .u8 77))], [(.v (.int .u8 49))], [(.v (.int .u8 (IntKind.wrap .u8 (avInt (cellAt r0 0)))))], [(.v (.int .u8 (IntKind.wrap .u8 (Int.fdiv (avInt (cellAt r3 0)) 256))))], [(.v (.int .u8 0))]]⟩]⟩).bind fun r10 =>
        cond (isEx 0 r10)
         (cond (likeStG ⟨[(3, (.sl false 0 0 none))], [⟨1, 5, 1, false, [[(.v (.int .u8 77))], [(.v (.int .u8 69))], [(.v (.int .u8 77))], [(.v (.int .u8 49))], [(.v (.int .u8 (IntKind.wrap .u8 (avInt (cellAt r0 0)))))], [(.v (.int .u8 (IntKind.wrap .u8 (Int.fdiv (avInt (cellAt r3 0)) 256))))], [(.v (.int .u8 0))]]⟩]⟩ r10.st)
           ((ev 35 [(.lst (avNil (frAt r10.st.fr 0).2) 1 (blAt r10.st.bl 0).xs)]).bind fun r13 =>
            cond (isI .u64 (cellAt r13 0))
             ((ev 34 [(.ow (avNil (frAt r10.st.fr 0).2) 5 1 (blAt r10.st.bl 0).xs), (.v (.int .u64 (avInt (cellAt r13 0))))]).bind fun r15 =>
              cond (isOw 5 1 (cellAt r15 0))
               (some [(.ow (avNil (cellAt r15 0)) 5 1 (avXs (cellAt r15 0)))])
               (none))
             (none))
           (none))
         (cond (isRt r10)
           (some r10.outs)
           (none)))
       ((lp 24 0 0 ⟨[(3, (.sl false 0 0 none)), (26, (.lst a0_0_0n 1 a0_0_0)), (27, (.v (.int .i64 (((List.length a0_0_0) : Nat) : Int)))), (28, (.v (.int .i64 0)))], [⟨1, 5, 1, false, [[(.v (.int .u8 77))], [(.v (.int .u8 69))], [(.v (.int .u8 77))], [(.v (.int .u8 49))], [(.v (.int .u8 (IntKind.wrap .u8 (avInt (cellAt r0 0)))))], [(.v (.int .u8 (IntKind.wrap .u8 (Int.fdiv (avInt (cellAt r3 0)) 256))))], [(.v (.int .u8 1))]]⟩]⟩).bind fun r22 =>
        cond (isEx 0 r22)
         (cond (likeStG ⟨[(3, (.sl false 0 0 none))], [⟨1, 5, 1, false, [[(.v (.int .u8 77))], [(.v (.int .u8 69))], [(.v (.int .u8 77))], [(.v (.int .u8 49))], [(.v (.int .u8 (IntKind.wrap .u8 (avInt (cellAt r0 0)))))], [(.v (.int .u8 (IntKind.wrap .u8 (Int.fdiv (avInt (cellAt r3 0)) 256))))], [(.v (.int .u8 1))]]⟩]⟩ r22.st)
           ((ev 35 [(.lst (avNil (frAt r22.st.fr 0).2) 1 (blAt r22.st.bl 0).xs)]).bind fun r25 =>
            cond (isI .u64 (cellAt r25 0))
             ((ev 34 [(.ow (avNil (frAt r22.st.fr 0).2) 5 1 (blAt r22.st.bl 0).xs), (.v (.int .u64 (avInt (cellAt r25 0))))]).bind fun r27 =>
              cond (isOw 5 1 (cellAt r27 0))
               (some [(.ow (avNil (cellAt r27 0)) 5 1 (avXs (cellAt r27 0)))])
               (none))
             (none))
           (none))
         (cond (isRt r22)
           (some r22.outs)
           (none))))
     (none))
   (none) := (ev_eq _ _).trans (by kernel_rfl)
theorem lp24_0 (x3n : Bool) (x26n : Bool) (x26 : List (List AV)) (x27 : Int) (x28 : Int) (b0 : List (List AV)) : lp 24 0 0 ⟨[(3, (.sl x3n 0 0 none)), (26, (.lst x26n 1 x26)), (27, (.v (.int .i64 x27))), (28, (.v (.int .i64 x28)))], [⟨1, 5, 1, false, b0⟩]⟩ =
  cond (ltI x28 x27)
   (cond ((leI 0 x28) && (ltI x28 (((List.length x26) : Nat) : Int)))
     (cond (isI .u64 (cellAt (lget x26 (Int.toNat x28)) 0))
       ((ev 34 [(.ow x3n 5 1 b0), (.v (.int .u64 (avInt (cellAt (lget x26 (Int.toNat x28)) 0))))]).bind fun r32 =>
        cond (isOw 5 1 (cellAt r32 0))
         (lp 24 0 0 ⟨[(3, (.sl (avNil (cellAt r32 0)) 0 0 none)), (26, (.lst x26n 1 x26)), (27, (.v (.int .i64 x27))), (28, (.v (.int .i64 (IntKind.wrap .i64 (x28 + 1)))))], [⟨1, 5, 1, false, (avXs (cellAt r32 0))⟩]⟩)
         (none))
       (none))
     (none))
   (some ⟨(some 0), ⟨[(3, (.sl x3n 0 0 none))], [⟨1, 5, 1, false, b0⟩]⟩, []⟩) := (lp_eq _ _ _ _).trans (by kernel_rfl)
-- "(*bodega/memnode.Node).Copy"
theorem ev25 (a0_0_0n : Bool) (a0_0_0 : List (List AV)) (a0_0_1 : Bool) : ev 25 [(.ep [(.lst a0_0_0n 1 a0_0_0), (.v (.bool a0_0_1))] 0)] =
  (ev 29 [(.lst a0_0_0n 1 a0_0_0)]).bind fun r2 =>
  cond (isOw 31 1 (cellAt r2 0))
   (some [(.ob 60 [(.ow (avNil (cellAt r2 0)) 31 1 (avXs (cellAt r2 0))), (.v (.bool a0_0_1))])])
   (none) := (ev_eq _ _).trans (by kernel_rfl)
-- "(*bodega/memnode.Node).check"
theorem ev28 (a0_0_0n : Bool) (a0_0_0 : List (List AV)) (a0_0_1 : Bool) (a1_0 : Int) (a2_0 : Int) : ev 28 [(.ep [(.lst a0_0_0n 1 a0_0_0), (.v (.bool a0_0_1))] 0), (.v (.int .i64 a1_0)), (.v (.int .i64 a2_0))] =
  cond (ltI a2_0 1)
   (some [(.v (.int .i64 2))])
   (cond (ltI a1_0 0)
     (some [(.v (.int .i64 2))])
     (cond (leI (((List.length a0_0_0) : Nat) : Int) a1_0)
       (some [(.v (.int .i64 2))])
       (cond (ltI (IntKind.wrap .i64 ((((List.length a0_0_0) : Nat) : Int) - a1_0)) a2_0)
         (some [(.v (.int .i64 2))])
         (cond a0_0_1
           (some [(.v (.int .i64 4))])
           (some [(.v (.int .i64 0))]))))) := (ev_eq _ _).trans (by kernel_rfl)
-- "slices.Clone[[]uint64,uint64]"
theorem ev29 (a0_0n : Bool) (a0_0 : List (List AV)) : ev 29 [(.lst a0_0n 1 a0_0)] =
  cond a0_0n
   (some [(.ow true 31 1 [])])
   (cond (leN ((0 + (List.length a0_0)) * 8) 140737488355328)
     (some [(.ow ((List.isEmpty a0_0) && false) 31 1 ([] ++ a0_0))])
     (none)) := (ev_eq _ _).trans (by kernel_rfl)
-- "(*bodega/bodegaref6.Node).Access"
theorem ev30 (a0_0_0n : Bool) (a0_0_0 : List (List AV)) (a0_0_1 : Bool) (a1_0 : Int) (a2_0 : Int) : ev 30 [(.ep [(.lst a0_0_0n 1 a0_0_0), (.v (.bool a0_0_1))] 0), (.v (.int .i64 a1_0)), (.v (.int .i64 a2_0))] =
  cond (ltI a2_0 1)
   (some [(.v (.int .i64 2))])
   (cond (ltI a1_0 0)
     (some [(.v (.int .i64 2))])
     (cond (leI (((List.length a0_0_0) : Nat) : Int) a1_0)
       (some [(.v (.int .i64 2))])
       (cond (ltI (IntKind.wrap .i64 ((((List.length a0_0_0) : Nat) : Int) - a1_0)) a2_0)
         (some [(.v (.int .i64 2))])
         (cond (!a0_0_1)
           (some [(.v (.int .i64 4))])
           (some [(.v (.int .i64 0))]))))) := (ev_eq _ _).trans (by kernel_rfl)
-- "bodega/bodegalaw3.swap"
theorem ev31 (a0_0_0n : Bool) (a0_0_0 : List (List AV)) (a0_0_1 : Bool) (a1_0_0n : Bool) (a1_0_0 : List (List AV)) (a1_0_1 : Bool) (a2_0 : Int) (a2_1 : Int) (a2_2 : Int) (a2_3 : Int) (a2_4 : Int) (a3_0 : Int) : ev 31 [(.ob 60 [(.ow a0_0_0n 31 1 a0_0_0), (.v (.bool a0_0_1))]), (.ob 36 [(.ow a1_0_0n 31 1 a1_0_0), (.v (.bool a1_0_1))]), (.agg [(.v (.int .i64 a2_0)), (.v (.int .i64 a2_1)), (.v (.int .i64 a2_2)), (.v (.int .u64 a2_3)), (.v (.int .u64 a2_4))]), (.v (.int .i64 a3_0))] =
  (ev 30 [(.ep [(.lst a1_0_0n 1 a1_0_0), (.v (.bool a1_0_1))] 0), (.v (.int .i64 a3_0)), (.v (.int .i64 1))]).bind fun r0 =>
  cond (isI .i64 (cellAt r0 0))
   (cond ((avInt (cellAt r0 0)) == 0)
     (cond ((leI 0 a3_0) && (ltI a3_0 ((((List.length a1_0_0) - 0) : Nat) : Int)))
       (cond ((ltN (0 + (Int.toNat a3_0)) (List.length a1_0_0)) && (isI .u64 (cellAt (lget a1_0_0 (0 + (Int.toNat a3_0))) 0)))
         (cond ((Int.tmod a2_3 2) == 0)
           ((ev 8 [(.v (.int .i64 a2_0)), (.v (.int .i64 10))]).bind fun r5 =>
            cond (isI .i64 (cellAt r5 0))
             (cond ((avInt (cellAt r5 0)) == 4)
               ((ev 17 [(.ob 60 [(.ow a0_0_0n 31 1 a0_0_0), (.v (.bool a0_0_1))]), (.v (.int .i64 a3_0)), (.v (.int .u64 (avInt (cellAt (lget a1_0_0 (0 + (Int.toNat a3_0))) 0)))), (.v (.int .u64 a2_3))]).bind fun r7 =>
                cond (isI .u64 (cellAt r7 0))
                 (cond (isI .i64 (cellAt r7 1))
                   (cond (((isOb 60 (cellAt r7 2)) && (Nat.beq (List.length (obCells (cellAt r7 2))) 2)) && (likeG [(.ow a0_0_0n 31 1 a0_0_0), (.v (.bool a0_0_1))] 0 (obCells (cellAt r7 2))))
                     (cond ((avInt (cellAt r0 0)) == 0)
                       (cond ((avInt (cellAt (lget a1_0_0 (0 + (Int.toNat a3_0))) 0)) == (avInt (cellAt (lget a1_0_0 (0 + (Int.toNat a3_0))) 0)))
                         (cond ((leI 0 a3_0) && (ltI a3_0 ((((List.length a1_0_0) - 0) : Nat) : Int)))
                           (cond (ltN (0 + (Int.toNat a3_0)) (List.length a1_0_0))
                             (cond ((avInt (cellAt r7 1)) == (avInt (cellAt r0 0)))
                               (some [(.v (.bool ((avInt (cellAt r7 0)) == (avInt (cellAt (lget a1_0_0 (0 + (Int.toNat a3_0))) 0))))), (.ob 60 [(.ow (avNil (cellAt (obCells (cellAt r7 2)) 0)) 31 1 (avXs (cellAt (obCells (cellAt r7 2)) 0))), (.v (.bool (avBool (cellAt (obCells (cellAt r7 2)) 1))))]), (.ob 36 [(.ow a1_0_0n 31 1 (List.set a1_0_0 (0 + (Int.toNat a3_0)) [(.v (.int .u64 a2_3))])), (.v (.bool a1_0_1))])])
                               (some [(.v (.bool false)), (.ob 60 [(.ow (avNil (cellAt (obCells (cellAt r7 2)) 0)) 31 1 (avXs (cellAt (obCells (cellAt r7 2)) 0))), (.v (.bool (avBool (cellAt (obCells (cellAt r7 2)) 1))))]), (.ob 36 [(.ow a1_0_0n 31 1 (List.set a1_0_0 (0 + (Int.toNat a3_0)) [(.v (.int .u64 a2_3))])), (.v (.bool a1_0_1))])]))
                             (none))
                           (none))
                         (cond ((avInt (cellAt r7 1)) == (avInt (cellAt r0 0)))
                           (some [(.v (.bool ((avInt (cellAt r7 0)) == (avInt (cellAt (lget a1_0_0 (0 + (Int.toNat a3_0))) 0))))), (.ob 60 [(.ow (avNil (cellAt (obCells (cellAt r7 2)) 0)) 31 1 (avXs (cellAt (obCells (cellAt r7 2)) 0))), (.v (.bool (avBool (cellAt (obCells (cellAt r7 2)) 1))))]), (.ob 36 [(.ow a1_0_0n 31 1 a1_0_0), (.v (.bool a1_0_1))])])
                           (some [(.v (.bool false)), (.ob 60 [(.ow (avNil (cellAt (obCells (cellAt r7 2)) 0)) 31 1 (avXs (cellAt (obCells (cellAt r7 2)) 0))), (.v (.bool (avBool (cellAt (obCells (cellAt r7 2)) 1))))]), (.ob 36 [(.ow a1_0_0n 31 1 a1_0_0), (.v (.bool a1_0_1))])])))
                       (cond ((avInt (cellAt r7 1)) == (avInt (cellAt r0 0)))
                         (some [(.v (.bool ((avInt (cellAt r7 0)) == (avInt (cellAt (lget a1_0_0 (0 + (Int.toNat a3_0))) 0))))), (.ob 60 [(.ow (avNil (cellAt (obCells (cellAt r7 2)) 0)) 31 1 (avXs (cellAt (obCells (cellAt r7 2)) 0))), (.v (.bool (avBool (cellAt (obCells (cellAt r7 2)) 1))))]), (.ob 36 [(.ow a1_0_0n 31 1 a1_0_0), (.v (.bool a1_0_1))])])
                         (some [(.v (.bool false)), (.ob 60 [(.ow (avNil (cellAt (obCells (cellAt r7 2)) 0)) 31 1 (avXs (cellAt (obCells (cellAt r7 2)) 0))), (.v (.bool (avBool (cellAt (obCells (cellAt r7 2)) 1))))]), (.ob 36 [(.ow a1_0_0n 31 1 a1_0_0), (.v (.bool a1_0_1))])])))
                     (none))
                   (none))
                 (none))
               ((ev 18 [(.ob 60 [(.ow a0_0_0n 31 1 a0_0_0), (.v (.bool a0_0_1))]), (.v (.int .i64 a3_0)), (.v (.int .u64 a2_4))]).bind fun r24 =>
                cond (isI .u64 (cellAt r24 0))
                 (cond (isI .i64 (cellAt r24 1))
                   (cond (((isOb 60 (cellAt r24 2)) && (Nat.beq (List.length (obCells (cellAt r24 2))) 2)) && (likeG [(.ow a0_0_0n 31 1 a0_0_0), (.v (.bool a0_0_1))] 0 (obCells (cellAt r24 2))))
                     (cond ((avInt (cellAt r0 0)) == 0)
                       (cond ((leI 0 a3_0) && (ltI a3_0 ((((List.length a1_0_0) - 0) : Nat) : Int)))
                         (cond (ltN (0 + (Int.toNat a3_0)) (List.length a1_0_0))
                           (cond ((avInt (cellAt r24 1)) == (avInt (cellAt r0 0)))
                             (some [(.v (.bool ((avInt (cellAt r24 0)) == (avInt (cellAt (lget a1_0_0 (0 + (Int.toNat a3_0))) 0))))), (.ob 60 [(.ow (avNil (cellAt (obCells (cellAt r24 2)) 0)) 31 1 (avXs (cellAt (obCells (cellAt r24 2)) 0))), (.v (.bool (avBool (cellAt (obCells (cellAt r24 2)) 1))))]), (.ob 36 [(.ow a1_0_0n 31 1 (List.set a1_0_0 (0 + (Int.toNat a3_0)) [(.v (.int .u64 (IntKind.wrap .u64 ((avInt (cellAt (lget a1_0_0 (0 + (Int.toNat a3_0))) 0)) + a2_4))))])), (.v (.bool a1_0_1))])])
                             (some [(.v (.bool false)), (.ob 60 [(.ow (avNil (cellAt (obCells (cellAt r24 2)) 0)) 31 1 (avXs (cellAt (obCells (cellAt r24 2)) 0))), (.v (.bool (avBool (cellAt (obCells (cellAt r24 2)) 1))))]), (.ob 36 [(.ow a1_0_0n 31 1 (List.set a1_0_0 (0 + (Int.toNat a3_0)) [(.v (.int .u64 (IntKind.wrap .u64 ((avInt (cellAt (lget a1_0_0 (0 + (Int.toNat a3_0))) 0)) + a2_4))))])), (.v (.bool a1_0_1))])]))
                           (none))
                         (none))
                       (cond ((avInt (cellAt r24 1)) == (avInt (cellAt r0 0)))
                         (some [(.v (.bool ((avInt (cellAt r24 0)) == (avInt (cellAt (lget a1_0_0 (0 + (Int.toNat a3_0))) 0))))), (.ob 60 [(.ow (avNil (cellAt (obCells (cellAt r24 2)) 0)) 31 1 (avXs (cellAt (obCells (cellAt r24 2)) 0))), (.v (.bool (avBool (cellAt (obCells (cellAt r24 2)) 1))))]), (.ob 36 [(.ow a1_0_0n 31 1 a1_0_0), (.v (.bool a1_0_1))])])
                         (some [(.v (.bool false)), (.ob 60 [(.ow (avNil (cellAt (obCells (cellAt r24 2)) 0)) 31 1 (avXs (cellAt (obCells (cellAt r24 2)) 0))), (.v (.bool (avBool (cellAt (obCells (cellAt r24 2)) 1))))]), (.ob 36 [(.ow a1_0_0n 31 1 a1_0_0), (.v (.bool a1_0_1))])])))
                     (none))
                   (none))
                 (none)))
             (none))
           ((ev 8 [(.v (.int .i64 a2_0)), (.v (.int .i64 10))]).bind fun r38 =>
            cond (isI .i64 (cellAt r38 0))
             (cond ((avInt (cellAt r38 0)) == 4)
               ((ev 17 [(.ob 60 [(.ow a0_0_0n 31 1 a0_0_0), (.v (.bool a0_0_1))]), (.v (.int .i64 a3_0)), (.v (.int .u64 a2_4)), (.v (.int .u64 a2_3))]).bind fun r40 =>
                cond (isI .u64 (cellAt r40 0))
                 (cond (isI .i64 (cellAt r40 1))
                   (cond (((isOb 60 (cellAt r40 2)) && (Nat.beq (List.length (obCells (cellAt r40 2))) 2)) && (likeG [(.ow a0_0_0n 31 1 a0_0_0), (.v (.bool a0_0_1))] 0 (obCells (cellAt r40 2))))
                     (cond ((avInt (cellAt r0 0)) == 0)
                       (cond ((avInt (cellAt (lget a1_0_0 (0 + (Int.toNat a3_0))) 0)) == a2_4)
                         (cond ((leI 0 a3_0) && (ltI a3_0 ((((List.length a1_0_0) - 0) : Nat) : Int)))
                           (cond (ltN (0 + (Int.toNat a3_0)) (List.length a1_0_0))
                             (cond ((avInt (cellAt r40 1)) == (avInt (cellAt r0 0)))
                               (some [(.v (.bool ((avInt (cellAt r40 0)) == (avInt (cellAt (lget a1_0_0 (0 + (Int.toNat a3_0))) 0))))), (.ob 60 [(.ow (avNil (cellAt (obCells (cellAt r40 2)) 0)) 31 1 (avXs (cellAt (obCells (cellAt r40 2)) 0))), (.v (.bool (avBool (cellAt (obCells (cellAt r40 2)) 1))))]), (.ob 36 [(.ow a1_0_0n 31 1 (List.set a1_0_0 (0 + (Int.toNat a3_0)) [(.v (.int .u64 a2_3))])), (.v (.bool a1_0_1))])])
                               (some [(.v (.bool false)), (.ob 60 [(.ow (avNil (cellAt (obCells (cellAt r40 2)) 0)) 31 1 (avXs (cellAt (obCells (cellAt r40 2)) 0))), (.v (.bool (avBool (cellAt (obCells (cellAt r40 2)) 1))))]), (.ob 36 [(.ow a1_0_0n 31 1 (List.set a1_0_0 (0 + (Int.toNat a3_0)) [(.v (.int .u64 a2_3))])), (.v (.bool a1_0_1))])]))
                             (none))
                           (none))
                         (cond ((avInt (cellAt r40 1)) == (avInt (cellAt r0 0)))
                           (some [(.v (.bool ((avInt (cellAt r40 0)) == (avInt (cellAt (lget a1_0_0 (0 + (Int.toNat a3_0))) 0))))), (.ob 60 [(.ow (avNil (cellAt (obCells (cellAt r40 2)) 0)) 31 1 (avXs (cellAt (obCells (cellAt r40 2)) 0))), (.v (.bool (avBool (cellAt (obCells (cellAt r40 2)) 1))))]), (.ob 36 [(.ow a1_0_0n 31 1 a1_0_0), (.v (.bool a1_0_1))])])
                           (some [(.v (.bool false)), (.ob 60 [(.ow (avNil (cellAt (obCells (cellAt r40 2)) 0)) 31 1 (avXs (cellAt (obCells (cellAt r40 2)) 0))), (.v (.bool (avBool (cellAt (obCells (cellAt r40 2)) 1))))]), (.ob 36 [(.ow a1_0_0n 31 1 a1_0_0), (.v (.bool a1_0_1))])])))
                       (cond ((avInt (cellAt r40 1)) == (avInt (cellAt r0 0)))
                         (some [(.v (.bool ((avInt (cellAt r40 0)) == (avInt (cellAt (lget a1_0_0 (0 + (Int.toNat a3_0))) 0))))), (.ob 60 [(.ow (avNil (cellAt (obCells (cellAt r40 2)) 0)) 31 1 (avXs (cellAt (obCells (cellAt r40 2)) 0))), (.v (.bool (avBool (cellAt (obCells (cellAt r40 2)) 1))))]), (.ob 36 [(.ow a1_0_0n 31 1 a1_0_0), (.v (.bool a1_0_1))])])
                         (some [(.v (.bool false)), (.ob 60 [(.ow (avNil (cellAt (obCells (cellAt r40 2)) 0)) 31 1 (avXs (cellAt (obCells (cellAt r40 2)) 0))), (.v (.bool (avBool (cellAt (obCells (cellAt r40 2)) 1))))]), (.ob 36 [(.ow a1_0_0n 31 1 a1_0_0), (.v (.bool a1_0_1))])])))
                     (none))
                   (none))
                 (none))
               ((ev 18 [(.ob 60 [(.ow a0_0_0n 31 1 a0_0_0), (.v (.bool a0_0_1))]), (.v (.int .i64 a3_0)), (.v (.int .u64 a2_4))]).bind fun r57 =>
                cond (isI .u64 (cellAt r57 0))
                 (cond (isI .i64 (cellAt r57 1))
                   (cond (((isOb 60 (cellAt r57 2)) && (Nat.beq (List.length (obCells (cellAt r57 2))) 2)) && (likeG [(.ow a0_0_0n 31 1 a0_0_0), (.v (.bool a0_0_1))] 0 (obCells (cellAt r57 2))))
                     (cond ((avInt (cellAt r0 0)) == 0)
                       (cond ((leI 0 a3_0) && (ltI a3_0 ((((List.length a1_0_0) - 0) : Nat) : Int)))
                         (cond (ltN (0 + (Int.toNat a3_0)) (List.length a1_0_0))
                           (cond ((avInt (cellAt r57 1)) == (avInt (cellAt r0 0)))
                             (some [(.v (.bool ((avInt (cellAt r57 0)) == (avInt (cellAt (lget a1_0_0 (0 + (Int.toNat a3_0))) 0))))), (.ob 60 [(.ow (avNil (cellAt (obCells (cellAt r57 2)) 0)) 31 1 (avXs (cellAt (obCells (cellAt r57 2)) 0))), (.v (.bool (avBool (cellAt (obCells (cellAt r57 2)) 1))))]), (.ob 36 [(.ow a1_0_0n 31 1 (List.set a1_0_0 (0 + (Int.toNat a3_0)) [(.v (.int .u64 (IntKind.wrap .u64 ((avInt (cellAt (lget a1_0_0 (0 + (Int.toNat a3_0))) 0)) + a2_4))))])), (.v (.bool a1_0_1))])])
                             (some [(.v (.bool false)), (.ob 60 [(.ow (avNil (cellAt (obCells (cellAt r57 2)) 0)) 31 1 (avXs (cellAt (obCells (cellAt r57 2)) 0))), (.v (.bool (avBool (cellAt (obCells (cellAt r57 2)) 1))))]), (.ob 36 [(.ow a1_0_0n 31 1 (List.set a1_0_0 (0 + (Int.toNat a3_0)) [(.v (.int .u64 (IntKind.wrap .u64 ((avInt (cellAt (lget a1_0_0 (0 + (Int.toNat a3_0))) 0)) + a2_4))))])), (.v (.bool a1_0_1))])]))
                           (none))
                         (none))
                       (cond ((avInt (cellAt r57 1)) == (avInt (cellAt r0 0)))
                         (some [(.v (.bool ((avInt (cellAt r57 0)) == (avInt (cellAt (lget a1_0_0 (0 + (Int.toNat a3_0))) 0))))), (.ob 60 [(.ow (avNil (cellAt (obCells (cellAt r57 2)) 0)) 31 1 (avXs (cellAt (obCells (cellAt r57 2)) 0))), (.v (.bool (avBool (cellAt (obCells (cellAt r57 2)) 1))))]), (.ob 36 [(.ow a1_0_0n 31 1 a1_0_0), (.v (.bool a1_0_1))])])
                         (some [(.v (.bool false)), (.ob 60 [(.ow (avNil (cellAt (obCells (cellAt r57 2)) 0)) 31 1 (avXs (cellAt (obCells (cellAt r57 2)) 0))), (.v (.bool (avBool (cellAt (obCells (cellAt r57 2)) 1))))]), (.ob 36 [(.ow a1_0_0n 31 1 a1_0_0), (.v (.bool a1_0_1))])])))
                     (none))
                   (none))
                 (none)))
             (none)))
         (none))
       (none))
     ((ev 8 [(.v (.int .i64 a2_0)), (.v (.int .i64 10))]).bind fun r71 =>
      cond (isI .i64 (cellAt r71 0))
       (cond ((avInt (cellAt r71 0)) == 4)
         ((ev 17 [(.ob 60 [(.ow a0_0_0n 31 1 a0_0_0), (.v (.bool a0_0_1))]), (.v (.int .i64 a3_0)), (.v (.int .u64 a2_4)), (.v (.int .u64 a2_3))]).bind fun r73 =>
          cond (isI .u64 (cellAt r73 0))
           (cond (isI .i64 (cellAt r73 1))
             (cond (((isOb 60 (cellAt r73 2)) && (Nat.beq (List.length (obCells (cellAt r73 2))) 2)) && (likeG [(.ow a0_0_0n 31 1 a0_0_0), (.v (.bool a0_0_1))] 0 (obCells (cellAt r73 2))))
               (cond ((avInt (cellAt r0 0)) == 0)
                 (cond (0 == a2_4)
                   (cond ((leI 0 a3_0) && (ltI a3_0 ((((List.length a1_0_0) - 0) : Nat) : Int)))
                     (cond (ltN (0 + (Int.toNat a3_0)) (List.length a1_0_0))
                       (cond ((avInt (cellAt r73 1)) == (avInt (cellAt r0 0)))
                         (some [(.v (.bool ((avInt (cellAt r73 0)) == 0))), (.ob 60 [(.ow (avNil (cellAt (obCells (cellAt r73 2)) 0)) 31 1 (avXs (cellAt (obCells (cellAt r73 2)) 0))), (.v (.bool (avBool (cellAt (obCells (cellAt r73 2)) 1))))]), (.ob 36 [(.ow a1_0_0n 31 1 (List.set a1_0_0 (0 + (Int.toNat a3_0)) [(.v (.int .u64 a2_3))])), (.v (.bool a1_0_1))])])
                         (some [(.v (.bool false)), (.ob 60 [(.ow (avNil (cellAt (obCells (cellAt r73 2)) 0)) 31 1 (avXs (cellAt (obCells (cellAt r73 2)) 0))), (.v (.bool (avBool (cellAt (obCells (cellAt r73 2)) 1))))]), (.ob 36 [(.ow a1_0_0n 31 1 (List.set a1_0_0 (0 + (Int.toNat a3_0)) [(.v (.int .u64 a2_3))])), (.v (.bool a1_0_1))])]))
                       (none))
                     (none))
                   (cond ((avInt (cellAt r73 1)) == (avInt (cellAt r0 0)))
                     (some [(.v (.bool ((avInt (cellAt r73 0)) == 0))), (.ob 60 [(.ow (avNil (cellAt (obCells (cellAt r73 2)) 0)) 31 1 (avXs (cellAt (obCells (cellAt r73 2)) 0))), (.v (.bool (avBool (cellAt (obCells (cellAt r73 2)) 1))))]), (.ob 36 [(.ow a1_0_0n 31 1 a1_0_0), (.v (.bool a1_0_1))])])
                     (some [(.v (.bool false)), (.ob 60 [(.ow (avNil (cellAt (obCells (cellAt r73 2)) 0)) 31 1 (avXs (cellAt (obCells (cellAt r73 2)) 0))), (.v (.bool (avBool (cellAt (obCells (cellAt r73 2)) 1))))]), (.ob 36 [(.ow a1_0_0n 31 1 a1_0_0), (.v (.bool a1_0_1))])])))
                 (cond ((avInt (cellAt r73 1)) == (avInt (cellAt r0 0)))
                   (some [(.v (.bool ((avInt (cellAt r73 0)) == 0))), (.ob 60 [(.ow (avNil (cellAt (obCells (cellAt r73 2)) 0)) 31 1 (avXs (cellAt (obCells (cellAt r73 2)) 0))), (.v (.bool (avBool (cellAt (obCells (cellAt r73 2)) 1))))]), (.ob 36 [(.ow a1_0_0n 31 1 a1_0_0), (.v (.bool a1_0_1))])])
                   (some [(.v (.bool false)), (.ob 60 [(.ow (avNil (cellAt (obCells (cellAt r73 2)) 0)) 31 1 (avXs (cellAt (obCells (cellAt r73 2)) 0))), (.v (.bool (avBool (cellAt (obCells (cellAt r73 2)) 1))))]), (.ob 36 [(.ow a1_0_0n 31 1 a1_0_0), (.v (.bool a1_0_1))])])))
               (none))
             (none))
           (none))
         ((ev 18 [(.ob 60 [(.ow a0_0_0n 31 1 a0_0_0), (.v (.bool a0_0_1))]), (.v (.int .i64 a3_0)), (.v (.int .u64 a2_4))]).bind fun r90 =>
          cond (isI .u64 (cellAt r90 0))
           (cond (isI .i64 (cellAt r90 1))
             (cond (((isOb 60 (cellAt r90 2)) && (Nat.beq (List.length (obCells (cellAt r90 2))) 2)) && (likeG [(.ow a0_0_0n 31 1 a0_0_0), (.v (.bool a0_0_1))] 0 (obCells (cellAt r90 2))))
               (cond ((avInt (cellAt r0 0)) == 0)
                 (cond ((leI 0 a3_0) && (ltI a3_0 ((((List.length a1_0_0) - 0) : Nat) : Int)))
                   (cond (ltN (0 + (Int.toNat a3_0)) (List.length a1_0_0))
                     (cond ((avInt (cellAt r90 1)) == (avInt (cellAt r0 0)))
                       (some [(.v (.bool ((avInt (cellAt r90 0)) == 0))), (.ob 60 [(.ow (avNil (cellAt (obCells (cellAt r90 2)) 0)) 31 1 (avXs (cellAt (obCells (cellAt r90 2)) 0))), (.v (.bool (avBool (cellAt (obCells (cellAt r90 2)) 1))))]), (.ob 36 [(.ow a1_0_0n 31 1 (List.set a1_0_0 (0 + (Int.toNat a3_0)) [(.v (.int .u64 (IntKind.wrap .u64 (0 + a2_4))))])), (.v (.bool a1_0_1))])])
                       (some [(.v (.bool false)), (.ob 60 [(.ow (avNil (cellAt (obCells (cellAt r90 2)) 0)) 31 1 (avXs (cellAt (obCells (cellAt r90 2)) 0))), (.v (.bool (avBool (cellAt (obCells (cellAt r90 2)) 1))))]), (.ob 36 [(.ow a1_0_0n 31 1 (List.set a1_0_0 (0 + (Int.toNat a3_0)) [(.v (.int .u64 (IntKind.wrap .u64 (0 + a2_4))))])), (.v (.bool a1_0_1))])]))
                     (none))
                   (none))
                 (cond ((avInt (cellAt r90 1)) == (avInt (cellAt r0 0)))
                   (some [(.v (.bool ((avInt (cellAt r90 0)) == 0))), (.ob 60 [(.ow (avNil (cellAt (obCells (cellAt r90 2)) 0)) 31 1 (avXs (cellAt (obCells (cellAt r90 2)) 0))), (.v (.bool (avBool (cellAt (obCells (cellAt r90 2)) 1))))]), (.ob 36 [(.ow a1_0_0n 31 1 a1_0_0), (.v (.bool a1_0_1))])])
                   (some [(.v (.bool false)), (.ob 60 [(.ow (avNil (cellAt (obCells (cellAt r90 2)) 0)) 31 1 (avXs (cellAt (obCells (cellAt r90 2)) 0))), (.v (.bool (avBool (cellAt (obCells (cellAt r90 2)) 1))))]), (.ob 36 [(.ow a1_0_0n 31 1 a1_0_0), (.v (.bool a1_0_1))])])))
               (none))
             (none))
           (none)))
       (none)))
   (none) := (ev_eq _ _).trans (by kernel_rfl)
-- "(*bodega/bodegaref6.Node).Back"
theorem ev32 (a0_0_0n : Bool) (a0_0_0 : List (List AV)) (a0_0_1 : Bool) : ev 32 [(.ob 36 [(.ow a0_0_0n 31 1 a0_0_0), (.v (.bool a0_0_1))])] =
  cond a0_0_1
   (some [(.v (.bool false)), (.ob 36 [(.ow a0_0_0n 31 1 a0_0_0), (.v (.bool a0_0_1))])])
   ((ev 39 [(.ep [(.lst a0_0_0n 1 a0_0_0), (.v (.bool a0_0_1))] 0)]).bind fun r0 =>
    cond (isI .u64 (cellAt r0 0))
     (cond (leI 31 (avInt (cellAt r0 0)))
       (some [(.v (.bool false)), (.ob 36 [(.ow a0_0_0n 31 1 a0_0_0), (.v (.bool a0_0_1))])])
       (cond (true && (ltI 1 ((((List.length a0_0_0) - 0) : Nat) : Int)))
         (cond ((ltN 1 (List.length a0_0_0)) && (isI .u64 (cellAt (lget a0_0_0 1) 0)))
           (cond (true && (ltI 1 ((((List.length a0_0_0) - 0) : Nat) : Int)))
             (cond (ltN 1 (List.length a0_0_0))
               (some [(.v (.bool true)), (.ob 36 [(.ow a0_0_0n 31 1 (List.set a0_0_0 1 [(.v (.int .u64 (IntKind.wrap .u64 ((avInt (cellAt (lget a0_0_0 1) 0)) + 1))))])), (.v (.bool true))])])
               (none))
             (none))
           (none))
         (none)))
     (none)) := (ev_eq _ _).trans (by kernel_rfl)
-- "(*bodega/bodegaref6.Node).Image"
theorem ev33 (a0_0_0n : Bool) (a0_0_0 : List (List AV)) (a0_0_1 : Bool) : ev 33 [(.ep [(.lst a0_0_0n 1 a0_0_0), (.v (.bool a0_0_1))] 0)] =
  cond a0_0_1
   ((lp 33 0 0 ⟨[(0, (.ep [(.lst a0_0_0n 1 a0_0_0), (.v (.bool a0_0_1))] 0)), (4, (.sl false 0 0 none)), (5, (.v (.int .i64 0)))], [⟨1, 5, 1, false, [[(.v (.int .u8 77))], [(.v (.int .u8 69))], [(.v (.int .u8 77))], [(.v (.int .u8 49))], [(.v (.int .u8 (IntKind.wrap .u8 (IntKind.wrap .i64 (Int.tdiv (((List.length a0_0_0) : Nat) : Int) 8)))))], [(.v (.int .u8 (IntKind.wrap .u8 (Int.fdiv (IntKind.wrap .i64 (Int.tdiv (((List.length a0_0_0) : Nat) : Int) 8)) 256))))], [(.v (.int .u8 1))]]⟩]⟩).bind fun r7 =>
    cond (isEx 0 r7)
     (cond (likeStG ⟨[(4, (.sl false 0 0 none))], [⟨1, 5, 1, false, [[(.v (.int .u8 77))], [(.v (.int .u8 69))], [(.v (.int .u8 77))], [(.v (.int .u8 49))], [(.v (.int .u8 (IntKind.wrap .u8 (IntKind.wrap .i64 (Int.tdiv (((List.length a0_0_0) : Nat) : Int) 8)))))], [(.v (.int .u8 (IntKind.wrap .u8 (Int.fdiv (IntKind.wrap .i64 (Int.tdiv (((List.length a0_0_0) : Nat) : Int) 8)) 256))))], [(.v (.int .u8 1))]]⟩]⟩ r7.st)
       ((ev 41 [(.lst (avNil (frAt r7.st.fr 0).2) 1 (blAt r7.st.bl 0).xs)]).bind fun r10 =>
        cond (isI .u64 (cellAt r10 0))
         ((ev 40 [(.v (.int .u64 (avInt (cellAt r10 0))))]).bind fun r12 =>
          cond (isOw 5 1 (cellAt r12 0))
           (cond (leN (((List.length (blAt r7.st.bl 0).xs) + (List.length (avXs (cellAt r12 0)))) * 1) 140737488355328)
             (some [(.ow ((List.isEmpty (avXs (cellAt r12 0))) && (avNil (frAt r7.st.fr 0).2)) 5 1 ((blAt r7.st.bl 0).xs ++ (avXs (cellAt r12 0))))])
             (none))
           (none))
         (none))
       (none))
     (cond (isRt r7)
       (some r7.outs)
       (none)))
   ((lp 33 0 0 ⟨[(0, (.ep [(.lst a0_0_0n 1 a0_0_0), (.v (.bool a0_0_1))] 0)), (4, (.sl false 0 0 none)), (5, (.v (.int .i64 0)))], [⟨1, 5, 1, false, [[(.v (.int .u8 77))], [(.v (.int .u8 69))], [(.v (.int .u8 77))], [(.v (.int .u8 49))], [(.v (.int .u8 (IntKind.wrap .u8 (IntKind.wrap .i64 (Int.tdiv (((List.length a0_0_0) : Nat) : Int) 8)))))], [(.v (.int .u8 (IntKind.wrap .u8 (Int.fdiv (IntKind.wrap .i64 (Int.tdiv (((List.length a0_0_0) : Nat) : Int) 8)) 256))))], [(.v (.int .u8 0))]]⟩]⟩).bind fun r18 =>
    cond (isEx 0 r18)
     (cond (likeStG ⟨[(4, (.sl false 0 0 none))], [⟨1, 5, 1, false, [[(.v (.int .u8 77))], [(.v (.int .u8 69))], [(.v (.int .u8 77))], [(.v (.int .u8 49))], [(.v (.int .u8 (IntKind.wrap .u8 (IntKind.wrap .i64 (Int.tdiv (((List.length a0_0_0) : Nat) : Int) 8)))))], [(.v (.int .u8 (IntKind.wrap .u8 (Int.fdiv (IntKind.wrap .i64 (Int.tdiv (((List.length a0_0_0) : Nat) : Int) 8)) 256))))], [(.v (.int .u8 0))]]⟩]⟩ r18.st)
       ((ev 41 [(.lst (avNil (frAt r18.st.fr 0).2) 1 (blAt r18.st.bl 0).xs)]).bind fun r21 =>
        cond (isI .u64 (cellAt r21 0))
         ((ev 40 [(.v (.int .u64 (avInt (cellAt r21 0))))]).bind fun r23 =>
          cond (isOw 5 1 (cellAt r23 0))
           (cond (leN (((List.length (blAt r18.st.bl 0).xs) + (List.length (avXs (cellAt r23 0)))) * 1) 140737488355328)
             (some [(.ow ((List.isEmpty (avXs (cellAt r23 0))) && (avNil (frAt r18.st.fr 0).2)) 5 1 ((blAt r18.st.bl 0).xs ++ (avXs (cellAt r23 0))))])
             (none))
           (none))
         (none))
       (none))
     (cond (isRt r18)
       (some r18.outs)
       (none))) := (ev_eq _ _).trans (by kernel_rfl)
theorem lp33_0 (x0_0n : Bool) (x0_0 : List (List AV)) (x0_1 : Bool) (x4n : Bool) (x5 : Int) (b0 : List (List AV)) : lp 33 0 0 ⟨[(0, (.ep [(.lst x0_0n 1 x0_0), (.v (.bool x0_1))] 0)), (4, (.sl x4n 0 0 none)), (5, (.v (.int .i64 x5)))], [⟨1, 5, 1, false, b0⟩]⟩ =
  cond (ltI x5 (((List.length x0_0) : Nat) : Int))
   (cond ((leI 0 x5) && (ltI x5 (((List.length x0_0) : Nat) : Int)))
     (cond (isI .u64 (cellAt (lget x0_0 (Int.toNat x5)) 0))
       ((ev 40 [(.v (.int .u64 (avInt (cellAt (lget x0_0 (Int.toNat x5)) 0))))]).bind fun r35 =>
        cond (isOw 5 1 (cellAt r35 0))
         (cond (leN (((List.length b0) + (List.length (avXs (cellAt r35 0)))) * 1) 140737488355328)
           (lp 33 0 0 ⟨[(0, (.ep [(.lst x0_0n 1 x0_0), (.v (.bool x0_1))] 0)), (4, (.sl ((List.isEmpty (avXs (cellAt r35 0))) && x4n) 0 0 none)), (5, (.v (.int .i64 (IntKind.wrap .i64 (x5 + 1)))))], [⟨1, 5, 1, false, (b0 ++ (avXs (cellAt r35 0)))⟩]⟩)
           (none))
         (none))
       (none))
     (none))
   (some ⟨(some 0), ⟨[(4, (.sl x4n 0 0 none))], [⟨1, 5, 1, false, b0⟩]⟩, []⟩) := (lp_eq _ _ _ _).trans (by kernel_rfl)
-- "bodega/memnode.appendWord"
theorem ev34 (a0_0n : Bool) (a0_0 : List (List AV)) (a1_0 : Int) : ev 34 [(.ow a0_0n 5 1 a0_0), (.v (.int .u64 a1_0))] =
  cond (leN (((List.length a0_0) + 1) * 1) 140737488355328)
   (cond (leN (((List.length (a0_0 ++ [[(.v (.int .u8 (IntKind.wrap .u8 a1_0)))]])) + 1) * 1) 140737488355328)
     (cond (leN (((List.length ((a0_0 ++ [[(.v (.int .u8 (IntKind.wrap .u8 a1_0)))]]) ++ [[(.v (.int .u8 (IntKind.wrap .u8 (Int.fdiv a1_0 256))))]])) + 1) * 1) 140737488355328)
       (cond (leN (((List.length (((a0_0 ++ [[(.v (.int .u8 (IntKind.wrap .u8 a1_0)))]]) ++ [[(.v (.int .u8 (IntKind.wrap .u8 (Int.fdiv a1_0 256))))]]) ++ [[(.v (.int .u8 (IntKind.wrap .u8 (Int.fdiv (Int.fdiv a1_0 256) 256))))]])) + 1) * 1) 140737488355328)
         (cond (leN (((List.length ((((a0_0 ++ [[(.v (.int .u8 (IntKind.wrap .u8 a1_0)))]]) ++ [[(.v (.int .u8 (IntKind.wrap .u8 (Int.fdiv a1_0 256))))]]) ++ [[(.v (.int .u8 (IntKind.wrap .u8 (Int.fdiv (Int.fdiv a1_0 256) 256))))]]) ++ [[(.v (.int .u8 (IntKind.wrap .u8 (Int.fdiv (Int.fdiv (Int.fdiv a1_0 256) 256) 256))))]])) + 1) * 1) 140737488355328)
           (cond (leN (((List.length (((((a0_0 ++ [[(.v (.int .u8 (IntKind.wrap .u8 a1_0)))]]) ++ [[(.v (.int .u8 (IntKind.wrap .u8 (Int.fdiv a1_0 256))))]]) ++ [[(.v (.int .u8 (IntKind.wrap .u8 (Int.fdiv (Int.fdiv a1_0 256) 256))))]]) ++ [[(.v (.int .u8 (IntKind.wrap .u8 (Int.fdiv (Int.fdiv (Int.fdiv a1_0 256) 256) 256))))]]) ++ [[(.v (.int .u8 (IntKind.wrap .u8 (Int.fdiv (Int.fdiv (Int.fdiv (Int.fdiv a1_0 256) 256) 256) 256))))]])) + 1) * 1) 140737488355328)
             (cond (leN (((List.length ((((((a0_0 ++ [[(.v (.int .u8 (IntKind.wrap .u8 a1_0)))]]) ++ [[(.v (.int .u8 (IntKind.wrap .u8 (Int.fdiv a1_0 256))))]]) ++ [[(.v (.int .u8 (IntKind.wrap .u8 (Int.fdiv (Int.fdiv a1_0 256) 256))))]]) ++ [[(.v (.int .u8 (IntKind.wrap .u8 (Int.fdiv (Int.fdiv (Int.fdiv a1_0 256) 256) 256))))]]) ++ [[(.v (.int .u8 (IntKind.wrap .u8 (Int.fdiv (Int.fdiv (Int.fdiv (Int.fdiv a1_0 256) 256) 256) 256))))]]) ++ [[(.v (.int .u8 (IntKind.wrap .u8 (Int.fdiv (Int.fdiv (Int.fdiv (Int.fdiv (Int.fdiv a1_0 256) 256) 256) 256) 256))))]])) + 1) * 1) 140737488355328)
               (cond (leN (((List.length (((((((a0_0 ++ [[(.v (.int .u8 (IntKind.wrap .u8 a1_0)))]]) ++ [[(.v (.int .u8 (IntKind.wrap .u8 (Int.fdiv a1_0 256))))]]) ++ [[(.v (.int .u8 (IntKind.wrap .u8 (Int.fdiv (Int.fdiv a1_0 256) 256))))]]) ++ [[(.v (.int .u8 (IntKind.wrap .u8 (Int.fdiv (Int.fdiv (Int.fdiv a1_0 256) 256) 256))))]]) ++ [[(.v (.int .u8 (IntKind.wrap .u8 (Int.fdiv (Int.fdiv (Int.fdiv (Int.fdiv a1_0 256) 256) 256) 256))))]]) ++ [[(.v (.int .u8 (IntKind.wrap .u8 (Int.fdiv (Int.fdiv (Int.fdiv (Int.fdiv (Int.fdiv a1_0 256) 256) 256) 256) 256))))]]) ++ [[(.v (.int .u8 (IntKind.wrap .u8 (Int.fdiv (Int.fdiv (Int.fdiv (Int.fdiv (Int.fdiv (Int.fdiv a1_0 256) 256) 256) 256) 256) 256))))]])) + 1) * 1) 140737488355328)
                 (some [(.ow false 5 1 ((((((((a0_0 ++ [[(.v (.int .u8 (IntKind.wrap .u8 a1_0)))]]) ++ [[(.v (.int .u8 (IntKind.wrap .u8 (Int.fdiv a1_0 256))))]]) ++ [[(.v (.int .u8 (IntKind.wrap .u8 (Int.fdiv (Int.fdiv a1_0 256) 256))))]]) ++ [[(.v (.int .u8 (IntKind.wrap .u8 (Int.fdiv (Int.fdiv (Int.fdiv a1_0 256) 256) 256))))]]) ++ [[(.v (.int .u8 (IntKind.wrap .u8 (Int.fdiv (Int.fdiv (Int.fdiv (Int.fdiv a1_0 256) 256) 256) 256))))]]) ++ [[(.v (.int .u8 (IntKind.wrap .u8 (Int.fdiv (Int.fdiv (Int.fdiv (Int.fdiv (Int.fdiv a1_0 256) 256) 256) 256) 256))))]]) ++ [[(.v (.int .u8 (IntKind.wrap .u8 (Int.fdiv (Int.fdiv (Int.fdiv (Int.fdiv (Int.fdiv (Int.fdiv a1_0 256) 256) 256) 256) 256) 256))))]]) ++ [[(.v (.int .u8 (IntKind.wrap .u8 (Int.fdiv (Int.fdiv (Int.fdiv (Int.fdiv (Int.fdiv (Int.fdiv (Int.fdiv a1_0 256) 256) 256) 256) 256) 256) 256))))]]))])
                 (none))
               (none))
             (none))
           (none))
         (none))
       (none))
     (none))
   (none) := (ev_eq _ _).trans (by kernel_rfl)
-- "bodega/crc.Bytes"
theorem ev35 (a0_0n : Bool) (a0_0 : List (List AV)) : ev 35 [(.lst a0_0n 1 a0_0)] =
  (ev 42 [(.v (.int .u64 0)), (.lst a0_0n 1 a0_0)]).bind fun r0 =>
  cond (isI .u64 (cellAt r0 0))
   (some [(.v (.int .u64 (avInt (cellAt r0 0))))])
   (none) := (ev_eq _ _).trans (by kernel_rfl)
-- "bodega/memnode.wordAt"
theorem ev36 (a0_0n : Bool) (a0_0 : List (List AV)) (a1_0 : Int) : ev 36 [(.lst a0_0n 1 a0_0), (.v (.int .i64 a1_0))] =
  (lp 36 0 0 ⟨[(0, (.lst a0_0n 1 a0_0)), (1, (.v (.int .i64 a1_0))), (5, (.v (.int .u64 0))), (6, (.v (.int .i64 7)))], []⟩).bind fun r0 =>
  cond (isEx 0 r0)
   (cond (likeStG ⟨[(5, (.v (.int .u64 0)))], []⟩ r0.st)
     (some [(.v (.int .u64 (avInt (frAt r0.st.fr 0).2)))])
     (none))
   (cond (isRt r0)
     (some r0.outs)
     (none)) := (ev_eq _ _).trans (by kernel_rfl)
theorem lp36_0 (x0n : Bool) (x0 : List (List AV)) (x1 : Int) (x5 : Int) (x6 : Int) : lp 36 0 0 ⟨[(0, (.lst x0n 1 x0)), (1, (.v (.int .i64 x1))), (5, (.v (.int .u64 x5))), (6, (.v (.int .i64 x6)))], []⟩ =
  cond (leI 0 x6)
   (cond ((leI 0 (IntKind.wrap .i64 (x1 + x6))) && (ltI (IntKind.wrap .i64 (x1 + x6)) (((List.length x0) : Nat) : Int)))
     (cond (isI .u8 (cellAt (lget x0 (Int.toNat (IntKind.wrap .i64 (x1 + x6)))) 0))
       (lp 36 0 0 ⟨[(0, (.lst x0n 1 x0)), (1, (.v (.int .i64 x1))), (5, (.v (.int .u64 (bits .or .u64 (IntKind.wrap .u64 (x5 * 256)) (IntKind.wrap .u64 (avInt (cellAt (lget x0 (Int.toNat (IntKind.wrap .i64 (x1 + x6)))) 0))))))), (6, (.v (.int .i64 (IntKind.wrap .i64 (x6 - 1)))))], []⟩)
       (none))
     (none))
   (some ⟨(some 0), ⟨[(5, (.v (.int .u64 x5)))], []⟩, []⟩) := (lp_eq _ _ _ _).trans (by kernel_rfl)
-- "slices.Equal[[]byte,byte]"
theorem ev37 (a0_0n : Bool) (a0_0 : List (List AV)) (a1_0n : Bool) (a1_0 : List (List AV)) : ev 37 [(.lst a0_0n 1 a0_0), (.lst a1_0n 1 a1_0)] =
  cond (!((((List.length a0_0) : Nat) : Int) == (((List.length a1_0) : Nat) : Int)))
   (some [(.v (.bool false))])
   ((lp 37 0 0 ⟨[(0, (.lst a0_0n 1 a0_0)), (1, (.lst a1_0n 1 a1_0)), (12, (.v (.int .i64 (((List.length a0_0) : Nat) : Int)))), (13, (.v (.int .i64 0)))], []⟩).bind fun r3 =>
    cond (isEx 0 r3)
     (cond (likeStG ⟨[], []⟩ r3.st)
       (some [(.v (.bool true))])
       (none))
     (cond (isRt r3)
       (some r3.outs)
       (none))) := (ev_eq _ _).trans (by kernel_rfl)
theorem lp37_0 (x0n : Bool) (x0 : List (List AV)) (x1n : Bool) (x1 : List (List AV)) (x12 : Int) (x13 : Int) : lp 37 0 0 ⟨[(0, (.lst x0n 1 x0)), (1, (.lst x1n 1 x1)), (12, (.v (.int .i64 x12))), (13, (.v (.int .i64 x13)))], []⟩ =
  cond (ltI x13 x12)
   (cond ((leI 0 x13) && (ltI x13 (((List.length x0) : Nat) : Int)))
     (cond (isI .u8 (cellAt (lget x0 (Int.toNat x13)) 0))
       (cond ((leI 0 x13) && (ltI x13 (((List.length x1) : Nat) : Int)))
         (cond (isI .u8 (cellAt (lget x1 (Int.toNat x13)) 0))
           (cond (!((avInt (cellAt (lget x0 (Int.toNat x13)) 0)) == (avInt (cellAt (lget x1 (Int.toNat x13)) 0))))
             (some ⟨none, ⟨[], []⟩, [(.v (.bool false))]⟩)
             (lp 37 0 0 ⟨[(0, (.lst x0n 1 x0)), (1, (.lst x1n 1 x1)), (12, (.v (.int .i64 x12))), (13, (.v (.int .i64 (IntKind.wrap .i64 (x13 + 1)))))], []⟩))
           (none))
         (none))
       (none))
     (none))
   (some ⟨(some 0), ⟨[], []⟩, []⟩) := (lp_eq _ _ _ _).trans (by kernel_rfl)
-- "bodega/bodegaref6.word"
theorem ev38 (a0_0n : Bool) (a0_0 : List (List AV)) : ev 38 [(.lst a0_0n 1 a0_0)] =
  (lp 38 0 0 ⟨[(0, (.lst a0_0n 1 a0_0)), (3, (.v (.int .u64 0))), (4, (.v (.int .i64 0)))], []⟩).bind fun r0 =>
  cond (isEx 0 r0)
   (cond (likeStG ⟨[(3, (.v (.int .u64 0)))], []⟩ r0.st)
     (some [(.v (.int .u64 (avInt (frAt r0.st.fr 0).2)))])
     (none))
   (cond (isRt r0)
     (some r0.outs)
     (none)) := (ev_eq _ _).trans (by kernel_rfl)
theorem lp38_0 (x0n : Bool) (x0 : List (List AV)) (x3 : Int) (x4 : Int) : lp 38 0 0 ⟨[(0, (.lst x0n 1 x0)), (3, (.v (.int .u64 x3))), (4, (.v (.int .i64 x4)))], []⟩ =
  cond (ltI x4 8)
   (cond ((leI 0 x4) && (ltI x4 (((List.length x0) : Nat) : Int)))
     (cond (isI .u8 (cellAt (lget x0 (Int.toNat x4)) 0))
       (cond (ltI (IntKind.wrap .u64 (IntKind.wrap .i64 (8 * x4))) 0)
         (none)
         (lp 38 0 0 ⟨[(0, (.lst x0n 1 x0)), (3, (.v (.int .u64 (bits .or .u64 x3 (IntKind.wrap .u64 ((IntKind.wrap .u64 (avInt (cellAt (lget x0 (Int.toNat x4)) 0))) * (2 ^ (min (Int.toNat (IntKind.wrap .u64 (IntKind.wrap .i64 (8 * x4)))) 64)))))))), (4, (.v (.int .i64 (IntKind.wrap .i64 (x4 + 1)))))], []⟩))
       (none))
     (none))
   (some ⟨(some 0), ⟨[(3, (.v (.int .u64 x3)))], []⟩, []⟩) := (lp_eq _ _ _ _).trans (by kernel_rfl)
-- "(*bodega/bodegaref6.Node).boot"
theorem ev39 (a0_0_0n : Bool) (a0_0_0 : List (List AV)) (a0_0_1 : Bool) : ev 39 [(.ep [(.lst a0_0_0n 1 a0_0_0), (.v (.bool a0_0_1))] 0)] =
  cond (true && (ltI 1 (((List.length a0_0_0) : Nat) : Int)))
   (cond (isI .u64 (cellAt (lget a0_0_0 1) 0))
     (some [(.v (.int .u64 (avInt (cellAt (lget a0_0_0 1) 0))))])
     (none))
   (none) := (ev_eq _ _).trans (by kernel_rfl)
-- "bodega/bodegaref1.Little"
theorem ev40 (a0_0 : Int) : ev 40 [(.v (.int .u64 a0_0))] =
  (lp 40 0 0 ⟨[(0, (.v (.int .u64 a0_0))), (3, (.sl false 0 0 none)), (4, (.v (.int .i64 0)))], [⟨1, 5, 1, false, [[(.v (.int .u8 0))], [(.v (.int .u8 0))], [(.v (.int .u8 0))], [(.v (.int .u8 0))], [(.v (.int .u8 0))], [(.v (.int .u8 0))], [(.v (.int .u8 0))], [(.v (.int .u8 0))]]⟩]⟩).bind fun r0 =>
  cond (isEx 0 r0)
   (cond (likeStG ⟨[(3, (.sl false 0 0 none))], [⟨1, 5, 1, false, [[(.v (.int .u8 0))], [(.v (.int .u8 0))], [(.v (.int .u8 0))], [(.v (.int .u8 0))], [(.v (.int .u8 0))], [(.v (.int .u8 0))], [(.v (.int .u8 0))], [(.v (.int .u8 0))]]⟩]⟩ r0.st)
     (some [(.ow (avNil (frAt r0.st.fr 0).2) 5 1 (blAt r0.st.bl 0).xs)])
     (none))
   (cond (isRt r0)
     (some r0.outs)
     (none)) := (ev_eq _ _).trans (by kernel_rfl)
theorem lp40_0 (x0 : Int) (x3n : Bool) (x4 : Int) (b0 : List (List AV)) : lp 40 0 0 ⟨[(0, (.v (.int .u64 x0))), (3, (.sl x3n 0 0 none)), (4, (.v (.int .i64 x4)))], [⟨1, 5, 1, false, b0⟩]⟩ =
  cond (ltI x4 8)
   (cond (ltI (IntKind.wrap .u64 (IntKind.wrap .i64 (8 * x4))) 0)
     (none)
     (cond ((leI 0 x4) && (ltI x4 ((((List.length b0) - 0) : Nat) : Int)))
       (cond (ltN (0 + (Int.toNat x4)) (List.length b0))
         (lp 40 0 0 ⟨[(0, (.v (.int .u64 x0))), (3, (.sl x3n 0 0 none)), (4, (.v (.int .i64 (IntKind.wrap .i64 (x4 + 1)))))], [⟨1, 5, 1, false, (List.set b0 (0 + (Int.toNat x4)) [(.v (.int .u8 (IntKind.wrap .u8 (Int.fdiv x0 (2 ^ (min (Int.toNat (IntKind.wrap .u64 (IntKind.wrap .i64 (8 * x4)))) 64))))))])⟩]⟩)
         (none))
       (none)))
   (some ⟨(some 0), ⟨[(3, (.sl x3n 0 0 none))], [⟨1, 5, 1, false, b0⟩]⟩, []⟩) := (lp_eq _ _ _ _).trans (by kernel_rfl)
-- "bodega/bodegaref1.Bytes"
theorem ev41 (a0_0n : Bool) (a0_0 : List (List AV)) : ev 41 [(.lst a0_0n 1 a0_0)] =
  (ev 43 [(.v (.int .u64 0)), (.lst a0_0n 1 a0_0)]).bind fun r0 =>
  cond (isI .u64 (cellAt r0 0))
   (some [(.v (.int .u64 (avInt (cellAt r0 0))))])
   (none) := (ev_eq _ _).trans (by kernel_rfl)
-- "bodega/bodegaref1.Extend"
theorem ev43 (a0_0 : Int) (a1_0n : Bool) (a1_0 : List (List AV)) : ev 43 [(.v (.int .u64 a0_0)), (.lst a1_0n 1 a1_0)] =
  (lp 43 0 0 ⟨[(1, (.lst a1_0n 1 a1_0)), (5, (.v (.int .u64 (bits .xor .u64 18446744073709551615 a0_0)))), (6, (.v (.int .i64 0)))], []⟩).bind fun r1 =>
  cond (isEx 0 r1)
   (cond (likeStG ⟨[(5, (.v (.int .u64 (bits .xor .u64 18446744073709551615 a0_0))))], []⟩ r1.st)
     (some [(.v (.int .u64 (bits .xor .u64 18446744073709551615 (avInt (frAt r1.st.fr 0).2))))])
     (none))
   (cond (isRt r1)
     (some r1.outs)
     (none)) := (ev_eq _ _).trans (by kernel_rfl)
theorem lp43_0 (x1n : Bool) (x1 : List (List AV)) (x5 : Int) (x6 : Int) : lp 43 0 0 ⟨[(1, (.lst x1n 1 x1)), (5, (.v (.int .u64 x5))), (6, (.v (.int .i64 x6)))], []⟩ =
  cond (ltI x6 (((List.length x1) : Nat) : Int))
   (cond ((leI 0 x6) && (ltI x6 (((List.length x1) : Nat) : Int)))
     (cond (isI .u8 (cellAt (lget x1 (Int.toNat x6)) 0))
       ((lp 43 1 0 ⟨[(1, (.lst x1n 1 x1)), (5, (.v (.int .u64 (bits .xor .u64 x5 (IntKind.wrap .u64 (avInt (cellAt (lget x1 (Int.toNat x6)) 0))))))), (6, (.v (.int .i64 x6))), (7, (.v (.int .i64 0)))], []⟩).bind fun r8 =>
        cond (isEx 2 r8)
         (cond (likeStG ⟨[(1, (.lst x1n 1 x1)), (5, (.v (.int .u64 (bits .xor .u64 x5 (IntKind.wrap .u64 (avInt (cellAt (lget x1 (Int.toNat x6)) 0))))))), (6, (.v (.int .i64 x6)))], []⟩ r8.st)
           (lp 43 0 0 ⟨[(1, (.lst (avNil (frAt r8.st.fr 0).2) 1 (avXs (frAt r8.st.fr 0).2))), (5, (.v (.int .u64 (avInt (frAt r8.st.fr 1).2)))), (6, (.v (.int .i64 (IntKind.wrap .i64 ((avInt (frAt r8.st.fr 2).2) + 1)))))], []⟩)
           (none))
         (cond (isRt r8)
           (some ⟨none, ⟨[], []⟩, r8.outs⟩)
           (none)))
       (none))
     (none))
   (some ⟨(some 0), ⟨[(5, (.v (.int .u64 x5)))], []⟩, []⟩) := (lp_eq _ _ _ _).trans (by kernel_rfl)
theorem lp43_1 (x1n : Bool) (x1 : List (List AV)) (x5 : Int) (x6 : Int) (x7 : Int) : lp 43 1 0 ⟨[(1, (.lst x1n 1 x1)), (5, (.v (.int .u64 x5))), (6, (.v (.int .i64 x6))), (7, (.v (.int .i64 x7)))], []⟩ =
  cond (ltI x7 8)
   (cond ((bits .and .u64 x5 1) == 1)
     (lp 43 1 0 ⟨[(1, (.lst x1n 1 x1)), (5, (.v (.int .u64 (bits .xor .u64 (Int.fdiv x5 2) 14514072000185962306)))), (6, (.v (.int .i64 x6))), (7, (.v (.int .i64 (IntKind.wrap .i64 (x7 + 1)))))], []⟩)
     (lp 43 1 0 ⟨[(1, (.lst x1n 1 x1)), (5, (.v (.int .u64 (Int.fdiv x5 2)))), (6, (.v (.int .i64 x6))), (7, (.v (.int .i64 (IntKind.wrap .i64 (x7 + 1)))))], []⟩))
   (some ⟨(some 2), ⟨[(1, (.lst x1n 1 x1)), (5, (.v (.int .u64 x5))), (6, (.v (.int .i64 x6)))], []⟩, []⟩) := (lp_eq _ _ _ _).trans (by kernel_rfl)
-- "bodega/memnode.Load"
theorem ev26 (a0_0n : Bool) (a0_0 : List (List AV)) : ev 26 [(.lst a0_0n 1 a0_0)] =
  cond (ltI (((List.length a0_0) : Nat) : Int) 7)
   (some [(.v (.pointer none)), (.v (.int .i64 14))])
   (cond (true && (ltI 4 (((List.length a0_0) : Nat) : Int)))
     (cond (isI .u8 (cellAt (lget a0_0 4) 0))
       (cond (true && (ltI 5 (((List.length a0_0) : Nat) : Int)))
         (cond (isI .u8 (cellAt (lget a0_0 5) 0))
           ((ev 9 [(.v (.int .i64 (bits .or .i64 (IntKind.wrap .i64 (avInt (cellAt (lget a0_0 4) 0))) (IntKind.wrap .i64 ((IntKind.wrap .i64 (avInt (cellAt (lget a0_0 5) 0))) * 256)))))]).bind fun r7 =>
            cond (isNP (cellAt r7 0))
             (cond (isI .i64 (cellAt r7 1))
               (cond (!((avInt (cellAt r7 1)) == 0))
                 (some [(.v (.pointer none)), (.v (.int .i64 14))])
                 (none))
               (none))
             (cond (((isOb 60 (cellAt r7 0)) && (Nat.beq (List.length (obCells (cellAt r7 0))) 2)) && ((isOw 31 1 (cellAt (obCells (cellAt r7 0)) 0)) && (isB (cellAt (obCells (cellAt r7 0)) 1))))
               (cond (isI .i64 (cellAt r7 1))
                 (cond (!((avInt (cellAt r7 1)) == 0))
                   (some [(.v (.pointer none)), (.v (.int .i64 14))])
                   (cond (!((((List.length a0_0) : Nat) : Int) == (IntKind.wrap .i64 (7 + (IntKind.wrap .i64 (8 * (IntKind.wrap .i64 (((((List.length (avXs (cellAt (obCells (cellAt r7 0)) 0))) - 0) : Nat) : Int) + 1))))))))
                     (some [(.v (.pointer none)), (.v (.int .i64 14))])
                     ((lp 26 0 0 ⟨[(0, (.lst a0_0n 1 a0_0)), (4, (.ptr 0 0 0)), (43, (.v (.int .i64 ((((List.length (avXs (cellAt (obCells (cellAt r7 0)) 0))) - 0) : Nat) : Int)))), (44, (.v (.int .i64 0)))], [⟨1, 60, 2, true, [[(.sl (avNil (cellAt (obCells (cellAt r7 0)) 0)) 1 0 none), (.v (.bool (avBool (cellAt (obCells (cellAt r7 0)) 1))))]]⟩, ⟨1, 31, 1, false, (avXs (cellAt (obCells (cellAt r7 0)) 0))⟩]⟩).bind fun r23 =>
                      cond (isEx 0 r23)
                       (cond (likeStG ⟨[(0, (.lst a0_0n 1 a0_0)), (4, (.ptr 0 0 0))], [⟨1, 60, 2, true, [[(.sl (avNil (cellAt (obCells (cellAt r7 0)) 0)) 1 0 none), (.v (.bool (avBool (cellAt (obCells (cellAt r7 0)) 1))))]]⟩, ⟨1, 31, 1, false, (avXs (cellAt (obCells (cellAt r7 0)) 0))⟩]⟩ r23.st)
                         (cond (true && (ltI 6 (((List.length (avXs (frAt r23.st.fr 0).2)) : Nat) : Int)))
                           (cond (isI .u8 (cellAt (lget (avXs (frAt r23.st.fr 0).2) 6) 0))
                             ((ev 24 [(.ep [(.lst (avNil (cellAt (lget (blAt r23.st.bl 0).xs 0) 0)) 1 (blAt r23.st.bl 1).xs), (.v (.bool ((avInt (cellAt (lget (avXs (frAt r23.st.fr 0).2) 6) 0)) == 0)))] 0)]).bind fun r31 =>
                              cond (isOw 5 1 (cellAt r31 0))
                               (cond (false || ((List.all (avXs (cellAt r31 0)) rowV) && true))
                                 ((ev 37 [(.lst (avNil (cellAt r31 0)) 1 (avXs (cellAt r31 0))), (.lst (avNil (frAt r23.st.fr 0).2) 1 (avXs (frAt r23.st.fr 0).2))]).bind fun r34 =>
                                  cond (isB (cellAt r34 0))
                                   (cond (!(avBool (cellAt r34 0)))
                                     (some [(.v (.pointer none)), (.v (.int .i64 14))])
                                     (some [(.ob 60 [(.ow (avNil (cellAt (lget (blAt r23.st.bl 0).xs 0) 0)) 31 1 (blAt r23.st.bl 1).xs), (.v (.bool ((avInt (cellAt (lget (avXs (frAt r23.st.fr 0).2) 6) 0)) == 0)))]), (.v (.int .i64 0))]))
                                   (none))
                                 (none))
                               (none))
                             (none))
                           (none))
                         (none))
                       (cond (isRt r23)
                         (some r23.outs)
                         (none)))))
                 (none))
               (none)))
           (none))
         (none))
       (none))
     (none)) := (ev_eq _ _).trans (by kernel_rfl)
theorem lp26_0 (x0n : Bool) (x0 : List (List AV)) (x43 : Int) (x44 : Int) (b0_0n : Bool) (b0_1 : Bool) (b1 : List (List AV)) : lp 26 0 0 ⟨[(0, (.lst x0n 1 x0)), (4, (.ptr 0 0 0)), (43, (.v (.int .i64 x43))), (44, (.v (.int .i64 x44)))], [⟨1, 60, 2, true, [[(.sl b0_0n 1 0 none), (.v (.bool b0_1))]]⟩, ⟨1, 31, 1, false, b1⟩]⟩ =
  cond (ltI x44 x43)
   ((ev 36 [(.lst x0n 1 x0), (.v (.int .i64 (IntKind.wrap .i64 (7 + (IntKind.wrap .i64 (8 * x44))))))]).bind fun r38 =>
    cond (isI .u64 (cellAt r38 0))
     (cond ((leI 0 x44) && (ltI x44 ((((List.length b1) - 0) : Nat) : Int)))
       (cond (ltN (0 + (Int.toNat x44)) (List.length b1))
         (lp 26 0 0 ⟨[(0, (.lst x0n 1 x0)), (4, (.ptr 0 0 0)), (43, (.v (.int .i64 x43))), (44, (.v (.int .i64 (IntKind.wrap .i64 (x44 + 1)))))], [⟨1, 60, 2, true, [[(.sl b0_0n 1 0 none), (.v (.bool b0_1))]]⟩, ⟨1, 31, 1, false, (List.set b1 (0 + (Int.toNat x44)) [(.v (.int .u64 (avInt (cellAt r38 0))))])⟩]⟩)
         (none))
       (none))
     (none))
   (some ⟨(some 0), ⟨[(0, (.lst x0n 1 x0)), (4, (.ptr 0 0 0))], [⟨1, 60, 2, true, [[(.sl b0_0n 1 0 none), (.v (.bool b0_1))]]⟩, ⟨1, 31, 1, false, b1⟩]⟩, []⟩) := (lp_eq _ _ _ _).trans (by kernel_rfl)
-- "bodega/bodegaref6.Load"
theorem ev27 (a0_0n : Bool) (a0_0 : List (List AV)) : ev 27 [(.lst a0_0n 1 a0_0)] =
  cond (ltI (((List.length a0_0) : Nat) : Int) 15)
   (some [(.agg [(.lst true 1 []), (.v (.bool false))]), (.v (.bool false))])
   (cond (!((Int.tmod (IntKind.wrap .i64 ((((List.length a0_0) : Nat) : Int) - 15)) 64) == 0))
     (some [(.agg [(.lst true 1 []), (.v (.bool false))]), (.v (.bool false))])
     (cond (ltI 16399 (((List.length a0_0) : Nat) : Int))
       (some [(.agg [(.lst true 1 []), (.v (.bool false))]), (.v (.bool false))])
       (cond (ltI (((List.length a0_0) : Nat) : Int) 79)
         (some [(.agg [(.lst true 1 []), (.v (.bool false))]), (.v (.bool false))])
         (cond ((((leI 0 (IntKind.wrap .i64 ((IntKind.wrap .i64 (Int.tdiv (IntKind.wrap .i64 ((((List.length a0_0) : Nat) : Int) - 15)) 64)) * 8))) && (leI (IntKind.wrap .i64 ((IntKind.wrap .i64 (Int.tdiv (IntKind.wrap .i64 ((((List.length a0_0) : Nat) : Int) - 15)) 64)) * 8)) (IntKind.wrap .i64 ((IntKind.wrap .i64 (Int.tdiv (IntKind.wrap .i64 ((((List.length a0_0) : Nat) : Int) - 15)) 64)) * 8)))) && (leI ((IntKind.wrap .i64 ((IntKind.wrap .i64 (Int.tdiv (IntKind.wrap .i64 ((((List.length a0_0) : Nat) : Int) - 15)) 64)) * 8)) * 8) 281474976710656)) && (leI (IntKind.wrap .i64 ((IntKind.wrap .i64 (Int.tdiv (IntKind.wrap .i64 ((((List.length a0_0) : Nat) : Int) - 15)) 64)) * 8)) 281474976710656))
           (cond (true && (ltI 6 (((List.length a0_0) : Nat) : Int)))
             (cond (isI .u8 (cellAt (lget a0_0 6) 0))
               ((lp 27 0 0 ⟨[(0, (.lst a0_0n 1 a0_0)), (2, (.ptr 0 0 0)), (4, (.ptr 2 0 0)), (5, (.v (.int .i64 0)))], [⟨1, 36, 2, true, [[(.sl true 1 0 none), (.v (.bool false))]]⟩, ⟨1, 31, 1, false, []⟩, ⟨1, 36, 2, true, [[(.sl false 3 0 none), (.v (.bool ((avInt (cellAt (lget a0_0 6) 0)) == 1)))]]⟩, ⟨1, 31, 1, false, (List.replicate (Int.toNat (IntKind.wrap .i64 ((IntKind.wrap .i64 (Int.tdiv (IntKind.wrap .i64 ((((List.length a0_0) : Nat) : Int) - 15)) 64)) * 8))) [(.v (.int .u64 0))])⟩]⟩).bind fun r17 =>
                cond (isEx 0 r17)
                 (cond (likeStG ⟨[(0, (.lst a0_0n 1 a0_0)), (2, (.ptr 0 0 0)), (4, (.ptr 2 0 0))], [⟨1, 36, 2, true, [[(.sl true 1 0 none), (.v (.bool false))]]⟩, ⟨1, 31, 1, false, []⟩, ⟨1, 36, 2, true, [[(.sl false 3 0 none), (.v (.bool ((avInt (cellAt (lget a0_0 6) 0)) == 1)))]]⟩, ⟨1, 31, 1, false, (List.replicate (Int.toNat (IntKind.wrap .i64 ((IntKind.wrap .i64 (Int.tdiv (IntKind.wrap .i64 ((((List.length a0_0) : Nat) : Int) - 15)) 64)) * 8))) [(.v (.int .u64 0))])⟩]⟩ r17.st)
                   ((ev 33 [(.ep [(.lst (avNil (cellAt (lget (blAt r17.st.bl 2).xs 0) 0)) 1 (blAt r17.st.bl 3).xs), (.v (.bool (avBool (cellAt (lget (blAt r17.st.bl 2).xs 0) 1))))] 0)]).bind fun r26 =>
                    cond (isOw 5 1 (cellAt r26 0))
                     (cond (false || ((List.all (avXs (cellAt r26 0)) rowV) && true))
                       (cond (List.all (avXs (cellAt r26 0)) Ev.isByte)
                         (cond (List.all (avXs (frAt r17.st.fr 0).2) Ev.isByte)
                           (some [(.agg [(.lst (avNil (cellAt (lget (blAt r17.st.bl 2).xs 0) 0)) 1 (blAt r17.st.bl 3).xs), (.v (.bool (avBool (cellAt (lget (blAt r17.st.bl 2).xs 0) 1))))]), (.v (.bool ((ByteArray.toList ⟨(List.map Ev.byteOf (avXs (cellAt r26 0))).toArray⟩) == (ByteArray.toList ⟨(List.map Ev.byteOf (avXs (frAt r17.st.fr 0).2)).toArray⟩))))])
                           (none))
                         (none))
                       (none))
                     (none))
                   (none))
                 (cond (isRt r17)
                   (some r17.outs)
                   (none)))
               (none))
             (none))
           (none))))) := (ev_eq _ _).trans (by kernel_rfl)
theorem lp27_0 (x0n : Bool) (x0 : List (List AV)) (x5 : Int) (b0_0n : Bool) (b0_1 : Bool) (b1 : List (List AV)) (b2_0n : Bool) (b2_1 : Bool) (b3 : List (List AV)) : lp 27 0 0 ⟨[(0, (.lst x0n 1 x0)), (2, (.ptr 0 0 0)), (4, (.ptr 2 0 0)), (5, (.v (.int .i64 x5)))], [⟨1, 36, 2, true, [[(.sl b0_0n 1 0 none), (.v (.bool b0_1))]]⟩, ⟨1, 31, 1, false, b1⟩, ⟨1, 36, 2, true, [[(.sl b2_0n 3 0 none), (.v (.bool b2_1))]]⟩, ⟨1, 31, 1, false, b3⟩]⟩ =
  cond (ltI x5 ((((List.length b3) - 0) : Nat) : Int))
   (cond ((leI 0 (IntKind.wrap .i64 (7 + (IntKind.wrap .i64 (8 * x5))))) && (leI (IntKind.wrap .i64 (7 + (IntKind.wrap .i64 (8 * x5)))) (((List.length x0) : Nat) : Int)))
     ((ev 38 [(.lst x0n 1 (List.drop (Int.toNat (IntKind.wrap .i64 (7 + (IntKind.wrap .i64 (8 * x5))))) x0))]).bind fun r36 =>
      cond (isI .u64 (cellAt r36 0))
       (cond ((leI 0 x5) && (ltI x5 ((((List.length b3) - 0) : Nat) : Int)))
         (cond (ltN (0 + (Int.toNat x5)) (List.length b3))
           (lp 27 0 0 ⟨[(0, (.lst x0n 1 x0)), (2, (.ptr 0 0 0)), (4, (.ptr 2 0 0)), (5, (.v (.int .i64 (IntKind.wrap .i64 (x5 + 1)))))], [⟨1, 36, 2, true, [[(.sl b0_0n 1 0 none), (.v (.bool b0_1))]]⟩, ⟨1, 31, 1, false, b1⟩, ⟨1, 36, 2, true, [[(.sl b2_0n 3 0 none), (.v (.bool b2_1))]]⟩, ⟨1, 31, 1, false, (List.set b3 (0 + (Int.toNat x5)) [(.v (.int .u64 (avInt (cellAt r36 0))))])⟩]⟩)
           (none))
         (none))
       (none))
     (none))
   (some ⟨(some 0), ⟨[(0, (.lst x0n 1 x0)), (2, (.ptr 0 0 0)), (4, (.ptr 2 0 0))], [⟨1, 36, 2, true, [[(.sl b0_0n 1 0 none), (.v (.bool b0_1))]]⟩, ⟨1, 31, 1, false, b1⟩, ⟨1, 36, 2, true, [[(.sl b2_0n 3 0 none), (.v (.bool b2_1))]]⟩, ⟨1, 31, 1, false, b3⟩]⟩, []⟩) := (lp_eq _ _ _ _).trans (by kernel_rfl)
end Go.Proofs.Ytokagdgcfmjlnaa
