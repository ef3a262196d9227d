/- The functions of the chapter, as the evaluator has them. -/
import Derived.Test.YtniocbmadbaojaaEq
set_option linter.all false
namespace Go.Proofs.Ytniocbmadbaojaa
open Go.Ev

-- "bodega/bodegalaw7.LayoutApart"
theorem ev3  : ev 3 [] =
  (ev 7 []).bind fun r0 =>
  cond (isOw 26 2 (cellAt r0 0))
   ((lp 3 0 0 ⟨[(1, (.sl (avNil (cellAt r0 0)) 0 0 none)), (2, (.ptr 1 0 0)), (3, (.v (.int .i64 0)))], [⟨1, 26, 2, false, (avXs (cellAt r0 0))⟩, ⟨1, 24, 1, false, (List.replicate 2048 ([(.v (.bool false))] : List AV))⟩]⟩).bind fun r4 =>
    cond (isEx 0 r4)
     (cond (likeStG ⟨[(2, (.ptr 0 0 0))], [⟨1, 24, 1, false, (List.replicate 2048 ([(.v (.bool false))] : List AV))⟩]⟩ r4.st)
       ((ev 8 []).bind fun r6 =>
        cond (isB (cellAt r6 0))
         (cond (avBool (cellAt r6 0))
           (cond ((ltN 2047 (List.length (blAt r4.st.bl 0).xs)) && (isB (cellAt (lget (blAt r4.st.bl 0).xs 2047) 0)))
             (some [(.v (.bool (avBool (cellAt (lget (blAt r4.st.bl 0).xs 2047) 0))))])
             (none))
           (some [(.v (.bool false))]))
         (none))
       (none))
     (cond (isRt r4)
       (some r4.outs)
       (none)))
   (none) := (ev_eq _ _).trans (by kernel_rfl)
theorem lp3_0 (x1n : Bool) (x3 : Int) (b0 : List (List AV)) (b1 : List (List AV)) : lp 3 0 0 ⟨[(1, (.sl x1n 0 0 none)), (2, (.ptr 1 0 0)), (3, (.v (.int .i64 x3)))], [⟨1, 26, 2, false, b0⟩, ⟨1, 24, 1, false, b1⟩]⟩ =
  cond (ltI x3 ((((List.length b0) - 0) : Nat) : Int))
   ((lp 3 1 0 ⟨[(1, (.sl x1n 0 0 none)), (2, (.ptr 1 0 0)), (3, (.v (.int .i64 x3))), (4, (.v (.int .i64 0)))], [⟨1, 26, 2, false, b0⟩, ⟨1, 24, 1, false, b1⟩]⟩).bind fun r10 =>
    cond (isEx 2 r10)
     (cond (likeStG ⟨[(1, (.sl x1n 0 0 none)), (2, (.ptr 1 0 0)), (3, (.v (.int .i64 x3)))], [⟨1, 26, 2, false, b0⟩, ⟨1, 24, 1, false, b1⟩]⟩ r10.st)
       (lp 3 0 0 ⟨[(1, (.sl (avNil (frAt r10.st.fr 0).2) 0 0 none)), (2, (.ptr 1 0 0)), (3, (.v (.int .i64 (IntKind.wrap .i64 ((avInt (frAt r10.st.fr 2).2) + 1)))))], [⟨1, 26, 2, false, (blAt r10.st.bl 0).xs⟩, ⟨1, 24, 1, false, (blAt r10.st.bl 1).xs⟩]⟩)
       (none))
     (cond (isRt r10)
       (some ⟨none, ⟨[], []⟩, r10.outs⟩)
       (none)))
   (some ⟨(some 0), ⟨[(2, (.ptr 0 0 0))], [⟨1, 24, 1, false, b1⟩]⟩, []⟩) := (lp_eq _ _ _ _).trans (by kernel_rfl)
theorem lp3_1 (x1n : Bool) (x3 : Int) (x4 : Int) (b0 : List (List AV)) (b1 : List (List AV)) : lp 3 1 0 ⟨[(1, (.sl x1n 0 0 none)), (2, (.ptr 1 0 0)), (3, (.v (.int .i64 x3))), (4, (.v (.int .i64 x4)))], [⟨1, 26, 2, false, b0⟩, ⟨1, 24, 1, false, b1⟩]⟩ =
  cond ((leI 0 x3) && (ltI x3 ((((List.length b0) - 0) : Nat) : Int)))
   (cond ((ltN (0 + (Int.toNat x3)) (List.length b0)) && (isI .i64 (cellAt (lget b0 (0 + (Int.toNat x3))) 1)))
     (cond (ltI x4 (avInt (cellAt (lget b0 (0 + (Int.toNat x3))) 1)))
       (cond ((leI 0 x3) && (ltI x3 ((((List.length b0) - 0) : Nat) : Int)))
         (cond ((ltN (0 + (Int.toNat x3)) (List.length b0)) && (isI .i64 (cellAt (lget b0 (0 + (Int.toNat x3))) 0)))
           (cond (ltI (IntKind.wrap .i64 ((avInt (cellAt (lget b0 (0 + (Int.toNat x3))) 0)) + x4)) 0)
             (some ⟨none, ⟨[], []⟩, [(.v (.bool false))]⟩)
             (cond (leI 2048 (IntKind.wrap .i64 ((avInt (cellAt (lget b0 (0 + (Int.toNat x3))) 0)) + x4)))
               (some ⟨none, ⟨[], []⟩, [(.v (.bool false))]⟩)
               (cond ((leI 0 (IntKind.wrap .i64 ((avInt (cellAt (lget b0 (0 + (Int.toNat x3))) 0)) + x4))) && (ltI (IntKind.wrap .i64 ((avInt (cellAt (lget b0 (0 + (Int.toNat x3))) 0)) + x4)) 2048))
                 (cond ((ltN (Int.toNat (IntKind.wrap .i64 ((avInt (cellAt (lget b0 (0 + (Int.toNat x3))) 0)) + x4))) (List.length b1)) && (isB (cellAt (lget b1 (Int.toNat (IntKind.wrap .i64 ((avInt (cellAt (lget b0 (0 + (Int.toNat x3))) 0)) + x4)))) 0)))
                   (cond (avBool (cellAt (lget b1 (Int.toNat (IntKind.wrap .i64 ((avInt (cellAt (lget b0 (0 + (Int.toNat x3))) 0)) + x4)))) 0))
                     (some ⟨none, ⟨[], []⟩, [(.v (.bool false))]⟩)
                     (cond ((leI 0 (IntKind.wrap .i64 ((avInt (cellAt (lget b0 (0 + (Int.toNat x3))) 0)) + x4))) && (ltI (IntKind.wrap .i64 ((avInt (cellAt (lget b0 (0 + (Int.toNat x3))) 0)) + x4)) 2048))
                       (cond (ltN (Int.toNat (IntKind.wrap .i64 ((avInt (cellAt (lget b0 (0 + (Int.toNat x3))) 0)) + x4))) (List.length b1))
                         (lp 3 1 0 ⟨[(1, (.sl x1n 0 0 none)), (2, (.ptr 1 0 0)), (3, (.v (.int .i64 x3))), (4, (.v (.int .i64 (IntKind.wrap .i64 (x4 + 1)))))], [⟨1, 26, 2, false, b0⟩, ⟨1, 24, 1, false, (List.set b1 (Int.toNat (IntKind.wrap .i64 ((avInt (cellAt (lget b0 (0 + (Int.toNat x3))) 0)) + x4))) [(.v (.bool true))])⟩]⟩)
                         (none))
                       (none)))
                   (none))
                 (none))))
           (none))
         (none))
       (some ⟨(some 2), ⟨[(1, (.sl x1n 0 0 none)), (2, (.ptr 1 0 0)), (3, (.v (.int .i64 x3)))], [⟨1, 26, 2, false, b0⟩, ⟨1, 24, 1, false, b1⟩]⟩, []⟩))
     (none))
   (none) := (lp_eq _ _ _ _).trans (by kernel_rfl)
end Go.Proofs.Ytniocbmadbaojaa
