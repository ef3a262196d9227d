/- The functions of the chapter, as the evaluator has them. -/
import Derived.Test.YtnhahcomgeeobaaDec
set_option linter.all false
namespace Go.Proofs.Ytnhahcomgeeobaa
open Go.Ev
theorem ev78 (a0_0n : Bool) (a0_0 : List (List AV)) : ev 78 [(.lst a0_0n 1 a0_0)] =
 (lp 78 0 0 ⟨[(0, (.lst a0_0n 1 a0_0)), (3, (.v (.int .i64 0))), (9, (.lst a0_0n 1 a0_0)), (10, (.v (.int .i64 (((List.length a0_0) : Nat) : Int)))), (11, (.v (.int .i64 0)))], []⟩).bind fun r1 =>
 cond (isEx 0 r1)
 (cond (likeStG ⟨[(0, (.lst a0_0n 1 a0_0)), (3, (.v (.int .i64 0)))], []⟩ r1.st)
 ((ev 94 [(.lst true 1 []), (.v (.int .i64 (avInt (frAt r1.st.fr 1).2)))]).bind fun r5 =>
 cond (isOw 9 1 (cellAt r5 0))
 ((lp 78 1 0 ⟨[(6, (.sl (avNil (cellAt r5 0)) 0 0 none)), (25, (.lst (avNil (frAt r1.st.fr 0).2) 1 (avXs (frAt r1.st.fr 0).2))), (26, (.v (.int .i64 (((List.length (avXs (frAt r1.st.fr 0).2)) : Nat) : Int)))), (27, (.v (.int .i64 0)))], [⟨1, 9, 1, false, (avXs (cellAt r5 0))⟩]⟩).bind fun r9 =>
 cond (isEx 2 r9)
 (cond (likeStG ⟨[(6, (.sl (avNil (cellAt r5 0)) 0 0 none))], [⟨1, 9, 1, false, (avXs (cellAt r5 0))⟩]⟩ r9.st)
 (some [(.ow (avNil (frAt r9.st.fr 0).2) 9 1 (blAt r9.st.bl 0).xs)])
 (none))
 (cond (isRt r9)
 (some r9.outs)
 (none)))
 (none))
 (none))
 (cond (isRt r1)
 (some r1.outs)
 (none)) := (ev_eq _ _).trans (by kernel_rfl)
theorem lp78_0 (x0n : Bool) (x0 : List (List AV)) (x3 : Int) (x9n : Bool) (x9 : List (List AV)) (x10 : Int) (x11 : Int) : lp 78 0 0 ⟨[(0, (.lst x0n 1 x0)), (3, (.v (.int .i64 x3))), (9, (.lst x9n 1 x9)), (10, (.v (.int .i64 x10))), (11, (.v (.int .i64 x11)))], []⟩ =
 cond (ltI x11 x10)
 (cond ((leI 0 x11) && (ltI x11 (((List.length x9) : Nat) : Int)))
 (cond (isL 1 (cellAt (lget x9 (Int.toNat x11)) 0))
 (cond (ltI (IntKind.wrap .i64 (x3 + (((List.length (avXs (cellAt (lget x9 (Int.toNat x11)) 0))) : Nat) : Int))) 0)
 (none)
 (lp 78 0 0 ⟨[(0, (.lst x0n 1 x0)), (3, (.v (.int .i64 (IntKind.wrap .i64 (x3 + (((List.length (avXs (cellAt (lget x9 (Int.toNat x11)) 0))) : Nat) : Int)))))), (9, (.lst x9n 1 x9)), (10, (.v (.int .i64 x10))), (11, (.v (.int .i64 (IntKind.wrap .i64 (x11 + 1)))))], []⟩))
 (none))
 (none))
 (some ⟨(some 0), ⟨[(0, (.lst x0n 1 x0)), (3, (.v (.int .i64 x3)))], []⟩, []⟩) := (lp_eq _ _ _ _).trans (by kernel_rfl)
theorem lp78_1 (x6n : Bool) (x25n : Bool) (x25 : List (List AV)) (x26 : Int) (x27 : Int) (b0 : List (List AV)) : lp 78 1 0 ⟨[(6, (.sl x6n 0 0 none)), (25, (.lst x25n 1 x25)), (26, (.v (.int .i64 x26))), (27, (.v (.int .i64 x27)))], [⟨1, 9, 1, false, b0⟩]⟩ =
 cond (ltI x27 x26)
 (cond ((leI 0 x27) && (ltI x27 (((List.length x25) : Nat) : Int)))
 (cond (isL 1 (cellAt (lget x25 (Int.toNat x27)) 0))
 (cond (leN (((List.length b0) + (List.length (avXs (cellAt (lget x25 (Int.toNat x27)) 0)))) * 16) 140737488355328)
 (lp 78 1 0 ⟨[(6, (.sl ((List.isEmpty (avXs (cellAt (lget x25 (Int.toNat x27)) 0))) && x6n) 0 0 none)), (25, (.lst x25n 1 x25)), (26, (.v (.int .i64 x26))), (27, (.v (.int .i64 (IntKind.wrap .i64 (x27 + 1)))))], [⟨1, 9, 1, false, (b0 ++ (avXs (cellAt (lget x25 (Int.toNat x27)) 0)))⟩]⟩)
 (none))
 (none))
 (none))
 (some ⟨(some 2), ⟨[(6, (.sl x6n 0 0 none))], [⟨1, 9, 1, false, b0⟩]⟩, []⟩) := (lp_eq _ _ _ _).trans (by kernel_rfl)
end Go.Proofs.Ytnhahcomgeeobaa
