/- The functions of the chapter, as the evaluator has them. -/
import Derived.Test.YtnhahcomgeeobaaEq
set_option linter.all false
namespace Go.Proofs.Ytnhahcomgeeobaa
open Go.Ev
theorem ev6 (a0_0 : Int) (a1_0n : Bool) (a1_0 : List (List AV)) (a2_0 : Int) (a3_0n : Bool) (a3_0 : List (List AV)) : ev 6 [(.v (.int .i64 a0_0)), (.lst a1_0n 5 a1_0), (.v (.int .i64 a2_0)), (.lst a3_0n 7 a3_0)] =
 (ev 10 [(.lst a1_0n 5 a1_0), (.v (.int .i64 4))]).bind fun r0 =>
 cond (isB (cellAt r0 0))
 (cond (avBool (cellAt r0 0))
 (some [(.v (.bool true))])
 (cond (ltI 6 (((List.length a3_0) : Nat) : Int))
 (some [(.v (.bool true))])
 ((ev 11 [(.v (.int .i64 a0_0))]).bind fun r4 =>
 cond (isL 4 (cellAt r4 0))
 ((ev 12 [(.lst (avNil (cellAt r4 0)) 4 (avXs (cellAt r4 0))), (.lst a1_0n 5 a1_0)]).bind fun r7 =>
 cond (isOw 56 7 (cellAt r7 0))
 (cond (isB (cellAt r7 1))
 ((ev 24 [(.lst a3_0n 7 a3_0)]).bind fun r11 =>
 cond (isL 12 (cellAt r11 0))
 ((ev 13 []).bind fun r14 =>
 cond (isB (cellAt r14 0))
 (cond (!(avBool (cellAt r14 0)))
 (some [(.v (.bool false))])
 (cond (!(avBool (cellAt r7 1)))
 (some [(.v (.bool true))])
 ((ev 26 [(.lst (avNil (cellAt r11 0)) 12 (avXs (cellAt r11 0)))]).bind fun r17 =>
 cond (isL 12 (cellAt r17 0))
 ((ev 25 [(.lst (avNil (cellAt r17 0)) 12 (avXs (cellAt r17 0)))]).bind fun r20 =>
 cond (isB (cellAt r20 0))
 (cond (!(avBool (cellAt r20 0)))
 (some [(.v (.bool true))])
 (cond (leN ((List.length (avXs (cellAt r7 0))) * 88) 140737488355328)
 ((ev 20 [(.v (.int .i64 a2_0)), (.v (.int .i64 100))]).bind fun r25 =>
 cond (isI .i64 (cellAt r25 0))
 (cond (leN (((List.length (avXs (cellAt r7 0))) + 1) * 88) 140737488355328)
 ((ev 15 [(.lst (avNil (cellAt r4 0)) 4 (avXs (cellAt r4 0))), (.lst false 7 ((avXs (cellAt r7 0)) ++ [[(.v (.int .i64 (avInt (cellAt r25 0)))), (.v (.int .i64 (-1))), (.lst (avNil (cellAt r11 0)) 12 (avXs (cellAt r11 0))), (.v (.int .i64 3)), (.v (.int .i64 0)), (.v (.int .i64 0)), (.lst true 2 [])]])), (.v (.int .i64 1000000))]).bind fun r29 =>
 cond (isOw 3 1 (cellAt r29 0))
 (cond (isB (cellAt r29 1))
 (cond (isI .i64 (cellAt r29 2))
 (cond (false || (((List.all (avXs (cellAt r29 0)) rowV) && true) && true))
 ((ev 15 [(.lst (avNil (cellAt r4 0)) 4 (avXs (cellAt r4 0))), (.lst true 7 []), (.v (.int .i64 1))]).bind fun r34 =>
 cond (isOw 3 1 (cellAt r34 0))
 (cond (isB (cellAt r34 1))
 (cond (isI .i64 (cellAt r34 2))
 (cond ((avInt (cellAt r29 2)) == 0)
 (cond (avBool (cellAt r29 1))
 ((ev 21 [(.lst (avNil (cellAt r4 0)) 4 (avXs (cellAt r4 0))), (.lst false 7 ((avXs (cellAt r7 0)) ++ [[(.v (.int .i64 (avInt (cellAt r25 0)))), (.v (.int .i64 (-1))), (.lst (avNil (cellAt r11 0)) 12 (avXs (cellAt r11 0))), (.v (.int .i64 3)), (.v (.int .i64 0)), (.v (.int .i64 0)), (.lst true 2 [])]])), (.lst (avNil (cellAt r29 0)) 1 (avXs (cellAt r29 0)))]).bind fun r40 =>
 cond (isB (cellAt r40 0))
 (cond (avBool (cellAt r40 0))
 (cond ((avInt (cellAt r34 2)) == 0)
 (cond (avBool (cellAt r34 1))
 (some [(.v (.bool (((((List.length (avXs (cellAt r34 0))) - 0) : Nat) : Int) == 0)))])
 (some [(.v (.bool false))]))
 (some [(.v (.bool false))]))
 (some [(.v (.bool false))]))
 (none))
 (some [(.v (.bool false))]))
 (some [(.v (.bool false))]))
 (none))
 (none))
 (none))
 (none))
 (none))
 (none))
 (none))
 (none))
 (none))
 (none)))
 (none))
 (none))))
 (none))
 (none))
 (none))
 (none))
 (none))))
 (none) := (ev_eq _ _).trans (by kernel_rfl)
end Go.Proofs.Ytnhahcomgeeobaa
