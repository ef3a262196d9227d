/- The functions of the chapter, as the evaluator has them. -/
import Derived.Test.YtjbpbidlcegopaaRows
import Derived.Test.YtjbpbidlcegopaaEv10
import Derived.Test.YtjbpbidlcegopaaIns
set_option linter.all false
namespace Go.Proofs.Ytjbpbidlcegopaa
open Go.Ev

def updF : FuncId → Option Upd
 | 12 => some (.mv insG)
 | 13 => some (.mv delG)
 | _ => none
def cfg : Cfg := { rw := fun _ => [], dat := fun _ => false, inl := fun f => Nat.beq f 9, roll := fun _ => 4, join := fun _ => false, upd := updF, eat := fun t d => Nat.beq t 24 && Nat.beq d 64 }
theorem updOk : UpdS Try.prog cfg := by
 intro f u e
 change updF f = some u at e
 unfold updF at e
 split at e
 · cases e; exact ins_told
 · cases e; exact del_told
 · cases e
theorem extOk : ExtS Try.prog cfg := ⟨fun f bs rs e => (by simp only [evTop, show ∀ f, cfg.ext f = none from fun _ => rfl] at e; cases e), updOk⟩
noncomputable def ev (f : FuncId) (args : List AV) : Option (List AV) := evL Try.prog cfg f args
noncomputable def lp (f k nr : Nat) (s : St) : Option LR := lpL Try.prog cfg f k nr s
theorem ev_eq (f : FuncId) (args : List AV) : ev f args = evTop cfg f args (evBodyG Try.prog cfg (callX Try.prog cfg) (inlD Try.prog cfg (callX Try.prog cfg) 5) (loopL Try.prog cfg f) f args) := evL_eqX f args
theorem lp_eq (f k nr : Nat) (s : St) : lp f k nr s = evRound Try.prog cfg (callX Try.prog cfg) (inlD Try.prog cfg (callX Try.prog cfg) 5) (loopL Try.prog cfg f) (cfg.roll f) (cfg.join f) (loopAt Try.prog f k).1 (loopAt Try.prog f k).2 (retAt Try.prog cfg f nr) s := loopL_eqX f _ _ _ s

-- "bodega/bodegahand.Pick"
theorem ev4 (a0_0 : Int) (a1_0 : Int) : ev 4 [(.v (.int .i64 a0_0)), (.v (.int .i64 a1_0))] =
 cond (ltI a1_0 1)
 (some [(.v (.int .i64 0))])
 (cond (eqI a1_0 0)
 (none)
 (cond (eqI a1_0 0)
 (none)
 (some [(.v (.int .i64 (Int.tmod (IntKind.wrap .i64 ((Int.tmod a0_0 a1_0) + a1_0)) a1_0)))]))) := (ev_eq _ _).trans (by kernel_rfl)
-- "bodega/cache.New"
theorem ev5 (a0_0 : Int) : ev 5 [(.v (.int .i64 a0_0))] =
 cond (ltI a0_0 1)
 (some [(.agg [(.v (.int .i64 0)), (.lst true 9 [])]), (.v (.int .i64 1))])
 (cond (ltI 256 a0_0)
 (some [(.agg [(.v (.int .i64 0)), (.lst true 9 [])]), (.v (.int .i64 1))])
 (some [(.agg [(.v (.int .i64 a0_0)), (.lst true 9 [])]), (.v (.int .i64 0))])) := (ev_eq _ _).trans (by kernel_rfl)
-- "bodega/pointer.Locked"
theorem ev20 (a0_0 : Int) (a0_1 : Int) (a0_2 : Int) (a0_3 : Int) (a0_4 : Int) (a0_5 : Int) (a0_6 : Int) (a0_7 : Int) (a0_8 : Int) : ev 20 [(.agg [(.v (.int .i64 a0_0)), (.v (.int .u64 a0_1)), (.v (.int .u64 a0_2)), (.v (.int .u64 a0_3)), (.v (.int .u64 a0_4)), (.v (.int .u64 a0_5)), (.v (.int .u64 a0_6)), (.v (.int .u64 a0_7)), (.v (.int .u64 a0_8))])] =
 some [(.v (.bool (!((bits .and .u64 a0_1 255) == 0))))] := (ev_eq _ _).trans (by kernel_rfl)
-- "bodega/cache.cachable"
theorem ev14 (a0_0 : Int) (a0_1 : Int) (a0_2 : Int) (a0_3 : Int) (a0_4 : Int) (a0_5 : Int) (a0_6 : Int) (a0_7 : Int) (a0_8 : Int) : ev 14 [(.agg [(.v (.int .i64 a0_0)), (.v (.int .u64 a0_1)), (.v (.int .u64 a0_2)), (.v (.int .u64 a0_3)), (.v (.int .u64 a0_4)), (.v (.int .u64 a0_5)), (.v (.int .u64 a0_6)), (.v (.int .u64 a0_7)), (.v (.int .u64 a0_8))])] =
 cond (leI 96 a0_0)
 (cond (ltI a0_0 256)
 ((ev 20 [(.agg [(.v (.int .i64 a0_0)), (.v (.int .u64 a0_1)), (.v (.int .u64 a0_2)), (.v (.int .u64 a0_3)), (.v (.int .u64 a0_4)), (.v (.int .u64 a0_5)), (.v (.int .u64 a0_6)), (.v (.int .u64 a0_7)), (.v (.int .u64 a0_8))])]).bind fun r2 =>
 cond (isB (cellAt r2 0))
 (some [(.v (.bool (!(avBool (cellAt r2 0)))))])
 (none))
 (some [(.v (.bool false))]))
 (some [(.v (.bool false))]) := (ev_eq _ _).trans (by kernel_rfl)
-- "slices.Clone[[]bodega/api.Page,bodega/api.Page]"
theorem ev15 (a0_0n : Bool) (a0_0 : List (List AV)) : ev 15 [(.lst a0_0n 9 a0_0)] =
 cond a0_0n
 (some [(.ow true 33 9 [])])
 (cond (leN ((0 + (List.length a0_0)) * 72) 140737488355328)
 (some [(.ow ((List.isEmpty a0_0) && false) 33 9 ([] ++ a0_0))])
 (none)) := (ev_eq _ _).trans (by kernel_rfl)
-- "bodega/cache.index$1"
theorem ev17 (a0_0 : Int) (a0_1 : Int) (a0_2 : Int) (a0_3 : Int) (a0_4 : Int) (a0_5 : Int) (a0_6 : Int) (a0_7 : Int) (a0_8 : Int) (c0 : Int) : ev 17 [(.agg [(.v (.int .i64 a0_0)), (.v (.int .u64 a0_1)), (.v (.int .u64 a0_2)), (.v (.int .u64 a0_3)), (.v (.int .u64 a0_4)), (.v (.int .u64 a0_5)), (.v (.int .u64 a0_6)), (.v (.int .u64 a0_7)), (.v (.int .u64 a0_8))]), (.ep [(.v (.int .i64 c0))] 0)] =
 some [(.v (.bool (a0_0 == c0)))] := (ev_eq _ _).trans (by kernel_rfl)
-- "slices.IndexFunc[[]bodega/api.Page,bodega/api.Page]"
theorem ev16 (a0_0n : Bool) (a0_0 : List (List AV)) (a1_0 : Int) : ev 16 [(.lst a0_0n 9 a0_0), (.clo 17 [] [(.ep [(.v (.int .i64 a1_0))] 0)])] =
 (lp 16 0 0 ⟨[(0, (.lst a0_0n 9 a0_0)), (1, (.clo 17 [] [(.ep [(.v (.int .i64 a1_0))] 0)])), (7, (.v (.int .i64 (((List.length a0_0) : Nat) : Int)))), (8, (.v (.int .i64 0)))], []⟩).bind fun r1 =>
 cond (isEx 0 r1)
 (cond (likeStG ⟨[], []⟩ r1.st)
 (some [(.v (.int .i64 (-1)))])
 (none))
 (cond (isRt r1)
 (some r1.outs)
 (none)) := (ev_eq _ _).trans (by kernel_rfl)
theorem lp16_0 (a1_0 : Int) (x0n : Bool) (x0 : List (List AV)) (x7 : Int) (x8 : Int) : lp 16 0 0 ⟨[(0, (.lst x0n 9 x0)), (1, (.clo 17 [] [(.ep [(.v (.int .i64 a1_0))] 0)])), (7, (.v (.int .i64 x7))), (8, (.v (.int .i64 x8)))], []⟩ =
 cond (ltI x8 x7)
 (cond ((leI 0 x8) && (ltI x8 (((List.length x0) : Nat) : Int)))
 (cond ((isI .i64 (cellAt (lget x0 (Int.toNat x8)) 0)) && ((isI .u64 (cellAt (lget x0 (Int.toNat x8)) 1)) && ((isI .u64 (cellAt (lget x0 (Int.toNat x8)) 2)) && ((isI .u64 (cellAt (lget x0 (Int.toNat x8)) 3)) && ((isI .u64 (cellAt (lget x0 (Int.toNat x8)) 4)) && ((isI .u64 (cellAt (lget x0 (Int.toNat x8)) 5)) && ((isI .u64 (cellAt (lget x0 (Int.toNat x8)) 6)) && ((isI .u64 (cellAt (lget x0 (Int.toNat x8)) 7)) && (isI .u64 (cellAt (lget x0 (Int.toNat x8)) 8))))))))))
 ((ev 17 [(.agg [(.v (.int .i64 (avInt (cellAt (lget x0 (Int.toNat x8)) 0)))), (.v (.int .u64 (avInt (cellAt (lget x0 (Int.toNat x8)) 1)))), (.v (.int .u64 (avInt (cellAt (lget x0 (Int.toNat x8)) 2)))), (.v (.int .u64 (avInt (cellAt (lget x0 (Int.toNat x8)) 3)))), (.v (.int .u64 (avInt (cellAt (lget x0 (Int.toNat x8)) 4)))), (.v (.int .u64 (avInt (cellAt (lget x0 (Int.toNat x8)) 5)))), (.v (.int .u64 (avInt (cellAt (lget x0 (Int.toNat x8)) 6)))), (.v (.int .u64 (avInt (cellAt (lget x0 (Int.toNat x8)) 7)))), (.v (.int .u64 (avInt (cellAt (lget x0 (Int.toNat x8)) 8))))]), (.ep [(.v (.int .i64 a1_0))] 0)]).bind fun r11 =>
 cond (isB (cellAt r11 0))
 (cond (avBool (cellAt r11 0))
 (some ⟨none, ⟨[], []⟩, [(.v (.int .i64 x8))]⟩)
 (lp 16 0 0 ⟨[(0, (.lst x0n 9 x0)), (1, (.clo 17 [] [(.ep [(.v (.int .i64 a1_0))] 0)])), (7, (.v (.int .i64 x7))), (8, (.v (.int .i64 (IntKind.wrap .i64 (x8 + 1)))))], []⟩))
 (none))
 (none))
 (none))
 (some ⟨(some 0), ⟨[], []⟩, []⟩) := (lp_eq _ _ _ _).trans (by kernel_rfl)
-- "bodega/cache.index"
theorem ev11 (a0_0 : Int) (a0_1n : Bool) (a0_1 : List (List AV)) (a1_0 : Int) : ev 11 [(.agg [(.v (.int .i64 a0_0)), (.lst a0_1n 9 a0_1)]), (.v (.int .i64 a1_0))] =
 (ev 16 [(.lst a0_1n 9 a0_1), (.clo 17 [] [(.ep [(.v (.int .i64 a1_0))] 0)])]).bind fun r0 =>
 cond (isI .i64 (cellAt r0 0))
 (some [(.v (.int .i64 (avInt (cellAt r0 0))))])
 (none) := (ev_eq _ _).trans (by kernel_rfl)
-- "bodega/cache.Valid"
theorem ev10 (a0_0 : Int) (a0_1n : Bool) (a0_1 : List (List AV)) : ev 10 [(.agg [(.v (.int .i64 a0_0)), (.lst a0_1n 9 a0_1)])] =
 cond (ltI a0_0 1)
 (some [(.v (.bool false))])
 (cond (ltI 256 a0_0)
 (some [(.v (.bool false))])
 (cond (ltI a0_0 (((List.length a0_1) : Nat) : Int))
 (some [(.v (.bool false))])
 ((lp 10 0 0 ⟨[(3, (.ptr 0 0 0)), (23, (.lst a0_1n 9 a0_1)), (24, (.v (.int .i64 (((List.length a0_1) : Nat) : Int)))), (25, (.v (.int .i64 0)))], [⟨1, 46, 1, false, (List.replicate 256 ([(.v (.bool false))] : List AV))⟩]⟩).bind fun r5 =>
 cond (isEx 0 r5)
 (cond (likeStG ⟨[], []⟩ r5.st)
 (some [(.v (.bool true))])
 (none))
 (cond (isRt r5)
 (some r5.outs)
 (none))))) := (ev_eq _ _).trans (by kernel_rfl)
theorem lp10_0 (x23n : Bool) (x23 : List (List AV)) (x24 : Int) (x25 : Int) (b0 : List (List AV)) : lp 10 0 0 ⟨[(3, (.ptr 0 0 0)), (23, (.lst x23n 9 x23)), (24, (.v (.int .i64 x24))), (25, (.v (.int .i64 x25)))], [⟨1, 46, 1, false, b0⟩]⟩ =
 cond (ltI x25 x24)
 (cond ((leI 0 x25) && (ltI x25 (((List.length x23) : Nat) : Int)))
 (cond ((isI .i64 (cellAt (lget x23 (Int.toNat x25)) 0)) && ((isI .u64 (cellAt (lget x23 (Int.toNat x25)) 1)) && ((isI .u64 (cellAt (lget x23 (Int.toNat x25)) 2)) && ((isI .u64 (cellAt (lget x23 (Int.toNat x25)) 3)) && ((isI .u64 (cellAt (lget x23 (Int.toNat x25)) 4)) && ((isI .u64 (cellAt (lget x23 (Int.toNat x25)) 5)) && ((isI .u64 (cellAt (lget x23 (Int.toNat x25)) 6)) && ((isI .u64 (cellAt (lget x23 (Int.toNat x25)) 7)) && (isI .u64 (cellAt (lget x23 (Int.toNat x25)) 8))))))))))
 ((ev 14 [(.agg [(.v (.int .i64 (avInt (cellAt (lget x23 (Int.toNat x25)) 0)))), (.v (.int .u64 (avInt (cellAt (lget x23 (Int.toNat x25)) 1)))), (.v (.int .u64 (avInt (cellAt (lget x23 (Int.toNat x25)) 2)))), (.v (.int .u64 (avInt (cellAt (lget x23 (Int.toNat x25)) 3)))), (.v (.int .u64 (avInt (cellAt (lget x23 (Int.toNat x25)) 4)))), (.v (.int .u64 (avInt (cellAt (lget x23 (Int.toNat x25)) 5)))), (.v (.int .u64 (avInt (cellAt (lget x23 (Int.toNat x25)) 6)))), (.v (.int .u64 (avInt (cellAt (lget x23 (Int.toNat x25)) 7)))), (.v (.int .u64 (avInt (cellAt (lget x23 (Int.toNat x25)) 8))))])]).bind fun r15 =>
 cond (isB (cellAt r15 0))
 (cond (!(avBool (cellAt r15 0)))
 (some ⟨none, ⟨[], []⟩, [(.v (.bool false))]⟩)
 (cond ((leI 0 (avInt (cellAt (lget x23 (Int.toNat x25)) 0))) && (ltI (avInt (cellAt (lget x23 (Int.toNat x25)) 0)) 256))
 (cond ((ltN (Int.toNat (avInt (cellAt (lget x23 (Int.toNat x25)) 0))) (List.length b0)) && (isB (cellAt (lget b0 (Int.toNat (avInt (cellAt (lget x23 (Int.toNat x25)) 0)))) 0)))
 (cond (avBool (cellAt (lget b0 (Int.toNat (avInt (cellAt (lget x23 (Int.toNat x25)) 0)))) 0))
 (some ⟨none, ⟨[], []⟩, [(.v (.bool false))]⟩)
 (cond ((leI 0 (avInt (cellAt (lget x23 (Int.toNat x25)) 0))) && (ltI (avInt (cellAt (lget x23 (Int.toNat x25)) 0)) 256))
 (cond (ltN (Int.toNat (avInt (cellAt (lget x23 (Int.toNat x25)) 0))) (List.length b0))
 (lp 10 0 0 ⟨[(3, (.ptr 0 0 0)), (23, (.lst x23n 9 x23)), (24, (.v (.int .i64 x24))), (25, (.v (.int .i64 (IntKind.wrap .i64 (x25 + 1)))))], [⟨1, 46, 1, false, (List.set b0 (Int.toNat (avInt (cellAt (lget x23 (Int.toNat x25)) 0))) [(.v (.bool true))])⟩]⟩)
 (none))
 (none)))
 (none))
 (none)))
 (none))
 (none))
 (none))
 (some ⟨(some 0), ⟨[], []⟩, []⟩) := (lp_eq _ _ _ _).trans (by kernel_rfl)
-- "bodega/cache.Get"
theorem ev6 (a0_0 : Int) (a0_1n : Bool) (a0_1 : List (List AV)) (a1_0 : Int) : ev 6 [(.agg [(.v (.int .i64 a0_0)), (.lst a0_1n 9 a0_1)]), (.v (.int .i64 a1_0))] =
 (ev 15 [(.lst a0_1n 9 a0_1)]).bind fun r0 =>
 cond (isOw 33 9 (cellAt r0 0))
 ((ev 10 [(.agg [(.v (.int .i64 a0_0)), (.lst (avNil (cellAt r0 0)) 9 (avXs (cellAt r0 0)))])]).bind fun r3 =>
 cond (isB (cellAt r3 0))
 (cond (avBool (cellAt r3 0))
 ((ev 11 [(.agg [(.v (.int .i64 a0_0)), (.lst (avNil (cellAt r0 0)) 9 (avXs (cellAt r0 0)))]), (.v (.int .i64 a1_0))]).bind fun r4 =>
 cond (isI .i64 (cellAt r4 0))
 (cond (ltI (avInt (cellAt r4 0)) 0)
 (some [(.agg [(.v (.int .i64 a0_0)), (.lst (avNil (cellAt r0 0)) 9 (avXs (cellAt r0 0)))]), (.agg [(.v (.int .i64 0)), (.v (.int .u64 0)), (.v (.int .u64 0)), (.v (.int .u64 0)), (.v (.int .u64 0)), (.v (.int .u64 0)), (.v (.int .u64 0)), (.v (.int .u64 0)), (.v (.int .u64 0))]), (.v (.bool false))])
 (cond ((leI 0 (avInt (cellAt r4 0))) && (ltI (avInt (cellAt r4 0)) ((((List.length (avXs (cellAt r0 0))) - 0) : Nat) : Int)))
 (cond ((ltN (0 + (Int.toNat (avInt (cellAt r4 0)))) (List.length (avXs (cellAt r0 0)))) && ((isI .i64 (cellAt (lget (avXs (cellAt r0 0)) (0 + (Int.toNat (avInt (cellAt r4 0))))) 0)) && ((isI .u64 (cellAt (lget (avXs (cellAt r0 0)) (0 + (Int.toNat (avInt (cellAt r4 0))))) 1)) && ((isI .u64 (cellAt (lget (avXs (cellAt r0 0)) (0 + (Int.toNat (avInt (cellAt r4 0))))) 2)) && ((isI .u64 (cellAt (lget (avXs (cellAt r0 0)) (0 + (Int.toNat (avInt (cellAt r4 0))))) 3)) && ((isI .u64 (cellAt (lget (avXs (cellAt r0 0)) (0 + (Int.toNat (avInt (cellAt r4 0))))) 4)) && ((isI .u64 (cellAt (lget (avXs (cellAt r0 0)) (0 + (Int.toNat (avInt (cellAt r4 0))))) 5)) && ((isI .u64 (cellAt (lget (avXs (cellAt r0 0)) (0 + (Int.toNat (avInt (cellAt r4 0))))) 6)) && ((isI .u64 (cellAt (lget (avXs (cellAt r0 0)) (0 + (Int.toNat (avInt (cellAt r4 0))))) 7)) && (isI .u64 (cellAt (lget (avXs (cellAt r0 0)) (0 + (Int.toNat (avInt (cellAt r4 0))))) 8)))))))))))
 ((delG 33 9 (avXs (cellAt r0 0)) [(.v (.int .i64 (avInt (cellAt r4 0)))), (.v (.int .i64 (IntKind.wrap .i64 ((avInt (cellAt r4 0)) + 1))))]).bind fun r17 =>
 cond (leN (List.length (avXs (cellAt r0 0))) 1000000)
 ((insG 33 9 r17 [(.v (.int .i64 0)), (.lst false 9 [[(.v (.int .i64 (avInt (cellAt (lget (avXs (cellAt r0 0)) (0 + (Int.toNat (avInt (cellAt r4 0))))) 0)))), (.v (.int .u64 (avInt (cellAt (lget (avXs (cellAt r0 0)) (0 + (Int.toNat (avInt (cellAt r4 0))))) 1)))), (.v (.int .u64 (avInt (cellAt (lget (avXs (cellAt r0 0)) (0 + (Int.toNat (avInt (cellAt r4 0))))) 2)))), (.v (.int .u64 (avInt (cellAt (lget (avXs (cellAt r0 0)) (0 + (Int.toNat (avInt (cellAt r4 0))))) 3)))), (.v (.int .u64 (avInt (cellAt (lget (avXs (cellAt r0 0)) (0 + (Int.toNat (avInt (cellAt r4 0))))) 4)))), (.v (.int .u64 (avInt (cellAt (lget (avXs (cellAt r0 0)) (0 + (Int.toNat (avInt (cellAt r4 0))))) 5)))), (.v (.int .u64 (avInt (cellAt (lget (avXs (cellAt r0 0)) (0 + (Int.toNat (avInt (cellAt r4 0))))) 6)))), (.v (.int .u64 (avInt (cellAt (lget (avXs (cellAt r0 0)) (0 + (Int.toNat (avInt (cellAt r4 0))))) 7)))), (.v (.int .u64 (avInt (cellAt (lget (avXs (cellAt r0 0)) (0 + (Int.toNat (avInt (cellAt r4 0))))) 8))))]])]).bind fun r20 =>
 cond (leN (List.length r17) 1000000)
 (some [(.agg [(.v (.int .i64 a0_0)), (.lst (((avNil (cellAt r0 0)) && (List.isEmpty r17)) && (List.isEmpty r20)) 9 r20)]), (.agg [(.v (.int .i64 (avInt (cellAt (lget (avXs (cellAt r0 0)) (0 + (Int.toNat (avInt (cellAt r4 0))))) 0)))), (.v (.int .u64 (avInt (cellAt (lget (avXs (cellAt r0 0)) (0 + (Int.toNat (avInt (cellAt r4 0))))) 1)))), (.v (.int .u64 (avInt (cellAt (lget (avXs (cellAt r0 0)) (0 + (Int.toNat (avInt (cellAt r4 0))))) 2)))), (.v (.int .u64 (avInt (cellAt (lget (avXs (cellAt r0 0)) (0 + (Int.toNat (avInt (cellAt r4 0))))) 3)))), (.v (.int .u64 (avInt (cellAt (lget (avXs (cellAt r0 0)) (0 + (Int.toNat (avInt (cellAt r4 0))))) 4)))), (.v (.int .u64 (avInt (cellAt (lget (avXs (cellAt r0 0)) (0 + (Int.toNat (avInt (cellAt r4 0))))) 5)))), (.v (.int .u64 (avInt (cellAt (lget (avXs (cellAt r0 0)) (0 + (Int.toNat (avInt (cellAt r4 0))))) 6)))), (.v (.int .u64 (avInt (cellAt (lget (avXs (cellAt r0 0)) (0 + (Int.toNat (avInt (cellAt r4 0))))) 7)))), (.v (.int .u64 (avInt (cellAt (lget (avXs (cellAt r0 0)) (0 + (Int.toNat (avInt (cellAt r4 0))))) 8))))]), (.v (.bool true))])
 (none))
 (none))
 (none))
 (none)))
 (none))
 (some [(.agg [(.v (.int .i64 a0_0)), (.lst (avNil (cellAt r0 0)) 9 (avXs (cellAt r0 0)))]), (.agg [(.v (.int .i64 0)), (.v (.int .u64 0)), (.v (.int .u64 0)), (.v (.int .u64 0)), (.v (.int .u64 0)), (.v (.int .u64 0)), (.v (.int .u64 0)), (.v (.int .u64 0)), (.v (.int .u64 0))]), (.v (.bool false))]))
 (none))
 (none) := (ev_eq _ _).trans (by kernel_rfl)
-- "bodega/cache.Put"
theorem ev7 (a0_0 : Int) (a0_1n : Bool) (a0_1 : List (List AV)) (a1_0n : Bool) (a1_0 : List (List AV)) : ev 7 [(.agg [(.v (.int .i64 a0_0)), (.lst a0_1n 9 a0_1)]), (.lst a1_0n 9 a1_0)] =
 (ev 15 [(.lst a0_1n 9 a0_1)]).bind fun r0 =>
 cond (isOw 33 9 (cellAt r0 0))
 ((ev 10 [(.agg [(.v (.int .i64 a0_0)), (.lst (avNil (cellAt r0 0)) 9 (avXs (cellAt r0 0)))])]).bind fun r3 =>
 cond (isB (cellAt r3 0))
 (cond (!(avBool (cellAt r3 0)))
 (some [(.agg [(.v (.int .i64 a0_0)), (.lst (avNil (cellAt r0 0)) 9 (avXs (cellAt r0 0)))])])
 ((lp 7 0 0 ⟨[(2, (.ptr 0 0 0)), (4, (.ptr 2 0 0)), (14, (.lst a1_0n 9 a1_0)), (15, (.v (.int .i64 (((List.length a1_0) : Nat) : Int)))), (16, (.v (.int .i64 0)))], [⟨1, 26, 2, true, [[(.v (.int .i64 a0_0)), (.sl (avNil (cellAt r0 0)) 1 0 none)]]⟩, ⟨1, 33, 9, false, (avXs (cellAt r0 0))⟩, ⟨1, 26, 2, true, [[(.v (.int .i64 0)), (.sl true 3 0 none)]]⟩, ⟨1, 33, 9, false, []⟩]⟩).bind fun r6 =>
 cond (isEx 0 r6)
 (cond (likeStG ⟨[(2, (.ptr 0 0 0)), (4, (.ptr 2 0 0))], [⟨1, 26, 2, true, [[(.v (.int .i64 a0_0)), (.sl (avNil (cellAt r0 0)) 1 0 none)]]⟩, ⟨1, 33, 9, false, (avXs (cellAt r0 0))⟩, ⟨1, 26, 2, true, [[(.v (.int .i64 0)), (.sl true 3 0 none)]]⟩, ⟨1, 33, 9, false, []⟩]⟩ r6.st)
 (some [(.agg [(.v (.int .i64 (avInt (cellAt (lget (blAt r6.st.bl 0).xs 0) 0)))), (.lst (avNil (cellAt (lget (blAt r6.st.bl 0).xs 0) 1)) 9 (blAt r6.st.bl 1).xs)])])
 (none))
 (cond (isRt r6)
 (some r6.outs)
 (none))))
 (none))
 (none) := (ev_eq _ _).trans (by kernel_rfl)
theorem lp7_0 (x14n : Bool) (x14 : List (List AV)) (x15 : Int) (x16 : Int) (b0_0 : Int) (b0_1n : Bool) (b1 : List (List AV)) (b2_0 : Int) (b2_1n : Bool) (b3 : List (List AV)) : lp 7 0 0 ⟨[(2, (.ptr 0 0 0)), (4, (.ptr 2 0 0)), (14, (.lst x14n 9 x14)), (15, (.v (.int .i64 x15))), (16, (.v (.int .i64 x16)))], [⟨1, 26, 2, true, [[(.v (.int .i64 b0_0)), (.sl b0_1n 1 0 none)]]⟩, ⟨1, 33, 9, false, b1⟩, ⟨1, 26, 2, true, [[(.v (.int .i64 b2_0)), (.sl b2_1n 3 0 none)]]⟩, ⟨1, 33, 9, false, b3⟩]⟩ =
 cond (ltI x16 x15)
 (cond ((leI 0 x16) && (ltI x16 (((List.length x14) : Nat) : Int)))
 (cond ((isI .i64 (cellAt (lget x14 (Int.toNat x16)) 0)) && ((isI .u64 (cellAt (lget x14 (Int.toNat x16)) 1)) && ((isI .u64 (cellAt (lget x14 (Int.toNat x16)) 2)) && ((isI .u64 (cellAt (lget x14 (Int.toNat x16)) 3)) && ((isI .u64 (cellAt (lget x14 (Int.toNat x16)) 4)) && ((isI .u64 (cellAt (lget x14 (Int.toNat x16)) 5)) && ((isI .u64 (cellAt (lget x14 (Int.toNat x16)) 6)) && ((isI .u64 (cellAt (lget x14 (Int.toNat x16)) 7)) && (isI .u64 (cellAt (lget x14 (Int.toNat x16)) 8))))))))))
 ((ev 14 [(.agg [(.v (.int .i64 (avInt (cellAt (lget x14 (Int.toNat x16)) 0)))), (.v (.int .u64 (avInt (cellAt (lget x14 (Int.toNat x16)) 1)))), (.v (.int .u64 (avInt (cellAt (lget x14 (Int.toNat x16)) 2)))), (.v (.int .u64 (avInt (cellAt (lget x14 (Int.toNat x16)) 3)))), (.v (.int .u64 (avInt (cellAt (lget x14 (Int.toNat x16)) 4)))), (.v (.int .u64 (avInt (cellAt (lget x14 (Int.toNat x16)) 5)))), (.v (.int .u64 (avInt (cellAt (lget x14 (Int.toNat x16)) 6)))), (.v (.int .u64 (avInt (cellAt (lget x14 (Int.toNat x16)) 7)))), (.v (.int .u64 (avInt (cellAt (lget x14 (Int.toNat x16)) 8))))])]).bind fun r22 =>
 cond (isB (cellAt r22 0))
 (cond (!(avBool (cellAt r22 0)))
 (lp 7 0 0 ⟨[(2, (.ptr 0 0 0)), (4, (.ptr 2 0 0)), (14, (.lst x14n 9 x14)), (15, (.v (.int .i64 x15))), (16, (.v (.int .i64 (IntKind.wrap .i64 (x16 + 1)))))], [⟨1, 26, 2, true, [[(.v (.int .i64 b0_0)), (.sl b0_1n 1 0 none)]]⟩, ⟨1, 33, 9, false, b1⟩, ⟨1, 26, 2, true, [[(.v (.int .i64 b2_0)), (.sl b2_1n 3 0 none)]]⟩, ⟨1, 33, 9, false, b3⟩]⟩)
 ((ev 11 [(.agg [(.v (.int .i64 b0_0)), (.lst b0_1n 9 b1)]), (.v (.int .i64 (avInt (cellAt (lget x14 (Int.toNat x16)) 0))))]).bind fun r25 =>
 cond (isI .i64 (cellAt r25 0))
 (cond (leI 0 (avInt (cellAt r25 0)))
 (cond ((leI 0 (avInt (cellAt r25 0))) && (ltI (avInt (cellAt r25 0)) ((((List.length b1) - 0) : Nat) : Int)))
 (cond ((ltN (0 + (Int.toNat (avInt (cellAt r25 0)))) (List.length b1)) && (isI .u64 (cellAt (lget b1 (0 + (Int.toNat (avInt (cellAt r25 0))))) 1)))
 (cond (ltI (avInt (cellAt (lget x14 (Int.toNat x16)) 1)) (avInt (cellAt (lget b1 (0 + (Int.toNat (avInt (cellAt r25 0))))) 1)))
 (cond ((leI 0 (avInt (cellAt r25 0))) && (ltI (avInt (cellAt r25 0)) ((((List.length b1) - 0) : Nat) : Int)))
 (cond ((ltN (0 + (Int.toNat (avInt (cellAt r25 0)))) (List.length b1)) && ((isI .i64 (cellAt (lget b1 (0 + (Int.toNat (avInt (cellAt r25 0))))) 0)) && ((isI .u64 (cellAt (lget b1 (0 + (Int.toNat (avInt (cellAt r25 0))))) 1)) && ((isI .u64 (cellAt (lget b1 (0 + (Int.toNat (avInt (cellAt r25 0))))) 2)) && ((isI .u64 (cellAt (lget b1 (0 + (Int.toNat (avInt (cellAt r25 0))))) 3)) && ((isI .u64 (cellAt (lget b1 (0 + (Int.toNat (avInt (cellAt r25 0))))) 4)) && ((isI .u64 (cellAt (lget b1 (0 + (Int.toNat (avInt (cellAt r25 0))))) 5)) && ((isI .u64 (cellAt (lget b1 (0 + (Int.toNat (avInt (cellAt r25 0))))) 6)) && ((isI .u64 (cellAt (lget b1 (0 + (Int.toNat (avInt (cellAt r25 0))))) 7)) && (isI .u64 (cellAt (lget b1 (0 + (Int.toNat (avInt (cellAt r25 0))))) 8)))))))))))
 ((delG 33 9 b1 [(.v (.int .i64 (avInt (cellAt r25 0)))), (.v (.int .i64 (IntKind.wrap .i64 ((avInt (cellAt r25 0)) + 1))))]).bind fun r40 =>
 cond (leN (List.length b1) 1000000)
 ((insG 33 9 r40 [(.v (.int .i64 0)), (.lst false 9 [[(.v (.int .i64 (avInt (cellAt (lget b1 (0 + (Int.toNat (avInt (cellAt r25 0))))) 0)))), (.v (.int .u64 (avInt (cellAt (lget b1 (0 + (Int.toNat (avInt (cellAt r25 0))))) 1)))), (.v (.int .u64 (avInt (cellAt (lget b1 (0 + (Int.toNat (avInt (cellAt r25 0))))) 2)))), (.v (.int .u64 (avInt (cellAt (lget b1 (0 + (Int.toNat (avInt (cellAt r25 0))))) 3)))), (.v (.int .u64 (avInt (cellAt (lget b1 (0 + (Int.toNat (avInt (cellAt r25 0))))) 4)))), (.v (.int .u64 (avInt (cellAt (lget b1 (0 + (Int.toNat (avInt (cellAt r25 0))))) 5)))), (.v (.int .u64 (avInt (cellAt (lget b1 (0 + (Int.toNat (avInt (cellAt r25 0))))) 6)))), (.v (.int .u64 (avInt (cellAt (lget b1 (0 + (Int.toNat (avInt (cellAt r25 0))))) 7)))), (.v (.int .u64 (avInt (cellAt (lget b1 (0 + (Int.toNat (avInt (cellAt r25 0))))) 8))))]])]).bind fun r43 =>
 cond (leN (List.length r40) 1000000)
 (cond ((leI 0 (if b0_0 < ((((List.length r43) - 0) : Nat) : Int) then b0_0 else ((((List.length r43) - 0) : Nat) : Int))) && (leI (if b0_0 < ((((List.length r43) - 0) : Nat) : Int) then b0_0 else ((((List.length r43) - 0) : Nat) : Int)) (((List.length r43) : Nat) : Int)))
 (lp 7 0 0 ⟨[(2, (.ptr 0 0 0)), (4, (.ptr 2 0 0)), (14, (.lst x14n 9 x14)), (15, (.v (.int .i64 x15))), (16, (.v (.int .i64 (IntKind.wrap .i64 (x16 + 1)))))], [⟨1, 26, 2, true, [[(.v (.int .i64 b0_0)), (.sl ((b0_1n && (List.isEmpty r40)) && (List.isEmpty r43)) 1 0 none)]]⟩, ⟨1, 33, 9, false, (List.take (Int.toNat (if b0_0 < ((((List.length r43) - 0) : Nat) : Int) then b0_0 else ((((List.length r43) - 0) : Nat) : Int))) r43)⟩, ⟨1, 26, 2, true, [[(.v (.int .i64 b2_0)), (.sl b2_1n 3 0 none)]]⟩, ⟨1, 33, 9, false, b3⟩]⟩)
 (none))
 (none))
 (none))
 (none))
 (none))
 ((delG 33 9 b1 [(.v (.int .i64 (avInt (cellAt r25 0)))), (.v (.int .i64 (IntKind.wrap .i64 ((avInt (cellAt r25 0)) + 1))))]).bind fun r52 =>
 cond (leN (List.length b1) 1000000)
 ((insG 33 9 r52 [(.v (.int .i64 0)), (.lst false 9 [[(.v (.int .i64 (avInt (cellAt (lget x14 (Int.toNat x16)) 0)))), (.v (.int .u64 (avInt (cellAt (lget x14 (Int.toNat x16)) 1)))), (.v (.int .u64 (avInt (cellAt (lget x14 (Int.toNat x16)) 2)))), (.v (.int .u64 (avInt (cellAt (lget x14 (Int.toNat x16)) 3)))), (.v (.int .u64 (avInt (cellAt (lget x14 (Int.toNat x16)) 4)))), (.v (.int .u64 (avInt (cellAt (lget x14 (Int.toNat x16)) 5)))), (.v (.int .u64 (avInt (cellAt (lget x14 (Int.toNat x16)) 6)))), (.v (.int .u64 (avInt (cellAt (lget x14 (Int.toNat x16)) 7)))), (.v (.int .u64 (avInt (cellAt (lget x14 (Int.toNat x16)) 8))))]])]).bind fun r55 =>
 cond (leN (List.length r52) 1000000)
 (cond ((leI 0 (if b0_0 < ((((List.length r55) - 0) : Nat) : Int) then b0_0 else ((((List.length r55) - 0) : Nat) : Int))) && (leI (if b0_0 < ((((List.length r55) - 0) : Nat) : Int) then b0_0 else ((((List.length r55) - 0) : Nat) : Int)) (((List.length r55) : Nat) : Int)))
 (lp 7 0 0 ⟨[(2, (.ptr 0 0 0)), (4, (.ptr 2 0 0)), (14, (.lst x14n 9 x14)), (15, (.v (.int .i64 x15))), (16, (.v (.int .i64 (IntKind.wrap .i64 (x16 + 1)))))], [⟨1, 26, 2, true, [[(.v (.int .i64 b0_0)), (.sl ((b0_1n && (List.isEmpty r52)) && (List.isEmpty r55)) 1 0 none)]]⟩, ⟨1, 33, 9, false, (List.take (Int.toNat (if b0_0 < ((((List.length r55) - 0) : Nat) : Int) then b0_0 else ((((List.length r55) - 0) : Nat) : Int))) r55)⟩, ⟨1, 26, 2, true, [[(.v (.int .i64 b2_0)), (.sl b2_1n 3 0 none)]]⟩, ⟨1, 33, 9, false, b3⟩]⟩)
 (none))
 (none))
 (none)))
 (none))
 (none))
 ((insG 33 9 b1 [(.v (.int .i64 0)), (.lst false 9 [[(.v (.int .i64 (avInt (cellAt (lget x14 (Int.toNat x16)) 0)))), (.v (.int .u64 (avInt (cellAt (lget x14 (Int.toNat x16)) 1)))), (.v (.int .u64 (avInt (cellAt (lget x14 (Int.toNat x16)) 2)))), (.v (.int .u64 (avInt (cellAt (lget x14 (Int.toNat x16)) 3)))), (.v (.int .u64 (avInt (cellAt (lget x14 (Int.toNat x16)) 4)))), (.v (.int .u64 (avInt (cellAt (lget x14 (Int.toNat x16)) 5)))), (.v (.int .u64 (avInt (cellAt (lget x14 (Int.toNat x16)) 6)))), (.v (.int .u64 (avInt (cellAt (lget x14 (Int.toNat x16)) 7)))), (.v (.int .u64 (avInt (cellAt (lget x14 (Int.toNat x16)) 8))))]])]).bind fun r63 =>
 cond (leN (List.length b1) 1000000)
 (cond ((leI 0 (if b0_0 < ((((List.length r63) - 0) : Nat) : Int) then b0_0 else ((((List.length r63) - 0) : Nat) : Int))) && (leI (if b0_0 < ((((List.length r63) - 0) : Nat) : Int) then b0_0 else ((((List.length r63) - 0) : Nat) : Int)) (((List.length r63) : Nat) : Int)))
 (lp 7 0 0 ⟨[(2, (.ptr 0 0 0)), (4, (.ptr 2 0 0)), (14, (.lst x14n 9 x14)), (15, (.v (.int .i64 x15))), (16, (.v (.int .i64 (IntKind.wrap .i64 (x16 + 1)))))], [⟨1, 26, 2, true, [[(.v (.int .i64 b0_0)), (.sl (b0_1n && (List.isEmpty r63)) 1 0 none)]]⟩, ⟨1, 33, 9, false, (List.take (Int.toNat (if b0_0 < ((((List.length r63) - 0) : Nat) : Int) then b0_0 else ((((List.length r63) - 0) : Nat) : Int))) r63)⟩, ⟨1, 26, 2, true, [[(.v (.int .i64 b2_0)), (.sl b2_1n 3 0 none)]]⟩, ⟨1, 33, 9, false, b3⟩]⟩)
 (none))
 (none)))
 (none)))
 (none))
 (none))
 (none))
 (some ⟨(some 0), ⟨[(2, (.ptr 0 0 0)), (4, (.ptr 2 0 0))], [⟨1, 26, 2, true, [[(.v (.int .i64 b0_0)), (.sl b0_1n 1 0 none)]]⟩, ⟨1, 33, 9, false, b1⟩, ⟨1, 26, 2, true, [[(.v (.int .i64 b2_0)), (.sl b2_1n 3 0 none)]]⟩, ⟨1, 33, 9, false, b3⟩]⟩, []⟩) := (lp_eq _ _ _ _).trans (by kernel_rfl)
-- "bodega/bodegalaw25.awake"
theorem ev8  : ev 8 [] =
 (ev 5 [(.v (.int .i64 2))]).bind fun r0 =>
 cond ((Ev.isAgg 2 (cellAt r0 0)) && ((isI .i64 (cellAt (obCells (cellAt r0 0)) 0)) && (isL 9 (cellAt (obCells (cellAt r0 0)) 1))))
 (cond (isI .i64 (cellAt r0 1))
 ((ev 7 [(.agg [(.v (.int .i64 (avInt (cellAt (obCells (cellAt r0 0)) 0)))), (.lst (avNil (cellAt (obCells (cellAt r0 0)) 1)) 9 (avXs (cellAt (obCells (cellAt r0 0)) 1)))]), (.lst false 9 [[(.v (.int .i64 110)), (.v (.int .u64 256)), (.v (.int .u64 0)), (.v (.int .u64 0)), (.v (.int .u64 0)), (.v (.int .u64 0)), (.v (.int .u64 0)), (.v (.int .u64 0)), (.v (.int .u64 0))], [(.v (.int .i64 111)), (.v (.int .u64 256)), (.v (.int .u64 0)), (.v (.int .u64 0)), (.v (.int .u64 0)), (.v (.int .u64 0)), (.v (.int .u64 0)), (.v (.int .u64 0)), (.v (.int .u64 0))], [(.v (.int .i64 112)), (.v (.int .u64 256)), (.v (.int .u64 0)), (.v (.int .u64 0)), (.v (.int .u64 0)), (.v (.int .u64 0)), (.v (.int .u64 0)), (.v (.int .u64 0)), (.v (.int .u64 0))]])]).bind fun r5 =>
 cond ((Ev.isAgg 2 (cellAt r5 0)) && ((isI .i64 (cellAt (obCells (cellAt r5 0)) 0)) && (isL 9 (cellAt (obCells (cellAt r5 0)) 1))))
 (cond ((avInt (cellAt r0 1)) == 0)
 (cond ((((List.length (avXs (cellAt (obCells (cellAt r5 0)) 1))) : Nat) : Int) == 2)
 (cond (true && (ltI 0 (((List.length (avXs (cellAt (obCells (cellAt r5 0)) 1))) : Nat) : Int)))
 (cond (isI .i64 (cellAt (lget (avXs (cellAt (obCells (cellAt r5 0)) 1)) 0) 0))
 (cond ((avInt (cellAt (lget (avXs (cellAt (obCells (cellAt r5 0)) 1)) 0) 0)) == 112)
 (cond (true && (ltI 1 (((List.length (avXs (cellAt (obCells (cellAt r5 0)) 1))) : Nat) : Int)))
 (cond (isI .i64 (cellAt (lget (avXs (cellAt (obCells (cellAt r5 0)) 1)) 1) 0))
 (some [(.v (.bool ((avInt (cellAt (lget (avXs (cellAt (obCells (cellAt r5 0)) 1)) 1) 0)) == 111)))])
 (none))
 (none))
 (some [(.v (.bool false))]))
 (none))
 (none))
 (some [(.v (.bool false))]))
 (some [(.v (.bool false))]))
 (none))
 (none))
 (none) := (ev_eq _ _).trans (by kernel_rfl)
-- "bodega/bodegalaw25.CacheRecent"
theorem ev3 (a0_0n : Bool) (a0_0 : List (List AV)) (a1_0 : Int) : ev 3 [(.lst a0_0n 1 a0_0), (.v (.int .i64 a1_0))] =
 (ev 4 [(.v (.int .i64 a1_0)), (.v (.int .i64 10))]).bind fun r0 =>
 cond (isI .i64 (cellAt r0 0))
 (cond (ltI 60 (((List.length a0_0) : Nat) : Int))
 (some [(.v (.bool true))])
 ((ev 5 [(.v (.int .i64 (IntKind.wrap .i64 ((avInt (cellAt r0 0)) + 1))))]).bind fun r4 =>
 cond ((Ev.isAgg 2 (cellAt r4 0)) && ((isI .i64 (cellAt (obCells (cellAt r4 0)) 0)) && (isL 9 (cellAt (obCells (cellAt r4 0)) 1))))
 (cond (isI .i64 (cellAt r4 1))
 (cond (!((avInt (cellAt r4 1)) == 0))
 (some [(.v (.bool false))])
 ((lp 3 0 0 ⟨[(0, (.lst a0_0n 1 a0_0)), (5, (.v (.int .i64 (IntKind.wrap .i64 ((avInt (cellAt r0 0)) + 1))))), (6, (.ptr 0 0 0)), (8, (.sl true 1 0 none)), (9, (.v (.int .i64 0)))], [⟨1, 26, 2, true, [[(.v (.int .i64 (avInt (cellAt (obCells (cellAt r4 0)) 0)))), (.lst (avNil (cellAt (obCells (cellAt r4 0)) 1)) 9 (avXs (cellAt (obCells (cellAt r4 0)) 1)))]]⟩, ⟨1, 3, 1, false, []⟩]⟩).bind fun r9 =>
 cond (isEx 0 r9)
 (cond (likeStG ⟨[(6, (.ptr 0 0 0)), (8, (.sl true 1 0 none))], [⟨1, 26, 2, true, [[(.v (.int .i64 (avInt (cellAt (obCells (cellAt r4 0)) 0)))), (.lst (avNil (cellAt (obCells (cellAt r4 0)) 1)) 9 (avXs (cellAt (obCells (cellAt r4 0)) 1)))]]⟩, ⟨1, 3, 1, false, []⟩]⟩ r9.st)
 (cond (!((((List.length (avXs (cellAt (lget (blAt r9.st.bl 0).xs 0) 1))) : Nat) : Int) == ((((List.length (blAt r9.st.bl 1).xs) - 0) : Nat) : Int)))
 (some [(.v (.bool false))])
 ((lp 3 2 0 ⟨[(6, (.ptr 0 0 0)), (8, (.sl (avNil (frAt r9.st.fr 1).2) 1 0 none)), (16, (.v (.int .i64 0)))], [⟨1, 26, 2, true, [[(.v (.int .i64 (avInt (cellAt (lget (blAt r9.st.bl 0).xs 0) 0)))), (.lst (avNil (cellAt (lget (blAt r9.st.bl 0).xs 0) 1)) 9 (avXs (cellAt (lget (blAt r9.st.bl 0).xs 0) 1)))]]⟩, ⟨1, 3, 1, false, (blAt r9.st.bl 1).xs⟩]⟩).bind fun r17 =>
 cond (isEx 4 r17)
 (cond (likeStG ⟨[], []⟩ r17.st)
 ((ev 8 []).bind fun r18 =>
 cond (isB (cellAt r18 0))
 (some [(.v (.bool (avBool (cellAt r18 0))))])
 (none))
 (none))
 (cond (isRt r17)
 (some r17.outs)
 (none))))
 (none))
 (cond (isRt r9)
 (some r9.outs)
 (none))))
 (none))
 (none)))
 (none) := (ev_eq _ _).trans (by kernel_rfl)
theorem lp3_0 (x0n : Bool) (x0 : List (List AV)) (x5 : Int) (x8n : Bool) (x9 : Int) (b0_0 : Int) (b0_1n : Bool) (b0_1 : List (List AV)) (b1 : List (List AV)) : lp 3 0 0 ⟨[(0, (.lst x0n 1 x0)), (5, (.v (.int .i64 x5))), (6, (.ptr 0 0 0)), (8, (.sl x8n 1 0 none)), (9, (.v (.int .i64 x9)))], [⟨1, 26, 2, true, [[(.v (.int .i64 b0_0)), (.lst b0_1n 9 b0_1)]]⟩, ⟨1, 3, 1, false, b1⟩]⟩ =
 cond (ltI x9 (((List.length x0) : Nat) : Int))
 (cond ((leI 0 x9) && (ltI x9 (((List.length x0) : Nat) : Int)))
 (cond (isI .i64 (cellAt (lget x0 (Int.toNat x9)) 0))
 ((ev 4 [(.v (.int .i64 (avInt (cellAt (lget x0 (Int.toNat x9)) 0)))), (.v (.int .i64 20))]).bind fun r22 =>
 cond (isI .i64 (cellAt r22 0))
 (cond ((Int.tmod x9 3) == 2)
 ((ev 6 [(.agg [(.v (.int .i64 b0_0)), (.lst b0_1n 9 b0_1)]), (.v (.int .i64 (IntKind.wrap .i64 (96 + (avInt (cellAt r22 0))))))]).bind fun r26 =>
 cond ((Ev.isAgg 2 (cellAt r26 0)) && ((isI .i64 (cellAt (obCells (cellAt r26 0)) 0)) && (isL 9 (cellAt (obCells (cellAt r26 0)) 1))))
 (cond ((Ev.isAgg 9 (cellAt r26 1)) && ((isI .i64 (cellAt (obCells (cellAt r26 1)) 0)) && ((isI .u64 (cellAt (obCells (cellAt r26 1)) 1)) && ((isI .u64 (cellAt (obCells (cellAt r26 1)) 2)) && ((isI .u64 (cellAt (obCells (cellAt r26 1)) 3)) && ((isI .u64 (cellAt (obCells (cellAt r26 1)) 4)) && ((isI .u64 (cellAt (obCells (cellAt r26 1)) 5)) && ((isI .u64 (cellAt (obCells (cellAt r26 1)) 6)) && ((isI .u64 (cellAt (obCells (cellAt r26 1)) 7)) && (isI .u64 (cellAt (obCells (cellAt r26 1)) 8)))))))))))
 (cond (isB (cellAt r26 2))
 (cond (avBool (cellAt r26 2))
 (cond (!((avInt (cellAt (obCells (cellAt r26 1)) 0)) == (IntKind.wrap .i64 (96 + (avInt (cellAt r22 0))))))
 (some ⟨none, ⟨[], []⟩, [(.v (.bool false))]⟩)
 (cond (!(avBool (cellAt r26 2)))
 (lp 3 0 0 ⟨[(0, (.lst x0n 1 x0)), (5, (.v (.int .i64 x5))), (6, (.ptr 0 0 0)), (8, (.sl x8n 1 0 none)), (9, (.v (.int .i64 (IntKind.wrap .i64 (x9 + 1)))))], [⟨1, 26, 2, true, [[(.v (.int .i64 (avInt (cellAt (obCells (cellAt r26 0)) 0)))), (.lst (avNil (cellAt (obCells (cellAt r26 0)) 1)) 9 (avXs (cellAt (obCells (cellAt r26 0)) 1)))]]⟩, ⟨1, 3, 1, false, b1⟩]⟩)
 ((lp 3 1 0 ⟨[(0, (.lst x0n 1 x0)), (5, (.v (.int .i64 x5))), (6, (.ptr 0 0 0)), (8, (.sl x8n 1 0 none)), (9, (.v (.int .i64 x9))), (10, (.v (.int .i64 (IntKind.wrap .i64 (96 + (avInt (cellAt r22 0))))))), (14, (.sl false 2 0 none)), (15, (.v (.int .i64 0)))], [⟨1, 26, 2, true, [[(.v (.int .i64 (avInt (cellAt (obCells (cellAt r26 0)) 0)))), (.lst (avNil (cellAt (obCells (cellAt r26 0)) 1)) 9 (avXs (cellAt (obCells (cellAt r26 0)) 1)))]]⟩, ⟨1, 3, 1, false, b1⟩, ⟨1, 3, 1, false, [[(.v (.int .i64 (IntKind.wrap .i64 (96 + (avInt (cellAt r22 0))))))]]⟩]⟩).bind fun r42 =>
 cond (isEx 2 r42)
 (cond (likeStG ⟨[(0, (.lst x0n 1 x0)), (5, (.v (.int .i64 x5))), (6, (.ptr 0 0 0)), (9, (.v (.int .i64 x9))), (14, (.sl false 1 0 none))], [⟨1, 26, 2, true, [[(.v (.int .i64 (avInt (cellAt (obCells (cellAt r26 0)) 0)))), (.lst (avNil (cellAt (obCells (cellAt r26 0)) 1)) 9 (avXs (cellAt (obCells (cellAt r26 0)) 1)))]]⟩, ⟨1, 3, 1, false, [[(.v (.int .i64 (IntKind.wrap .i64 (96 + (avInt (cellAt r22 0))))))]]⟩]⟩ r42.st)
 (lp 3 0 0 ⟨[(0, (.lst (avNil (frAt r42.st.fr 0).2) 1 (avXs (frAt r42.st.fr 0).2))), (5, (.v (.int .i64 (avInt (frAt r42.st.fr 1).2)))), (6, (.ptr 0 0 0)), (8, (.sl (avNil (frAt r42.st.fr 4).2) 1 0 none)), (9, (.v (.int .i64 (IntKind.wrap .i64 ((avInt (frAt r42.st.fr 3).2) + 1)))))], [⟨1, 26, 2, true, [[(.v (.int .i64 (avInt (cellAt (lget (blAt r42.st.bl 0).xs 0) 0)))), (.lst (avNil (cellAt (lget (blAt r42.st.bl 0).xs 0) 1)) 9 (avXs (cellAt (lget (blAt r42.st.bl 0).xs 0) 1)))]]⟩, ⟨1, 3, 1, false, (blAt r42.st.bl 1).xs⟩]⟩)
 (none))
 (cond (isRt r42)
 (some ⟨none, ⟨[], []⟩, r42.outs⟩)
 (none)))))
 (cond (!(avBool (cellAt r26 2)))
 (lp 3 0 0 ⟨[(0, (.lst x0n 1 x0)), (5, (.v (.int .i64 x5))), (6, (.ptr 0 0 0)), (8, (.sl x8n 1 0 none)), (9, (.v (.int .i64 (IntKind.wrap .i64 (x9 + 1)))))], [⟨1, 26, 2, true, [[(.v (.int .i64 (avInt (cellAt (obCells (cellAt r26 0)) 0)))), (.lst (avNil (cellAt (obCells (cellAt r26 0)) 1)) 9 (avXs (cellAt (obCells (cellAt r26 0)) 1)))]]⟩, ⟨1, 3, 1, false, b1⟩]⟩)
 ((lp 3 1 0 ⟨[(0, (.lst x0n 1 x0)), (5, (.v (.int .i64 x5))), (6, (.ptr 0 0 0)), (8, (.sl x8n 1 0 none)), (9, (.v (.int .i64 x9))), (10, (.v (.int .i64 (IntKind.wrap .i64 (96 + (avInt (cellAt r22 0))))))), (14, (.sl false 2 0 none)), (15, (.v (.int .i64 0)))], [⟨1, 26, 2, true, [[(.v (.int .i64 (avInt (cellAt (obCells (cellAt r26 0)) 0)))), (.lst (avNil (cellAt (obCells (cellAt r26 0)) 1)) 9 (avXs (cellAt (obCells (cellAt r26 0)) 1)))]]⟩, ⟨1, 3, 1, false, b1⟩, ⟨1, 3, 1, false, [[(.v (.int .i64 (IntKind.wrap .i64 (96 + (avInt (cellAt r22 0))))))]]⟩]⟩).bind fun r54 =>
 cond (isEx 2 r54)
 (cond (likeStG ⟨[(0, (.lst x0n 1 x0)), (5, (.v (.int .i64 x5))), (6, (.ptr 0 0 0)), (9, (.v (.int .i64 x9))), (14, (.sl false 1 0 none))], [⟨1, 26, 2, true, [[(.v (.int .i64 (avInt (cellAt (obCells (cellAt r26 0)) 0)))), (.lst (avNil (cellAt (obCells (cellAt r26 0)) 1)) 9 (avXs (cellAt (obCells (cellAt r26 0)) 1)))]]⟩, ⟨1, 3, 1, false, [[(.v (.int .i64 (IntKind.wrap .i64 (96 + (avInt (cellAt r22 0))))))]]⟩]⟩ r54.st)
 (lp 3 0 0 ⟨[(0, (.lst (avNil (frAt r54.st.fr 0).2) 1 (avXs (frAt r54.st.fr 0).2))), (5, (.v (.int .i64 (avInt (frAt r54.st.fr 1).2)))), (6, (.ptr 0 0 0)), (8, (.sl (avNil (frAt r54.st.fr 4).2) 1 0 none)), (9, (.v (.int .i64 (IntKind.wrap .i64 ((avInt (frAt r54.st.fr 3).2) + 1)))))], [⟨1, 26, 2, true, [[(.v (.int .i64 (avInt (cellAt (lget (blAt r54.st.bl 0).xs 0) 0)))), (.lst (avNil (cellAt (lget (blAt r54.st.bl 0).xs 0) 1)) 9 (avXs (cellAt (lget (blAt r54.st.bl 0).xs 0) 1)))]]⟩, ⟨1, 3, 1, false, (blAt r54.st.bl 1).xs⟩]⟩)
 (none))
 (cond (isRt r54)
 (some ⟨none, ⟨[], []⟩, r54.outs⟩)
 (none)))))
 (none))
 (none))
 (none))
 ((ev 7 [(.agg [(.v (.int .i64 b0_0)), (.lst b0_1n 9 b0_1)]), (.lst false 9 [[(.v (.int .i64 (IntKind.wrap .i64 (96 + (avInt (cellAt r22 0)))))), (.v (.int .u64 (IntKind.wrap .u64 ((IntKind.wrap .u64 (IntKind.wrap .i64 (x9 + 1))) * 256)))), (.v (.int .u64 0)), (.v (.int .u64 0)), (.v (.int .u64 0)), (.v (.int .u64 0)), (.v (.int .u64 0)), (.v (.int .u64 0)), (.v (.int .u64 0))]])]).bind fun r68 =>
 cond ((Ev.isAgg 2 (cellAt r68 0)) && ((isI .i64 (cellAt (obCells (cellAt r68 0)) 0)) && (isL 9 (cellAt (obCells (cellAt r68 0)) 1))))
 ((lp 3 1 0 ⟨[(0, (.lst x0n 1 x0)), (5, (.v (.int .i64 x5))), (6, (.ptr 0 0 0)), (8, (.sl x8n 1 0 none)), (9, (.v (.int .i64 x9))), (10, (.v (.int .i64 (IntKind.wrap .i64 (96 + (avInt (cellAt r22 0))))))), (14, (.sl false 2 0 none)), (15, (.v (.int .i64 0)))], [⟨1, 26, 2, true, [[(.v (.int .i64 (avInt (cellAt (obCells (cellAt r68 0)) 0)))), (.lst (avNil (cellAt (obCells (cellAt r68 0)) 1)) 9 (avXs (cellAt (obCells (cellAt r68 0)) 1)))]]⟩, ⟨1, 3, 1, false, b1⟩, ⟨1, 3, 1, false, [[(.v (.int .i64 (IntKind.wrap .i64 (96 + (avInt (cellAt r22 0))))))]]⟩]⟩).bind fun r72 =>
 cond (isEx 2 r72)
 (cond (likeStG ⟨[(0, (.lst x0n 1 x0)), (5, (.v (.int .i64 x5))), (6, (.ptr 0 0 0)), (9, (.v (.int .i64 x9))), (14, (.sl false 1 0 none))], [⟨1, 26, 2, true, [[(.v (.int .i64 (avInt (cellAt (obCells (cellAt r68 0)) 0)))), (.lst (avNil (cellAt (obCells (cellAt r68 0)) 1)) 9 (avXs (cellAt (obCells (cellAt r68 0)) 1)))]]⟩, ⟨1, 3, 1, false, [[(.v (.int .i64 (IntKind.wrap .i64 (96 + (avInt (cellAt r22 0))))))]]⟩]⟩ r72.st)
 (lp 3 0 0 ⟨[(0, (.lst (avNil (frAt r72.st.fr 0).2) 1 (avXs (frAt r72.st.fr 0).2))), (5, (.v (.int .i64 (avInt (frAt r72.st.fr 1).2)))), (6, (.ptr 0 0 0)), (8, (.sl (avNil (frAt r72.st.fr 4).2) 1 0 none)), (9, (.v (.int .i64 (IntKind.wrap .i64 ((avInt (frAt r72.st.fr 3).2) + 1)))))], [⟨1, 26, 2, true, [[(.v (.int .i64 (avInt (cellAt (lget (blAt r72.st.bl 0).xs 0) 0)))), (.lst (avNil (cellAt (lget (blAt r72.st.bl 0).xs 0) 1)) 9 (avXs (cellAt (lget (blAt r72.st.bl 0).xs 0) 1)))]]⟩, ⟨1, 3, 1, false, (blAt r72.st.bl 1).xs⟩]⟩)
 (none))
 (cond (isRt r72)
 (some ⟨none, ⟨[], []⟩, r72.outs⟩)
 (none)))
 (none)))
 (none))
 (none))
 (none))
 (some ⟨(some 0), ⟨[(6, (.ptr 0 0 0)), (8, (.sl x8n 1 0 none))], [⟨1, 26, 2, true, [[(.v (.int .i64 b0_0)), (.lst b0_1n 9 b0_1)]]⟩, ⟨1, 3, 1, false, b1⟩]⟩, []⟩) := (lp_eq _ _ _ _).trans (by kernel_rfl)
theorem lp3_2 (x8n : Bool) (x16 : Int) (b0_0 : Int) (b0_1n : Bool) (b0_1 : List (List AV)) (b1 : List (List AV)) : lp 3 2 0 ⟨[(6, (.ptr 0 0 0)), (8, (.sl x8n 1 0 none)), (16, (.v (.int .i64 x16)))], [⟨1, 26, 2, true, [[(.v (.int .i64 b0_0)), (.lst b0_1n 9 b0_1)]]⟩, ⟨1, 3, 1, false, b1⟩]⟩ =
 cond (ltI x16 ((((List.length b1) - 0) : Nat) : Int))
 (cond ((leI 0 x16) && (ltI x16 (((List.length b0_1) : Nat) : Int)))
 (cond (isI .i64 (cellAt (lget b0_1 (Int.toNat x16)) 0))
 (cond ((leI 0 x16) && (ltI x16 ((((List.length b1) - 0) : Nat) : Int)))
 (cond ((ltN (0 + (Int.toNat x16)) (List.length b1)) && (isI .i64 (cellAt (lget b1 (0 + (Int.toNat x16))) 0)))
 (cond (!((avInt (cellAt (lget b0_1 (Int.toNat x16)) 0)) == (avInt (cellAt (lget b1 (0 + (Int.toNat x16))) 0))))
 (some ⟨none, ⟨[], []⟩, [(.v (.bool false))]⟩)
 (lp 3 2 0 ⟨[(6, (.ptr 0 0 0)), (8, (.sl x8n 1 0 none)), (16, (.v (.int .i64 (IntKind.wrap .i64 (x16 + 1)))))], [⟨1, 26, 2, true, [[(.v (.int .i64 b0_0)), (.lst b0_1n 9 b0_1)]]⟩, ⟨1, 3, 1, false, b1⟩]⟩))
 (none))
 (none))
 (none))
 (none))
 (some ⟨(some 4), ⟨[], []⟩, []⟩) := (lp_eq _ _ _ _).trans (by kernel_rfl)
theorem lp3_1 (x0n : Bool) (x0 : List (List AV)) (x5 : Int) (x8n : Bool) (x9 : Int) (x10 : Int) (x14n : Bool) (x15 : Int) (b0_0 : Int) (b0_1n : Bool) (b0_1 : List (List AV)) (b1 : List (List AV)) (b2 : List (List AV)) : lp 3 1 0 ⟨[(0, (.lst x0n 1 x0)), (5, (.v (.int .i64 x5))), (6, (.ptr 0 0 0)), (8, (.sl x8n 1 0 none)), (9, (.v (.int .i64 x9))), (10, (.v (.int .i64 x10))), (14, (.sl x14n 2 0 none)), (15, (.v (.int .i64 x15)))], [⟨1, 26, 2, true, [[(.v (.int .i64 b0_0)), (.lst b0_1n 9 b0_1)]]⟩, ⟨1, 3, 1, false, b1⟩, ⟨1, 3, 1, false, b2⟩]⟩ =
 cond (ltI x15 ((((List.length b1) - 0) : Nat) : Int))
 (cond ((leI 0 x15) && (ltI x15 ((((List.length b1) - 0) : Nat) : Int)))
 (cond ((ltN (0 + (Int.toNat x15)) (List.length b1)) && (isI .i64 (cellAt (lget b1 (0 + (Int.toNat x15))) 0)))
 (cond (!((avInt (cellAt (lget b1 (0 + (Int.toNat x15))) 0)) == x10))
 (cond (ltI ((((List.length b2) - 0) : Nat) : Int) x5)
 (cond ((leI 0 x15) && (ltI x15 ((((List.length b1) - 0) : Nat) : Int)))
 (cond ((ltN (0 + (Int.toNat x15)) (List.length b1)) && (isI .i64 (cellAt (lget b1 (0 + (Int.toNat x15))) 0)))
 (cond (leN (((List.length b2) + 1) * 8) 140737488355328)
 (lp 3 1 0 ⟨[(0, (.lst x0n 1 x0)), (5, (.v (.int .i64 x5))), (6, (.ptr 0 0 0)), (8, (.sl x8n 1 0 none)), (9, (.v (.int .i64 x9))), (10, (.v (.int .i64 x10))), (14, (.sl false 2 0 none)), (15, (.v (.int .i64 (IntKind.wrap .i64 (x15 + 1)))))], [⟨1, 26, 2, true, [[(.v (.int .i64 b0_0)), (.lst b0_1n 9 b0_1)]]⟩, ⟨1, 3, 1, false, b1⟩, ⟨1, 3, 1, false, (b2 ++ [[(.v (.int .i64 (avInt (cellAt (lget b1 (0 + (Int.toNat x15))) 0))))]])⟩]⟩)
 (none))
 (none))
 (none))
 (lp 3 1 0 ⟨[(0, (.lst x0n 1 x0)), (5, (.v (.int .i64 x5))), (6, (.ptr 0 0 0)), (8, (.sl x8n 1 0 none)), (9, (.v (.int .i64 x9))), (10, (.v (.int .i64 x10))), (14, (.sl x14n 2 0 none)), (15, (.v (.int .i64 (IntKind.wrap .i64 (x15 + 1)))))], [⟨1, 26, 2, true, [[(.v (.int .i64 b0_0)), (.lst b0_1n 9 b0_1)]]⟩, ⟨1, 3, 1, false, b1⟩, ⟨1, 3, 1, false, b2⟩]⟩))
 (lp 3 1 0 ⟨[(0, (.lst x0n 1 x0)), (5, (.v (.int .i64 x5))), (6, (.ptr 0 0 0)), (8, (.sl x8n 1 0 none)), (9, (.v (.int .i64 x9))), (10, (.v (.int .i64 x10))), (14, (.sl x14n 2 0 none)), (15, (.v (.int .i64 (IntKind.wrap .i64 (x15 + 1)))))], [⟨1, 26, 2, true, [[(.v (.int .i64 b0_0)), (.lst b0_1n 9 b0_1)]]⟩, ⟨1, 3, 1, false, b1⟩, ⟨1, 3, 1, false, b2⟩]⟩))
 (none))
 (none))
 (some ⟨(some 2), ⟨[(0, (.lst x0n 1 x0)), (5, (.v (.int .i64 x5))), (6, (.ptr 0 0 0)), (9, (.v (.int .i64 x9))), (14, (.sl x14n 1 0 none))], [⟨1, 26, 2, true, [[(.v (.int .i64 b0_0)), (.lst b0_1n 9 b0_1)]]⟩, ⟨1, 3, 1, false, b2⟩]⟩, []⟩) := (lp_eq _ _ _ _).trans (by kernel_rfl)
end Go.Proofs.Ytjbpbidlcegopaa
