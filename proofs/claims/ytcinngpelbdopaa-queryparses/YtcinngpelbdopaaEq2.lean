/- The functions of the chapter, as the evaluator has them. -/
import Derived.Test.YtcinngpelbdopaaEq
set_option linter.all false
namespace Go.Proofs.Ytcinngpelbdopaa
open Go.Ev

-- "(*bodega/query.parser).blanks"
theorem ev62 (a0_0_0 : ByteArray) (a0_0_1 : Int) (a0_0_2 : Int) : ev 62 [(.ob 95 [(.v (.string a0_0_0)), (.v (.int .i64 a0_0_1)), (.v (.int .i64 a0_0_2))])] =
 (lp 62 0 1 ⟨[(0, (.ptr 0 0 0)), (1000000, (.ptr 0 0 0))], [⟨1, 95, 3, true, [[(.v (.string a0_0_0)), (.v (.int .i64 a0_0_1)), (.v (.int .i64 a0_0_2))]]⟩]⟩).bind fun r0 =>
 cond (isEx 0 r0)
 (cond (likeStG ⟨[(1000000, (.ptr 0 0 0))], [⟨1, 95, 3, true, [[(.v (.string a0_0_0)), (.v (.int .i64 a0_0_1)), (.v (.int .i64 a0_0_2))]]⟩]⟩ r0.st)
 (some [(.ob 95 [(.v (.string (avStr (cellAt (lget (blAt r0.st.bl 0).xs 0) 0)))), (.v (.int .i64 (avInt (cellAt (lget (blAt r0.st.bl 0).xs 0) 1)))), (.v (.int .i64 (avInt (cellAt (lget (blAt r0.st.bl 0).xs 0) 2))))])])
 (none))
 (cond (isRt r0)
 (some r0.outs)
 (none)) := (ev_eq _ _).trans (by kernel_rfl)
theorem lp62_0 (b0_0 : ByteArray) (b0_1 : Int) (b0_2 : Int) : lp 62 0 1 ⟨[(0, (.ptr 0 0 0)), (1000000, (.ptr 0 0 0))], [⟨1, 95, 3, true, [[(.v (.string b0_0)), (.v (.int .i64 b0_1)), (.v (.int .i64 b0_2))]]⟩]⟩ =
 cond (ltI b0_1 (((ByteArray.size b0_0) : Nat) : Int))
 (cond ((leI 0 b0_1) && (ltI b0_1 (((ByteArray.size b0_0) : Nat) : Int)))
 (cond ((((UInt8.toNat (Array.getD (ByteArray.data b0_0) (Int.toNat b0_1) 0)) : Nat) : Int) == 32)
 (lp 62 0 1 ⟨[(0, (.ptr 0 0 0)), (1000000, (.ptr 0 0 0))], [⟨1, 95, 3, true, [[(.v (.string b0_0)), (.v (.int .i64 (IntKind.wrap .i64 (b0_1 + 1)))), (.v (.int .i64 b0_2))]]⟩]⟩)
 (some ⟨(some 0), ⟨[(1000000, (.ptr 0 0 0))], [⟨1, 95, 3, true, [[(.v (.string b0_0)), (.v (.int .i64 b0_1)), (.v (.int .i64 b0_2))]]⟩]⟩, []⟩))
 (none))
 (some ⟨(some 0), ⟨[(1000000, (.ptr 0 0 0))], [⟨1, 95, 3, true, [[(.v (.string b0_0)), (.v (.int .i64 b0_1)), (.v (.int .i64 b0_2))]]⟩]⟩, []⟩) := (lp_eq _ _ _ _).trans (by kernel_rfl)
-- "(*bodega/query.parser).peek"
theorem ev38 (a0_0_0 : ByteArray) (a0_0_1 : Int) (a0_0_2 : Int) : ev 38 [(.ob 95 [(.v (.string a0_0_0)), (.v (.int .i64 a0_0_1)), (.v (.int .i64 a0_0_2))])] =
 (ev 62 [(.ob 95 [(.v (.string a0_0_0)), (.v (.int .i64 a0_0_1)), (.v (.int .i64 a0_0_2))])]).bind fun r1 =>
 cond (((isOb 95 (cellAt r1 0)) && (Nat.beq (List.length (obCells (cellAt r1 0))) 3)) && (likeG [(.v (.string a0_0_0)), (.v (.int .i64 a0_0_1)), (.v (.int .i64 a0_0_2))] 0 (obCells (cellAt r1 0))))
 (cond (((leI 0 (avInt (cellAt (obCells (cellAt r1 0)) 1))) && (leI (avInt (cellAt (obCells (cellAt r1 0)) 1)) (((ByteArray.size (avStr (cellAt (obCells (cellAt r1 0)) 0))) : Nat) : Int))) && (leI (((ByteArray.size (avStr (cellAt (obCells (cellAt r1 0)) 0))) : Nat) : Int) (((ByteArray.size (avStr (cellAt (obCells (cellAt r1 0)) 0))) : Nat) : Int)))
 ((ev 63 [(.v (.string (ByteArray.extract (avStr (cellAt (obCells (cellAt r1 0)) 0)) (Int.toNat (avInt (cellAt (obCells (cellAt r1 0)) 1))) (Int.toNat (((ByteArray.size (avStr (cellAt (obCells (cellAt r1 0)) 0))) : Nat) : Int))))), (.v (.string (bs [32, 59])))]).bind fun r6 =>
 cond (isI .i64 (cellAt r6 0))
 (cond (leI 0 (avInt (cellAt r6 0)))
 (cond ((true && (leI 0 (avInt (cellAt r6 0)))) && (leI (avInt (cellAt r6 0)) (((ByteArray.size (ByteArray.extract (avStr (cellAt (obCells (cellAt r1 0)) 0)) (Int.toNat (avInt (cellAt (obCells (cellAt r1 0)) 1))) (Int.toNat (((ByteArray.size (avStr (cellAt (obCells (cellAt r1 0)) 0))) : Nat) : Int)))) : Nat) : Int)))
 (some [(.v (.string (ByteArray.extract (ByteArray.extract (avStr (cellAt (obCells (cellAt r1 0)) 0)) (Int.toNat (avInt (cellAt (obCells (cellAt r1 0)) 1))) (Int.toNat (((ByteArray.size (avStr (cellAt (obCells (cellAt r1 0)) 0))) : Nat) : Int))) 0 (Int.toNat (avInt (cellAt r6 0)))))), (.ob 95 [(.v (.string (avStr (cellAt (obCells (cellAt r1 0)) 0)))), (.v (.int .i64 (avInt (cellAt (obCells (cellAt r1 0)) 1)))), (.v (.int .i64 (avInt (cellAt (obCells (cellAt r1 0)) 2))))])])
 (none))
 (some [(.v (.string (ByteArray.extract (avStr (cellAt (obCells (cellAt r1 0)) 0)) (Int.toNat (avInt (cellAt (obCells (cellAt r1 0)) 1))) (Int.toNat (((ByteArray.size (avStr (cellAt (obCells (cellAt r1 0)) 0))) : Nat) : Int))))), (.ob 95 [(.v (.string (avStr (cellAt (obCells (cellAt r1 0)) 0)))), (.v (.int .i64 (avInt (cellAt (obCells (cellAt r1 0)) 1)))), (.v (.int .i64 (avInt (cellAt (obCells (cellAt r1 0)) 2))))])]))
 (none))
 (none))
 (none) := (ev_eq _ _).trans (by kernel_rfl)
-- "(*bodega/query.parser).fail"
theorem ev39 (a0_0_0 : ByteArray) (a0_0_1 : Int) (a0_0_2 : Int) (a1_0 : Int) : ev 39 [(.ob 95 [(.v (.string a0_0_0)), (.v (.int .i64 a0_0_1)), (.v (.int .i64 a0_0_2))]), (.v (.int .i64 a1_0))] =
 cond (a0_0_2 == 0)
 ((ev 62 [(.ob 95 [(.v (.string a0_0_0)), (.v (.int .i64 a0_0_1)), (.v (.int .i64 a0_0_2))])]).bind fun r0 =>
 cond (((isOb 95 (cellAt r0 0)) && (Nat.beq (List.length (obCells (cellAt r0 0))) 3)) && (likeG [(.v (.string a0_0_0)), (.v (.int .i64 a0_0_1)), (.v (.int .i64 a0_0_2))] 0 (obCells (cellAt r0 0))))
 (some [(.ob 95 [(.v (.string (avStr (cellAt (obCells (cellAt r0 0)) 0)))), (.v (.int .i64 (avInt (cellAt (obCells (cellAt r0 0)) 1)))), (.v (.int .i64 a1_0))])])
 (none))
 (some [(.ob 95 [(.v (.string a0_0_0)), (.v (.int .i64 a0_0_1)), (.v (.int .i64 a0_0_2))])]) := (ev_eq _ _).trans (by kernel_rfl)
-- "(*bodega/query.parser).take"
theorem ev83 (a0_0_0 : ByteArray) (a0_0_1 : Int) (a0_0_2 : Int) (a1_0 : ByteArray) (a2_0 : Bool) : ev 83 [(.ob 95 [(.v (.string a0_0_0)), (.v (.int .i64 a0_0_1)), (.v (.int .i64 a0_0_2))]), (.v (.string a1_0)), (.v (.bool a2_0))] =
 cond (!(a0_0_2 == 0))
 (some [(.ob 95 [(.v (.string a0_0_0)), (.v (.int .i64 a0_0_1)), (.v (.int .i64 a0_0_2))])])
 (cond a2_0
 (some [(.ob 95 [(.v (.string a0_0_0)), (.v (.int .i64 (IntKind.wrap .i64 (a0_0_1 + (((ByteArray.size a1_0) : Nat) : Int))))), (.v (.int .i64 a0_0_2))])])
 ((ev 39 [(.ob 95 [(.v (.string a0_0_0)), (.v (.int .i64 a0_0_1)), (.v (.int .i64 a0_0_2))]), (.v (.int .i64 15))]).bind fun r3 =>
 cond (((isOb 95 (cellAt r3 0)) && (Nat.beq (List.length (obCells (cellAt r3 0))) 3)) && (likeG [(.v (.string a0_0_0)), (.v (.int .i64 a0_0_1)), (.v (.int .i64 a0_0_2))] 0 (obCells (cellAt r3 0))))
 (some [(.ob 95 [(.v (.string (avStr (cellAt (obCells (cellAt r3 0)) 0)))), (.v (.int .i64 (avInt (cellAt (obCells (cellAt r3 0)) 1)))), (.v (.int .i64 (avInt (cellAt (obCells (cellAt r3 0)) 2))))])])
 (none))) := (ev_eq _ _).trans (by kernel_rfl)
-- "slices.Index[[]string,string]"
theorem ev82 (a0_0n : Bool) (a0_0 : List (List AV)) (a1_0 : ByteArray) : ev 82 [(.lst a0_0n 1 a0_0), (.v (.string a1_0))] =
 (lp 82 0 0 ⟨[(0, (.lst a0_0n 1 a0_0)), (1, (.v (.string a1_0))), (7, (.v (.int .i64 (((List.length a0_0) : Nat) : Int)))), (8, (.v (.int .i64 0)))], []⟩).bind fun r1 =>
 cond (isEx 0 r1)
 (cond (likeStG ⟨[], []⟩ r1.st)
 (some [(.v (.int .i64 (-1)))])
 (none))
 (cond (isRt r1)
 (some r1.outs)
 (none)) := (ev_eq _ _).trans (by kernel_rfl)
theorem lp82_0 (x0n : Bool) (x0 : List (List AV)) (x1 : ByteArray) (x7 : Int) (x8 : Int) : lp 82 0 0 ⟨[(0, (.lst x0n 1 x0)), (1, (.v (.string x1))), (7, (.v (.int .i64 x7))), (8, (.v (.int .i64 x8)))], []⟩ =
 cond (ltI x8 x7)
 (cond ((leI 0 x8) && (ltI x8 (((List.length x0) : Nat) : Int)))
 (cond (isS (cellAt (lget x0 (Int.toNat x8)) 0))
 (cond ((ByteArray.toList x1) == (ByteArray.toList (avStr (cellAt (lget x0 (Int.toNat x8)) 0))))
 (some ⟨none, ⟨[], []⟩, [(.v (.int .i64 x8))]⟩)
 (lp 82 0 0 ⟨[(0, (.lst x0n 1 x0)), (1, (.v (.string x1))), (7, (.v (.int .i64 x7))), (8, (.v (.int .i64 (IntKind.wrap .i64 (x8 + 1)))))], []⟩))
 (none))
 (none))
 (some ⟨(some 0), ⟨[], []⟩, []⟩) := (lp_eq _ _ _ _).trans (by kernel_rfl)
-- "(*bodega/query.parser).choice"
theorem ev64 (a0_0_0 : ByteArray) (a0_0_1 : Int) (a0_0_2 : Int) (a1_0n : Bool) (a1_0 : List (List AV)) : ev 64 [(.ob 95 [(.v (.string a0_0_0)), (.v (.int .i64 a0_0_1)), (.v (.int .i64 a0_0_2))]), (.lst a1_0n 1 a1_0)] =
 (ev 38 [(.ob 95 [(.v (.string a0_0_0)), (.v (.int .i64 a0_0_1)), (.v (.int .i64 a0_0_2))])]).bind fun r0 =>
 cond (isS (cellAt r0 0))
 (cond (((isOb 95 (cellAt r0 1)) && (Nat.beq (List.length (obCells (cellAt r0 1))) 3)) && (likeG [(.v (.string a0_0_0)), (.v (.int .i64 a0_0_1)), (.v (.int .i64 a0_0_2))] 0 (obCells (cellAt r0 1))))
 ((ev 82 [(.lst a1_0n 1 a1_0), (.v (.string (avStr (cellAt r0 0))))]).bind fun r5 =>
 cond (isI .i64 (cellAt r5 0))
 (cond (!((ByteArray.toList (avStr (cellAt r0 0))) == (ByteArray.toList (bs []))))
 ((ev 83 [(.ob 95 [(.v (.string (avStr (cellAt (obCells (cellAt r0 1)) 0)))), (.v (.int .i64 (avInt (cellAt (obCells (cellAt r0 1)) 1)))), (.v (.int .i64 (avInt (cellAt (obCells (cellAt r0 1)) 2))))]), (.v (.string (avStr (cellAt r0 0)))), (.v (.bool (leI 0 (avInt (cellAt r5 0)))))]).bind fun r9 =>
 cond (((isOb 95 (cellAt r9 0)) && (Nat.beq (List.length (obCells (cellAt r9 0))) 3)) && (likeG [(.v (.string (avStr (cellAt (obCells (cellAt r0 1)) 0)))), (.v (.int .i64 (avInt (cellAt (obCells (cellAt r0 1)) 1)))), (.v (.int .i64 (avInt (cellAt (obCells (cellAt r0 1)) 2))))] 0 (obCells (cellAt r9 0))))
 (some [(.v (.int .i64 (if 0 > (avInt (cellAt r5 0)) then 0 else (avInt (cellAt r5 0))))), (.ob 95 [(.v (.string (avStr (cellAt (obCells (cellAt r9 0)) 0)))), (.v (.int .i64 (avInt (cellAt (obCells (cellAt r9 0)) 1)))), (.v (.int .i64 (avInt (cellAt (obCells (cellAt r9 0)) 2))))])])
 (none))
 ((ev 83 [(.ob 95 [(.v (.string (avStr (cellAt (obCells (cellAt r0 1)) 0)))), (.v (.int .i64 (avInt (cellAt (obCells (cellAt r0 1)) 1)))), (.v (.int .i64 (avInt (cellAt (obCells (cellAt r0 1)) 2))))]), (.v (.string (avStr (cellAt r0 0)))), (.v (.bool false))]).bind fun r14 =>
 cond (((isOb 95 (cellAt r14 0)) && (Nat.beq (List.length (obCells (cellAt r14 0))) 3)) && (likeG [(.v (.string (avStr (cellAt (obCells (cellAt r0 1)) 0)))), (.v (.int .i64 (avInt (cellAt (obCells (cellAt r0 1)) 1)))), (.v (.int .i64 (avInt (cellAt (obCells (cellAt r0 1)) 2))))] 0 (obCells (cellAt r14 0))))
 (some [(.v (.int .i64 (if 0 > (avInt (cellAt r5 0)) then 0 else (avInt (cellAt r5 0))))), (.ob 95 [(.v (.string (avStr (cellAt (obCells (cellAt r14 0)) 0)))), (.v (.int .i64 (avInt (cellAt (obCells (cellAt r14 0)) 1)))), (.v (.int .i64 (avInt (cellAt (obCells (cellAt r14 0)) 2))))])])
 (none)))
 (none))
 (none))
 (none) := (ev_eq _ _).trans (by kernel_rfl)
-- "strings.CutPrefix"
theorem ev96 (a0_0 : ByteArray) (a1_0 : ByteArray) : ev 96 [(.v (.string a0_0)), (.v (.string a1_0))] =
 (ev 99 [(.v (.string a0_0)), (.v (.string a1_0))]).bind fun r1 =>
 cond (isS (cellAt r1 0))
 (cond (isB (cellAt r1 1))
 (some [(.v (.string (avStr (cellAt r1 0)))), (.v (.bool (avBool (cellAt r1 1))))])
 (none))
 (none) := (ev_eq _ _).trans (by kernel_rfl)
-- "internal/stringslite.CutPrefix"
theorem ev99 (a0_0 : ByteArray) (a1_0 : ByteArray) : ev 99 [(.v (.string a0_0)), (.v (.string a1_0))] =
 (ev 100 [(.v (.string a0_0)), (.v (.string a1_0))]).bind fun r1 =>
 cond (isB (cellAt r1 0))
 (cond (!(avBool (cellAt r1 0)))
 (some [(.v (.string a0_0)), (.v (.bool false))])
 (cond (((leI 0 (((ByteArray.size a1_0) : Nat) : Int)) && (leI (((ByteArray.size a1_0) : Nat) : Int) (((ByteArray.size a0_0) : Nat) : Int))) && (leI (((ByteArray.size a0_0) : Nat) : Int) (((ByteArray.size a0_0) : Nat) : Int)))
 (some [(.v (.string (ByteArray.extract a0_0 (Int.toNat (((ByteArray.size a1_0) : Nat) : Int)) (Int.toNat (((ByteArray.size a0_0) : Nat) : Int))))), (.v (.bool true))])
 (none)))
 (none) := (ev_eq _ _).trans (by kernel_rfl)
-- "internal/stringslite.HasPrefix"
theorem ev100 (a0_0 : ByteArray) (a1_0 : ByteArray) : ev 100 [(.v (.string a0_0)), (.v (.string a1_0))] =
 cond (leI (((ByteArray.size a1_0) : Nat) : Int) (((ByteArray.size a0_0) : Nat) : Int))
 (cond ((true && (leI 0 (((ByteArray.size a1_0) : Nat) : Int))) && (leI (((ByteArray.size a1_0) : Nat) : Int) (((ByteArray.size a0_0) : Nat) : Int)))
 (some [(.v (.bool ((ByteArray.toList (ByteArray.extract a0_0 0 (Int.toNat (((ByteArray.size a1_0) : Nat) : Int)))) == (ByteArray.toList a1_0))))])
 (none))
 (some [(.v (.bool false))]) := (ev_eq _ _).trans (by kernel_rfl)
-- "bodega/query.isDigits"
theorem ev97 (a0_0 : ByteArray) : ev 97 [(.v (.string a0_0))] =
 (lp 97 0 0 ⟨[(0, (.v (.string a0_0))), (5, (.v (.int .i64 (((ByteArray.size a0_0) : Nat) : Int)))), (6, (.v (.int .i64 0)))], []⟩).bind fun r1 =>
 cond (isEx 0 r1)
 (cond (likeStG ⟨[(0, (.v (.string a0_0)))], []⟩ r1.st)
 (cond ((ByteArray.toList (avStr (frAt r1.st.fr 0).2)) == (ByteArray.toList (bs [48])))
 (some [(.v (.bool true))])
 (cond (ltI 0 (((ByteArray.size (avStr (frAt r1.st.fr 0).2)) : Nat) : Int))
 (cond (true && (ltI 0 (((ByteArray.size (avStr (frAt r1.st.fr 0).2)) : Nat) : Int)))
 (some [(.v (.bool (!((((UInt8.toNat (Array.getD (ByteArray.data (avStr (frAt r1.st.fr 0).2)) 0 0)) : Nat) : Int) == 48))))])
 (none))
 (some [(.v (.bool false))])))
 (none))
 (cond (isRt r1)
 (some r1.outs)
 (none)) := (ev_eq _ _).trans (by kernel_rfl)
theorem lp97_0 (x0 : ByteArray) (x5 : Int) (x6 : Int) : lp 97 0 0 ⟨[(0, (.v (.string x0))), (5, (.v (.int .i64 x5))), (6, (.v (.int .i64 x6)))], []⟩ =
 cond (ltI x6 x5)
 (cond ((leI 0 x6) && (ltI x6 (((ByteArray.size x0) : Nat) : Int)))
 (cond (ltI (((UInt8.toNat (Array.getD (ByteArray.data x0) (Int.toNat x6) 0)) : Nat) : Int) 48)
 (some ⟨none, ⟨[], []⟩, [(.v (.bool false))]⟩)
 (cond ((leI 0 x6) && (ltI x6 (((ByteArray.size x0) : Nat) : Int)))
 (cond (ltI 57 (((UInt8.toNat (Array.getD (ByteArray.data x0) (Int.toNat x6) 0)) : Nat) : Int))
 (some ⟨none, ⟨[], []⟩, [(.v (.bool false))]⟩)
 (lp 97 0 0 ⟨[(0, (.v (.string x0))), (5, (.v (.int .i64 x5))), (6, (.v (.int .i64 (IntKind.wrap .i64 (x6 + 1)))))], []⟩))
 (none)))
 (none))
 (some ⟨(some 0), ⟨[(0, (.v (.string x0)))], []⟩, []⟩) := (lp_eq _ _ _ _).trans (by kernel_rfl)
-- "bodega/query.number"
theorem ev94 (a0_0 : ByteArray) (a1_0 : Int) (a2_0 : Int) : ev 94 [(.v (.string a0_0)), (.v (.int .i64 a1_0)), (.v (.int .i64 a2_0))] =
 (ev 96 [(.v (.string a0_0)), (.v (.string (bs [45])))]).bind fun r0 =>
 cond (isS (cellAt r0 0))
 (cond (isB (cellAt r0 1))
 ((ev 97 [(.v (.string (avStr (cellAt r0 0))))]).bind fun r3 =>
 cond (isB (cellAt r3 0))
 (cond (!(avBool (cellAt r3 0)))
 (some [(.v (.int .i64 0)), (.v (.bool false))])
 (cond (avBool (cellAt r0 1))
 (cond ((ByteArray.toList (avStr (cellAt r0 0))) == (ByteArray.toList (bs [48])))
 (some [(.v (.int .i64 0)), (.v (.bool false))])
 (cond (ltI 19 (((ByteArray.size (avStr (cellAt r0 0))) : Nat) : Int))
 (some [(.v (.int .i64 0)), (.v (.bool false))])
 ((lp 94 0 0 ⟨[(1, (.v (.int .i64 a1_0))), (2, (.v (.int .i64 a2_0))), (8, (.v (.string (avStr (cellAt r0 0))))), (9, (.v (.bool (avBool (cellAt r0 1))))), (10, (.v (.int .u64 0))), (34, (.v (.int .i64 (((ByteArray.size (avStr (cellAt r0 0))) : Nat) : Int)))), (35, (.v (.int .i64 0)))], []⟩).bind fun r10 =>
 cond (isEx 0 r10)
 (cond (likeStG ⟨[(1, (.v (.int .i64 a1_0))), (2, (.v (.int .i64 a2_0))), (9, (.v (.bool (avBool (cellAt r0 1))))), (10, (.v (.int .u64 0)))], []⟩ r10.st)
 (cond (avBool (frAt r10.st.fr 2).2)
 (cond (leI (avInt (frAt r10.st.fr 3).2) 9223372036854775808)
 (cond (leI (avInt (frAt r10.st.fr 0).2) (IntKind.wrap .i64 (0 - (IntKind.wrap .i64 (avInt (frAt r10.st.fr 3).2)))))
 (some [(.v (.int .i64 (IntKind.wrap .i64 (0 - (IntKind.wrap .i64 (avInt (frAt r10.st.fr 3).2)))))), (.v (.bool (leI (IntKind.wrap .i64 (0 - (IntKind.wrap .i64 (avInt (frAt r10.st.fr 3).2)))) (avInt (frAt r10.st.fr 1).2))))])
 (some [(.v (.int .i64 (IntKind.wrap .i64 (0 - (IntKind.wrap .i64 (avInt (frAt r10.st.fr 3).2)))))), (.v (.bool false))]))
 (cond (avBool (frAt r10.st.fr 2).2)
 (some [(.v (.int .i64 0)), (.v (.bool false))])
 (cond (ltI 9223372036854775807 (avInt (frAt r10.st.fr 3).2))
 (some [(.v (.int .i64 0)), (.v (.bool false))])
 (cond (leI (avInt (frAt r10.st.fr 0).2) (IntKind.wrap .i64 (avInt (frAt r10.st.fr 3).2)))
 (some [(.v (.int .i64 (IntKind.wrap .i64 (avInt (frAt r10.st.fr 3).2)))), (.v (.bool (leI (IntKind.wrap .i64 (avInt (frAt r10.st.fr 3).2)) (avInt (frAt r10.st.fr 1).2))))])
 (some [(.v (.int .i64 (IntKind.wrap .i64 (avInt (frAt r10.st.fr 3).2)))), (.v (.bool false))])))))
 (cond (avBool (frAt r10.st.fr 2).2)
 (some [(.v (.int .i64 0)), (.v (.bool false))])
 (cond (ltI 9223372036854775807 (avInt (frAt r10.st.fr 3).2))
 (some [(.v (.int .i64 0)), (.v (.bool false))])
 (cond (leI (avInt (frAt r10.st.fr 0).2) (IntKind.wrap .i64 (avInt (frAt r10.st.fr 3).2)))
 (some [(.v (.int .i64 (IntKind.wrap .i64 (avInt (frAt r10.st.fr 3).2)))), (.v (.bool (leI (IntKind.wrap .i64 (avInt (frAt r10.st.fr 3).2)) (avInt (frAt r10.st.fr 1).2))))])
 (some [(.v (.int .i64 (IntKind.wrap .i64 (avInt (frAt r10.st.fr 3).2)))), (.v (.bool false))])))))
 (none))
 (cond (isRt r10)
 (some r10.outs)
 (none)))))
 (cond (ltI 19 (((ByteArray.size (avStr (cellAt r0 0))) : Nat) : Int))
 (some [(.v (.int .i64 0)), (.v (.bool false))])
 ((lp 94 0 0 ⟨[(1, (.v (.int .i64 a1_0))), (2, (.v (.int .i64 a2_0))), (8, (.v (.string (avStr (cellAt r0 0))))), (9, (.v (.bool (avBool (cellAt r0 1))))), (10, (.v (.int .u64 0))), (34, (.v (.int .i64 (((ByteArray.size (avStr (cellAt r0 0))) : Nat) : Int)))), (35, (.v (.int .i64 0)))], []⟩).bind fun r29 =>
 cond (isEx 0 r29)
 (cond (likeStG ⟨[(1, (.v (.int .i64 a1_0))), (2, (.v (.int .i64 a2_0))), (9, (.v (.bool (avBool (cellAt r0 1))))), (10, (.v (.int .u64 0)))], []⟩ r29.st)
 (cond (avBool (frAt r29.st.fr 2).2)
 (cond (leI (avInt (frAt r29.st.fr 3).2) 9223372036854775808)
 (cond (leI (avInt (frAt r29.st.fr 0).2) (IntKind.wrap .i64 (0 - (IntKind.wrap .i64 (avInt (frAt r29.st.fr 3).2)))))
 (some [(.v (.int .i64 (IntKind.wrap .i64 (0 - (IntKind.wrap .i64 (avInt (frAt r29.st.fr 3).2)))))), (.v (.bool (leI (IntKind.wrap .i64 (0 - (IntKind.wrap .i64 (avInt (frAt r29.st.fr 3).2)))) (avInt (frAt r29.st.fr 1).2))))])
 (some [(.v (.int .i64 (IntKind.wrap .i64 (0 - (IntKind.wrap .i64 (avInt (frAt r29.st.fr 3).2)))))), (.v (.bool false))]))
 (cond (avBool (frAt r29.st.fr 2).2)
 (some [(.v (.int .i64 0)), (.v (.bool false))])
 (cond (ltI 9223372036854775807 (avInt (frAt r29.st.fr 3).2))
 (some [(.v (.int .i64 0)), (.v (.bool false))])
 (cond (leI (avInt (frAt r29.st.fr 0).2) (IntKind.wrap .i64 (avInt (frAt r29.st.fr 3).2)))
 (some [(.v (.int .i64 (IntKind.wrap .i64 (avInt (frAt r29.st.fr 3).2)))), (.v (.bool (leI (IntKind.wrap .i64 (avInt (frAt r29.st.fr 3).2)) (avInt (frAt r29.st.fr 1).2))))])
 (some [(.v (.int .i64 (IntKind.wrap .i64 (avInt (frAt r29.st.fr 3).2)))), (.v (.bool false))])))))
 (cond (avBool (frAt r29.st.fr 2).2)
 (some [(.v (.int .i64 0)), (.v (.bool false))])
 (cond (ltI 9223372036854775807 (avInt (frAt r29.st.fr 3).2))
 (some [(.v (.int .i64 0)), (.v (.bool false))])
 (cond (leI (avInt (frAt r29.st.fr 0).2) (IntKind.wrap .i64 (avInt (frAt r29.st.fr 3).2)))
 (some [(.v (.int .i64 (IntKind.wrap .i64 (avInt (frAt r29.st.fr 3).2)))), (.v (.bool (leI (IntKind.wrap .i64 (avInt (frAt r29.st.fr 3).2)) (avInt (frAt r29.st.fr 1).2))))])
 (some [(.v (.int .i64 (IntKind.wrap .i64 (avInt (frAt r29.st.fr 3).2)))), (.v (.bool false))])))))
 (none))
 (cond (isRt r29)
 (some r29.outs)
 (none))))))
 (none))
 (none))
 (none) := (ev_eq _ _).trans (by kernel_rfl)
theorem lp94_0 (x1 : Int) (x2 : Int) (x8 : ByteArray) (x9 : Bool) (x10 : Int) (x34 : Int) (x35 : Int) : lp 94 0 0 ⟨[(1, (.v (.int .i64 x1))), (2, (.v (.int .i64 x2))), (8, (.v (.string x8))), (9, (.v (.bool x9))), (10, (.v (.int .u64 x10))), (34, (.v (.int .i64 x34))), (35, (.v (.int .i64 x35)))], []⟩ =
 cond (ltI x35 x34)
 (cond ((leI 0 x35) && (ltI x35 (((ByteArray.size x8) : Nat) : Int)))
 (lp 94 0 0 ⟨[(1, (.v (.int .i64 x1))), (2, (.v (.int .i64 x2))), (8, (.v (.string x8))), (9, (.v (.bool x9))), (10, (.v (.int .u64 (IntKind.wrap .u64 ((IntKind.wrap .u64 (x10 * 10)) + (IntKind.wrap .u64 (IntKind.wrap .u8 ((((UInt8.toNat (Array.getD (ByteArray.data x8) (Int.toNat x35) 0)) : Nat) : Int) - 48)))))))), (34, (.v (.int .i64 x34))), (35, (.v (.int .i64 (IntKind.wrap .i64 (x35 + 1)))))], []⟩)
 (none))
 (some ⟨(some 0), ⟨[(1, (.v (.int .i64 x1))), (2, (.v (.int .i64 x2))), (9, (.v (.bool x9))), (10, (.v (.int .u64 x10)))], []⟩, []⟩) := (lp_eq _ _ _ _).trans (by kernel_rfl)
-- "(*bodega/query.parser).integer"
theorem ev84 (a0_0_0 : ByteArray) (a0_0_1 : Int) (a0_0_2 : Int) (a1_0 : Int) (a2_0 : Int) : ev 84 [(.ob 95 [(.v (.string a0_0_0)), (.v (.int .i64 a0_0_1)), (.v (.int .i64 a0_0_2))]), (.v (.int .i64 a1_0)), (.v (.int .i64 a2_0))] =
 (ev 38 [(.ob 95 [(.v (.string a0_0_0)), (.v (.int .i64 a0_0_1)), (.v (.int .i64 a0_0_2))])]).bind fun r0 =>
 cond (isS (cellAt r0 0))
 (cond (((isOb 95 (cellAt r0 1)) && (Nat.beq (List.length (obCells (cellAt r0 1))) 3)) && (likeG [(.v (.string a0_0_0)), (.v (.int .i64 a0_0_1)), (.v (.int .i64 a0_0_2))] 0 (obCells (cellAt r0 1))))
 ((ev 94 [(.v (.string (avStr (cellAt r0 0)))), (.v (.int .i64 a1_0)), (.v (.int .i64 a2_0))]).bind fun r5 =>
 cond (isI .i64 (cellAt r5 0))
 (cond (isB (cellAt r5 1))
 ((ev 83 [(.ob 95 [(.v (.string (avStr (cellAt (obCells (cellAt r0 1)) 0)))), (.v (.int .i64 (avInt (cellAt (obCells (cellAt r0 1)) 1)))), (.v (.int .i64 (avInt (cellAt (obCells (cellAt r0 1)) 2))))]), (.v (.string (avStr (cellAt r0 0)))), (.v (.bool (avBool (cellAt r5 1))))]).bind fun r8 =>
 cond (((isOb 95 (cellAt r8 0)) && (Nat.beq (List.length (obCells (cellAt r8 0))) 3)) && (likeG [(.v (.string (avStr (cellAt (obCells (cellAt r0 1)) 0)))), (.v (.int .i64 (avInt (cellAt (obCells (cellAt r0 1)) 1)))), (.v (.int .i64 (avInt (cellAt (obCells (cellAt r0 1)) 2))))] 0 (obCells (cellAt r8 0))))
 (some [(.v (.int .i64 (avInt (cellAt r5 0)))), (.ob 95 [(.v (.string (avStr (cellAt (obCells (cellAt r8 0)) 0)))), (.v (.int .i64 (avInt (cellAt (obCells (cellAt r8 0)) 1)))), (.v (.int .i64 (avInt (cellAt (obCells (cellAt r8 0)) 2))))])])
 (none))
 (none))
 (none))
 (none))
 (none) := (ev_eq _ _).trans (by kernel_rfl)
-- "(*bodega/query.parser).value"
theorem ev85 (a0_0_0 : ByteArray) (a0_0_1 : Int) (a0_0_2 : Int) : ev 85 [(.ob 95 [(.v (.string a0_0_0)), (.v (.int .i64 a0_0_1)), (.v (.int .i64 a0_0_2))])] =
 (ev 84 [(.ob 95 [(.v (.string a0_0_0)), (.v (.int .i64 a0_0_1)), (.v (.int .i64 a0_0_2))]), (.v (.int .i64 (-9223372036854775808))), (.v (.int .i64 9223372036854775807))]).bind fun r0 =>
 cond (isI .i64 (cellAt r0 0))
 (cond (((isOb 95 (cellAt r0 1)) && (Nat.beq (List.length (obCells (cellAt r0 1))) 3)) && (likeG [(.v (.string a0_0_0)), (.v (.int .i64 a0_0_1)), (.v (.int .i64 a0_0_2))] 0 (obCells (cellAt r0 1))))
 (some [(.v (.int .i64 (avInt (cellAt r0 0)))), (.ob 95 [(.v (.string (avStr (cellAt (obCells (cellAt r0 1)) 0)))), (.v (.int .i64 (avInt (cellAt (obCells (cellAt r0 1)) 1)))), (.v (.int .i64 (avInt (cellAt (obCells (cellAt r0 1)) 2))))])])
 (none))
 (none) := (ev_eq _ _).trans (by kernel_rfl)
-- "(*bodega/query.parser).condition"
theorem ev86 (a0_0_0 : ByteArray) (a0_0_1 : Int) (a0_0_2 : Int) : ev 86 [(.ob 95 [(.v (.string a0_0_0)), (.v (.int .i64 a0_0_1)), (.v (.int .i64 a0_0_2))])] =
 (ev 51 []).bind fun r0 =>
 cond (isOw 9 1 (cellAt r0 0))
 ((ev 64 [(.ob 95 [(.v (.string a0_0_0)), (.v (.int .i64 a0_0_1)), (.v (.int .i64 a0_0_2))]), (.lst (avNil (cellAt r0 0)) 1 (avXs (cellAt r0 0)))]).bind fun r3 =>
 cond (isI .i64 (cellAt r3 0))
 (cond (((isOb 95 (cellAt r3 1)) && (Nat.beq (List.length (obCells (cellAt r3 1))) 3)) && (likeG [(.v (.string a0_0_0)), (.v (.int .i64 a0_0_1)), (.v (.int .i64 a0_0_2))] 0 (obCells (cellAt r3 1))))
 ((ev 52 []).bind fun r8 =>
 cond (isOw 9 1 (cellAt r8 0))
 ((ev 64 [(.ob 95 [(.v (.string (avStr (cellAt (obCells (cellAt r3 1)) 0)))), (.v (.int .i64 (avInt (cellAt (obCells (cellAt r3 1)) 1)))), (.v (.int .i64 (avInt (cellAt (obCells (cellAt r3 1)) 2))))]), (.lst (avNil (cellAt r8 0)) 1 (avXs (cellAt r8 0)))]).bind fun r11 =>
 cond (isI .i64 (cellAt r11 0))
 (cond (((isOb 95 (cellAt r11 1)) && (Nat.beq (List.length (obCells (cellAt r11 1))) 3)) && (likeG [(.v (.string (avStr (cellAt (obCells (cellAt r3 1)) 0)))), (.v (.int .i64 (avInt (cellAt (obCells (cellAt r3 1)) 1)))), (.v (.int .i64 (avInt (cellAt (obCells (cellAt r3 1)) 2))))] 0 (obCells (cellAt r11 1))))
 ((ev 85 [(.ob 95 [(.v (.string (avStr (cellAt (obCells (cellAt r11 1)) 0)))), (.v (.int .i64 (avInt (cellAt (obCells (cellAt r11 1)) 1)))), (.v (.int .i64 (avInt (cellAt (obCells (cellAt r11 1)) 2))))])]).bind fun r16 =>
 cond (isI .i64 (cellAt r16 0))
 (cond (((isOb 95 (cellAt r16 1)) && (Nat.beq (List.length (obCells (cellAt r16 1))) 3)) && (likeG [(.v (.string (avStr (cellAt (obCells (cellAt r11 1)) 0)))), (.v (.int .i64 (avInt (cellAt (obCells (cellAt r11 1)) 1)))), (.v (.int .i64 (avInt (cellAt (obCells (cellAt r11 1)) 2))))] 0 (obCells (cellAt r16 1))))
 (some [(.agg [(.v (.int .i64 (avInt (cellAt r3 0)))), (.v (.int .i64 (avInt (cellAt r11 0)))), (.v (.int .i64 (avInt (cellAt r16 0))))]), (.ob 95 [(.v (.string (avStr (cellAt (obCells (cellAt r16 1)) 0)))), (.v (.int .i64 (avInt (cellAt (obCells (cellAt r16 1)) 1)))), (.v (.int .i64 (avInt (cellAt (obCells (cellAt r16 1)) 2))))])])
 (none))
 (none))
 (none))
 (none))
 (none))
 (none))
 (none))
 (none) := (ev_eq _ _).trans (by kernel_rfl)
-- "(*bodega/query.parser).option"
theorem ev87 (a0_0_0 : ByteArray) (a0_0_1 : Int) (a0_0_2 : Int) (a1_0 : ByteArray) : ev 87 [(.ob 95 [(.v (.string a0_0_0)), (.v (.int .i64 a0_0_1)), (.v (.int .i64 a0_0_2))]), (.v (.string a1_0))] =
 cond (!(a0_0_2 == 0))
 (some [(.v (.bool false)), (.ob 95 [(.v (.string a0_0_0)), (.v (.int .i64 a0_0_1)), (.v (.int .i64 a0_0_2))])])
 ((ev 38 [(.ob 95 [(.v (.string a0_0_0)), (.v (.int .i64 a0_0_1)), (.v (.int .i64 a0_0_2))])]).bind fun r1 =>
 cond (isS (cellAt r1 0))
 (cond (((isOb 95 (cellAt r1 1)) && (Nat.beq (List.length (obCells (cellAt r1 1))) 3)) && (likeG [(.v (.string a0_0_0)), (.v (.int .i64 a0_0_1)), (.v (.int .i64 a0_0_2))] 0 (obCells (cellAt r1 1))))
 (cond (!((ByteArray.toList (avStr (cellAt r1 0))) == (ByteArray.toList a1_0)))
 (some [(.v (.bool false)), (.ob 95 [(.v (.string (avStr (cellAt (obCells (cellAt r1 1)) 0)))), (.v (.int .i64 (avInt (cellAt (obCells (cellAt r1 1)) 1)))), (.v (.int .i64 (avInt (cellAt (obCells (cellAt r1 1)) 2))))])])
 (some [(.v (.bool true)), (.ob 95 [(.v (.string (avStr (cellAt (obCells (cellAt r1 1)) 0)))), (.v (.int .i64 (IntKind.wrap .i64 ((avInt (cellAt (obCells (cellAt r1 1)) 1)) + (((ByteArray.size a1_0) : Nat) : Int))))), (.v (.int .i64 (avInt (cellAt (obCells (cellAt r1 1)) 2))))])]))
 (none))
 (none)) := (ev_eq _ _).trans (by kernel_rfl)
-- "(*bodega/query.parser).read"
theorem ev65 (a0_0_0 : ByteArray) (a0_0_1 : Int) (a0_0_2 : Int) (a1_0_0 : Int) (a1_0_1 : Int) (a1_0_2 : Int) (a1_0_3 : Int) (a1_0_4 : Int) (a1_0_5 : Int) (a1_0_6 : Int) (a1_0_7 : Int) (a1_0_8 : Int) (a1_0_9 : Int) (a1_0_10 : Int) (a1_0_11 : Int) (a2_0 : Int) : ev 65 [(.ob 95 [(.v (.string a0_0_0)), (.v (.int .i64 a0_0_1)), (.v (.int .i64 a0_0_2))]), (.ob 49 [(.v (.int .i64 a1_0_0)), (.v (.int .u32 a1_0_1)), (.v (.int .u32 a1_0_2)), (.v (.int .i64 a1_0_3)), (.v (.int .i64 a1_0_4)), (.v (.int .i64 a1_0_5)), (.v (.int .i64 a1_0_6)), (.v (.int .i64 a1_0_7)), (.v (.int .i64 a1_0_8)), (.v (.int .i64 a1_0_9)), (.v (.int .i64 a1_0_10)), (.v (.int .i64 a1_0_11))]), (.v (.int .i64 a2_0))] =
 cond (a2_0 == 0)
 ((ev 84 [(.ob 95 [(.v (.string a0_0_0)), (.v (.int .i64 a0_0_1)), (.v (.int .i64 a0_0_2))]), (.v (.int .i64 1)), (.v (.int .i64 4294967294))]).bind fun r1 =>
 cond (isI .i64 (cellAt r1 0))
 (cond (((isOb 95 (cellAt r1 1)) && (Nat.beq (List.length (obCells (cellAt r1 1))) 3)) && (likeG [(.v (.string a0_0_0)), (.v (.int .i64 a0_0_1)), (.v (.int .i64 a0_0_2))] 0 (obCells (cellAt r1 1))))
 (some [(.ob 95 [(.v (.string (avStr (cellAt (obCells (cellAt r1 1)) 0)))), (.v (.int .i64 (avInt (cellAt (obCells (cellAt r1 1)) 1)))), (.v (.int .i64 (avInt (cellAt (obCells (cellAt r1 1)) 2))))]), (.ob 49 [(.v (.int .i64 a1_0_0)), (.v (.int .u32 (IntKind.wrap .u32 (avInt (cellAt r1 0))))), (.v (.int .u32 a1_0_2)), (.v (.int .i64 a1_0_3)), (.v (.int .i64 a1_0_4)), (.v (.int .i64 a1_0_5)), (.v (.int .i64 a1_0_6)), (.v (.int .i64 a1_0_7)), (.v (.int .i64 a1_0_8)), (.v (.int .i64 a1_0_9)), (.v (.int .i64 a1_0_10)), (.v (.int .i64 a1_0_11))])])
 (none))
 (none))
 (cond (a2_0 == 1)
 ((ev 84 [(.ob 95 [(.v (.string a0_0_0)), (.v (.int .i64 a0_0_1)), (.v (.int .i64 a0_0_2))]), (.v (.int .i64 (IntKind.wrap .i64 a1_0_1))), (.v (.int .i64 4294967294))]).bind fun r9 =>
 cond (isI .i64 (cellAt r9 0))
 (cond (((isOb 95 (cellAt r9 1)) && (Nat.beq (List.length (obCells (cellAt r9 1))) 3)) && (likeG [(.v (.string a0_0_0)), (.v (.int .i64 a0_0_1)), (.v (.int .i64 a0_0_2))] 0 (obCells (cellAt r9 1))))
 (some [(.ob 95 [(.v (.string (avStr (cellAt (obCells (cellAt r9 1)) 0)))), (.v (.int .i64 (avInt (cellAt (obCells (cellAt r9 1)) 1)))), (.v (.int .i64 (avInt (cellAt (obCells (cellAt r9 1)) 2))))]), (.ob 49 [(.v (.int .i64 a1_0_0)), (.v (.int .u32 a1_0_1)), (.v (.int .u32 (IntKind.wrap .u32 (avInt (cellAt r9 0))))), (.v (.int .i64 a1_0_3)), (.v (.int .i64 a1_0_4)), (.v (.int .i64 a1_0_5)), (.v (.int .i64 a1_0_6)), (.v (.int .i64 a1_0_7)), (.v (.int .i64 a1_0_8)), (.v (.int .i64 a1_0_9)), (.v (.int .i64 a1_0_10)), (.v (.int .i64 a1_0_11))])])
 (none))
 (none))
 (cond (a2_0 == 2)
 ((ev 85 [(.ob 95 [(.v (.string a0_0_0)), (.v (.int .i64 a0_0_1)), (.v (.int .i64 a0_0_2))])]).bind fun r16 =>
 cond (isI .i64 (cellAt r16 0))
 (cond (((isOb 95 (cellAt r16 1)) && (Nat.beq (List.length (obCells (cellAt r16 1))) 3)) && (likeG [(.v (.string a0_0_0)), (.v (.int .i64 a0_0_1)), (.v (.int .i64 a0_0_2))] 0 (obCells (cellAt r16 1))))
 ((ev 85 [(.ob 95 [(.v (.string (avStr (cellAt (obCells (cellAt r16 1)) 0)))), (.v (.int .i64 (avInt (cellAt (obCells (cellAt r16 1)) 1)))), (.v (.int .i64 (avInt (cellAt (obCells (cellAt r16 1)) 2))))])]).bind fun r24 =>
 cond (isI .i64 (cellAt r24 0))
 (cond (((isOb 95 (cellAt r24 1)) && (Nat.beq (List.length (obCells (cellAt r24 1))) 3)) && (likeG [(.v (.string (avStr (cellAt (obCells (cellAt r16 1)) 0)))), (.v (.int .i64 (avInt (cellAt (obCells (cellAt r16 1)) 1)))), (.v (.int .i64 (avInt (cellAt (obCells (cellAt r16 1)) 2))))] 0 (obCells (cellAt r24 1))))
 ((ev 85 [(.ob 95 [(.v (.string (avStr (cellAt (obCells (cellAt r24 1)) 0)))), (.v (.int .i64 (avInt (cellAt (obCells (cellAt r24 1)) 1)))), (.v (.int .i64 (avInt (cellAt (obCells (cellAt r24 1)) 2))))])]).bind fun r32 =>
 cond (isI .i64 (cellAt r32 0))
 (cond (((isOb 95 (cellAt r32 1)) && (Nat.beq (List.length (obCells (cellAt r32 1))) 3)) && (likeG [(.v (.string (avStr (cellAt (obCells (cellAt r24 1)) 0)))), (.v (.int .i64 (avInt (cellAt (obCells (cellAt r24 1)) 1)))), (.v (.int .i64 (avInt (cellAt (obCells (cellAt r24 1)) 2))))] 0 (obCells (cellAt r32 1))))
 (some [(.ob 95 [(.v (.string (avStr (cellAt (obCells (cellAt r32 1)) 0)))), (.v (.int .i64 (avInt (cellAt (obCells (cellAt r32 1)) 1)))), (.v (.int .i64 (avInt (cellAt (obCells (cellAt r32 1)) 2))))]), (.ob 49 [(.v (.int .i64 a1_0_0)), (.v (.int .u32 a1_0_1)), (.v (.int .u32 a1_0_2)), (.v (.int .i64 (avInt (cellAt r16 0)))), (.v (.int .i64 (avInt (cellAt r24 0)))), (.v (.int .i64 (avInt (cellAt r32 0)))), (.v (.int .i64 a1_0_6)), (.v (.int .i64 a1_0_7)), (.v (.int .i64 a1_0_8)), (.v (.int .i64 a1_0_9)), (.v (.int .i64 a1_0_10)), (.v (.int .i64 a1_0_11))])])
 (none))
 (none))
 (none))
 (none))
 (none))
 (none))
 (cond (a2_0 == 3)
 ((ev 51 []).bind fun r41 =>
 cond (isOw 9 1 (cellAt r41 0))
 ((ev 64 [(.ob 95 [(.v (.string a0_0_0)), (.v (.int .i64 a0_0_1)), (.v (.int .i64 a0_0_2))]), (.lst (avNil (cellAt r41 0)) 1 (avXs (cellAt r41 0)))]).bind fun r44 =>
 cond (isI .i64 (cellAt r44 0))
 (cond (((isOb 95 (cellAt r44 1)) && (Nat.beq (List.length (obCells (cellAt r44 1))) 3)) && (likeG [(.v (.string a0_0_0)), (.v (.int .i64 a0_0_1)), (.v (.int .i64 a0_0_2))] 0 (obCells (cellAt r44 1))))
 (some [(.ob 95 [(.v (.string (avStr (cellAt (obCells (cellAt r44 1)) 0)))), (.v (.int .i64 (avInt (cellAt (obCells (cellAt r44 1)) 1)))), (.v (.int .i64 (avInt (cellAt (obCells (cellAt r44 1)) 2))))]), (.ob 49 [(.v (.int .i64 a1_0_0)), (.v (.int .u32 a1_0_1)), (.v (.int .u32 a1_0_2)), (.v (.int .i64 a1_0_3)), (.v (.int .i64 a1_0_4)), (.v (.int .i64 a1_0_5)), (.v (.int .i64 (avInt (cellAt r44 0)))), (.v (.int .i64 a1_0_7)), (.v (.int .i64 a1_0_8)), (.v (.int .i64 a1_0_9)), (.v (.int .i64 a1_0_10)), (.v (.int .i64 a1_0_11))])])
 (none))
 (none))
 (none))
 (cond (a2_0 == 4)
 ((ev 85 [(.ob 95 [(.v (.string a0_0_0)), (.v (.int .i64 a0_0_1)), (.v (.int .i64 a0_0_2))])]).bind fun r50 =>
 cond (isI .i64 (cellAt r50 0))
 (cond (((isOb 95 (cellAt r50 1)) && (Nat.beq (List.length (obCells (cellAt r50 1))) 3)) && (likeG [(.v (.string a0_0_0)), (.v (.int .i64 a0_0_1)), (.v (.int .i64 a0_0_2))] 0 (obCells (cellAt r50 1))))
 (some [(.ob 95 [(.v (.string (avStr (cellAt (obCells (cellAt r50 1)) 0)))), (.v (.int .i64 (avInt (cellAt (obCells (cellAt r50 1)) 1)))), (.v (.int .i64 (avInt (cellAt (obCells (cellAt r50 1)) 2))))]), (.ob 49 [(.v (.int .i64 a1_0_0)), (.v (.int .u32 a1_0_1)), (.v (.int .u32 a1_0_2)), (.v (.int .i64 a1_0_3)), (.v (.int .i64 a1_0_4)), (.v (.int .i64 a1_0_5)), (.v (.int .i64 a1_0_6)), (.v (.int .i64 (avInt (cellAt r50 0)))), (.v (.int .i64 a1_0_8)), (.v (.int .i64 a1_0_9)), (.v (.int .i64 a1_0_10)), (.v (.int .i64 a1_0_11))])])
 (none))
 (none))
 (cond (a2_0 == 5)
 ((ev 86 [(.ob 95 [(.v (.string a0_0_0)), (.v (.int .i64 a0_0_1)), (.v (.int .i64 a0_0_2))])]).bind fun r56 =>
 cond ((Ev.isAgg 3 (cellAt r56 0)) && ((isI .i64 (cellAt (obCells (cellAt r56 0)) 0)) && ((isI .i64 (cellAt (obCells (cellAt r56 0)) 1)) && (isI .i64 (cellAt (obCells (cellAt r56 0)) 2)))))
 (cond (((isOb 95 (cellAt r56 1)) && (Nat.beq (List.length (obCells (cellAt r56 1))) 3)) && (likeG [(.v (.string a0_0_0)), (.v (.int .i64 a0_0_1)), (.v (.int .i64 a0_0_2))] 0 (obCells (cellAt r56 1))))
 (some [(.ob 95 [(.v (.string (avStr (cellAt (obCells (cellAt r56 1)) 0)))), (.v (.int .i64 (avInt (cellAt (obCells (cellAt r56 1)) 1)))), (.v (.int .i64 (avInt (cellAt (obCells (cellAt r56 1)) 2))))]), (.ob 49 [(.v (.int .i64 a1_0_0)), (.v (.int .u32 a1_0_1)), (.v (.int .u32 a1_0_2)), (.v (.int .i64 a1_0_3)), (.v (.int .i64 a1_0_4)), (.v (.int .i64 a1_0_5)), (.v (.int .i64 a1_0_6)), (.v (.int .i64 a1_0_7)), (.v (.int .i64 (avInt (cellAt (obCells (cellAt r56 0)) 0)))), (.v (.int .i64 (avInt (cellAt (obCells (cellAt r56 0)) 1)))), (.v (.int .i64 (avInt (cellAt (obCells (cellAt r56 0)) 2)))), (.v (.int .i64 a1_0_11))])])
 (none))
 (none))
 (cond (a2_0 == 6)
 ((ev 87 [(.ob 95 [(.v (.string a0_0_0)), (.v (.int .i64 a0_0_1)), (.v (.int .i64 a0_0_2))]), (.v (.string (bs [119, 104, 101, 114, 101])))]).bind fun r64 =>
 cond (isB (cellAt r64 0))
 (cond (((isOb 95 (cellAt r64 1)) && (Nat.beq (List.length (obCells (cellAt r64 1))) 3)) && (likeG [(.v (.string a0_0_0)), (.v (.int .i64 a0_0_1)), (.v (.int .i64 a0_0_2))] 0 (obCells (cellAt r64 1))))
 (cond (avBool (cellAt r64 0))
 ((ev 86 [(.ob 95 [(.v (.string (avStr (cellAt (obCells (cellAt r64 1)) 0)))), (.v (.int .i64 (avInt (cellAt (obCells (cellAt r64 1)) 1)))), (.v (.int .i64 (avInt (cellAt (obCells (cellAt r64 1)) 2))))])]).bind fun r68 =>
 cond ((Ev.isAgg 3 (cellAt r68 0)) && ((isI .i64 (cellAt (obCells (cellAt r68 0)) 0)) && ((isI .i64 (cellAt (obCells (cellAt r68 0)) 1)) && (isI .i64 (cellAt (obCells (cellAt r68 0)) 2)))))
 (cond (((isOb 95 (cellAt r68 1)) && (Nat.beq (List.length (obCells (cellAt r68 1))) 3)) && (likeG [(.v (.string (avStr (cellAt (obCells (cellAt r64 1)) 0)))), (.v (.int .i64 (avInt (cellAt (obCells (cellAt r64 1)) 1)))), (.v (.int .i64 (avInt (cellAt (obCells (cellAt r64 1)) 2))))] 0 (obCells (cellAt r68 1))))
 (some [(.ob 95 [(.v (.string (avStr (cellAt (obCells (cellAt r68 1)) 0)))), (.v (.int .i64 (avInt (cellAt (obCells (cellAt r68 1)) 1)))), (.v (.int .i64 (avInt (cellAt (obCells (cellAt r68 1)) 2))))]), (.ob 49 [(.v (.int .i64 a1_0_0)), (.v (.int .u32 a1_0_1)), (.v (.int .u32 a1_0_2)), (.v (.int .i64 a1_0_3)), (.v (.int .i64 a1_0_4)), (.v (.int .i64 a1_0_5)), (.v (.int .i64 a1_0_6)), (.v (.int .i64 a1_0_7)), (.v (.int .i64 (avInt (cellAt (obCells (cellAt r68 0)) 0)))), (.v (.int .i64 (avInt (cellAt (obCells (cellAt r68 0)) 1)))), (.v (.int .i64 (avInt (cellAt (obCells (cellAt r68 0)) 2)))), (.v (.int .i64 a1_0_11))])])
 (none))
 (none))
 (some [(.ob 95 [(.v (.string (avStr (cellAt (obCells (cellAt r64 1)) 0)))), (.v (.int .i64 (avInt (cellAt (obCells (cellAt r64 1)) 1)))), (.v (.int .i64 (avInt (cellAt (obCells (cellAt r64 1)) 2))))]), (.ob 49 [(.v (.int .i64 a1_0_0)), (.v (.int .u32 a1_0_1)), (.v (.int .u32 a1_0_2)), (.v (.int .i64 a1_0_3)), (.v (.int .i64 a1_0_4)), (.v (.int .i64 a1_0_5)), (.v (.int .i64 a1_0_6)), (.v (.int .i64 a1_0_7)), (.v (.int .i64 a1_0_8)), (.v (.int .i64 a1_0_9)), (.v (.int .i64 a1_0_10)), (.v (.int .i64 a1_0_11))])]))
 (none))
 (none))
 (cond (a2_0 == 7)
 ((ev 87 [(.ob 95 [(.v (.string a0_0_0)), (.v (.int .i64 a0_0_1)), (.v (.int .i64 a0_0_2))]), (.v (.string (bs [108, 105, 109, 105, 116])))]).bind fun r76 =>
 cond (isB (cellAt r76 0))
 (cond (((isOb 95 (cellAt r76 1)) && (Nat.beq (List.length (obCells (cellAt r76 1))) 3)) && (likeG [(.v (.string a0_0_0)), (.v (.int .i64 a0_0_1)), (.v (.int .i64 a0_0_2))] 0 (obCells (cellAt r76 1))))
 (cond (avBool (cellAt r76 0))
 ((ev 84 [(.ob 95 [(.v (.string (avStr (cellAt (obCells (cellAt r76 1)) 0)))), (.v (.int .i64 (avInt (cellAt (obCells (cellAt r76 1)) 1)))), (.v (.int .i64 (avInt (cellAt (obCells (cellAt r76 1)) 2))))]), (.v (.int .i64 1)), (.v (.int .i64 64))]).bind fun r80 =>
 cond (isI .i64 (cellAt r80 0))
 (cond (((isOb 95 (cellAt r80 1)) && (Nat.beq (List.length (obCells (cellAt r80 1))) 3)) && (likeG [(.v (.string (avStr (cellAt (obCells (cellAt r76 1)) 0)))), (.v (.int .i64 (avInt (cellAt (obCells (cellAt r76 1)) 1)))), (.v (.int .i64 (avInt (cellAt (obCells (cellAt r76 1)) 2))))] 0 (obCells (cellAt r80 1))))
 (some [(.ob 95 [(.v (.string (avStr (cellAt (obCells (cellAt r80 1)) 0)))), (.v (.int .i64 (avInt (cellAt (obCells (cellAt r80 1)) 1)))), (.v (.int .i64 (avInt (cellAt (obCells (cellAt r80 1)) 2))))]), (.ob 49 [(.v (.int .i64 a1_0_0)), (.v (.int .u32 a1_0_1)), (.v (.int .u32 a1_0_2)), (.v (.int .i64 a1_0_3)), (.v (.int .i64 a1_0_4)), (.v (.int .i64 a1_0_5)), (.v (.int .i64 a1_0_6)), (.v (.int .i64 a1_0_7)), (.v (.int .i64 a1_0_8)), (.v (.int .i64 a1_0_9)), (.v (.int .i64 a1_0_10)), (.v (.int .i64 (avInt (cellAt r80 0))))])])
 (none))
 (none))
 (some [(.ob 95 [(.v (.string (avStr (cellAt (obCells (cellAt r76 1)) 0)))), (.v (.int .i64 (avInt (cellAt (obCells (cellAt r76 1)) 1)))), (.v (.int .i64 (avInt (cellAt (obCells (cellAt r76 1)) 2))))]), (.ob 49 [(.v (.int .i64 a1_0_0)), (.v (.int .u32 a1_0_1)), (.v (.int .u32 a1_0_2)), (.v (.int .i64 a1_0_3)), (.v (.int .i64 a1_0_4)), (.v (.int .i64 a1_0_5)), (.v (.int .i64 a1_0_6)), (.v (.int .i64 a1_0_7)), (.v (.int .i64 a1_0_8)), (.v (.int .i64 a1_0_9)), (.v (.int .i64 a1_0_10)), (.v (.int .i64 a1_0_11))])]))
 (none))
 (none))
 (some [(.ob 95 [(.v (.string a0_0_0)), (.v (.int .i64 a0_0_1)), (.v (.int .i64 a0_0_2))]), (.ob 49 [(.v (.int .i64 a1_0_0)), (.v (.int .u32 a1_0_1)), (.v (.int .u32 a1_0_2)), (.v (.int .i64 a1_0_3)), (.v (.int .i64 a1_0_4)), (.v (.int .i64 a1_0_5)), (.v (.int .i64 a1_0_6)), (.v (.int .i64 a1_0_7)), (.v (.int .i64 a1_0_8)), (.v (.int .i64 a1_0_9)), (.v (.int .i64 a1_0_10)), (.v (.int .i64 a1_0_11))])])))))))) := (ev_eq _ _).trans (by kernel_rfl)
-- "(*bodega/query.parser).statement"
theorem ev40 (a0_0_0 : ByteArray) (a0_0_1 : Int) (a0_0_2 : Int) : ev 40 [(.ob 95 [(.v (.string a0_0_0)), (.v (.int .i64 a0_0_1)), (.v (.int .i64 a0_0_2))])] =
 (ev 33 []).bind fun r0 =>
 cond (isOw 85 2 (cellAt r0 0))
 ((lp 40 0 1 ⟨[(0, (.ptr 0 0 0)), (2, (.ptr 1 0 0)), (3, (.sl true 2 0 none)), (9, (.sl (avNil (cellAt r0 0)) 3 0 none)), (10, (.v (.int .i64 ((((List.length (avXs (cellAt r0 0))) - 0) : Nat) : Int)))), (11, (.v (.int .i64 0))), (1000000, (.ptr 0 0 0))], [⟨1, 95, 3, true, [[(.v (.string a0_0_0)), (.v (.int .i64 a0_0_1)), (.v (.int .i64 a0_0_2))]]⟩, ⟨1, 49, 12, true, [[(.v (.int .i64 0)), (.v (.int .u32 0)), (.v (.int .u32 0)), (.v (.int .i64 0)), (.v (.int .i64 0)), (.v (.int .i64 0)), (.v (.int .i64 0)), (.v (.int .i64 0)), (.v (.int .i64 0)), (.v (.int .i64 0)), (.v (.int .i64 0)), (.v (.int .i64 0))]]⟩, ⟨1, 9, 1, false, []⟩, ⟨1, 85, 2, false, (avXs (cellAt r0 0))⟩]⟩).bind fun r4 =>
 cond (isEx 0 r4)
 (cond (likeStG ⟨[(0, (.ptr 0 0 0)), (2, (.ptr 1 0 0)), (3, (.sl true 2 0 none)), (1000000, (.ptr 0 0 0))], [⟨1, 95, 3, true, [[(.v (.string a0_0_0)), (.v (.int .i64 a0_0_1)), (.v (.int .i64 a0_0_2))]]⟩, ⟨1, 49, 12, true, [[(.v (.int .i64 0)), (.v (.int .u32 0)), (.v (.int .u32 0)), (.v (.int .i64 0)), (.v (.int .i64 0)), (.v (.int .i64 0)), (.v (.int .i64 0)), (.v (.int .i64 0)), (.v (.int .i64 0)), (.v (.int .i64 0)), (.v (.int .i64 0)), (.v (.int .i64 0))]]⟩, ⟨1, 9, 1, false, []⟩]⟩ r4.st)
 ((ev 64 [(.ob 95 [(.v (.string (avStr (cellAt (lget (blAt r4.st.bl 0).xs 0) 0)))), (.v (.int .i64 (avInt (cellAt (lget (blAt r4.st.bl 0).xs 0) 1)))), (.v (.int .i64 (avInt (cellAt (lget (blAt r4.st.bl 0).xs 0) 2))))]), (.lst (avNil (frAt r4.st.fr 2).2) 1 (blAt r4.st.bl 2).xs)]).bind fun r22 =>
 cond (isI .i64 (cellAt r22 0))
 (cond (((isOb 95 (cellAt r22 1)) && (Nat.beq (List.length (obCells (cellAt r22 1))) 3)) && (likeG [(.v (.string (avStr (cellAt (lget (blAt r4.st.bl 0).xs 0) 0)))), (.v (.int .i64 (avInt (cellAt (lget (blAt r4.st.bl 0).xs 0) 1)))), (.v (.int .i64 (avInt (cellAt (lget (blAt r4.st.bl 0).xs 0) 2))))] 0 (obCells (cellAt r22 1))))
 (cond (!((avInt (cellAt (obCells (cellAt r22 1)) 2)) == 0))
 (some [(.agg [(.v (.int .i64 (avInt (cellAt r22 0)))), (.v (.int .u32 0)), (.v (.int .u32 0)), (.v (.int .i64 0)), (.v (.int .i64 0)), (.v (.int .i64 0)), (.v (.int .i64 0)), (.v (.int .i64 0)), (.v (.int .i64 0)), (.v (.int .i64 0)), (.v (.int .i64 0)), (.v (.int .i64 0))]), (.ob 95 [(.v (.string (avStr (cellAt (obCells (cellAt r22 1)) 0)))), (.v (.int .i64 (avInt (cellAt (obCells (cellAt r22 1)) 1)))), (.v (.int .i64 (avInt (cellAt (obCells (cellAt r22 1)) 2))))])])
 ((ev 33 []).bind fun r27 =>
 cond (isOw 85 2 (cellAt r27 0))
 (cond ((leI 0 (avInt (cellAt r22 0))) && (ltI (avInt (cellAt r22 0)) ((((List.length (avXs (cellAt r27 0))) - 0) : Nat) : Int)))
 (cond ((ltN (0 + (Int.toNat (avInt (cellAt r22 0)))) (List.length (avXs (cellAt r27 0)))) && (isL 1 (cellAt (lget (avXs (cellAt r27 0)) (0 + (Int.toNat (avInt (cellAt r22 0))))) 1)))
 ((lp 40 1 1 ⟨[(0, (.ptr 0 0 0)), (2, (.ptr 1 0 0)), (6, (.ptr 2 0 0)), (36, (.lst (avNil (cellAt (lget (avXs (cellAt r27 0)) (0 + (Int.toNat (avInt (cellAt r22 0))))) 1)) 1 (avXs (cellAt (lget (avXs (cellAt r27 0)) (0 + (Int.toNat (avInt (cellAt r22 0))))) 1)))), (37, (.v (.int .i64 (((List.length (avXs (cellAt (lget (avXs (cellAt r27 0)) (0 + (Int.toNat (avInt (cellAt r22 0))))) 1))) : Nat) : Int)))), (38, (.v (.int .i64 0))), (1000000, (.ptr 0 0 0))], [⟨1, 95, 3, true, [[(.v (.string (avStr (cellAt (obCells (cellAt r22 1)) 0)))), (.v (.int .i64 (avInt (cellAt (obCells (cellAt r22 1)) 1)))), (.v (.int .i64 (avInt (cellAt (obCells (cellAt r22 1)) 2))))]]⟩, ⟨1, 49, 12, true, [[(.v (.int .i64 (avInt (cellAt (lget (blAt r4.st.bl 1).xs 0) 0)))), (.v (.int .u32 (avInt (cellAt (lget (blAt r4.st.bl 1).xs 0) 1)))), (.v (.int .u32 (avInt (cellAt (lget (blAt r4.st.bl 1).xs 0) 2)))), (.v (.int .i64 (avInt (cellAt (lget (blAt r4.st.bl 1).xs 0) 3)))), (.v (.int .i64 (avInt (cellAt (lget (blAt r4.st.bl 1).xs 0) 4)))), (.v (.int .i64 (avInt (cellAt (lget (blAt r4.st.bl 1).xs 0) 5)))), (.v (.int .i64 (avInt (cellAt (lget (blAt r4.st.bl 1).xs 0) 6)))), (.v (.int .i64 (avInt (cellAt (lget (blAt r4.st.bl 1).xs 0) 7)))), (.v (.int .i64 (avInt (cellAt (lget (blAt r4.st.bl 1).xs 0) 8)))), (.v (.int .i64 (avInt (cellAt (lget (blAt r4.st.bl 1).xs 0) 9)))), (.v (.int .i64 (avInt (cellAt (lget (blAt r4.st.bl 1).xs 0) 10)))), (.v (.int .i64 (avInt (cellAt (lget (blAt r4.st.bl 1).xs 0) 11))))]]⟩, ⟨1, 49, 12, true, [[(.v (.int .i64 (avInt (cellAt r22 0)))), (.v (.int .u32 0)), (.v (.int .u32 0)), (.v (.int .i64 0)), (.v (.int .i64 0)), (.v (.int .i64 0)), (.v (.int .i64 0)), (.v (.int .i64 0)), (.v (.int .i64 0)), (.v (.int .i64 0)), (.v (.int .i64 0)), (.v (.int .i64 0))]]⟩]⟩).bind fun r34 =>
 cond (isEx 2 r34)
 (cond (likeStG ⟨[(2, (.ptr 0 0 0)), (6, (.ptr 1 0 0)), (1000000, (.ptr 2 0 0))], [⟨1, 49, 12, true, [[(.v (.int .i64 (avInt (cellAt (lget (blAt r4.st.bl 1).xs 0) 0)))), (.v (.int .u32 (avInt (cellAt (lget (blAt r4.st.bl 1).xs 0) 1)))), (.v (.int .u32 (avInt (cellAt (lget (blAt r4.st.bl 1).xs 0) 2)))), (.v (.int .i64 (avInt (cellAt (lget (blAt r4.st.bl 1).xs 0) 3)))), (.v (.int .i64 (avInt (cellAt (lget (blAt r4.st.bl 1).xs 0) 4)))), (.v (.int .i64 (avInt (cellAt (lget (blAt r4.st.bl 1).xs 0) 5)))), (.v (.int .i64 (avInt (cellAt (lget (blAt r4.st.bl 1).xs 0) 6)))), (.v (.int .i64 (avInt (cellAt (lget (blAt r4.st.bl 1).xs 0) 7)))), (.v (.int .i64 (avInt (cellAt (lget (blAt r4.st.bl 1).xs 0) 8)))), (.v (.int .i64 (avInt (cellAt (lget (blAt r4.st.bl 1).xs 0) 9)))), (.v (.int .i64 (avInt (cellAt (lget (blAt r4.st.bl 1).xs 0) 10)))), (.v (.int .i64 (avInt (cellAt (lget (blAt r4.st.bl 1).xs 0) 11))))]]⟩, ⟨1, 49, 12, true, [[(.v (.int .i64 (avInt (cellAt r22 0)))), (.v (.int .u32 0)), (.v (.int .u32 0)), (.v (.int .i64 0)), (.v (.int .i64 0)), (.v (.int .i64 0)), (.v (.int .i64 0)), (.v (.int .i64 0)), (.v (.int .i64 0)), (.v (.int .i64 0)), (.v (.int .i64 0)), (.v (.int .i64 0))]]⟩, ⟨1, 95, 3, true, [[(.v (.string (avStr (cellAt (obCells (cellAt r22 1)) 0)))), (.v (.int .i64 (avInt (cellAt (obCells (cellAt r22 1)) 1)))), (.v (.int .i64 (avInt (cellAt (obCells (cellAt r22 1)) 2))))]]⟩]⟩ r34.st)
 (some [(.agg [(.v (.int .i64 (avInt (cellAt (lget (blAt r34.st.bl 1).xs 0) 0)))), (.v (.int .u32 (avInt (cellAt (lget (blAt r34.st.bl 1).xs 0) 1)))), (.v (.int .u32 (avInt (cellAt (lget (blAt r34.st.bl 1).xs 0) 2)))), (.v (.int .i64 (avInt (cellAt (lget (blAt r34.st.bl 1).xs 0) 3)))), (.v (.int .i64 (avInt (cellAt (lget (blAt r34.st.bl 1).xs 0) 4)))), (.v (.int .i64 (avInt (cellAt (lget (blAt r34.st.bl 1).xs 0) 5)))), (.v (.int .i64 (avInt (cellAt (lget (blAt r34.st.bl 1).xs 0) 6)))), (.v (.int .i64 (avInt (cellAt (lget (blAt r34.st.bl 1).xs 0) 7)))), (.v (.int .i64 (avInt (cellAt (lget (blAt r34.st.bl 1).xs 0) 8)))), (.v (.int .i64 (avInt (cellAt (lget (blAt r34.st.bl 1).xs 0) 9)))), (.v (.int .i64 (avInt (cellAt (lget (blAt r34.st.bl 1).xs 0) 10)))), (.v (.int .i64 (avInt (cellAt (lget (blAt r34.st.bl 1).xs 0) 11))))]), (.ob 95 [(.v (.string (avStr (cellAt (lget (blAt r34.st.bl 2).xs 0) 0)))), (.v (.int .i64 (avInt (cellAt (lget (blAt r34.st.bl 2).xs 0) 1)))), (.v (.int .i64 (avInt (cellAt (lget (blAt r34.st.bl 2).xs 0) 2))))])])
 (none))
 (cond (isRt r34)
 (some r34.outs)
 (none)))
 (none))
 (none))
 (none)))
 (none))
 (none))
 (none))
 (cond (isRt r4)
 (some r4.outs)
 (none)))
 (none) := (ev_eq _ _).trans (by kernel_rfl)
theorem lp40_0 (x3n : Bool) (x9n : Bool) (x10 : Int) (x11 : Int) (b0_0 : ByteArray) (b0_1 : Int) (b0_2 : Int) (b1_0 : Int) (b1_1 : Int) (b1_2 : Int) (b1_3 : Int) (b1_4 : Int) (b1_5 : Int) (b1_6 : Int) (b1_7 : Int) (b1_8 : Int) (b1_9 : Int) (b1_10 : Int) (b1_11 : Int) (b2 : List (List AV)) (b3 : List (List AV)) : lp 40 0 1 ⟨[(0, (.ptr 0 0 0)), (2, (.ptr 1 0 0)), (3, (.sl x3n 2 0 none)), (9, (.sl x9n 3 0 none)), (10, (.v (.int .i64 x10))), (11, (.v (.int .i64 x11))), (1000000, (.ptr 0 0 0))], [⟨1, 95, 3, true, [[(.v (.string b0_0)), (.v (.int .i64 b0_1)), (.v (.int .i64 b0_2))]]⟩, ⟨1, 49, 12, true, [[(.v (.int .i64 b1_0)), (.v (.int .u32 b1_1)), (.v (.int .u32 b1_2)), (.v (.int .i64 b1_3)), (.v (.int .i64 b1_4)), (.v (.int .i64 b1_5)), (.v (.int .i64 b1_6)), (.v (.int .i64 b1_7)), (.v (.int .i64 b1_8)), (.v (.int .i64 b1_9)), (.v (.int .i64 b1_10)), (.v (.int .i64 b1_11))]]⟩, ⟨1, 9, 1, false, b2⟩, ⟨1, 85, 2, false, b3⟩]⟩ =
 cond (ltI x11 x10)
 (cond ((leI 0 x11) && (ltI x11 ((((List.length b3) - 0) : Nat) : Int)))
 (cond ((ltN (0 + (Int.toNat x11)) (List.length b3)) && ((isS (cellAt (lget b3 (0 + (Int.toNat x11))) 0)) && (isL 1 (cellAt (lget b3 (0 + (Int.toNat x11))) 1))))
 (cond (leN (((List.length b2) + 1) * 16) 140737488355328)
 (lp 40 0 1 ⟨[(0, (.ptr 0 0 0)), (2, (.ptr 1 0 0)), (3, (.sl false 2 0 none)), (9, (.sl x9n 3 0 none)), (10, (.v (.int .i64 x10))), (11, (.v (.int .i64 (IntKind.wrap .i64 (x11 + 1))))), (1000000, (.ptr 0 0 0))], [⟨1, 95, 3, true, [[(.v (.string b0_0)), (.v (.int .i64 b0_1)), (.v (.int .i64 b0_2))]]⟩, ⟨1, 49, 12, true, [[(.v (.int .i64 b1_0)), (.v (.int .u32 b1_1)), (.v (.int .u32 b1_2)), (.v (.int .i64 b1_3)), (.v (.int .i64 b1_4)), (.v (.int .i64 b1_5)), (.v (.int .i64 b1_6)), (.v (.int .i64 b1_7)), (.v (.int .i64 b1_8)), (.v (.int .i64 b1_9)), (.v (.int .i64 b1_10)), (.v (.int .i64 b1_11))]]⟩, ⟨1, 9, 1, false, (b2 ++ [[(.v (.string (avStr (cellAt (lget b3 (0 + (Int.toNat x11))) 0))))]])⟩, ⟨1, 85, 2, false, b3⟩]⟩)
 (none))
 (none))
 (none))
 (some ⟨(some 0), ⟨[(0, (.ptr 0 0 0)), (2, (.ptr 1 0 0)), (3, (.sl x3n 2 0 none)), (1000000, (.ptr 0 0 0))], [⟨1, 95, 3, true, [[(.v (.string b0_0)), (.v (.int .i64 b0_1)), (.v (.int .i64 b0_2))]]⟩, ⟨1, 49, 12, true, [[(.v (.int .i64 b1_0)), (.v (.int .u32 b1_1)), (.v (.int .u32 b1_2)), (.v (.int .i64 b1_3)), (.v (.int .i64 b1_4)), (.v (.int .i64 b1_5)), (.v (.int .i64 b1_6)), (.v (.int .i64 b1_7)), (.v (.int .i64 b1_8)), (.v (.int .i64 b1_9)), (.v (.int .i64 b1_10)), (.v (.int .i64 b1_11))]]⟩, ⟨1, 9, 1, false, b2⟩]⟩, []⟩) := (lp_eq _ _ _ _).trans (by kernel_rfl)
theorem lp40_1 (x36n : Bool) (x36 : List (List AV)) (x37 : Int) (x38 : Int) (b0_0 : ByteArray) (b0_1 : Int) (b0_2 : Int) (b1_0 : Int) (b1_1 : Int) (b1_2 : Int) (b1_3 : Int) (b1_4 : Int) (b1_5 : Int) (b1_6 : Int) (b1_7 : Int) (b1_8 : Int) (b1_9 : Int) (b1_10 : Int) (b1_11 : Int) (b2_0 : Int) (b2_1 : Int) (b2_2 : Int) (b2_3 : Int) (b2_4 : Int) (b2_5 : Int) (b2_6 : Int) (b2_7 : Int) (b2_8 : Int) (b2_9 : Int) (b2_10 : Int) (b2_11 : Int) : lp 40 1 1 ⟨[(0, (.ptr 0 0 0)), (2, (.ptr 1 0 0)), (6, (.ptr 2 0 0)), (36, (.lst x36n 1 x36)), (37, (.v (.int .i64 x37))), (38, (.v (.int .i64 x38))), (1000000, (.ptr 0 0 0))], [⟨1, 95, 3, true, [[(.v (.string b0_0)), (.v (.int .i64 b0_1)), (.v (.int .i64 b0_2))]]⟩, ⟨1, 49, 12, true, [[(.v (.int .i64 b1_0)), (.v (.int .u32 b1_1)), (.v (.int .u32 b1_2)), (.v (.int .i64 b1_3)), (.v (.int .i64 b1_4)), (.v (.int .i64 b1_5)), (.v (.int .i64 b1_6)), (.v (.int .i64 b1_7)), (.v (.int .i64 b1_8)), (.v (.int .i64 b1_9)), (.v (.int .i64 b1_10)), (.v (.int .i64 b1_11))]]⟩, ⟨1, 49, 12, true, [[(.v (.int .i64 b2_0)), (.v (.int .u32 b2_1)), (.v (.int .u32 b2_2)), (.v (.int .i64 b2_3)), (.v (.int .i64 b2_4)), (.v (.int .i64 b2_5)), (.v (.int .i64 b2_6)), (.v (.int .i64 b2_7)), (.v (.int .i64 b2_8)), (.v (.int .i64 b2_9)), (.v (.int .i64 b2_10)), (.v (.int .i64 b2_11))]]⟩]⟩ =
 cond (ltI x38 x37)
 (cond ((leI 0 x38) && (ltI x38 (((List.length x36) : Nat) : Int)))
 (cond (isI .i64 (cellAt (lget x36 (Int.toNat x38)) 0))
 ((ev 65 [(.ob 95 [(.v (.string b0_0)), (.v (.int .i64 b0_1)), (.v (.int .i64 b0_2))]), (.ob 49 [(.v (.int .i64 b2_0)), (.v (.int .u32 b2_1)), (.v (.int .u32 b2_2)), (.v (.int .i64 b2_3)), (.v (.int .i64 b2_4)), (.v (.int .i64 b2_5)), (.v (.int .i64 b2_6)), (.v (.int .i64 b2_7)), (.v (.int .i64 b2_8)), (.v (.int .i64 b2_9)), (.v (.int .i64 b2_10)), (.v (.int .i64 b2_11))]), (.v (.int .i64 (avInt (cellAt (lget x36 (Int.toNat x38)) 0))))]).bind fun r71 =>
 cond (((isOb 95 (cellAt r71 0)) && (Nat.beq (List.length (obCells (cellAt r71 0))) 3)) && (likeG [(.v (.string b0_0)), (.v (.int .i64 b0_1)), (.v (.int .i64 b0_2))] 0 (obCells (cellAt r71 0))))
 (cond (((isOb 49 (cellAt r71 1)) && (Nat.beq (List.length (obCells (cellAt r71 1))) 12)) && (likeG [(.v (.int .i64 b2_0)), (.v (.int .u32 b2_1)), (.v (.int .u32 b2_2)), (.v (.int .i64 b2_3)), (.v (.int .i64 b2_4)), (.v (.int .i64 b2_5)), (.v (.int .i64 b2_6)), (.v (.int .i64 b2_7)), (.v (.int .i64 b2_8)), (.v (.int .i64 b2_9)), (.v (.int .i64 b2_10)), (.v (.int .i64 b2_11))] 0 (obCells (cellAt r71 1))))
 (lp 40 1 1 ⟨[(0, (.ptr 0 0 0)), (2, (.ptr 1 0 0)), (6, (.ptr 2 0 0)), (36, (.lst x36n 1 x36)), (37, (.v (.int .i64 x37))), (38, (.v (.int .i64 (IntKind.wrap .i64 (x38 + 1))))), (1000000, (.ptr 0 0 0))], [⟨1, 95, 3, true, [[(.v (.string (avStr (cellAt (obCells (cellAt r71 0)) 0)))), (.v (.int .i64 (avInt (cellAt (obCells (cellAt r71 0)) 1)))), (.v (.int .i64 (avInt (cellAt (obCells (cellAt r71 0)) 2))))]]⟩, ⟨1, 49, 12, true, [[(.v (.int .i64 b1_0)), (.v (.int .u32 b1_1)), (.v (.int .u32 b1_2)), (.v (.int .i64 b1_3)), (.v (.int .i64 b1_4)), (.v (.int .i64 b1_5)), (.v (.int .i64 b1_6)), (.v (.int .i64 b1_7)), (.v (.int .i64 b1_8)), (.v (.int .i64 b1_9)), (.v (.int .i64 b1_10)), (.v (.int .i64 b1_11))]]⟩, ⟨1, 49, 12, true, [[(.v (.int .i64 (avInt (cellAt (obCells (cellAt r71 1)) 0)))), (.v (.int .u32 (avInt (cellAt (obCells (cellAt r71 1)) 1)))), (.v (.int .u32 (avInt (cellAt (obCells (cellAt r71 1)) 2)))), (.v (.int .i64 (avInt (cellAt (obCells (cellAt r71 1)) 3)))), (.v (.int .i64 (avInt (cellAt (obCells (cellAt r71 1)) 4)))), (.v (.int .i64 (avInt (cellAt (obCells (cellAt r71 1)) 5)))), (.v (.int .i64 (avInt (cellAt (obCells (cellAt r71 1)) 6)))), (.v (.int .i64 (avInt (cellAt (obCells (cellAt r71 1)) 7)))), (.v (.int .i64 (avInt (cellAt (obCells (cellAt r71 1)) 8)))), (.v (.int .i64 (avInt (cellAt (obCells (cellAt r71 1)) 9)))), (.v (.int .i64 (avInt (cellAt (obCells (cellAt r71 1)) 10)))), (.v (.int .i64 (avInt (cellAt (obCells (cellAt r71 1)) 11))))]]⟩]⟩)
 (none))
 (none))
 (none))
 (none))
 (some ⟨(some 2), ⟨[(2, (.ptr 0 0 0)), (6, (.ptr 1 0 0)), (1000000, (.ptr 2 0 0))], [⟨1, 49, 12, true, [[(.v (.int .i64 b1_0)), (.v (.int .u32 b1_1)), (.v (.int .u32 b1_2)), (.v (.int .i64 b1_3)), (.v (.int .i64 b1_4)), (.v (.int .i64 b1_5)), (.v (.int .i64 b1_6)), (.v (.int .i64 b1_7)), (.v (.int .i64 b1_8)), (.v (.int .i64 b1_9)), (.v (.int .i64 b1_10)), (.v (.int .i64 b1_11))]]⟩, ⟨1, 49, 12, true, [[(.v (.int .i64 b2_0)), (.v (.int .u32 b2_1)), (.v (.int .u32 b2_2)), (.v (.int .i64 b2_3)), (.v (.int .i64 b2_4)), (.v (.int .i64 b2_5)), (.v (.int .i64 b2_6)), (.v (.int .i64 b2_7)), (.v (.int .i64 b2_8)), (.v (.int .i64 b2_9)), (.v (.int .i64 b2_10)), (.v (.int .i64 b2_11))]]⟩, ⟨1, 95, 3, true, [[(.v (.string b0_0)), (.v (.int .i64 b0_1)), (.v (.int .i64 b0_2))]]⟩]⟩, []⟩) := (lp_eq _ _ _ _).trans (by kernel_rfl)
-- "bodega/query.Parse"
theorem ev15 (a0_0 : ByteArray) : ev 15 [(.v (.string a0_0))] =
 cond (ltI 1000 (((ByteArray.size a0_0) : Nat) : Int))
 (some [(.ow true 49 12 []), (.v (.int .i64 0)), (.v (.int .i64 18))])
 ((lp 15 0 0 ⟨[(0, (.v (.string a0_0))), (2, (.sl true 0 0 none)), (5, (.ptr 1 0 0))], [⟨1, 49, 12, false, []⟩, ⟨1, 95, 3, true, [[(.v (.string a0_0)), (.v (.int .i64 0)), (.v (.int .i64 0))]]⟩]⟩).bind fun r1 =>
 cond (isRt r1)
 (some r1.outs)
 (none)) := (ev_eq _ _).trans (by kernel_rfl)
theorem lp15_0 (x0 : ByteArray) (x2n : Bool) (b0 : List (List AV)) (b1_0 : ByteArray) (b1_1 : Int) (b1_2 : Int) : lp 15 0 0 ⟨[(0, (.v (.string x0))), (2, (.sl x2n 0 0 none)), (5, (.ptr 1 0 0))], [⟨1, 49, 12, false, b0⟩, ⟨1, 95, 3, true, [[(.v (.string b1_0)), (.v (.int .i64 b1_1)), (.v (.int .i64 b1_2))]]⟩]⟩ =
 ((cond (((((List.length b0) - 0) : Nat) : Int) == 8)
 ((ev 38 [(.ob 95 [(.v (.string b1_0)), (.v (.int .i64 b1_1)), (.v (.int .i64 b1_2))])]).bind fun r4 =>
 cond (isS (cellAt r4 0))
 (cond (((isOb 95 (cellAt r4 1)) && (Nat.beq (List.length (obCells (cellAt r4 1))) 3)) && (likeG [(.v (.string b1_0)), (.v (.int .i64 b1_1)), (.v (.int .i64 b1_2))] 0 (obCells (cellAt r4 1))))
 (some ⟨(some 1000001), ⟨[(0, (.v (.string x0))), (2, (.sl x2n 0 0 none)), (5, (.ptr 1 0 0)), (19, (.v (.bool (!((ByteArray.toList (avStr (cellAt r4 0))) == (ByteArray.toList (bs [])))))))], [⟨1, 49, 12, false, b0⟩, ⟨1, 95, 3, true, [[(.v (.string (avStr (cellAt (obCells (cellAt r4 1)) 0)))), (.v (.int .i64 (avInt (cellAt (obCells (cellAt r4 1)) 1)))), (.v (.int .i64 (avInt (cellAt (obCells (cellAt r4 1)) 2))))]]⟩]⟩, []⟩)
 (none))
 (none))
 (some ⟨(some 1000001), ⟨[(0, (.v (.string x0))), (2, (.sl x2n 0 0 none)), (5, (.ptr 1 0 0)), (19, (.v (.bool false)))], [⟨1, 49, 12, false, b0⟩, ⟨1, 95, 3, true, [[(.v (.string b1_0)), (.v (.int .i64 b1_1)), (.v (.int .i64 b1_2))]]⟩]⟩, []⟩)).bind fun j10 =>
 cond (isEx 1000001 j10)
 (cond (likeStG ⟨[(0, (.v (.string x0))), (2, (.sl x2n 0 0 none)), (5, (.ptr 1 0 0)), (19, (.v (.bool false)))], [⟨1, 49, 12, false, b0⟩, ⟨1, 95, 3, true, [[(.v (.string b1_0)), (.v (.int .i64 b1_1)), (.v (.int .i64 b1_2))]]⟩]⟩ j10.st)
 (cond (avBool (frAt j10.st.fr 3).2)
 ((ev 39 [(.ob 95 [(.v (.string (avStr (cellAt (lget (blAt j10.st.bl 1).xs 0) 0)))), (.v (.int .i64 (avInt (cellAt (lget (blAt j10.st.bl 1).xs 0) 1)))), (.v (.int .i64 (avInt (cellAt (lget (blAt j10.st.bl 1).xs 0) 2))))]), (.v (.int .i64 18))]).bind fun r17 =>
 cond (((isOb 95 (cellAt r17 0)) && (Nat.beq (List.length (obCells (cellAt r17 0))) 3)) && (likeG [(.v (.string (avStr (cellAt (lget (blAt j10.st.bl 1).xs 0) 0)))), (.v (.int .i64 (avInt (cellAt (lget (blAt j10.st.bl 1).xs 0) 1)))), (.v (.int .i64 (avInt (cellAt (lget (blAt j10.st.bl 1).xs 0) 2))))] 0 (obCells (cellAt r17 0))))
 (some ⟨(some 1000001), ⟨[(0, (.v (.string (avStr (frAt j10.st.fr 0).2)))), (2, (.sl (avNil (frAt j10.st.fr 1).2) 0 0 none)), (5, (.ptr 1 0 0))], [⟨1, 49, 12, false, (blAt j10.st.bl 0).xs⟩, ⟨1, 95, 3, true, [[(.v (.string (avStr (cellAt (obCells (cellAt r17 0)) 0)))), (.v (.int .i64 (avInt (cellAt (obCells (cellAt r17 0)) 1)))), (.v (.int .i64 (avInt (cellAt (obCells (cellAt r17 0)) 2))))]]⟩]⟩, []⟩)
 (none))
 (some ⟨(some 1000001), ⟨[(0, (.v (.string (avStr (frAt j10.st.fr 0).2)))), (2, (.sl (avNil (frAt j10.st.fr 1).2) 0 0 none)), (5, (.ptr 1 0 0))], [⟨1, 49, 12, false, (blAt j10.st.bl 0).xs⟩, ⟨1, 95, 3, true, [[(.v (.string (avStr (cellAt (lget (blAt j10.st.bl 1).xs 0) 0)))), (.v (.int .i64 (avInt (cellAt (lget (blAt j10.st.bl 1).xs 0) 1)))), (.v (.int .i64 (avInt (cellAt (lget (blAt j10.st.bl 1).xs 0) 2))))]]⟩]⟩, []⟩))
 (none))
 (cond (isRt j10)
 (some ⟨none, ⟨[], []⟩, j10.outs⟩)
 (none))).bind fun j18 =>
 cond (isEx 1000001 j18)
 (cond (likeStG ⟨[(0, (.v (.string x0))), (2, (.sl x2n 0 0 none)), (5, (.ptr 1 0 0))], [⟨1, 49, 12, false, b0⟩, ⟨1, 95, 3, true, [[(.v (.string b1_0)), (.v (.int .i64 b1_1)), (.v (.int .i64 b1_2))]]⟩]⟩ j18.st)
 ((ev 40 [(.ob 95 [(.v (.string (avStr (cellAt (lget (blAt j18.st.bl 1).xs 0) 0)))), (.v (.int .i64 (avInt (cellAt (lget (blAt j18.st.bl 1).xs 0) 1)))), (.v (.int .i64 (avInt (cellAt (lget (blAt j18.st.bl 1).xs 0) 2))))])]).bind fun r25 =>
 cond ((Ev.isAgg 12 (cellAt r25 0)) && ((isI .i64 (cellAt (obCells (cellAt r25 0)) 0)) && ((isI .u32 (cellAt (obCells (cellAt r25 0)) 1)) && ((isI .u32 (cellAt (obCells (cellAt r25 0)) 2)) && ((isI .i64 (cellAt (obCells (cellAt r25 0)) 3)) && ((isI .i64 (cellAt (obCells (cellAt r25 0)) 4)) && ((isI .i64 (cellAt (obCells (cellAt r25 0)) 5)) && ((isI .i64 (cellAt (obCells (cellAt r25 0)) 6)) && ((isI .i64 (cellAt (obCells (cellAt r25 0)) 7)) && ((isI .i64 (cellAt (obCells (cellAt r25 0)) 8)) && ((isI .i64 (cellAt (obCells (cellAt r25 0)) 9)) && ((isI .i64 (cellAt (obCells (cellAt r25 0)) 10)) && (isI .i64 (cellAt (obCells (cellAt r25 0)) 11))))))))))))))
 (cond (((isOb 95 (cellAt r25 1)) && (Nat.beq (List.length (obCells (cellAt r25 1))) 3)) && (likeG [(.v (.string (avStr (cellAt (lget (blAt j18.st.bl 1).xs 0) 0)))), (.v (.int .i64 (avInt (cellAt (lget (blAt j18.st.bl 1).xs 0) 1)))), (.v (.int .i64 (avInt (cellAt (lget (blAt j18.st.bl 1).xs 0) 2))))] 0 (obCells (cellAt r25 1))))
 (cond (leN (((List.length (blAt j18.st.bl 0).xs) + 1) * 88) 140737488355328)
 (((cond ((avInt (cellAt (obCells (cellAt r25 1)) 2)) == 0)
 ((ev 38 [(.ob 95 [(.v (.string (avStr (cellAt (obCells (cellAt r25 1)) 0)))), (.v (.int .i64 (avInt (cellAt (obCells (cellAt r25 1)) 1)))), (.v (.int .i64 (avInt (cellAt (obCells (cellAt r25 1)) 2))))])]).bind fun r44 =>
 cond (isS (cellAt r44 0))
 (cond (((isOb 95 (cellAt r44 1)) && (Nat.beq (List.length (obCells (cellAt r44 1))) 3)) && (likeG [(.v (.string (avStr (cellAt (obCells (cellAt r25 1)) 0)))), (.v (.int .i64 (avInt (cellAt (obCells (cellAt r25 1)) 1)))), (.v (.int .i64 (avInt (cellAt (obCells (cellAt r25 1)) 2))))] 0 (obCells (cellAt r44 1))))
 (some ⟨(some 1000001), ⟨[(0, (.v (.string (avStr (frAt j18.st.fr 0).2)))), (2, (.sl false 0 0 none)), (5, (.ptr 1 0 0)), (36, (.v (.bool (!((ByteArray.toList (avStr (cellAt r44 0))) == (ByteArray.toList (bs [])))))))], [⟨1, 49, 12, false, ((blAt j18.st.bl 0).xs ++ [[(.v (.int .i64 (avInt (cellAt (obCells (cellAt r25 0)) 0)))), (.v (.int .u32 (avInt (cellAt (obCells (cellAt r25 0)) 1)))), (.v (.int .u32 (avInt (cellAt (obCells (cellAt r25 0)) 2)))), (.v (.int .i64 (avInt (cellAt (obCells (cellAt r25 0)) 3)))), (.v (.int .i64 (avInt (cellAt (obCells (cellAt r25 0)) 4)))), (.v (.int .i64 (avInt (cellAt (obCells (cellAt r25 0)) 5)))), (.v (.int .i64 (avInt (cellAt (obCells (cellAt r25 0)) 6)))), (.v (.int .i64 (avInt (cellAt (obCells (cellAt r25 0)) 7)))), (.v (.int .i64 (avInt (cellAt (obCells (cellAt r25 0)) 8)))), (.v (.int .i64 (avInt (cellAt (obCells (cellAt r25 0)) 9)))), (.v (.int .i64 (avInt (cellAt (obCells (cellAt r25 0)) 10)))), (.v (.int .i64 (avInt (cellAt (obCells (cellAt r25 0)) 11))))]])⟩, ⟨1, 95, 3, true, [[(.v (.string (avStr (cellAt (obCells (cellAt r44 1)) 0)))), (.v (.int .i64 (avInt (cellAt (obCells (cellAt r44 1)) 1)))), (.v (.int .i64 (avInt (cellAt (obCells (cellAt r44 1)) 2))))]]⟩]⟩, []⟩)
 (none))
 (none))
 (some ⟨(some 1000001), ⟨[(0, (.v (.string (avStr (frAt j18.st.fr 0).2)))), (2, (.sl false 0 0 none)), (5, (.ptr 1 0 0)), (36, (.v (.bool false)))], [⟨1, 49, 12, false, ((blAt j18.st.bl 0).xs ++ [[(.v (.int .i64 (avInt (cellAt (obCells (cellAt r25 0)) 0)))), (.v (.int .u32 (avInt (cellAt (obCells (cellAt r25 0)) 1)))), (.v (.int .u32 (avInt (cellAt (obCells (cellAt r25 0)) 2)))), (.v (.int .i64 (avInt (cellAt (obCells (cellAt r25 0)) 3)))), (.v (.int .i64 (avInt (cellAt (obCells (cellAt r25 0)) 4)))), (.v (.int .i64 (avInt (cellAt (obCells (cellAt r25 0)) 5)))), (.v (.int .i64 (avInt (cellAt (obCells (cellAt r25 0)) 6)))), (.v (.int .i64 (avInt (cellAt (obCells (cellAt r25 0)) 7)))), (.v (.int .i64 (avInt (cellAt (obCells (cellAt r25 0)) 8)))), (.v (.int .i64 (avInt (cellAt (obCells (cellAt r25 0)) 9)))), (.v (.int .i64 (avInt (cellAt (obCells (cellAt r25 0)) 10)))), (.v (.int .i64 (avInt (cellAt (obCells (cellAt r25 0)) 11))))]])⟩, ⟨1, 95, 3, true, [[(.v (.string (avStr (cellAt (obCells (cellAt r25 1)) 0)))), (.v (.int .i64 (avInt (cellAt (obCells (cellAt r25 1)) 1)))), (.v (.int .i64 (avInt (cellAt (obCells (cellAt r25 1)) 2))))]]⟩]⟩, []⟩)).bind fun j50 =>
 cond (isEx 1000001 j50)
 (cond (likeStG ⟨[(0, (.v (.string (avStr (frAt j18.st.fr 0).2)))), (2, (.sl false 0 0 none)), (5, (.ptr 1 0 0)), (36, (.v (.bool false)))], [⟨1, 49, 12, false, ((blAt j18.st.bl 0).xs ++ [[(.v (.int .i64 (avInt (cellAt (obCells (cellAt r25 0)) 0)))), (.v (.int .u32 (avInt (cellAt (obCells (cellAt r25 0)) 1)))), (.v (.int .u32 (avInt (cellAt (obCells (cellAt r25 0)) 2)))), (.v (.int .i64 (avInt (cellAt (obCells (cellAt r25 0)) 3)))), (.v (.int .i64 (avInt (cellAt (obCells (cellAt r25 0)) 4)))), (.v (.int .i64 (avInt (cellAt (obCells (cellAt r25 0)) 5)))), (.v (.int .i64 (avInt (cellAt (obCells (cellAt r25 0)) 6)))), (.v (.int .i64 (avInt (cellAt (obCells (cellAt r25 0)) 7)))), (.v (.int .i64 (avInt (cellAt (obCells (cellAt r25 0)) 8)))), (.v (.int .i64 (avInt (cellAt (obCells (cellAt r25 0)) 9)))), (.v (.int .i64 (avInt (cellAt (obCells (cellAt r25 0)) 10)))), (.v (.int .i64 (avInt (cellAt (obCells (cellAt r25 0)) 11))))]])⟩, ⟨1, 95, 3, true, [[(.v (.string (avStr (cellAt (obCells (cellAt r25 1)) 0)))), (.v (.int .i64 (avInt (cellAt (obCells (cellAt r25 1)) 1)))), (.v (.int .i64 (avInt (cellAt (obCells (cellAt r25 1)) 2))))]]⟩]⟩ j50.st)
 (cond (avBool (frAt j50.st.fr 3).2)
 ((ev 39 [(.ob 95 [(.v (.string (avStr (cellAt (lget (blAt j50.st.bl 1).xs 0) 0)))), (.v (.int .i64 (avInt (cellAt (lget (blAt j50.st.bl 1).xs 0) 1)))), (.v (.int .i64 (avInt (cellAt (lget (blAt j50.st.bl 1).xs 0) 2))))]), (.v (.int .i64 15))]).bind fun r57 =>
 cond (((isOb 95 (cellAt r57 0)) && (Nat.beq (List.length (obCells (cellAt r57 0))) 3)) && (likeG [(.v (.string (avStr (cellAt (lget (blAt j50.st.bl 1).xs 0) 0)))), (.v (.int .i64 (avInt (cellAt (lget (blAt j50.st.bl 1).xs 0) 1)))), (.v (.int .i64 (avInt (cellAt (lget (blAt j50.st.bl 1).xs 0) 2))))] 0 (obCells (cellAt r57 0))))
 (some ⟨(some 1000001), ⟨[(0, (.v (.string (avStr (frAt j50.st.fr 0).2)))), (2, (.sl (avNil (frAt j50.st.fr 1).2) 0 0 none)), (5, (.ptr 1 0 0))], [⟨1, 49, 12, false, (blAt j50.st.bl 0).xs⟩, ⟨1, 95, 3, true, [[(.v (.string (avStr (cellAt (obCells (cellAt r57 0)) 0)))), (.v (.int .i64 (avInt (cellAt (obCells (cellAt r57 0)) 1)))), (.v (.int .i64 (avInt (cellAt (obCells (cellAt r57 0)) 2))))]]⟩]⟩, []⟩)
 (none))
 (some ⟨(some 1000001), ⟨[(0, (.v (.string (avStr (frAt j50.st.fr 0).2)))), (2, (.sl (avNil (frAt j50.st.fr 1).2) 0 0 none)), (5, (.ptr 1 0 0))], [⟨1, 49, 12, false, (blAt j50.st.bl 0).xs⟩, ⟨1, 95, 3, true, [[(.v (.string (avStr (cellAt (lget (blAt j50.st.bl 1).xs 0) 0)))), (.v (.int .i64 (avInt (cellAt (lget (blAt j50.st.bl 1).xs 0) 1)))), (.v (.int .i64 (avInt (cellAt (lget (blAt j50.st.bl 1).xs 0) 2))))]]⟩]⟩, []⟩))
 (none))
 (cond (isRt j50)
 (some ⟨none, ⟨[], []⟩, j50.outs⟩)
 (none))).bind fun j58 =>
 cond (isEx 1000001 j58)
 (cond (likeStG ⟨[(0, (.v (.string (avStr (frAt j18.st.fr 0).2)))), (2, (.sl false 0 0 none)), (5, (.ptr 1 0 0))], [⟨1, 49, 12, false, ((blAt j18.st.bl 0).xs ++ [[(.v (.int .i64 (avInt (cellAt (obCells (cellAt r25 0)) 0)))), (.v (.int .u32 (avInt (cellAt (obCells (cellAt r25 0)) 1)))), (.v (.int .u32 (avInt (cellAt (obCells (cellAt r25 0)) 2)))), (.v (.int .i64 (avInt (cellAt (obCells (cellAt r25 0)) 3)))), (.v (.int .i64 (avInt (cellAt (obCells (cellAt r25 0)) 4)))), (.v (.int .i64 (avInt (cellAt (obCells (cellAt r25 0)) 5)))), (.v (.int .i64 (avInt (cellAt (obCells (cellAt r25 0)) 6)))), (.v (.int .i64 (avInt (cellAt (obCells (cellAt r25 0)) 7)))), (.v (.int .i64 (avInt (cellAt (obCells (cellAt r25 0)) 8)))), (.v (.int .i64 (avInt (cellAt (obCells (cellAt r25 0)) 9)))), (.v (.int .i64 (avInt (cellAt (obCells (cellAt r25 0)) 10)))), (.v (.int .i64 (avInt (cellAt (obCells (cellAt r25 0)) 11))))]])⟩, ⟨1, 95, 3, true, [[(.v (.string (avStr (cellAt (obCells (cellAt r25 1)) 0)))), (.v (.int .i64 (avInt (cellAt (obCells (cellAt r25 1)) 1)))), (.v (.int .i64 (avInt (cellAt (obCells (cellAt r25 1)) 2))))]]⟩]⟩ j58.st)
 (cond (!((avInt (cellAt (lget (blAt j58.st.bl 1).xs 0) 2)) == 0))
 (some ⟨none, ⟨[], []⟩, [(.ow true 49 12 []), (.v (.int .i64 (avInt (cellAt (lget (blAt j58.st.bl 1).xs 0) 1)))), (.v (.int .i64 (avInt (cellAt (lget (blAt j58.st.bl 1).xs 0) 2))))]⟩)
 (cond ((avInt (cellAt (lget (blAt j58.st.bl 1).xs 0) 1)) == (((ByteArray.size (avStr (frAt j58.st.fr 0).2)) : Nat) : Int))
 (some ⟨none, ⟨[], []⟩, [(.ow (avNil (frAt j58.st.fr 1).2) 49 12 (blAt j58.st.bl 0).xs), (.v (.int .i64 0)), (.v (.int .i64 0))]⟩)
 (lp 15 0 0 ⟨[(0, (.v (.string (avStr (frAt j58.st.fr 0).2)))), (2, (.sl (avNil (frAt j58.st.fr 1).2) 0 0 none)), (5, (.ptr 1 0 0))], [⟨1, 49, 12, false, (blAt j58.st.bl 0).xs⟩, ⟨1, 95, 3, true, [[(.v (.string (avStr (cellAt (lget (blAt j58.st.bl 1).xs 0) 0)))), (.v (.int .i64 (IntKind.wrap .i64 ((avInt (cellAt (lget (blAt j58.st.bl 1).xs 0) 1)) + 1)))), (.v (.int .i64 (avInt (cellAt (lget (blAt j58.st.bl 1).xs 0) 2))))]]⟩]⟩)))
 (none))
 (cond (isRt j58)
 (some ⟨none, ⟨[], []⟩, j58.outs⟩)
 (none)))
 (none))
 (none))
 (none))
 (none))
 (cond (isRt j18)
 (some ⟨none, ⟨[], []⟩, j18.outs⟩)
 (none)) := (lp_eq _ _ _ _).trans (by kernel_rfl)
end Go.Proofs.Ytcinngpelbdopaa
