/- The functions of the chapter, as the evaluator has them. -/
import Derived.Test.YtjbpbidlcegopaaDoorDfs
set_option linter.all false
namespace Go.Proofs.YtjbpbidlcegopaaDoor.H
open Go.Ev
def glF : Nat → Option (List AV)
  | 0 => some [.v (.int .i64 0), .v (.int .i64 0)]
  | _ => none
def cfg : Cfg := { rw := fun _ => [], dat := fun _ => false, inl := fun _ => false, roll := fun _ => 4, join := fun _ => false, eat := fun t d => Nat.beq t 40 && Nat.beq d 52, gl := glF }
theorem glOk : ∀ k cs, glF k = some cs → ∀ μ, Gl.ok μ → DR μ (.ep cs 0) (.pointer (some ⟨k, 0, none⟩)) := by
  intro k cs e μ hg
  obtain ⟨cur, T, fz, h1, h2, h3⟩ := hg
  unfold glF at e
  split at e
  · cases e
    refine .ep (o := 0) (fun _ => .int .i64 0) (fun j hj => ?_) (fun j u hu => ?_)
    · match j, hj with
      | 0, _ => rw [muCell_at h1]; exact h2
      | 1, _ => rw [muCell_at h1]; exact h3
    · match j, hu with
      | 0, hu => simp at hu; subst hu; exact .v rfl
      | 1, hu => simp at hu; subst hu; exact .v rfl
      | j + 2, hu => simp at hu
  · cases e
theorem updOk : UpdS Tryd.prog cfg := ⟨⟨glOk, prS_none fun _ => rfl⟩, fun f u e => by cases e⟩
theorem extOk : ExtS Tryd.prog cfg := ⟨fun f bs rs e => (by simp only [evTop, show ∀ f, cfg.ext f = none from fun _ => rfl] at e; cases e), updOk⟩
theorem mix : Tryd.prog.follows .mixedOrders = true := by kernel_rfl
theorem callS : CallS Tryd.prog (evL Tryd.prog cfg) := fun f bs rs h => by
  obtain ⟨n, hn⟩ := evF_of_evL h
  exact evF_sound mix extOk n f bs rs hn
noncomputable def ev (f : FuncId) (args : List AV) : Option (List AV) := evL Tryd.prog cfg f args
noncomputable def lp (f k nr : Nat) (s : St) : Option LR := lpL Tryd.prog cfg f k nr s
theorem ev_eq (f : FuncId) (args : List AV) : ev f args = evTop cfg f args (evBodyG Tryd.prog cfg (callX Tryd.prog cfg) (inlD Tryd.prog cfg (callX Tryd.prog cfg) 5) (loopL Tryd.prog cfg f) f args) := evL_eqX f args
theorem lp_eq (f k nr : Nat) (s : St) : lp f k nr s = evRound Tryd.prog cfg (callX Tryd.prog cfg) (inlD Tryd.prog cfg (callX Tryd.prog cfg) 5) (loopL Tryd.prog cfg f) (cfg.roll f) (cfg.join f) (loopAt Tryd.prog f k).1 (loopAt Tryd.prog f k).2 (retAt Tryd.prog cfg f nr) s := loopL_eqX f _ _ _ s
theorem ev31 (a0_0n : Bool) (a0_0 : List (List AV)) (a1_0 : Int) : ev 31 [(.lst a0_0n 1 a0_0), (.v (.int .i64 a1_0))] =
 (ev 45 [(.lst a0_0n 1 a0_0), (.v (.int .i64 a1_0))]).bind fun r0 =>
 cond (isI .i64 (cellAt r0 0))
 (some [(.v (.bool (leI 0 (avInt (cellAt r0 0)))))])
 (none) := (ev_eq _ _).trans (by kernel_rfl)
theorem ev45 (a0_0n : Bool) (a0_0 : List (List AV)) (a1_0 : Int) : ev 45 [(.lst a0_0n 1 a0_0), (.v (.int .i64 a1_0))] =
 (lp 45 0 0 ⟨[(0, (.lst a0_0n 1 a0_0)), (1, (.v (.int .i64 a1_0))), (7, (.v (.int .i64 (((List.length a0_0) : Nat) : Int)))), (8, (.v (.int .i64 0)))], []⟩).bind fun r1 =>
 cond (isEx 0 r1)
 (cond (likeStG ⟨[], []⟩ r1.st)
 (some [(.v (.int .i64 (-1)))])
 (none))
 (cond (isRt r1)
 (some r1.outs)
 (none)) := (ev_eq _ _).trans (by kernel_rfl)
theorem lp45_0 (x0n : Bool) (x0 : List (List AV)) (x1 : Int) (x7 : Int) (x8 : Int) : lp 45 0 0 ⟨[(0, (.lst x0n 1 x0)), (1, (.v (.int .i64 x1))), (7, (.v (.int .i64 x7))), (8, (.v (.int .i64 x8)))], []⟩ =
 cond (ltI x8 x7)
 (cond ((leI 0 x8) && (ltI x8 (((List.length x0) : Nat) : Int)))
 (cond (isI .i64 (cellAt (lget x0 (Int.toNat x8)) 0))
 (cond (x1 == (avInt (cellAt (lget x0 (Int.toNat x8)) 0)))
 (some ⟨none, ⟨[], []⟩, [(.v (.int .i64 x8))]⟩)
 (lp 45 0 0 ⟨[(0, (.lst x0n 1 x0)), (1, (.v (.int .i64 x1))), (7, (.v (.int .i64 x7))), (8, (.v (.int .i64 (IntKind.wrap .i64 (x8 + 1)))))], []⟩))
 (none))
 (none))
 (some ⟨(some 0), ⟨[], []⟩, []⟩) := (lp_eq _ _ _ _).trans (by kernel_rfl)
theorem ev34 (a0_0 : Int) (a0_1 : Int) (a0_2 : Int) (a0_3 : Int) (a0_4 : Int) (a0_5 : Int) (a0_6 : Int) (a0_7 : Int) (a0_8 : Int) : ev 34 [(.agg [(.v (.int .i64 a0_0)), (.v (.int .u64 a0_1)), (.v (.int .u64 a0_2)), (.v (.int .u64 a0_3)), (.v (.int .u64 a0_4)), (.v (.int .u64 a0_5)), (.v (.int .u64 a0_6)), (.v (.int .u64 a0_7)), (.v (.int .u64 a0_8))])] =
 (ev 35 [(.agg [(.v (.int .i64 a0_0)), (.v (.int .u64 a0_1)), (.v (.int .u64 a0_2)), (.v (.int .u64 a0_3)), (.v (.int .u64 a0_4)), (.v (.int .u64 a0_5)), (.v (.int .u64 a0_6)), (.v (.int .u64 a0_7)), (.v (.int .u64 a0_8))])]).bind fun r0 =>
 cond (isB (cellAt r0 0))
 (some [(.v (.bool (!(avBool (cellAt r0 0)))))])
 (none) := (ev_eq _ _).trans (by kernel_rfl)
theorem ev35 (a0_0 : Int) (a0_1 : Int) (a0_2 : Int) (a0_3 : Int) (a0_4 : Int) (a0_5 : Int) (a0_6 : Int) (a0_7 : Int) (a0_8 : Int) : ev 35 [(.agg [(.v (.int .i64 a0_0)), (.v (.int .u64 a0_1)), (.v (.int .u64 a0_2)), (.v (.int .u64 a0_3)), (.v (.int .u64 a0_4)), (.v (.int .u64 a0_5)), (.v (.int .u64 a0_6)), (.v (.int .u64 a0_7)), (.v (.int .u64 a0_8))])] =
 cond (a0_0 == 96)
 (some [(.v (.bool true))])
 ((ev 46 [(.v (.int .i64 256)), (.v (.int .i64 a0_0))]).bind fun r0 =>
 cond (isI .i64 (cellAt r0 0))
 (cond (isI .i64 (cellAt r0 1))
 (cond (isB (cellAt r0 2))
 (cond (!(avBool (cellAt r0 2)))
 (some [(.v (.bool false))])
 ((ev 47 [(.agg [(.v (.int .i64 a0_0)), (.v (.int .u64 a0_1)), (.v (.int .u64 a0_2)), (.v (.int .u64 a0_3)), (.v (.int .u64 a0_4)), (.v (.int .u64 a0_5)), (.v (.int .u64 a0_6)), (.v (.int .u64 a0_7)), (.v (.int .u64 a0_8))])]).bind fun r4 =>
 cond ((Ev.isAgg 7 (cellAt r4 0)) && ((isI .i64 (cellAt (obCells (cellAt r4 0)) 0)) && ((isB (cellAt (obCells (cellAt r4 0)) 1)) && ((isB (cellAt (obCells (cellAt r4 0)) 2)) && ((isI .u32 (cellAt (obCells (cellAt r4 0)) 3)) && ((isI .i64 (cellAt (obCells (cellAt r4 0)) 4)) && ((isI .i64 (cellAt (obCells (cellAt r4 0)) 5)) && (isL 3 (cellAt (obCells (cellAt r4 0)) 6)))))))))
 (cond (isI .i64 (cellAt r4 1))
 ((ev 48 [(.v (.int .u64 a0_2))]).bind fun r14 =>
 cond ((Ev.isAgg 3 (cellAt r14 0)) && ((isI .i64 (cellAt (obCells (cellAt r14 0)) 0)) && ((isI .i64 (cellAt (obCells (cellAt r14 0)) 1)) && (isI .u32 (cellAt (obCells (cellAt r14 0)) 2)))))
 (cond ((avInt (cellAt (obCells (cellAt r14 0)) 0)) == 3)
 (some [(.v (.bool true))])
 (cond ((avInt (cellAt r4 1)) == 0)
 (some [(.v (.bool (ltI 0 (avInt (cellAt (obCells (cellAt r4 0)) 0)))))])
 (some [(.v (.bool false))])))
 (none))
 (none))
 (none)))
 (none))
 (none))
 (none)) := (ev_eq _ _).trans (by kernel_rfl)
theorem ev46 (a0_0 : Int) (a1_0 : Int) : ev 46 [(.v (.int .i64 a0_0)), (.v (.int .i64 a1_0))] =
 cond (ltI a1_0 104)
 (some [(.v (.int .i64 0)), (.v (.int .i64 0)), (.v (.bool false))])
 ((ev 56 [(.v (.int .i64 a0_0))]).bind fun r1 =>
 cond (isI .i64 (cellAt r1 0))
 (cond (leI (IntKind.wrap .i64 (104 + (IntKind.wrap .i64 ((avInt (cellAt r1 0)) * 16)))) a1_0)
 (some [(.v (.int .i64 0)), (.v (.int .i64 0)), (.v (.bool false))])
 (cond ((Int.tmod (IntKind.wrap .i64 (a1_0 - 104)) 16) == 0)
 (some [(.v (.int .i64 0)), (.v (.int .i64 0)), (.v (.bool false))])
 (some [(.v (.int .i64 (IntKind.wrap .i64 (Int.tdiv (IntKind.wrap .i64 (a1_0 - 104)) 16)))), (.v (.int .i64 (Int.tmod (IntKind.wrap .i64 (a1_0 - 104)) 16))), (.v (.bool true))])))
 (none)) := (ev_eq _ _).trans (by kernel_rfl)
theorem ev47 (a0_0 : Int) (a0_1 : Int) (a0_2 : Int) (a0_3 : Int) (a0_4 : Int) (a0_5 : Int) (a0_6 : Int) (a0_7 : Int) (a0_8 : Int) : ev 47 [(.agg [(.v (.int .i64 a0_0)), (.v (.int .u64 a0_1)), (.v (.int .u64 a0_2)), (.v (.int .u64 a0_3)), (.v (.int .u64 a0_4)), (.v (.int .u64 a0_5)), (.v (.int .u64 a0_6)), (.v (.int .u64 a0_7)), (.v (.int .u64 a0_8))])] =
 (ev 48 [(.v (.int .u64 a0_2))]).bind fun r0 =>
 cond ((Ev.isAgg 3 (cellAt r0 0)) && ((isI .i64 (cellAt (obCells (cellAt r0 0)) 0)) && ((isI .i64 (cellAt (obCells (cellAt r0 0)) 1)) && (isI .u32 (cellAt (obCells (cellAt r0 0)) 2)))))
 (cond (!((avInt (cellAt (obCells (cellAt r0 0)) 0)) == 4))
 (some [(.agg [(.v (.int .i64 0)), (.v (.bool false)), (.v (.bool false)), (.v (.int .u32 0)), (.v (.int .i64 0)), (.v (.int .i64 0)), (.lst true 3 [])]), (.v (.int .i64 14))])
 (cond (ltI 5 (IntKind.wrap .i64 (bits .and .u32 (Int.fdiv (avInt (cellAt (obCells (cellAt r0 0)) 2)) 256) 255)))
 (some [(.agg [(.v (.int .i64 0)), (.v (.bool false)), (.v (.bool false)), (.v (.int .u32 0)), (.v (.int .i64 0)), (.v (.int .i64 0)), (.lst true 3 [])]), (.v (.int .i64 14))])
 ((ev 57 [(.v (.int .u32 (IntKind.wrap .u32 (Int.fdiv a0_3 4294967296))))]).bind fun r18 =>
 cond ((Ev.isAgg 2 (cellAt r18 0)) && ((isI .i64 (cellAt (obCells (cellAt r18 0)) 0)) && (isI .i64 (cellAt (obCells (cellAt r18 0)) 1))))
 (cond ((true && (leI 2 (IntKind.wrap .i64 (2 + (IntKind.wrap .i64 (bits .and .u32 (Int.fdiv (avInt (cellAt (obCells (cellAt r0 0)) 2)) 256) 255)))))) && (leI (IntKind.wrap .i64 (2 + (IntKind.wrap .i64 (bits .and .u32 (Int.fdiv (avInt (cellAt (obCells (cellAt r0 0)) 2)) 256) 255)))) 7))
 ((lp 47 0 0 ⟨[(1, (.ptr 0 0 0)), (2, (.ptr 1 0 0)), (6, (.ptr 3 0 0)), (52, (.lst false 1 (List.map (fun (c : AV) => [c]) (List.take ((Int.toNat (IntKind.wrap .i64 (2 + (IntKind.wrap .i64 (bits .and .u32 (Int.fdiv (avInt (cellAt (obCells (cellAt r0 0)) 2)) 256) 255))))) - 2) [(.v (.int .u64 a0_4)), (.v (.int .u64 a0_5)), (.v (.int .u64 a0_6)), (.v (.int .u64 a0_7)), (.v (.int .u64 a0_8))])))), (53, (.v (.int .i64 (((List.length (List.map (fun (c : AV) => [c]) (List.take ((Int.toNat (IntKind.wrap .i64 (2 + (IntKind.wrap .i64 (bits .and .u32 (Int.fdiv (avInt (cellAt (obCells (cellAt r0 0)) 2)) 256) 255))))) - 2) [(.v (.int .u64 a0_4)), (.v (.int .u64 a0_5)), (.v (.int .u64 a0_6)), (.v (.int .u64 a0_7)), (.v (.int .u64 a0_8))]))) : Nat) : Int)))), (54, (.v (.int .i64 0)))], [⟨2, 42, 9, true, [[(.v (.int .i64 a0_0)), (.v (.int .u64 a0_1)), (.v (.int .u64 a0_2)), (.v (.int .u64 a0_3)), (.v (.int .u64 a0_4)), (.v (.int .u64 a0_5)), (.v (.int .u64 a0_6)), (.v (.int .u64 a0_7)), (.v (.int .u64 a0_8))]]⟩, ⟨1, 85, 7, true, [[(.v (.int .i64 0)), (.v (.bool false)), (.v (.bool false)), (.v (.int .u32 0)), (.v (.int .i64 0)), (.v (.int .i64 0)), (.sl true 2 0 none)]]⟩, ⟨1, 101, 3, false, []⟩, ⟨1, 85, 7, true, [[(.v (.int .i64 (IntKind.wrap .i64 (bits .and .u32 (avInt (cellAt (obCells (cellAt r0 0)) 2)) 255)))), (.v (.bool (!((bits .and .u32 (avInt (cellAt (obCells (cellAt r0 0)) 2)) 65536) == 0)))), (.v (.bool (!((bits .and .u32 (avInt (cellAt (obCells (cellAt r0 0)) 2)) 131072) == 0)))), (.v (.int .u32 (IntKind.wrap .u32 a0_3))), (.v (.int .i64 (avInt (cellAt (obCells (cellAt r18 0)) 0)))), (.v (.int .i64 (avInt (cellAt (obCells (cellAt r18 0)) 1)))), (.sl true 4 0 none)]]⟩, ⟨1, 101, 3, false, []⟩]⟩).bind fun r24 =>
 cond (isEx 0 r24)
 (cond (likeStG ⟨[(1, (.ptr 0 0 0)), (2, (.ptr 1 0 0)), (6, (.ptr 3 0 0))], [⟨2, 42, 9, true, [[(.v (.int .i64 a0_0)), (.v (.int .u64 a0_1)), (.v (.int .u64 a0_2)), (.v (.int .u64 a0_3)), (.v (.int .u64 a0_4)), (.v (.int .u64 a0_5)), (.v (.int .u64 a0_6)), (.v (.int .u64 a0_7)), (.v (.int .u64 a0_8))]]⟩, ⟨1, 85, 7, true, [[(.v (.int .i64 0)), (.v (.bool false)), (.v (.bool false)), (.v (.int .u32 0)), (.v (.int .i64 0)), (.v (.int .i64 0)), (.sl true 2 0 none)]]⟩, ⟨1, 101, 3, false, []⟩, ⟨1, 85, 7, true, [[(.v (.int .i64 (IntKind.wrap .i64 (bits .and .u32 (avInt (cellAt (obCells (cellAt r0 0)) 2)) 255)))), (.v (.bool (!((bits .and .u32 (avInt (cellAt (obCells (cellAt r0 0)) 2)) 65536) == 0)))), (.v (.bool (!((bits .and .u32 (avInt (cellAt (obCells (cellAt r0 0)) 2)) 131072) == 0)))), (.v (.int .u32 (IntKind.wrap .u32 a0_3))), (.v (.int .i64 (avInt (cellAt (obCells (cellAt r18 0)) 0)))), (.v (.int .i64 (avInt (cellAt (obCells (cellAt r18 0)) 1)))), (.sl true 4 0 none)]]⟩, ⟨1, 101, 3, false, []⟩]⟩ r24.st)
 ((ev 58 [(.agg [(.v (.int .i64 (avInt (cellAt (lget (blAt r24.st.bl 3).xs 0) 0)))), (.v (.bool (avBool (cellAt (lget (blAt r24.st.bl 3).xs 0) 1)))), (.v (.bool (avBool (cellAt (lget (blAt r24.st.bl 3).xs 0) 2)))), (.v (.int .u32 (avInt (cellAt (lget (blAt r24.st.bl 3).xs 0) 3)))), (.v (.int .i64 (avInt (cellAt (lget (blAt r24.st.bl 3).xs 0) 4)))), (.v (.int .i64 (avInt (cellAt (lget (blAt r24.st.bl 3).xs 0) 5)))), (.lst (avNil (cellAt (lget (blAt r24.st.bl 3).xs 0) 6)) 3 (blAt r24.st.bl 4).xs)])]).bind fun r50 =>
 cond (isB (cellAt r50 0))
 (cond (!(avBool (cellAt r50 0)))
 (some [(.agg [(.v (.int .i64 0)), (.v (.bool false)), (.v (.bool false)), (.v (.int .u32 0)), (.v (.int .i64 0)), (.v (.int .i64 0)), (.lst true 3 [])]), (.v (.int .i64 14))])
 ((ev 59 [(.agg [(.v (.int .i64 (avInt (cellAt (lget (blAt r24.st.bl 3).xs 0) 0)))), (.v (.bool (avBool (cellAt (lget (blAt r24.st.bl 3).xs 0) 1)))), (.v (.bool (avBool (cellAt (lget (blAt r24.st.bl 3).xs 0) 2)))), (.v (.int .u32 (avInt (cellAt (lget (blAt r24.st.bl 3).xs 0) 3)))), (.v (.int .i64 (avInt (cellAt (lget (blAt r24.st.bl 3).xs 0) 4)))), (.v (.int .i64 (avInt (cellAt (lget (blAt r24.st.bl 3).xs 0) 5)))), (.lst (avNil (cellAt (lget (blAt r24.st.bl 3).xs 0) 6)) 3 (blAt r24.st.bl 4).xs)]), (.agg [(.v (.int .i64 (avInt (cellAt (lget (blAt r24.st.bl 0).xs 0) 0)))), (.v (.int .u64 (avInt (cellAt (lget (blAt r24.st.bl 0).xs 0) 1)))), (.v (.int .u64 (avInt (cellAt (lget (blAt r24.st.bl 0).xs 0) 2)))), (.v (.int .u64 (avInt (cellAt (lget (blAt r24.st.bl 0).xs 0) 3)))), (.v (.int .u64 (avInt (cellAt (lget (blAt r24.st.bl 0).xs 0) 4)))), (.v (.int .u64 (avInt (cellAt (lget (blAt r24.st.bl 0).xs 0) 5)))), (.v (.int .u64 (avInt (cellAt (lget (blAt r24.st.bl 0).xs 0) 6)))), (.v (.int .u64 (avInt (cellAt (lget (blAt r24.st.bl 0).xs 0) 7)))), (.v (.int .u64 (avInt (cellAt (lget (blAt r24.st.bl 0).xs 0) 8))))])]).bind fun r53 =>
 cond ((Ev.isAgg 9 (cellAt r53 0)) && ((isI .i64 (cellAt (obCells (cellAt r53 0)) 0)) && ((isI .u64 (cellAt (obCells (cellAt r53 0)) 1)) && ((isI .u64 (cellAt (obCells (cellAt r53 0)) 2)) && ((isI .u64 (cellAt (obCells (cellAt r53 0)) 3)) && ((isI .u64 (cellAt (obCells (cellAt r53 0)) 4)) && ((isI .u64 (cellAt (obCells (cellAt r53 0)) 5)) && ((isI .u64 (cellAt (obCells (cellAt r53 0)) 6)) && ((isI .u64 (cellAt (obCells (cellAt r53 0)) 7)) && (isI .u64 (cellAt (obCells (cellAt r53 0)) 8)))))))))))
 (cond (!(((avInt (cellAt (obCells (cellAt r53 0)) 2)) == (avInt (cellAt (lget (blAt r24.st.bl 0).xs 0) 2))) && (((avInt (cellAt (obCells (cellAt r53 0)) 3)) == (avInt (cellAt (lget (blAt r24.st.bl 0).xs 0) 3))) && (((avInt (cellAt (obCells (cellAt r53 0)) 4)) == (avInt (cellAt (lget (blAt r24.st.bl 0).xs 0) 4))) && (((avInt (cellAt (obCells (cellAt r53 0)) 5)) == (avInt (cellAt (lget (blAt r24.st.bl 0).xs 0) 5))) && (((avInt (cellAt (obCells (cellAt r53 0)) 6)) == (avInt (cellAt (lget (blAt r24.st.bl 0).xs 0) 6))) && (((avInt (cellAt (obCells (cellAt r53 0)) 7)) == (avInt (cellAt (lget (blAt r24.st.bl 0).xs 0) 7))) && ((avInt (cellAt (obCells (cellAt r53 0)) 8)) == (avInt (cellAt (lget (blAt r24.st.bl 0).xs 0) 8))))))))))
 (some [(.agg [(.v (.int .i64 0)), (.v (.bool false)), (.v (.bool false)), (.v (.int .u32 0)), (.v (.int .i64 0)), (.v (.int .i64 0)), (.lst true 3 [])]), (.v (.int .i64 14))])
 (some [(.agg [(.v (.int .i64 (avInt (cellAt (lget (blAt r24.st.bl 3).xs 0) 0)))), (.v (.bool (avBool (cellAt (lget (blAt r24.st.bl 3).xs 0) 1)))), (.v (.bool (avBool (cellAt (lget (blAt r24.st.bl 3).xs 0) 2)))), (.v (.int .u32 (avInt (cellAt (lget (blAt r24.st.bl 3).xs 0) 3)))), (.v (.int .i64 (avInt (cellAt (lget (blAt r24.st.bl 3).xs 0) 4)))), (.v (.int .i64 (avInt (cellAt (lget (blAt r24.st.bl 3).xs 0) 5)))), (.lst (avNil (cellAt (lget (blAt r24.st.bl 3).xs 0) 6)) 3 (blAt r24.st.bl 4).xs)]), (.v (.int .i64 0))]))
 (none)))
 (none))
 (none))
 (cond (isRt r24)
 (some r24.outs)
 (none)))
 (none))
 (none))))
 (none) := (ev_eq _ _).trans (by kernel_rfl)
theorem lp47_0 (x52n : Bool) (x52 : List (List AV)) (x53 : Int) (x54 : Int) (b0_0 : Int) (b0_1 : Int) (b0_2 : Int) (b0_3 : Int) (b0_4 : Int) (b0_5 : Int) (b0_6 : Int) (b0_7 : Int) (b0_8 : Int) (b1_0 : Int) (b1_1 : Bool) (b1_2 : Bool) (b1_3 : Int) (b1_4 : Int) (b1_5 : Int) (b1_6n : Bool) (b2 : List (List AV)) (b3_0 : Int) (b3_1 : Bool) (b3_2 : Bool) (b3_3 : Int) (b3_4 : Int) (b3_5 : Int) (b3_6n : Bool) (b4 : List (List AV)) : lp 47 0 0 ⟨[(1, (.ptr 0 0 0)), (2, (.ptr 1 0 0)), (6, (.ptr 3 0 0)), (52, (.lst x52n 1 x52)), (53, (.v (.int .i64 x53))), (54, (.v (.int .i64 x54)))], [⟨2, 42, 9, true, [[(.v (.int .i64 b0_0)), (.v (.int .u64 b0_1)), (.v (.int .u64 b0_2)), (.v (.int .u64 b0_3)), (.v (.int .u64 b0_4)), (.v (.int .u64 b0_5)), (.v (.int .u64 b0_6)), (.v (.int .u64 b0_7)), (.v (.int .u64 b0_8))]]⟩, ⟨1, 85, 7, true, [[(.v (.int .i64 b1_0)), (.v (.bool b1_1)), (.v (.bool b1_2)), (.v (.int .u32 b1_3)), (.v (.int .i64 b1_4)), (.v (.int .i64 b1_5)), (.sl b1_6n 2 0 none)]]⟩, ⟨1, 101, 3, false, b2⟩, ⟨1, 85, 7, true, [[(.v (.int .i64 b3_0)), (.v (.bool b3_1)), (.v (.bool b3_2)), (.v (.int .u32 b3_3)), (.v (.int .i64 b3_4)), (.v (.int .i64 b3_5)), (.sl b3_6n 4 0 none)]]⟩, ⟨1, 101, 3, false, b4⟩]⟩ =
 cond (ltI x54 x53)
 (cond ((leI 0 x54) && (ltI x54 (((List.length x52) : Nat) : Int)))
 (cond (isI .u64 (cellAt (lget x52 (Int.toNat x54)) 0))
 ((ev 57 [(.v (.int .u32 (IntKind.wrap .u32 (avInt (cellAt (lget x52 (Int.toNat x54)) 0)))))]).bind fun r68 =>
 cond ((Ev.isAgg 2 (cellAt r68 0)) && ((isI .i64 (cellAt (obCells (cellAt r68 0)) 0)) && (isI .i64 (cellAt (obCells (cellAt r68 0)) 1))))
 (cond (leN (((List.length b4) + 1) * 24) 140737488355328)
 (lp 47 0 0 ⟨[(1, (.ptr 0 0 0)), (2, (.ptr 1 0 0)), (6, (.ptr 3 0 0)), (52, (.lst x52n 1 x52)), (53, (.v (.int .i64 x53))), (54, (.v (.int .i64 (IntKind.wrap .i64 (x54 + 1)))))], [⟨2, 42, 9, true, [[(.v (.int .i64 b0_0)), (.v (.int .u64 b0_1)), (.v (.int .u64 b0_2)), (.v (.int .u64 b0_3)), (.v (.int .u64 b0_4)), (.v (.int .u64 b0_5)), (.v (.int .u64 b0_6)), (.v (.int .u64 b0_7)), (.v (.int .u64 b0_8))]]⟩, ⟨1, 85, 7, true, [[(.v (.int .i64 b1_0)), (.v (.bool b1_1)), (.v (.bool b1_2)), (.v (.int .u32 b1_3)), (.v (.int .i64 b1_4)), (.v (.int .i64 b1_5)), (.sl b1_6n 2 0 none)]]⟩, ⟨1, 101, 3, false, b2⟩, ⟨1, 85, 7, true, [[(.v (.int .i64 b3_0)), (.v (.bool b3_1)), (.v (.bool b3_2)), (.v (.int .u32 b3_3)), (.v (.int .i64 b3_4)), (.v (.int .i64 b3_5)), (.sl false 4 0 none)]]⟩, ⟨1, 101, 3, false, (b4 ++ [[(.v (.int .u32 (IntKind.wrap .u32 (Int.fdiv (avInt (cellAt (lget x52 (Int.toNat x54)) 0)) 4294967296)))), (.v (.int .i64 (avInt (cellAt (obCells (cellAt r68 0)) 0)))), (.v (.int .i64 (avInt (cellAt (obCells (cellAt r68 0)) 1))))]])⟩]⟩)
 (none))
 (none))
 (none))
 (none))
 (some ⟨(some 0), ⟨[(1, (.ptr 0 0 0)), (2, (.ptr 1 0 0)), (6, (.ptr 3 0 0))], [⟨2, 42, 9, true, [[(.v (.int .i64 b0_0)), (.v (.int .u64 b0_1)), (.v (.int .u64 b0_2)), (.v (.int .u64 b0_3)), (.v (.int .u64 b0_4)), (.v (.int .u64 b0_5)), (.v (.int .u64 b0_6)), (.v (.int .u64 b0_7)), (.v (.int .u64 b0_8))]]⟩, ⟨1, 85, 7, true, [[(.v (.int .i64 b1_0)), (.v (.bool b1_1)), (.v (.bool b1_2)), (.v (.int .u32 b1_3)), (.v (.int .i64 b1_4)), (.v (.int .i64 b1_5)), (.sl b1_6n 2 0 none)]]⟩, ⟨1, 101, 3, false, b2⟩, ⟨1, 85, 7, true, [[(.v (.int .i64 b3_0)), (.v (.bool b3_1)), (.v (.bool b3_2)), (.v (.int .u32 b3_3)), (.v (.int .i64 b3_4)), (.v (.int .i64 b3_5)), (.sl b3_6n 4 0 none)]]⟩, ⟨1, 101, 3, false, b4⟩]⟩, []⟩) := (lp_eq _ _ _ _).trans (by kernel_rfl)
theorem ev48 (a0_0 : Int) : ev 48 [(.v (.int .u64 a0_0))] =
 some [(.agg [(.v (.int .i64 (IntKind.wrap .i64 (bits .and .u64 a0_0 255)))), (.v (.int .i64 (IntKind.wrap .i64 (bits .and .u64 (Int.fdiv a0_0 256) 16777215)))), (.v (.int .u32 (IntKind.wrap .u32 (Int.fdiv a0_0 4294967296))))])] := (ev_eq _ _).trans (by kernel_rfl)
theorem ev56 (a0_0 : Int) : ev 56 [(.v (.int .i64 a0_0))] =
 (ev 62 [(.v (.int .i64 a0_0))]).bind fun r0 =>
 cond (isB (cellAt r0 0))
 (cond (!(avBool (cellAt r0 0)))
 (some [(.v (.int .i64 0))])
 (some [(.v (.int .i64 (IntKind.wrap .i64 (Int.tdiv (IntKind.wrap .i64 (a0_0 - 104)) 16))))]))
 (none) := (ev_eq _ _).trans (by kernel_rfl)
theorem ev57 (a0_0 : Int) : ev 57 [(.v (.int .u32 a0_0))] =
 some [(.agg [(.v (.int .i64 (IntKind.wrap .i64 (bits .and .u32 a0_0 255)))), (.v (.int .i64 (IntKind.wrap .i64 (Int.fdiv a0_0 256))))])] := (ev_eq _ _).trans (by kernel_rfl)
theorem ev58 (a0_0 : Int) (a0_1 : Bool) (a0_2 : Bool) (a0_3 : Int) (a0_4 : Int) (a0_5 : Int) (a0_6n : Bool) (a0_6 : List (List AV)) : ev 58 [(.agg [(.v (.int .i64 a0_0)), (.v (.bool a0_1)), (.v (.bool a0_2)), (.v (.int .u32 a0_3)), (.v (.int .i64 a0_4)), (.v (.int .i64 a0_5)), (.lst a0_6n 3 a0_6)])] =
 cond (ltI a0_0 0)
 (some [(.v (.bool false))])
 (cond (ltI 8 a0_0)
 (some [(.v (.bool false))])
 (cond (ltI 5 (((List.length a0_6) : Nat) : Int))
 (some [(.v (.bool false))])
 ((ev 63 [(.lst a0_6n 3 a0_6)]).bind fun r4 =>
 cond (isB (cellAt r4 0))
 (cond (!(avBool (cellAt r4 0)))
 (some [(.v (.bool false))])
 (cond (a0_3 == 0)
 (some [(.v (.bool false))])
 (cond (!((a0_4 == 0) && (a0_5 == 0)))
 ((ev 64 [(.agg [(.v (.int .i64 a0_4)), (.v (.int .i64 a0_5))])]).bind fun r9 =>
 cond (isB (cellAt r9 0))
 (cond (!(avBool (cellAt r9 0)))
 (some [(.v (.bool false))])
 (cond (!((a0_3 == 4294967295) == ((a0_4 == 0) && (a0_5 == 0))))
 (some [(.v (.bool false))])
 (cond (ltI 0 (((List.length a0_6) : Nat) : Int))
 (cond ((leI 0 (IntKind.wrap .i64 ((((List.length a0_6) : Nat) : Int) - 1))) && (ltI (IntKind.wrap .i64 ((((List.length a0_6) : Nat) : Int) - 1)) (((List.length a0_6) : Nat) : Int)))
 (cond (isI .u32 (cellAt (lget a0_6 (Int.toNat (IntKind.wrap .i64 ((((List.length a0_6) : Nat) : Int) - 1)))) 0))
 (cond (ltI 0 a0_0)
 (cond (!a0_2)
 (some [(.v (.bool ((avInt (cellAt (lget a0_6 (Int.toNat (IntKind.wrap .i64 ((((List.length a0_6) : Nat) : Int) - 1)))) 0)) == a0_3)))])
 (some [(.v (.bool false))]))
 (cond a0_2
 (cond (ltI 0 (((List.length a0_6) : Nat) : Int))
 (some [(.v (.bool false))])
 (cond a0_1
 (some [(.v (.bool false))])
 (cond ((a0_4 == 0) && (a0_5 == 0))
 (some [(.v (.bool false))])
 (cond (leI (avInt (cellAt (lget a0_6 (Int.toNat (IntKind.wrap .i64 ((((List.length a0_6) : Nat) : Int) - 1)))) 0)) a0_3)
 (some [(.v (.bool (leI (avInt (cellAt (lget a0_6 (Int.toNat (IntKind.wrap .i64 ((((List.length a0_6) : Nat) : Int) - 1)))) 0)) 4294967294)))])
 (some [(.v (.bool false))])))))
 (cond (leI (avInt (cellAt (lget a0_6 (Int.toNat (IntKind.wrap .i64 ((((List.length a0_6) : Nat) : Int) - 1)))) 0)) a0_3)
 (some [(.v (.bool (leI (avInt (cellAt (lget a0_6 (Int.toNat (IntKind.wrap .i64 ((((List.length a0_6) : Nat) : Int) - 1)))) 0)) 4294967294)))])
 (some [(.v (.bool false))]))))
 (none))
 (none))
 (cond (ltI 0 a0_0)
 (cond (!a0_2)
 (some [(.v (.bool (0 == a0_3)))])
 (some [(.v (.bool false))]))
 (cond a0_2
 (cond (ltI 0 (((List.length a0_6) : Nat) : Int))
 (some [(.v (.bool false))])
 (cond a0_1
 (some [(.v (.bool false))])
 (cond ((a0_4 == 0) && (a0_5 == 0))
 (some [(.v (.bool false))])
 (cond (leI 0 a0_3)
 (some [(.v (.bool true))])
 (some [(.v (.bool false))])))))
 (cond (leI 0 a0_3)
 (some [(.v (.bool true))])
 (some [(.v (.bool false))])))))))
 (none))
 (cond (!((a0_3 == 4294967295) == ((a0_4 == 0) && (a0_5 == 0))))
 (some [(.v (.bool false))])
 (cond (ltI 0 (((List.length a0_6) : Nat) : Int))
 (cond ((leI 0 (IntKind.wrap .i64 ((((List.length a0_6) : Nat) : Int) - 1))) && (ltI (IntKind.wrap .i64 ((((List.length a0_6) : Nat) : Int) - 1)) (((List.length a0_6) : Nat) : Int)))
 (cond (isI .u32 (cellAt (lget a0_6 (Int.toNat (IntKind.wrap .i64 ((((List.length a0_6) : Nat) : Int) - 1)))) 0))
 (cond (ltI 0 a0_0)
 (cond (!a0_2)
 (some [(.v (.bool ((avInt (cellAt (lget a0_6 (Int.toNat (IntKind.wrap .i64 ((((List.length a0_6) : Nat) : Int) - 1)))) 0)) == a0_3)))])
 (some [(.v (.bool false))]))
 (cond a0_2
 (cond (ltI 0 (((List.length a0_6) : Nat) : Int))
 (some [(.v (.bool false))])
 (cond a0_1
 (some [(.v (.bool false))])
 (cond ((a0_4 == 0) && (a0_5 == 0))
 (some [(.v (.bool false))])
 (cond (leI (avInt (cellAt (lget a0_6 (Int.toNat (IntKind.wrap .i64 ((((List.length a0_6) : Nat) : Int) - 1)))) 0)) a0_3)
 (some [(.v (.bool (leI (avInt (cellAt (lget a0_6 (Int.toNat (IntKind.wrap .i64 ((((List.length a0_6) : Nat) : Int) - 1)))) 0)) 4294967294)))])
 (some [(.v (.bool false))])))))
 (cond (leI (avInt (cellAt (lget a0_6 (Int.toNat (IntKind.wrap .i64 ((((List.length a0_6) : Nat) : Int) - 1)))) 0)) a0_3)
 (some [(.v (.bool (leI (avInt (cellAt (lget a0_6 (Int.toNat (IntKind.wrap .i64 ((((List.length a0_6) : Nat) : Int) - 1)))) 0)) 4294967294)))])
 (some [(.v (.bool false))]))))
 (none))
 (none))
 (cond (ltI 0 a0_0)
 (cond (!a0_2)
 (some [(.v (.bool (0 == a0_3)))])
 (some [(.v (.bool false))]))
 (cond a0_2
 (cond (ltI 0 (((List.length a0_6) : Nat) : Int))
 (some [(.v (.bool false))])
 (cond a0_1
 (some [(.v (.bool false))])
 (cond ((a0_4 == 0) && (a0_5 == 0))
 (some [(.v (.bool false))])
 (cond (leI 0 a0_3)
 (some [(.v (.bool true))])
 (some [(.v (.bool false))])))))
 (cond (leI 0 a0_3)
 (some [(.v (.bool true))])
 (some [(.v (.bool false))])))))))))
 (none)))) := (ev_eq _ _).trans (by kernel_rfl)
theorem ev59 (a0_0 : Int) (a0_1 : Bool) (a0_2 : Bool) (a0_3 : Int) (a0_4 : Int) (a0_5 : Int) (a0_6n : Bool) (a0_6 : List (List AV)) (a1_0 : Int) (a1_1 : Int) (a1_2 : Int) (a1_3 : Int) (a1_4 : Int) (a1_5 : Int) (a1_6 : Int) (a1_7 : Int) (a1_8 : Int) : ev 59 [(.agg [(.v (.int .i64 a0_0)), (.v (.bool a0_1)), (.v (.bool a0_2)), (.v (.int .u32 a0_3)), (.v (.int .i64 a0_4)), (.v (.int .i64 a0_5)), (.lst a0_6n 3 a0_6)]), (.agg [(.v (.int .i64 a1_0)), (.v (.int .u64 a1_1)), (.v (.int .u64 a1_2)), (.v (.int .u64 a1_3)), (.v (.int .u64 a1_4)), (.v (.int .u64 a1_5)), (.v (.int .u64 a1_6)), (.v (.int .u64 a1_7)), (.v (.int .u64 a1_8))])] =
 (ev 48 [(.v (.int .u64 a1_2))]).bind fun r0 =>
 cond ((Ev.isAgg 3 (cellAt r0 0)) && ((isI .i64 (cellAt (obCells (cellAt r0 0)) 0)) && ((isI .i64 (cellAt (obCells (cellAt r0 0)) 1)) && (isI .u32 (cellAt (obCells (cellAt r0 0)) 2)))))
 (cond a0_1
 (cond a0_2
 ((ev 65 [(.agg [(.v (.int .i64 (avInt (cellAt (obCells (cellAt r0 0)) 0)))), (.v (.int .i64 (avInt (cellAt (obCells (cellAt r0 0)) 1)))), (.v (.int .u32 (bits .or .u32 (bits .or .u32 (bits .or .u32 (IntKind.wrap .u32 a0_0) (IntKind.wrap .u32 ((IntKind.wrap .u32 (((List.length a0_6) : Nat) : Int)) * 256))) 65536) 131072)))])]).bind fun r11 =>
 cond (isI .u64 (cellAt r11 0))
 ((ev 66 [(.agg [(.v (.int .i64 a0_4)), (.v (.int .i64 a0_5))])]).bind fun r14 =>
 cond (isI .u32 (cellAt r14 0))
 ((lp 59 0 0 ⟨[(3, (.ptr 0 0 0)), (4, (.ptr 1 0 0)), (48, (.lst a0_6n 3 a0_6)), (49, (.v (.int .i64 (((List.length a0_6) : Nat) : Int)))), (50, (.v (.int .i64 0)))], [⟨1, 42, 9, true, [[(.v (.int .i64 a1_0)), (.v (.int .u64 a1_1)), (.v (.int .u64 (avInt (cellAt r11 0)))), (.v (.int .u64 (bits .or .u64 (IntKind.wrap .u64 a0_3) (IntKind.wrap .u64 ((IntKind.wrap .u64 (avInt (cellAt r14 0))) * 4294967296))))), (.v (.int .u64 0)), (.v (.int .u64 0)), (.v (.int .u64 0)), (.v (.int .u64 0)), (.v (.int .u64 0))]]⟩, ⟨1, 42, 9, true, [[(.v (.int .i64 0)), (.v (.int .u64 0)), (.v (.int .u64 0)), (.v (.int .u64 0)), (.v (.int .u64 0)), (.v (.int .u64 0)), (.v (.int .u64 0)), (.v (.int .u64 0)), (.v (.int .u64 0))]]⟩]⟩).bind fun r20 =>
 cond (isEx 0 r20)
 (cond (likeStG ⟨[(3, (.ptr 0 0 0)), (4, (.ptr 1 0 0))], [⟨1, 42, 9, true, [[(.v (.int .i64 a1_0)), (.v (.int .u64 a1_1)), (.v (.int .u64 (avInt (cellAt r11 0)))), (.v (.int .u64 (bits .or .u64 (IntKind.wrap .u64 a0_3) (IntKind.wrap .u64 ((IntKind.wrap .u64 (avInt (cellAt r14 0))) * 4294967296))))), (.v (.int .u64 0)), (.v (.int .u64 0)), (.v (.int .u64 0)), (.v (.int .u64 0)), (.v (.int .u64 0))]]⟩, ⟨1, 42, 9, true, [[(.v (.int .i64 0)), (.v (.int .u64 0)), (.v (.int .u64 0)), (.v (.int .u64 0)), (.v (.int .u64 0)), (.v (.int .u64 0)), (.v (.int .u64 0)), (.v (.int .u64 0)), (.v (.int .u64 0))]]⟩]⟩ r20.st)
 (some [(.agg [(.v (.int .i64 (avInt (cellAt (lget (blAt r20.st.bl 0).xs 0) 0)))), (.v (.int .u64 (avInt (cellAt (lget (blAt r20.st.bl 0).xs 0) 1)))), (.v (.int .u64 (avInt (cellAt (lget (blAt r20.st.bl 0).xs 0) 2)))), (.v (.int .u64 (avInt (cellAt (lget (blAt r20.st.bl 0).xs 0) 3)))), (.v (.int .u64 (avInt (cellAt (lget (blAt r20.st.bl 0).xs 0) 4)))), (.v (.int .u64 (avInt (cellAt (lget (blAt r20.st.bl 0).xs 0) 5)))), (.v (.int .u64 (avInt (cellAt (lget (blAt r20.st.bl 0).xs 0) 6)))), (.v (.int .u64 (avInt (cellAt (lget (blAt r20.st.bl 0).xs 0) 7)))), (.v (.int .u64 (avInt (cellAt (lget (blAt r20.st.bl 0).xs 0) 8))))])])
 (none))
 (cond (isRt r20)
 (some r20.outs)
 (none)))
 (none))
 (none))
 ((ev 65 [(.agg [(.v (.int .i64 (avInt (cellAt (obCells (cellAt r0 0)) 0)))), (.v (.int .i64 (avInt (cellAt (obCells (cellAt r0 0)) 1)))), (.v (.int .u32 (bits .or .u32 (bits .or .u32 (IntKind.wrap .u32 a0_0) (IntKind.wrap .u32 ((IntKind.wrap .u32 (((List.length a0_6) : Nat) : Int)) * 256))) 65536)))])]).bind fun r39 =>
 cond (isI .u64 (cellAt r39 0))
 ((ev 66 [(.agg [(.v (.int .i64 a0_4)), (.v (.int .i64 a0_5))])]).bind fun r42 =>
 cond (isI .u32 (cellAt r42 0))
 ((lp 59 0 0 ⟨[(3, (.ptr 0 0 0)), (4, (.ptr 1 0 0)), (48, (.lst a0_6n 3 a0_6)), (49, (.v (.int .i64 (((List.length a0_6) : Nat) : Int)))), (50, (.v (.int .i64 0)))], [⟨1, 42, 9, true, [[(.v (.int .i64 a1_0)), (.v (.int .u64 a1_1)), (.v (.int .u64 (avInt (cellAt r39 0)))), (.v (.int .u64 (bits .or .u64 (IntKind.wrap .u64 a0_3) (IntKind.wrap .u64 ((IntKind.wrap .u64 (avInt (cellAt r42 0))) * 4294967296))))), (.v (.int .u64 0)), (.v (.int .u64 0)), (.v (.int .u64 0)), (.v (.int .u64 0)), (.v (.int .u64 0))]]⟩, ⟨1, 42, 9, true, [[(.v (.int .i64 0)), (.v (.int .u64 0)), (.v (.int .u64 0)), (.v (.int .u64 0)), (.v (.int .u64 0)), (.v (.int .u64 0)), (.v (.int .u64 0)), (.v (.int .u64 0)), (.v (.int .u64 0))]]⟩]⟩).bind fun r48 =>
 cond (isEx 0 r48)
 (cond (likeStG ⟨[(3, (.ptr 0 0 0)), (4, (.ptr 1 0 0))], [⟨1, 42, 9, true, [[(.v (.int .i64 a1_0)), (.v (.int .u64 a1_1)), (.v (.int .u64 (avInt (cellAt r39 0)))), (.v (.int .u64 (bits .or .u64 (IntKind.wrap .u64 a0_3) (IntKind.wrap .u64 ((IntKind.wrap .u64 (avInt (cellAt r42 0))) * 4294967296))))), (.v (.int .u64 0)), (.v (.int .u64 0)), (.v (.int .u64 0)), (.v (.int .u64 0)), (.v (.int .u64 0))]]⟩, ⟨1, 42, 9, true, [[(.v (.int .i64 0)), (.v (.int .u64 0)), (.v (.int .u64 0)), (.v (.int .u64 0)), (.v (.int .u64 0)), (.v (.int .u64 0)), (.v (.int .u64 0)), (.v (.int .u64 0)), (.v (.int .u64 0))]]⟩]⟩ r48.st)
 (some [(.agg [(.v (.int .i64 (avInt (cellAt (lget (blAt r48.st.bl 0).xs 0) 0)))), (.v (.int .u64 (avInt (cellAt (lget (blAt r48.st.bl 0).xs 0) 1)))), (.v (.int .u64 (avInt (cellAt (lget (blAt r48.st.bl 0).xs 0) 2)))), (.v (.int .u64 (avInt (cellAt (lget (blAt r48.st.bl 0).xs 0) 3)))), (.v (.int .u64 (avInt (cellAt (lget (blAt r48.st.bl 0).xs 0) 4)))), (.v (.int .u64 (avInt (cellAt (lget (blAt r48.st.bl 0).xs 0) 5)))), (.v (.int .u64 (avInt (cellAt (lget (blAt r48.st.bl 0).xs 0) 6)))), (.v (.int .u64 (avInt (cellAt (lget (blAt r48.st.bl 0).xs 0) 7)))), (.v (.int .u64 (avInt (cellAt (lget (blAt r48.st.bl 0).xs 0) 8))))])])
 (none))
 (cond (isRt r48)
 (some r48.outs)
 (none)))
 (none))
 (none)))
 (cond a0_2
 ((ev 65 [(.agg [(.v (.int .i64 (avInt (cellAt (obCells (cellAt r0 0)) 0)))), (.v (.int .i64 (avInt (cellAt (obCells (cellAt r0 0)) 1)))), (.v (.int .u32 (bits .or .u32 (bits .or .u32 (IntKind.wrap .u32 a0_0) (IntKind.wrap .u32 ((IntKind.wrap .u32 (((List.length a0_6) : Nat) : Int)) * 256))) 131072)))])]).bind fun r68 =>
 cond (isI .u64 (cellAt r68 0))
 ((ev 66 [(.agg [(.v (.int .i64 a0_4)), (.v (.int .i64 a0_5))])]).bind fun r71 =>
 cond (isI .u32 (cellAt r71 0))
 ((lp 59 0 0 ⟨[(3, (.ptr 0 0 0)), (4, (.ptr 1 0 0)), (48, (.lst a0_6n 3 a0_6)), (49, (.v (.int .i64 (((List.length a0_6) : Nat) : Int)))), (50, (.v (.int .i64 0)))], [⟨1, 42, 9, true, [[(.v (.int .i64 a1_0)), (.v (.int .u64 a1_1)), (.v (.int .u64 (avInt (cellAt r68 0)))), (.v (.int .u64 (bits .or .u64 (IntKind.wrap .u64 a0_3) (IntKind.wrap .u64 ((IntKind.wrap .u64 (avInt (cellAt r71 0))) * 4294967296))))), (.v (.int .u64 0)), (.v (.int .u64 0)), (.v (.int .u64 0)), (.v (.int .u64 0)), (.v (.int .u64 0))]]⟩, ⟨1, 42, 9, true, [[(.v (.int .i64 0)), (.v (.int .u64 0)), (.v (.int .u64 0)), (.v (.int .u64 0)), (.v (.int .u64 0)), (.v (.int .u64 0)), (.v (.int .u64 0)), (.v (.int .u64 0)), (.v (.int .u64 0))]]⟩]⟩).bind fun r77 =>
 cond (isEx 0 r77)
 (cond (likeStG ⟨[(3, (.ptr 0 0 0)), (4, (.ptr 1 0 0))], [⟨1, 42, 9, true, [[(.v (.int .i64 a1_0)), (.v (.int .u64 a1_1)), (.v (.int .u64 (avInt (cellAt r68 0)))), (.v (.int .u64 (bits .or .u64 (IntKind.wrap .u64 a0_3) (IntKind.wrap .u64 ((IntKind.wrap .u64 (avInt (cellAt r71 0))) * 4294967296))))), (.v (.int .u64 0)), (.v (.int .u64 0)), (.v (.int .u64 0)), (.v (.int .u64 0)), (.v (.int .u64 0))]]⟩, ⟨1, 42, 9, true, [[(.v (.int .i64 0)), (.v (.int .u64 0)), (.v (.int .u64 0)), (.v (.int .u64 0)), (.v (.int .u64 0)), (.v (.int .u64 0)), (.v (.int .u64 0)), (.v (.int .u64 0)), (.v (.int .u64 0))]]⟩]⟩ r77.st)
 (some [(.agg [(.v (.int .i64 (avInt (cellAt (lget (blAt r77.st.bl 0).xs 0) 0)))), (.v (.int .u64 (avInt (cellAt (lget (blAt r77.st.bl 0).xs 0) 1)))), (.v (.int .u64 (avInt (cellAt (lget (blAt r77.st.bl 0).xs 0) 2)))), (.v (.int .u64 (avInt (cellAt (lget (blAt r77.st.bl 0).xs 0) 3)))), (.v (.int .u64 (avInt (cellAt (lget (blAt r77.st.bl 0).xs 0) 4)))), (.v (.int .u64 (avInt (cellAt (lget (blAt r77.st.bl 0).xs 0) 5)))), (.v (.int .u64 (avInt (cellAt (lget (blAt r77.st.bl 0).xs 0) 6)))), (.v (.int .u64 (avInt (cellAt (lget (blAt r77.st.bl 0).xs 0) 7)))), (.v (.int .u64 (avInt (cellAt (lget (blAt r77.st.bl 0).xs 0) 8))))])])
 (none))
 (cond (isRt r77)
 (some r77.outs)
 (none)))
 (none))
 (none))
 ((ev 65 [(.agg [(.v (.int .i64 (avInt (cellAt (obCells (cellAt r0 0)) 0)))), (.v (.int .i64 (avInt (cellAt (obCells (cellAt r0 0)) 1)))), (.v (.int .u32 (bits .or .u32 (IntKind.wrap .u32 a0_0) (IntKind.wrap .u32 ((IntKind.wrap .u32 (((List.length a0_6) : Nat) : Int)) * 256)))))])]).bind fun r96 =>
 cond (isI .u64 (cellAt r96 0))
 ((ev 66 [(.agg [(.v (.int .i64 a0_4)), (.v (.int .i64 a0_5))])]).bind fun r99 =>
 cond (isI .u32 (cellAt r99 0))
 ((lp 59 0 0 ⟨[(3, (.ptr 0 0 0)), (4, (.ptr 1 0 0)), (48, (.lst a0_6n 3 a0_6)), (49, (.v (.int .i64 (((List.length a0_6) : Nat) : Int)))), (50, (.v (.int .i64 0)))], [⟨1, 42, 9, true, [[(.v (.int .i64 a1_0)), (.v (.int .u64 a1_1)), (.v (.int .u64 (avInt (cellAt r96 0)))), (.v (.int .u64 (bits .or .u64 (IntKind.wrap .u64 a0_3) (IntKind.wrap .u64 ((IntKind.wrap .u64 (avInt (cellAt r99 0))) * 4294967296))))), (.v (.int .u64 0)), (.v (.int .u64 0)), (.v (.int .u64 0)), (.v (.int .u64 0)), (.v (.int .u64 0))]]⟩, ⟨1, 42, 9, true, [[(.v (.int .i64 0)), (.v (.int .u64 0)), (.v (.int .u64 0)), (.v (.int .u64 0)), (.v (.int .u64 0)), (.v (.int .u64 0)), (.v (.int .u64 0)), (.v (.int .u64 0)), (.v (.int .u64 0))]]⟩]⟩).bind fun r105 =>
 cond (isEx 0 r105)
 (cond (likeStG ⟨[(3, (.ptr 0 0 0)), (4, (.ptr 1 0 0))], [⟨1, 42, 9, true, [[(.v (.int .i64 a1_0)), (.v (.int .u64 a1_1)), (.v (.int .u64 (avInt (cellAt r96 0)))), (.v (.int .u64 (bits .or .u64 (IntKind.wrap .u64 a0_3) (IntKind.wrap .u64 ((IntKind.wrap .u64 (avInt (cellAt r99 0))) * 4294967296))))), (.v (.int .u64 0)), (.v (.int .u64 0)), (.v (.int .u64 0)), (.v (.int .u64 0)), (.v (.int .u64 0))]]⟩, ⟨1, 42, 9, true, [[(.v (.int .i64 0)), (.v (.int .u64 0)), (.v (.int .u64 0)), (.v (.int .u64 0)), (.v (.int .u64 0)), (.v (.int .u64 0)), (.v (.int .u64 0)), (.v (.int .u64 0)), (.v (.int .u64 0))]]⟩]⟩ r105.st)
 (some [(.agg [(.v (.int .i64 (avInt (cellAt (lget (blAt r105.st.bl 0).xs 0) 0)))), (.v (.int .u64 (avInt (cellAt (lget (blAt r105.st.bl 0).xs 0) 1)))), (.v (.int .u64 (avInt (cellAt (lget (blAt r105.st.bl 0).xs 0) 2)))), (.v (.int .u64 (avInt (cellAt (lget (blAt r105.st.bl 0).xs 0) 3)))), (.v (.int .u64 (avInt (cellAt (lget (blAt r105.st.bl 0).xs 0) 4)))), (.v (.int .u64 (avInt (cellAt (lget (blAt r105.st.bl 0).xs 0) 5)))), (.v (.int .u64 (avInt (cellAt (lget (blAt r105.st.bl 0).xs 0) 6)))), (.v (.int .u64 (avInt (cellAt (lget (blAt r105.st.bl 0).xs 0) 7)))), (.v (.int .u64 (avInt (cellAt (lget (blAt r105.st.bl 0).xs 0) 8))))])])
 (none))
 (cond (isRt r105)
 (some r105.outs)
 (none)))
 (none))
 (none))))
 (none) := (ev_eq _ _).trans (by kernel_rfl)
theorem lp59_0 (x48n : Bool) (x48 : List (List AV)) (x49 : Int) (x50 : Int) (b0_0 : Int) (b0_1 : Int) (b0_2 : Int) (b0_3 : Int) (b0_4 : Int) (b0_5 : Int) (b0_6 : Int) (b0_7 : Int) (b0_8 : Int) (b1_0 : Int) (b1_1 : Int) (b1_2 : Int) (b1_3 : Int) (b1_4 : Int) (b1_5 : Int) (b1_6 : Int) (b1_7 : Int) (b1_8 : Int) : lp 59 0 0 ⟨[(3, (.ptr 0 0 0)), (4, (.ptr 1 0 0)), (48, (.lst x48n 3 x48)), (49, (.v (.int .i64 x49))), (50, (.v (.int .i64 x50)))], [⟨1, 42, 9, true, [[(.v (.int .i64 b0_0)), (.v (.int .u64 b0_1)), (.v (.int .u64 b0_2)), (.v (.int .u64 b0_3)), (.v (.int .u64 b0_4)), (.v (.int .u64 b0_5)), (.v (.int .u64 b0_6)), (.v (.int .u64 b0_7)), (.v (.int .u64 b0_8))]]⟩, ⟨1, 42, 9, true, [[(.v (.int .i64 b1_0)), (.v (.int .u64 b1_1)), (.v (.int .u64 b1_2)), (.v (.int .u64 b1_3)), (.v (.int .u64 b1_4)), (.v (.int .u64 b1_5)), (.v (.int .u64 b1_6)), (.v (.int .u64 b1_7)), (.v (.int .u64 b1_8))]]⟩]⟩ =
 cond (ltI x50 x49)
 (cond ((leI 0 x50) && (ltI x50 (((List.length x48) : Nat) : Int)))
 (cond ((isI .u32 (cellAt (lget x48 (Int.toNat x50)) 0)) && ((isI .i64 (cellAt (lget x48 (Int.toNat x50)) 1)) && (isI .i64 (cellAt (lget x48 (Int.toNat x50)) 2))))
 ((ev 66 [(.agg [(.v (.int .i64 (avInt (cellAt (lget x48 (Int.toNat x50)) 1)))), (.v (.int .i64 (avInt (cellAt (lget x48 (Int.toNat x50)) 2))))])]).bind fun r130 =>
 cond (isI .u32 (cellAt r130 0))
 (cond ((leI 0 (IntKind.wrap .i64 (2 + x50))) && (ltI (IntKind.wrap .i64 (2 + x50)) 7))
 (lp 59 0 0 ⟨[(3, (.ptr 0 0 0)), (4, (.ptr 1 0 0)), (48, (.lst x48n 3 x48)), (49, (.v (.int .i64 x49))), (50, (.v (.int .i64 (IntKind.wrap .i64 (x50 + 1)))))], [⟨1, 42, 9, true, [[(.v (.int .i64 b0_0)), (.v (.int .u64 b0_1)), (.v (.int .u64 (cond (Nat.beq (Int.toNat (IntKind.wrap .i64 (2 + x50))) 0) (bits .or .u64 (IntKind.wrap .u64 ((IntKind.wrap .u64 (avInt (cellAt (lget x48 (Int.toNat x50)) 0))) * 4294967296)) (IntKind.wrap .u64 (avInt (cellAt r130 0)))) b0_2))), (.v (.int .u64 (cond (Nat.beq (Int.toNat (IntKind.wrap .i64 (2 + x50))) 1) (bits .or .u64 (IntKind.wrap .u64 ((IntKind.wrap .u64 (avInt (cellAt (lget x48 (Int.toNat x50)) 0))) * 4294967296)) (IntKind.wrap .u64 (avInt (cellAt r130 0)))) b0_3))), (.v (.int .u64 (cond (Nat.beq (Int.toNat (IntKind.wrap .i64 (2 + x50))) 2) (bits .or .u64 (IntKind.wrap .u64 ((IntKind.wrap .u64 (avInt (cellAt (lget x48 (Int.toNat x50)) 0))) * 4294967296)) (IntKind.wrap .u64 (avInt (cellAt r130 0)))) b0_4))), (.v (.int .u64 (cond (Nat.beq (Int.toNat (IntKind.wrap .i64 (2 + x50))) 3) (bits .or .u64 (IntKind.wrap .u64 ((IntKind.wrap .u64 (avInt (cellAt (lget x48 (Int.toNat x50)) 0))) * 4294967296)) (IntKind.wrap .u64 (avInt (cellAt r130 0)))) b0_5))), (.v (.int .u64 (cond (Nat.beq (Int.toNat (IntKind.wrap .i64 (2 + x50))) 4) (bits .or .u64 (IntKind.wrap .u64 ((IntKind.wrap .u64 (avInt (cellAt (lget x48 (Int.toNat x50)) 0))) * 4294967296)) (IntKind.wrap .u64 (avInt (cellAt r130 0)))) b0_6))), (.v (.int .u64 (cond (Nat.beq (Int.toNat (IntKind.wrap .i64 (2 + x50))) 5) (bits .or .u64 (IntKind.wrap .u64 ((IntKind.wrap .u64 (avInt (cellAt (lget x48 (Int.toNat x50)) 0))) * 4294967296)) (IntKind.wrap .u64 (avInt (cellAt r130 0)))) b0_7))), (.v (.int .u64 (cond (Nat.beq (Int.toNat (IntKind.wrap .i64 (2 + x50))) 6) (bits .or .u64 (IntKind.wrap .u64 ((IntKind.wrap .u64 (avInt (cellAt (lget x48 (Int.toNat x50)) 0))) * 4294967296)) (IntKind.wrap .u64 (avInt (cellAt r130 0)))) b0_8)))]]⟩, ⟨1, 42, 9, true, [[(.v (.int .i64 b1_0)), (.v (.int .u64 b1_1)), (.v (.int .u64 b1_2)), (.v (.int .u64 b1_3)), (.v (.int .u64 b1_4)), (.v (.int .u64 b1_5)), (.v (.int .u64 b1_6)), (.v (.int .u64 b1_7)), (.v (.int .u64 b1_8))]]⟩]⟩)
 (none))
 (none))
 (none))
 (none))
 (some ⟨(some 0), ⟨[(3, (.ptr 0 0 0)), (4, (.ptr 1 0 0))], [⟨1, 42, 9, true, [[(.v (.int .i64 b0_0)), (.v (.int .u64 b0_1)), (.v (.int .u64 b0_2)), (.v (.int .u64 b0_3)), (.v (.int .u64 b0_4)), (.v (.int .u64 b0_5)), (.v (.int .u64 b0_6)), (.v (.int .u64 b0_7)), (.v (.int .u64 b0_8))]]⟩, ⟨1, 42, 9, true, [[(.v (.int .i64 b1_0)), (.v (.int .u64 b1_1)), (.v (.int .u64 b1_2)), (.v (.int .u64 b1_3)), (.v (.int .u64 b1_4)), (.v (.int .u64 b1_5)), (.v (.int .u64 b1_6)), (.v (.int .u64 b1_7)), (.v (.int .u64 b1_8))]]⟩]⟩, []⟩) := (lp_eq _ _ _ _).trans (by kernel_rfl)
theorem ev62 (a0_0 : Int) : ev 62 [(.v (.int .i64 a0_0))] =
 cond (leI 104 a0_0)
 (some [(.v (.bool (leI a0_0 256)))])
 (some [(.v (.bool false))]) := (ev_eq _ _).trans (by kernel_rfl)
theorem ev63 (a0_0n : Bool) (a0_0 : List (List AV)) : ev 63 [(.lst a0_0n 3 a0_0)] =
 (lp 63 0 0 ⟨[(3, (.v (.int .u32 0))), (6, (.lst a0_0n 3 a0_0)), (7, (.v (.int .i64 (((List.length a0_0) : Nat) : Int)))), (8, (.v (.int .i64 0)))], []⟩).bind fun r1 =>
 cond (isEx 0 r1)
 (cond (likeStG ⟨[], []⟩ r1.st)
 (some [(.v (.bool true))])
 (none))
 (cond (isRt r1)
 (some r1.outs)
 (none)) := (ev_eq _ _).trans (by kernel_rfl)
theorem lp63_0 (x3 : Int) (x6n : Bool) (x6 : List (List AV)) (x7 : Int) (x8 : Int) : lp 63 0 0 ⟨[(3, (.v (.int .u32 x3))), (6, (.lst x6n 3 x6)), (7, (.v (.int .i64 x7))), (8, (.v (.int .i64 x8)))], []⟩ =
 cond (ltI x8 x7)
 (cond ((leI 0 x8) && (ltI x8 (((List.length x6) : Nat) : Int)))
 (cond ((isI .u32 (cellAt (lget x6 (Int.toNat x8)) 0)) && ((isI .i64 (cellAt (lget x6 (Int.toNat x8)) 1)) && (isI .i64 (cellAt (lget x6 (Int.toNat x8)) 2))))
 (cond (leI (avInt (cellAt (lget x6 (Int.toNat x8)) 0)) x3)
 (some ⟨none, ⟨[], []⟩, [(.v (.bool false))]⟩)
 ((ev 64 [(.agg [(.v (.int .i64 (avInt (cellAt (lget x6 (Int.toNat x8)) 1)))), (.v (.int .i64 (avInt (cellAt (lget x6 (Int.toNat x8)) 2))))])]).bind fun r6 =>
 cond (isB (cellAt r6 0))
 (cond (!(avBool (cellAt r6 0)))
 (some ⟨none, ⟨[], []⟩, [(.v (.bool false))]⟩)
 (lp 63 0 0 ⟨[(3, (.v (.int .u32 (avInt (cellAt (lget x6 (Int.toNat x8)) 0))))), (6, (.lst x6n 3 x6)), (7, (.v (.int .i64 x7))), (8, (.v (.int .i64 (IntKind.wrap .i64 (x8 + 1)))))], []⟩))
 (none)))
 (none))
 (none))
 (some ⟨(some 0), ⟨[], []⟩, []⟩) := (lp_eq _ _ _ _).trans (by kernel_rfl)
theorem ev64 (a0_0 : Int) (a0_1 : Int) : ev 64 [(.agg [(.v (.int .i64 a0_0)), (.v (.int .i64 a0_1))])] =
 (ev 67 [(.v (.int .i64 a0_0))]).bind fun r0 =>
 cond (isB (cellAt r0 0))
 (cond (avBool (cellAt r0 0))
 (cond (leI 1 a0_1)
 (some [(.v (.bool (leI a0_1 16777215)))])
 (some [(.v (.bool false))]))
 (some [(.v (.bool false))]))
 (none) := (ev_eq _ _).trans (by kernel_rfl)
theorem ev65 (a0_0 : Int) (a0_1 : Int) (a0_2 : Int) : ev 65 [(.agg [(.v (.int .i64 a0_0)), (.v (.int .i64 a0_1)), (.v (.int .u32 a0_2))])] =
 some [(.v (.int .u64 (bits .or .u64 (bits .or .u64 (bits .and .u64 (IntKind.wrap .u64 a0_0) 255) (IntKind.wrap .u64 ((bits .and .u64 (IntKind.wrap .u64 a0_1) 16777215) * 256))) (IntKind.wrap .u64 ((IntKind.wrap .u64 a0_2) * 4294967296)))))] := (ev_eq _ _).trans (by kernel_rfl)
theorem ev66 (a0_0 : Int) (a0_1 : Int) : ev 66 [(.agg [(.v (.int .i64 a0_0)), (.v (.int .i64 a0_1))])] =
 (ev 64 [(.agg [(.v (.int .i64 a0_0)), (.v (.int .i64 a0_1))])]).bind fun r0 =>
 cond (isB (cellAt r0 0))
 (cond (!(avBool (cellAt r0 0)))
 (some [(.v (.int .u32 0))])
 (some [(.v (.int .u32 (bits .or .u32 (IntKind.wrap .u32 ((IntKind.wrap .u32 a0_1) * 256)) (IntKind.wrap .u32 a0_0))))]))
 (none) := (ev_eq _ _).trans (by kernel_rfl)
theorem ev67 (a0_0 : Int) : ev 67 [(.v (.int .i64 a0_0))] =
 cond (leI 104 a0_0)
 (some [(.v (.bool (ltI a0_0 256)))])
 (some [(.v (.bool false))]) := (ev_eq _ _).trans (by kernel_rfl)
end Go.Proofs.YtjbpbidlcegopaaDoor.H
