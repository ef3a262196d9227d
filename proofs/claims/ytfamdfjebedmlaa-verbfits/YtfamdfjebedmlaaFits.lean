/- VerbFits. -/
import Derived.Test.YtfamdfjebedmlaaVrb
set_option linter.all false
namespace Go.Proofs.Ytfamdfjebedmlaa
open Go.Ev
attribute [local congr] bind_first cond_first
theorem mix : Try.prog.follows .mixedOrders = true := by kernel_rfl
theorem extOk : ExtS Try.prog cfg := fun f bs rs e => by
  by_cases h : f = 15
  · subst h
    exact pieceS bs rs e
  · have hf : cfg.ext f = none := by
      show extF f = none
      unfold extF
      split
      · exact absurd rfl h
      · rfl
    simp only [evTop, hf] at e
    cases e
theorem s_awake : ev 6 [] = some [.v (.bool true)] := evL_of (n := 12) (by kernel_rfl)
def st3 (x1n : Bool) (x1 : List (List AV)) (f g : Bool) (b0 b1 : List (List AV)) : St := ⟨[(1, .lst x1n 2 x1), (7, .sl f 0 0 none), (8, .sl g 1 0 none)], [⟨1, 29, 9, false, b0⟩, ⟨1, 38, 2, false, b1⟩]⟩
def rT : LR := ⟨none, ⟨[], []⟩, [.v (.bool true)]⟩
def Pm (x1n : Bool) (x1 : List (List AV)) (x : Option LR) : Prop :=
  x = some rT ∨ ∃ f g b0 b1, x = some ⟨some 0, st3 x1n x1 f g b0 b1, []⟩ ∧ (∀ r ∈ b0, okV r) ∧ (∀ r ∈ b1, okD r) ∧ b0.length ≤ 12 ∧ b1.length ≤ 12
theorem Pm.cond {x1n : Bool} {x1 : List (List AV)} {c : Bool} {x y : Option LR} (hx : Pm x1n x1 x) (hy : Pm x1n x1 y) : Pm x1n x1 (cond c x y) := by cases c <;> assumption
theorem mem_snoc {P : List AV → Prop} {l : List (List AV)} {a : List AV} (h : ∀ r ∈ l, P r) (ha : P a) : ∀ r ∈ l ++ [a], P r := fun r hr => by
  rcases List.mem_append.1 hr with h1 | h1
  · exact h r h1
  · rw [List.mem_singleton.1 h1]; exact ha
def okR (r : List AV) : Prop := ∃ a0 a1 a2 a3 a4 a5 a6 a7 : Int, r = [.v (.int .i64 a0), .v (.int .i64 a1), .v (.int .i64 a2), .v (.int .i64 a3), .v (.int .i64 a4), .v (.int .i64 a5), .v (.int .u64 a6), .v (.int .u64 a7)]
theorem l_mk (x0n x1n x2n : Bool) (x0 x1 x2 : List (List AV)) (h0 : ∀ r ∈ x0, okR r) (h2 : ∀ r ∈ x2, ∃ c : Int, r = [.v (.int .i64 c)]) (hl : x0.length ≤ 12) : ∀ (k i : Nat) (f g : Bool) (b0 b1 : List (List AV)), i + k = x0.length →
    (∀ r ∈ b0, okV r) → (∀ r ∈ b1, okD r) → b0.length = i → b1.length = i →
    Pm x1n x1 (lp 3 0 0 ⟨[(0, .lst x0n 8 x0), (1, .lst x1n 2 x1), (2, .lst x2n 1 x2), (7, .sl f 0 0 none), (8, .sl g 1 0 none), (9, .v (.int .i64 (i : Int)))], [⟨1, 29, 9, false, b0⟩, ⟨1, 38, 2, false, b1⟩]⟩)
  | 0, i, f, g, b0, b1, hi, hb0, hb1, l0, l1 => by
    refine .inr ⟨f, g, b0, b1, ?_, hb0, hb1, by omega, by omega⟩
    rw [lp3_0, ltI_f (by omega)]; rfl
  | k + 1, i, f, g, b0, b1, hi, hb0, hb1, l0, l1 => by
    have e1 : IntKind.i64.wrap ((i : Int) + 1) = ((i + 1 : Nat) : Int) := by rw [w_i64]; omega
    obtain ⟨a0, a1, a2, a3, a4, a5, a6, a7, hr⟩ := h0 _ (lgetE x0 i (by omega))
    obtain ⟨v, hv, hn⟩ := s_Verb a0 a1 a2 a3 a4 a5 a6 a7
    obtain ⟨e, he, hval⟩ := s_Valid v 5 256
    have hsh : (Ev.isAgg 9 (AV.agg v.row) && (isI .i64 (cellAt v.row 0) && (isI .i64 (cellAt v.row 1) && (isI .i64 (cellAt v.row 2) && (isI .i64 (cellAt v.row 3) && (isI .u64 (cellAt v.row 4) && (isI .u64 (cellAt v.row 5) && (isL 1 (cellAt v.row 6) && (isI .u64 (cellAt v.row 7) && isI .i64 (cellAt v.row 8)))))))))) = true := by
      cases v.wn <;> simp [Vb.row, cellAt, isI, isL, Ev.isAgg]
    have hrow : [AV.v (.int .i64 (avInt (cellAt v.row 0))), .v (.int .i64 (avInt (cellAt v.row 1))), .v (.int .i64 (avInt (cellAt v.row 2))), .v (.int .i64 (avInt (cellAt v.row 3))), .v (.int .u64 (avInt (cellAt v.row 4))), .v (.int .u64 (avInt (cellAt v.row 5))), .lst (avNil (cellAt v.row 6)) 1 (avXs (cellAt v.row 6)), .v (.int .u64 (avInt (cellAt v.row 7))), .v (.int .i64 (avInt (cellAt v.row 8)))] = v.row := rfl
    rw [lp3_0, ltI_t (show (i : Int) < _ by omega), leI_t (show (0 : Int) ≤ (i : Int) by omega), Int.toNat_natCast, hr]
    simp only [cellAt_zero, cellAt_succ, isI_v, avInt_v, Bool.and_self, cond_true]
    rw [hv]
    simp only [Option.bind_some, cellAt_zero, obCells_agg]
    rw [hsh, hrow, he]
    simp only [Option.bind_some, cellAt_zero, isI_v, avInt_v, cond_true]
    by_cases hz : e = 0
    · subst hz
      obtain ⟨hk, hn1⟩ := hval rfl
      have hok : okV v.row := ⟨v, rfl, hk⟩
      have ih : ∀ (cd : Int) (a : AV), isL 1 a = true → Pm x1n x1 (lp 3 0 0 ⟨[(0, .lst x0n 8 x0), (1, .lst x1n 2 x1), (2, .lst x2n 1 x2), (7, .sl false 0 0 none), (8, .sl false 1 0 none), (9, .v (.int .i64 ((i + 1 : Nat) : Int)))], [⟨1, 29, 9, false, b0 ++ [v.row]⟩, ⟨1, 38, 2, false, b1 ++ [[.v (.int .i64 cd), a]]⟩]⟩) := fun cd a ha =>
        l_mk x0n x1n x2n x0 x1 x2 h0 h2 hl k (i + 1) false false _ _ (by omega) (mem_snoc hb0 hok) (mem_snoc hb1 ⟨cd, a, rfl, ha⟩) (by simp; omega) (by simp; omega)
      rw [show ((0 : Int) == 0) = true from rfl, s_rret v hk]
      have hrr : 0 ≤ rret v.kind v.n ∧ rret v.kind v.n ≤ 3000 := by
        unfold rret
        split
        · have := hn1 (by assumption); omega
        · split <;> omega
      generalize rret v.kind v.n = R at hrr ⊢
      simp only [Option.bind_some, cellAt_zero, isI_v, avInt_v, cond_true, Bool.not_true, cond_false, e1]
      rw [leN_t (show (b0.length + 1) * 88 ≤ 140737488355328 by omega), leN_t (show (b1.length + 1) * 32 ≤ 140737488355328 by omega), leI_t hrr.1, leI_t (Int.le_refl R), leI_t (show R * 8 ≤ 281474976710656 by omega), leI_t (show R ≤ 281474976710656 by omega)]
      simp only [Bool.and_self, cond_true]
      by_cases hi2 : i < x2.length
      · obtain ⟨c, hc⟩ := h2 _ (lgetE x2 i hi2)
        have hp := pickR c 5 (by decide)
        rw [ltI_t (show (i : Int) < ((x2.length : Nat) : Int) by omega), hc]
        simp only [cellAt_zero, isI_v, avInt_v, cond_true, Bool.and_self, s_Pick c 5 (by decide) (by decide), s_Pick c 11 (by decide) (by decide), Option.bind_some]
        rw [leI_t hp.1, ltI_t hp.2, leN_t (show ((List.replicate R.toNat ([.v (.int .u64 0)] : List AV)).length + 1) * 8 ≤ 140737488355328 by rw [List.length_replicate]; omega)]
        simp only [Bool.and_self, cond_true]
        refine Pm.cond (Pm.cond ?_ ?_) (Pm.cond ?_ ?_) <;> exact ih _ _ rfl
      · rw [ltI_f (show ((x2.length : Nat) : Int) ≤ (i : Int) by omega)]
        exact ih _ _ rfl
    · rw [show (e == 0) = false from beq_eq_false_iff_ne.2 hz, s_awake]
      exact .inl rfl
theorem l_got (x1n : Bool) (x1 : List (List AV)) (h1 : ∀ r ∈ x1, okD r) (hl : x1.length ≤ 12) (f g : Bool) (b0 b1 : List (List AV)) : ∀ (k i : Nat), i + k = x1.length →
    lp 3 1 0 ⟨[(1, .lst x1n 2 x1), (7, .sl f 0 0 none), (8, .sl g 1 0 none), (12, .v (.int .i64 (i : Int)))], [⟨1, 29, 9, false, b0⟩, ⟨1, 38, 2, false, b1⟩]⟩ = some rT ∨
    lp 3 1 0 ⟨[(1, .lst x1n 2 x1), (7, .sl f 0 0 none), (8, .sl g 1 0 none), (12, .v (.int .i64 (i : Int)))], [⟨1, 29, 9, false, b0⟩, ⟨1, 38, 2, false, b1⟩]⟩ = some ⟨some 2, st3 x1n x1 f g b0 b1, []⟩
  | 0, i, hi => by
    refine .inr ?_
    rw [lp3_1, ltI_f (by omega)]; rfl
  | k + 1, i, hi => by
    have ih := l_got x1n x1 h1 hl f g b0 b1 k (i + 1) (by omega)
    have e1 : IntKind.i64.wrap ((i : Int) + 1) = ((i + 1 : Nat) : Int) := by rw [w_i64]; omega
    obtain ⟨c, a, hd, ha⟩ := h1 _ (lgetE x1 i (by omega))
    have c1 : cellAt [AV.v (.int .i64 c), a] 1 = a := rfl
    rw [lp3_1, ltI_t (show (i : Int) < _ by omega), leI_t (show (0 : Int) ≤ (i : Int) by omega), Int.toNat_natCast, hd, c1, ha, e1]
    simp only [Bool.and_self, cond_true]
    cases ltI 100 (((avXs a).length : Nat) : Int) with
    | true => exact .inl rfl
    | false => exact ih
theorem fits_all {N : Nat} (l : List AV) (h : TypA Try.prog N Try.f3.params.toList l) : ∃ n, evF Try.prog cfg n 3 l = some [.v (.bool true)] := by
  rw [show Try.f3.params.toList = [22, 23, 24] by kernel_rfl] at h
  obtain ⟨a0, r, rfl, t0, h⟩ := h
  obtain ⟨a1, r, rfl, t1, h⟩ := h
  obtain ⟨a2, r, rfl, t2, h⟩ := h
  obtain rfl : r = [] := h
  obtain ⟨x0n, x0, rfl, _, _, f0⟩ := openV22 t0
  obtain ⟨x1n, x1, rfl, _, _, f1⟩ := openV23 t1
  obtain ⟨x2n, x2, rfl, _, _, f2⟩ := openV24 t2
  have h0 : ∀ r ∈ x0, okR r := fun r hr => by
    obtain ⟨b0, b1, b2, b3, b4, b5, b6, b7, rfl, _⟩ := openC32 (f0 r hr)
    exact ⟨b0, b1, b2, b3, b4, b5, b6, b7, rfl⟩
  have h1 : ∀ r ∈ x1, okD r := fun r hr => by
    obtain ⟨c, wn, ws, rfl, _⟩ := openC38 (f1 r hr)
    exact ⟨c, _, rfl, by simp [isL]⟩
  have h2 : ∀ r ∈ x2, ∃ c : Int, r = [.v (.int .i64 c)] := fun r hr => by
    obtain ⟨c, rfl, _⟩ := openC3 (f2 r hr)
    exact ⟨c, rfl⟩
  clear f0 f1 f2 t0 t1 t2
  refine evF_of_evL ?_
  refine (ev3 _ _ _ _ _ _).trans ?_
  by_cases g0 : 12 < x0.length
  · rw [ltI_t (show (12 : Int) < ((x0.length : Nat) : Int) by omega)]; rfl
  rw [ltI_f (show ((x0.length : Nat) : Int) ≤ 12 by omega), cond_false]
  by_cases g1 : 12 < x1.length
  · rw [ltI_t (show (12 : Int) < ((x1.length : Nat) : Int) by omega)]; rfl
  rw [ltI_f (show ((x1.length : Nat) : Int) ≤ 12 by omega), cond_false]
  rcases l_mk x0n x1n x2n x0 x1 x2 h0 h2 (by omega) x0.length 0 true true [] [] (by omega) (by simp) (by simp) rfl rfl with l1 | ⟨f, g, b0, b1, l1, hb0, hb1, m0, m1⟩
  · exact bnd l1 rfl
  refine bnd l1 ?_
  have k1 := l_got x1n x1 h1 (by omega) f g b0 b1 x1.length 0 (by omega)
  obtain ⟨bA, p1, p2⟩ := s_Fit x1n f b0 x1 hb0 h1 (by omega) (by omega)
  obtain ⟨bB, p3, p4⟩ := s_Fit g f b0 b1 hb0 hb1 (by omega) (by omega)
  obtain ⟨cA, p5, p6⟩ := s_First x1n x1 h1 (by omega)
  obtain ⟨cB, p7, p8⟩ := s_First g b1 hb1 (by omega)
  unfold st3 at *
  simp -implicitDefEqProofs only [some_bind', obCells_agg, obCells_ob, isOb_ok, isL_ok, isOw_ok, avXs_lst, avXs_ow, avNil_lst, avNil_ow, avNil_sl, avOff_sl, avCut_sl, isAgg_agg, nat_beq_self, List.length_cons, List.length_nil, Nat.reduceAdd, Nat.zero_add, isI_v, isB_v, isS_v, avInt_v, avBool_v, avStr_v, cellAt_zero, cellAt_succ, lget_zero, lget_succ, frAt_zero, frAt_succ, blAt_zero, blAt_succ, isEx_ok, isEx_ne, isEx_none, isRt_some, isRt_none, like_st, likeFG_nil, likeFG_cons, likeBG_nil, likeBG_obj, likeBG_row, likeSG_nil, likeSG_cons, likeT_nil, likeS_nil, isNP_nil, isNP_ob, likeT_ep, isEp_ep, epCells_ep, likeT_agg, likeT_int, likeT_bool, likeT_str, likeT_lst, likeT_sl0, likeT_sl1, likeT_ptr, likeS_int, likeS_bool, likeS_str, likeS_lst, likeS_sl0, likeS_sl1, likeS_ptr, isPtr_ok, isSl_0, isSl_1, beq_self_b, Bool.and_self, Bool.and_true, Bool.true_and, Bool.and_false, Bool.false_and, cond_true, cond_false, Bool.not_true, Bool.not_false]
  rcases k1 with k1 | k1
  · exact bnd k1 rfl
  refine bnd k1 ?_
  simp -implicitDefEqProofs only [some_bind', obCells_agg, obCells_ob, isOb_ok, isL_ok, isOw_ok, avXs_lst, avXs_ow, avNil_lst, avNil_ow, avNil_sl, avOff_sl, avCut_sl, isAgg_agg, nat_beq_self, List.length_cons, List.length_nil, Nat.reduceAdd, Nat.zero_add, isI_v, isB_v, isS_v, avInt_v, avBool_v, avStr_v, cellAt_zero, cellAt_succ, lget_zero, lget_succ, frAt_zero, frAt_succ, blAt_zero, blAt_succ, isEx_ok, isEx_ne, isEx_none, isRt_some, isRt_none, like_st, likeFG_nil, likeFG_cons, likeBG_nil, likeBG_obj, likeBG_row, likeSG_nil, likeSG_cons, likeT_nil, likeS_nil, isNP_nil, isNP_ob, likeT_ep, isEp_ep, epCells_ep, likeT_agg, likeT_int, likeT_bool, likeT_str, likeT_lst, likeT_sl0, likeT_sl1, likeT_ptr, likeS_int, likeS_bool, likeS_str, likeS_lst, likeS_sl0, likeS_sl1, likeS_ptr, isPtr_ok, isSl_0, isSl_1, beq_self_b, Bool.and_self, Bool.and_true, Bool.true_and, Bool.and_false, Bool.false_and, cond_true, cond_false, Bool.not_true, Bool.not_false, s_awake, p1, p2, p3, p4, p5, p6, p7, p8, beq_self_eq_true]
end Go.Proofs.Ytfamdfjebedmlaa
