/- One operation of the law on both. -/
import Derived.Test.YtkefjdmoikegbaaRpair
set_option linter.all false
namespace Go.Proofs.Ytkefjdmoikegbaa
open Go.Ev Go.RowKit
attribute [local congr] bind_first cond_first
set_option maxRecDepth 10000
def vbr (k nd a n o w : Int) (s : AV) (key bt : Int) : List AV := [.v (.int .i64 k), .v (.int .i64 nd), .v (.int .i64 a), .v (.int .i64 n), .v (.int .u64 o), .v (.int .u64 w), s, .v (.int .u64 key), .v (.int .i64 bt)]
theorem pickR (n m : Int) (h : 0 < m) : 0 ≤ pick n m ∧ pick n m < m := ⟨Int.emod_nonneg n (by omega), Int.emod_lt_of_pos n h⟩
theorem wN_ne (s : Int) (i : Nat) : (wN s (i + 1)).isEmpty = false := by
  rw [wN_succ, isEmpty_app]; exact Bool.and_false _
theorem wN_wok (s : Int) (n : Nat) : Wok (wN s n) := fun x hx => by
  unfold wN at hx
  obtain ⟨i, _, rfl⟩ := List.mem_map.1 hx
  exact wok_wrap _
theorem l_verb (x3 x7 k nd a n o w key bt : Int) (c : Nat) (hc : (c : Int) = pick x3 23) : ∀ (j i : Nat), i + j = c →
    lp 70 0 0 ⟨[(3, .v (.int .i64 x3)), (7, .v (.int .u64 x7)), (16, .ptr 0 0 0), (17, .ptr 2 0 0), (18, .v (.int .i64 (i : Int)))], [⟨1, 38, 9, true, [vbr 0 0 0 0 0 0 (.sl true 1 0 none) 0 0]⟩, ⟨1, 23, 1, false, []⟩, ⟨1, 38, 9, true, [vbr k nd a n o w (.sl (wN x7 i).isEmpty 3 0 none) key bt]⟩, ⟨1, 23, 1, false, (wN x7 i).map wr⟩]⟩ =
      some ⟨some 0, ⟨[(16, .ptr 0 0 0), (17, .ptr 2 0 0)], [⟨1, 38, 9, true, [vbr 0 0 0 0 0 0 (.sl true 1 0 none) 0 0]⟩, ⟨1, 23, 1, false, []⟩, ⟨1, 38, 9, true, [vbr k nd a n o w (.sl (wN x7 c).isEmpty 3 0 none) key bt]⟩, ⟨1, 23, 1, false, (wN x7 c).map wr⟩]⟩, []⟩
  | 0, i, hi => by
    obtain rfl : i = c := by omega
    unfold vbr
    rw [lp70_0, s_Pick x3 23 (by decide) (by decide)]
    simp only [Option.bind_some, cellAt_zero, isI_v, avInt_v, cond_true]
    rw [ltI_f (by omega)]; rfl
  | j + 1, i, hi => by
    have hp := pickR x3 23 (by decide)
    have e1 : IntKind.i64.wrap ((i : Int) + 1) = ((i + 1 : Nat) : Int) := by rw [w_i64]; omega
    have ih := l_verb x3 x7 k nd a n o w key bt c hc j (i + 1) (by omega)
    rw [wN_ne, wN_succ, List.map_append] at ih
    unfold vbr at *
    rw [lp70_0, s_Pick x3 23 (by decide) (by decide)]
    simp only [Option.bind_some, cellAt_zero, isI_v, avInt_v, cond_true]
    rw [ltI_t (by omega), leN_t (by rw [List.length_map, wN_len]; omega), e1]
    exact ih
theorem s_Verb (a0 a1 a2 a3 a4 a5 a6 a7 : Int) (h7 : 0 ≤ a7 ∧ a7 < 18446744073709551616) : ∃ v : Vb, ev 70 [.v (.int .i64 a0), .v (.int .i64 a1), .v (.int .i64 a2), .v (.int .i64 a3), .v (.int .i64 a4), .v (.int .i64 a5), .v (.int .u64 a6), .v (.int .u64 a7)] = some [.agg v.row] ∧ v.Nm := by
  have hp := pickR a3 23 (by decide)
  obtain ⟨c, hc⟩ : ∃ c : Nat, (c : Int) = pick a3 23 := ⟨(pick a3 23).toNat, by omega⟩
  rw [ev70]
  simp only [s_Pick _ 6 (by decide) (by decide), s_Pick _ 7 (by decide) (by decide), s_Pick _ 900 (by decide) (by decide), s_Pick _ 40 (by decide) (by decide), s_Pick _ 4 (by decide) (by decide), s_Pick _ 3 (by decide) (by decide), s_Pick _ 2100 (by decide) (by decide), Option.bind_some, cellAt_zero, isI_v, avInt_v, cond_true]
  cases (pick a3 7 == 6) with
  | true =>
    have hl := l_verb a3 a7 (pick a0 6) (IntKind.i64.wrap (pick a1 7 - 1)) (IntKind.i64.wrap (pick a2 900 - 8)) (IntKind.i64.wrap (pick (IntKind.i64.wrap (Int.tdiv a3 7)) 2100 - 20)) a6 a7 (IntKind.u64.wrap (pick a4 4)) (pick a5 3) c hc c 0 (by omega)
    refine ⟨⟨pick a0 6, IntKind.i64.wrap (pick a1 7 - 1), IntKind.i64.wrap (pick a2 900 - 8), IntKind.i64.wrap (pick (IntKind.i64.wrap (Int.tdiv a3 7)) 2100 - 20), a6, a7, (wN a7 c).isEmpty, wN a7 c, IntKind.u64.wrap (pick a4 4), pick a5 3⟩, bnd hl ?_, ⟨rfl, by show (wN a7 c).length ≤ 100000; rw [wN_len]; omega, wN_wok a7 c, h7⟩⟩
    rfl
  | false =>
    have hl := l_verb a3 a7 (pick a0 6) (IntKind.i64.wrap (pick a1 7 - 1)) (IntKind.i64.wrap (pick a2 900 - 8)) (pick a3 40) a6 a7 (IntKind.u64.wrap (pick a4 4)) (pick a5 3) c hc c 0 (by omega)
    refine ⟨⟨pick a0 6, IntKind.i64.wrap (pick a1 7 - 1), IntKind.i64.wrap (pick a2 900 - 8), pick a3 40, a6, a7, (wN a7 c).isEmpty, wN a7 c, IntKind.u64.wrap (pick a4 4), pick a5 3⟩, bnd hl ?_, ⟨rfl, by show (wN a7 c).length ≤ 100000; rw [wN_len]; omega, wN_wok a7 c, h7⟩⟩
    rfl
theorem s_of (a0 a1 a2 a3 a4 a5 a6 : Int) (h6 : 0 ≤ a6 ∧ a6 < 18446744073709551616) : ∃ v : Vb, ev 44 [.agg [.v (.int .i64 a0), .v (.int .i64 a1), .v (.int .i64 a2), .v (.int .i64 a3), .v (.int .i64 a4), .v (.int .u64 a5), .v (.int .u64 a6)]] = some [.agg v.row] ∧ v.Nm := by
  obtain ⟨v, hv, hn⟩ := s_Verb a0 1 a1 a2 a3 a4 a5 a6 h6
  have hp := s_Pick a3 13 (by decide) (by decide)
  rw [ev44]
  by_cases h : pick a3 13 = 12
  · exact ⟨{ v with node := 1 }, bnd hv (cT rfl (bnd hp (cT rfl (cT (beq_t h) rfl)))), ⟨hn.nl, hn.len, hn.ws, hn.new⟩⟩
  · exact ⟨{ v with node := 0 }, bnd hv (cT rfl (bnd hp (cT rfl (cF (beq_f h) rfl)))), ⟨hn.nl, hn.len, hn.ws, hn.new⟩⟩
--Z
theorem ev51z (a0_0_0 : Int) (a0_0_1 : Int) (a0_0_2 : Int) (a0_0_3n : Bool) (a0_0_3 : List (List AV)) (a0_0_4 : Int) (a0_0_5n : Bool) (a0_0_5 : List (List AV)) (a0_1_0n : Bool) (a0_1_0 : List (List AV)) (a0_1_1 : Bool) (a0_2_0 : Int) (a0_2_1 : Int) (a0_2_2 : Int) (a0_3_0n : Bool) (a0_3_0 : List (List AV)) (a0_3_1 : Bool) : ev 51 [(.agg [(.ep [(.v (.int .i64 a0_0_0)), (.v (.int .i64 a0_0_1)), (.v (.int .i64 a0_0_2)), (.lst a0_0_3n 9 a0_0_3), (.v (.int .i64 a0_0_4)), (.lst a0_0_5n 1 a0_0_5)] 0), (.ep [(.lst a0_1_0n 1 a0_1_0), (.v (.bool a0_1_1))] 0), (.ep [(.v (.int .i64 a0_2_0)), (.v (.int .i64 a0_2_1)), (.v (.int .i64 a0_2_2)), (.lst true 0 [])] 0), (.ep [(.lst a0_3_0n 1 a0_3_0), (.v (.bool a0_3_1))] 0)])] =
  (ev 77 [(.ep [(.v (.int .i64 a0_0_0)), (.v (.int .i64 a0_0_1)), (.v (.int .i64 a0_0_2)), (.lst a0_0_3n 9 a0_0_3), (.v (.int .i64 a0_0_4)), (.lst a0_0_5n 1 a0_0_5)] 0)]).bind fun r0 =>
  cond ((Ev.isAgg 9 (cellAt r0 0)) && ((isI .i64 (cellAt (obCells (cellAt r0 0)) 0)) && ((isI .i64 (cellAt (obCells (cellAt r0 0)) 1)) && ((isI .i64 (cellAt (obCells (cellAt r0 0)) 2)) && ((isI .i64 (cellAt (obCells (cellAt r0 0)) 3)) && ((isI .u64 (cellAt (obCells (cellAt r0 0)) 4)) && ((isI .u64 (cellAt (obCells (cellAt r0 0)) 5)) && ((isL 1 (cellAt (obCells (cellAt r0 0)) 6)) && ((isI .u64 (cellAt (obCells (cellAt r0 0)) 7)) && (isI .i64 (cellAt (obCells (cellAt r0 0)) 8)))))))))))
   (cond (isI .i64 (cellAt r0 1))
     (cond (isB (cellAt r0 2))
       ((ev 12 [(.ep [(.v (.int .i64 a0_0_0)), (.v (.int .i64 a0_0_1)), (.v (.int .i64 a0_0_2)), (.lst a0_0_3n 9 a0_0_3), (.v (.int .i64 a0_0_4)), (.lst a0_0_5n 1 a0_0_5)] 0)]).bind fun r13 =>
        cond (isI .i64 (cellAt r13 0))
         (cond (!((avInt (cellAt r13 0)) == (((List.length ([] : List (List AV))) : Nat) : Int)))
           (some [(.v (.bool false))])
           (cond (!((avBool (cellAt r0 2)) == (ltI 0 (((List.length ([] : List (List AV))) : Nat) : Int))))
             (some [(.v (.bool false))])
             ((ev 17 [(.ep [(.v (.int .i64 a0_0_0)), (.v (.int .i64 a0_0_1)), (.v (.int .i64 a0_0_2)), (.lst a0_0_3n 9 a0_0_3), (.v (.int .i64 a0_0_4)), (.lst a0_0_5n 1 a0_0_5)] 0)]).bind fun r24 =>
              cond (isI .i64 (cellAt r24 0))
               (cond (!((avInt (cellAt r24 0)) == a0_2_0))
                 (some [(.v (.bool false))])
                 ((ev 18 [(.ep [(.v (.int .i64 a0_0_0)), (.v (.int .i64 a0_0_1)), (.v (.int .i64 a0_0_2)), (.lst a0_0_3n 9 a0_0_3), (.v (.int .i64 a0_0_4)), (.lst a0_0_5n 1 a0_0_5)] 0)]).bind fun r28 =>
                  cond (isI .i64 (cellAt r28 0))
                   (cond (!((avInt (cellAt r28 0)) == a0_2_1))
                     (some [(.v (.bool false))])
                     ((ev 19 [(.ep [(.v (.int .i64 a0_0_0)), (.v (.int .i64 a0_0_1)), (.v (.int .i64 a0_0_2)), (.lst a0_0_3n 9 a0_0_3), (.v (.int .i64 a0_0_4)), (.lst a0_0_5n 1 a0_0_5)] 0)]).bind fun r32 =>
                      cond (isI .i64 (cellAt r32 0))
                       (cond (!((avInt (cellAt r32 0)) == a0_2_2))
                         (some [(.v (.bool false))])
                         (cond (!(avBool (cellAt r0 2)))
                           (cond ((avInt (cellAt r0 1)) == 0)
                             (some [(.v (.bool true))])
                             (cond (avBool (cellAt r0 2))
                               (cond (true && (ltI 0 (((List.length ([] : List (List AV))) : Nat) : Int)))
                                 (cond (isI .i64 (cellAt (lget ([] : List (List AV)) 0) 9))
                                   (cond ((avInt (cellAt r0 1)) == (avInt (cellAt (lget ([] : List (List AV)) 0) 9)))
                                     (cond (true && (ltI 0 (((List.length ([] : List (List AV))) : Nat) : Int)))
                                       (cond ((isI .i64 (cellAt (lget ([] : List (List AV)) 0) 0)) && ((isI .i64 (cellAt (lget ([] : List (List AV)) 0) 1)) && ((isI .i64 (cellAt (lget ([] : List (List AV)) 0) 2)) && ((isI .i64 (cellAt (lget ([] : List (List AV)) 0) 3)) && ((isI .u64 (cellAt (lget ([] : List (List AV)) 0) 4)) && ((isI .u64 (cellAt (lget ([] : List (List AV)) 0) 5)) && ((isL 1 (cellAt (lget ([] : List (List AV)) 0) 6)) && ((isI .u64 (cellAt (lget ([] : List (List AV)) 0) 7)) && (isI .i64 (cellAt (lget ([] : List (List AV)) 0) 8))))))))))
                                         ((ev 78 [(.agg [(.v (.int .i64 (avInt (cellAt (obCells (cellAt r0 0)) 0)))), (.v (.int .i64 (avInt (cellAt (obCells (cellAt r0 0)) 1)))), (.v (.int .i64 (avInt (cellAt (obCells (cellAt r0 0)) 2)))), (.v (.int .i64 (avInt (cellAt (obCells (cellAt r0 0)) 3)))), (.v (.int .u64 (avInt (cellAt (obCells (cellAt r0 0)) 4)))), (.v (.int .u64 (avInt (cellAt (obCells (cellAt r0 0)) 5)))), (.lst (avNil (cellAt (obCells (cellAt r0 0)) 6)) 1 (avXs (cellAt (obCells (cellAt r0 0)) 6))), (.v (.int .u64 (avInt (cellAt (obCells (cellAt r0 0)) 7)))), (.v (.int .i64 (avInt (cellAt (obCells (cellAt r0 0)) 8))))]), (.agg [(.v (.int .i64 (avInt (cellAt (lget ([] : List (List AV)) 0) 0)))), (.v (.int .i64 (avInt (cellAt (lget ([] : List (List AV)) 0) 1)))), (.v (.int .i64 (avInt (cellAt (lget ([] : List (List AV)) 0) 2)))), (.v (.int .i64 (avInt (cellAt (lget ([] : List (List AV)) 0) 3)))), (.v (.int .u64 (avInt (cellAt (lget ([] : List (List AV)) 0) 4)))), (.v (.int .u64 (avInt (cellAt (lget ([] : List (List AV)) 0) 5)))), (.lst (avNil (cellAt (lget ([] : List (List AV)) 0) 6)) 1 (avXs (cellAt (lget ([] : List (List AV)) 0) 6))), (.v (.int .u64 (avInt (cellAt (lget ([] : List (List AV)) 0) 7)))), (.v (.int .i64 (avInt (cellAt (lget ([] : List (List AV)) 0) 8))))])]).bind fun r54 =>
                                          cond (isB (cellAt r54 0))
                                           (some [(.v (.bool (avBool (cellAt r54 0))))])
                                           (none))
                                         (none))
                                       (none))
                                     (some [(.v (.bool false))]))
                                   (none))
                                 (none))
                               (some [(.v (.bool false))])))
                           (cond (avBool (cellAt r0 2))
                             (cond (true && (ltI 0 (((List.length ([] : List (List AV))) : Nat) : Int)))
                               (cond (isI .i64 (cellAt (lget ([] : List (List AV)) 0) 9))
                                 (cond ((avInt (cellAt r0 1)) == (avInt (cellAt (lget ([] : List (List AV)) 0) 9)))
                                   (cond (true && (ltI 0 (((List.length ([] : List (List AV))) : Nat) : Int)))
                                     (cond ((isI .i64 (cellAt (lget ([] : List (List AV)) 0) 0)) && ((isI .i64 (cellAt (lget ([] : List (List AV)) 0) 1)) && ((isI .i64 (cellAt (lget ([] : List (List AV)) 0) 2)) && ((isI .i64 (cellAt (lget ([] : List (List AV)) 0) 3)) && ((isI .u64 (cellAt (lget ([] : List (List AV)) 0) 4)) && ((isI .u64 (cellAt (lget ([] : List (List AV)) 0) 5)) && ((isL 1 (cellAt (lget ([] : List (List AV)) 0) 6)) && ((isI .u64 (cellAt (lget ([] : List (List AV)) 0) 7)) && (isI .i64 (cellAt (lget ([] : List (List AV)) 0) 8))))))))))
                                       ((ev 78 [(.agg [(.v (.int .i64 (avInt (cellAt (obCells (cellAt r0 0)) 0)))), (.v (.int .i64 (avInt (cellAt (obCells (cellAt r0 0)) 1)))), (.v (.int .i64 (avInt (cellAt (obCells (cellAt r0 0)) 2)))), (.v (.int .i64 (avInt (cellAt (obCells (cellAt r0 0)) 3)))), (.v (.int .u64 (avInt (cellAt (obCells (cellAt r0 0)) 4)))), (.v (.int .u64 (avInt (cellAt (obCells (cellAt r0 0)) 5)))), (.lst (avNil (cellAt (obCells (cellAt r0 0)) 6)) 1 (avXs (cellAt (obCells (cellAt r0 0)) 6))), (.v (.int .u64 (avInt (cellAt (obCells (cellAt r0 0)) 7)))), (.v (.int .i64 (avInt (cellAt (obCells (cellAt r0 0)) 8))))]), (.agg [(.v (.int .i64 (avInt (cellAt (lget ([] : List (List AV)) 0) 0)))), (.v (.int .i64 (avInt (cellAt (lget ([] : List (List AV)) 0) 1)))), (.v (.int .i64 (avInt (cellAt (lget ([] : List (List AV)) 0) 2)))), (.v (.int .i64 (avInt (cellAt (lget ([] : List (List AV)) 0) 3)))), (.v (.int .u64 (avInt (cellAt (lget ([] : List (List AV)) 0) 4)))), (.v (.int .u64 (avInt (cellAt (lget ([] : List (List AV)) 0) 5)))), (.lst (avNil (cellAt (lget ([] : List (List AV)) 0) 6)) 1 (avXs (cellAt (lget ([] : List (List AV)) 0) 6))), (.v (.int .u64 (avInt (cellAt (lget ([] : List (List AV)) 0) 7)))), (.v (.int .i64 (avInt (cellAt (lget ([] : List (List AV)) 0) 8))))])]).bind fun r72 =>
                                        cond (isB (cellAt r72 0))
                                         (some [(.v (.bool (avBool (cellAt r72 0))))])
                                         (none))
                                       (none))
                                     (none))
                                   (some [(.v (.bool false))]))
                                 (none))
                               (none))
                             (some [(.v (.bool false))]))))
                       (none)))
                   (none)))
               (none))))
         (none))
       (none))
     (none))
   (none) := (ev_eq _ _).trans (by kernel_rfl)
theorem s_sameZ (c inc : Int) (b : Bool) (ws ws' : List Int) (dn up : Bool) : ev 51 [.agg [pP ⟨c, inc, 0, true, [], 0, true, []⟩, .ep [.lst b 1 (ws.map wr), .v (.bool dn)] 0, .ep [.v (.int .i64 c), .v (.int .i64 inc), .v (.int .i64 0), .lst true 0 []] 0, .ep [.lst false 1 (ws'.map wr), .v (.bool up)] 0]] = some [.v (.bool true)] := by
  have hp := s_Pending ⟨c, inc, 0, true, [], 0, true, []⟩
  have hf := s_First_nil ⟨c, inc, 0, true, [], 0, true, []⟩ rfl
  unfold pP at *
  rw [ev51z]
  rw [ev17, ev18, ev19]
  exact bnd hf (cT rfl (cT rfl (cT rfl (bnd hp (cT rfl (cF rfl (cF rfl (bnd rfl (cT rfl (cF (by show (!(c == c)) = false; rw [beq_self_i]; rfl) (bnd rfl (cT rfl (cF (by show (!(inc == inc)) = false; rw [beq_self_i]; rfl) (bnd rfl (cT rfl (cF rfl (cT rfl (cT rfl rfl))))))))))))))))))
--ZZ
theorem s_same (s : PS) (h : s.Wf) (qn : Bool) (ws ws' : List Int) (dn up : Bool) : ev 51 [.agg [pP (s.p qn), ndP ws dn, rP s, .ep [.lst false 1 (ws'.map wr), .v (.bool up)] 0]] = some [.v (.bool true)] := by
  have hp := s_Pending (s.p qn)
  cases hq : s.q with
  | nil =>
    obtain ⟨z1, z2⟩ := h.z hq
    obtain ⟨c, inc, q, ex, w⟩ := s
    obtain rfl : q = [] := hq
    obtain rfl : ex = 0 := z1
    obtain rfl : w = [] := z2
    have hf := s_First_nil ((⟨c, inc, [], 0, []⟩ : PS).p qn) rfl
    unfold pP rP PS.p at *
    rw [ev51]
    rw [ev17, ev18, ev19]
    exact bnd hf (cT rfl (cT rfl (cT rfl (bnd hp (cT rfl (cF rfl (cF rfl (bnd rfl (cT rfl (cF (by show (!(c == c)) = false; rw [beq_self_i]; rfl) (bnd rfl (cT rfl (cF (by show (!(inc == inc)) = false; rw [beq_self_i]; rfl) (bnd rfl (cT rfl (cF rfl (cT rfl (cT rfl rfl))))))))))))))))))
  | cons v r =>
    have hv := h.vs v (by rw [hq]; exact List.mem_cons_self)
    have hf := s_First (s.p qn) hq hv.2.wf
    have hs := s_rSame v hv.2.len
    have hrl := rrows_len s.q s.ex s.w
    have hlen := h.len
    unfold pP rP PS.p at *
    rw [hq] at hp hf hrl hlen ⊢
    rw [ev51]
    rw [ev17, ev18, ev19]
    unfold Vb.row at hs
    have d1 : ltI 0 (((rrows (v :: r) s.ex s.w).length : Nat) : Int) = true := ltI_t (by rw [hrl]; simp only [List.length_cons]; omega)
    refine bnd hf (cT rfl (cT rfl (cT rfl (bnd hp (cT rfl (cF (by show (!((((v :: r).length : Nat) : Int) == (((rrows (v :: r) s.ex s.w).length : Nat) : Int))) = false; rw [hrl, beq_self_i]; rfl) (cF (by show (!(true == ltI 0 (((rrows (v :: r) s.ex s.w).length : Nat) : Int))) = false; rw [d1]; rfl) (bnd rfl (cT rfl (cF (by show (!(s.c == s.c)) = false; rw [beq_self_i]; rfl) (bnd rfl (cT rfl (cF (by show (!(s.inc == s.inc)) = false; rw [beq_self_i]; rfl) (bnd rfl (cT rfl (cF rfl (cF rfl (cT rfl (cT (by rw [d1]; rfl) (cT rfl (cT (by show ((s.ex : Int) == (s.ex : Int)) = true; exact beq_self_i _) (cT (by rw [d1]; rfl) (cT rfl (bnd hs (cT rfl rfl)))))))))))))))))))))))))
theorem wok_mem {v : Vb} {x : Int × Int} {ws : List Int} (h : Wok ws) (hn : v.Nm) : Wok (v.mem x ws) := by
  unfold Vb.mem
  split
  · exact h
  · split
    · exact wok_splice h (fun y hy => hn.ws y (List.mem_of_mem_drop (List.mem_of_mem_take hy))) _
    · split
      · split
        · exact wok_set h _ hn.new
        · exact h
      · exact wok_set h _ (wok_wrap _)
theorem splice_one (xs : List Int) (n : Nat) (y : Int) (h : n < xs.length) : splice xs n [y] = xs.set n y := by
  have := splice_snoc xs n [] y (by simpa using h)
  rw [splice_nil, List.nil_append, List.length_nil, Nat.add_zero] at this
  exact this
/-- An operation of the law. -/
def opR (k r1 r2 r3 r4 r5 r6 r7 a w : Int) : List AV := [.v (.int .i64 k), .v (.int .i64 r1), .v (.int .i64 r2), .v (.int .i64 r3), .v (.int .i64 r4), .v (.int .i64 r5), .v (.int .u64 r6), .v (.int .u64 r7), .v (.int .i64 a), .v (.int .u64 w)]
abbrev rQ (s : PS) : AV := .ow s.q.isEmpty 108 12 (rrows s.q s.ex s.w)
/-- What holds between the operations. -/
structure StOk (s : PS) (qn : Bool) (ws : List Int) : Prop where
  wf : s.Wf
  qn : qn = true → s.q = []
  len : ws.length = 320
  wok : Wok ws
theorem s_do (s : PS) (qn : Bool) (ws : List Int) (dn : Bool) (h : StOk s qn ws) (k r1 r2 r3 r4 r5 r6 r7 a w : Int) (h7 : 0 ≤ r7 ∧ r7 < 18446744073709551616) (hw : 0 ≤ w ∧ w < 18446744073709551616) :
    ∃ (s' : PS) (qn' : Bool) (ws' : List Int) (dn' : Bool) (cr : AV), StOk s' qn' ws' ∧ (s'.c = s.c ∧ s'.inc = s.inc) ∧ (avNil cr = s'.q.isEmpty ∧ avXs cr = rrows s'.q s'.ex s'.w ∧ (isOw 108 12 cr || isNilL cr) = true) ∧
      ev 23 [.agg [pO (s.p qn), ndO ws dn, rO s, rfO ws (!dn)], .agg (opR k r1 r2 r3 r4 r5 r6 r7 a w)] = some [.v (.bool true), pO (s'.p qn'), ndO ws' dn', .ob 70 [.v (.int .i64 s'.c), .v (.int .i64 s'.inc), .v (.int .i64 0), cr], rfO ws' (!dn')] := by
  have hwf := h.wf
  have hp := s_Pick k 13 (by decide) (by decide)
  have hpr := pickR k 13 (by decide)
  have hlen := h.len
  unfold opR
  by_cases k1 : pick k 13 < 4
  · obtain ⟨v, hv, hn⟩ := s_of r1 r2 r3 r4 r5 r6 r7 h7
    obtain ⟨e, s', qn', e0, e1, wf', hq', he, hpost⟩ := c_Post s qn v hwf hn
    have hrp := s_rPost s qn v hwf hn
    rw [← he, show (if e = 0 then s.post v else s) = s' by
      by_cases hz : e = 0
      · rw [if_pos hz]; exact (e0 hz).2.2.1.symm
      · rw [if_neg hz]; exact (e1 hz).1.symm] at hrp
    have hs := s_same s' wf' qn' ws ws dn (!dn)
    refine ⟨s', qn', ws, dn, rQ s', ⟨wf', fun hx => ?_, hlen, h.wok⟩, ?_, ⟨rfl, rfl, rfl⟩, ?_⟩
    · obtain ⟨g1, g2⟩ := hq' hx
      rw [g2]; exact h.qn g1
    · by_cases hz : e = 0
      · rw [(e0 hz).2.2.1]; exact ⟨rfl, rfl⟩
      · rw [(e1 hz).1]; exact ⟨rfl, rfl⟩
    unfold pO rO Vb.row at *
    rw [ev23]
    exact bnd hp (cT rfl (cT (ltI_t k1) (bnd hv (cT rfl (bnd hpost (cT rfl (cT rfl (bnd hrp (cT rfl (cT rfl (cF (by show (!(e == e)) = false; rw [beq_self_i]; rfl) (bnd hs (cT rfl rfl)))))))))))))
  by_cases k2 : pick k 13 < 9
  · have key : ∃ (s' : PS) (qn' : Bool) (ws' : List Int) (e : Int) (b1 b2 : Bool) (w' : List Int) (dd : Bool) (sl : Int) (is2 : Bool) (c5 : AV), StOk s' qn' ws' ∧ (s'.c = s.c ∧ s'.inc = s.inc) ∧ w'.length ≤ 100000 ∧ (avNil c5 = s'.w.isEmpty ∧ avXs c5 = s'.w.map wr ∧ (isOw 23 1 c5 || isNilL c5) = true) ∧
        ev 13 [pO (s.p qn), ndO ws dn] = some [dA e b1 w', .v (.bool dd), .ob 83 [.v (.int .i64 s'.c), .v (.int .i64 s'.inc), .v (.int .i64 0), .ow qn' 38 9 (s'.q.map Vb.row), .v (.int .i64 s'.ex), c5], ndO ws' dn] ∧
        ev 46 [rO s, rfO ws (!dn)] = some [dA e b2 w', .v (.int .i64 sl), .v (.bool dd), .v (.bool is2), rO s', rfO ws' (!dn)] := by
      cases hq : s.q with
      | nil =>
        have g1 := s_Step_nil (s.p qn) ws dn hq
        have g2 := s_rStep_nil s ws (!dn) hq
        exact ⟨s, qn, ws, 0, true, true, [], false, -1, false, _, h, ⟨rfl, rfl⟩, Nat.zero_le _, ⟨rfl, rfl, rfl⟩, g1, g2⟩
      | cons v r =>
        have hqn : qn = false := by
          cases qn with
          | false => rfl
          | true => have := h.qn rfl; rw [hq] at this; cases this
        subst hqn
        have hv := hwf.vs v (by rw [hq]; exact List.mem_cons_self)
        have hc := hwf.c; have hi := hwf.inc
        by_cases hr : refu s.c s.inc v ws dn = 0
        · have hlt := hwf.lt v r hq
          have g1 := s_Step_go (s.p false) ws dn (i := s.ex) hq rfl hwf.len (by omega) (by show 0 ≤ s.c ∧ s.c ≤ 1000; omega) (by show 0 ≤ s.inc ∧ s.inc ≤ 1000; omega) hr rfl hlt (by
            show s.w.length ≤ 100000
            have := hwf.wl; have := good_le hv.1; omega)
          have g2 := s_rStep_go s hwf ws (!dn) hq hlen (by rw [Bool.not_not]; exact hr)
          have hx := mem_getD (pcs v.at_ v.cnt) (0, 0) s.ex hlt
          have hf := hv.1.fits (n := 320) hx
          have hml : (v.mem ((pcs v.at_ v.cnt).getD s.ex (0, 0)) ws).length = 320 := by rw [Vb.mem_len (by rw [hlen]; exact hf)]; exact hlen
          have hmw : Wok (v.mem ((pcs v.at_ v.cnt).getD s.ex (0, 0)) ws) := wok_mem h.wok hv.2
          have hol := @Vb.out_len v ((pcs v.at_ v.cnt).getD s.ex (0, 0)) ws
          have hle := hf.le
          by_cases hl : s.ex + 1 < (pcs v.at_ v.cnt).length
          · rw [if_pos hl] at g1 g2
            have hwfa := hwf.adv hq hl ws
            refine ⟨_, false, _, 0, true, true, [], false, -1, true, _, ⟨hwfa, fun e => (by cases e), hml, hmw⟩, ⟨rfl, rfl⟩, Nat.zero_le _, ⟨?_, rfl, rfl⟩, g1, g2⟩
            show ((v.out _ ws).isEmpty && s.w.isEmpty) = (s.w ++ v.out _ ws).isEmpty
            rw [isEmpty_app, Bool.and_comm]
          · rw [if_neg hl] at g1 g2
            refine ⟨s.pop, false, _, 0, _, _, _, true, 0, true, _, ⟨hwf.pop, fun e => (by cases e), hml, hmw⟩, ⟨rfl, rfl⟩, ?_, ⟨rfl, rfl, rfl⟩, g1, g2⟩
            have := hwf.wl; have := good_le hv.1
            show (s.w ++ v.out _ ws).length ≤ 100000
            rw [List.length_append]; omega
        · have g1 := s_Step_ref (s.p false) ws dn hq rfl hwf.len (by omega) (by show 0 ≤ s.c ∧ s.c ≤ 1000; omega) (by show 0 ≤ s.inc ∧ s.inc ≤ 1000; omega) hr
          have g2 := s_rStep_ref s hwf ws (!dn) hq hlen (by rw [Bool.not_not]; exact hr)
          rw [Bool.not_not] at g2
          exact ⟨s.pop, false, ws, _, true, true, [], true, 0, true, _, ⟨hwf.pop, fun e => (by cases e), hlen, h.wok⟩, ⟨rfl, rfl⟩, Nat.zero_le _, ⟨rfl, rfl, rfl⟩, g1, g2⟩
    obtain ⟨s', qn', ws', e, b1, b2, w', dd, sl, is2, c5, hok, hci, hwl, ⟨c51, c52, c53⟩, g1, g2⟩ := key
    have g3 := s_SameDone e b1 b2 w' hwl
    have g4 := s_same s' hok.wf qn' ws' ws' dn (!dn)
    refine ⟨s', qn', ws', dn, rQ s', hok, hci, ⟨rfl, rfl, rfl⟩, ?_⟩
    unfold pO rO dA at *
    unfold pP rP PS.p at g4
    rw [ev23]
    refine bnd hp (cT rfl (cF (ltI_f (show 4 ≤ pick k 13 by omega)) (cT (ltI_t k2) (bnd g1 (cT rfl (cT rfl (cT ?_ (cT rfl (bnd g2 (cT rfl (cT rfl (cT rfl (cT rfl (cT rfl (cT rfl (cF (by cases dd <;> rfl) (bnd g3 (cT rfl (cF rfl ?_)))))))))))))))))))
    · show (true && (true && (true && (true && (true && (true && (isOw _ 1 c5 || isNilL c5))))))) = true
      rw [c53]; rfl
    refine bnd (show _ = some [AV.v (.bool true)] from ?_) (cT rfl ?_)
    · show ev 51 [.agg [.ep [_, _, _, _, _, .lst (avNil c5) 1 (avXs c5)] 0, _, _, _]] = _
      rw [c51, c52]; exact g4
    · show some [_, AV.ob _ [_, _, _, _, _, .ow (avNil c5) _ 1 (avXs c5)], _, _, _] = _
      rw [c51, c52]; rfl
  have hs0 := s_same s hwf qn ws ws dn (!dn)
  have hk9 : 9 ≤ pick k 13 := by omega
  have same0 : some [AV.v (.bool true), pO (s.p qn), ndO ws dn, rO s, rfO ws (!dn)] = some [AV.v (.bool true), pO (s.p qn), ndO ws dn, rO s, rfO ws (!dn)] := rfl
  have tm4 := Int.tmod_eq_emod_of_nonneg (b := 4) hw.1
  have tm3 := Int.tmod_eq_emod_of_nonneg (b := 3) hw.1
  have tm5 := Int.tmod_eq_emod_of_nonneg (b := 5) hw.1
  by_cases k9 : pick k 13 = 9
  · by_cases c9 : Int.tmod w 4 = 0
    · have g4 := s_sameZ s.c s.inc false ws ws dn (!dn)
      refine ⟨s.drop, true, ws, dn, .lst true 0 [], ⟨hwf.drop, fun _ => rfl, hlen, h.wok⟩, ⟨rfl, rfl⟩, ⟨rfl, rfl, rfl⟩, ?_⟩
      unfold pO rO at *
      rw [ev23]
      refine bnd hp (cT rfl (cF (ltI_f (show 4 ≤ pick k 13 by omega)) (cF (ltI_f (show 9 ≤ pick k 13 by omega)) (cT (beq_t k9) (cT (beq_t c9) ?_)))))
      rw [ev48]
      exact bnd rfl (cT rfl (bnd g4 (cT rfl rfl)))
    · refine ⟨s, qn, ws, dn, rQ s, h, ⟨rfl, rfl⟩, ⟨rfl, rfl, rfl⟩, ?_⟩
      unfold pO rO at *
      rw [ev23]
      exact bnd hp (cT rfl (cF (ltI_f (show 4 ≤ pick k 13 by omega)) (cF (ltI_f (show 9 ≤ pick k 13 by omega)) (cT (beq_t k9) (cF (beq_f c9) (cF (beq_f (show pick k 13 ≠ 10 by omega)) (cF (beq_f (show pick k 13 ≠ 11 by omega)) (cF (beq_f (show pick k 13 ≠ 12 by omega)) (bnd hs0 (cT rfl rfl))))))))))
  by_cases k10 : pick k 13 = 10
  · have hdo := s_rDoor s.c hwf.c
    have hp4 := s_Pick a 4 (by decide) (by decide)
    have hc := hwf.c
    have ha := pickR a 4 (by decide)
    obtain ⟨A, hA, hAr⟩ : ∃ A : Int, cond (Nat.beq (Int.toNat (pick a 4)) 0) 0 (cond (Nat.beq (Int.toNat (pick a 4)) 1) 1 (cond (Nat.beq (Int.toNat (pick a 4)) 2) (24 + s.c) 100)) = A ∧ 0 ≤ A ∧ A ≤ 100 := by
      refine ⟨_, rfl, ?_⟩
      cases Nat.beq (Int.toNat (pick a 4)) 0 <;> cases Nat.beq (Int.toNat (pick a 4)) 1 <;> cases Nat.beq (Int.toNat (pick a 4)) 2 <;> simp only [cond_true, cond_false] <;> omega
    have hW := s_Write ws dn A false [Int.tmod w 5] (by omega) ⟨by omega, by omega⟩
    have hx : 0 ≤ Int.tmod w 5 ∧ Int.tmod w 5 < 18446744073709551616 := by omega
    rw [hlen, acc_ok (by simp only [List.length_cons, List.length_nil]; omega) (by omega) (by simp only [List.length_cons, List.length_nil]; omega)] at hW
    cases dn with
    | false =>
      rw [show (if (!false) = true then (0 : Int) else 4) = 0 from rfl, if_pos rfl, splice_one _ _ _ (by omega)] at hW
      have g4 := s_same s hwf qn (ws.set A.toNat (Int.tmod w 5)) (ws.set A.toNat (Int.tmod w 5)) false true
      refine ⟨s, qn, ws.set A.toNat (Int.tmod w 5), false, rQ s, ⟨hwf, h.qn, by rw [List.length_set]; exact hlen, wok_set h.wok _ hx⟩, ⟨rfl, rfl⟩, ⟨rfl, rfl, rfl⟩, ?_⟩
      unfold pO rO at *
      rw [ev23]
      refine bnd hp (cT rfl (cF (ltI_f (show 4 ≤ pick k 13 by omega)) (cF (ltI_f (show 9 ≤ pick k 13 by omega)) (cF (beq_f k9) (cT (beq_t k10) (bnd hdo (cT rfl (bnd hp4 (cT rfl (cT ?_ ?_))))))))))
      · show (leI 0 (pick a 4) && ltI (pick a 4) 4) = true
        rw [leI_t ha.1, ltI_t ha.2]; rfl
      simp -implicitDefEqProofs only [cellAt_zero, avInt_v, hA]
      rw [List.length_map]
      refine cT rfl (cT (by rw [leI_t hAr.1, ltI_t (by omega)]; rfl) (cT (ltN_t (by omega)) (bnd hW (cT rfl (cT rfl (cT ?_ (cF rfl ?_)))))))
      · show (false || (true && (((ws.set A.toNat (Int.tmod w 5)).map wr).all rowV && true))) = true
        rw [all_wr]; rfl
      rw [Nat.zero_add, set_wr]
      exact bnd g4 (cT rfl rfl)
    | true =>
      rw [show (if (!true) = true then (0 : Int) else 4) = 4 from rfl, if_neg (by decide)] at hW
      refine ⟨s, qn, ws, true, rQ s, h, ⟨rfl, rfl⟩, ⟨rfl, rfl, rfl⟩, ?_⟩
      unfold pO rO at *
      rw [ev23]
      refine bnd hp (cT rfl (cF (ltI_f (show 4 ≤ pick k 13 by omega)) (cF (ltI_f (show 9 ≤ pick k 13 by omega)) (cF (beq_f k9) (cT (beq_t k10) (bnd hdo (cT rfl (bnd hp4 (cT rfl (cT ?_ ?_))))))))))
      · show (leI 0 (pick a 4) && ltI (pick a 4) 4) = true
        rw [leI_t ha.1, ltI_t ha.2]; rfl
      simp -implicitDefEqProofs only [cellAt_zero, avInt_v, hA]
      refine cF rfl (bnd hW (cT rfl (cT rfl (cT ?_ (cF rfl (bnd hs0 (cT rfl rfl)))))))
      · show (false || (true && ((ws.map wr).all rowV && true))) = true
        rw [all_wr]; rfl
  by_cases k11 : pick k 13 = 11
  · by_cases c11 : Int.tmod w 3 = 0
    · have hf := s_Fail ws dn
      have g4 := s_same s hwf qn ws ws true false
      refine ⟨s, qn, ws, true, rQ s, h, ⟨rfl, rfl⟩, ⟨rfl, rfl, rfl⟩, ?_⟩
      unfold pO rO at *
      rw [ev23]
      exact bnd hp (cT rfl (cF (ltI_f (show 4 ≤ pick k 13 by omega)) (cF (ltI_f (show 9 ≤ pick k 13 by omega)) (cF (beq_f k9) (cF (beq_f k10) (cT (beq_t k11) (cT (beq_t c11) (bnd hf (cT rfl (bnd g4 (cT rfl rfl)))))))))))
    · refine ⟨s, qn, ws, dn, rQ s, h, ⟨rfl, rfl⟩, ⟨rfl, rfl, rfl⟩, ?_⟩
      unfold pO rO at *
      rw [ev23]
      exact bnd hp (cT rfl (cF (ltI_f (show 4 ≤ pick k 13 by omega)) (cF (ltI_f (show 9 ≤ pick k 13 by omega)) (cF (beq_f k9) (cF (beq_f k10) (cT (beq_t k11) (cF (beq_f c11) (cF (beq_f (show pick k 13 ≠ 12 by omega)) (bnd hs0 (cT rfl rfl))))))))))
  have k12 : pick k 13 = 12 := by omega
  have hb := s_Back ws dn (by omega)
  have hrb := s_RBack ws (!dn) (by omega)
  rw [Bool.not_not, show (!dn || backOk ws dn) = !(dn && !(backOk ws dn)) by cases dn <;> cases backOk ws _ <;> rfl] at hrb
  have g4 := s_same s hwf qn (backW ws dn) (backW ws dn) (dn && !(backOk ws dn)) (!(dn && !(backOk ws dn)))
  refine ⟨s, qn, backW ws dn, dn && !(backOk ws dn), rQ s, ⟨hwf, h.qn, by rw [back_len]; exact hlen, wok_back h.wok dn⟩, ⟨rfl, rfl⟩, ⟨rfl, rfl, rfl⟩, ?_⟩
  unfold pO rO at *
  rw [ev23]
  exact bnd hp (cT rfl (cF (ltI_f (show 4 ≤ pick k 13 by omega)) (cF (ltI_f (show 9 ≤ pick k 13 by omega)) (cF (beq_f k9) (cF (beq_f k10) (cF (beq_f k11) (cT (beq_t k12) (bnd hb (cT rfl (cT rfl (bnd hrb (cT rfl (cT rfl (cF (by cases hbk : backOk ws dn <;> rfl) (bnd g4 (cT rfl rfl))))))))))))))))
end Go.Proofs.Ytkefjdmoikegbaa
