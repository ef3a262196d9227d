/- One operation of the law on both. -/
import Derived.Test.YtkefjdmoikegbaaRpair
set_option linter.all false
namespace Go.Proofs.Ytkefjdmoikegbaa
open Go.Ev Go.RowKit
attribute [local congr] bind_first cond_first
set_option maxRecDepth 10000
def vbr (k nd a n o w : Int) (s : AV) (key bt : Int) : List AV := [.v (.int .i64 k),.v (.int .i64 nd),.v (.int .i64 a),.v (.int .i64 n),.v (.int .u64 o),.v (.int .u64 w),s,.v (.int .u64 key),.v (.int .i64 bt)]
theorem pickR (n m : Int) (h : 0 < m) : 0 ≤ pick n m∧pick n m < m := ⟨Int.emod_nonneg n (by omega),Int.emod_lt_of_pos n h⟩
theorem wN_ne (s : Int) (i : Nat) : (wN s (i + 1)).isEmpty = false := by
 rw [wN_succ,isEmpty_app]; exact Bool.and_false _
theorem wN_wok (s : Int) (n : Nat) : Wok (wN s n) := fun x hx => by
 unfold wN at hx
 obtain ⟨i,_,rfl⟩ := List.mem_map.1 hx
 exact wok_wrap _
theorem l_verb (x3 x7 k nd a n o w key bt : Int) (c : Nat) (hc : (c : Int) = pick x3 23) : ∀ (j i : Nat),i + j = c →
  lp 70 0 0 ⟨[(3,.v (.int .i64 x3)),(7,.v (.int .u64 x7)),(16,.ptr 0 0 0),(17,.ptr 2 0 0),(18,.v (.int .i64 (i : Int)))],[⟨1,38,9,true,[vbr 0 0 0 0 0 0 (.sl true 1 0 none) 0 0]⟩,⟨1,23,1,false,[]⟩,⟨1,38,9,true,[vbr k nd a n o w (.sl (wN x7 i).isEmpty 3 0 none) key bt]⟩,⟨1,23,1,false,(wN x7 i).map wr⟩]⟩ =
   some ⟨some 0,⟨[(16,.ptr 0 0 0),(17,.ptr 2 0 0)],[⟨1,38,9,true,[vbr 0 0 0 0 0 0 (.sl true 1 0 none) 0 0]⟩,⟨1,23,1,false,[]⟩,⟨1,38,9,true,[vbr k nd a n o w (.sl (wN x7 c).isEmpty 3 0 none) key bt]⟩,⟨1,23,1,false,(wN x7 c).map wr⟩]⟩,[]⟩
 | 0,i,hi => by
  obtain rfl : i = c := by omega
  unfold vbr
  rw [lp70_0,s_Pick x3 23 (by decide) (by decide)]
  simp only [Option.bind_some,cellAt_zero,isI_v,avInt_v,cond_true]
  rw [ltI_f (by omega)]; rfl
 | j + 1,i,hi => by
  have hp := pickR x3 23 (by decide)
  have e1 : IntKind.i64.wrap ((i : Int) + 1) = ((i + 1 : Nat) : Int) := by rw [w_i64]; omega
  have ih := l_verb x3 x7 k nd a n o w key bt c hc j (i + 1) (by omega)
  rw [wN_ne,wN_succ,List.map_append] at ih
  unfold vbr at *
  rw [lp70_0,s_Pick x3 23 (by decide) (by decide)]
  simp only [Option.bind_some,cellAt_zero,isI_v,avInt_v,cond_true]
  rw [ltI_t (by omega),leN_t (by rw [List.length_map,wN_len]; omega),e1]
  exact ih
theorem s_Verb (a0 a1 a2 a3 a4 a5 a6 a7 : Int) (h6 : 0 ≤ a6∧a6 < 18446744073709551616) (h7 : 0 ≤ a7∧a7 < 18446744073709551616) : ∃ v : Vb,ev 70 [.v (.int .i64 a0),.v (.int .i64 a1),.v (.int .i64 a2),.v (.int .i64 a3),.v (.int .i64 a4),.v (.int .i64 a5),.v (.int .u64 a6),.v (.int .u64 a7)] = some [.agg v.row]∧v.Nm := by
 have hp := pickR a3 23 (by decide)
 obtain ⟨c,hc⟩ : ∃ c : Nat,(c : Int) = pick a3 23 := ⟨(pick a3 23).toNat,by omega⟩
 have hp4 := pickR a4 4 (by decide)
 have hp3 := pickR a5 3 (by decide)
 have hp40 := pickR a3 40 (by decide)
 have hpt := pickR (IntKind.i64.wrap (Int.tdiv a3 7)) 2100 (by decide)
 have hk : 0 ≤ IntKind.u64.wrap (pick a4 4)∧IntKind.u64.wrap (pick a4 4) < 18446744073709551616 := wok_wrap _
 rw [ev70]
 simp only [s_Pick _ 6 (by decide) (by decide),s_Pick _ 7 (by decide) (by decide),s_Pick _ 900 (by decide) (by decide),s_Pick _ 40 (by decide) (by decide),s_Pick _ 4 (by decide) (by decide),s_Pick _ 3 (by decide) (by decide),s_Pick _ 2100 (by decide) (by decide),Option.bind_some,cellAt_zero,isI_v,avInt_v,cond_true]
 cases (pick a3 7 == 6) with
 | true =>
  have hl := l_verb a3 a7 (pick a0 6) (IntKind.i64.wrap (pick a1 7 - 1)) (IntKind.i64.wrap (pick a2 900 - 8)) (IntKind.i64.wrap (pick (IntKind.i64.wrap (Int.tdiv a3 7)) 2100 - 20)) a6 a7 (IntKind.u64.wrap (pick a4 4)) (pick a5 3) c hc c 0 (by omega)
  refine ⟨⟨pick a0 6,IntKind.i64.wrap (pick a1 7 - 1),IntKind.i64.wrap (pick a2 900 - 8),IntKind.i64.wrap (pick (IntKind.i64.wrap (Int.tdiv a3 7)) 2100 - 20),a6,a7,(wN a7 c).isEmpty,wN a7 c,IntKind.u64.wrap (pick a4 4),pick a5 3⟩,bnd hl ?_,⟨rfl,by show (wN a7 c).length ≤ 100000; rw [wN_len]; omega,wN_wok a7 c,h7,⟨h6,hk,hp3,by first | (show -20 ≤ pick a3 40∧pick a3 40 < 2100; omega) | (show -20 ≤ IntKind.i64.wrap _∧IntKind.i64.wrap _ < 2100; rw [w_i64]; omega)⟩⟩⟩
  rfl
 | false =>
  have hl := l_verb a3 a7 (pick a0 6) (IntKind.i64.wrap (pick a1 7 - 1)) (IntKind.i64.wrap (pick a2 900 - 8)) (pick a3 40) a6 a7 (IntKind.u64.wrap (pick a4 4)) (pick a5 3) c hc c 0 (by omega)
  refine ⟨⟨pick a0 6,IntKind.i64.wrap (pick a1 7 - 1),IntKind.i64.wrap (pick a2 900 - 8),pick a3 40,a6,a7,(wN a7 c).isEmpty,wN a7 c,IntKind.u64.wrap (pick a4 4),pick a5 3⟩,bnd hl ?_,⟨rfl,by show (wN a7 c).length ≤ 100000; rw [wN_len]; omega,wN_wok a7 c,h7,⟨h6,hk,hp3,by first | (show -20 ≤ pick a3 40∧pick a3 40 < 2100; omega) | (show -20 ≤ IntKind.i64.wrap _∧IntKind.i64.wrap _ < 2100; rw [w_i64]; omega)⟩⟩⟩
  rfl
theorem s_of (a0 a1 a2 a3 a4 a5 a6 : Int) (h5 : 0 ≤ a5∧a5 < 18446744073709551616) (h6 : 0 ≤ a6∧a6 < 18446744073709551616) : ∃ v : Vb,ev 44 [.agg [.v (.int .i64 a0),.v (.int .i64 a1),.v (.int .i64 a2),.v (.int .i64 a3),.v (.int .i64 a4),.v (.int .u64 a5),.v (.int .u64 a6)]] = some [.agg v.row]∧v.Nm := by
 obtain ⟨v,hv,hn⟩ := s_Verb a0 1 a1 a2 a3 a4 a5 a6 h5 h6
 have hp := s_Pick a3 13 (by decide) (by decide)
 rw [ev44]
 by_cases h : pick a3 13 = 12
 ·exact ⟨{ v with node := 1 },bnd hv (cT rfl (bnd hp (cT rfl (cT (beq_t h) rfl)))),⟨hn.nl,hn.len,hn.ws,hn.new,hn.rng⟩⟩
 ·exact ⟨{ v with node := 0 },bnd hv (cT rfl (bnd hp (cT rfl (cF (beq_f h) rfl)))),⟨hn.nl,hn.len,hn.ws,hn.new,hn.rng⟩⟩
--Z
theorem ev51z (a0_0_0 : Int) (a0_0_1 : Int) (a0_0_2 : Int) (a0_0_3n : Bool) (a0_0_3 : List (List AV)) (a0_0_4 : Int) (a0_0_5n : Bool) (a0_0_5 : List (List AV)) (a0_1_0n : Bool) (a0_1_0 : List (List AV)) (a0_1_1 : Bool) (a0_2_0 : Int) (a0_2_1 : Int) (a0_2_2 : Int) (a0_3_0n : Bool) (a0_3_0 : List (List AV)) (a0_3_1 : Bool) : ev 51 [(.agg [(.ep [(.v (.int .i64 a0_0_0)),(.v (.int .i64 a0_0_1)),(.v (.int .i64 a0_0_2)),(.lst a0_0_3n 9 a0_0_3),(.v (.int .i64 a0_0_4)),(.lst a0_0_5n 1 a0_0_5)] 0),(.ep [(.lst a0_1_0n 1 a0_1_0),(.v (.bool a0_1_1))] 0),(.ep [(.v (.int .i64 a0_2_0)),(.v (.int .i64 a0_2_1)),(.v (.int .i64 a0_2_2)),(.lst true 0 [])] 0),(.ep [(.lst a0_3_0n 1 a0_3_0),(.v (.bool a0_3_1))] 0)])] =
 (ev 77 [(.ep [(.v (.int .i64 a0_0_0)),(.v (.int .i64 a0_0_1)),(.v (.int .i64 a0_0_2)),(.lst a0_0_3n 9 a0_0_3),(.v (.int .i64 a0_0_4)),(.lst a0_0_5n 1 a0_0_5)] 0)]).bind fun r0 =>
 cond ((Ev.isAgg 9 (cellAt r0 0)) && ((isI .i64 (cellAt (obCells (cellAt r0 0)) 0)) && ((isI .i64 (cellAt (obCells (cellAt r0 0)) 1)) && ((isI .i64 (cellAt (obCells (cellAt r0 0)) 2)) && ((isI .i64 (cellAt (obCells (cellAt r0 0)) 3)) && ((isI .u64 (cellAt (obCells (cellAt r0 0)) 4)) && ((isI .u64 (cellAt (obCells (cellAt r0 0)) 5)) && ((isL 1 (cellAt (obCells (cellAt r0 0)) 6)) && ((isI .u64 (cellAt (obCells (cellAt r0 0)) 7)) && (isI .i64 (cellAt (obCells (cellAt r0 0)) 8)))))))))))
  (cond (isI .i64 (cellAt r0 1))
   (cond (isB (cellAt r0 2))
    ((ev 12 [(.ep [(.v (.int .i64 a0_0_0)),(.v (.int .i64 a0_0_1)),(.v (.int .i64 a0_0_2)),(.lst a0_0_3n 9 a0_0_3),(.v (.int .i64 a0_0_4)),(.lst a0_0_5n 1 a0_0_5)] 0)]).bind fun r13 =>
     cond (isI .i64 (cellAt r13 0))
      (cond (!((avInt (cellAt r13 0)) == (((List.length ([] : List (List AV))) : Nat) : Int)))
        (some [(.v (.bool false))])
        (cond (!((avBool (cellAt r0 2)) == (ltI 0 (((List.length ([] : List (List AV))) : Nat) : Int))))
          (some [(.v (.bool false))])
          ((ev 17 [(.ep [(.v (.int .i64 a0_0_0)),(.v (.int .i64 a0_0_1)),(.v (.int .i64 a0_0_2)),(.lst a0_0_3n 9 a0_0_3),(.v (.int .i64 a0_0_4)),(.lst a0_0_5n 1 a0_0_5)] 0)]).bind fun r24 =>
           cond (isI .i64 (cellAt r24 0))
            (cond (!((avInt (cellAt r24 0)) == a0_2_0))
              (some [(.v (.bool false))])
              ((ev 18 [(.ep [(.v (.int .i64 a0_0_0)),(.v (.int .i64 a0_0_1)),(.v (.int .i64 a0_0_2)),(.lst a0_0_3n 9 a0_0_3),(.v (.int .i64 a0_0_4)),(.lst a0_0_5n 1 a0_0_5)] 0)]).bind fun r28 =>
               cond (isI .i64 (cellAt r28 0))
                (cond (!((avInt (cellAt r28 0)) == a0_2_1))
                  (some [(.v (.bool false))])
                  ((ev 19 [(.ep [(.v (.int .i64 a0_0_0)),(.v (.int .i64 a0_0_1)),(.v (.int .i64 a0_0_2)),(.lst a0_0_3n 9 a0_0_3),(.v (.int .i64 a0_0_4)),(.lst a0_0_5n 1 a0_0_5)] 0)]).bind fun r32 =>
                   cond (isI .i64 (cellAt r32 0))
                    (cond (!((avInt (cellAt r32 0)) == a0_2_2))
                      (some [(.v (.bool false))])
                      (cond (!(avBool (cellAt r0 2)))
                        (cond ((avInt (cellAt r0 1)) == 0)
                          (some [(.v (.bool true))])
                          (cond (avBool (cellAt r0 2))
                            (cond (true && (ltI 0 (((List.length ([] : List (List AV))) : Nat) : Int)))
                              (cond (isI .i64 (cellAt (lget ([] : List (List AV)) 0) 9))
                                (cond ((avInt (cellAt r0 1)) == (avInt (cellAt (lget ([] : List (List AV)) 0) 9)))
                                  (cond (true && (ltI 0 (((List.length ([] : List (List AV))) : Nat) : Int)))
                                    (cond ((isI .i64 (cellAt (lget ([] : List (List AV)) 0) 0)) && ((isI .i64 (cellAt (lget ([] : List (List AV)) 0) 1)) && ((isI .i64 (cellAt (lget ([] : List (List AV)) 0) 2)) && ((isI .i64 (cellAt (lget ([] : List (List AV)) 0) 3)) && ((isI .u64 (cellAt (lget ([] : List (List AV)) 0) 4)) && ((isI .u64 (cellAt (lget ([] : List (List AV)) 0) 5)) && ((isL 1 (cellAt (lget ([] : List (List AV)) 0) 6)) && ((isI .u64 (cellAt (lget ([] : List (List AV)) 0) 7)) && (isI .i64 (cellAt (lget ([] : List (List AV)) 0) 8))))))))))
                                      ((ev 78 [(.agg [(.v (.int .i64 (avInt (cellAt (obCells (cellAt r0 0)) 0)))),(.v (.int .i64 (avInt (cellAt (obCells (cellAt r0 0)) 1)))),(.v (.int .i64 (avInt (cellAt (obCells (cellAt r0 0)) 2)))),(.v (.int .i64 (avInt (cellAt (obCells (cellAt r0 0)) 3)))),(.v (.int .u64 (avInt (cellAt (obCells (cellAt r0 0)) 4)))),(.v (.int .u64 (avInt (cellAt (obCells (cellAt r0 0)) 5)))),(.lst (avNil (cellAt (obCells (cellAt r0 0)) 6)) 1 (avXs (cellAt (obCells (cellAt r0 0)) 6))),(.v (.int .u64 (avInt (cellAt (obCells (cellAt r0 0)) 7)))),(.v (.int .i64 (avInt (cellAt (obCells (cellAt r0 0)) 8))))]),(.agg [(.v (.int .i64 (avInt (cellAt (lget ([] : List (List AV)) 0) 0)))),(.v (.int .i64 (avInt (cellAt (lget ([] : List (List AV)) 0) 1)))),(.v (.int .i64 (avInt (cellAt (lget ([] : List (List AV)) 0) 2)))),(.v (.int .i64 (avInt (cellAt (lget ([] : List (List AV)) 0) 3)))),(.v (.int .u64 (avInt (cellAt (lget ([] : List (List AV)) 0) 4)))),(.v (.int .u64 (avInt (cellAt (lget ([] : List (List AV)) 0) 5)))),(.lst (avNil (cellAt (lget ([] : List (List AV)) 0) 6)) 1 (avXs (cellAt (lget ([] : List (List AV)) 0) 6))),(.v (.int .u64 (avInt (cellAt (lget ([] : List (List AV)) 0) 7)))),(.v (.int .i64 (avInt (cellAt (lget ([] : List (List AV)) 0) 8))))])]).bind fun r54 =>
                                       cond (isB (cellAt r54 0))
                                        (some [(.v (.bool (avBool (cellAt r54 0))))])
                                        (none))
                                      (none))
                                    (none))
                                  (some [(.v (.bool false))]))
                                (none))
                              (none))
                            (some [(.v (.bool false))])))
                        (cond (avBool (cellAt r0 2))
                          (cond (true && (ltI 0 (((List.length ([] : List (List AV))) : Nat) : Int)))
                            (cond (isI .i64 (cellAt (lget ([] : List (List AV)) 0) 9))
                              (cond ((avInt (cellAt r0 1)) == (avInt (cellAt (lget ([] : List (List AV)) 0) 9)))
                                (cond (true && (ltI 0 (((List.length ([] : List (List AV))) : Nat) : Int)))
                                  (cond ((isI .i64 (cellAt (lget ([] : List (List AV)) 0) 0)) && ((isI .i64 (cellAt (lget ([] : List (List AV)) 0) 1)) && ((isI .i64 (cellAt (lget ([] : List (List AV)) 0) 2)) && ((isI .i64 (cellAt (lget ([] : List (List AV)) 0) 3)) && ((isI .u64 (cellAt (lget ([] : List (List AV)) 0) 4)) && ((isI .u64 (cellAt (lget ([] : List (List AV)) 0) 5)) && ((isL 1 (cellAt (lget ([] : List (List AV)) 0) 6)) && ((isI .u64 (cellAt (lget ([] : List (List AV)) 0) 7)) && (isI .i64 (cellAt (lget ([] : List (List AV)) 0) 8))))))))))
                                    ((ev 78 [(.agg [(.v (.int .i64 (avInt (cellAt (obCells (cellAt r0 0)) 0)))),(.v (.int .i64 (avInt (cellAt (obCells (cellAt r0 0)) 1)))),(.v (.int .i64 (avInt (cellAt (obCells (cellAt r0 0)) 2)))),(.v (.int .i64 (avInt (cellAt (obCells (cellAt r0 0)) 3)))),(.v (.int .u64 (avInt (cellAt (obCells (cellAt r0 0)) 4)))),(.v (.int .u64 (avInt (cellAt (obCells (cellAt r0 0)) 5)))),(.lst (avNil (cellAt (obCells (cellAt r0 0)) 6)) 1 (avXs (cellAt (obCells (cellAt r0 0)) 6))),(.v (.int .u64 (avInt (cellAt (obCells (cellAt r0 0)) 7)))),(.v (.int .i64 (avInt (cellAt (obCells (cellAt r0 0)) 8))))]),(.agg [(.v (.int .i64 (avInt (cellAt (lget ([] : List (List AV)) 0) 0)))),(.v (.int .i64 (avInt (cellAt (lget ([] : List (List AV)) 0) 1)))),(.v (.int .i64 (avInt (cellAt (lget ([] : List (List AV)) 0) 2)))),(.v (.int .i64 (avInt (cellAt (lget ([] : List (List AV)) 0) 3)))),(.v (.int .u64 (avInt (cellAt (lget ([] : List (List AV)) 0) 4)))),(.v (.int .u64 (avInt (cellAt (lget ([] : List (List AV)) 0) 5)))),(.lst (avNil (cellAt (lget ([] : List (List AV)) 0) 6)) 1 (avXs (cellAt (lget ([] : List (List AV)) 0) 6))),(.v (.int .u64 (avInt (cellAt (lget ([] : List (List AV)) 0) 7)))),(.v (.int .i64 (avInt (cellAt (lget ([] : List (List AV)) 0) 8))))])]).bind fun r72 =>
                                     cond (isB (cellAt r72 0))
                                      (some [(.v (.bool (avBool (cellAt r72 0))))])
                                      (none))
                                    (none))
                                  (none))
                                (some [(.v (.bool false))]))
                              (none))
                            (none))
                          (some [(.v (.bool false))]))))
                    (none)))
                (none)))
            (none))))
      (none))
    (none))
   (none))
  (none) := (ev_eq _ _).trans (by kernel_rfl)
theorem s_sameZ (c inc : Int) (b : Bool) (ws ws' : List Int) (dn up : Bool) : ev 51 [.agg [pP ⟨c,inc,0,true,[],0,true,[]⟩,.ep [.lst b 1 (ws.map wr),.v (.bool dn)] 0,.ep [.v (.int .i64 c),.v (.int .i64 inc),.v (.int .i64 0),.lst true 0 []] 0,.ep [.lst false 1 (ws'.map wr),.v (.bool up)] 0]] = some [.v (.bool true)] := by
 have hp := s_Pending ⟨c,inc,0,true,[],0,true,[]⟩
 have hf := s_First_nil ⟨c,inc,0,true,[],0,true,[]⟩ rfl
 unfold pP at *
 rw [ev51z]
 rw [ev17,ev18,ev19]
 exact bnd hf (cT rfl (cT rfl (cT rfl (bnd hp (cT rfl (cF rfl (cF rfl (bnd rfl (cT rfl (cF (by show (!(c == c)) = false; rw [beq_self_i]; rfl) (bnd rfl (cT rfl (cF (by show (!(inc == inc)) = false; rw [beq_self_i]; rfl) (bnd rfl (cT rfl (cF rfl (cT rfl (cT rfl rfl))))))))))))))))))
--ZZ
theorem s_same (s : PS) (h : s.Wf) (qn : Bool) (ws ws' : List Int) (dn up : Bool) : ev 51 [.agg [pP (s.p qn),ndP ws dn,rP s,.ep [.lst false 1 (ws'.map wr),.v (.bool up)] 0]] = some [.v (.bool true)] := by
 have hp := s_Pending (s.p qn)
 cases hq : s.q with
 | nil =>
  obtain ⟨z1,z2⟩ := h.z hq
  obtain ⟨c,inc,q,ex,w⟩ := s
  obtain rfl : q = [] := hq
  obtain rfl : ex = 0 := z1
  obtain rfl : w = [] := z2
  have hf := s_First_nil ((⟨c,inc,[],0,[]⟩ : PS).p qn) rfl
  unfold pP rP PS.p at *
  rw [ev51]
  rw [ev17,ev18,ev19]
  exact bnd hf (cT rfl (cT rfl (cT rfl (bnd hp (cT rfl (cF rfl (cF rfl (bnd rfl (cT rfl (cF (by show (!(c == c)) = false; rw [beq_self_i]; rfl) (bnd rfl (cT rfl (cF (by show (!(inc == inc)) = false; rw [beq_self_i]; rfl) (bnd rfl (cT rfl (cF rfl (cT rfl (cT rfl rfl))))))))))))))))))
 | cons v r =>
  have hv := h.vs v (by rw [hq]; exact List.mem_cons_self)
  have hf := s_First (s.p qn) hq hv.2.wf
  have hs := s_rSame v hv.2.len
  have hrl := rrows_len s.q s.ex s.w
  have hlen := h.len
  unfold pP rP PS.p at *
  rw [hq] at hp hf hrl hlen ⊢
  rw [ev51]
  rw [ev17,ev18,ev19]
  unfold Vb.row at hs
  have d1 : ltI 0 (((rrows (v :: r) s.ex s.w).length : Nat) : Int) = true := ltI_t (by rw [hrl]; simp only [List.length_cons]; omega)
  refine bnd hf (cT rfl (cT rfl (cT rfl (bnd hp (cT rfl (cF (by show (!((((v :: r).length : Nat) : Int) == (((rrows (v :: r) s.ex s.w).length : Nat) : Int))) = false; rw [hrl,beq_self_i]; rfl) (cF (by show (!(true == ltI 0 (((rrows (v :: r) s.ex s.w).length : Nat) : Int))) = false; rw [d1]; rfl) (bnd rfl (cT rfl (cF (by show (!(s.c == s.c)) = false; rw [beq_self_i]; rfl) (bnd rfl (cT rfl (cF (by show (!(s.inc == s.inc)) = false; rw [beq_self_i]; rfl) (bnd rfl (cT rfl (cF rfl (cF rfl (cT rfl (cT (by rw [d1]; rfl) (cT rfl (cT (by show ((s.ex : Int) == (s.ex : Int)) = true; exact beq_self_i _) (cT (by rw [d1]; rfl) (cT rfl (bnd hs (cT rfl rfl)))))))))))))))))))))))))
theorem wok_mem {v : Vb} {x : Int × Int} {ws : List Int} (h : Wok ws) (hn : v.Nm) : Wok (v.mem x ws) := by
 unfold Vb.mem
 split
 ·exact h
 ·split
  ·exact wok_splice h (fun y hy => hn.ws y (List.mem_of_mem_drop (List.mem_of_mem_take hy))) _
  ·split
   ·split
    ·exact wok_set h _ hn.new
    ·exact h
   ·exact wok_set h _ (wok_wrap _)
theorem wok_out {v : Vb} {x : Int × Int} {ws : List Int} (h : Wok ws) : Wok (v.out x ws) := by
 unfold Vb.out
 split
 ·exact fun y hy => h y (List.mem_of_mem_drop (List.mem_of_mem_take hy))
 ·split
  ·exact fun y hy => by cases hy
  ·intro y hy
   simp only [List.mem_cons,List.not_mem_nil,or_false] at hy
   subst hy
   by_cases hl : v.at_.toNat < ws.length
   ·exact h _ (mem_getD ws 0 _ hl)
   ·have : ws.getD v.at_.toNat 0 = 0 := by rw [List.getD_eq_getElem?_getD,List.getElem?_eq_none (by omega)]; rfl
    rw [this]; omega
theorem splice_one (xs : List Int) (n : Nat) (y : Int) (h : n < xs.length) : splice xs n [y] = xs.set n y := by
 have := splice_snoc xs n [] y (by simpa using h)
 rw [splice_nil,List.nil_append,List.length_nil,Nat.add_zero] at this
 exact this
def opR (k r1 r2 r3 r4 r5 r6 r7 a w : Int) : List AV := [.v (.int .i64 k),.v (.int .i64 r1),.v (.int .i64 r2),.v (.int .i64 r3),.v (.int .i64 r4),.v (.int .i64 r5),.v (.int .u64 r6),.v (.int .u64 r7),.v (.int .i64 a),.v (.int .u64 w)]
structure StOk (s : PS) (qn : Bool) (ws : List Int) : Prop where
 wf : s.Wf
 qn : qn = true → s.q = []
 len : ws.length = 320
 wok : Wok ws
 w : Wok s.w
end Go.Proofs.Ytkefjdmoikegbaa
