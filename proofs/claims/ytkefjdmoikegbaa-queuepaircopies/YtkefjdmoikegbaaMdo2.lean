/- One operation on both pairs,the reference's queue as data: what it does. -/
import Derived.Test.YtkefjdmoikegbaaMdo
set_option linter.all false
namespace Go.Proofs.Ytkefjdmoikegbaa
open Go.Ev Go.RowKit
attribute [local congr] bind_first cond_first
set_option maxRecDepth 10000
theorem extMOk : ExtS Try.prog cfgM := by
 refine ⟨fun f bs rs e => ?_,extOk.2⟩
 have hev : ∀ (f : FuncId) (bs rs : List AV),ev f bs = some rs → ∃ n,evF Try.prog cfg n f bs = some rs := fun f bs rs h => evF_of_evL h
 by_cases h1 : f = 23
 ·subst h1; cases e
 by_cases h2 : f = 45
 ·subst h2
  have e : fz45 bs = some rs := e
  unfold fz45 at e
  cases h : ev 45 bs with
  | none => rw [h] at e; cases e
  | some rs0 =>
   rw [h] at e
   simp only [Option.bind_some] at e
   split at e
   ·rename_i a q
    obtain rfl := Option.some.inj e
    obtain ⟨n,hn⟩ := hev _ _ _ h
    obtain ⟨fn,g1,g2⟩ := evF_sound mix extOk n 45 bs _ hn
    refine ⟨fn,g1,fun w μ F G vals him hB hnd => ?_⟩
    have g := g2 w μ F G vals him hB hnd
    unfold frzO
    split
    ·have hfn : fn = Try.f45 := (Option.some.inj g1).symm
     exact tell_frz (ra := [a]) (ro := []) (c1 := [_,_,_]) (c2 := []) (by rw [hfn]; rfl) g
    ·exact g
   ·cases e
 by_cases h3 : f = 46
 ·subst h3
  have e : fz46 bs = some rs := e
  unfold fz46 at e
  cases h : ev 46 bs with
  | none => rw [h] at e; cases e
  | some rs0 =>
   rw [h] at e
   simp only [Option.bind_some] at e
   split at e
   ·rename_i a b c d q n
    obtain rfl := Option.some.inj e
    obtain ⟨m,hn⟩ := hev _ _ _ h
    obtain ⟨fn,g1,g2⟩ := evF_sound mix extOk m 46 bs _ hn
    refine ⟨fn,g1,fun w μ F G vals him hB hnd => ?_⟩
    have g := g2 w μ F G vals him hB hnd
    unfold frzO
    split
    ·have hfn : fn = Try.f46 := (Option.some.inj g1).symm
     exact tell_frz (ra := [a,b,c,d]) (ro := [n]) (c1 := [_,_,_]) (c2 := []) (by rw [hfn]; rfl) g
    ·exact g
   ·cases e
 have hf : extM f = some (ev f) := by
  unfold extM
  split
  ·exact absurd rfl h1
  ·exact absurd rfl h2
  ·exact absurd rfl h3
  ·rfl
 have e : ev f bs = some rs := by
  have e : evTop cfgM f bs none = some rs := e
  simp only [evTop,show cfgM.ext f = some (ev f) from hf] at e
  exact e
 obtain ⟨n,hn⟩ := hev _ _ _ e
 exact evF_sound mix extOk n f bs rs hn
abbrev rQL (s : PS) : AV := .lst s.q.isEmpty 12 (rrows s.q s.ex s.w)
def isLc : AV → Bool
 | .lst _ 12 _ => true
 | .lst true 0 [] => true
 | _ => false
theorem fz_Post (s : PS) (qn : Bool) (v : Vb) (h : s.Wf) (hn : v.Nm) : fz45 [rL s,.agg v.row,.v (.int .i64 40),.v (.int .i64 0)] = some [.v (.int .i64 ((s.p qn).postE v 40)),rL (if (s.p qn).postE v 40 = 0 then s.post v else s)] := by
 unfold fz45
 rw [s_rPostM s qn v h hn,Option.bind_some]
 by_cases g : (s.p qn).postE v 40 = 0
 ·rw [if_pos g,if_pos g]; rfl
 ·rw [if_neg g,if_neg g]; rfl
theorem fz_nil (s : PS) (ws : List Int) (up : Bool) (hq : s.q = []) : fz46 [rL s,rfO ws up] = some [dA 0 true [],.v (.int .i64 (-1)),.v (.bool false),.v (.bool false),rL s,rfO ws up] := by
 unfold fz46
 rw [s_rStep_nilM s ws up hq]; rfl
theorem fz_ref (s : PS) (h : s.Wf) (ws : List Int) (up : Bool) {v : Vb} {r : List Vb} (hq : s.q = v :: r) (hl : ws.length = 320)
  (hr : refu s.c s.inc v ws (!up) ≠ 0) : fz46 [rL s,rfO ws up] = some [dA (refu s.c s.inc v ws (!up)) true [],.v (.int .i64 0),.v (.bool true),.v (.bool true),rL s.pop,rfO ws up] := by
 unfold fz46
 rw [s_rStep_refM s h ws up hq hl hr]; rfl
theorem fz_go (s : PS) (h : s.Wf) (ws : List Int) (up : Bool) {v : Vb} {r : List Vb} (hq : s.q = v :: r) (hl : ws.length = 320)
  (hr : refu s.c s.inc v ws (!up) = 0) : fz46 [rL s,rfO ws up] = some (
   if s.ex + 1 < (pcs v.at_ v.cnt).length then [dA 0 true [],.v (.int .i64 (-1)),.v (.bool false),.v (.bool true),rL (s.adv (v.out ((pcs v.at_ v.cnt).getD s.ex (0,0)) ws)),rfO (v.mem ((pcs v.at_ v.cnt).getD s.ex (0,0)) ws) up]
   else [dA 0 ((v.out ((pcs v.at_ v.cnt).getD s.ex (0,0)) ws).isEmpty && s.w.isEmpty) (s.w ++ v.out ((pcs v.at_ v.cnt).getD s.ex (0,0)) ws),.v (.int .i64 0),.v (.bool true),.v (.bool true),rL s.pop,rfO (v.mem ((pcs v.at_ v.cnt).getD s.ex (0,0)) ws) up]) := by
 unfold fz46
 rw [s_rStep_goM s h ws up hq hl hr]
 by_cases g : s.ex + 1 < (pcs v.at_ v.cnt).length
 ·rw [if_pos g,if_pos g]; rfl
 ·rw [if_neg g,if_neg g]; rfl
theorem s_doM (s : PS) (qn : Bool) (ws : List Int) (dn : Bool) (h : StOk s qn ws) (k r1 r2 r3 r4 r5 r6 r7 a w : Int) (h6 : 0 ≤ r6∧r6 < 18446744073709551616) (h7 : 0 ≤ r7∧r7 < 18446744073709551616) (hw : 0 ≤ w∧w < 18446744073709551616) :
  ∃ (s' : PS) (qn' : Bool) (ws' : List Int) (dn' : Bool) (cr : AV),StOk s' qn' ws'∧(s'.c = s.c∧s'.inc = s.inc)∧(avNil cr = s'.q.isEmpty∧avXs cr = rrows s'.q s'.ex s'.w∧isLc cr = true) ∧
   evM 23 [.agg [pO (s.p qn),ndO ws dn,rL s,rfO ws (!dn)],.agg (opR k r1 r2 r3 r4 r5 r6 r7 a w)] = some [.v (.bool true),pO (s'.p qn'),ndO ws' dn',.ob 70 [.v (.int .i64 s'.c),.v (.int .i64 s'.inc),.v (.int .i64 0),cr],rfO ws' (!dn')] := by
 have hwf := h.wf
 have hp := s_Pick k 13 (by decide) (by decide)
 have hpr := pickR k 13 (by decide)
 have hlen := h.len
 unfold opR
 by_cases k1 : pick k 13 < 4
 ·obtain ⟨v,hv,hn⟩ := s_of r1 r2 r3 r4 r5 r6 r7 h6 h7
  obtain ⟨e,s',qn',e0,e1,wf',hq',he,hpost⟩ := c_Post s qn v hwf hn
  have hrp := fz_Post s qn v hwf hn
  rw [← he,show (if e = 0 then s.post v else s) = s' by
   by_cases hz : e = 0
   ·rw [if_pos hz]; exact (e0 hz).2.2.1.symm
   ·rw [if_neg hz]; exact (e1 hz).1.symm] at hrp
  have hs := s_same s' wf' qn' ws ws dn (!dn)
  refine ⟨s',qn',ws,dn,rQL s',⟨wf',fun hx => ?_,hlen,h.wok,by
   by_cases hz : e = 0
   ·rw [(e0 hz).2.2.1]; exact h.w
   ·rw [(e1 hz).1]; exact h.w⟩,?_,⟨rfl,rfl,rfl⟩,?_⟩
  ·obtain ⟨g1,g2⟩ := hq' hx
   rw [g2]; exact h.qn g1
  ·by_cases hz : e = 0
   ·rw [(e0 hz).2.2.1]; exact ⟨rfl,rfl⟩
   ·rw [(e1 hz).1]; exact ⟨rfl,rfl⟩
  unfold pO rL Vb.row at *
  rw [evM23]
  exact bnd hp (cT rfl (cT (ltI_t k1) (bnd hv (cT rfl (bnd hpost (cT rfl (cT rfl (bnd hrp (cT rfl (cT rfl (cF (by show (!(e == e)) = false; rw [beq_self_i]; rfl) (bnd hs (cT rfl rfl)))))))))))))
 by_cases k2 : pick k 13 < 9
 ·have key : ∃ (s' : PS) (qn' : Bool) (ws' : List Int) (e : Int) (b1 b2 : Bool) (w' : List Int) (dd : Bool) (sl : Int) (is2 : Bool) (c5 : AV),StOk s' qn' ws'∧(s'.c = s.c∧s'.inc = s.inc)∧w'.length ≤ 100000∧(avNil c5 = s'.w.isEmpty∧avXs c5 = s'.w.map wr∧(isOw 23 1 c5 || isNilL c5) = true) ∧
    ev 13 [pO (s.p qn),ndO ws dn] = some [dA e b1 w',.v (.bool dd),.ob 83 [.v (.int .i64 s'.c),.v (.int .i64 s'.inc),.v (.int .i64 0),.ow qn' 38 9 (s'.q.map Vb.row),.v (.int .i64 s'.ex),c5],ndO ws' dn] ∧
    fz46 [rL s,rfO ws (!dn)] = some [dA e b2 w',.v (.int .i64 sl),.v (.bool dd),.v (.bool is2),rL s',rfO ws' (!dn)] := by
   cases hq : s.q with
   | nil =>
    have g1 := s_Step_nil (s.p qn) ws dn hq
    have g2 := fz_nil s ws (!dn) hq
    exact ⟨s,qn,ws,0,true,true,[],false,-1,false,_,h,⟨rfl,rfl⟩,Nat.zero_le _,⟨rfl,rfl,rfl⟩,g1,g2⟩
   | cons v r =>
    have hqn : qn = false := by
     cases qn with
     | false => rfl
     | true => have := h.qn rfl; rw [hq] at this; cases this
    subst hqn
    have hv := hwf.vs v (by rw [hq]; exact List.mem_cons_self)
    have hc := hwf.c; have hi := hwf.inc
    by_cases hr : refu s.c s.inc v ws dn = 0
    ·have hlt := hwf.lt v r hq
     have g1 := s_Step_go (s.p false) ws dn (i := s.ex) hq rfl hwf.len (by omega) (by show 0 ≤ s.c∧s.c ≤ 1000; omega) (by show 0 ≤ s.inc∧s.inc ≤ 1000; omega) hr rfl hlt (by
      show s.w.length ≤ 100000
      have := hwf.wl; have := good_le hv.1; omega)
     have g2 := fz_go s hwf ws (!dn) hq hlen (by rw [Bool.not_not]; exact hr)
     have hx := mem_getD (pcs v.at_ v.cnt) (0,0) s.ex hlt
     have hf := hv.1.fits (n := 320) hx
     have hml : (v.mem ((pcs v.at_ v.cnt).getD s.ex (0,0)) ws).length = 320 := by rw [Vb.mem_len (by rw [hlen]; exact hf)]; exact hlen
     have hmw : Wok (v.mem ((pcs v.at_ v.cnt).getD s.ex (0,0)) ws) := wok_mem h.wok hv.2
     have hol := @Vb.out_len v ((pcs v.at_ v.cnt).getD s.ex (0,0)) ws
     have hle := hf.le
     by_cases hl : s.ex + 1 < (pcs v.at_ v.cnt).length
     ·rw [if_pos hl] at g1 g2
      have hwfa := hwf.adv hq hl ws
      refine ⟨_,false,_,0,true,true,[],false,-1,true,_,⟨hwfa,fun e => (by cases e),hml,hmw,fun y hy => (List.mem_append.1 hy).elim (h.w y) (wok_out h.wok y)⟩,⟨rfl,rfl⟩,Nat.zero_le _,⟨?_,rfl,rfl⟩,g1,g2⟩
      show ((v.out _ ws).isEmpty && s.w.isEmpty) = (s.w ++ v.out _ ws).isEmpty
      rw [isEmpty_app,Bool.and_comm]
     ·rw [if_neg hl] at g1 g2
      refine ⟨s.pop,false,_,0,_,_,_,true,0,true,_,⟨hwf.pop,fun e => (by cases e),hml,hmw,fun y hy => by cases hy⟩,⟨rfl,rfl⟩,?_,⟨rfl,rfl,rfl⟩,g1,g2⟩
      have := hwf.wl; have := good_le hv.1
      show (s.w ++ v.out _ ws).length ≤ 100000
      rw [List.length_append]; omega
    ·have g1 := s_Step_ref (s.p false) ws dn hq rfl hwf.len (by omega) (by show 0 ≤ s.c∧s.c ≤ 1000; omega) (by show 0 ≤ s.inc∧s.inc ≤ 1000; omega) hr
     have g2 := fz_ref s hwf ws (!dn) hq hlen (by rw [Bool.not_not]; exact hr)
     rw [Bool.not_not] at g2
     exact ⟨s.pop,false,ws,_,true,true,[],true,0,true,_,⟨hwf.pop,fun e => (by cases e),hlen,h.wok,fun y hy => by cases hy⟩,⟨rfl,rfl⟩,Nat.zero_le _,⟨rfl,rfl,rfl⟩,g1,g2⟩
  obtain ⟨s',qn',ws',e,b1,b2,w',dd,sl,is2,c5,hok,hci,hwl,⟨c51,c52,c53⟩,g1,g2⟩ := key
  have g3 := s_SameDone e b1 b2 w' hwl
  have g4 := s_same s' hok.wf qn' ws' ws' dn (!dn)
  refine ⟨s',qn',ws',dn,rQL s',hok,hci,⟨rfl,rfl,rfl⟩,?_⟩
  unfold pO rL dA at *
  unfold pP rP PS.p at g4
  rw [evM23]
  refine bnd hp (cT rfl (cF (ltI_f (show 4 ≤ pick k 13 by omega)) (cT (ltI_t k2) (bnd g1 (cT rfl (cT rfl (cT ?_ (cT rfl (bnd g2 (cT rfl (cT rfl (cT rfl (cT rfl (cT rfl (cT rfl (cF (by cases dd <;> rfl) (bnd g3 (cT rfl (cF rfl ?_)))))))))))))))))))
  ·show (true && (true && (true && (true && (true && (true && (isOw _ 1 c5 || isNilL c5))))))) = true
   rw [c53]; rfl
  refine bnd (show _ = some [AV.v (.bool true)] from ?_) (cT rfl ?_)
  ·show ev 51 [.agg [.ep [_,_,_,_,_,.lst (avNil c5) 1 (avXs c5)] 0,_,_,_]] = _
   rw [c51,c52]; exact g4
  ·show some [_,AV.ob _ [_,_,_,_,_,.ow (avNil c5) _ 1 (avXs c5)],_,_,_] = _
   rw [c51,c52]; rfl
 have hs0 := s_same s hwf qn ws ws dn (!dn)
 have hk9 : 9 ≤ pick k 13 := by omega
 have same0 : some [AV.v (.bool true),pO (s.p qn),ndO ws dn,rL s,rfO ws (!dn)] = some [AV.v (.bool true),pO (s.p qn),ndO ws dn,rL s,rfO ws (!dn)] := rfl
 have tm4 := Int.tmod_eq_emod_of_nonneg (b := 4) hw.1
 have tm3 := Int.tmod_eq_emod_of_nonneg (b := 3) hw.1
 have tm5 := Int.tmod_eq_emod_of_nonneg (b := 5) hw.1
 by_cases k9 : pick k 13 = 9
 ·by_cases c9 : Int.tmod w 4 = 0
  ·have g4 := s_sameZ s.c s.inc false ws ws dn (!dn)
   refine ⟨s.drop,true,ws,dn,.lst true 0 [],⟨hwf.drop,fun _ => rfl,hlen,h.wok,fun y hy => by cases hy⟩,⟨rfl,rfl⟩,⟨rfl,rfl,rfl⟩,?_⟩
   unfold pO rL at *
   rw [evM23]
   refine bnd hp (cT rfl (cF (ltI_f (show 4 ≤ pick k 13 by omega)) (cF (ltI_f (show 9 ≤ pick k 13 by omega)) (cT (beq_t k9) (cT (beq_t c9) ?_)))))
   rw [ev48]
   exact bnd rfl (cT rfl (bnd g4 (cT rfl rfl)))
  ·refine ⟨s,qn,ws,dn,rQL s,h,⟨rfl,rfl⟩,⟨rfl,rfl,rfl⟩,?_⟩
   unfold pO rL at *
   rw [evM23]
   exact bnd hp (cT rfl (cF (ltI_f (show 4 ≤ pick k 13 by omega)) (cF (ltI_f (show 9 ≤ pick k 13 by omega)) (cT (beq_t k9) (cF (beq_f c9) (cF (beq_f (show pick k 13 ≠ 10 by omega)) (cF (beq_f (show pick k 13 ≠ 11 by omega)) (cF (beq_f (show pick k 13 ≠ 12 by omega)) (bnd hs0 (cT rfl rfl))))))))))
 by_cases k10 : pick k 13 = 10
 ·have hdo := s_rDoor s.c hwf.c
  have hp4 := s_Pick a 4 (by decide) (by decide)
  have hc := hwf.c
  have ha := pickR a 4 (by decide)
  obtain ⟨A,hA,hAr⟩ : ∃ A : Int,cond (Nat.beq (Int.toNat (pick a 4)) 0) 0 (cond (Nat.beq (Int.toNat (pick a 4)) 1) 1 (cond (Nat.beq (Int.toNat (pick a 4)) 2) (24 + s.c) 100)) = A∧0 ≤ A∧A ≤ 100 := by
   refine ⟨_,rfl,?_⟩
   cases Nat.beq (Int.toNat (pick a 4)) 0 <;> cases Nat.beq (Int.toNat (pick a 4)) 1 <;> cases Nat.beq (Int.toNat (pick a 4)) 2 <;> simp only [cond_true,cond_false] <;> omega
  have hW := s_Write ws dn A false [Int.tmod w 5] (by omega) ⟨by omega,by omega⟩
  have hx : 0 ≤ Int.tmod w 5∧Int.tmod w 5 < 18446744073709551616 := by omega
  rw [hlen,acc_ok (by simp only [List.length_cons,List.length_nil]; omega) (by omega) (by simp only [List.length_cons,List.length_nil]; omega)] at hW
  cases dn with
  | false =>
   rw [show (if (!false) = true then (0 : Int) else 4) = 0 from rfl,if_pos rfl,splice_one _ _ _ (by omega)] at hW
   have g4 := s_same s hwf qn (ws.set A.toNat (Int.tmod w 5)) (ws.set A.toNat (Int.tmod w 5)) false true
   refine ⟨s,qn,ws.set A.toNat (Int.tmod w 5),false,rQL s,⟨hwf,h.qn,by rw [List.length_set]; exact hlen,wok_set h.wok _ hx,h.w⟩,⟨rfl,rfl⟩,⟨rfl,rfl,rfl⟩,?_⟩
   unfold pO rL at *
   rw [evM23]
   refine bnd hp (cT rfl (cF (ltI_f (show 4 ≤ pick k 13 by omega)) (cF (ltI_f (show 9 ≤ pick k 13 by omega)) (cF (beq_f k9) (cT (beq_t k10) (bnd hdo (cT rfl (bnd hp4 (cT rfl (cT ?_ ?_))))))))))
   ·show (leI 0 (pick a 4) && ltI (pick a 4) 4) = true
    rw [leI_t ha.1,ltI_t ha.2]; rfl
   simp -implicitDefEqProofs only [cellAt_zero,avInt_v,hA]
   rw [List.length_map]
   refine cT rfl (cT (by rw [leI_t hAr.1,ltI_t (by omega)]; rfl) (cT (ltN_t (by omega)) (bnd hW (cT rfl (cT rfl (cT ?_ (cF rfl ?_)))))))
   ·show (false || (true && (((ws.set A.toNat (Int.tmod w 5)).map wr).all rowV && true))) = true
    rw [all_wr]; rfl
   rw [Nat.zero_add,set_wr]
   exact bnd g4 (cT rfl rfl)
  | true =>
   rw [show (if (!true) = true then (0 : Int) else 4) = 4 from rfl,if_neg (by decide)] at hW
   refine ⟨s,qn,ws,true,rQL s,h,⟨rfl,rfl⟩,⟨rfl,rfl,rfl⟩,?_⟩
   unfold pO rL at *
   rw [evM23]
   refine bnd hp (cT rfl (cF (ltI_f (show 4 ≤ pick k 13 by omega)) (cF (ltI_f (show 9 ≤ pick k 13 by omega)) (cF (beq_f k9) (cT (beq_t k10) (bnd hdo (cT rfl (bnd hp4 (cT rfl (cT ?_ ?_))))))))))
   ·show (leI 0 (pick a 4) && ltI (pick a 4) 4) = true
    rw [leI_t ha.1,ltI_t ha.2]; rfl
   simp -implicitDefEqProofs only [cellAt_zero,avInt_v,hA]
   refine cF rfl (bnd hW (cT rfl (cT rfl (cT ?_ (cF rfl (bnd hs0 (cT rfl rfl)))))))
   ·show (false || (true && ((ws.map wr).all rowV && true))) = true
    rw [all_wr]; rfl
 by_cases k11 : pick k 13 = 11
 ·by_cases c11 : Int.tmod w 3 = 0
  ·have hf := s_Fail ws dn
   have g4 := s_same s hwf qn ws ws true false
   refine ⟨s,qn,ws,true,rQL s,h,⟨rfl,rfl⟩,⟨rfl,rfl,rfl⟩,?_⟩
   unfold pO rL at *
   rw [evM23]
   exact bnd hp (cT rfl (cF (ltI_f (show 4 ≤ pick k 13 by omega)) (cF (ltI_f (show 9 ≤ pick k 13 by omega)) (cF (beq_f k9) (cF (beq_f k10) (cT (beq_t k11) (cT (beq_t c11) (bnd hf (cT rfl (bnd g4 (cT rfl rfl)))))))))))
  ·refine ⟨s,qn,ws,dn,rQL s,h,⟨rfl,rfl⟩,⟨rfl,rfl,rfl⟩,?_⟩
   unfold pO rL at *
   rw [evM23]
   exact bnd hp (cT rfl (cF (ltI_f (show 4 ≤ pick k 13 by omega)) (cF (ltI_f (show 9 ≤ pick k 13 by omega)) (cF (beq_f k9) (cF (beq_f k10) (cT (beq_t k11) (cF (beq_f c11) (cF (beq_f (show pick k 13 ≠ 12 by omega)) (bnd hs0 (cT rfl rfl))))))))))
 have k12 : pick k 13 = 12 := by omega
 have hb := s_Back ws dn (by omega)
 have hrb := s_RBack ws (!dn) (by omega)
 rw [Bool.not_not,show (!dn || backOk ws dn) = !(dn && !(backOk ws dn)) by cases dn <;> cases backOk ws _ <;> rfl] at hrb
 have g4 := s_same s hwf qn (backW ws dn) (backW ws dn) (dn && !(backOk ws dn)) (!(dn && !(backOk ws dn)))
 refine ⟨s,qn,backW ws dn,dn && !(backOk ws dn),rQL s,⟨hwf,h.qn,by rw [back_len]; exact hlen,wok_back h.wok dn,h.w⟩,⟨rfl,rfl⟩,⟨rfl,rfl,rfl⟩,?_⟩
 unfold pO rL at *
 rw [evM23]
 exact bnd hp (cT rfl (cF (ltI_f (show 4 ≤ pick k 13 by omega)) (cF (ltI_f (show 9 ≤ pick k 13 by omega)) (cF (beq_f k9) (cF (beq_f k10) (cF (beq_f k11) (cT (beq_t k12) (bnd hb (cT rfl (cT rfl (bnd hrb (cT rfl (cT rfl (cF (by cases hbk : backOk ws dn <;> rfl) (bnd g4 (cT rfl rfl))))))))))))))))
end Go.Proofs.Ytkefjdmoikegbaa
