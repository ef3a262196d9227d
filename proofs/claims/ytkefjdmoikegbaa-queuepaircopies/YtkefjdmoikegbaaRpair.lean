/- The reference's queue pair,its operations. -/
import Derived.Test.YtkefjdmoikegbaaRef
set_option linter.all false
namespace Go.Proofs.Ytkefjdmoikegbaa
open Go.Ev Go.RowKit
attribute [local congr] bind_first cond_first
set_option maxRecDepth 10000
theorem s_boot (ws : List Int) (dn : Bool) (hl : 1 < ws.length) : ev 76 [ndP ws dn] = some [.v (.int .u64 (ws.getD 1 0))] := by
 rw [ev76,List.length_map,ltI_t (by omega),get_wr ws 1 hl]; rfl
theorem s_RBack (ws : List Int) (up : Bool) (hl : 1 < ws.length) : ev 50 [rfO ws up] = some [.v (.bool (backOk ws (!up))),rfO (backW ws (!up)) (up || backOk ws (!up))] := by
 rw [ev50,s_boot ws up hl]
 have e1 : ltI 1 (((ws.map wr).length - 0 : Nat) : Int) = true := ltI_t (by rw [List.length_map]; omega)
 have e2 : ltN 1 (ws.map wr).length = true := ltN_t (by rw [List.length_map]; omega)
 unfold backW backOk
 rw [ltI_not (ws.getD 1 0) 31,e1,e2,get_wr ws 1 hl,set_wr]
 simp -implicitDefEqProofs only [some_bind',obCells_agg,obCells_ob,isOb_ok,isL_ok,isOw_ok,avXs_lst,avXs_ow,avNil_lst,avNil_ow,avNil_sl,avOff_sl,avCut_sl,isAgg_agg,nat_beq_self,List.length_cons,List.length_nil,Nat.reduceAdd,Nat.zero_add,isI_v,isB_v,isS_v,avInt_v,avBool_v,avStr_v,cellAt_zero,cellAt_succ,lget_zero,lget_succ,frAt_zero,frAt_succ,blAt_zero,blAt_succ,isEx_ok,isEx_ne,isEx_none,isRt_some,isRt_none,like_st,likeFG_nil,likeFG_cons,likeBG_nil,likeBG_obj,likeBG_row,likeSG_nil,likeSG_cons,likeT_nil,likeS_nil,isNP_nil,isNP_ob,likeT_ep,isEp_ep,epCells_ep,likeT_agg,likeT_int,likeT_bool,likeT_str,likeT_lst,likeT_sl0,likeT_sl1,likeT_ptr,likeS_int,likeS_bool,likeS_str,likeS_lst,likeS_sl0,likeS_sl1,likeS_ptr,isPtr_ok,isSl_0,isSl_1,beq_self_b,Bool.and_self,Bool.and_true,Bool.true_and,Bool.and_false,Bool.false_and,cond_true,cond_false,Bool.not_true,Bool.not_false,wr_eq]
 cases up
 ·cases leI 31 (ws.getD 1 0) <;> rfl
 ·rfl
def Wok (ws : List Int) : Prop := ∀ w ∈ ws,0 ≤ w∧w < 18446744073709551616
theorem wok_set {ws : List Int} (h : Wok ws) (i : Nat) {w : Int} (hw : 0 ≤ w∧w < 18446744073709551616) : Wok (ws.set i w) := fun x hx => by
 rcases List.mem_or_eq_of_mem_set hx with hx | rfl
 ·exact h x hx
 ·exact hw
theorem wok_splice {ws ys : List Int} (h : Wok ws) (k : Wok ys) (a : Nat) : Wok (splice ws a ys) := fun x hx => by
 unfold splice at hx
 simp only [List.mem_append] at hx
 rcases hx with (hx | hx) | hx
 ·exact h x (List.mem_of_mem_take hx)
 ·exact k x hx
 ·exact h x (List.mem_of_mem_drop hx)
theorem wok_wrap (x : Int) : 0 ≤ IntKind.u64.wrap x∧IntKind.u64.wrap x < 18446744073709551616 := by rw [w_u64]; omega
theorem wok_back {ws : List Int} (h : Wok ws) (dn : Bool) : Wok (backW ws dn) := by
 unfold backW
 cases backOk ws dn
 ·exact h
 ·exact wok_set h _ (wok_wrap _)
theorem back_len (ws : List Int) (dn : Bool) : (backW ws dn).length = ws.length := by
 unfold backW
 cases backOk ws dn
 ·rfl
 ·simp
theorem isEmpty_app (a b : List Int) : (a ++ b).isEmpty = (a.isEmpty && b.isEmpty) := by cases a <;> rfl
structure Vb.Nm (v : Vb) : Prop where
 nl : v.wn = v.ws.isEmpty
 len : v.ws.length ≤ 100000
 ws : Wok v.ws
 new : 0 ≤ v.new∧v.new < 18446744073709551616
 rng : (0 ≤ v.old∧v.old < 18446744073709551616)∧(0 ≤ v.key∧v.key < 18446744073709551616)∧(0 ≤ v.boot∧v.boot < 3)∧(-20 ≤ v.n∧v.n < 2100)
theorem Vb.Nm.wf {v : Vb} (h : v.Nm) : v.Wf := ⟨fun e => by
 have := h.nl
 rw [e] at this
 exact List.isEmpty_iff.1 this.symm,h.len⟩
def pd (v : Vb) (ex : Int) (w : List Int) : List AV := v.row ++ [.v (.int .i64 ex),.lst w.isEmpty 1 (w.map wr),.v (.int .i64 0)]
def rrows : List Vb → Int → List Int → List (List AV)
 | [],_,_ => []
 | v :: r,ex,w => pd v ex w :: r.map fun v => pd v 0 []
theorem rrows_len (q : List Vb) (ex : Int) (w : List Int) : (rrows q ex w).length = q.length := by
 cases q with
 | nil => rfl
 | cons v r => simp [rrows]
theorem rrows_tail (r : List Vb) : (r.map fun v => pd v 0 []) = rrows r 0 [] := by
 cases r with
 | nil => rfl
 | cons v r => rfl
structure PS where
 c : Int
 inc : Int
 q : List Vb
 ex : Nat
 w : List Int
def PS.p (s : PS) (qn : Bool) : Pr := ⟨s.c,s.inc,0,qn,s.q,s.ex,s.w.isEmpty,s.w⟩
def rO (s : PS) : AV := .ob 70 [.v (.int .i64 s.c),.v (.int .i64 s.inc),.v (.int .i64 0),.ow s.q.isEmpty 108 12 (rrows s.q s.ex s.w)]
def rP (s : PS) : AV := .ep [.v (.int .i64 s.c),.v (.int .i64 s.inc),.v (.int .i64 0),.lst s.q.isEmpty 12 (rrows s.q s.ex s.w)] 0
structure PS.Wf (s : PS) : Prop where
 vs : ∀ v ∈ s.q,v.Good 40∧v.Nm
 len : s.q.length ≤ 1024
 z : s.q = [] → s.ex = 0∧s.w = []
 lt : ∀ v r,s.q = v :: r → s.ex < (pcs v.at_ v.cnt).length
 wl : s.w.length ≤ 9 * s.ex
 c : 0 ≤ s.c∧s.c < 6
 inc : 0 ≤ s.inc∧s.inc ≤ 59
def PS.post (s : PS) (v : Vb) : PS := { s with q := s.q ++ [v] }
def PS.pop (s : PS) : PS := { s with q := s.q.tail,ex := 0,w := [] }
def PS.adv (s : PS) (o : List Int) : PS := { s with ex := s.ex + 1,w := s.w ++ o }
def PS.drop (s : PS) : PS := { s with q := [],ex := 0,w := [] }
theorem good_pos {v : Vb} {l : Int} (h : v.Good l) : 0 < (pcs v.at_ v.cnt).length := List.length_pos_iff.2 (pcs_ne (by have := h.pos; omega))
theorem good_le {v : Vb} {l : Int} (h : v.Good l) : (pcs v.at_ v.cnt).length ≤ 1024 := by
 have := pcs_len v.at_ v.cnt
 have := h.ins.2.2.2.2.2.2.1
 omega
theorem PS.Wf.post {s : PS} (h : s.Wf) {v : Vb} (hg : v.Good 40) (hn : v.Nm) (hl : s.q.length < 1024) : (s.post v).Wf := by
 refine ⟨fun x hx => ?_,?_,fun e => ?_,fun x r e => ?_,h.wl,h.c,h.inc⟩
 ·rcases List.mem_append.1 hx with hx | hx
  ·exact h.vs x hx
  ·obtain rfl := List.mem_singleton.1 hx
   exact ⟨hg,hn⟩
 ·show (s.q ++ [v]).length ≤ 1024
  simp only [List.length_append,List.length_cons,List.length_nil]; omega
 ·exfalso
  have e : s.q ++ [v] = [] := e
  simp at e
 ·cases hq : s.q with
  | nil =>
   have e : s.q ++ [v] = x :: r := e
   rw [hq] at e
   cases e
   show s.ex < _
   rw [(h.z hq).1]
   exact good_pos hg
  | cons y t =>
   have e : s.q ++ [v] = x :: r := e
   rw [hq] at e
   cases e
   exact h.lt x t hq
theorem PS.Wf.pop {s : PS} (h : s.Wf) : s.pop.Wf := by
 refine ⟨fun x hx => h.vs x (List.mem_of_mem_tail hx),?_,fun _ => ⟨rfl,rfl⟩,fun x r e => ?_,Nat.le_refl _,h.c,h.inc⟩
 ·show s.q.tail.length ≤ 1024
  have := h.len
  simp only [List.length_tail]; omega
 ·have e : s.q.tail = x :: r := e
  exact good_pos (h.vs x (List.mem_of_mem_tail (by rw [e]; exact List.mem_cons_self))).1
theorem PS.Wf.drop {s : PS} (h : s.Wf) : s.drop.Wf := ⟨fun x hx => (by cases hx),Nat.zero_le _,fun _ => ⟨rfl,rfl⟩,fun x r e => (by cases e),Nat.le_refl _,h.c,h.inc⟩
theorem pcs_one {v : Vb} {l : Int} (h : v.Good l) (hk : v.kind = 3 ∨ v.kind = 4) : pcs v.at_ v.cnt = [(v.at_,1)] := by
 have hc : v.cnt = 1 := by unfold Vb.cnt vcnt; rw [if_neg (by omega),if_neg (by omega),if_pos hk]
 obtain ⟨hp,⟨g1,g2,g3,g4,g5,g6,g7,g8,g9⟩,ho⟩ := h
 rw [hc,pcs_step g5 (by omega) (by omega)]
 have := pcN_pos (a := v.at_) (l := 1) (by omega)
 have e : pcN v.at_ 1 = 1 := by omega
 rw [e,pcs_neg (by omega)]
theorem PS.Wf.adv {s : PS} (h : s.Wf) {v : Vb} {r : List Vb} (hq : s.q = v :: r) (hlt : s.ex + 1 < (pcs v.at_ v.cnt).length) (ws : List Int) : (s.adv (v.out ((pcs v.at_ v.cnt).getD s.ex (0,0)) ws)).Wf := by
 refine ⟨h.vs,h.len,fun e => ?_,fun x t e => ?_,?_,h.c,h.inc⟩
 ·have e : s.q = [] := e
  rw [hq] at e; cases e
 ·have e : s.q = x :: t := e
  rw [hq] at e; cases e
  exact hlt
 ·show (s.w ++ v.out _ ws).length ≤ 9 * (s.ex + 1)
  have h1 := h.wl
  have h2 := @Vb.out_len v ((pcs v.at_ v.cnt).getD s.ex (0,0)) ws
  have hg := (h.vs v (by rw [hq]; exact List.mem_cons_self)).1
  have hx := mem_getD (pcs v.at_ v.cnt) (0,0) s.ex (by omega)
  have h3 := (hg.fits (n := 320) hx).le
  simp only [List.length_append]; omega
theorem c_Post (s : PS) (qn : Bool) (v : Vb) (h : s.Wf) (hn : v.Nm) : ∃ (e : Int) (s' : PS) (qn' : Bool),(e = 0 → v.Good 40∧s.q.length < 1024∧s' = s.post v∧qn' = false)∧(e ≠ 0 → s' = s∧qn' = qn)∧s'.Wf∧(qn' = true → qn = true∧s' = s) ∧
  e = (s.p qn).postE v 40∧ev 11 [pO (s.p qn),.agg v.row,.v (.int .i64 40)] = some [.v (.int .i64 e),pO (s'.p qn')] := by
 have hp := s_Post (s.p qn) v 40 hn.wf h.len
 unfold Pr.post at hp
 by_cases he : (s.p qn).postE v 40 = 0
 ·have hg : v.Good 40∧s.q.length < 1024 := by
   unfold Pr.postE at he
   split at he
   ·rename_i hb; exact absurd he hb
   ·rename_i hb
    split at he
    ·cases he
    ·split at he
     ·cases he
     ·rename_i hl
      have hl : ¬ 1024 ≤ s.q.length := hl
      exact ⟨bad_zero.1 (Decidable.not_not.1 hb),by omega⟩
  refine ⟨0,s.post v,false,fun _ => ⟨hg.1,hg.2,rfl,rfl⟩,fun h => absurd rfl h,h.post hg.1 hn hg.2,fun h => (by cases h),he.symm,?_⟩
  rw [hp,he,if_pos rfl]; rfl
 ·refine ⟨_,s,qn,fun h => absurd h he,fun _ => ⟨rfl,rfl⟩,h,fun e => ⟨e,rfl⟩,rfl,?_⟩
  rw [hp,if_neg he]
theorem s_rDoor (c : Int) (h : 0 ≤ c∧c < 6) : ev 49 [.v (.int .i64 c)] = some [.v (.int .i64 (24 + c))] := by
 have e : IntKind.i64.wrap (24 + c) = 24 + c := by rw [w_i64]; omega
 rw [ev49,ev75,leI_t h.1,ltI_t h.2,e]; rfl
theorem s_SameDone (e : Int) (b c : Bool) (w : List Int) (h : w.length ≤ 100000) : ev 47 [dA e b w,dA e c w] = some [.v (.bool true)] := by
 have h1 := s_SameWords b c w w h h
 rw [decide_eq_true rfl] at h1
 unfold dA
 rw [ev47,beq_self_i]
 exact cT rfl (bnd h1 rfl)
theorem s_First_nil (p : Pr) (hq : p.q = []) : ev 77 [pP p] = some [.agg [.v (.int .i64 0),.v (.int .i64 0),.v (.int .i64 0),.v (.int .i64 0),.v (.int .u64 0),.v (.int .u64 0),.lst true 1 [],.v (.int .u64 0),.v (.int .i64 0)],.v (.int .i64 0),.v (.bool false)] := by
 unfold pP
 rw [ev77,hq]; rfl
theorem s_First (p : Pr) {v : Vb} {r : List Vb} (hq : p.q = v :: r) (hv : v.Wf) : ev 77 [pP p] = some [.agg v.row,.v (.int .i64 p.ex),.v (.bool true)] := by
 have h := s_clone v hv
 unfold pP
 rw [ev77,hq]
 exact cF (beq_f (by simp only [List.length_map,List.length_cons]; omega)) (cT (by rw [ltI_t (by simp only [List.length_map,List.length_cons]; omega)]; rfl) (cT rfl (bnd h (cT rfl rfl))))
theorem s_rSame (v : Vb) (hv : v.ws.length ≤ 100000) : ev 78 [.agg v.row,.agg v.row] = some [.v (.bool true)] := by
 have h1 := s_SameWords v.wn v.wn v.ws v.ws hv hv
 rw [decide_eq_true rfl] at h1
 unfold Vb.row
 rw [ev78]
 simp only [beq_self_i,Bool.not_true,cond_false]
 by_cases k1 : v.kind = 1
 ·rw [beq_t k1]; rfl
 rw [beq_f k1]
 by_cases k2 : v.kind = 2
 ·rw [beq_t k2]; exact bnd h1 rfl
 rw [beq_f k2]
 by_cases k3 : v.kind = 3
 ·rw [beq_t k3]; rfl
 rw [beq_f k3]
 by_cases k4 : v.kind = 4
 ·rw [beq_t k4]; rfl
 rw [beq_f k4]
 exact bnd h1 rfl
end Go.Proofs.Ytkefjdmoikegbaa
