/- The reference's queue pair,its queue as data. -/
import Derived.Test.YtkefjdmoikegbaaPlays
import Derived.Test.YtkefjdmoikegbaaEqM
set_option linter.all false
namespace Go.Proofs.Ytkefjdmoikegbaa
open Go.Ev Go.RowKit
attribute [local congr] bind_first cond_first
set_option maxRecDepth 10000
def rL (s : PS) : AV := .ob 70 [.v (.int .i64 s.c),.v (.int .i64 s.inc),.v (.int .i64 0),.lst s.q.isEmpty 12 (rrows s.q s.ex s.w)]
theorem s_rPostM (s : PS) (qn : Bool) (v : Vb) (h : s.Wf) (hn : v.Nm) : ev 45 [rL s,.agg v.row,.v (.int .i64 40),.v (.int .i64 0)] = some [.v (.int .i64 ((s.p qn).postE v 40)),if (s.p qn).postE v 40 = 0 then rO (s.post v) else rL s] := by
 have h1 := s_rValid v 40
 have hlen := h.len
 have hvl := hn.len
 unfold Pr.postE rO rL
 have hrow : v.row = v.row := rfl
 unfold Vb.row at h1 ⊢
 rw [ev45m]
 refine bnd h1 (cT rfl ?_)
 by_cases g1 : v.bad 40 = 0
 ·rw [g1,if_neg (show ¬ ((0 : Int) ≠ 0) by simp)]
  refine cF rfl ?_
  show cond (!(v.node == 0)) _ _ = _
  by_cases g2 : v.node = 0
  ·rw [show (s.p qn).node = 0 from rfl,if_neg (not_not_intro g2)]
   refine cF (by rw [g2]; rfl) ?_
   show cond (leI 1024 (((rrows s.q s.ex s.w).length - 0 : Nat) : Int)) _ _ = _
   rw [rrows_len,show (s.p qn).q = s.q from rfl]
   by_cases g3 : 1024 ≤ s.q.length
   ·rw [if_pos g3,if_neg (show ¬ ((12 : Int) = 0) by decide)]
    exact cT (leI_t (by omega)) rfl
   ·rw [if_neg g3,if_pos rfl]
    refine cF (leI_f (by omega)) ?_
    rw [List.length_map]
    refine cT (leN_t (by omega)) (cT (leN_t (by omega)) (cT (leN_t (by omega)) ?_))
    refine ret_cong ?_
    have e1 : rrows (s.post v).q (s.post v).ex (s.post v).w = rrows s.q s.ex s.w ++ [pd v 0 []] := by
     show rrows (s.q ++ [v]) s.ex s.w = _
     cases hq : s.q with
     | nil =>
      obtain ⟨z1,z2⟩ := h.z hq
      rw [z1,z2]; rfl
     | cons y t =>
      show pd y s.ex s.w :: (t ++ [v]).map (fun v => pd v 0 []) = _
      rw [List.map_append]; rfl
    have e2 : (s.post v).q.isEmpty = false := by
     show (s.q ++ [v]).isEmpty = false
     cases s.q <;> rfl
    rw [e1,e2]
    unfold pd Vb.row
    rw [hn.nl,← List.isEmpty_map (f := wr)]
    rfl
  ·rw [show (s.p qn).node = 0 from rfl,if_pos g2,if_neg (show ¬ ((1 : Int) = 0) by decide)]
   exact cT (by rw [beq_f g2]; rfl) rfl
 ·rw [if_pos g1,if_neg g1]
  exact cT (by show (!(v.bad 40 == 0)) = true; rw [beq_f g1]; rfl) rfl
theorem s_rStep_nilM (s : PS) (ws : List Int) (up : Bool) (hq : s.q = []) : ev 46 [rL s,rfO ws up] = some [dA 0 true [],.v (.int .i64 (-1)),.v (.bool false),.v (.bool false),rL s,rfO ws up] := by
 unfold rL
 rw [ev46m,hq]; rfl
theorem s_rStep_refM (s : PS) (h : s.Wf) (ws : List Int) (up : Bool) {v : Vb} {r : List Vb} (hq : s.q = v :: r) (hl : ws.length = 320)
  (hr : refu s.c s.inc v ws (!up) ≠ 0) : ev 46 [rL s,rfO ws up] = some [dA (refu s.c s.inc v ws (!up)) true [],.v (.int .i64 0),.v (.bool true),.v (.bool true),rO s.pop,rfO ws up] := by
 have hv := h.vs v (by rw [hq]; exact List.mem_cons_self)
 have h1 := s_rValid v 40
 have h2 := fun d k b => s_rCheck v hv.1 s.inc d k b (by have := h.inc; omega)
 have h3 := s_rDoor s.c h.c
 have h4 := s_rAt false ws up (24 + s.c) (by have := h.c; omega)
 have h5 := s_rAt false ws up 0 (by omega)
 have h6 := s_rAt false ws up 1 (by omega)
 have hrl := h.len
 rw [hq] at hrl
 have hpop : rrows s.pop.q s.pop.ex s.pop.w = r.map fun v => pd v 0 [] := by
  show rrows s.q.tail 0 [] = _
  rw [hq]; exact (rrows_tail r).symm
 have hpe : s.pop.q.isEmpty = (r.map fun v => pd v 0 []).isEmpty := by
  show s.q.tail.isEmpty = _
  rw [hq,List.isEmpty_map]; rfl
 unfold rO rL
 rw [hpop,hpe]
 unfold refu at hr ⊢
 rw [hl,show (((320 / 8 : Nat)) : Int) = 40 from rfl,bad_zero.2 hv.1,if_neg (show ¬ ((0 : Int) ≠ 0) by simp)] at hr ⊢
 rw [bad_zero.2 hv.1] at h1
 have e40 : IntKind.i64.wrap (Int.tdiv ((((ws.map wr).length - 0 : Nat)) : Int) 8) = 40 := by rw [List.length_map,hl]; rfl
 rw [← e40] at h1
 rw [hq]
 unfold Vb.row at h1 h2
 rw [ev46m]
 refine cF (beq_f (by show (((rrows (v :: r) s.ex s.w).length - 0 : Nat) : Int) ≠ 0; rw [rrows_len]; simp only [List.length_cons]; omega)) (cT (by rw [rrows_len,ltI_t (by simp only [List.length_cons]; omega)]; rfl) (cT rfl ?_))
 have d1 : (true && leI 1 (((rrows (v :: r) s.ex s.w).length - 0 : Nat) : Int)) = true := by rw [rrows_len,leI_t (by simp only [List.length_cons]; omega)]; rfl
 have d2 : leN ((List.drop 1 (rrows (v :: r) s.ex s.w)).length * 128) 140737488355328 = true := leN_t (by rw [List.length_drop,rrows_len]; simp only [List.length_cons] at *; omega)
 cases up with
 | false =>
  rw [if_pos (show (!false) = true from rfl)]
  exact cT rfl (cT d1 (cT d2 rfl))
 | true =>
  rw [if_neg (show ¬ ((!true) = true) by decide)] at hr ⊢
  exact cF rfl (bnd h1 (cT rfl (cF rfl (bnd h3 (cT rfl (bnd h4 (cT rfl (bnd h5 (cT rfl (bnd h6 (cT rfl (bnd (h2 _ _ _) (cT rfl (cT (by show (!(v.chk s.inc (ws.getD (24 + s.c).toNat 0) (ws.getD 0 0) (ws.getD 1 0) == 0)) = true; rw [beq_f hr]; rfl) (cT d1 (cT d2 rfl))))))))))))))))
theorem s_rStep_goM (s : PS) (h : s.Wf) (ws : List Int) (up : Bool) {v : Vb} {r : List Vb} (hq : s.q = v :: r) (hl : ws.length = 320)
  (hr : refu s.c s.inc v ws (!up) = 0) : ev 46 [rL s,rfO ws up] = some (
   if s.ex + 1 < (pcs v.at_ v.cnt).length then [dA 0 true [],.v (.int .i64 (-1)),.v (.bool false),.v (.bool true),rO (s.adv (v.out ((pcs v.at_ v.cnt).getD s.ex (0,0)) ws)),rfO (v.mem ((pcs v.at_ v.cnt).getD s.ex (0,0)) ws) up]
   else [dA 0 ((v.out ((pcs v.at_ v.cnt).getD s.ex (0,0)) ws).isEmpty && s.w.isEmpty) (s.w ++ v.out ((pcs v.at_ v.cnt).getD s.ex (0,0)) ws),.v (.int .i64 0),.v (.bool true),.v (.bool true),rO s.pop,rfO (v.mem ((pcs v.at_ v.cnt).getD s.ex (0,0)) ws) up]) := by
 have hv := h.vs v (by rw [hq]; exact List.mem_cons_self)
 have hlt := h.lt v r hq
 have h1 := s_rValid v 40
 have h2 := fun d k b => s_rCheck v hv.1 s.inc d k b (by have := h.inc; omega)
 have h3 := s_rDoor s.c h.c
 have h4 := s_rAt false ws up (24 + s.c) (by have := h.c; omega)
 have h5 := s_rAt false ws up 0 (by omega)
 have h6 := s_rAt false ws up 1 (by omega)
 have hx := mem_getD (pcs v.at_ v.cnt) (0,0) s.ex hlt
 have hf := hv.1.fits (n := 320) hx
 have hk := Vb.kinds hv.1.pos
 obtain ⟨f1,h7⟩ := s_rPieces v (by omega) (by have := hf.cnt; omega)
 have h8 := s_rExec v _ ws false (by rw [hl]; exact hf) (fun hk => by
  have e := pcs_one hv.1 hk
  rw [e] at hlt ⊢
  have : s.ex = 0 := by simp only [List.length_cons,List.length_nil] at hlt; omega
  rw [this]; rfl) (by omega)
 have hgl := good_le hv.1
 have hol := @Vb.out_len v ((pcs v.at_ v.cnt).getD s.ex (0,0)) ws
 have hxle := hf.le
 have hwl := h.wl
 have hget : lget (pieceR (pcs v.at_ v.cnt)) (0 + ((s.ex : Int)).toNat) = [AV.v (.int .i64 ((pcs v.at_ v.cnt).getD s.ex (0,0)).1),AV.v (.int .i64 ((pcs v.at_ v.cnt).getD s.ex (0,0)).2)] := by
  rw [Nat.zero_add,Int.toNat_natCast]
  exact lget_mapD (fun x : Int × Int => [AV.v (.int .i64 x.1),AV.v (.int .i64 x.2)]) _ (0,0) s.ex hlt
 have hpr : (pieceR (pcs v.at_ v.cnt)).length = (pcs v.at_ v.cnt).length := List.length_map ..
 have hrl := h.len
 rw [hq] at hrl
 have hpop : rrows s.pop.q s.pop.ex s.pop.w = r.map fun v => pd v 0 [] := by
  show rrows s.q.tail 0 [] = _
  rw [hq]; exact (rrows_tail r).symm
 have hpe : s.pop.q.isEmpty = (r.map fun v => pd v 0 []).isEmpty := by
  show s.q.tail.isEmpty = _
  rw [hq,List.isEmpty_map]; rfl
 have hadv : rrows (s.adv (v.out ((pcs v.at_ v.cnt).getD s.ex (0,0)) ws)).q (s.adv (v.out ((pcs v.at_ v.cnt).getD s.ex (0,0)) ws)).ex (s.adv (v.out ((pcs v.at_ v.cnt).getD s.ex (0,0)) ws)).w = pd v ((s.ex + 1 : Nat) : Int) (s.w ++ v.out ((pcs v.at_ v.cnt).getD s.ex (0,0)) ws) :: r.map fun v => pd v 0 [] := by
  show rrows s.q _ _ = _
  rw [hq]; rfl
 have hadq : (s.adv (v.out ((pcs v.at_ v.cnt).getD s.ex (0,0)) ws)).q.isEmpty = false := by
  show s.q.isEmpty = _
  rw [hq]; rfl
 generalize (pcs v.at_ v.cnt).getD s.ex (0,0) = x at *
 generalize pieceR (pcs v.at_ v.cnt) = PR at *
 unfold rO rL
 rw [hpop,hpe,hadv,hadq]
 unfold refu at hr
 rw [hl,show (((320 / 8 : Nat)) : Int) = 40 from rfl,bad_zero.2 hv.1,if_neg (show ¬ ((0 : Int) ≠ 0) by simp)] at hr
 rw [bad_zero.2 hv.1] at h1
 have e40 : IntKind.i64.wrap (Int.tdiv ((((ws.map wr).length - 0 : Nat)) : Int) 8) = 40 := by rw [List.length_map,hl]; rfl
 rw [← e40] at h1
 have e1 : IntKind.i64.wrap ((s.ex : Int) + 1) = ((s.ex + 1 : Nat) : Int) := by rw [w_i64]; omega
 rw [hq]
 unfold Vb.row at h1 h2 h7 h8
 rw [ev46m]
 refine cF (beq_f (by show (((rrows (v :: r) s.ex s.w).length - 0 : Nat) : Int) ≠ 0; rw [rrows_len]; simp only [List.length_cons]; omega)) (cT (by rw [rrows_len,ltI_t (by simp only [List.length_cons]; omega)]; rfl) (cT rfl ?_))
 have d1 : (true && leI 1 (((rrows (v :: r) s.ex s.w).length - 0 : Nat) : Int)) = true := by rw [rrows_len,leI_t (by simp only [List.length_cons]; omega)]; rfl
 have d2 : leN ((List.drop 1 (rrows (v :: r) s.ex s.w)).length * 128) 140737488355328 = true := leN_t (by rw [List.length_drop,rrows_len]; simp only [List.length_cons] at *; omega)
 have d3 : leN ((rrows (v :: r) s.ex s.w).length * 128) 140737488355328 = true := leN_t (by rw [rrows_len]; simp only [List.length_cons] at *; omega)
 have d4 : (true && ltI 0 (((rrows (v :: r) s.ex s.w).length - 0 : Nat) : Int)) = true := by rw [rrows_len,ltI_t (by simp only [List.length_cons]; omega)]; rfl
 have d5 : ltN 0 (rrows (v :: r) s.ex s.w).length = true := by rw [rrows_len]; exact ltN_t (by simp)
 cases up with
 | false => rw [if_pos (show (!false) = true from rfl)] at hr; cases hr
 | true =>
  rw [if_neg (show ¬ ((!true) = true) by decide)] at hr
  refine cF rfl (bnd h1 (cT rfl (cF rfl (bnd h3 (cT rfl (bnd h4 (cT rfl (bnd h5 (cT rfl (bnd h6 (cT rfl (bnd (h2 _ _ _) (cT rfl (cF (by show (!(v.chk s.inc (ws.getD (24 + s.c).toNat 0) (ws.getD 0 0) (ws.getD 1 0) == 0)) = false; rw [hr]; rfl) (bnd h7 (cT rfl (cT ?_ ?_)))))))))))))))))
  ·show leN ((s.w.map wr).length * 8) 140737488355328 = true
   exact leN_t (by rw [List.length_map]; omega)
  refine cT (by show (leI 0 (s.ex : Int) && ltI (s.ex : Int) ((PR.length : Nat) : Int)) = true; rw [leI_t (by omega),ltI_t (by omega)]; rfl) (cT (by show (ltN (0 + ((s.ex : Int)).toNat) PR.length && (isI .i64 (cellAt (lget PR (0 + ((s.ex : Int)).toNat)) 0) && isI .i64 (cellAt (lget PR (0 + ((s.ex : Int)).toNat)) 1))) = true; rw [hget,ltN_t (by omega)]; rfl) ?_)
  refine bnd (show _ = some [AV.ow (v.out x ws).isEmpty 23 1 ((v.out x ws).map wr),rfO (v.mem x ws) true] from ?_) ?_
  ·show ev 74 [_,_,.agg [.v (.int .i64 (avInt (cellAt (lget PR (0 + ((s.ex : Int)).toNat)) 0))),.v (.int .i64 (avInt (cellAt (lget PR (0 + ((s.ex : Int)).toNat)) 1)))]] = _
   rw [hget]; exact h8
  refine cT rfl (cT rfl (cT ?_ ?_))
  ·show leN (((s.w.map wr).length + ((v.out x ws).map wr).length) * 8) 140737488355328 = true
   exact leN_t (by rw [List.length_map,List.length_map]; omega)
  show cond (ltI (IntKind.i64.wrap ((s.ex : Int) + 1)) ((PR.length : Nat) : Int)) _ _ = _
  rw [e1]
  by_cases hlast : s.ex + 1 < (pcs v.at_ v.cnt).length
  ·rw [if_pos hlast]
   refine cT (ltI_t (by omega)) (cT d3 (cT d4 (cT d5 ?_)))
   refine ret_cong ?_
   show [_,_,_,_,AV.ob _ [_,_,_,AV.ow (List.isEmpty (rrows (v :: r) s.ex s.w)) _ 12 (List.set (rrows (v :: r) s.ex s.w) 0 [.v (.int .i64 v.kind),.v (.int .i64 v.node),.v (.int .i64 v.at_),.v (.int .i64 v.n),.v (.int .u64 v.old),.v (.int .u64 v.new),.lst v.wn 1 (v.ws.map wr),.v (.int .u64 v.key),.v (.int .i64 v.boot),.v (.int .i64 (IntKind.i64.wrap ((s.ex : Int) + 1))),.lst (((v.out x ws).map wr).isEmpty && (s.w.map wr).isEmpty) 1 (s.w.map wr ++ (v.out x ws).map wr),.v (.int .i64 0)])],_] = _
   rw [e1,List.isEmpty_map,List.isEmpty_map,← List.map_append]
   unfold pd
   rw [isEmpty_app,Bool.and_comm]
   rfl
  ·rw [if_neg hlast]
   refine cF (ltI_f (by omega)) (cT d1 (cT d2 ?_))
   refine ret_cong ?_
   show [AV.agg [_,.lst (((v.out x ws).map wr).isEmpty && (s.w.map wr).isEmpty) 1 (s.w.map wr ++ (v.out x ws).map wr)],_,_,_,_,_] = _
   rw [List.isEmpty_map,List.isEmpty_map,← List.map_append]
   rfl
end Go.Proofs.Ytkefjdmoikegbaa
