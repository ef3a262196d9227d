/- Statements. -/
import Derived.Test.YtnhahcomgeeobaaHold
set_option linter.all false
namespace Go.Proofs.Ytnhahcomgeeobaa
open Go.Ev
attribute [local congr] bind_first cond_first
structure Stm where
 k : Int
 key : Int
 last : Int
 c0 : Int
 c1 : Int
 c2 : Int
 col : Int
 v : Int
 wc : Int
 wo : Int
 wv : Int
 lim : Int
def Stm.row (s : Stm) : List AV := [.v (.int .i64 s.k),.v (.int .u32 s.key),.v (.int .u32 s.last),.v (.int .i64 s.c0),.v (.int .i64 s.c1),.v (.int .i64 s.c2),.v (.int .i64 s.col),.v (.int .i64 s.v),.v (.int .i64 s.wc),.v (.int .i64 s.wo),.v (.int .i64 s.wv),.v (.int .i64 s.lim)]
def Stm.T (s : Stm) : Prop := 1 ≤ s.wo∧s.wo ≤ 6∧0 ≤ s.wc∧s.wc < 3
def Stm.Z (s : Stm) : Prop := s.wc = 0∧s.wo = 0∧s.wv = 0
instance (s : Stm) : Decidable s.T := by unfold Stm.T; infer_instance
instance (s : Stm) : Decidable s.Z := by unfold Stm.Z; infer_instance
def Stm.V (s : Stm) : Prop := (1 ≤ s.k∧s.k ≤ 9)∧(1 ≤ s.key∧s.key ≤ 4294967294)∧((6 ≤ s.k∧s.k ≤ 8∧s.key ≤ s.last∧s.last ≤ 4294967294) ∨ (¬ (6 ≤ s.k∧s.k ≤ 8)∧s.last = 0)) ∧
 (s.k = 1 ∨ (s.c0 = 0∧s.c1 = 0∧s.c2 = 0))∧(((s.k = 2 ∨ s.k = 3 ∨ s.k = 8)∧0 ≤ s.col∧s.col < 3) ∨ (¬ (s.k = 2 ∨ s.k = 3 ∨ s.k = 8)∧s.col = 0))∧(s.k = 2 ∨ s.k = 3 ∨ s.v = 0) ∧
 ((s.k ≤ 5∧s.Z) ∨ (6 ≤ s.k∧s.k ≤ 8∧(s.Z ∨ s.T)) ∨ (s.k = 9∧s.T))∧((s.k = 6∧0 ≤ s.lim∧s.lim ≤ 64) ∨ (s.k ≠ 6∧s.lim = 0))
instance (s : Stm) : Decidable s.V := by unfold Stm.V; infer_instance
def Stm.valid (s : Stm) : Bool := decide s.V
def seq (a b : Stm) : Bool := (a.k == b.k) && ((a.key == b.key) && ((a.last == b.last) && ((a.c0 == b.c0) && ((a.c1 == b.c1) && ((a.c2 == b.c2) && ((a.col == b.col) && ((a.v == b.v) && ((a.wc == b.wc) && ((a.wo == b.wo) && ((a.wv == b.wv) && (a.lim == b.lim)))))))))))
theorem seq_iff (a b : Stm) : seq a b = true ↔ a = b := by
 obtain ⟨a0,a1,a2,a3,a4,a5,a6,a7,a8,a9,a10,a11⟩ := a
 obtain ⟨b0,b1,b2,b3,b4,b5,b6,b7,b8,b9,b10,b11⟩ := b
 simp only [seq,Bool.and_eq_true,beq_iff_eq,Stm.mk.injEq]
def stm0 (k : Int) : Stm := ⟨k,0,0,0,0,0,0,0,0,0,0,0⟩
def zer (s : Stm) : Bool := (s.wc == 0) && ((s.wo == 0) && (s.wv == 0))
def okp (p : Int) (s : Stm) : Bool :=
 if p = 0 then decide (1 ≤ s.key∧s.key ≤ 4294967294) else if p = 1 then decide (s.key ≤ s.last∧s.last ≤ 4294967294) else if p = 3 then decide (0 ≤ s.col∧s.col < 3) else if p = 5 then testB s.wc s.wo
 else if p = 6 then zer s || testB s.wc s.wo else if p = 7 then decide (0 ≤ s.lim∧s.lim ≤ 64) else true
def keep (p : Int) (s t : Stm) : Stm :=
 if p = 0 then { t with key := s.key } else if p = 1 then { t with last := s.last } else if p = 2 then { t with c0 := s.c0,c1 := s.c1,c2 := s.c2 } else if p = 3 then { t with col := s.col } else if p = 4 then { t with v := s.v }
 else if p = 5 then { t with wc := s.wc,wo := s.wo,wv := s.wv } else if p = 6 then { t with wc := s.wc,wo := s.wo,wv := s.wv } else if p = 7 then { t with lim := s.lim } else t
def okAll (s : Stm) : List Int → Bool
 | [] => true
 | p :: ps => okp p s && okAll s ps
def keepAll (s : Stm) : List Int → Stm → Stm
 | [],t => t
 | p :: ps,t => keepAll s ps (keep p s t)
def parts (k : Int) : List Int := if k = 1 then [0,2] else if k = 2 then [0,3,4] else if k = 3 then [0,3,4] else if k = 4 then [0] else if k = 5 then [0] else if k = 6 then [0,1,6,7] else if k = 7 then [0,1,6] else if k = 8 then [3,0,1,6] else if k = 9 then [0,5] else []
theorem kinds {k : Int} (h : 1 ≤ k∧k ≤ 9) : k = 1 ∨ k = 2 ∨ k = 3 ∨ k = 4 ∨ k = 5 ∨ k = 6 ∨ k = 7 ∨ k = 8 ∨ k = 9 := by omega
theorem valid_parts (s : Stm) (h : 1 ≤ s.k∧s.k ≤ 9) : (okAll s (parts s.k) && seq (keepAll s (parts s.k) (stm0 s.k)) s) = s.valid := by
 obtain ⟨k,key,last,c0,c1,c2,col,v,wc,wo,wv,lim⟩ := s
 rw [Bool.eq_iff_iff,Bool.and_eq_true,seq_iff]
 unfold Stm.valid
 rw [decide_eq_true_iff]
 simp only at h
 rcases kinds h with rfl | rfl | rfl | rfl | rfl | rfl | rfl | rfl | rfl <;>
 ·simp [parts,okAll,keepAll,keep,okp,stm0,Stm.V,Stm.T,Stm.Z,testB,zer]
  try omega
theorem s_kept (s t : Stm) (p : Int) : ev 74 [.agg s.row,.agg t.row,.v (.int .i64 p)] = some [.agg (keep p s t).row,.v (.bool (okp p s))] := by
 obtain ⟨k,key,last,c0,c1,c2,col,v,wc,wo,wv,lim⟩ := s
 obtain ⟨k',key',last',c0',c1',c2',col',v',wc',wo',wv',lim'⟩ := t
 unfold Stm.row
 rw [ev74,s_isColumn,s_isTest]
 by_cases h0 : p = 0
 ·subst h0
  simp only [keep,okp,if_true,beq_self_i,cond_true]
  by_cases h : 1 ≤ key
  ·rw [leI_t h,cond_true]; congr 5; unfold leI; simp [h]
  ·rw [leI_f (by omega),cond_false]; simp [h]
 rw [eqB_f h0,cond_false]
 by_cases h1 : p = 1
 ·subst h1
  simp only [keep,okp,if_neg h0,if_true,beq_self_i,cond_true]
  by_cases h : key ≤ last
  ·rw [leI_t h,cond_true]; congr 5; unfold leI; simp [h]
  ·rw [leI_f (by omega),cond_false]; simp [h]
 rw [eqB_f h1,cond_false]
 by_cases h2 : p = 2
 ·subst h2; rfl
 rw [eqB_f h2,cond_false]
 by_cases h3 : p = 3
 ·subst h3; rfl
 rw [eqB_f h3,cond_false]
 by_cases h4 : p = 4
 ·subst h4; rfl
 rw [eqB_f h4,cond_false]
 by_cases h5 : p = 5
 ·subst h5; rfl
 rw [eqB_f h5,cond_false]
 by_cases h6 : p = 6
 ·subst h6
  simp only [keep,okp,if_neg h0,if_neg h1,if_neg h2,if_neg h3,if_neg h4,if_neg h5,if_true,beq_self_i,cond_true,zer]
  cases ((wc == 0) && ((wo == 0) && (wv == 0))) <;> rfl
 rw [eqB_f h6,cond_false]
 by_cases h7 : p = 7
 ·subst h7
  simp only [keep,okp,if_neg h0,if_neg h1,if_neg h2,if_neg h3,if_neg h4,if_neg h5,if_neg h6,if_true,beq_self_i,cond_true]
  by_cases h : 0 ≤ lim
  ·rw [leI_t h,cond_true]; congr 5; unfold leI; simp [h]
  ·rw [leI_f (by omega),cond_false]; simp [h]
 rw [eqB_f h7,cond_false]
 simp only [keep,okp,if_neg h0,if_neg h1,if_neg h2,if_neg h3,if_neg h4,if_neg h5,if_neg h6,if_neg h7]
def iRow (p : Int) : List AV := [.v (.int .i64 p)]
theorem iRow_get (ps : List Int) (i : Nat) (h : i < ps.length) : lget (ps.map iRow) i = [.v (.int .i64 (ps.getD i 0))] := lget_mapD iRow ps 0 i h
theorem drop_getD (ps : List Int) (i : Nat) (h : i < ps.length) : ps.drop i = ps.getD i 0 :: ps.drop (i + 1) := by
 rw [List.drop_eq_getElem_cons h]; simp [h]
theorem shS (s : Stm) : (Ev.isAgg 12 (AV.agg s.row) && (isI .i64 (cellAt s.row 0) && (isI .u32 (cellAt s.row 1) && (isI .u32 (cellAt s.row 2) && (isI .i64 (cellAt s.row 3) && (isI .i64 (cellAt s.row 4) && (isI .i64 (cellAt s.row 5) && (isI .i64 (cellAt s.row 6) && (isI .i64 (cellAt s.row 7) && (isI .i64 (cellAt s.row 8) && (isI .i64 (cellAt s.row 9) && (isI .i64 (cellAt s.row 10) && isI .i64 (cellAt s.row 11))))))))))))) = true := rfl
def vSt (s t : Stm) : St := ⟨[(1,.ptr 0 0 0),(3,.ptr 1 0 0)],[⟨1,52,12,true,[s.row]⟩,⟨1,52,12,true,[t.row]⟩]⟩
theorem l_valid (s : Stm) (n : Bool) (ps : List Int) (hl : ps.length ≤ 1000000) : ∀ (k i : Nat) (t : Stm),i + k = ps.length →
  lp 61 0 0 ⟨[(1,.ptr 0 0 0),(3,.ptr 1 0 0),(23,.lst n 1 (ps.map iRow)),(24,.v (.int .i64 ((ps.length : Nat) : Int))),(25,.v (.int .i64 (i : Int)))],[⟨1,52,12,true,[s.row]⟩,⟨1,52,12,true,[t.row]⟩]⟩ =
   some (bif okAll s (ps.drop i) then ⟨some 0,vSt s (keepAll s (ps.drop i) t),[]⟩ else ⟨none,⟨[],[]⟩,[.v (.bool false)]⟩)
 | 0,i,t,hi => by
  rw [List.drop_of_length_le (by omega)]
  refine (lp61_0 _ _ _ _ _ _ _ _ _ _ _ _ _ _ _ _ _ _ _ _ _ _ _ _ _ _ _ _).trans ?_
  rw [ltI_f (by omega)]; rfl
 | k + 1,i,t,hi => by
  have e1 : IntKind.i64.wrap ((i : Int) + 1) = ((i + 1 : Nat) : Int) := by rw [w_i64]; omega
  have ih := l_valid s n ps hl k (i + 1) (keep (ps.getD i 0) s t) (by omega)
  have hk := s_kept s t (ps.getD i 0)
  rw [drop_getD ps i (by omega)]
  refine (lp61_0 _ _ _ _ _ _ _ _ _ _ _ _ _ _ _ _ _ _ _ _ _ _ _ _ _ _ _ _).trans ?_
  rw [ltI_t (show (i : Int) < _ by omega),leI_t (show (0 : Int) ≤ (i : Int) by omega),List.length_map,ltI_t (show (i : Int) < _ by omega),Int.toNat_natCast,iRow_get ps i (by omega),e1]
  simp only [cellAt_zero,isI_v,avInt_v,Bool.and_self,cond_true]
  refine bnd hk ?_
  simp only [cellAt_zero,cellAt_succ,isB_v,avBool_v,obCells_agg]
  rw [shS]
  simp only [cond_true,okAll,keepAll]
  cases okp (ps.getD i 0) s with
  | false => rfl
  | true => exact ih
theorem s_Valid (s : Stm) : ev 61 [.agg s.row] = some [.v (.bool s.valid)] := by
 refine (ev61 _ _ _ _ _ _ _ _ _ _ _ _).trans ?_
 have hlow : s.k < 1 ∨ 9 < s.k → s.valid = false := fun h => by
  unfold Stm.valid
  rw [decide_eq_false_iff_not]
  intro h2; have := h2.1; omega
 by_cases h1 : s.k < 1
 ·rw [ltI_t h1,hlow (.inl h1)]; rfl
 rw [ltI_f (by omega),cond_false]
 by_cases h9 : 9 < s.k
 ·rw [ltI_t h9,hlow (.inr h9)]; rfl
 rw [ltI_f (by omega),cond_false,ev62]
 have h : 1 ≤ s.k∧s.k ≤ 9 := by omega
 rw [← valid_parts s h]
 have hgo : ∀ (k : Int) (ps : List Int),s.k = k → parts k = ps → ps.length ≤ 1000000 → ((lp 61 0 0 ⟨[(1,.ptr 0 0 0),(3,.ptr 1 0 0),(23,.lst false 1 (ps.map iRow)),(24,.v (.int .i64 ((ps.length : Nat) : Int))),(25,.v (.int .i64 ((0 : Nat) : Int)))],[⟨1,52,12,true,[s.row]⟩,⟨1,52,12,true,[(stm0 k).row]⟩]⟩).bind fun r =>
   cond (isEx 0 r) (cond (likeStG (vSt s (stm0 k)) r.st) (some [.v (.bool (((avInt (cellAt (lget (blAt r.st.bl 1).xs 0) 0)) == (avInt (cellAt (lget (blAt r.st.bl 0).xs 0) 0))) && (((avInt (cellAt (lget (blAt r.st.bl 1).xs 0) 1)) == (avInt (cellAt (lget (blAt r.st.bl 0).xs 0) 1))) && (((avInt (cellAt (lget (blAt r.st.bl 1).xs 0) 2)) == (avInt (cellAt (lget (blAt r.st.bl 0).xs 0) 2))) && (((avInt (cellAt (lget (blAt r.st.bl 1).xs 0) 3)) == (avInt (cellAt (lget (blAt r.st.bl 0).xs 0) 3))) && (((avInt (cellAt (lget (blAt r.st.bl 1).xs 0) 4)) == (avInt (cellAt (lget (blAt r.st.bl 0).xs 0) 4))) && (((avInt (cellAt (lget (blAt r.st.bl 1).xs 0) 5)) == (avInt (cellAt (lget (blAt r.st.bl 0).xs 0) 5))) && (((avInt (cellAt (lget (blAt r.st.bl 1).xs 0) 6)) == (avInt (cellAt (lget (blAt r.st.bl 0).xs 0) 6))) && (((avInt (cellAt (lget (blAt r.st.bl 1).xs 0) 7)) == (avInt (cellAt (lget (blAt r.st.bl 0).xs 0) 7))) && (((avInt (cellAt (lget (blAt r.st.bl 1).xs 0) 8)) == (avInt (cellAt (lget (blAt r.st.bl 0).xs 0) 8))) && (((avInt (cellAt (lget (blAt r.st.bl 1).xs 0) 9)) == (avInt (cellAt (lget (blAt r.st.bl 0).xs 0) 9))) && (((avInt (cellAt (lget (blAt r.st.bl 1).xs 0) 10)) == (avInt (cellAt (lget (blAt r.st.bl 0).xs 0) 10))) && ((avInt (cellAt (lget (blAt r.st.bl 1).xs 0) 11)) == (avInt (cellAt (lget (blAt r.st.bl 0).xs 0) 11)))))))))))))))]) none) (cond (isRt r) (some r.outs) none)) =
    some [.v (.bool (okAll s (parts s.k) && seq (keepAll s (parts s.k) (stm0 s.k)) s))] := fun k ps hk hps hl => by
  rw [hk,hps]
  refine bnd (l_valid s false ps hl ps.length 0 (stm0 k) (by omega)) ?_
  rw [List.drop_zero]
  cases okAll s ps <;> rfl
 clear hlow h1 h9
 obtain ⟨k0,key,last,c0,c1,c2,col,v,wc,wo,wv,lim⟩ := s
 simp only at h
 rcases kinds h with rfl | rfl | rfl | rfl | rfl | rfl | rfl | rfl | rfl
 ·exact hgo 1 [0,2] rfl rfl (by decide)
 ·exact hgo 2 [0,3,4] rfl rfl (by decide)
 ·exact hgo 3 [0,3,4] rfl rfl (by decide)
 ·exact hgo 4 [0] rfl rfl (by decide)
 ·exact hgo 5 [0] rfl rfl (by decide)
 ·exact hgo 6 [0,1,6,7] rfl rfl (by decide)
 ·exact hgo 7 [0,1,6] rfl rfl (by decide)
 ·exact hgo 8 [3,0,1,6] rfl rfl (by decide)
 ·exact hgo 9 [0,5] rfl rfl (by decide)
def plainS (s : Stm) : Stm := if s.k = 1 then ({ stm0 1 with key := s.key,c0 := s.c0,c1 := s.c1,c2 := s.c2 } : Stm) else if s.k = 2 then { stm0 2 with key := s.key,col := s.col,v := s.v } else if s.k = 3 then { stm0 3 with key := s.key,col := s.col,v := s.v } else if s.k = 6 then { stm0 6 with key := s.key,last := s.last,wc := s.wc,wo := s.wo,wv := s.wv,lim := s.lim } else if s.k = 7 then { stm0 7 with key := s.key,last := s.last,wc := s.wc,wo := s.wo,wv := s.wv } else if s.k = 8 then { stm0 8 with key := s.key,last := s.last,wc := s.wc,wo := s.wo,wv := s.wv,col := s.col } else if s.k = 9 then { stm0 9 with key := s.key,wc := s.wc,wo := s.wo,wv := s.wv } else { stm0 s.k with key := s.key }
theorem plain_old (s : Stm) : ev 60 [.agg s.row] = some [.agg (plainS s).row] := by
 unfold plainS
 obtain ⟨k,key,last,c0,c1,c2,col,v,wc,wo,wv,lim⟩ := s
 refine (ev60 _ _ _ _ _ _ _ _ _ _ _ _).trans ?_
 by_cases h1 : k = 1
 ·subst h1; rfl
 simp only [eqB_f h1,if_neg h1,cond_false]
 by_cases h2 : k = 2
 ·subst h2; rfl
 simp only [eqB_f h2,if_neg h2,cond_false]
 by_cases h3 : k = 3
 ·subst h3; rfl
 simp only [eqB_f h3,if_neg h3,cond_false]
 by_cases h6 : k = 6
 ·subst h6; rfl
 simp only [eqB_f h6,if_neg h6,cond_false]
 by_cases h7 : k = 7
 ·subst h7; rfl
 simp only [eqB_f h7,if_neg h7,cond_false]
 by_cases h8 : k = 8
 ·subst h8; rfl
 simp only [eqB_f h8,if_neg h8,cond_false]
 by_cases h9 : k = 9
 ·subst h9; rfl
 simp only [eqB_f h9,if_neg h9,cond_false]
 rfl
theorem cb_ (c a b : Bool) : cond c (some [AV.v (.bool a)]) (some [AV.v (.bool b)]) = some [AV.v (.bool ((c && a) || (!c && b)))] := by cases c <;> simp
theorem s_VStatement (s : Stm) : ev 45 [.agg s.row] = some [.v (.bool s.valid)] := by
 refine (ev45 _ _ _ _ _ _ _ _ _ _ _ _).trans ?_
 have hp := plain_old s
 obtain ⟨k,key,last,c0,c1,c2,col,v,wc,wo,wv,lim⟩ := s
 simp only [s_in]
 unfold Stm.valid
 by_cases hk : ¬ (1 ≤ k∧k ≤ 9)
 ·have hv : decide (Stm.V ⟨k,key,last,c0,c1,c2,col,v,wc,wo,wv,lim⟩) = false := decide_eq_false fun h => hk h.1
  rw [decide_eq_false hk,hv]; rfl
 replace hk : 1 ≤ k∧k ≤ 9 := by omega
 simp -implicitDefEqProofs only [some_bind',obCells_agg,obCells_ob,isOb_ok,isL_ok,isOw_ok,avXs_lst,avXs_ow,avNil_lst,avNil_ow,avNil_sl,avOff_sl,avCut_sl,isAgg_agg,nat_beq_self,List.length_cons,List.length_nil,Nat.reduceAdd,Nat.zero_add,isI_v,isB_v,isS_v,avInt_v,avBool_v,avStr_v,cellAt_zero,cellAt_succ,lget_zero,lget_succ,frAt_zero,frAt_succ,blAt_zero,blAt_succ,isEx_ok,isEx_ne,isEx_none,isRt_some,isRt_none,like_st,likeFG_nil,likeFG_cons,likeBG_nil,likeBG_obj,likeBG_row,likeSG_nil,likeSG_cons,likeT_nil,likeS_nil,isNP_nil,isNP_ob,likeT_ep,isEp_ep,epCells_ep,likeT_agg,likeT_int,likeT_bool,likeT_str,likeT_lst,likeT_sl0,likeT_sl1,likeT_ptr,likeS_int,likeS_bool,likeS_str,likeS_lst,likeS_sl0,likeS_sl1,likeS_ptr,isPtr_ok,isSl_0,isSl_1,beq_self_b,Bool.and_self,Bool.and_true,Bool.true_and,Bool.and_false,Bool.false_and,cond_true,cond_false,Bool.not_true,Bool.not_false,decide_eq_true hk]
 by_cases hkey : ¬ (1 ≤ key∧key ≤ 4294967294)
 ·have hv : decide (Stm.V ⟨k,key,last,c0,c1,c2,col,v,wc,wo,wv,lim⟩) = false := decide_eq_false fun h => hkey h.2.1
  rw [hv]
  by_cases h1 : key < 1
  ·rw [ltI_t h1]; rfl
  ·rw [ltI_f (by omega),ltI_t (by omega)]; rfl
 replace hkey : 1 ≤ key∧key ≤ 4294967294 := by omega
 rw [ltI_f (by omega),ltI_f (by omega)]
 simp -implicitDefEqProofs only [some_bind',obCells_agg,obCells_ob,isOb_ok,isL_ok,isOw_ok,avXs_lst,avXs_ow,avNil_lst,avNil_ow,avNil_sl,avOff_sl,avCut_sl,isAgg_agg,nat_beq_self,List.length_cons,List.length_nil,Nat.reduceAdd,Nat.zero_add,isI_v,isB_v,isS_v,avInt_v,avBool_v,avStr_v,cellAt_zero,cellAt_succ,lget_zero,lget_succ,frAt_zero,frAt_succ,blAt_zero,blAt_succ,isEx_ok,isEx_ne,isEx_none,isRt_some,isRt_none,like_st,likeFG_nil,likeFG_cons,likeBG_nil,likeBG_obj,likeBG_row,likeSG_nil,likeSG_cons,likeT_nil,likeS_nil,isNP_nil,isNP_ob,likeT_ep,isEp_ep,epCells_ep,likeT_agg,likeT_int,likeT_bool,likeT_str,likeT_lst,likeT_sl0,likeT_sl1,likeT_ptr,likeS_int,likeS_bool,likeS_str,likeS_lst,likeS_sl0,likeS_sl1,likeS_ptr,isPtr_ok,isSl_0,isSl_1,beq_self_b,Bool.and_self,Bool.and_true,Bool.true_and,Bool.and_false,Bool.false_and,cond_true,cond_false,Bool.not_true,Bool.not_false]
 refine bnd hp ?_
 simp only [cellAt_zero,obCells_agg]
 rw [shS]
 simp only [cond_true]
 rcases kinds hk with rfl | rfl | rfl | rfl | rfl | rfl | rfl | rfl | rfl <;>
 ·simp only [plainS,Int.reduceEq,if_true,if_false,stm0,Stm.row,cellAt_zero,cellAt_succ,obCells_agg,avInt_v,isB_v,avBool_v,beq_self_i,Bool.true_and,Bool.and_true,cb_,cond_true,cond_false,Option.bind_some,ltI_f,eqB_f,ne_eq,not_false_eq_true]
  refine congrArg (fun b => some [AV.v (Value.bool b)]) ?_
  rw [Bool.eq_iff_iff]
  simp only [Stm.V,Stm.T,Stm.Z,ltI,leI,Bool.or_eq_true,Bool.and_eq_true,Bool.not_eq_true',Bool.not_eq_true,Bool.and_eq_false_iff,Bool.or_eq_false_iff,decide_eq_true_eq,decide_eq_false_iff_not,beq_iff_eq,beq_eq_false_iff_ne,Bool.not_not,Bool.not_eq_false',ne_eq,Bool.false_eq_true,Bool.true_eq_false,reduceCtorEq,decide_true,decide_false,Bool.not_true,Bool.not_false,Bool.false_and,Bool.true_and,Bool.false_or,Bool.true_or,and_false,false_or,or_false,and_true,true_and,Int.reduceLE,Int.reduceEq,not_true_eq_false,not_false_eq_true,false_and,true_or,or_true,ne_eq]
  omega
theorem s_Writes (s : Stm) : ev 48 [.agg s.row] = some [.v (.bool (decide (1 ≤ s.k∧s.k ≤ 4)))] := by
 refine (ev48 _ _ _ _ _ _ _ _ _ _ _ _).trans ?_
 rw [← in_dec]
 cases leI 1 s.k <;> rfl
end Go.Proofs.Ytnhahcomgeeobaa
