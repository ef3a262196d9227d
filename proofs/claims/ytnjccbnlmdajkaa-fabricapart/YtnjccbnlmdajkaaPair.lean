/- Verbs and the queue pair. -/
import Derived.Test.YtnjccbnlmdajkaaPiecesS
import Derived.Test.YtnjccbnlmdajkaaEqR
set_option linter.all false
namespace Go.Proofs.Ytnjccbnlmdajkaa
open Go.Ev Go.RowKit
attribute [local congr] bind_first cond_first
set_option maxRecDepth 10000
theorem s_check (b : Bool) (xs : List (List AV)) (dn : Bool) (a c : Int) (hl : xs.length ≤ 100000) (ha : -9223372036854775808 ≤ a∧a ≤ 9223372036854775807) :
  ev 81 [.ep [.lst b 1 xs,.v (.bool dn)] 0,.v (.int .i64 a),.v (.int .i64 c)] = some [.v (.int .i64 (acc xs.length (!dn) a c))] := by
 rw [ev81]
 by_cases h1 : c < 1
 ·rw [ltI_t h1,acc_bad (by omega)]; rfl
 rw [ltI_f (by omega)]
 by_cases h2 : a < 0
 ·rw [ltI_t h2,acc_bad (by omega)]; rfl
 rw [ltI_f (by omega)]
 by_cases h3 : (xs.length : Int) ≤ a
 ·rw [leI_t h3,acc_bad (by omega)]; rfl
 rw [leI_f (by omega),show IntKind.i64.wrap ((xs.length : Int) - a) = (xs.length : Int) - a by rw [w_i64]; omega]
 by_cases h4 : (xs.length : Int) - a < c
 ·rw [ltI_t h4,acc_bad (by omega)]; rfl
 rw [ltI_f (by omega),acc_ok (by omega) (by omega) (by omega)]
 cases dn <;> rfl
theorem s_CloneW (b : Bool) (ws : List Int) (hl : ws.length ≤ 100000) (hb : b = true → ws = []) : ev 68 [.lst b 1 (ws.map wr)] = some [.ow b 47 1 (ws.map wr)] := by
 rw [ev68]
 cases b with
 | true => rw [hb rfl]; rfl
 | false =>
  rw [leN_t (show (0 + (ws.map wr).length) * 8 ≤ 140737488355328 by rw [List.length_map]; omega),Bool.and_false]
  rfl
theorem s_Read (ws : List Int) (dn : Bool) (a c : Int) (hl : ws.length ≤ 100000) (ha : i64ok a) :
  ev 73 [ndP ws dn,.v (.int .i64 a),.v (.int .i64 c)] =
   some (if acc ws.length (!dn) a c = 0 then [.ow false 47 1 (((ws.drop a.toNat).take c.toNat).map wr),.v (.int .i64 0)] else [.ow true 47 1 [],.v (.int .i64 (acc ws.length (!dn) a c))]) := by
 have h1 := s_check false (ws.map wr) dn a c (by rw [List.length_map]; exact hl) ha
 rw [List.length_map] at h1
 rw [ev73]
 simp -implicitDefEqProofs only [some_bind',obCells_agg,obCells_ob,isOb_ok,isL_ok,isOw_ok,avXs_lst,avXs_ow,avNil_lst,avNil_ow,avNil_sl,avOff_sl,avCut_sl,isAgg_agg,nat_beq_self,List.length_cons,List.length_nil,Nat.reduceAdd,Nat.zero_add,isI_v,isB_v,isS_v,avInt_v,avBool_v,avStr_v,cellAt_zero,cellAt_succ,lget_zero,lget_succ,frAt_zero,frAt_succ,blAt_zero,blAt_succ,isEx_ok,isEx_ne,isEx_none,isRt_some,isRt_none,like_st,likeFG_nil,likeFG_cons,likeBG_nil,likeBG_obj,likeBG_row,likeSG_nil,likeSG_cons,likeT_nil,likeS_nil,isNP_nil,isNP_ob,likeT_ep,isEp_ep,epCells_ep,likeT_agg,likeT_int,likeT_bool,likeT_str,likeT_lst,likeT_sl0,likeT_sl1,likeT_ptr,likeS_int,likeS_bool,likeS_str,likeS_lst,likeS_sl0,likeS_sl1,likeS_ptr,isPtr_ok,isSl_0,isSl_1,beq_self_b,Bool.and_self,Bool.and_true,Bool.true_and,Bool.and_false,Bool.false_and,cond_true,cond_false,Bool.not_true,Bool.not_false,h1]
 by_cases h : acc ws.length (!dn) a c = 0
 ·obtain ⟨g1,g2,g3,_⟩ := acc_zero.1 h
  have e1 : IntKind.i64.wrap (a + c) = a + c := by rw [w_i64]; omega
  have e2 : (a + c).toNat - a.toNat = c.toNat := by omega
  have e3 : List.take c.toNat (List.drop a.toNat (ws.map wr)) = ((ws.drop a.toNat).take c.toNat).map wr := by rw [List.map_take,List.map_drop]
  have c1 := s_CloneW false ((ws.drop a.toNat).take c.toNat) (by simp only [List.length_take,List.length_drop]; omega) (fun h => by cases h)
  rw [if_pos h,h,e1,leI_t g2,leI_t (show a ≤ a + c by omega),List.length_map,leI_t g3,e2,e3]
  simp -implicitDefEqProofs only [some_bind',obCells_agg,obCells_ob,isOb_ok,isL_ok,isOw_ok,avXs_lst,avXs_ow,avNil_lst,avNil_ow,avNil_sl,avOff_sl,avCut_sl,isAgg_agg,nat_beq_self,List.length_cons,List.length_nil,Nat.reduceAdd,Nat.zero_add,isI_v,isB_v,isS_v,avInt_v,avBool_v,avStr_v,cellAt_zero,cellAt_succ,lget_zero,lget_succ,frAt_zero,frAt_succ,blAt_zero,blAt_succ,isEx_ok,isEx_ne,isEx_none,isRt_some,isRt_none,like_st,likeFG_nil,likeFG_cons,likeBG_nil,likeBG_obj,likeBG_row,likeSG_nil,likeSG_cons,likeT_nil,likeS_nil,isNP_nil,isNP_ob,likeT_ep,isEp_ep,epCells_ep,likeT_agg,likeT_int,likeT_bool,likeT_str,likeT_lst,likeT_sl0,likeT_sl1,likeT_ptr,likeS_int,likeS_bool,likeS_str,likeS_lst,likeS_sl0,likeS_sl1,likeS_ptr,isPtr_ok,isSl_0,isSl_1,beq_self_b,Bool.and_self,Bool.and_true,Bool.true_and,Bool.and_false,Bool.false_and,cond_true,cond_false,Bool.not_true,Bool.not_false,c1,beq_self_i]
 ·rw [if_neg h,beq_eq_false_iff_ne.2 h]; rfl
theorem s_Write (ws : List Int) (dn : Bool) (a : Int) (b : Bool) (ys : List Int) (hl : ws.length ≤ 100000) (ha : i64ok a) :
  ev 74 [ndO ws dn,.v (.int .i64 a),.lst b 1 (ys.map wr)] =
   some [.v (.int .i64 (acc ws.length (!dn) a ys.length)),ndO (if acc ws.length (!dn) a ys.length = 0 then splice ws a.toNat ys else ws) dn] := by
 have h1 := s_check false (ws.map wr) dn a ys.length (by rw [List.length_map]; exact hl) ha
 rw [List.length_map] at h1
 rw [ev74]
 simp -implicitDefEqProofs only [some_bind',obCells_agg,obCells_ob,isOb_ok,isL_ok,isOw_ok,avXs_lst,avXs_ow,avNil_lst,avNil_ow,avNil_sl,avOff_sl,avCut_sl,isAgg_agg,nat_beq_self,List.length_cons,List.length_nil,Nat.reduceAdd,Nat.zero_add,isI_v,isB_v,isS_v,avInt_v,avBool_v,avStr_v,cellAt_zero,cellAt_succ,lget_zero,lget_succ,frAt_zero,frAt_succ,blAt_zero,blAt_succ,isEx_ok,isEx_ne,isEx_none,isRt_some,isRt_none,like_st,likeFG_nil,likeFG_cons,likeBG_nil,likeBG_obj,likeBG_row,likeSG_nil,likeSG_cons,likeT_nil,likeS_nil,isNP_nil,isNP_ob,likeT_ep,isEp_ep,epCells_ep,likeT_agg,likeT_int,likeT_bool,likeT_str,likeT_lst,likeT_sl0,likeT_sl1,likeT_ptr,likeS_int,likeS_bool,likeS_str,likeS_lst,likeS_sl0,likeS_sl1,likeS_ptr,isPtr_ok,isSl_0,isSl_1,beq_self_b,Bool.and_self,Bool.and_true,Bool.true_and,Bool.and_false,Bool.false_and,cond_true,cond_false,Bool.not_true,Bool.not_false,List.length_map,h1]
 by_cases h : acc ws.length (!dn) a ys.length = 0
 ·obtain ⟨g1,g2,g3,_⟩ := acc_zero.1 h
  rw [if_pos h,h,leI_t g2,leI_t (show a ≤ (((ws.length - 0 : Nat)) : Int) by omega)]
  have e1 : min ys.length (ws.length - a.toNat) = ys.length := by omega
  rw [e1,← List.map_take,← List.map_take,← List.map_drop,← List.map_append,← List.map_append,List.take_length]
  rfl
 ·rw [if_neg h,beq_eq_false_iff_ne.2 h]; rfl
theorem s_Cas (ws : List Int) (dn : Bool) (a old new : Int) (hl : ws.length ≤ 100000) (ha : i64ok a) :
  ev 75 [ndO ws dn,.v (.int .i64 a),.v (.int .u64 old),.v (.int .u64 new)] =
   some (if acc ws.length (!dn) a 1 = 0 then [.v (.int .u64 (ws.getD a.toNat 0)),.v (.int .i64 0),ndO (if ws.getD a.toNat 0 = old then ws.set a.toNat new else ws) dn] else [.v (.int .u64 0),.v (.int .i64 (acc ws.length (!dn) a 1)),ndO ws dn]) := by
 have h1 := s_check false (ws.map wr) dn a 1 (by rw [List.length_map]; exact hl) ha
 rw [List.length_map] at h1
 rw [ev75]
 simp -implicitDefEqProofs only [some_bind',obCells_agg,obCells_ob,isOb_ok,isL_ok,isOw_ok,avXs_lst,avXs_ow,avNil_lst,avNil_ow,avNil_sl,avOff_sl,avCut_sl,isAgg_agg,nat_beq_self,List.length_cons,List.length_nil,Nat.reduceAdd,Nat.zero_add,isI_v,isB_v,isS_v,avInt_v,avBool_v,avStr_v,cellAt_zero,cellAt_succ,lget_zero,lget_succ,frAt_zero,frAt_succ,blAt_zero,blAt_succ,isEx_ok,isEx_ne,isEx_none,isRt_some,isRt_none,like_st,likeFG_nil,likeFG_cons,likeBG_nil,likeBG_obj,likeBG_row,likeSG_nil,likeSG_cons,likeT_nil,likeS_nil,isNP_nil,isNP_ob,likeT_ep,isEp_ep,epCells_ep,likeT_agg,likeT_int,likeT_bool,likeT_str,likeT_lst,likeT_sl0,likeT_sl1,likeT_ptr,likeS_int,likeS_bool,likeS_str,likeS_lst,likeS_sl0,likeS_sl1,likeS_ptr,isPtr_ok,isSl_0,isSl_1,beq_self_b,Bool.and_self,Bool.and_true,Bool.true_and,Bool.and_false,Bool.false_and,cond_true,cond_false,Bool.not_true,Bool.not_false,h1]
 by_cases h : acc ws.length (!dn) a 1 = 0
 ·obtain ⟨g1,g2,g3,_⟩ := acc_zero.1 h
  have hlt : a.toNat < ws.length := by omega
  have e1 : ltI a (((ws.map wr).length - 0 : Nat) : Int) = true := ltI_t (by rw [List.length_map]; omega)
  have e2 : ltN a.toNat (ws.map wr).length = true := ltN_t (by rw [List.length_map]; omega)
  rw [if_pos h,h,leI_t g2,e1,e2,get_wr ws _ hlt,set_wr]
  simp -implicitDefEqProofs only [some_bind',obCells_agg,obCells_ob,isOb_ok,isL_ok,isOw_ok,avXs_lst,avXs_ow,avNil_lst,avNil_ow,avNil_sl,avOff_sl,avCut_sl,isAgg_agg,nat_beq_self,List.length_cons,List.length_nil,Nat.reduceAdd,Nat.zero_add,isI_v,isB_v,isS_v,avInt_v,avBool_v,avStr_v,cellAt_zero,cellAt_succ,lget_zero,lget_succ,frAt_zero,frAt_succ,blAt_zero,blAt_succ,isEx_ok,isEx_ne,isEx_none,isRt_some,isRt_none,like_st,likeFG_nil,likeFG_cons,likeBG_nil,likeBG_obj,likeBG_row,likeSG_nil,likeSG_cons,likeT_nil,likeS_nil,isNP_nil,isNP_ob,likeT_ep,isEp_ep,epCells_ep,likeT_agg,likeT_int,likeT_bool,likeT_str,likeT_lst,likeT_sl0,likeT_sl1,likeT_ptr,likeS_int,likeS_bool,likeS_str,likeS_lst,likeS_sl0,likeS_sl1,likeS_ptr,isPtr_ok,isSl_0,isSl_1,beq_self_b,Bool.and_self,Bool.and_true,Bool.true_and,Bool.and_false,Bool.false_and,cond_true,cond_false,Bool.not_true,Bool.not_false,wr_eq,beq_self_i]
  by_cases hx : ws.getD a.toNat 0 = old
  ·rw [if_pos hx,hx,beq_self_i]; rfl
  ·rw [if_neg hx,beq_eq_false_iff_ne.2 hx]; rfl
 ·rw [if_neg h,beq_eq_false_iff_ne.2 h]; rfl
theorem s_Add (ws : List Int) (dn : Bool) (a by_ : Int) (hl : ws.length ≤ 100000) (ha : i64ok a) :
  ev 76 [ndO ws dn,.v (.int .i64 a),.v (.int .u64 by_)] =
   some (if acc ws.length (!dn) a 1 = 0 then [.v (.int .u64 (ws.getD a.toNat 0)),.v (.int .i64 0),ndO (ws.set a.toNat (IntKind.u64.wrap (ws.getD a.toNat 0 + by_))) dn] else [.v (.int .u64 0),.v (.int .i64 (acc ws.length (!dn) a 1)),ndO ws dn]) := by
 have h1 := s_check false (ws.map wr) dn a 1 (by rw [List.length_map]; exact hl) ha
 rw [List.length_map] at h1
 rw [ev76]
 simp -implicitDefEqProofs only [some_bind',obCells_agg,obCells_ob,isOb_ok,isL_ok,isOw_ok,avXs_lst,avXs_ow,avNil_lst,avNil_ow,avNil_sl,avOff_sl,avCut_sl,isAgg_agg,nat_beq_self,List.length_cons,List.length_nil,Nat.reduceAdd,Nat.zero_add,isI_v,isB_v,isS_v,avInt_v,avBool_v,avStr_v,cellAt_zero,cellAt_succ,lget_zero,lget_succ,frAt_zero,frAt_succ,blAt_zero,blAt_succ,isEx_ok,isEx_ne,isEx_none,isRt_some,isRt_none,like_st,likeFG_nil,likeFG_cons,likeBG_nil,likeBG_obj,likeBG_row,likeSG_nil,likeSG_cons,likeT_nil,likeS_nil,isNP_nil,isNP_ob,likeT_ep,isEp_ep,epCells_ep,likeT_agg,likeT_int,likeT_bool,likeT_str,likeT_lst,likeT_sl0,likeT_sl1,likeT_ptr,likeS_int,likeS_bool,likeS_str,likeS_lst,likeS_sl0,likeS_sl1,likeS_ptr,isPtr_ok,isSl_0,isSl_1,beq_self_b,Bool.and_self,Bool.and_true,Bool.true_and,Bool.and_false,Bool.false_and,cond_true,cond_false,Bool.not_true,Bool.not_false,h1]
 by_cases h : acc ws.length (!dn) a 1 = 0
 ·obtain ⟨g1,g2,g3,_⟩ := acc_zero.1 h
  have hlt : a.toNat < ws.length := by omega
  have e1 : ltI a (((ws.map wr).length - 0 : Nat) : Int) = true := ltI_t (by rw [List.length_map]; omega)
  have e2 : ltN a.toNat (ws.map wr).length = true := ltN_t (by rw [List.length_map]; omega)
  rw [if_pos h,h,leI_t g2,e1,e2,get_wr ws _ hlt,set_wr]
  rfl
 ·rw [if_neg h,beq_eq_false_iff_ne.2 h]; rfl
theorem s_Up (b : Bool) (xs : List (List AV)) (dn : Bool) : ev 11 [.ep [.lst b 1 xs,.v (.bool dn)] 0] = some [.v (.bool (!dn))] := by rw [ev11]
theorem s_Lines (b : Bool) (xs : List (List AV)) (dn : Bool) (h : xs.length ≤ 100000) : ev 10 [.ep [.lst b 1 xs,.v (.bool dn)] 0] = some [.v (.int .i64 (xs.length / 8 : Nat))] := by
 rw [ev10,tdiv_pos _ _ (by omega),w_i64]; exact int1 (by omega)
theorem cT {α : Type} {c : Bool} {A B : α} {r : α} (h : c = true) (h2 : A = r) : cond c A B = r := by rw [h]; exact h2
theorem cF {α : Type} {c : Bool} {A B : α} {r : α} (h : c = false) (h2 : B = r) : cond c A B = r := by rw [h]; exact h2
theorem beq_t {a b : Int} (h : a = b) : (a == b) = true := by rw [h]; exact beq_self_i b
theorem beq_f {a b : Int} (h : a ≠ b) : (a == b) = false := beq_eq_false_iff_ne.2 h
structure Vb where
 kind : Int
 node : Int
 at_ : Int
 n : Int
 old : Int
 new : Int
 wn : Bool
 ws : List Int
 key : Int
 boot : Int
def Vb.row (v : Vb) : List AV := [.v (.int .i64 v.kind),.v (.int .i64 v.node),.v (.int .i64 v.at_),.v (.int .i64 v.n),.v (.int .u64 v.old),.v (.int .u64 v.new),.lst v.wn 1 (v.ws.map wr),.v (.int .u64 v.key),.v (.int .i64 v.boot)]
def Vb.cnt (v : Vb) : Int := vcnt v.kind v.n v.ws.length
def Vb.lim (v : Vb) : Int := if v.kind = 1 then 3 else 2
def Vb.lo (v : Vb) : Int := v.at_ / 8
def Vb.hi (v : Vb) : Int := (v.at_ + v.cnt - 1) / 8
def Vb.In (v : Vb) (lines : Int) : Prop := 1 ≤ lines∧lines ≤ 256∧0 ≤ v.node∧v.node < 5∧0 ≤ v.at_∧v.at_ < lines * 8∧v.cnt ≤ 1024∧v.hi < lines∧v.hi - v.lo < 128
instance (v : Vb) (lines : Int) : Decidable (v.In lines) := by unfold Vb.In; infer_instance
def Vb.bad (v : Vb) (lines : Int) : Int := if v.cnt < 1 then 1 else if ¬ v.In lines then 2 else if v.lo ≤ v.lim∧v.lim < v.hi then 2 else 0
structure Vb.Good (v : Vb) (lines : Int) : Prop where
 pos : 1 ≤ v.cnt
 ins : v.In lines
 one : v.lim < v.lo ∨ v.hi ≤ v.lim
theorem bad_zero {v : Vb} {lines : Int} : v.bad lines = 0 ↔ v.Good lines := by
 unfold Vb.bad
 constructor
 ·intro h
  split at h
  ·cases h
  ·split at h
   ·cases h
   ·split at h
    ·cases h
    ·rename_i h1 h2 h3
     exact ⟨by omega,Decidable.not_not.1 h2,by omega⟩
 ·rintro ⟨h1,h2,h3⟩
  rw [if_neg (by omega),if_neg (by simpa using h2),if_neg (by omega)]
def Vb.chk (v : Vb) (inc door key boot : Int) : Int :=
 if v.lo ≤ v.lim∧v.kind = 1 then 0 else if inc < door then 5 else if v.lo ≤ v.lim then 0 else if v.boot < 0 then 5 else if IntKind.u64.wrap v.boot ≠ boot then 5 else if v.key ≠ key then 5 else 0
theorem s_vCount (v : Vb) : ev 52 [.agg v.row] = some [.v (.int .i64 v.cnt)] := by
 unfold Vb.row Vb.cnt vcnt
 rw [ev52,List.length_map]
 by_cases h1 : v.kind = 1
 ·rw [beq_t h1,if_pos h1]; rfl
 rw [beq_f h1,if_neg h1]
 by_cases h2 : v.kind = 2
 ·rw [beq_t h2,if_pos h2]; rfl
 rw [beq_f h2,if_neg h2]
 by_cases h3 : v.kind = 3
 ·rw [beq_t h3,if_pos (Or.inl h3)]; rfl
 rw [beq_f h3]
 by_cases h4 : v.kind = 4
 ·rw [beq_t h4,if_pos (Or.inr h4)]; rfl
 rw [beq_f h4,if_neg (by omega)]; rfl
theorem s_vLast (v : Vb) : ev 55 [.agg v.row] = some [.v (.int .i64 v.lim)] := by
 unfold Vb.row Vb.lim
 rw [ev55]
 by_cases h1 : v.kind = 1
 ·rw [beq_t h1,if_pos h1]; rfl
 ·rw [beq_f h1,if_neg h1]; rfl
theorem s_vSpan (v : Vb) (h1 : 0 ≤ v.at_∧v.at_ ≤ 100000) (h2 : 1 ≤ v.cnt∧v.cnt ≤ 1024) : ev 54 [.agg v.row] = some [.v (.int .i64 v.lo),.v (.int .i64 v.hi)] := by
 have hc := s_vCount v
 have e1 : IntKind.i64.wrap (Int.tdiv v.at_ 8) = v.lo := by rw [tdiv_pos _ _ (by omega),w_i64]; unfold Vb.lo; omega
 have e2 : IntKind.i64.wrap (Int.tdiv (IntKind.i64.wrap ((IntKind.i64.wrap (v.at_ + v.cnt)) - 1)) 8) = v.hi := by
  rw [show IntKind.i64.wrap (v.at_ + v.cnt) = v.at_ + v.cnt by rw [w_i64]; omega,show IntKind.i64.wrap (v.at_ + v.cnt - 1) = v.at_ + v.cnt - 1 by rw [w_i64]; omega,tdiv_pos _ _ (by omega),w_i64]; unfold Vb.hi; omega
 have e : ev 54 [.agg v.row] = some [.v (.int .i64 (IntKind.wrap .i64 (Int.tdiv v.at_ 8))),.v (.int .i64 (IntKind.wrap .i64 (Int.tdiv (IntKind.wrap .i64 ((IntKind.wrap .i64 (v.at_ + v.cnt)) - 1)) 8)))] := by
  unfold Vb.row at *
  rw [ev54]
  exact bnd hc rfl
 rw [e,e1,e2]
theorem s_vInside (v : Vb) (lines : Int) (h : 1 ≤ v.cnt) : ev 53 [.agg v.row,.v (.int .i64 5),.v (.int .i64 lines)] = some [.v (.bool (decide (v.In lines)))] := by
 have hc := s_vCount v
 have hs := s_vSpan v
 have no : ∀ {x : Option (List AV)},¬ v.In lines → x = some [.v (.bool false)] → x = some [.v (.bool (decide (v.In lines)))] := fun hn hx => by rw [decide_eq_false hn]; exact hx
 unfold Vb.row at *
 rw [ev53]
 refine cF rfl (cF rfl ?_)
 by_cases h1 : lines < 1
 ·exact no (fun g => by have := g.1; omega) (cT (ltI_t h1) rfl)
 refine cF (ltI_f (by omega)) ?_
 by_cases h2 : 256 < lines
 ·exact no (fun g => by have := g.2.1; omega) (cT (ltI_t h2) rfl)
 refine cF (ltI_f (by omega)) ?_
 by_cases h3 : v.node < 0
 ·exact no (fun g => by have := g.2.2.1; omega) (cT (ltI_t h3) rfl)
 refine cF (ltI_f (by omega)) ?_
 by_cases h4 : 5 ≤ v.node
 ·exact no (fun g => by have := g.2.2.2.1; omega) (cT (leI_t h4) rfl)
 refine cF (leI_f (by omega)) ?_
 by_cases h5 : v.at_ < 0
 ·exact no (fun g => by have := g.2.2.2.2.1; omega) (cT (ltI_t h5) rfl)
 refine cF (ltI_f (by omega)) ?_
 have e1 : IntKind.i64.wrap (lines * 8) = lines * 8 := by rw [w_i64]; omega
 rw [e1]
 by_cases h6 : lines * 8 ≤ v.at_
 ·exact no (fun g => by have := g.2.2.2.2.2.1; omega) (cT (leI_t h6) rfl)
 refine cF (leI_f (by omega)) (bnd hc (cT rfl ?_))
 by_cases h7 : 1024 < v.cnt
 ·exact no (fun g => by have := g.2.2.2.2.2.2.1; omega) (cT (ltI_t h7) rfl)
 have hs := hs (by omega) (by omega)
 refine cF (ltI_f (show v.cnt ≤ 1024 by omega)) (bnd hs (cT rfl (cT rfl ?_)))
 by_cases h8 : v.hi < lines
 ·refine cT (ltI_t h8) ?_
  have e2 : IntKind.i64.wrap (v.hi - v.lo) = v.hi - v.lo := by unfold Vb.hi Vb.lo at *; rw [w_i64]; omega
  show some [AV.v (.bool (ltI (IntKind.i64.wrap (v.hi - v.lo)) 128))] = _
  rw [e2]
  by_cases h9 : v.hi - v.lo < 128
  ·rw [ltI_t h9,decide_eq_true]; exact ⟨by omega,by omega,by omega,by omega,by omega,by omega,by omega,h8,h9⟩
  ·exact no (fun g => by have := g.2.2.2.2.2.2.2.2; omega) (by rw [ltI_f (by omega)])
 ·exact no (fun g => by have := g.2.2.2.2.2.2.2.1; omega) (cF (ltI_f (show lines ≤ v.hi by omega)) rfl)
theorem s_vValid (v : Vb) (lines : Int) : ev 35 [.agg v.row,.v (.int .i64 5),.v (.int .i64 lines)] = some [.v (.int .i64 (v.bad lines))] := by
 have hc := s_vCount v
 have hl := s_vLast v
 have hi := s_vInside v lines
 have hs := s_vSpan v
 unfold Vb.bad
 unfold Vb.row at *
 rw [ev35]
 refine bnd hc (cT rfl ?_)
 by_cases h1 : v.cnt < 1
 ·rw [if_pos h1]; exact cT (ltI_t h1) rfl
 rw [if_neg h1]
 refine cF (ltI_f (show 1 ≤ v.cnt by omega)) (bnd (hi (by omega)) (cT rfl ?_))
 by_cases h2 : v.In lines
 ·rw [if_neg (not_not_intro h2),decide_eq_true h2]
  obtain ⟨g1,g2,g3,g4,g5,g6,g7,g8,g9⟩ := h2
  refine cF rfl (bnd (hs (by omega) (by omega)) (cT rfl (cT rfl (bnd hl (cT rfl ?_)))))
  by_cases h3 : v.lo ≤ v.lim
  ·refine cT (leI_t h3) (bnd hl (cT rfl ?_))
   by_cases h4 : v.lim < v.hi
   ·rw [if_pos ⟨h3,h4⟩]; exact cT (ltI_t h4) rfl
   ·rw [if_neg (fun g => h4 g.2)]; exact cF (ltI_f (show v.hi ≤ v.lim by omega)) rfl
  ·rw [if_neg (fun g => h3 g.1)]; exact cF (leI_f (show v.lim < v.lo by omega)) rfl
 ·rw [if_pos h2,decide_eq_false h2]; exact cT rfl rfl
theorem s_vClass (v : Vb) (h : 0 ≤ v.at_∧v.at_ ≤ 100000) : ev 79 [.agg v.row] = some [.v (.int .i64 (if v.lo ≤ v.lim then 1 else 2))] := by
 have hl := s_vLast v
 have e1 : IntKind.i64.wrap (Int.tdiv v.at_ 8) = v.lo := by rw [tdiv_pos _ _ (by omega),w_i64]; unfold Vb.lo; omega
 unfold Vb.row at *
 rw [ev79,e1]
 refine bnd hl (cT rfl ?_)
 by_cases h3 : v.lo ≤ v.lim
 ·rw [if_pos h3]; exact cT (leI_t h3) rfl
 ·rw [if_neg h3]; exact cF (leI_f (show v.lim < v.lo by omega)) rfl
theorem s_vCheck (v : Vb) (inc door key boot : Int) (h : 0 ≤ v.at_∧v.at_ ≤ 100000) (hi : 0 ≤ inc∧inc ≤ 1000) : ev 70 [.agg v.row,.v (.int .i64 inc),.v (.int .u64 door),.v (.int .u64 key),.v (.int .u64 boot)] = some [.v (.int .i64 (v.chk inc door key boot))] := by
 have hc := s_vClass v h
 have e1 : IntKind.u64.wrap inc = inc := by rw [w_u64]; omega
 unfold Vb.chk
 unfold Vb.row at *
 rw [ev70,e1]
 refine bnd hc (cT rfl ?_)
 by_cases h3 : v.lo ≤ v.lim
 ·rw [if_pos h3]
  refine cT rfl ?_
  by_cases h4 : v.kind = 1
  ·rw [if_pos ⟨h3,h4⟩]; exact cT (beq_t h4) rfl
  ·rw [if_neg (fun g => h4 g.2)]
   refine cF (beq_f h4) (cF (ltI_f (by omega)) ?_)
   by_cases h5 : inc < door
   ·rw [if_pos h5]; exact cT (ltI_t h5) rfl
   ·rw [if_neg h5,if_pos h3]; exact cF (ltI_f (by omega)) (cT rfl rfl)
 ·rw [if_neg h3,if_neg (fun g => h3 g.1)]
  refine cF rfl (cF (ltI_f (by omega)) ?_)
  by_cases h5 : inc < door
  ·rw [if_pos h5]; exact cT (ltI_t h5) rfl
  ·rw [if_neg h5,if_neg h3]
   refine cF (ltI_f (by omega)) (cF rfl ?_)
   by_cases h6 : v.boot < 0
   ·rw [if_pos h6]; exact cT (ltI_t h6) rfl
   ·rw [if_neg h6]
    refine cF (ltI_f (by omega)) ?_
    by_cases h7 : IntKind.u64.wrap v.boot = boot
    ·rw [if_neg (not_not_intro h7),h7,beq_self_i]
     refine cF rfl ?_
     by_cases h8 : v.key = key
     ·rw [if_neg (not_not_intro h8),h8,beq_self_i]; rfl
     ·rw [if_pos h8,beq_f h8]; rfl
    ·rw [if_pos h7,beq_f h7]; rfl
theorem ret_cong {a b : List AV} (h : a = b) : (some a : Option (List AV)) = some b := by rw [h]
theorem pcs_step {a l : Int} (h0 : 0 ≤ a) (h1 : a + l ≤ 1000000) (h : 0 < l) : pcs a l = (a,pcN a l) :: pcs (a + pcN a l) (l - pcN a l) := by
 have hp := pcN_pos (a := a) h
 rw [pcs_pos h]
 have : wrap64 (a + pcN a l) = a + pcN a l := by unfold wrap64; omega
 rw [this]
theorem pcN_le (a l : Int) (h0 : 0 ≤ a) : pcN a l ≤ 8 - a % 8 := by
 have e : a.tmod 8 = a % 8 := Int.tmod_eq_emod_of_nonneg h0
 have := w8 a
 unfold pcN
 rw [this.1,e]
 split <;> omega
theorem pcs_mem : ∀ (k : Nat) (a l : Int),l ≤ k → 0 ≤ a → a + l ≤ 1000000 → ∀ x ∈ pcs a l,a ≤ x.1∧1 ≤ x.2∧x.2 ≤ 8∧x.1 + x.2 ≤ a + l
 | 0,a,l,hk,h0,h1,x,hx => by rw [pcs_neg hk] at hx; cases hx
 | k + 1,a,l,hk,h0,h1,x,hx => by
  by_cases h : 0 < l
  ·have hp := pcN_pos (a := a) h
   have hl := pcN_le a l h0
   rw [pcs_step h0 h1 h] at hx
   cases hx with
   | head => exact ⟨Int.le_refl _,hp.1,by show pcN a l ≤ 8; omega,by show a + pcN a l ≤ a + l; omega⟩
   | tail _ hx =>
    have := pcs_mem k (a + pcN a l) (l - pcN a l) (by omega) (by omega) (by omega) x hx
    omega
  ·rw [pcs_neg (by omega)] at hx; cases hx
theorem s_vPieces (v : Vb) (h : v.cnt < 2147483648) : ev 59 [.agg v.row] = some [pieceA (pcs v.at_ v.cnt)] := by
 have e : ev 59 [.agg v.row] = pieceG [.agg v.row] := by rw [ev_eq]; rfl
 rw [e]
 unfold Vb.cnt at *
 show cond (decide (vcnt v.kind v.n (v.ws.map wr).length < 2147483648)) (some [pieceA (pcs v.at_ (vcnt v.kind v.n (v.ws.map wr).length))]) none = _
 rw [List.length_map,decide_eq_true h]; rfl
def Vb.out (v : Vb) (x : Int × Int) (ws : List Int) : List Int :=
 if v.kind = 1 then (ws.drop x.1.toNat).take x.2.toNat else if v.kind = 2 then [] else [ws.getD v.at_.toNat 0]
def Vb.mem (v : Vb) (x : Int × Int) (ws : List Int) : List Int :=
 if v.kind = 1 then ws else if v.kind = 2 then splice ws x.1.toNat ((v.ws.drop (x.1 - v.at_).toNat).take x.2.toNat)
 else if v.kind = 3 then (if ws.getD v.at_.toNat 0 = v.old then ws.set v.at_.toNat v.new else ws) else ws.set v.at_.toNat (IntKind.u64.wrap (ws.getD v.at_.toNat 0 + v.new))
structure Vb.Fits (v : Vb) (x : Int × Int) (n : Nat) : Prop where
 lo : v.at_ ≤ x.1
 pos : 1 ≤ x.2
 le : x.2 ≤ 8
 hi : x.1 + x.2 ≤ v.at_ + v.cnt
 cnt : 1 ≤ v.cnt∧v.cnt ≤ 1024
 at_ : 0 ≤ v.at_
 mem : v.at_ + v.cnt ≤ n
theorem Vb.Good.fits {v : Vb} {n : Nat} (h : v.Good (n / 8 : Nat)) {x : Int × Int} (hx : x ∈ pcs v.at_ v.cnt) : v.Fits x n := by
 obtain ⟨h1,⟨g1,g2,g3,g4,g5,g6,g7,g8,g9⟩,h3⟩ := h
 have hm : v.at_ + v.cnt ≤ n := by unfold Vb.hi at g8; omega
 obtain ⟨k1,k2,k3,k4⟩ := pcs_mem v.cnt.toNat v.at_ v.cnt (by omega) g5 (by omega) x hx
 exact ⟨k1,k2,k3,k4,⟨h1,g7⟩,g5,hm⟩
theorem Vb.kinds {v : Vb} (h : 1 ≤ v.cnt) : v.kind = 1 ∨ v.kind = 2 ∨ v.kind = 3 ∨ v.kind = 4 := by
 unfold Vb.cnt vcnt at h
 by_cases h1 : v.kind = 1
 ·exact Or.inl h1
 by_cases h2 : v.kind = 2
 ·exact Or.inr (Or.inl h2)
 rw [if_neg h1,if_neg h2] at h
 by_cases h3 : v.kind = 3 ∨ v.kind = 4
 ·exact Or.inr (Or.inr h3)
 ·rw [if_neg h3] at h; omega
theorem Vb.out_len {v : Vb} {x : Int × Int} {ws : List Int} : (v.out x ws).length ≤ x.2.toNat + 1 := by
 unfold Vb.out
 split
 ·simp only [List.length_take]; omega
 ·split
  ·simp
  ·simp
theorem Vb.mem_len {v : Vb} {x : Int × Int} {ws : List Int} (h : v.Fits x ws.length) : (v.mem x ws).length = ws.length := by
 have hh := h.hi; have hm := h.mem; have h0 := h.at_; have hl := h.lo; have hp := h.pos
 unfold Vb.mem
 split
 ·rfl
 ·split
  ·exact splice_len _ _ _ (by simp only [List.length_take,List.length_drop]; omega)
  ·split
   ·split
    ·simp
    ·rfl
   ·simp
theorem s_execute (v : Vb) (x : Int × Int) (ws : List Int) (h : v.Fits x ws.length) (hl : ws.length ≤ 100000) :
  ev 60 [.agg v.row,.agg [.v (.int .i64 x.1),.v (.int .i64 x.2)],ndO ws false] = some [.ow (decide (v.kind = 2)) 47 1 ((v.out x ws).map wr),ndO (v.mem x ws) false] := by
 obtain ⟨h1,h2,h3,h4,⟨h5,h6⟩,h7,h8⟩ := h
 have hk := Vb.kinds h5
 have r1 := s_Read ws false x.1 x.2 hl ⟨by omega,by omega⟩
 have r2 := s_Write ws false x.1 v.wn ((v.ws.drop (x.1 - v.at_).toNat).take x.2.toNat) hl ⟨by omega,by omega⟩
 have r3 := s_Cas ws false v.at_ v.old v.new hl ⟨by omega,by omega⟩
 have r4 := s_Add ws false v.at_ v.new hl ⟨by omega,by omega⟩
 rw [if_pos (by rw [acc_ok (by omega) (by omega) (by omega)]; rfl)] at r1
 rw [if_pos (by rw [acc_ok (by omega) (by omega) (by omega)]; rfl)] at r3
 rw [if_pos (by rw [acc_ok (by omega) (by omega) (by omega)]; rfl)] at r4
 unfold Vb.row Vb.out Vb.mem
 rw [ev60]
 rcases hk with hk | hk | hk | hk
 ·rw [if_pos hk,if_pos hk,show decide (v.kind = 2) = false from decide_eq_false (by omega)]
  refine cT (beq_t hk) (bnd r1 (cT rfl (cT rfl (cT ?_ rfl))))
  show (false || (((((ws.drop x.1.toNat).take x.2.toNat).map wr).all rowV && true) && true)) = true
  rw [all_wr]; rfl
 ·have hlen : v.at_ + v.ws.length = v.at_ + v.cnt := by unfold Vb.cnt vcnt; rw [if_neg (by omega),if_pos hk]
  rw [if_neg (show ¬ v.kind = 1 by omega),if_pos hk,if_neg (show ¬ v.kind = 1 by omega),if_pos hk,decide_eq_true hk]
  have e1 : IntKind.i64.wrap (x.1 - v.at_) = x.1 - v.at_ := by rw [w_i64]; omega
  have e2 : IntKind.i64.wrap (x.1 - v.at_ + x.2) = x.1 - v.at_ + x.2 := by rw [w_i64]; omega
  have e3 : (x.1 - v.at_ + x.2).toNat - (x.1 - v.at_).toNat = x.2.toNat := by omega
  have e4 : ((v.ws.drop (x.1 - v.at_).toNat).take x.2.toNat).length = x.2.toNat := by simp only [List.length_take,List.length_drop]; omega
  rw [e4,if_pos (by rw [acc_ok (by omega) (by omega) (by omega)]; rfl)] at r2
  rw [e1,e2,e3,List.length_map,← List.map_drop,← List.map_take]
  refine cF (beq_f (by omega)) (cT (beq_t hk) (cT ?_ (bnd r2 (cT rfl (cT ?_ rfl)))))
  ·rw [leI_t (by omega),leI_t (by omega),leI_t (by omega)]; rfl
  ·rfl
 ·rw [if_neg (show ¬ v.kind = 1 by omega),if_neg (show ¬ v.kind = 2 by omega),if_neg (show ¬ v.kind = 1 by omega),if_neg (show ¬ v.kind = 2 by omega),if_pos hk,show decide (v.kind = 2) = false from decide_eq_false (by omega)]
  exact cF (beq_f (by omega)) (cF (beq_f (by omega)) (cT (beq_t hk) (bnd r3 (cT rfl (cT rfl (cT rfl rfl))))))
 ·rw [if_neg (show ¬ v.kind = 1 by omega),if_neg (show ¬ v.kind = 2 by omega),if_neg (show ¬ v.kind = 1 by omega),if_neg (show ¬ v.kind = 2 by omega),if_neg (show ¬ v.kind = 3 by omega),show decide (v.kind = 2) = false from decide_eq_false (by omega)]
  exact cF (beq_f (by omega)) (cF (beq_f (by omega)) (cF (beq_f (by omega)) (cT (beq_t hk) (bnd r4 (cT rfl (cT rfl (cT rfl rfl)))))))
theorem s_CloneV (b : Bool) (rows : List (List AV)) (hl : rows.length ≤ 100000) (hb : b = true → rows = []) : ev 71 [.lst b 9 rows] = some [.ow b 50 9 rows] := by
 rw [ev71]
 cases b with
 | true => rw [hb rfl]; rfl
 | false =>
  rw [leN_t (show (0 + rows.length) * 88 ≤ 140737488355328 by omega),Bool.and_false]
  rfl
structure Vb.Wf (v : Vb) : Prop where
 nl : v.wn = true → v.ws = []
 len : v.ws.length ≤ 100000
theorem s_clone (v : Vb) (h : v.Wf) : ev 56 [.agg v.row] = some [.agg v.row] := by
 have hc := s_CloneW v.wn v.ws h.len h.nl
 unfold Vb.row
 rw [ev56]
 exact bnd hc (cT rfl rfl)
structure Pr where
 c : Int
 inc : Int
 node : Int
 qn : Bool
 q : List Vb
 ex : Int
 wn : Bool
 w : List Int
def pO (p : Pr) : AV := .ob 99 [.v (.int .i64 p.c),.v (.int .i64 p.inc),.v (.int .i64 p.node),.ow p.qn 50 9 (p.q.map Vb.row),.v (.int .i64 p.ex),.ow p.wn 47 1 (p.w.map wr)]
def pZ (p : Pr) : AV := .ob 99 [.v (.int .i64 p.c),.v (.int .i64 p.inc),.v (.int .i64 p.node),.ow p.qn 50 9 (p.q.map Vb.row),.v (.int .i64 p.ex),.lst true 0 []]
def pP (p : Pr) : AV := .ep [.v (.int .i64 p.c),.v (.int .i64 p.inc),.v (.int .i64 p.node),.lst p.qn 9 (p.q.map Vb.row),.v (.int .i64 p.ex),.lst p.wn 1 (p.w.map wr)] 0
def Pr.postE (p : Pr) (v : Vb) (lines : Int) : Int := if v.bad lines ≠ 0 then v.bad lines else if v.node ≠ p.node then 1 else if 1024 ≤ p.q.length then 12 else 0
def Pr.post (p : Pr) (v : Vb) (lines : Int) : Pr := if p.postE v lines = 0 then { p with qn := false,q := p.q ++ [v] } else p
theorem s_Post (p : Pr) (v : Vb) (lines : Int) (hv : v.Wf) (hq : p.q.length ≤ 1024) : ev 36 [pO p,.agg v.row,.v (.int .i64 lines)] = some [.v (.int .i64 (p.postE v lines)),pO (p.post v lines)] := by
 have h1 := s_vValid v lines
 have h2 := s_clone v hv
 unfold Pr.post Pr.postE pO
 unfold Vb.row at h1 h2 ⊢
 rw [ev36]
 refine bnd h1 (cT rfl ?_)
 by_cases g1 : v.bad lines = 0
 ·rw [g1,if_neg (show ¬ ((0 : Int) ≠ 0) by simp)]
  refine cF rfl ?_
  by_cases g2 : v.node = p.node
  ·rw [if_neg (not_not_intro g2),g2,beq_self_i]
   refine cF rfl ?_
   by_cases g3 : 1024 ≤ p.q.length
   ·rw [if_pos g3]
    exact cT (by rw [List.length_map]; exact leI_t (by omega)) rfl
   ·rw [if_neg g3]
    rw [g2] at h2
    refine cF (by rw [List.length_map]; exact leI_f (by omega)) (bnd h2 (cT rfl (cT (by rw [List.length_map]; exact leN_t (by omega)) ?_)))
    rw [if_pos rfl]
    refine ret_cong ?_
    rw [List.map_append]
    show _ = [AV.v (.int .i64 0),AV.ob _ [_,_,_,AV.ow false _ _ (p.q.map Vb.row ++ [v.row]),_,_]]
    unfold Vb.row
    rw [g2]; rfl
  ·rw [if_pos g2]; exact cT (by rw [beq_f g2]; rfl) rfl
 ·rw [if_pos g1]
  refine cT (by show (!(v.bad lines == 0)) = true; rw [beq_f g1]; rfl) ?_
  rw [if_neg g1]; rfl
theorem s_word (ws : List Int) (i : Int) (hl : ws.length ≤ 100000) (hi : 0 ≤ i∧i ≤ 100000) : ev 69 [ndP ws false,.v (.int .i64 i)] = some [.v (.int .u64 (ws.getD i.toNat 0))] := by
 have r := s_Read ws false i 1 hl ⟨by omega,by omega⟩
 rw [ev69]
 by_cases h : i < ws.length
 ·rw [if_pos (by rw [acc_ok (by omega) (by omega) (by omega)]; rfl)] at r
  have e : (ws.drop i.toNat).take (1 : Int).toNat = [ws.getD i.toNat 0] := by
   have hlt : i.toNat < ws.length := by omega
   rw [List.drop_eq_getElem_cons hlt]
   show [ws[i.toNat]] = _
   simp [hlt]
  rw [e] at r
  exact bnd r (cT rfl (cT rfl (cF rfl (cT rfl (cT rfl rfl)))))
 ·rw [acc_bad (by omega),if_neg (by decide)] at r
  have e : ws.getD i.toNat 0 = 0 := by rw [List.getD_eq_getElem?_getD,List.getElem?_eq_none (by omega)]; rfl
  rw [e]
  exact bnd r (cT rfl (cT rfl (cT rfl rfl)))
def refu (c inc : Int) (v : Vb) (ws : List Int) (dn : Bool) : Int :=
 if dn = true then 4 else if v.bad (ws.length / 8 : Nat) ≠ 0 then 2 else v.chk inc (ws.getD (24 + c).toNat 0) (ws.getD 0 0) (ws.getD 1 0)
theorem refu_zero {c inc : Int} {v : Vb} {ws : List Int} {dn : Bool} (h : refu c inc v ws dn = 0) : dn = false∧v.Good (ws.length / 8 : Nat) := by
 unfold refu at h
 split at h
 ·cases h
 ·rename_i h1
  split at h
  ·cases h
  ·rename_i h2
   exact ⟨by simpa using h1,bad_zero.1 (Decidable.not_not.1 h2)⟩
theorem s_refusal (p : Pr) (v : Vb) (ws : List Int) (dn : Bool) (hl : ws.length ≤ 100000) (hc : 0 ≤ p.c∧p.c ≤ 1000) (hi : 0 ≤ p.inc∧p.inc ≤ 1000) : ev 57 [pP p,.agg v.row,ndP ws dn] = some [.v (.int .i64 (refu p.c p.inc v ws dn))] := by
 have h1 := s_Up false (ws.map wr) dn
 have h2 := s_Lines false (ws.map wr) dn (by rw [List.length_map]; exact hl)
 rw [List.length_map] at h2
 have h3 := s_vValid v (ws.length / 8 : Nat)
 have h4 := s_vCheck v p.inc (ws.getD (24 + p.c).toNat 0) (ws.getD 0 0) (ws.getD 1 0)
 have h5 := s_word ws (24 + p.c) hl (by omega)
 have h6 := s_word ws 0 hl (by omega)
 have h7 := s_word ws 1 hl (by omega)
 have e : IntKind.i64.wrap (24 + p.c) = 24 + p.c := by rw [w_i64]; omega
 unfold refu pP
 unfold Vb.row at h3 h4 ⊢
 rw [ev57,e]
 refine bnd h1 (cT rfl ?_)
 cases dn with
 | true => rw [if_pos rfl]; exact cT rfl rfl
 | false =>
  rw [if_neg (by decide)]
  refine cF rfl (bnd h2 (cT rfl (bnd h3 (cT rfl ?_))))
  by_cases g : v.bad (ws.length / 8 : Nat) = 0
  ·rw [if_neg (not_not_intro g)]
   obtain ⟨_,⟨g1,g2,g3,g4,g5,g6,_⟩,_⟩ := bad_zero.1 g
   have h4 := h4 (by omega) hi
   refine cF (by show (!(v.bad (ws.length / 8 : Nat) == 0)) = false; rw [g]; rfl) (bnd h5 (cT rfl (bnd h6 (cT rfl (bnd h7 (cT rfl (bnd h4 (cT rfl rfl))))))))
  ·rw [if_pos g]
   exact cT (by show (!(v.bad (ws.length / 8 : Nat) == 0)) = true; rw [beq_f g]; rfl) rfl
def Pr.pop (p : Pr) : Pr := { p with q := p.q.tail,ex := 0,wn := true,w := [] }
def dA (e : Int) (b : Bool) (w : List Int) : AV := .agg [.v (.int .i64 e),.lst b 1 (w.map wr)]
theorem s_Step_nil (p : Pr) (ws : List Int) (dn : Bool) (hq : p.q = []) : ev 39 [pO p,ndO ws dn] = some [dA 0 true [],.v (.bool false),pO p,ndO ws dn] := by
 unfold pO
 rw [ev39,hq]; rfl
theorem s_Step_ref (p : Pr) (ws : List Int) (dn : Bool) {v : Vb} {r : List Vb} (hq : p.q = v :: r) (hn : p.qn = false) (hql : p.q.length ≤ 1024) (hl : ws.length ≤ 100000) (hc : 0 ≤ p.c∧p.c ≤ 1000) (hi : 0 ≤ p.inc∧p.inc ≤ 1000)
  (hr : refu p.c p.inc v ws dn ≠ 0) : ev 39 [pO p,ndO ws dn] = some [dA (refu p.c p.inc v ws dn) true [],.v (.bool true),pZ p.pop,ndO ws dn] := by
 have h1 := s_refusal p v ws dn hl hc hi
 rw [hq] at hql
 have h2 := s_CloneV false (r.map Vb.row) (by rw [List.length_map]; simp only [List.length_cons] at hql; omega) (fun h => by cases h)
 unfold pP at h1
 unfold pO pZ Pr.pop
 rw [ev39]
 rw [hq,hn] at *
 refine cF (beq_f (by show (((v :: r).map Vb.row).length - 0 : Nat) ≠ (0 : Int); simp only [List.length_map,List.length_cons]; omega)) (cT (by rw [ltI_t (by simp only [List.length_map,List.length_cons]; omega)]; rfl) (cT (by rw [ltN_t (by simp)]; rfl) (bnd h1 (cT rfl (cT (by show (!(refu p.c p.inc v ws dn == 0)) = true; rw [beq_f hr]; rfl) (cT (by rw [leI_t (by simp only [List.length_map,List.length_cons]; omega)]; rfl) (bnd h2 (cT rfl rfl))))))))
theorem s_Step_go (p : Pr) (ws : List Int) (dn : Bool) {v : Vb} {r : List Vb} {i : Nat} (hq : p.q = v :: r) (hn : p.qn = false) (hql : p.q.length ≤ 1024) (hl : ws.length ≤ 100000) (hc : 0 ≤ p.c∧p.c ≤ 1000) (hi : 0 ≤ p.inc∧p.inc ≤ 1000)
  (hr : refu p.c p.inc v ws dn = 0) (hex : p.ex = i) (hlt : i < (pcs v.at_ v.cnt).length) (hw : p.w.length ≤ 100000) :
  ev 39 [pO p,ndO ws dn] = some (
   if i + 1 < (pcs v.at_ v.cnt).length then [dA 0 true [],.v (.bool false),pO { p with ex := i + 1,wn := (v.out ((pcs v.at_ v.cnt).getD i (0,0)) ws).isEmpty && p.wn,w := p.w ++ v.out ((pcs v.at_ v.cnt).getD i (0,0)) ws },ndO (v.mem ((pcs v.at_ v.cnt).getD i (0,0)) ws) dn]
   else [dA 0 ((v.out ((pcs v.at_ v.cnt).getD i (0,0)) ws).isEmpty && p.wn) (p.w ++ v.out ((pcs v.at_ v.cnt).getD i (0,0)) ws),.v (.bool true),pZ p.pop,ndO (v.mem ((pcs v.at_ v.cnt).getD i (0,0)) ws) dn]) := by
 have h1 := s_refusal p v ws dn hl hc hi
 obtain ⟨hdn,hg⟩ := refu_zero hr
 subst hdn
 have hx : (pcs v.at_ v.cnt).getD i (0,0) ∈ pcs v.at_ v.cnt := mem_getD _ _ i hlt
 have hf := hg.fits hx
 have hcb := hf.cnt
 have h3 := s_vPieces v (by omega)
 have h4 := s_execute v _ ws hf hl
 have hol := @Vb.out_len v ((pcs v.at_ v.cnt).getD i (0,0)) ws
 have hxle := hf.le
 have hpl := pcs_len v.at_ v.cnt
 have hget : lget ((pcs v.at_ v.cnt).map fun x => [AV.v (.int .i64 x.1),AV.v (.int .i64 x.2)]) (0 + (i : Int).toNat) = [AV.v (.int .i64 ((pcs v.at_ v.cnt).getD i (0,0)).1),AV.v (.int .i64 ((pcs v.at_ v.cnt).getD i (0,0)).2)] := by
  rw [Nat.zero_add,Int.toNat_natCast]
  exact lget_mapD (fun x : Int × Int => [AV.v (.int .i64 x.1),AV.v (.int .i64 x.2)]) _ (0,0) i hlt
 generalize (pcs v.at_ v.cnt).getD i (0,0) = x at *
 rw [hq] at hql
 have h2 := s_CloneV false (r.map Vb.row) (by rw [List.length_map]; simp only [List.length_cons] at hql; omega) (fun h => by cases h)
 have e1 : IntKind.i64.wrap ((i : Int) + 1) = (i : Int) + 1 := by rw [w_i64]; omega
 unfold pP at h1
 unfold pieceA at h3
 unfold pO pZ Pr.pop
 rw [ev39]
 rw [hq,hn,hex] at *
 rw [e1]
 refine cF (beq_f (by show (((v :: r).map Vb.row).length - 0 : Nat) ≠ (0 : Int); simp only [List.length_map,List.length_cons]; omega)) (cT (by rw [ltI_t (by simp only [List.length_map,List.length_cons]; omega)]; rfl) (cT (by rw [ltN_t (by simp)]; rfl) (bnd h1 (cT rfl (cF (by show (!(refu p.c p.inc v ws false == 0)) = false; rw [hr]; rfl) (bnd h3 (cT rfl ?_)))))))
 simp -implicitDefEqProofs only [cellAt_zero,avXs_ow,hget,List.length_map]
 refine cT (by rw [leI_t (by omega),ltI_t (by omega)]; rfl) (cT (by rw [ltN_t (by omega)]; rfl) (bnd h4 (cT rfl (cT rfl (cT ?_ ?_)))))
 ·show leN ((p.w.length + ((v.out x ws).map wr).length) * 8) _ = true
  exact leN_t (by simp only [List.length_map]; omega)
 by_cases hlast : i + 1 < (pcs v.at_ v.cnt).length
 ·rw [if_pos hlast]
  refine cT (ltI_t (by omega)) ?_
  refine ret_cong ?_
  simp -implicitDefEqProofs only [cellAt_zero,cellAt_succ,avXs_ow,avNil_ow,obCells_ob,avBool_v,← List.map_append,List.isEmpty_map]
  rfl
 ·rw [if_neg hlast]
  refine cF (ltI_f (by omega)) (cT (by rw [leI_t (by simp only [List.length_cons]; omega)]; rfl) (bnd h2 (cT rfl ?_)))
  refine ret_cong ?_
  simp -implicitDefEqProofs only [cellAt_zero,cellAt_succ,avXs_ow,avNil_ow,obCells_ob,avBool_v,← List.map_append,List.isEmpty_map]
  rfl
end Go.Proofs.Ytnjccbnlmdajkaa
