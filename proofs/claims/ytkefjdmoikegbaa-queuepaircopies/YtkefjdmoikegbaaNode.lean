/- The memory node. -/
import Derived.Test.YtkefjdmoikegbaaTyY
import Derived.Test.YtkefjdmoikegbaaEv10
import Derived.Test.YtkefjdmoikegbaaEv11
set_option linter.all false
namespace Go.Proofs.Ytkefjdmoikegbaa
open Go.Ev
attribute [local congr] bind_first cond_first
def i64ok (a : Int) : Prop := -9223372036854775808 ≤ a∧a ≤ 9223372036854775807
theorem s_Pick (a m : Int) (hm : 0 < m) (hm' : m ≤ 4611686018427387904) : ev 10 [.v (.int .i64 a),.v (.int .i64 m)] = some [.v (.int .i64 (pick a m))] := by
 rw [ev10]
 simp only [ltI_f (show 1 ≤ m by omega),eqI_f (show m ≠ 0 by omega),cond_false,pick_ok hm hm']
theorem mix : Try.prog.follows .mixedOrders = true := by kernel_rfl
theorem tabL_eq : tabL = (List.range 256).map fun i => AV.v (.int .u64 (step8 i : Nat)) := rfl
theorem extOk : ExtS Try.prog cfg := by
 refine ⟨fun f bs rs e => ?_,updS_none fun _ => rfl⟩
 by_cases h : f = 38
 ·subst h
  exact pieceS bs rs e
 ·by_cases h2 : f = 87
  ·subst h2
   cases bs with
   | nil =>
    have e : some [AV.agg tabL] = some rs := e
    obtain rfl := Option.some.inj e
    obtain ⟨n,hn⟩ := evF_of_evL Tab.s_table
    rw [← tabL_eq] at hn
    exact evF_sound mix Tab.extOk n 87 [] _ hn
   | cons a r =>
    have e : (none : Option (List AV)) = some rs := e
    cases e
  ·have hf : cfg.ext f = none := by
    show extF f = none
    unfold extF
    split
    ·exact absurd rfl h
    ·exact absurd rfl h2
    ·rfl
   simp only [evTop,hf] at e
   cases e
theorem s_awake : ev 9 [] = some [.v (.bool true)] := evL_of (n := 40) (by kernel_rfl)
def wr (w : Int) : List AV := [.v (.int .u64 w)]
theorem wr_eq (w : Int) : wr w = [.v (.int .u64 w)] := rfl
theorem all_wr (ws : List Int) : (ws.map wr).all rowV = true := by
 simp only [List.all_eq_true,List.mem_map]
 rintro _ ⟨w,_,rfl⟩; rfl
theorem get_wr (ws : List Int) (i : Nat) (h : i < ws.length) : lget (ws.map wr) i = wr (ws.getD i 0) := lget_mapD wr ws 0 i h
theorem set_wr (ws : List Int) (i : Nat) (w : Int) : (ws.map wr).set i [.v (.int .u64 w)] = (ws.set i w).map wr := by rw [List.map_set,wr_eq]
def splice (xs : List Int) (n : Nat) (ys : List Int) : List Int := xs.take n ++ ys ++ xs.drop (n + ys.length)
theorem splice_len (xs : List Int) (n : Nat) (ys : List Int) (h : n + ys.length ≤ xs.length) : (splice xs n ys).length = xs.length := by
 unfold splice
 simp only [List.length_append,List.length_take,List.length_drop]; omega
def acc (n : Nat) (up : Bool) (a c : Int) : Int := if c < 1 ∨ a < 0 ∨ (n : Int) ≤ a ∨ (n : Int) - a < c then 2 else if up then 0 else 4
theorem acc_ok {n : Nat} {up : Bool} {a c : Int} (h1 : 1 ≤ c) (h2 : 0 ≤ a) (h3 : a + c ≤ n) : acc n up a c = if up then 0 else 4 := by
 unfold acc; rw [if_neg (by omega)]
theorem acc_bad {n : Nat} {up : Bool} {a c : Int} (h : ¬ (1 ≤ c∧0 ≤ a∧a + c ≤ n)) : acc n up a c = 2 := by
 unfold acc; rw [if_pos (by omega)]
theorem acc_zero {n : Nat} {up : Bool} {a c : Int} : acc n up a c = 0 ↔ (1 ≤ c∧0 ≤ a∧a + c ≤ n∧up = true) := by
 unfold acc
 split
 ·exact ⟨fun h => (by simp at h),fun h => by omega⟩
 ·cases up with
  | true => exact ⟨fun _ => (by simp; omega),fun _ => rfl⟩
  | false => exact ⟨fun h => (by simp at h),fun h => (by simp at h)⟩
theorem s_check (b : Bool) (xs : List (List AV)) (dn : Bool) (a c : Int) (hl : xs.length ≤ 100000) (ha : -9223372036854775808 ≤ a∧a ≤ 9223372036854775807) :
  ev 40 [.ep [.lst b 1 xs,.v (.bool dn)] 0,.v (.int .i64 a),.v (.int .i64 c)] = some [.v (.int .i64 (acc xs.length (!dn) a c))] := by
 rw [ev40]
 by_cases h1 : c < 1
 ·rw [ltI_t h1,acc_bad (by omega)]; rfl
 rw [ltI_f (by omega)]
 by_cases h2 : a < 0
 ·rw [ltI_t h2,acc_bad (by omega)]; rfl
 rw [ltI_f (by omega)]
 by_cases h3 : (xs.length : Int) ≤ a
 ·rw [leI_t h3,acc_bad (by omega)]; rfl
 rw [leI_f (by omega),show IntKind.i64.wrap ((xs.length : Int) - a) = (xs.length : Int) - a by rw [w_i64]; omega]
 by_cases h4 : (xs.length : Int) - a < c
 ·rw [ltI_t h4,acc_bad (by omega)]; rfl
 rw [ltI_f (by omega),acc_ok (by omega) (by omega) (by omega)]
 cases dn <;> rfl
abbrev ndO (ws : List Int) (dn : Bool) : AV := .ob 93 [.ow false 23 1 (ws.map wr),.v (.bool dn)]
abbrev ndP (ws : List Int) (dn : Bool) : AV := .ep [.lst false 1 (ws.map wr),.v (.bool dn)] 0
abbrev rfO (ws : List Int) (up : Bool) : AV := .ob 72 [.ow false 23 1 (ws.map wr),.v (.bool up)]
theorem s_CloneW (b : Bool) (ws : List Int) (hl : ws.length ≤ 100000) (hb : b = true → ws = []) : ev 41 [.lst b 1 (ws.map wr)] = some [.ow b 23 1 (ws.map wr)] := by
 rw [ev41]
 cases b with
 | true => rw [hb rfl]; rfl
 | false =>
  rw [leN_t (show (0 + (ws.map wr).length) * 8 ≤ 140737488355328 by rw [List.length_map]; omega),Bool.and_false]
  rfl
theorem s_Read (ws : List Int) (dn : Bool) (a c : Int) (hl : ws.length ≤ 100000) (ha : i64ok a) :
  ev 14 [ndP ws dn,.v (.int .i64 a),.v (.int .i64 c)] =
   some (if acc ws.length (!dn) a c = 0 then [.ow false 23 1 (((ws.drop a.toNat).take c.toNat).map wr),.v (.int .i64 0)] else [.ow true 23 1 [],.v (.int .i64 (acc ws.length (!dn) a c))]) := by
 have h1 := s_check false (ws.map wr) dn a c (by rw [List.length_map]; exact hl) ha
 rw [List.length_map] at h1
 rw [ev14]
 simp -implicitDefEqProofs only [some_bind',obCells_agg,obCells_ob,isOb_ok,isL_ok,isOw_ok,avXs_lst,avXs_ow,avNil_lst,avNil_ow,avNil_sl,avOff_sl,avCut_sl,isAgg_agg,nat_beq_self,List.length_cons,List.length_nil,Nat.reduceAdd,Nat.zero_add,isI_v,isB_v,isS_v,avInt_v,avBool_v,avStr_v,cellAt_zero,cellAt_succ,lget_zero,lget_succ,frAt_zero,frAt_succ,blAt_zero,blAt_succ,isEx_ok,isEx_ne,isEx_none,isRt_some,isRt_none,like_st,likeFG_nil,likeFG_cons,likeBG_nil,likeBG_obj,likeBG_row,likeSG_nil,likeSG_cons,likeT_nil,likeS_nil,isNP_nil,isNP_ob,likeT_ep,isEp_ep,epCells_ep,likeT_agg,likeT_int,likeT_bool,likeT_str,likeT_lst,likeT_sl0,likeT_sl1,likeT_ptr,likeS_int,likeS_bool,likeS_str,likeS_lst,likeS_sl0,likeS_sl1,likeS_ptr,isPtr_ok,isSl_0,isSl_1,beq_self_b,Bool.and_self,Bool.and_true,Bool.true_and,Bool.and_false,Bool.false_and,cond_true,cond_false,Bool.not_true,Bool.not_false,h1]
 by_cases h : acc ws.length (!dn) a c = 0
 ·obtain ⟨g1,g2,g3,_⟩ := acc_zero.1 h
  have e1 : IntKind.i64.wrap (a + c) = a + c := by rw [w_i64]; omega
  have e2 : (a + c).toNat - a.toNat = c.toNat := by omega
  have e3 : List.take c.toNat (List.drop a.toNat (ws.map wr)) = ((ws.drop a.toNat).take c.toNat).map wr := by rw [List.map_take,List.map_drop]
  have c1 := s_CloneW false ((ws.drop a.toNat).take c.toNat) (by simp only [List.length_take,List.length_drop]; omega) (fun h => by cases h)
  rw [if_pos h,h,e1,leI_t g2,leI_t (show a ≤ a + c by omega),List.length_map,leI_t g3,e2,e3]
  simp -implicitDefEqProofs only [some_bind',obCells_agg,obCells_ob,isOb_ok,isL_ok,isOw_ok,avXs_lst,avXs_ow,avNil_lst,avNil_ow,avNil_sl,avOff_sl,avCut_sl,isAgg_agg,nat_beq_self,List.length_cons,List.length_nil,Nat.reduceAdd,Nat.zero_add,isI_v,isB_v,isS_v,avInt_v,avBool_v,avStr_v,cellAt_zero,cellAt_succ,lget_zero,lget_succ,frAt_zero,frAt_succ,blAt_zero,blAt_succ,isEx_ok,isEx_ne,isEx_none,isRt_some,isRt_none,like_st,likeFG_nil,likeFG_cons,likeBG_nil,likeBG_obj,likeBG_row,likeSG_nil,likeSG_cons,likeT_nil,likeS_nil,isNP_nil,isNP_ob,likeT_ep,isEp_ep,epCells_ep,likeT_agg,likeT_int,likeT_bool,likeT_str,likeT_lst,likeT_sl0,likeT_sl1,likeT_ptr,likeS_int,likeS_bool,likeS_str,likeS_lst,likeS_sl0,likeS_sl1,likeS_ptr,isPtr_ok,isSl_0,isSl_1,beq_self_b,Bool.and_self,Bool.and_true,Bool.true_and,Bool.and_false,Bool.false_and,cond_true,cond_false,Bool.not_true,Bool.not_false,c1,beq_self_i]
 ·rw [if_neg h,beq_eq_false_iff_ne.2 h]; rfl
theorem s_Write (ws : List Int) (dn : Bool) (a : Int) (b : Bool) (ys : List Int) (hl : ws.length ≤ 100000) (ha : i64ok a) :
  ev 33 [ndO ws dn,.v (.int .i64 a),.lst b 1 (ys.map wr)] =
   some [.v (.int .i64 (acc ws.length (!dn) a ys.length)),ndO (if acc ws.length (!dn) a ys.length = 0 then splice ws a.toNat ys else ws) dn] := by
 have h1 := s_check false (ws.map wr) dn a ys.length (by rw [List.length_map]; exact hl) ha
 rw [List.length_map] at h1
 rw [ev33]
 simp -implicitDefEqProofs only [some_bind',obCells_agg,obCells_ob,isOb_ok,isL_ok,isOw_ok,avXs_lst,avXs_ow,avNil_lst,avNil_ow,avNil_sl,avOff_sl,avCut_sl,isAgg_agg,nat_beq_self,List.length_cons,List.length_nil,Nat.reduceAdd,Nat.zero_add,isI_v,isB_v,isS_v,avInt_v,avBool_v,avStr_v,cellAt_zero,cellAt_succ,lget_zero,lget_succ,frAt_zero,frAt_succ,blAt_zero,blAt_succ,isEx_ok,isEx_ne,isEx_none,isRt_some,isRt_none,like_st,likeFG_nil,likeFG_cons,likeBG_nil,likeBG_obj,likeBG_row,likeSG_nil,likeSG_cons,likeT_nil,likeS_nil,isNP_nil,isNP_ob,likeT_ep,isEp_ep,epCells_ep,likeT_agg,likeT_int,likeT_bool,likeT_str,likeT_lst,likeT_sl0,likeT_sl1,likeT_ptr,likeS_int,likeS_bool,likeS_str,likeS_lst,likeS_sl0,likeS_sl1,likeS_ptr,isPtr_ok,isSl_0,isSl_1,beq_self_b,Bool.and_self,Bool.and_true,Bool.true_and,Bool.and_false,Bool.false_and,cond_true,cond_false,Bool.not_true,Bool.not_false,List.length_map,h1]
 by_cases h : acc ws.length (!dn) a ys.length = 0
 ·obtain ⟨g1,g2,g3,_⟩ := acc_zero.1 h
  rw [if_pos h,h,leI_t g2,leI_t (show a ≤ (((ws.length - 0 : Nat)) : Int) by omega)]
  have e1 : min ys.length (ws.length - a.toNat) = ys.length := by omega
  rw [e1,← List.map_take,← List.map_take,← List.map_drop,← List.map_append,← List.map_append,List.take_length]
  rfl
 ·rw [if_neg h,beq_eq_false_iff_ne.2 h]; rfl
theorem s_Cas (ws : List Int) (dn : Bool) (a old new : Int) (hl : ws.length ≤ 100000) (ha : i64ok a) :
  ev 68 [ndO ws dn,.v (.int .i64 a),.v (.int .u64 old),.v (.int .u64 new)] =
   some (if acc ws.length (!dn) a 1 = 0 then [.v (.int .u64 (ws.getD a.toNat 0)),.v (.int .i64 0),ndO (if ws.getD a.toNat 0 = old then ws.set a.toNat new else ws) dn] else [.v (.int .u64 0),.v (.int .i64 (acc ws.length (!dn) a 1)),ndO ws dn]) := by
 have h1 := s_check false (ws.map wr) dn a 1 (by rw [List.length_map]; exact hl) ha
 rw [List.length_map] at h1
 rw [ev68]
 simp -implicitDefEqProofs only [some_bind',obCells_agg,obCells_ob,isOb_ok,isL_ok,isOw_ok,avXs_lst,avXs_ow,avNil_lst,avNil_ow,avNil_sl,avOff_sl,avCut_sl,isAgg_agg,nat_beq_self,List.length_cons,List.length_nil,Nat.reduceAdd,Nat.zero_add,isI_v,isB_v,isS_v,avInt_v,avBool_v,avStr_v,cellAt_zero,cellAt_succ,lget_zero,lget_succ,frAt_zero,frAt_succ,blAt_zero,blAt_succ,isEx_ok,isEx_ne,isEx_none,isRt_some,isRt_none,like_st,likeFG_nil,likeFG_cons,likeBG_nil,likeBG_obj,likeBG_row,likeSG_nil,likeSG_cons,likeT_nil,likeS_nil,isNP_nil,isNP_ob,likeT_ep,isEp_ep,epCells_ep,likeT_agg,likeT_int,likeT_bool,likeT_str,likeT_lst,likeT_sl0,likeT_sl1,likeT_ptr,likeS_int,likeS_bool,likeS_str,likeS_lst,likeS_sl0,likeS_sl1,likeS_ptr,isPtr_ok,isSl_0,isSl_1,beq_self_b,Bool.and_self,Bool.and_true,Bool.true_and,Bool.and_false,Bool.false_and,cond_true,cond_false,Bool.not_true,Bool.not_false,h1]
 by_cases h : acc ws.length (!dn) a 1 = 0
 ·obtain ⟨g1,g2,g3,_⟩ := acc_zero.1 h
  have hlt : a.toNat < ws.length := by omega
  have e1 : ltI a (((ws.map wr).length - 0 : Nat) : Int) = true := ltI_t (by rw [List.length_map]; omega)
  have e2 : ltN a.toNat (ws.map wr).length = true := ltN_t (by rw [List.length_map]; omega)
  rw [if_pos h,h,leI_t g2,e1,e2,get_wr ws _ hlt,set_wr]
  simp -implicitDefEqProofs only [some_bind',obCells_agg,obCells_ob,isOb_ok,isL_ok,isOw_ok,avXs_lst,avXs_ow,avNil_lst,avNil_ow,avNil_sl,avOff_sl,avCut_sl,isAgg_agg,nat_beq_self,List.length_cons,List.length_nil,Nat.reduceAdd,Nat.zero_add,isI_v,isB_v,isS_v,avInt_v,avBool_v,avStr_v,cellAt_zero,cellAt_succ,lget_zero,lget_succ,frAt_zero,frAt_succ,blAt_zero,blAt_succ,isEx_ok,isEx_ne,isEx_none,isRt_some,isRt_none,like_st,likeFG_nil,likeFG_cons,likeBG_nil,likeBG_obj,likeBG_row,likeSG_nil,likeSG_cons,likeT_nil,likeS_nil,isNP_nil,isNP_ob,likeT_ep,isEp_ep,epCells_ep,likeT_agg,likeT_int,likeT_bool,likeT_str,likeT_lst,likeT_sl0,likeT_sl1,likeT_ptr,likeS_int,likeS_bool,likeS_str,likeS_lst,likeS_sl0,likeS_sl1,likeS_ptr,isPtr_ok,isSl_0,isSl_1,beq_self_b,Bool.and_self,Bool.and_true,Bool.true_and,Bool.and_false,Bool.false_and,cond_true,cond_false,Bool.not_true,Bool.not_false,wr_eq,beq_self_i]
  by_cases hx : ws.getD a.toNat 0 = old
  ·rw [if_pos hx,hx,beq_self_i]; rfl
  ·rw [if_neg hx,beq_eq_false_iff_ne.2 hx]; rfl
 ·rw [if_neg h,beq_eq_false_iff_ne.2 h]; rfl
theorem s_Add (ws : List Int) (dn : Bool) (a by_ : Int) (hl : ws.length ≤ 100000) (ha : i64ok a) :
  ev 69 [ndO ws dn,.v (.int .i64 a),.v (.int .u64 by_)] =
   some (if acc ws.length (!dn) a 1 = 0 then [.v (.int .u64 (ws.getD a.toNat 0)),.v (.int .i64 0),ndO (ws.set a.toNat (IntKind.u64.wrap (ws.getD a.toNat 0 + by_))) dn] else [.v (.int .u64 0),.v (.int .i64 (acc ws.length (!dn) a 1)),ndO ws dn]) := by
 have h1 := s_check false (ws.map wr) dn a 1 (by rw [List.length_map]; exact hl) ha
 rw [List.length_map] at h1
 rw [ev69]
 simp -implicitDefEqProofs only [some_bind',obCells_agg,obCells_ob,isOb_ok,isL_ok,isOw_ok,avXs_lst,avXs_ow,avNil_lst,avNil_ow,avNil_sl,avOff_sl,avCut_sl,isAgg_agg,nat_beq_self,List.length_cons,List.length_nil,Nat.reduceAdd,Nat.zero_add,isI_v,isB_v,isS_v,avInt_v,avBool_v,avStr_v,cellAt_zero,cellAt_succ,lget_zero,lget_succ,frAt_zero,frAt_succ,blAt_zero,blAt_succ,isEx_ok,isEx_ne,isEx_none,isRt_some,isRt_none,like_st,likeFG_nil,likeFG_cons,likeBG_nil,likeBG_obj,likeBG_row,likeSG_nil,likeSG_cons,likeT_nil,likeS_nil,isNP_nil,isNP_ob,likeT_ep,isEp_ep,epCells_ep,likeT_agg,likeT_int,likeT_bool,likeT_str,likeT_lst,likeT_sl0,likeT_sl1,likeT_ptr,likeS_int,likeS_bool,likeS_str,likeS_lst,likeS_sl0,likeS_sl1,likeS_ptr,isPtr_ok,isSl_0,isSl_1,beq_self_b,Bool.and_self,Bool.and_true,Bool.true_and,Bool.and_false,Bool.false_and,cond_true,cond_false,Bool.not_true,Bool.not_false,h1]
 by_cases h : acc ws.length (!dn) a 1 = 0
 ·obtain ⟨g1,g2,g3,_⟩ := acc_zero.1 h
  have hlt : a.toNat < ws.length := by omega
  have e1 : ltI a (((ws.map wr).length - 0 : Nat) : Int) = true := ltI_t (by rw [List.length_map]; omega)
  have e2 : ltN a.toNat (ws.map wr).length = true := ltN_t (by rw [List.length_map]; omega)
  rw [if_pos h,h,leI_t g2,e1,e2,get_wr ws _ hlt,set_wr]
  rfl
 ·rw [if_neg h,beq_eq_false_iff_ne.2 h]; rfl
theorem s_Boot (ws : List Int) (dn : Bool) (hl : 1 < ws.length) : ev 43 [ndP ws dn] = some [.v (.int .u64 (ws.getD 1 0))] := by
 rw [ev43,List.length_map,ltI_t (by omega),get_wr ws 1 hl]; rfl
theorem s_Up (b : Bool) (xs : List (List AV)) (dn : Bool) : ev 63 [.ep [.lst b 1 xs,.v (.bool dn)] 0] = some [.v (.bool (!dn))] := by rw [ev63]
theorem s_Lines (b : Bool) (xs : List (List AV)) (dn : Bool) (h : xs.length ≤ 100000) : ev 53 [.ep [.lst b 1 xs,.v (.bool dn)] 0] = some [.v (.int .i64 (xs.length / 8 : Nat))] := by
 rw [ev53,tdiv_pos _ _ (by omega),w_i64]; exact int1 (by omega)
theorem s_Fail (ws : List Int) (dn : Bool) : ev 21 [ndO ws dn] = some [ndO ws true] := by rw [ev21]
def backOk (ws : List Int) (dn : Bool) : Bool := dn && ltI (ws.getD 1 0) 31
def backW (ws : List Int) (dn : Bool) : List Int := bif backOk ws dn then ws.set 1 (IntKind.u64.wrap (ws.getD 1 0 + 1)) else ws
theorem ltI_not (a b : Int) : ltI a b = !(leI b a) := by
 by_cases h : a < b
 ·rw [ltI_t h,leI_f h]; rfl
 ·rw [ltI_f (by omega),leI_t (by omega)]; rfl
theorem s_Back (ws : List Int) (dn : Bool) (hl : 1 < ws.length) : ev 22 [ndO ws dn] = some [.v (.bool (backOk ws dn)),ndO (backW ws dn) (dn && !(backOk ws dn))] := by
 rw [ev22,s_Boot ws dn hl]
 have e1 : ltI 1 (((ws.map wr).length - 0 : Nat) : Int) = true := ltI_t (by rw [List.length_map]; omega)
 have e2 : ltN 1 (ws.map wr).length = true := ltN_t (by rw [List.length_map]; omega)
 unfold backW backOk
 rw [ltI_not (ws.getD 1 0) 31,e1,e2,get_wr ws 1 hl,set_wr]
 simp -implicitDefEqProofs only [some_bind',obCells_agg,obCells_ob,isOb_ok,isL_ok,isOw_ok,avXs_lst,avXs_ow,avNil_lst,avNil_ow,avNil_sl,avOff_sl,avCut_sl,isAgg_agg,nat_beq_self,List.length_cons,List.length_nil,Nat.reduceAdd,Nat.zero_add,isI_v,isB_v,isS_v,avInt_v,avBool_v,avStr_v,cellAt_zero,cellAt_succ,lget_zero,lget_succ,frAt_zero,frAt_succ,blAt_zero,blAt_succ,isEx_ok,isEx_ne,isEx_none,isRt_some,isRt_none,like_st,likeFG_nil,likeFG_cons,likeBG_nil,likeBG_obj,likeBG_row,likeSG_nil,likeSG_cons,likeT_nil,likeS_nil,isNP_nil,isNP_ob,likeT_ep,isEp_ep,epCells_ep,likeT_agg,likeT_int,likeT_bool,likeT_str,likeT_lst,likeT_sl0,likeT_sl1,likeT_ptr,likeS_int,likeS_bool,likeS_str,likeS_lst,likeS_sl0,likeS_sl1,likeS_ptr,isPtr_ok,isSl_0,isSl_1,beq_self_b,Bool.and_self,Bool.and_true,Bool.true_and,Bool.and_false,Bool.false_and,cond_true,cond_false,Bool.not_true,Bool.not_false,wr_eq]
 cases dn
 ·rfl
 ·cases leI 31 (ws.getD 1 0) <;> rfl
theorem s_New (n : Int) (h : 1 ≤ n∧n ≤ 256) : ev 31 [.v (.int .i64 n)] = some [ndO (List.replicate (8 * n.toNat) 0) false,.v (.int .i64 0)] := by
 have e : IntKind.i64.wrap (n * 8) = n * 8 := by rw [w_i64]; omega
 rw [ev31,ltI_f (by omega),ltI_f (by omega),e,leI_t (show 0 ≤ n * 8 by omega),leI_t (Int.le_refl _),leI_t (show n * 8 * 8 ≤ 281474976710656 by omega),leI_t (show n * 8 ≤ 281474976710656 by omega),show (n * 8).toNat = 8 * n.toNat by omega]
 show some [AV.ob _ [AV.ow false _ 1 (List.replicate (8 * n.toNat) (wr 0)),_],_] = _
 rw [← List.map_replicate]
theorem l_SameWords (b c : Bool) (xs ys : List Int) (h : xs.length = ys.length) (hl : xs.length ≤ 100000) : ∀ (k i : Nat),i + k = xs.length →
  lp 15 0 0 ⟨[(0,(.lst b 1 (xs.map wr))),(1,(.lst c 1 (ys.map wr))),(5,(.v (.int .i64 (i : Int))))],[]⟩ =
   some (if xs.drop i = ys.drop i then ⟨some 0,⟨[],[]⟩,[]⟩ else ⟨none,⟨[],[]⟩,[.v (.bool false)]⟩)
 | 0,i,hi => by
  rw [lp15_0,List.length_map,ltI_f (by omega),List.drop_of_length_le (by omega),List.drop_of_length_le (by omega),if_pos rfl]; rfl
 | k + 1,i,hi => by
  have ih := l_SameWords b c xs ys h hl k (i + 1) (by omega)
  have e1 : IntKind.i64.wrap ((i : Int) + 1) = ((i + 1 : Nat) : Int) := by rw [w_i64]; omega
  have h1 : i < xs.length := by omega
  have h2 : i < ys.length := by omega
  rw [lp15_0,List.length_map,List.length_map,ltI_t (by omega),leI_t (by omega),ltI_t (by omega),Int.toNat_natCast,get_wr xs i h1,get_wr ys i h2,e1,ih]
  simp -implicitDefEqProofs only [some_bind',obCells_agg,obCells_ob,isOb_ok,isL_ok,isOw_ok,avXs_lst,avXs_ow,avNil_lst,avNil_ow,avNil_sl,avOff_sl,avCut_sl,isAgg_agg,nat_beq_self,List.length_cons,List.length_nil,Nat.reduceAdd,Nat.zero_add,isI_v,isB_v,isS_v,avInt_v,avBool_v,avStr_v,cellAt_zero,cellAt_succ,lget_zero,lget_succ,frAt_zero,frAt_succ,blAt_zero,blAt_succ,isEx_ok,isEx_ne,isEx_none,isRt_some,isRt_none,like_st,likeFG_nil,likeFG_cons,likeBG_nil,likeBG_obj,likeBG_row,likeSG_nil,likeSG_cons,likeT_nil,likeS_nil,isNP_nil,isNP_ob,likeT_ep,isEp_ep,epCells_ep,likeT_agg,likeT_int,likeT_bool,likeT_str,likeT_lst,likeT_sl0,likeT_sl1,likeT_ptr,likeS_int,likeS_bool,likeS_str,likeS_lst,likeS_sl0,likeS_sl1,likeS_ptr,isPtr_ok,isSl_0,isSl_1,beq_self_b,Bool.and_self,Bool.and_true,Bool.true_and,Bool.and_false,Bool.false_and,cond_true,cond_false,Bool.not_true,Bool.not_false,wr_eq]
  rw [List.drop_eq_getElem_cons h1,List.drop_eq_getElem_cons h2]
  have g1 : xs.getD i 0 = xs[i] := by simp [h1]
  have g2 : ys.getD i 0 = ys[i] := by simp [h2]
  rw [g1,g2]
  by_cases hx : xs[i] = ys[i]
  ·rw [hx,beq_self_i]
   simp only [List.cons.injEq,true_and]
   rfl
  ·rw [beq_eq_false_iff_ne.2 hx,if_neg (fun e => hx (List.cons.inj e).1)]; rfl
theorem s_SameWords (b c : Bool) (xs ys : List Int) (hl : xs.length ≤ 100000) (hk : ys.length ≤ 100000) : ev 15 [.lst b 1 (xs.map wr),.lst c 1 (ys.map wr)] = some [.v (.bool (decide (xs = ys)))] := by
 rw [ev15,List.length_map,List.length_map]
 by_cases h : xs.length = ys.length
 ·rw [h,beq_self_i]
  have := l_SameWords b c xs ys h hl xs.length 0 (by omega)
  rw [List.drop_zero,List.drop_zero] at this
  rw [show (0 : Int) = ((0 : Nat) : Int) from rfl,this]
  by_cases hx : xs = ys
  ·rw [if_pos hx,decide_eq_true hx]; rfl
  ·rw [if_neg hx,decide_eq_false hx]; rfl
 ·rw [beq_eq_false_iff_ne.2 (show (xs.length : Int) ≠ ys.length by omega),decide_eq_false (fun e => h (by rw [e]))]; rfl
end Go.Proofs.Ytkefjdmoikegbaa
