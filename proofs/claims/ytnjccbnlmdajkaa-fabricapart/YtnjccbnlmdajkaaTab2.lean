/- The table of checksums,entry by entry. -/
import Derived.Test.YtnjccbnlmdajkaaTab
import Derived.Test.YtnjccbnlmdajkaaEv11
import Derived.Test.YtnjccbnlmdajkaaEqC
import Derived.Test.YtnjccbnlmdajkaaPiecesS
set_option linter.all false
namespace Go.Proofs.Ytnjccbnlmdajkaa.Tab
open Go.Ev
attribute [local congr] bind_first cond_first
abbrev tr (n : Nat) : List AV := [.v (.int .u64 (n : Int))]
theorem l_in (x1 x3 : Int) (b0 : List (List AV)) : ∀ (k j r : Nat),j + k = 8 → r < 2 ^ 64 →
  lp 82 1 0 ⟨[(0,(.ptr 0 0 0)),(1,(.v (.int .i64 x1))),(2,(.v (.int .u64 (r : Int)))),(3,(.v (.int .i64 x3))),(8,(.v (.int .i64 (j : Int))))],[⟨1,129,1,false,b0⟩]⟩ =
   some ⟨some 2,⟨[(0,(.ptr 0 0 0)),(1,(.v (.int .i64 x1))),(2,(.v (.int .u64 (stepK k r : Nat)))),(3,(.v (.int .i64 x3)))],[⟨1,129,1,false,b0⟩]⟩,[]⟩
 | 0,j,r,hj,hr => by rw [lp82_1,ltI_f (by omega)]; rfl
 | k + 1,j,r,hj,hr => by
  have ih := l_in x1 x3 b0 k (j + 1) (step1 r) (by omega) (step1_lt hr)
  have e1 : IntKind.i64.wrap ((j : Int) + 1) = ((j + 1 : Nat) : Int) := by rw [w_i64]; omega
  have e2 : bits .and .u64 (r : Int) 1 = ((r % 2 : Nat) : Int) := by
   rw [and_u64 1 (by decide) _ 1 (by decide) (by omega) (by omega)]; omega
  have e3 : Int.fdiv (r : Int) 2 = ((r / 2 : Nat) : Int) := fdiv_nat r 2
  have e4 : bits .xor .u64 ((r / 2 : Nat) : Int) 14514072000185962306 = ((r / 2 ^^^ poly : Nat) : Int) := xor_u64 (r / 2) poly (by omega) poly_lt
  rw [lp82_1,ltI_t (by omega),e1,e2,e3,e4]
  simp only [stepK]
  by_cases h : r % 2 = 1
  ·rw [step1_eq,if_pos h] at ih ⊢
   rw [h]; exact ih
  ·rw [step1_eq,if_neg h] at ih ⊢
   rw [beq_eq_false_iff_ne.2 (show ((r % 2 : Nat) : Int) ≠ 1 by omega)]; exact ih
def rows (i : Nat) : List (List AV) := ((List.range i).map fun j => tr (step8 j)) ++ List.replicate (256 - i) (tr 0)
theorem rows_len (i : Nat) (h : i ≤ 256) : (rows i).length = 256 := by
 unfold rows; simp; omega
theorem rows_set (i : Nat) (h : i < 256) : (rows i).set i (tr (step8 i)) = rows (i + 1) := by
 unfold rows
 rw [List.set_append_right _ _ (by simp),List.length_map,List.length_range,Nat.sub_self,show 256 - i = (256 - (i + 1)) + 1 by omega,List.replicate_succ,List.set_cons_zero,List.range_succ,List.map_append,List.append_assoc]
 rfl
theorem l_out : ∀ (k i : Nat),i + k = 256 →
  lp 82 0 0 ⟨[(0,(.ptr 0 0 0)),(3,(.v (.int .i64 (i : Int))))],[⟨1,129,1,false,rows i⟩]⟩ =
   some ⟨some 0,⟨[(0,(.ptr 0 0 0))],[⟨1,129,1,false,rows 256⟩]⟩,[]⟩
 | 0,i,hi => by
  obtain rfl : i = 256 := by omega
  rw [lp82_0,ltI_f (by omega)]; rfl
 | k + 1,i,hi => by
  have ih := l_out k (i + 1) (by omega)
  have e1 : IntKind.i64.wrap ((i : Int) + 1) = ((i + 1 : Nat) : Int) := by rw [w_i64]; omega
  have e2 : IntKind.u64.wrap (i : Int) = (i : Int) := by rw [w_u64]; omega
  have a := l_in (i : Int) (i : Int) (rows i) 8 0 i (by omega) (by omega)
  have hs := rows_set i (by omega)
  have hl := rows_len i (by omega)
  rw [lp82_0,ltI_t (by omega),e2,show (0 : Int) = ((0 : Nat) : Int) from rfl,a]
  generalize rows i = R at *
  simp -implicitDefEqProofs only [some_bind',obCells_agg,obCells_ob,isOb_ok,isL_ok,isOw_ok,avXs_lst,avXs_ow,avNil_lst,avNil_ow,avNil_sl,avOff_sl,avCut_sl,isAgg_agg,nat_beq_self,List.length_cons,List.length_nil,Nat.reduceAdd,Nat.zero_add,isI_v,isB_v,isS_v,avInt_v,avBool_v,avStr_v,cellAt_zero,cellAt_succ,lget_zero,lget_succ,frAt_zero,frAt_succ,blAt_zero,blAt_succ,isEx_ok,isEx_ne,isEx_none,isRt_some,isRt_none,like_st,likeFG_nil,likeFG_cons,likeBG_nil,likeBG_obj,likeBG_row,likeSG_nil,likeSG_cons,likeT_nil,likeS_nil,isNP_nil,isNP_ob,likeT_ep,isEp_ep,epCells_ep,likeT_agg,likeT_int,likeT_bool,likeT_str,likeT_lst,likeT_sl0,likeT_sl1,likeT_ptr,likeS_int,likeS_bool,likeS_str,likeS_lst,likeS_sl0,likeS_sl1,likeS_ptr,isPtr_ok,isSl_0,isSl_1,beq_self_b,Bool.and_self,Bool.and_true,Bool.true_and,Bool.and_false,Bool.false_and,cond_true,cond_false,Bool.not_true,Bool.not_false,leI_t (show ((0 : Nat) : Int) ≤ (i : Int) by omega),ltI_t (show (i : Int) < 256 by omega),Int.toNat_natCast,hl,ltN_t (show i < 256 by omega),e1]
  rw [← ih,← hs]
  rfl
theorem all_tr (i : Nat) : (rows i).all rowV1 = true := by
 unfold rows
 simp only [List.all_append,List.all_map,Bool.and_eq_true,List.all_eq_true]
 refine ⟨fun _ _ => rfl,fun x hx => ?_⟩
 obtain ⟨_,rfl⟩ := List.mem_replicate.1 hx
 rfl
theorem map_tr : (rows 256).map (fun e => cellAt e 0) = (List.range 256).map fun i => AV.v (.int .u64 (step8 i : Nat)) := by
 unfold rows
 rw [Nat.sub_self,List.replicate_zero,List.append_nil,List.map_map]
 rfl
theorem all_v (l : List Nat) (f : Nat → Nat) : (l.map fun i => AV.v (.int .u64 (f i : Nat))).all isV = true := by
 simp only [List.all_map,List.all_eq_true]
 exact fun _ _ => rfl
set_option maxRecDepth 100000 in
theorem s_table : ev 82 [] = some [.agg ((List.range 256).map fun i => .v (.int .u64 (step8 i : Nat)))] := by
 have h := l_out 256 0 rfl
 have hm := map_tr
 have hl := rows_len 256 (Nat.le_refl _)
 have ha := all_tr 256
 have hv := all_v (List.range 256) step8
 have hm2 : (List.map (fun c => [c]) ((List.range 256).map fun i => AV.v (.int .u64 (step8 i : Nat)))) = rows 256 := by
  unfold rows
  rw [Nat.sub_self,List.replicate_zero,List.append_nil,List.map_map]
  rfl
 have hml : ((List.range 256).map fun i => AV.v (.int .u64 (step8 i : Nat))).length = 256 := by rw [List.length_map,List.length_range]
 refine (ev82).trans ?_
 refine bnd h ?_
 generalize rows 256 = R at *
 generalize (List.range 256).map (fun i => AV.v (.int .u64 (step8 i : Nat))) = T at *
 refine (show _ = cond (eqN R.length 256 && R.all rowV1) (cond (eqN R.length 256 && (eqN (R.map fun e => cellAt e 0).length 256 && (R.map fun e => cellAt e 0).all isV)) (cond (eqN ((R.map fun e => cellAt e 0).map fun c => [c]).length 256 && ((R.map fun e => cellAt e 0).map fun c => [c]).all rowV1) (cond ((((R.map fun e => cellAt e 0).map fun c => [c]).map fun e => cellAt e 0).all isV) (some [AV.agg (((R.map fun e => cellAt e 0).map fun c => [c]).map fun e => cellAt e 0)]) none) none) none) none from rfl).trans ?_
 rw [hm,hm2,hm,hl,ha,hv,hml]
 rfl
end Go.Proofs.Ytnjccbnlmdajkaa.Tab
namespace Go.Proofs.Ytnjccbnlmdajkaa.B
open Go.Ev Go.RowKit
attribute [local congr] bind_first cond_first
theorem mix : Try.prog.follows .mixedOrders = true := by kernel_rfl
theorem tabL_eq : tabL = (List.range 256).map fun i => AV.v (.int .u64 (step8 i : Nat)) := rfl
theorem extOk : ExtS Try.prog cfg := by
 refine extS_ev (C' := Tab.cfg) mix (extS_none fun _ => rfl) fun f g xs rs hf hg => ?_
 change extF f = some g at hf
 unfold extF at hf
 split at hf
 ·obtain rfl := Option.some.inj hf
  simp only at hg
  split at hg
  ·obtain rfl := Option.some.inj hg
   rw [tabL_eq]
   exact evF_of_evL Tab.s_table
  ·cases hg
 ·cases hf
theorem drop_cons (l : List Nat) (i : Nat) (h : i < l.length) : l.drop i = l.getD i 0 :: l.drop (i + 1) := by
 rw [List.drop_eq_getElem_cons h]; simp [h]
theorem tab_get (i : Nat) (h : i < 256) : cellAt tabL i = .v (.int .u64 (step8 i : Nat)) := by
 rw [tabL_eq,cellAt,List.getD_eq_getElem?_getD,List.getElem?_map,List.getElem?_range h]; rfl
theorem upd_split (r x : Nat) (hx : x < 256) : r / 256 ^^^ step8 (r % 256 ^^^ x) = upd r x := by
 unfold upd
 rw [step8_split (r ^^^ x)]
 have h1 : (r ^^^ x) / 256 = r / 256 := by
  have : (r ^^^ x) / 2 ^ 8 = r / 2 ^ 8 ^^^ x / 2 ^ 8 := Nat.xor_div_two_pow
  rw [show x / 2 ^ 8 = 0 by omega,Nat.xor_zero] at this
  exact this
 have h2 : (r ^^^ x) % 256 = r % 256 ^^^ x := by
  have : (r ^^^ x) % 2 ^ 8 = r % 2 ^ 8 ^^^ x % 2 ^ 8 := Nat.xor_mod_two_pow
  rw [show x % 2 ^ 8 = x by omega] at this
  exact this
 rw [h1,h2]
theorem l_add (b : Bool) (l : List Nat) (hl : l.length ≤ 1000000) (hb : ∀ x ∈ l,x < 256) : ∀ (k i r : Nat),i + k = l.length → r < 2 ^ 64 →
  lp 83 0 0 ⟨[(0,(.v (.int .u64 (r : Int)))),(1,(.ep tabL 0)),(9,(.lst b 1 (bts l))),(10,(.v (.int .i64 (l.length : Int)))),(11,(.v (.int .i64 (i : Int))))],[]⟩ =
   some ⟨some 0,⟨[(0,(.v (.int .u64 (crcR r (l.drop i) : Nat))))],[]⟩,[]⟩
 | 0,i,r,hi,hr => by rw [lp83_0,ltI_f (by omega),List.drop_of_length_le (by omega)]; rfl
 | k + 1,i,r,hi,hr => by
  have hlt : i < l.length := by omega
  have hx := hb _ (mem_getD l 0 i hlt)
  have ih := l_add b l hl hb k (i + 1) (upd r (l.getD i 0)) (by omega) (upd_lt hr hx)
  rw [lp83_0,ltI_t (by omega),leI_t (by omega),bts_len,ltI_t (by omega),Int.toNat_natCast,get_bts l i hlt,drop_cons l i hlt]
  generalize l.getD i 0 = x at *
  have e0 : IntKind.u8.wrap (r : Int) = ((r % 256 : Nat) : Int) := by rw [w_u8]; rfl
  have hx2 : r % 256 ^^^ x < 2 ^ 8 := Nat.xor_lt_two_pow (by omega) (by omega)
  have e1 : bits .xor .u8 ((r % 256 : Nat) : Int) (x : Int) = ((r % 256 ^^^ x : Nat) : Int) := xor_u8 _ _ (by omega) hx
  have e2 : Int.fdiv (r : Int) 256 = ((r / 256 : Nat) : Int) := fdiv_nat r 256
  have e3 : IntKind.i64.wrap ((i : Int) + 1) = ((i + 1 : Nat) : Int) := by rw [w_i64]; omega
  have e4 : bits .xor .u64 ((r / 256 : Nat) : Int) ((step8 (r % 256 ^^^ x) : Nat) : Int) = ((r / 256 ^^^ step8 (r % 256 ^^^ x) : Nat) : Int) := xor_u64 _ _ (by omega) (step8_lt (byte_lt hx2))
  have e5 : 0 + (r % 256 ^^^ x) * 1 = r % 256 ^^^ x := by omega
  simp only [bt,cellAt_zero,isI_v,avInt_v,cond_true,e0,e1,e2,e3,Int.toNat_natCast,e5,tab_get _ hx2,leI_t (show (0 : Int) ≤ ((r % 256 ^^^ x : Nat) : Int) by omega),ltI_t (show ((r % 256 ^^^ x : Nat) : Int) < 256 by omega),Bool.and_self,e4]
  rw [upd_split r x hx]
  exact ih
set_option maxRecDepth 100000 in
theorem s_Extend (b : Bool) (s : Nat) (l : List Nat) (hs : s < 2 ^ 64) (hl : l.length ≤ 1000000) (hb : ∀ x ∈ l,x < 256) : ev 77 [.v (.int .u64 (s : Int)),.lst b 1 (bts l)] = some [.v (.int .u64 (crcX s l : Nat))] := by
 have hs2 : ones ^^^ s < 2 ^ 64 := Nat.xor_lt_two_pow ones_lt hs
 have e : bits .xor .u64 18446744073709551615 (s : Int) = ((ones ^^^ s : Nat) : Int) := xor_u64 ones s ones_lt hs
 have h := l_add b l hl hb l.length 0 (ones ^^^ s) (by omega) hs2
 have h2 : ev 83 [.v (.int .u64 (ones ^^^ s : Nat)),.ep tabL 0,.lst b 1 (bts l)] = some [.v (.int .u64 (crcR (ones ^^^ s) l : Nat))] := by
  rw [ev83,bts_len]
  exact bnd h rfl
 refine (ev77 _ _ _).trans ?_
 rw [e]
 refine bnd h2 ?_
 have e2 : bits .xor .u64 18446744073709551615 ((crcR (ones ^^^ s) l : Nat) : Int) = ((crcX s l : Nat) : Int) := xor_u64 ones _ ones_lt (crcR_lt hs2 hb)
 show some [AV.v (.int .u64 (bits .xor .u64 18446744073709551615 ((crcR (ones ^^^ s) l : Nat) : Int)))] = _
 rw [e2]
theorem s_Bytes (b : Bool) (l : List Nat) (hl : l.length ≤ 1000000) (hb : ∀ x ∈ l,x < 256) : ev 64 [.lst b 1 (bts l)] = some [.v (.int .u64 (crcX 0 l : Nat))] := by
 rw [ev64]
 exact bnd (s_Extend b 0 l (by decide) hl hb) rfl
end Go.Proofs.Ytnjccbnlmdajkaa.B
