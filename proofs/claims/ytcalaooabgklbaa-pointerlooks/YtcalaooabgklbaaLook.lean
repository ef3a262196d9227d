/- The last page of a line; what is found at a pointer. -/
import Derived.Test.YtcalaooabgklbaaBase
import Derived.Test.YtcalaooabgklbaaTyp
set_option linter.all false
namespace Go.Proofs.Ytcalaooabgklbaa
open Go.Ev
attribute [local congr] bind_first cond_first

/-- Among the first k pages the last one of a line. -/
def lat (ps : List Pg) (x : Int) : Nat → Option Pg
  | 0 => none
  | k + 1 => cond ((ps.getD k pz).l == x) (some (ps.getD k pz)) (lat ps x k)
def down (o : Option Pg) : LR := match o with
  | none => ⟨some 0, ⟨[(4, .ptr 0 0 0)], [⟨1, 43, 9, true, [zero9]⟩]⟩, []⟩
  | some p => ⟨none, ⟨[], []⟩, [.agg p.row, .v (.bool true)]⟩
theorem lp28 (m : Nat) (ps : List Pg) (b : Bool) (x : Int) (hl : ps.length ≤ 1000) : ∀ (k n : Nat), k ≤ ps.length → k + 1 ≤ n →
    lp m n 28 0 0 ⟨[(0, (.lst b 9 (ps.map Pg.row))), (1, (.v (.int .i64 x))), (4, (.ptr 0 0 0)), (6, (.v (.int .i64 ((k : Int) - 1))))], [⟨1, 43, 9, true, [zero9]⟩]⟩ = some (down (lat ps x k))
  | 0, n + 1, _, _ => by
    rw [lp28_0, leI_f (by omega)]; rfl
  | k + 1, n + 1, hk, hn => by
    have ih := lp28 m ps b x hl k n (by omega) (by omega)
    rw [lp28_0]
    have e : (((k + 1 : Nat) : Int) - 1) = (k : Int) := by omega
    have e2 : lget (ps.map Pg.row) k = Pg.row (ps.getD k pz) := lget_mapD Pg.row ps pz k (by omega)
    have e3 : IntKind.i64.wrap ((k : Int) - 1) = (k : Int) - 1 := by rw [w_i64]; omega
    simp -implicitDefEqProofs only [some_bind', obCells_agg, obCells_ob, isOb_ok, isL_ok, isOw_ok, avXs_lst, avXs_ow, avNil_lst, avNil_ow, avNil_sl, avOff_sl, avCut_sl, isAgg_agg, nat_beq_self, List.length_cons, List.length_nil, Nat.reduceAdd, Nat.zero_add, isI_v, isB_v, isS_v, avInt_v, avBool_v, avStr_v, cellAt_zero, cellAt_succ, lget_zero, lget_succ, frAt_zero, frAt_succ, blAt_zero, blAt_succ, isEx_ok, isEx_ne, isEx_none, isRt_some, isRt_none, like_st, likeFG_nil, likeFG_cons, likeBG_nil, likeBG_obj, likeBG_row, likeSG_nil, likeSG_cons, likeT_agg, likeT_int, likeT_bool, likeT_str, likeT_lst, likeT_sl0, likeT_sl1, likeT_ptr, likeS_int, likeS_bool, likeS_str, likeS_lst, likeS_sl0, likeS_sl1, likeS_ptr, isPtr_ok, isSl_0, isSl_1, beq_self_b, Bool.and_self, Bool.and_true, Bool.true_and, Bool.and_false, Bool.false_and, cond_true, cond_false, Bool.not_true, Bool.not_false, e, leI_t (show (0 : Int) ≤ (k : Int) by omega), List.length_map, ltI_t (show (k : Int) < (ps.length : Int) by omega), Int.toNat_natCast, e2, Pg.row_eq, e3]
    rw [lat]
    cases h : ((ps.getD k pz).l == x) with
    | true => simp -implicitDefEqProofs only [some_bind', obCells_agg, obCells_ob, isOb_ok, isL_ok, isOw_ok, avXs_lst, avXs_ow, avNil_lst, avNil_ow, avNil_sl, avOff_sl, avCut_sl, isAgg_agg, nat_beq_self, List.length_cons, List.length_nil, Nat.reduceAdd, Nat.zero_add, isI_v, isB_v, isS_v, avInt_v, avBool_v, avStr_v, cellAt_zero, cellAt_succ, lget_zero, lget_succ, frAt_zero, frAt_succ, blAt_zero, blAt_succ, isEx_ok, isEx_ne, isEx_none, isRt_some, isRt_none, like_st, likeFG_nil, likeFG_cons, likeBG_nil, likeBG_obj, likeBG_row, likeSG_nil, likeSG_cons, likeT_agg, likeT_int, likeT_bool, likeT_str, likeT_lst, likeT_sl0, likeT_sl1, likeT_ptr, likeS_int, likeS_bool, likeS_str, likeS_lst, likeS_sl0, likeS_sl1, likeS_ptr, isPtr_ok, isSl_0, isSl_1, beq_self_b, Bool.and_self, Bool.and_true, Bool.true_and, Bool.and_false, Bool.false_and, cond_true, cond_false, Bool.not_true, Bool.not_false]; rfl
    | false => simp -implicitDefEqProofs only [some_bind', obCells_agg, obCells_ob, isOb_ok, isL_ok, isOw_ok, avXs_lst, avXs_ow, avNil_lst, avNil_ow, avNil_sl, avOff_sl, avCut_sl, isAgg_agg, nat_beq_self, List.length_cons, List.length_nil, Nat.reduceAdd, Nat.zero_add, isI_v, isB_v, isS_v, avInt_v, avBool_v, avStr_v, cellAt_zero, cellAt_succ, lget_zero, lget_succ, frAt_zero, frAt_succ, blAt_zero, blAt_succ, isEx_ok, isEx_ne, isEx_none, isRt_some, isRt_none, like_st, likeFG_nil, likeFG_cons, likeBG_nil, likeBG_obj, likeBG_row, likeSG_nil, likeSG_cons, likeT_agg, likeT_int, likeT_bool, likeT_str, likeT_lst, likeT_sl0, likeT_sl1, likeT_ptr, likeS_int, likeS_bool, likeS_str, likeS_lst, likeS_sl0, likeS_sl1, likeS_ptr, isPtr_ok, isSl_0, isSl_1, beq_self_b, Bool.and_self, Bool.and_true, Bool.true_and, Bool.and_false, Bool.false_and, cond_true, cond_false, Bool.not_true, Bool.not_false]; exact ih
theorem s28 (n : Nat) (ps : List Pg) (b : Bool) (x : Int) (hl : ps.length ≤ 1000) (hn : ps.length + 2 ≤ n) :
    ev n 28 [.lst b 9 (ps.map Pg.row), .v (.int .i64 x)] = some [.agg ((lat ps x ps.length).getD pz).row, .v (.bool (lat ps x ps.length).isSome)] := by
  obtain ⟨n, rfl⟩ : ∃ m, n = m + 1 := ⟨n - 1, by omega⟩
  rw [ev28]
  have e3 : IntKind.i64.wrap (((ps.map Pg.row).length : Int) - 1) = (ps.length : Int) - 1 := by rw [List.length_map, w_i64]; omega
  rw [e3, lp28 n ps b x hl ps.length n (Nat.le_refl _) (by omega)]
  cases lat ps x ps.length with
  | none => simp -implicitDefEqProofs only [some_bind', obCells_agg, obCells_ob, isOb_ok, isL_ok, isOw_ok, avXs_lst, avXs_ow, avNil_lst, avNil_ow, avNil_sl, avOff_sl, avCut_sl, isAgg_agg, nat_beq_self, List.length_cons, List.length_nil, Nat.reduceAdd, Nat.zero_add, isI_v, isB_v, isS_v, avInt_v, avBool_v, avStr_v, cellAt_zero, cellAt_succ, lget_zero, lget_succ, frAt_zero, frAt_succ, blAt_zero, blAt_succ, isEx_ok, isEx_ne, isEx_none, isRt_some, isRt_none, like_st, likeFG_nil, likeFG_cons, likeBG_nil, likeBG_obj, likeBG_row, likeSG_nil, likeSG_cons, likeT_agg, likeT_int, likeT_bool, likeT_str, likeT_lst, likeT_sl0, likeT_sl1, likeT_ptr, likeS_int, likeS_bool, likeS_str, likeS_lst, likeS_sl0, likeS_sl1, likeS_ptr, isPtr_ok, isSl_0, isSl_1, beq_self_b, Bool.and_self, Bool.and_true, Bool.true_and, Bool.and_false, Bool.false_and, cond_true, cond_false, Bool.not_true, Bool.not_false, down]; rfl
  | some p => simp -implicitDefEqProofs only [some_bind', obCells_agg, obCells_ob, isOb_ok, isL_ok, isOw_ok, avXs_lst, avXs_ow, avNil_lst, avNil_ow, avNil_sl, avOff_sl, avCut_sl, isAgg_agg, nat_beq_self, List.length_cons, List.length_nil, Nat.reduceAdd, Nat.zero_add, isI_v, isB_v, isS_v, avInt_v, avBool_v, avStr_v, cellAt_zero, cellAt_succ, lget_zero, lget_succ, frAt_zero, frAt_succ, blAt_zero, blAt_succ, isEx_ok, isEx_ne, isEx_none, isRt_some, isRt_none, like_st, likeFG_nil, likeFG_cons, likeBG_nil, likeBG_obj, likeBG_row, likeSG_nil, likeSG_cons, likeT_agg, likeT_int, likeT_bool, likeT_str, likeT_lst, likeT_sl0, likeT_sl1, likeT_ptr, likeS_int, likeS_bool, likeS_str, likeS_lst, likeS_sl0, likeS_sl1, likeS_ptr, isPtr_ok, isSl_0, isSl_1, beq_self_b, Bool.and_self, Bool.and_true, Bool.true_and, Bool.and_false, Bool.false_and, cond_true, cond_false, Bool.not_true, Bool.not_false, down]; rfl
theorem lp36 (m : Nat) (ps : List Pg) (b : Bool) (x : Int) (hl : ps.length ≤ 1000) : ∀ (j k n : Nat), j + k = ps.length → j + 1 ≤ n →
    lp m n 36 0 0 ⟨[(0, (.lst b 9 (ps.map Pg.row))), (1, (.v (.int .i64 x))), (4, (.ptr 0 0 0)), (6, (.ptr 1 0 0)), (7, (.v (.bool (lat ps x k).isSome))), (8, (.v (.int .i64 (k : Int))))], [⟨1, 43, 9, true, [zero9]⟩, ⟨1, 43, 9, true, [((lat ps x k).getD pz).row]⟩]⟩ =
      some ⟨some 0, ⟨[(4, .ptr 0 0 0), (6, .ptr 1 0 0), (7, .v (.bool (lat ps x ps.length).isSome))], [⟨1, 43, 9, true, [zero9]⟩, ⟨1, 43, 9, true, [((lat ps x ps.length).getD pz).row]⟩]⟩, []⟩
  | 0, k, n + 1, hk, _ => by
    obtain rfl : k = ps.length := by omega
    rw [Pg.row_eq, lp36_0, List.length_map, ltI_f (by omega)]; rfl
  | j + 1, k, n + 1, hk, hn => by
    have ih := lp36 m ps b x hl j (k + 1) n (by omega) (by omega)
    rw [Pg.row_eq, lp36_0]
    have e2 : lget (ps.map Pg.row) k = Pg.row (ps.getD k pz) := lget_mapD Pg.row ps pz k (by omega)
    have e3 : IntKind.i64.wrap ((k : Int) + 1) = ((k + 1 : Nat) : Int) := by rw [w_i64]; omega
    simp -implicitDefEqProofs only [some_bind', obCells_agg, obCells_ob, isOb_ok, isL_ok, isOw_ok, avXs_lst, avXs_ow, avNil_lst, avNil_ow, avNil_sl, avOff_sl, avCut_sl, isAgg_agg, nat_beq_self, List.length_cons, List.length_nil, Nat.reduceAdd, Nat.zero_add, isI_v, isB_v, isS_v, avInt_v, avBool_v, avStr_v, cellAt_zero, cellAt_succ, lget_zero, lget_succ, frAt_zero, frAt_succ, blAt_zero, blAt_succ, isEx_ok, isEx_ne, isEx_none, isRt_some, isRt_none, like_st, likeFG_nil, likeFG_cons, likeBG_nil, likeBG_obj, likeBG_row, likeSG_nil, likeSG_cons, likeT_agg, likeT_int, likeT_bool, likeT_str, likeT_lst, likeT_sl0, likeT_sl1, likeT_ptr, likeS_int, likeS_bool, likeS_str, likeS_lst, likeS_sl0, likeS_sl1, likeS_ptr, isPtr_ok, isSl_0, isSl_1, beq_self_b, Bool.and_self, Bool.and_true, Bool.true_and, Bool.and_false, Bool.false_and, cond_true, cond_false, Bool.not_true, Bool.not_false, leI_t (show (0 : Int) ≤ (k : Int) by omega), List.length_map, ltI_t (show (k : Int) < (ps.length : Int) by omega), Int.toNat_natCast, e2, Pg.row_eq, e3]
    rw [lat] at ih
    cases h : ((ps.getD k pz).l == x) with
    | true => simp -implicitDefEqProofs only [some_bind', obCells_agg, obCells_ob, isOb_ok, isL_ok, isOw_ok, avXs_lst, avXs_ow, avNil_lst, avNil_ow, avNil_sl, avOff_sl, avCut_sl, isAgg_agg, nat_beq_self, List.length_cons, List.length_nil, Nat.reduceAdd, Nat.zero_add, isI_v, isB_v, isS_v, avInt_v, avBool_v, avStr_v, cellAt_zero, cellAt_succ, lget_zero, lget_succ, frAt_zero, frAt_succ, blAt_zero, blAt_succ, isEx_ok, isEx_ne, isEx_none, isRt_some, isRt_none, like_st, likeFG_nil, likeFG_cons, likeBG_nil, likeBG_obj, likeBG_row, likeSG_nil, likeSG_cons, likeT_agg, likeT_int, likeT_bool, likeT_str, likeT_lst, likeT_sl0, likeT_sl1, likeT_ptr, likeS_int, likeS_bool, likeS_str, likeS_lst, likeS_sl0, likeS_sl1, likeS_ptr, isPtr_ok, isSl_0, isSl_1, beq_self_b, Bool.and_self, Bool.and_true, Bool.true_and, Bool.and_false, Bool.false_and, cond_true, cond_false, Bool.not_true, Bool.not_false]; rw [h] at ih; exact ih
    | false => simp -implicitDefEqProofs only [some_bind', obCells_agg, obCells_ob, isOb_ok, isL_ok, isOw_ok, avXs_lst, avXs_ow, avNil_lst, avNil_ow, avNil_sl, avOff_sl, avCut_sl, isAgg_agg, nat_beq_self, List.length_cons, List.length_nil, Nat.reduceAdd, Nat.zero_add, isI_v, isB_v, isS_v, avInt_v, avBool_v, avStr_v, cellAt_zero, cellAt_succ, lget_zero, lget_succ, frAt_zero, frAt_succ, blAt_zero, blAt_succ, isEx_ok, isEx_ne, isEx_none, isRt_some, isRt_none, like_st, likeFG_nil, likeFG_cons, likeBG_nil, likeBG_obj, likeBG_row, likeSG_nil, likeSG_cons, likeT_agg, likeT_int, likeT_bool, likeT_str, likeT_lst, likeT_sl0, likeT_sl1, likeT_ptr, likeS_int, likeS_bool, likeS_str, likeS_lst, likeS_sl0, likeS_sl1, likeS_ptr, isPtr_ok, isSl_0, isSl_1, beq_self_b, Bool.and_self, Bool.and_true, Bool.true_and, Bool.and_false, Bool.false_and, cond_true, cond_false, Bool.not_true, Bool.not_false]; rw [h] at ih; exact ih
theorem s36 (n : Nat) (ps : List Pg) (b : Bool) (x : Int) (hl : ps.length ≤ 1000) (hn : ps.length + 2 ≤ n) :
    ev n 36 [.lst b 9 (ps.map Pg.row), .v (.int .i64 x)] = some [.agg ((lat ps x ps.length).getD pz).row, .v (.bool (lat ps x ps.length).isSome)] := by
  obtain ⟨n, rfl⟩ : ∃ m, n = m + 1 := ⟨n - 1, by omega⟩
  rw [ev36]
  have h := lp36 n ps b x hl ps.length 0 n (by omega) (by omega)
  refine bnd h ?_
  simp -implicitDefEqProofs only [some_bind', obCells_agg, obCells_ob, isOb_ok, isL_ok, isOw_ok, avXs_lst, avXs_ow, avNil_lst, avNil_ow, avNil_sl, avOff_sl, avCut_sl, isAgg_agg, nat_beq_self, List.length_cons, List.length_nil, Nat.reduceAdd, Nat.zero_add, isI_v, isB_v, isS_v, avInt_v, avBool_v, avStr_v, cellAt_zero, cellAt_succ, lget_zero, lget_succ, frAt_zero, frAt_succ, blAt_zero, blAt_succ, isEx_ok, isEx_ne, isEx_none, isRt_some, isRt_none, like_st, likeFG_nil, likeFG_cons, likeBG_nil, likeBG_obj, likeBG_row, likeSG_nil, likeSG_cons, likeT_agg, likeT_int, likeT_bool, likeT_str, likeT_lst, likeT_sl0, likeT_sl1, likeT_ptr, likeS_int, likeS_bool, likeS_str, likeS_lst, likeS_sl0, likeS_sl1, likeS_ptr, isPtr_ok, isSl_0, isSl_1, beq_self_b, Bool.and_self, Bool.and_true, Bool.true_and, Bool.and_false, Bool.false_and, cond_true, cond_false, Bool.not_true, Bool.not_false, Pg.row_eq]
theorem lat_mem (ps : List Pg) (x : Int) : ∀ k, k ≤ ps.length → ∀ p, lat ps x k = some p → p ∈ ps
  | 0, _, _, h => by cases h
  | k + 1, hk, p, h => by
    rw [lat] at h
    cases h2 : ((ps.getD k pz).l == x) with
    | true => rw [h2] at h; cases h; exact mem_getD ps pz k (by omega)
    | false => rw [h2] at h; exact lat_mem ps x k (by omega) p h

/-- What is found at a pointer. -/
def lookR (o : Option Pg) (l g k : Int) (locks : Bool) : List AV :=
  cond (valid l g)
    (match o with
    | none => [.agg zero9, .v (.bool false), .v (.int .i64 0)]
    | some p =>
      cond (locks && !(p.h % 256 == 0)) [.agg zero9, .v (.bool false), .v (.int .i64 3)]
        (cond (p.d0 % 256 == 0) [.agg zero9, .v (.bool false), .v (.int .i64 11)]
          (cond (p.d0 / 256 % 16777216 == g)
            (cond (p.d0 % 256 == k) [.agg p.row, .v (.bool true), .v (.int .i64 0)] [.agg zero9, .v (.bool false), .v (.int .i64 14)])
            [.agg zero9, .v (.bool false), .v (.int .i64 11)])))
    [.agg zero9, .v (.bool false), .v (.int .i64 1)]
section
variable (ps : List Pg) (b : Bool) (l g k : Int) (locks : Bool) (hl : ps.length ≤ 1000) (hp : ∀ p ∈ ps, p.ok)
include hl hp
theorem s45 (n : Nat) : ev (ps.length + n + 6) 45 [.lst b 9 (ps.map Pg.row), .agg [.v (.int .i64 l), .v (.int .i64 g)], .v (.int .i64 k), .v (.bool locks)] = some (lookR (lat ps l ps.length) l g k locks) := by
  rw [ev45]
  have h28 := s28 (ps.length + n + 5) ps b l hl (by omega)
  unfold lookR
  cases hv : valid l g with
  | false => simp -implicitDefEqProofs only [some_bind', obCells_agg, obCells_ob, isOb_ok, isL_ok, isOw_ok, avXs_lst, avXs_ow, avNil_lst, avNil_ow, avNil_sl, avOff_sl, avCut_sl, isAgg_agg, nat_beq_self, List.length_cons, List.length_nil, Nat.reduceAdd, Nat.zero_add, isI_v, isB_v, isS_v, avInt_v, avBool_v, avStr_v, cellAt_zero, cellAt_succ, lget_zero, lget_succ, frAt_zero, frAt_succ, blAt_zero, blAt_succ, isEx_ok, isEx_ne, isEx_none, isRt_some, isRt_none, like_st, likeFG_nil, likeFG_cons, likeBG_nil, likeBG_obj, likeBG_row, likeSG_nil, likeSG_cons, likeT_agg, likeT_int, likeT_bool, likeT_str, likeT_lst, likeT_sl0, likeT_sl1, likeT_ptr, likeS_int, likeS_bool, likeS_str, likeS_lst, likeS_sl0, likeS_sl1, likeS_ptr, isPtr_ok, isSl_0, isSl_1, beq_self_b, Bool.and_self, Bool.and_true, Bool.true_and, Bool.and_false, Bool.false_and, cond_true, cond_false, Bool.not_true, Bool.not_false, s16, hv]
  | true =>
    cases ho : lat ps l ps.length with
    | none => simp -implicitDefEqProofs only [some_bind', obCells_agg, obCells_ob, isOb_ok, isL_ok, isOw_ok, avXs_lst, avXs_ow, avNil_lst, avNil_ow, avNil_sl, avOff_sl, avCut_sl, isAgg_agg, nat_beq_self, List.length_cons, List.length_nil, Nat.reduceAdd, Nat.zero_add, isI_v, isB_v, isS_v, avInt_v, avBool_v, avStr_v, cellAt_zero, cellAt_succ, lget_zero, lget_succ, frAt_zero, frAt_succ, blAt_zero, blAt_succ, isEx_ok, isEx_ne, isEx_none, isRt_some, isRt_none, like_st, likeFG_nil, likeFG_cons, likeBG_nil, likeBG_obj, likeBG_row, likeSG_nil, likeSG_cons, likeT_agg, likeT_int, likeT_bool, likeT_str, likeT_lst, likeT_sl0, likeT_sl1, likeT_ptr, likeS_int, likeS_bool, likeS_str, likeS_lst, likeS_sl0, likeS_sl1, likeS_ptr, isPtr_ok, isSl_0, isSl_1, beq_self_b, Bool.and_self, Bool.and_true, Bool.true_and, Bool.and_false, Bool.false_and, cond_true, cond_false, Bool.not_true, Bool.not_false, s16, hv, h28, ho, Option.isSome, Option.getD, Pg.row_eq]
    | some p =>
      have hq := hp p (lat_mem ps l _ (Nat.le_refl _) p ho)
      obtain ⟨_, hh, hd, _⟩ := hq
      have h42 := fun n => s42 n (l := p.l) (h := p.h) (d0 := p.d0) (d1 := p.d1) (d2 := p.d2) (d3 := p.d3) (d4 := p.d4) (d5 := p.d5) (d6 := p.d6) hd.1 (by have := hd.2; omega)
      have h23 := fun n => s23 n (l := p.l) (h := p.h) (d0 := p.d0) (d1 := p.d1) (d2 := p.d2) (d3 := p.d3) (d4 := p.d4) (d5 := p.d5) (d6 := p.d6) hh.1 (by have := hh.2; omega)
      have eg : ∀ c : Bool, (c == !(p.d0 / 256 % 16777216 == g)) = (c == !(p.d0 / 256 % 16777216 == g)) := fun _ => rfl
      cases locks <;> cases h4 : (p.h % 256 == 0) <;> cases h5 : (p.d0 % 256 == 0) <;> cases h6 : (p.d0 / 256 % 16777216 == g) <;> cases h7 : (p.d0 % 256 == k) <;>
        simp -implicitDefEqProofs only [some_bind', obCells_agg, obCells_ob, isOb_ok, isL_ok, isOw_ok, avXs_lst, avXs_ow, avNil_lst, avNil_ow, avNil_sl, avOff_sl, avCut_sl, isAgg_agg, nat_beq_self, List.length_cons, List.length_nil, Nat.reduceAdd, Nat.zero_add, isI_v, isB_v, isS_v, avInt_v, avBool_v, avStr_v, cellAt_zero, cellAt_succ, lget_zero, lget_succ, frAt_zero, frAt_succ, blAt_zero, blAt_succ, isEx_ok, isEx_ne, isEx_none, isRt_some, isRt_none, like_st, likeFG_nil, likeFG_cons, likeBG_nil, likeBG_obj, likeBG_row, likeSG_nil, likeSG_cons, likeT_agg, likeT_int, likeT_bool, likeT_str, likeT_lst, likeT_sl0, likeT_sl1, likeT_ptr, likeS_int, likeS_bool, likeS_str, likeS_lst, likeS_sl0, likeS_sl1, likeS_ptr, isPtr_ok, isSl_0, isSl_1, beq_self_b, Bool.and_self, Bool.and_true, Bool.true_and, Bool.and_false, Bool.false_and, cond_true, cond_false, Bool.not_true, Bool.not_false, s16, hv, h28, ho, Option.isSome, Option.getD, Pg.row_eq, h42, h23, h4, h5, h6, h7]
theorem s38 (n : Nat) : ev (ps.length + n + 6) 38 [.lst b 9 (ps.map Pg.row), .agg [.v (.int .i64 l), .v (.int .i64 g)], .v (.int .i64 k), .v (.bool locks)] = some (lookR (lat ps l ps.length) l g k locks) := by
  rw [ev38]
  have h36 := s36 (ps.length + n + 5) ps b l hl (by omega)
  unfold lookR
  cases hv : valid l g with
  | false => simp -implicitDefEqProofs only [some_bind', obCells_agg, obCells_ob, isOb_ok, isL_ok, isOw_ok, avXs_lst, avXs_ow, avNil_lst, avNil_ow, avNil_sl, avOff_sl, avCut_sl, isAgg_agg, nat_beq_self, List.length_cons, List.length_nil, Nat.reduceAdd, Nat.zero_add, isI_v, isB_v, isS_v, avInt_v, avBool_v, avStr_v, cellAt_zero, cellAt_succ, lget_zero, lget_succ, frAt_zero, frAt_succ, blAt_zero, blAt_succ, isEx_ok, isEx_ne, isEx_none, isRt_some, isRt_none, like_st, likeFG_nil, likeFG_cons, likeBG_nil, likeBG_obj, likeBG_row, likeSG_nil, likeSG_cons, likeT_agg, likeT_int, likeT_bool, likeT_str, likeT_lst, likeT_sl0, likeT_sl1, likeT_ptr, likeS_int, likeS_bool, likeS_str, likeS_lst, likeS_sl0, likeS_sl1, likeS_ptr, isPtr_ok, isSl_0, isSl_1, beq_self_b, Bool.and_self, Bool.and_true, Bool.true_and, Bool.and_false, Bool.false_and, cond_true, cond_false, Bool.not_true, Bool.not_false, s17, hv]
  | true =>
    cases ho : lat ps l ps.length with
    | none => simp -implicitDefEqProofs only [some_bind', obCells_agg, obCells_ob, isOb_ok, isL_ok, isOw_ok, avXs_lst, avXs_ow, avNil_lst, avNil_ow, avNil_sl, avOff_sl, avCut_sl, isAgg_agg, nat_beq_self, List.length_cons, List.length_nil, Nat.reduceAdd, Nat.zero_add, isI_v, isB_v, isS_v, avInt_v, avBool_v, avStr_v, cellAt_zero, cellAt_succ, lget_zero, lget_succ, frAt_zero, frAt_succ, blAt_zero, blAt_succ, isEx_ok, isEx_ne, isEx_none, isRt_some, isRt_none, like_st, likeFG_nil, likeFG_cons, likeBG_nil, likeBG_obj, likeBG_row, likeSG_nil, likeSG_cons, likeT_agg, likeT_int, likeT_bool, likeT_str, likeT_lst, likeT_sl0, likeT_sl1, likeT_ptr, likeS_int, likeS_bool, likeS_str, likeS_lst, likeS_sl0, likeS_sl1, likeS_ptr, isPtr_ok, isSl_0, isSl_1, beq_self_b, Bool.and_self, Bool.and_true, Bool.true_and, Bool.and_false, Bool.false_and, cond_true, cond_false, Bool.not_true, Bool.not_false, s17, hv, h36, ho, Option.isSome, Option.getD, Pg.row_eq]
    | some p =>
      have hq := hp p (lat_mem ps l _ (Nat.le_refl _) p ho)
      obtain ⟨_, hh, hd, _⟩ := hq
      have h26 := fun n => s26 n (l := p.l) (h := p.h) (d0 := p.d0) (d1 := p.d1) (d2 := p.d2) (d3 := p.d3) (d4 := p.d4) (d5 := p.d5) (d6 := p.d6) hd.1 (by have := hd.2; omega)
      have h44 := fun n => s44 n (l := p.l) (h := p.h) (d0 := p.d0) (d1 := p.d1) (d2 := p.d2) (d3 := p.d3) (d4 := p.d4) (d5 := p.d5) (d6 := p.d6) hd.1 (by have := hd.2; omega)
      have h24 := fun n => s24 n (l := p.l) (h := p.h) (d0 := p.d0) (d1 := p.d1) (d2 := p.d2) (d3 := p.d3) (d4 := p.d4) (d5 := p.d5) (d6 := p.d6) hh.1
      cases locks <;> cases h4 : (p.h % 256 == 0) <;> cases h5 : (p.d0 % 256 == 0) <;> cases h6 : (p.d0 / 256 % 16777216 == g) <;> cases h7 : (p.d0 % 256 == k) <;>
        simp -implicitDefEqProofs only [some_bind', obCells_agg, obCells_ob, isOb_ok, isL_ok, isOw_ok, avXs_lst, avXs_ow, avNil_lst, avNil_ow, avNil_sl, avOff_sl, avCut_sl, isAgg_agg, nat_beq_self, List.length_cons, List.length_nil, Nat.reduceAdd, Nat.zero_add, isI_v, isB_v, isS_v, avInt_v, avBool_v, avStr_v, cellAt_zero, cellAt_succ, lget_zero, lget_succ, frAt_zero, frAt_succ, blAt_zero, blAt_succ, isEx_ok, isEx_ne, isEx_none, isRt_some, isRt_none, like_st, likeFG_nil, likeFG_cons, likeBG_nil, likeBG_obj, likeBG_row, likeSG_nil, likeSG_cons, likeT_agg, likeT_int, likeT_bool, likeT_str, likeT_lst, likeT_sl0, likeT_sl1, likeT_ptr, likeS_int, likeS_bool, likeS_str, likeS_lst, likeS_sl0, likeS_sl1, likeS_ptr, isPtr_ok, isSl_0, isSl_1, beq_self_b, Bool.and_self, Bool.and_true, Bool.true_and, Bool.and_false, Bool.false_and, cond_true, cond_false, Bool.not_true, Bool.not_false, s17, hv, h36, ho, Option.isSome, Option.getD, Pg.row_eq, h26, h44, h24, h4, h5, h6, h7]
end
/-- A page, whether, and a number. -/
theorem look_form (o : Option Pg) (l g k : Int) (locks : Bool) : ∃ (p : Pg) (f : Bool) (e : Int), lookR o l g k locks = [.agg p.row, .v (.bool f), .v (.int .i64 e)] := by
  unfold lookR
  cases valid l g with
  | false => exact ⟨pz, _, _, rfl⟩
  | true =>
    cases o with
    | none => exact ⟨pz, _, _, rfl⟩
    | some p =>
      dsimp only
      cases (locks && !(p.h % 256 == 0)) <;> cases (p.d0 % 256 == 0) <;> cases (p.d0 / 256 % 16777216 == g) <;> cases (p.d0 % 256 == k) <;> first | exact ⟨pz, _, _, rfl⟩ | exact ⟨p, _, _, rfl⟩
section
variable (ps : List Pg) (b : Bool) (l g k : Int) (hl : ps.length ≤ 1000) (hp : ∀ p ∈ ps, p.ok)
include hl hp
theorem s37 (n : Nat) : ev (ps.length + n + 7) 37 [.lst b 9 (ps.map Pg.row), .agg [.v (.int .i64 l), .v (.int .i64 g)], .v (.int .i64 k)] = some (lookR (lat ps l ps.length) l g k false) := by
  rw [ev37, s45 ps b l g k false hl hp]
  obtain ⟨p, f, e, h⟩ := look_form (lat ps l ps.length) l g k false
  rw [h]
  simp -implicitDefEqProofs only [some_bind', obCells_agg, obCells_ob, isOb_ok, isL_ok, isOw_ok, avXs_lst, avXs_ow, avNil_lst, avNil_ow, avNil_sl, avOff_sl, avCut_sl, isAgg_agg, nat_beq_self, List.length_cons, List.length_nil, Nat.reduceAdd, Nat.zero_add, isI_v, isB_v, isS_v, avInt_v, avBool_v, avStr_v, cellAt_zero, cellAt_succ, lget_zero, lget_succ, frAt_zero, frAt_succ, blAt_zero, blAt_succ, isEx_ok, isEx_ne, isEx_none, isRt_some, isRt_none, like_st, likeFG_nil, likeFG_cons, likeBG_nil, likeBG_obj, likeBG_row, likeSG_nil, likeSG_cons, likeT_agg, likeT_int, likeT_bool, likeT_str, likeT_lst, likeT_sl0, likeT_sl1, likeT_ptr, likeS_int, likeS_bool, likeS_str, likeS_lst, likeS_sl0, likeS_sl1, likeS_ptr, isPtr_ok, isSl_0, isSl_1, beq_self_b, Bool.and_self, Bool.and_true, Bool.true_and, Bool.and_false, Bool.false_and, cond_true, cond_false, Bool.not_true, Bool.not_false, Pg.row_eq]
theorem s39 (n : Nat) : ev (ps.length + n + 7) 39 [.lst b 9 (ps.map Pg.row), .agg [.v (.int .i64 l), .v (.int .i64 g)], .v (.int .i64 k)] = some (lookR (lat ps l ps.length) l g k true) := by
  rw [ev39, s45 ps b l g k true hl hp]
  obtain ⟨p, f, e, h⟩ := look_form (lat ps l ps.length) l g k true
  rw [h]
  simp -implicitDefEqProofs only [some_bind', obCells_agg, obCells_ob, isOb_ok, isL_ok, isOw_ok, avXs_lst, avXs_ow, avNil_lst, avNil_ow, avNil_sl, avOff_sl, avCut_sl, isAgg_agg, nat_beq_self, List.length_cons, List.length_nil, Nat.reduceAdd, Nat.zero_add, isI_v, isB_v, isS_v, avInt_v, avBool_v, avStr_v, cellAt_zero, cellAt_succ, lget_zero, lget_succ, frAt_zero, frAt_succ, blAt_zero, blAt_succ, isEx_ok, isEx_ne, isEx_none, isRt_some, isRt_none, like_st, likeFG_nil, likeFG_cons, likeBG_nil, likeBG_obj, likeBG_row, likeSG_nil, likeSG_cons, likeT_agg, likeT_int, likeT_bool, likeT_str, likeT_lst, likeT_sl0, likeT_sl1, likeT_ptr, likeS_int, likeS_bool, likeS_str, likeS_lst, likeS_sl0, likeS_sl1, likeS_ptr, isPtr_ok, isSl_0, isSl_1, beq_self_b, Bool.and_self, Bool.and_true, Bool.true_and, Bool.and_false, Bool.false_and, cond_true, cond_false, Bool.not_true, Bool.not_false, Pg.row_eq]
end
theorem lat_one (p : Pg) : lat [p] p.l 1 = some p := by unfold lat; simp
theorem u0 : u64ok 0 := ⟨by decide, by decide⟩
section
variable {l h d0 d1 d2 d3 d4 d5 d6 : Int} (hp : Pg.ok ⟨l, h, d0, d1, d2, d3, d4, d5, d6⟩) (n : Nat) (b : Bool) (g k : Int)
include hp
theorem peek1 : ev (n + 8) 37 [.lst b 9 [pgl l h d0 d1 d2 d3 d4 d5 d6], .agg [.v (.int .i64 l), .v (.int .i64 g)], .v (.int .i64 k)] = some (lookR (some ⟨l, h, d0, d1, d2, d3, d4, d5, d6⟩) l g k false) := by
  have h1 := s37 [⟨l, h, d0, d1, d2, d3, d4, d5, d6⟩] b l g k (by simp) (fun p hq => by obtain rfl := List.mem_singleton.1 hq; exact hp) n
  have e := lat_one ⟨l, h, d0, d1, d2, d3, d4, d5, d6⟩
  rw [show (([⟨l, h, d0, d1, d2, d3, d4, d5, d6⟩] : List Pg).length + n + 7) = n + 8 by simp only [List.length_cons, List.length_nil]; omega, List.length_cons, List.length_nil, Nat.zero_add] at h1
  dsimp only at e
  rw [e] at h1
  exact h1
theorem open1 : ev (n + 8) 39 [.lst b 9 [pgl l h d0 d1 d2 d3 d4 d5 d6], .agg [.v (.int .i64 l), .v (.int .i64 g)], .v (.int .i64 k)] = some (lookR (some ⟨l, h, d0, d1, d2, d3, d4, d5, d6⟩) l g k true) := by
  have h1 := s39 [⟨l, h, d0, d1, d2, d3, d4, d5, d6⟩] b l g k (by simp) (fun p hq => by obtain rfl := List.mem_singleton.1 hq; exact hp) n
  have e := lat_one ⟨l, h, d0, d1, d2, d3, d4, d5, d6⟩
  rw [show (([⟨l, h, d0, d1, d2, d3, d4, d5, d6⟩] : List Pg).length + n + 7) = n + 8 by simp only [List.length_cons, List.length_nil]; omega, List.length_cons, List.length_nil, Nat.zero_add] at h1
  dsimp only at e
  rw [e] at h1
  exact h1
end
theorem same_row (n : Nat) (p : Pg) : ev (n + 1) 29 [.agg p.row, .agg p.row] = some [.v (.bool true)] := by
  rw [Pg.row_eq, ev29]
  simp -implicitDefEqProofs only [some_bind', obCells_agg, obCells_ob, isOb_ok, isL_ok, isOw_ok, avXs_lst, avXs_ow, avNil_lst, avNil_ow, avNil_sl, avOff_sl, avCut_sl, isAgg_agg, nat_beq_self, List.length_cons, List.length_nil, Nat.reduceAdd, Nat.zero_add, isI_v, isB_v, isS_v, avInt_v, avBool_v, avStr_v, cellAt_zero, cellAt_succ, lget_zero, lget_succ, frAt_zero, frAt_succ, blAt_zero, blAt_succ, isEx_ok, isEx_ne, isEx_none, isRt_some, isRt_none, like_st, likeFG_nil, likeFG_cons, likeBG_nil, likeBG_obj, likeBG_row, likeSG_nil, likeSG_cons, likeT_agg, likeT_int, likeT_bool, likeT_str, likeT_lst, likeT_sl0, likeT_sl1, likeT_ptr, likeS_int, likeS_bool, likeS_str, likeS_lst, likeS_sl0, likeS_sl1, likeS_ptr, isPtr_ok, isSl_0, isSl_1, beq_self_b, Bool.and_self, Bool.and_true, Bool.true_and, Bool.and_false, Bool.false_and, cond_true, cond_false, Bool.not_true, Bool.not_false, beq_self_i]
theorem pages_of {N n : Nat} {xs : List (List AV)} (h : ∀ y ∈ xs, TypC Try.prog N (n + 3) 43 y) : ∃ ps : List Pg, xs = ps.map Pg.row ∧ ∀ p ∈ ps, p.ok := by
  refine rows_of Pg.row Pg.ok xs fun y hy => ?_
  obtain ⟨a0, a1, a2, a3, a4, a5, a6, a7, a8, e, h0, h1, h2, h3, h4, h5, h6, h7, h8⟩ := openC43 (h y hy)
  exact ⟨⟨a0, a1, a2, a3, a4, a5, a6, a7, a8⟩, e, h0, h1, h2, h3, h4, h5, h6, h7, h8⟩
end Go.Proofs.Ytcalaooabgklbaa
