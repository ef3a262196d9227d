/- PointerRaw holds for every input. No conditions. -/
import Derived.Test.YtcalaooabgklbaaLook
set_option linter.all false
namespace Go.Proofs.Ytcalaooabgklbaa
open Go.Ev
attribute [local congr] bind_first cond_first

theorem raw (ps : List Pg) (b : Bool) (l g k : Int) (hp : ∀ p ∈ ps, p.ok) :
    ev (ps.length + 40) 8 [.lst b 9 (ps.map Pg.row), .agg [.v (.int .i64 l), .v (.int .i64 g)], .v (.int .i64 k)] = some [.v (.bool true)] := by
  rw [ev8, List.length_map]
  cases hc : ltI 30 (ps.length : Int) with
  | true => rfl
  | false =>
    have hl : ps.length ≤ 1000 := by
      have := mt ltI_iff.2 (by rw [hc]; decide)
      omega
    have h37 : ev (ps.length + 39) 37 _ = _ := s37 ps b l g k hl hp 32
    have h39 : ev (ps.length + 39) 39 _ = _ := s39 ps b l g k hl hp 32
    have h38 : ev (ps.length + 39) 38 _ = _ := s38 ps b l g k false hl hp 33
    have h38' : ev (ps.length + 39) 38 _ = _ := s38 ps b l g k true hl hp 33
    obtain ⟨p, f, e, h1⟩ := look_form (lat ps l ps.length) l g k false
    obtain ⟨p', f', e', h2⟩ := look_form (lat ps l ps.length) l g k true
    rw [h1] at h37 h38
    rw [h2] at h39 h38'
    have hs := fun n => same_row n p
    have hs' := fun n => same_row n p'
    rw [Pg.row_eq] at h37 h38 hs h39 h38' hs'
    simp -implicitDefEqProofs only [some_bind', obCells_agg, obCells_ob, isOb_ok, isL_ok, isOw_ok, avXs_lst, avXs_ow, avNil_lst, avNil_ow, avNil_sl, avOff_sl, avCut_sl, isAgg_agg, nat_beq_self, List.length_cons, List.length_nil, Nat.reduceAdd, Nat.zero_add, isI_v, isB_v, isS_v, avInt_v, avBool_v, avStr_v, cellAt_zero, cellAt_succ, lget_zero, lget_succ, frAt_zero, frAt_succ, blAt_zero, blAt_succ, isEx_ok, isEx_ne, isEx_none, isRt_some, isRt_none, like_st, likeFG_nil, likeFG_cons, likeBG_nil, likeBG_obj, likeBG_row, likeSG_nil, likeSG_cons, likeT_agg, likeT_int, likeT_bool, likeT_str, likeT_lst, likeT_sl0, likeT_sl1, likeT_ptr, likeS_int, likeS_bool, likeS_str, likeS_lst, likeS_sl0, likeS_sl1, likeS_ptr, isPtr_ok, isSl_0, isSl_1, beq_self_b, Bool.and_self, Bool.and_true, Bool.true_and, Bool.and_false, Bool.false_and, cond_true, cond_false, Bool.not_true, Bool.not_false, h37, h38, h39, h38', hs, hs', s18, s15, not_beq_self, beq_self_b, beq_self_i]
theorem raw_all {N : Nat} (l : List AV) (h : TypA Try.prog N Try.f8.params.toList l) : ∃ n, evF Try.prog cfg n 8 l = some [.v (.bool true)] := by
  rw [show Try.f8.params.toList = [53, 28, 3] by kernel_rfl] at h
  obtain ⟨a0, r, rfl, h0, h⟩ := h
  obtain ⟨a1, r, rfl, h1, h⟩ := h
  obtain ⟨a2, r, rfl, h2, h⟩ := h
  obtain rfl : r = [] := h
  obtain ⟨a0n, a0, rfl, f0_0⟩ := openV53 h0
  obtain ⟨a1_0, a1_1, rfl, f1_0, f1_1⟩ := openV28 h1
  obtain ⟨a2, rfl, f2_0⟩ := openV3 h2
  obtain ⟨ps, rfl, hp⟩ := pages_of (n := 8) f0_0.2.2
  exact ⟨_, raw ps a0n a1_0 a1_1 a2 hp⟩
end Go.Proofs.Ytcalaooabgklbaa
