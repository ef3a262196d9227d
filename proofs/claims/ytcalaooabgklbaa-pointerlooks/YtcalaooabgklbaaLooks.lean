/- PointerLooks holds for every input. No conditions. -/
import Derived.Test.YtcalaooabgklbaaLook
set_option linter.all false
namespace Go.Proofs.Ytcalaooabgklbaa
open Go.Ev
attribute [local congr] bind_first cond_first

theorem u64_wrap (x : Int) : u64ok (IntKind.u64.wrap x) := by rw [w_u64]; unfold u64ok; omega
def mkP (p : Pg) : Pg := ⟨(IntKind.wrap .i64 (103 + pick p.l 5)), (IntKind.wrap .u64 ((IntKind.wrap .u64 (Int.tdiv (IntKind.wrap .u64 ((Int.tmod p.h 4) * 64)) 64)) * (2 ^ (min (Int.toNat (IntKind.wrap .u64 ((Int.tmod (IntKind.wrap .u64 (Int.tdiv p.h 4)) 3) * 8))) 64)))), (IntKind.wrap .u64 ((IntKind.wrap .u64 ((Int.tmod p.d0 6) + (IntKind.wrap .u64 ((Int.tmod (IntKind.wrap .u64 (Int.tdiv p.d0 6)) 3) * 256)))) + (IntKind.wrap .u64 ((IntKind.wrap .u64 (Int.tdiv p.d0 18)) * (2 ^ 32))))), p.d1, p.d2, p.d3, p.d4, p.d5, p.d6⟩
theorem map_snoc (qs : List Pg) (p : Pg) : qs.map Pg.row ++ [p.row] = (qs ++ [p]).map Pg.row := by simp
theorem lp35 (m : Nat) (ps : List Pg) (b : Bool) (a1 a2 a3 c0 c1 : Int) (hl : ps.length ≤ 1000) (hp : ∀ p ∈ ps, p.ok) : ∀ (j k n : Nat) (c : Bool) (qs : List Pg), j + k = ps.length → j + 1 ≤ n → 1 ≤ m → qs.length = k → (∀ p ∈ qs, p.ok) →
    ∃ (c' : Bool) (qs' : List Pg), qs'.length = ps.length ∧ (∀ p ∈ qs', p.ok) ∧
      lp m n 35 0 0 ⟨[(1, (.ptr 0 0 0)), (3, (.ptr 1 0 0)), (5, (.sl c 2 0 none)), (6, (.v (.int .i64 (k : Int))))], [⟨1, 66, 4, true, [[(.lst b 9 (ps.map Pg.row)), (.v (.int .i64 a1)), (.v (.int .i64 a2)), (.v (.int .i64 a3))]]⟩, ⟨1, 28, 2, true, [[(.v (.int .i64 c0)), (.v (.int .i64 c1))]]⟩, ⟨1, 43, 9, false, qs.map Pg.row⟩]⟩ =
        some ⟨some 0, ⟨[(1, (.ptr 0 0 0)), (3, (.ptr 1 0 0)), (5, (.sl c' 2 0 none))], [⟨1, 66, 4, true, [[(.lst b 9 (ps.map Pg.row)), (.v (.int .i64 a1)), (.v (.int .i64 a2)), (.v (.int .i64 a3))]]⟩, ⟨1, 28, 2, true, [[(.v (.int .i64 c0)), (.v (.int .i64 c1))]]⟩, ⟨1, 43, 9, false, qs'.map Pg.row⟩]⟩, []⟩
  | 0, k, n + 1, c, qs, hk, _, _, hq, hok => by
    obtain rfl : k = ps.length := by omega
    refine ⟨c, qs, hq, hok, ?_⟩
    rw [lp35_0, List.length_map, ltI_f (by omega)]; rfl
  | j + 1, k, n + 1, c, qs, hk, hn, hm, hq, hok => by
    obtain ⟨m', rfl⟩ : ∃ m', m = m' + 1 := ⟨m - 1, by omega⟩
    have e2 : lget (ps.map Pg.row) k = Pg.row (ps.getD k pz) := lget_mapD Pg.row ps pz k (by omega)
    have e3 : IntKind.i64.wrap ((k : Int) + 1) = ((k + 1 : Nat) : Int) := by rw [w_i64]; omega
    obtain ⟨h0, h1, h2, h3, h4, h5, h6, h7, h8⟩ := hp _ (mem_getD ps pz k (by omega))
    generalize hpk : ps.getD k pz = p at *
    have r1 := pick_range (n := p.l) (m := 5) (by decide)
    have e4 : (ltI (IntKind.u64.wrap ((Int.tmod (IntKind.u64.wrap (Int.tdiv p.h 4)) 3) * 8)) 0) = false := ltI_f (by have := (u64_wrap ((Int.tmod (IntKind.u64.wrap (Int.tdiv p.h 4)) 3) * 8)).1; omega)
    have e5 : leN (((List.length (qs.map Pg.row)) + 1) * 72) 140737488355328 = true := leN_t (by rw [List.length_map]; omega)
    have key := fun (q : Pg) (hqok : q.ok) => lp35 (m' + 1) ps b a1 a2 a3 c0 c1 hl hp j (k + 1) n false (qs ++ [q]) (by omega) (by omega) (by omega) (by simp [hq]) (fun p hp => by
      rcases List.mem_append.1 hp with hp | hp
      · exact hok p hp
      · obtain rfl := List.mem_singleton.1 hp; exact hqok)
    obtain ⟨c', qs', a, b', e⟩ := key (mkP p) ⟨(by show i64ok (IntKind.i64.wrap _); unfold i64ok; rw [w_i64]; omega), u64_wrap _, u64_wrap _, h3, h4, h5, h6, h7, h8⟩
    refine ⟨c', qs', a, b', ?_⟩
    rw [← e, lp35_0]
    simp -implicitDefEqProofs only [some_bind', obCells_agg, obCells_ob, isOb_ok, isL_ok, isOw_ok, avXs_lst, avXs_ow, avNil_lst, avNil_ow, avNil_sl, avOff_sl, avCut_sl, isAgg_agg, nat_beq_self, List.length_cons, List.length_nil, Nat.reduceAdd, Nat.zero_add, isI_v, isB_v, isS_v, avInt_v, avBool_v, avStr_v, cellAt_zero, cellAt_succ, lget_zero, lget_succ, frAt_zero, frAt_succ, blAt_zero, blAt_succ, isEx_ok, isEx_ne, isEx_none, isRt_some, isRt_none, like_st, likeFG_nil, likeFG_cons, likeBG_nil, likeBG_obj, likeBG_row, likeSG_nil, likeSG_cons, likeT_agg, likeT_int, likeT_bool, likeT_str, likeT_lst, likeT_sl0, likeT_sl1, likeT_ptr, likeS_int, likeS_bool, likeS_str, likeS_lst, likeS_sl0, likeS_sl1, likeS_ptr, isPtr_ok, isSl_0, isSl_1, beq_self_b, Bool.and_self, Bool.and_true, Bool.true_and, Bool.and_false, Bool.false_and, cond_true, cond_false, Bool.not_true, Bool.not_false, leI_t (show (0 : Int) ≤ (k : Int) by omega), List.length_map, ltI_t (show (k : Int) < (ps.length : Int) by omega), Int.toNat_natCast, e2, Pg.row_eq, e3, s30 _ _ 5 (by decide) (by decide), e4]
    rw [List.length_map] at e5
    rw [e5, cond_true, ← map_snoc, Pg.row_eq]; rfl
theorem s35 (ps : List Pg) (b : Bool) (a1 a2 a3 : Int) (hl : ps.length ≤ 1000) (hp : ∀ p ∈ ps, p.ok) (n : Nat) (hn : ps.length + 3 ≤ n) : ∃ (c : Bool) (qs : List Pg) (l g k : Int), qs.length = ps.length ∧ (∀ p ∈ qs, p.ok) ∧
    ev n 35 [.agg [.lst b 9 (ps.map Pg.row), .v (.int .i64 a1), .v (.int .i64 a2), .v (.int .i64 a3)]] = some [.lst c 9 (qs.map Pg.row), .agg [.v (.int .i64 l), .v (.int .i64 g)], .v (.int .i64 k)] := by
  obtain ⟨n, rfl⟩ : ∃ m, n = m + 2 := ⟨n - 2, by omega⟩
  obtain ⟨c, qs, h1, h2, h3⟩ := lp35 (n + 1) ps b a1 a2 a3 0 0 hl hp ps.length 0 (n + 1) true [] (by omega) (by omega) (by omega) rfl (fun _ h => by cases h)
  refine ⟨c, qs, IntKind.i64.wrap (103 + pick a1 5), pick a2 4, pick a3 5, h1, h2, ?_⟩
  rw [ev35]
  refine bnd h3 ?_
  simp -implicitDefEqProofs only [some_bind', obCells_agg, obCells_ob, isOb_ok, isL_ok, isOw_ok, avXs_lst, avXs_ow, avNil_lst, avNil_ow, avNil_sl, avOff_sl, avCut_sl, isAgg_agg, nat_beq_self, List.length_cons, List.length_nil, Nat.reduceAdd, Nat.zero_add, isI_v, isB_v, isS_v, avInt_v, avBool_v, avStr_v, cellAt_zero, cellAt_succ, lget_zero, lget_succ, frAt_zero, frAt_succ, blAt_zero, blAt_succ, isEx_ok, isEx_ne, isEx_none, isRt_some, isRt_none, like_st, likeFG_nil, likeFG_cons, likeBG_nil, likeBG_obj, likeBG_row, likeSG_nil, likeSG_cons, likeT_agg, likeT_int, likeT_bool, likeT_str, likeT_lst, likeT_sl0, likeT_sl1, likeT_ptr, likeS_int, likeS_bool, likeS_str, likeS_lst, likeS_sl0, likeS_sl1, likeS_ptr, isPtr_ok, isSl_0, isSl_1, beq_self_b, Bool.and_self, Bool.and_true, Bool.true_and, Bool.and_false, Bool.false_and, cond_true, cond_false, Bool.not_true, Bool.not_false, s30 _ _ 5 (by decide) (by decide), s30 _ _ 4 (by decide) (by decide)]
theorem looks (ps : List Pg) (b : Bool) (a1 a2 a3 : Int) (hp : ∀ p ∈ ps, p.ok) :
    ev (ps.length + 40) 7 [.agg [.lst b 9 (ps.map Pg.row), .v (.int .i64 a1), .v (.int .i64 a2), .v (.int .i64 a3)]] = some [.v (.bool true)] := by
  rw [ev7, List.length_map]
  cases hc : ltI 20 (ps.length : Int) with
  | true => rfl
  | false =>
    have hl : ps.length ≤ 1000 := by
      have := mt ltI_iff.2 (by rw [hc]; decide)
      omega
    obtain ⟨c, qs, l, g, k, e1, e2, e3⟩ := s35 ps b a1 a2 a3 hl hp (ps.length + 39) (by omega)
    rw [e3]
    have h28 := s28 (ps.length + 39) qs c l (by omega) (by omega)
    have h36 := s36 (ps.length + 39) qs c l (by omega) (by omega)
    have h37 := s37 qs c l g k (by omega) e2 32
    have h39 := s39 qs c l g k (by omega) e2 32
    have h38 := s38 qs c l g k false (by omega) e2 33
    have h38' := s38 qs c l g k true (by omega) e2 33
    obtain ⟨p, f, e, h1⟩ := look_form (lat qs l qs.length) l g k false
    obtain ⟨p', f', e', h2⟩ := look_form (lat qs l qs.length) l g k true
    rw [h1] at h37 h38
    rw [h2] at h39 h38'
    rw [show qs.length + 32 + 7 = ps.length + 39 by omega] at h37 h39
    rw [show qs.length + 33 + 6 = ps.length + 39 by omega] at h38 h38'
    have hs := fun n => same_row n p
    have hs' := fun n => same_row n p'
    have hs'' := fun n => same_row n ((lat qs l qs.length).getD pz)
    rw [Pg.row_eq] at h37 h38 hs h39 h38' hs' hs'' h28 h36
    simp -implicitDefEqProofs only [some_bind', obCells_agg, obCells_ob, isOb_ok, isL_ok, isOw_ok, avXs_lst, avXs_ow, avNil_lst, avNil_ow, avNil_sl, avOff_sl, avCut_sl, isAgg_agg, nat_beq_self, List.length_cons, List.length_nil, Nat.reduceAdd, Nat.zero_add, isI_v, isB_v, isS_v, avInt_v, avBool_v, avStr_v, cellAt_zero, cellAt_succ, lget_zero, lget_succ, frAt_zero, frAt_succ, blAt_zero, blAt_succ, isEx_ok, isEx_ne, isEx_none, isRt_some, isRt_none, like_st, likeFG_nil, likeFG_cons, likeBG_nil, likeBG_obj, likeBG_row, likeSG_nil, likeSG_cons, likeT_agg, likeT_int, likeT_bool, likeT_str, likeT_lst, likeT_sl0, likeT_sl1, likeT_ptr, likeS_int, likeS_bool, likeS_str, likeS_lst, likeS_sl0, likeS_sl1, likeS_ptr, isPtr_ok, isSl_0, isSl_1, beq_self_b, Bool.and_self, Bool.and_true, Bool.true_and, Bool.and_false, Bool.false_and, cond_true, cond_false, Bool.not_true, Bool.not_false, h28, h36, h37, h38, h39, h38', hs, hs', hs'', s18, s15, not_beq_self, beq_self_b, beq_self_i]
theorem looks_all {N : Nat} (l : List AV) (h : TypA Try.prog N Try.f7.params.toList l) : ∃ n, evF Try.prog cfg n 7 l = some [.v (.bool true)] := by
  rw [show Try.f7.params.toList = [66] by kernel_rfl] at h
  obtain ⟨a0, r, rfl, h0, h⟩ := h
  obtain rfl : r = [] := h
  obtain ⟨a0_0n, a0_0, a0_1, a0_2, a0_3, rfl, f0_0, f0_1, f0_2, f0_3⟩ := openV66 h0
  obtain ⟨ps, rfl, hp⟩ := pages_of (n := 7) f0_0.2.2
  exact ⟨_, looks ps a0_0n a0_1 a0_2 a0_3 hp⟩
end Go.Proofs.Ytcalaooabgklbaa
