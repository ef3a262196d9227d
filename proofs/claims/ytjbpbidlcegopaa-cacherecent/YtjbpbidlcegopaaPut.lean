/- Put and Get. -/
import Derived.Test.YtjbpbidlcegopaaSpec
set_option linter.all false
namespace Go.Proofs.Ytjbpbidlcegopaa
open Go.Ev
attribute [local congr] bind_first cond_first
abbrev c9 (r : List AV) : List AV := [.v (.int .i64 (avInt (cellAt r 0))), .v (.int .u64 (avInt (cellAt r 1))), .v (.int .u64 (avInt (cellAt r 2))), .v (.int .u64 (avInt (cellAt r 3))), .v (.int .u64 (avInt (cellAt r 4))), .v (.int .u64 (avInt (cellAt r 5))), .v (.int .u64 (avInt (cellAt r 6))), .v (.int .u64 (avInt (cellAt r 7))), .v (.int .u64 (avInt (cellAt r 8)))]
theorem c9_row (p : Pg) : c9 p.row = p.row := rfl
def nx (n a : Int) (ls : List Int) : List Int := (a :: ls.filter fun x => !(x == a)).take n.toNat
theorem getD_at {ps : List Pg} {i : Nat} (h : i < ps.length) : ps.getD i pz = ps[i] := by simp [h]
theorem lines_put (n : Int) (ps : List Pg) (p : Pg) (hd : (ps.map Pg.l).Nodup) : (putL n ps p).map Pg.l = nx n p.l (ps.map Pg.l) := by
  unfold putL nx
  cases h : idx p.l ps with
  | none => rw [filter_none (idx_none h)]; simp only [List.map_take, List.map_cons]
  | some i =>
    obtain ⟨h1, h2⟩ := idx_lt h
    simp only [List.map_take, List.map_cons, idx_del hd h, getD_at h1]
    congr 2
    cases ltI p.h (ps[i]).h with
    | true => exact h2
    | false => rfl
theorem nx_nodup {n a : Int} {ls : List Int} (h : ls.Nodup) : (nx n a ls).Nodup := by
  unfold nx
  refine List.Nodup.sublist (List.take_sublist _ _) ?_
  rw [List.nodup_cons]
  exact ⟨by simp, h.sublist List.filter_sublist⟩
theorem nx_len (n a : Int) (ls : List Int) : (nx n a ls).length ≤ n.toNat := by unfold nx; rw [List.length_take]; omega
theorem del_mem {ps : List Pg} {i : Nat} {q : Pg} (h : q ∈ del ps i) : q ∈ ps := by
  unfold del at h
  rcases List.mem_append.1 h with h | h
  · exact List.mem_of_mem_take h
  · exact List.mem_of_mem_drop h
theorem good_put {n : Int} {b : Bool} {ps : List Pg} (g : Good n b ps) (p : Pg) (hp : p.ok) (hc : cachB p = true) : Good n false (putL n ps p) := by
  have h1 := g.cap
  refine ⟨g.cap, fun e => (by cases e), ?_, fun q hq => ?_, by rw [lines_put _ _ _ g.nd]; exact nx_nodup g.nd⟩
  · have := nx_len n p.l (ps.map Pg.l)
    rw [← lines_put _ _ _ g.nd, List.length_map] at this
    omega
  · unfold putL at hq
    split at hq
    · rcases List.mem_cons.1 (List.mem_of_mem_take hq) with rfl | h
      · exact ⟨hp, hc⟩
      · exact g.ok q h
    · rename_i i h
      obtain ⟨h2, _⟩ := idx_lt h
      rcases List.mem_cons.1 (List.mem_of_mem_take hq) with rfl | h
      · cases ltI p.h (ps.getD i pz).h with
        | true => rw [getD_at h2]; exact g.ok _ (List.getElem_mem h2)
        | false => exact ⟨hp, hc⟩
      · exact g.ok q (del_mem h)
theorem cut_eq {n : Int} (hn : 1 ≤ n) (xs : List Pg) : List.take (Int.toNat (if n < (((xs.map Pg.row).length - 0 : Nat) : Int) then n else (((xs.map Pg.row).length - 0 : Nat) : Int))) (xs.map Pg.row) = (xs.take n.toNat).map Pg.row := by
  rw [Nat.sub_zero, List.length_map, List.map_take]
  split
  · rfl
  · rename_i h
    rw [Int.toNat_natCast, List.take_of_length_le (by rw [List.length_map]; omega), List.take_of_length_le (by rw [List.length_map]; omega)]
theorem cut_ok {n : Int} (hn : 1 ≤ n) (k : Nat) : (leI 0 (if n < ((k - 0 : Nat) : Int) then n else ((k - 0 : Nat) : Int)) && leI (if n < ((k - 0 : Nat) : Int) then n else ((k - 0 : Nat) : Int)) ((k - 0 : Nat) : Int)) = true := by
  split <;> rw [leI_t (by omega), leI_t (by omega)] <;> rfl
theorem row_i {ps : List Pg} {i : Nat} (h : i < ps.length) : lget (ps.map Pg.row) (0 + Int.toNat (i : Int)) = (ps.getD i pz).row := by
  rw [Nat.zero_add, Int.toNat_natCast, lget_mapD _ _ pz _ h]
theorem del_len {ps : List Pg} {i : Nat} (h : i < ps.length) : (del ps i).length + 1 = ps.length := by
  unfold del; rw [List.length_append, List.length_take, List.length_drop]; omega
theorem l_put {n : Int} (f : Bool) (qs : List Pg) (hq : qs.length ≤ 1000) (hok : ∀ p ∈ qs, p.ok ∧ cachB p = true) : ∀ (rest done ps : List Pg) (b : Bool), qs = done ++ rest → Good n b ps →
    lp 7 0 0 ⟨[(2, .ptr 0 0 0), (4, .ptr 2 0 0), (14, .lst f 9 (qs.map Pg.row)), (15, .v (.int .i64 (((qs.map Pg.row).length : Nat) : Int))), (16, .v (.int .i64 ((done.length : Nat) : Int)))], [⟨1, 26, 2, true, [[.v (.int .i64 n), .sl b 1 0 none]]⟩, ⟨1, 33, 9, false, ps.map Pg.row⟩, ⟨1, 26, 2, true, [[.v (.int .i64 0), .sl true 3 0 none]]⟩, ⟨1, 33, 9, false, []⟩]⟩ =
      some ⟨some 0, ⟨[(2, .ptr 0 0 0), (4, .ptr 2 0 0)], [⟨1, 26, 2, true, [[.v (.int .i64 n), .sl (b && rest.isEmpty) 1 0 none]]⟩, ⟨1, 33, 9, false, (rest.foldl (putL n) ps).map Pg.row⟩, ⟨1, 26, 2, true, [[.v (.int .i64 0), .sl true 3 0 none]]⟩, ⟨1, 33, 9, false, []⟩]⟩, []⟩
  | [], done, ps, b, h, g => by
    rw [lp7_0]
    refine cF (ltI_f (by rw [List.length_map, h, List.append_nil]; omega)) ?_
    rw [List.isEmpty_nil, Bool.and_true]; rfl
  | p :: rest, done, ps, b, h, g => by
    obtain ⟨hpo, hc⟩ := hok p (by rw [h]; simp)
    have hl := len_at h
    have hn := g.cap.1
    have hpl : ps.length ≤ 256 := by have := g.len; have := g.cap; omega
    have g' := good_put g p hpo hc
    have ih := l_put (n := n) f qs hq hok rest (done ++ [p]) (putL n ps p) false (by rw [h]; simp) g'
    have hw : IntKind.i64.wrap (((done.length : Nat) : Int) + 1) = (((done ++ [p]).length : Nat) : Int) := by rw [w_i64, List.length_append, List.length_singleton]; rw [List.length_map] at hl; omega
    have hs := s_idx n b p.l ps (by omega)
    rw [List.foldl_cons, show (b && (p :: rest).isEmpty) = (false && rest.isEmpty) by simp, lp7_0, row_at h]
    refine cT (ltI_t (by omega)) (cT (by rw [leI_t (by omega), ltI_t (by omega)]; rfl) (cT rfl (bnd (s_cach p hpo) (cT rfl (cF (by show (!cachB p) = false; rw [hc]; rfl) ?_)))))
    cases hi : idx p.l ps with
    | none =>
      rw [hi] at hs
      refine bnd hs (cT rfl (cF rfl (bnd (g_ins (ps.map Pg.row) (c9 p.row)) (cT (leN_t (by rw [List.length_map]; omega)) (cT (cut_ok hn _) ?_)))))
      show lp _ 0 0 ⟨[_, _, _, _, (16, .v (.int .i64 (IntKind.i64.wrap (((done.length : Nat) : Int) + 1))))], [⟨1, 26, 2, true, [[_, .sl (b && false) 1 0 none]]⟩, ⟨1, 33, 9, false, List.take (Int.toNat (if n < ((((p :: ps).map Pg.row).length - 0 : Nat) : Int) then n else ((((p :: ps).map Pg.row).length - 0 : Nat) : Int))) ((p :: ps).map Pg.row)⟩, _, _]⟩ = _
      rw [hw, cut_eq hn, Bool.and_false]
      rw [show putL n ps p = (p :: ps).take n.toNat by unfold putL; rw [hi]] at ih ⊢
      exact ih
    | some i =>
      rw [hi] at hs
      obtain ⟨hil, _⟩ := idx_lt hi
      have hrow := row_i hil
      have hdl := del_len hil
      have hdel := g_del ps i hil (by omega)
      have hins := g_ins ((del ps i).map Pg.row) (c9 (lget (ps.map Pg.row) (0 + Int.toNat (i : Int))))
      refine bnd hs (cT rfl (cT (by show leI 0 (i : Int) = true; exact leI_t (by omega)) (cT ?_ (cT ?_ ?_))))
      · show (leI 0 (i : Int) && ltI (i : Int) (((ps.map Pg.row).length - 0 : Nat) : Int)) = true
        rw [leI_t (by omega), ltI_t (by rw [List.length_map]; omega)]; rfl
      · show (ltN (0 + Int.toNat (i : Int)) (ps.map Pg.row).length && isI .u64 (cellAt (lget (ps.map Pg.row) (0 + Int.toNat (i : Int))) 1)) = true
        rw [hrow, ltN_t (by rw [List.length_map]; omega)]; rfl
      show cond (ltI p.h (avInt (cellAt (lget (ps.map Pg.row) (0 + Int.toNat (i : Int))) 1))) _ _ = _
      have hh : avInt (cellAt (lget (ps.map Pg.row) (0 + Int.toNat (i : Int))) 1) = (ps.getD i pz).h := by rw [hrow]; rfl
      cases hb : ltI p.h (ps.getD i pz).h with
      | true =>
        refine cT (by rw [hh]; exact hb) (cT ?_ (cT ?_ (bnd hdel (cT (leN_t (by rw [List.length_map]; omega)) (bnd hins (cT (leN_t (by rw [List.length_map]; omega)) (cT (cut_ok hn _) ?_)))))))
        · show (leI 0 (i : Int) && ltI (i : Int) (((ps.map Pg.row).length - 0 : Nat) : Int)) = true
          rw [leI_t (by omega), ltI_t (by rw [List.length_map]; omega)]; rfl
        · show (ltN (0 + Int.toNat (i : Int)) (ps.map Pg.row).length && (isI .i64 (cellAt (lget (ps.map Pg.row) (0 + Int.toNat (i : Int))) 0) && (isI .u64 (cellAt (lget (ps.map Pg.row) (0 + Int.toNat (i : Int))) 1) && (isI .u64 (cellAt (lget (ps.map Pg.row) (0 + Int.toNat (i : Int))) 2) && (isI .u64 (cellAt (lget (ps.map Pg.row) (0 + Int.toNat (i : Int))) 3) && (isI .u64 (cellAt (lget (ps.map Pg.row) (0 + Int.toNat (i : Int))) 4) && (isI .u64 (cellAt (lget (ps.map Pg.row) (0 + Int.toNat (i : Int))) 5) && (isI .u64 (cellAt (lget (ps.map Pg.row) (0 + Int.toNat (i : Int))) 6) && (isI .u64 (cellAt (lget (ps.map Pg.row) (0 + Int.toNat (i : Int))) 7) && isI .u64 (cellAt (lget (ps.map Pg.row) (0 + Int.toNat (i : Int))) 8)))))))))) = true
          rw [hrow, ltN_t (by rw [List.length_map]; omega)]; rfl
        show lp _ 0 0 ⟨[_, _, _, _, (16, .v (.int .i64 (IntKind.i64.wrap (((done.length : Nat) : Int) + 1))))], [⟨1, 26, 2, true, [[_, .sl ((b && List.isEmpty ((del ps i).map Pg.row)) && false) 1 0 none]]⟩, ⟨1, 33, 9, false, List.take (Int.toNat (if n < (((c9 (lget (ps.map Pg.row) (0 + Int.toNat (i : Int))) :: (del ps i).map Pg.row).length - 0 : Nat) : Int) then n else (((c9 (lget (ps.map Pg.row) (0 + Int.toNat (i : Int))) :: (del ps i).map Pg.row).length - 0 : Nat) : Int))) (c9 (lget (ps.map Pg.row) (0 + Int.toNat (i : Int))) :: (del ps i).map Pg.row)⟩, _, _]⟩ = _
        rw [hrow, c9_row, ← List.map_cons, hw, cut_eq hn, Bool.and_false]
        rw [show putL n ps p = ((ps.getD i pz) :: del ps i).take n.toNat by unfold putL; rw [hi]; simp only [hb, cond_true]] at ih ⊢
        exact ih
      | false =>
        have hins2 := g_ins ((del ps i).map Pg.row) (c9 p.row)
        refine cF (by rw [hh]; exact hb) (bnd hdel (cT (leN_t (by rw [List.length_map]; omega)) (bnd hins2 (cT (leN_t (by rw [List.length_map]; omega)) (cT (cut_ok hn _) ?_)))))
        show lp _ 0 0 ⟨[_, _, _, _, (16, .v (.int .i64 (IntKind.i64.wrap (((done.length : Nat) : Int) + 1))))], [⟨1, 26, 2, true, [[_, .sl ((b && List.isEmpty ((del ps i).map Pg.row)) && false) 1 0 none]]⟩, ⟨1, 33, 9, false, List.take (Int.toNat (if n < ((((p :: del ps i).map Pg.row).length - 0 : Nat) : Int) then n else ((((p :: del ps i).map Pg.row).length - 0 : Nat) : Int))) ((p :: del ps i).map Pg.row)⟩, _, _]⟩ = _
        rw [hw, cut_eq hn, Bool.and_false]
        rw [show putL n ps p = (p :: del ps i).take n.toNat by unfold putL; rw [hi]; simp only [hb, cond_false]] at ih ⊢
        exact ih
theorem s_put {n : Int} {b : Bool} {ps : List Pg} (g : Good n b ps) (f : Bool) (qs : List Pg) (hq : qs.length ≤ 1000) (hok : ∀ p ∈ qs, p.ok ∧ cachB p = true) :
    ev 7 [.agg [.v (.int .i64 n), .lst b 9 (ps.map Pg.row)], .lst f 9 (qs.map Pg.row)] = some [.agg [.v (.int .i64 n), .lst (b && qs.isEmpty) 9 ((qs.foldl (putL n) ps).map Pg.row)]] := by
  have hpl : ps.length ≤ 1000 := by have := g.len; have := g.cap; omega
  rw [ev7]
  exact bnd (s_clone b ps g.nil hpl) (cT (isOw_ok _ _ _ _) (bnd (s_valid g) (cT rfl (cF rfl (bnd (l_put (n := n) f qs hq hok qs [] ps b rfl g) (cT rfl (cT rfl rfl)))))))
theorem s_get {n : Int} {b : Bool} {ps : List Pg} (g : Good n b ps) (l : Int) :
    ev 6 [.agg [.v (.int .i64 n), .lst b 9 (ps.map Pg.row)], .v (.int .i64 l)] = some (match idx l ps with
      | none => [.agg [.v (.int .i64 n), .lst b 9 (ps.map Pg.row)], .agg pz.row, .v (.bool false)]
      | some i => [.agg [.v (.int .i64 n), .lst false 9 ((getL ps i).map Pg.row)], .agg (ps.getD i pz).row, .v (.bool true)]) := by
  have hpl : ps.length ≤ 256 := by have := g.len; have := g.cap; omega
  have hs := s_idx n b l ps (by omega)
  rw [ev6]
  refine bnd (s_clone b ps g.nil (by omega)) (cT (isOw_ok _ _ _ _) (bnd (s_valid g) (cT rfl (cT rfl ?_))))
  cases hi : idx l ps with
  | none => rw [hi] at hs; exact bnd hs (cT rfl (cT rfl rfl))
  | some i =>
    rw [hi] at hs
    obtain ⟨hil, _⟩ := idx_lt hi
    have hrow := row_i hil
    have hdl := del_len hil
    have hdel := g_del ps i hil (by omega)
    have hins := g_ins ((del ps i).map Pg.row) (c9 (lget (ps.map Pg.row) (0 + Int.toNat (i : Int))))
    refine bnd hs (cT rfl (cF (by show ltI (i : Int) 0 = false; exact ltI_f (by omega)) (cT ?_ (cT ?_ (bnd hdel (cT (leN_t (by show (ps.map Pg.row).length ≤ _; rw [List.length_map]; omega)) (bnd hins (cT (leN_t (by rw [List.length_map]; omega)) ?_))))))))
    · show (leI 0 (i : Int) && ltI (i : Int) (((ps.map Pg.row).length - 0 : Nat) : Int)) = true
      rw [leI_t (by omega), ltI_t (by rw [List.length_map]; omega)]; rfl
    · show (ltN (0 + Int.toNat (i : Int)) (ps.map Pg.row).length && (isI .i64 (cellAt (lget (ps.map Pg.row) (0 + Int.toNat (i : Int))) 0) && (isI .u64 (cellAt (lget (ps.map Pg.row) (0 + Int.toNat (i : Int))) 1) && (isI .u64 (cellAt (lget (ps.map Pg.row) (0 + Int.toNat (i : Int))) 2) && (isI .u64 (cellAt (lget (ps.map Pg.row) (0 + Int.toNat (i : Int))) 3) && (isI .u64 (cellAt (lget (ps.map Pg.row) (0 + Int.toNat (i : Int))) 4) && (isI .u64 (cellAt (lget (ps.map Pg.row) (0 + Int.toNat (i : Int))) 5) && (isI .u64 (cellAt (lget (ps.map Pg.row) (0 + Int.toNat (i : Int))) 6) && (isI .u64 (cellAt (lget (ps.map Pg.row) (0 + Int.toNat (i : Int))) 7) && isI .u64 (cellAt (lget (ps.map Pg.row) (0 + Int.toNat (i : Int))) 8)))))))))) = true
      rw [hrow, ltN_t (by rw [List.length_map]; omega)]; rfl
    show some [AV.agg [_, .lst ((b && List.isEmpty ((del ps i).map Pg.row)) && false) 9 (c9 (lget (ps.map Pg.row) (0 + Int.toNat (i : Int))) :: (del ps i).map Pg.row)], .agg (c9 (lget (ps.map Pg.row) (0 + Int.toNat (i : Int)))), _] = _
    rw [hrow, c9_row, Bool.and_false]
    rfl
theorem good_get {n : Int} {b : Bool} {ps : List Pg} (g : Good n b ps) {l : Int} {i : Nat} (hi : idx l ps = some i) : Good n false (getL ps i) ∧ (getL ps i).map Pg.l = nx n l (ps.map Pg.l) ∧ (ps.getD i pz).l = l := by
  obtain ⟨hil, h2⟩ := idx_lt hi
  have hdl := del_len hil
  have hlen := g.len
  have hl : (ps.getD i pz).l = l := by rw [getD_at hil]; exact h2
  have hlines : (getL ps i).map Pg.l = l :: (ps.map Pg.l).filter fun x => !(x == l) := by
    unfold getL; rw [List.map_cons, hl, idx_del g.nd hi]
  have hnx : (getL ps i).map Pg.l = nx n l (ps.map Pg.l) := by
    rw [hlines]; unfold nx
    rw [List.take_of_length_le]
    rw [← hlines, List.length_map]; unfold getL; rw [List.length_cons]; omega
  refine ⟨⟨g.cap, fun e => (by cases e), ?_, fun q hq => ?_, by rw [hnx]; exact nx_nodup g.nd⟩, hnx, hl⟩
  · unfold getL; rw [List.length_cons]; omega
  · rcases List.mem_cons.1 hq with rfl | h
    · rw [getD_at hil]; exact g.ok _ (List.getElem_mem hil)
    · exact g.ok q (del_mem h)
end Go.Proofs.Ytjbpbidlcegopaa
