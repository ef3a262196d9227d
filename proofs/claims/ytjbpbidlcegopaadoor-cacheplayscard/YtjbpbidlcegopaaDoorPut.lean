/- The cache: Put, Get and Drop of the program. -/
import Derived.Test.YtjbpbidlcegopaaDoorSpa
set_option linter.all false
namespace Go.Proofs.YtjbpbidlcegopaaDoor
open Go.Ev
attribute [local congr] bind_first cond_first
abbrev c9 (r : List AV) : List AV := [.v (.int .i64 (avInt (cellAt r 0))), .v (.int .u64 (avInt (cellAt r 1))), .v (.int .u64 (avInt (cellAt r 2))), .v (.int .u64 (avInt (cellAt r 3))), .v (.int .u64 (avInt (cellAt r 4))), .v (.int .u64 (avInt (cellAt r 5))), .v (.int .u64 (avInt (cellAt r 6))), .v (.int .u64 (avInt (cellAt r 7))), .v (.int .u64 (avInt (cellAt r 8)))]
theorem c9_row (p : Pg) : c9 p.row = p.row := rfl
theorem getD_at {ps : List Pg} {i : Nat} (h : i < ps.length) : ps.getD i pz = ps[i] := by simp [h]
theorem del_mem {ps : List Pg} {i : Nat} {q : Pg} (h : q ∈ del ps i) : q ∈ ps := by
  unfold del at h
  rcases List.mem_append.1 h with h | h
  · exact List.mem_of_mem_take h
  · exact List.mem_of_mem_drop h
theorem cut_eq {n : Int} (hn : 1 ≤ n) (xs : List Pg) : List.take (Int.toNat (if n < (((xs.map Pg.row).length - 0 : Nat) : Int) then n else (((xs.map Pg.row).length - 0 : Nat) : Int))) (xs.map Pg.row) = (xs.take n.toNat).map Pg.row := by
  rw [Nat.sub_zero, List.length_map, List.map_take]
  split
  · rfl
  · rename_i h
    rw [Int.toNat_natCast, List.take_of_length_le (by rw [List.length_map]; omega), List.take_of_length_le (by rw [List.length_map]; omega)]
theorem cut_ok {n : Int} (hn : 1 ≤ n) (k : Nat) : (leI 0 (if n < ((k - 0 : Nat) : Int) then n else ((k - 0 : Nat) : Int)) && leI (if n < ((k - 0 : Nat) : Int) then n else ((k - 0 : Nat) : Int)) ((k - 0 : Nat) : Int)) = true := by
  split <;> rw [leI_t (by omega), leI_t (by omega)] <;> rfl
theorem row_i {ps : List Pg} {i : Nat} (h : i < ps.length) : lget (ps.map Pg.row) (0 + Int.toNat (i : Int)) = (ps.getD i pz).row := by
  rw [Nat.zero_add, Int.toNat_natCast, lget_mapD _ _ pz _ h]
theorem del_len {ps : List Pg} {i : Nat} (h : i < ps.length) : (del ps i).length + 1 = ps.length := by
  unfold del; rw [List.length_append, List.length_take, List.length_drop]; omega
def putS (n : Int) (ps : List Pg) (p : Pg) : List Pg := bif cachB p then putL n ps p else ps
theorem putL_len (n : Int) (ps : List Pg) (p : Pg) : (putL n ps p).length ≤ n.toNat := by
  unfold putL
  split <;> (rw [List.length_take]; omega)
theorem putL_ok {n : Int} {ps : List Pg} {p : Pg} (hp : p.ok) (h : ∀ q ∈ ps, q.ok) : ∀ q ∈ putL n ps p, q.ok := fun q hq => by
  unfold putL at hq
  split at hq
  · rcases List.mem_cons.1 (List.mem_of_mem_take hq) with rfl | hx
    · exact hp
    · exact h q hx
  · rename_i i hi
    obtain ⟨h2, _⟩ := idx_lt hi
    rcases List.mem_cons.1 (List.mem_of_mem_take hq) with rfl | hx
    · cases ltI p.h (ps.getD i pz).h with
      | true => rw [getD_at h2]; exact h _ (List.getElem_mem h2)
      | false => exact hp
    · exact h q (del_mem hx)
theorem fold_ok {n : Int} (hn : n ≤ 256) : ∀ (qs ps : List Pg), (∀ q ∈ qs, q.ok) → (∀ q ∈ ps, q.ok) → ps.length ≤ 256 → (∀ q ∈ qs.foldl (putS n) ps, q.ok) ∧ (qs.foldl (putS n) ps).length ≤ 256
  | [], ps, _, h, hl => ⟨h, hl⟩
  | q :: qs, ps, hq, h, hl => by
    rw [List.foldl_cons]
    refine fold_ok hn qs _ (fun x hx => hq x (List.mem_cons_of_mem _ hx)) ?_ ?_
    · unfold putS
      cases cachB q with
      | true => exact putL_ok (hq q (List.mem_cons_self ..)) h
      | false => exact h
    · unfold putS
      cases cachB q with
      | true => have := putL_len n ps q; show (putL n ps q).length ≤ 256; omega
      | false => exact hl
theorem l_put {n : Int} (hn : 1 ≤ n) (hn2 : n ≤ 256) (f : Bool) (qs : List Pg) (hq : qs.length ≤ 1000) (hok : ∀ p ∈ qs, p.ok) : ∀ (rest done ps : List Pg) (b : Bool), qs = done ++ rest → ps.length ≤ 256 → (b = true → ps = []) → ∃ b' : Bool, (b' = true → rest.foldl (putS n) ps = []) ∧
    lp 15 0 0 ⟨[(2, .ptr 0 0 0), (4, .ptr 2 0 0), (14, .lst f 9 (qs.map Pg.row)), (15, .v (.int .i64 (((qs.map Pg.row).length : Nat) : Int))), (16, .v (.int .i64 ((done.length : Nat) : Int)))], [⟨1, 24, 2, true, [[.v (.int .i64 n), .sl b 1 0 none]]⟩, ⟨1, 42, 9, false, ps.map Pg.row⟩, ⟨1, 24, 2, true, [[.v (.int .i64 0), .sl true 3 0 none]]⟩, ⟨1, 42, 9, false, []⟩]⟩ =
      some ⟨some 0, ⟨[(2, .ptr 0 0 0), (4, .ptr 2 0 0)], [⟨1, 24, 2, true, [[.v (.int .i64 n), .sl b' 1 0 none]]⟩, ⟨1, 42, 9, false, (rest.foldl (putS n) ps).map Pg.row⟩, ⟨1, 24, 2, true, [[.v (.int .i64 0), .sl true 3 0 none]]⟩, ⟨1, 42, 9, false, []⟩]⟩, []⟩
  | [], done, ps, b, h, hpl, hb => by
    refine ⟨b, hb, ?_⟩
    rw [lp15_0]
    exact cF (ltI_f (by rw [List.length_map, h, List.append_nil]; omega)) rfl
  | p :: rest, done, ps, b, h, hpl, hb => by
    have hpo := hok p (by rw [h]; simp)
    have hl := len_at h
    have hpl2 := putL_len n ps p
    have hw : IntKind.i64.wrap (((done.length : Nat) : Int) + 1) = (((done ++ [p]).length : Nat) : Int) := by rw [w_i64, List.length_append, List.length_singleton]; rw [List.length_map] at hl; omega
    have hs := s_idx n b p.l ps (by omega)
    rw [List.foldl_cons]
    cases hc : cachB p with
    | false =>
      rw [show putS n ps p = ps by unfold putS; rw [hc]; rfl]
      obtain ⟨b', hb', ih⟩ := l_put hn hn2 f qs hq hok rest (done ++ [p]) ps b (by rw [h]; simp) hpl hb
      refine ⟨b', hb', ?_⟩
      rw [lp15_0, row_at h, hw]
      refine cT (ltI_t (by omega)) (cT (by rw [leI_t (by omega), ltI_t (by omega)]; rfl) (cT rfl (bnd (s_cach p hpo) (cT rfl (cT (by show (!cachB p) = true; rw [hc]; rfl) ih)))))
    | true =>
    rw [show putS n ps p = putL n ps p by unfold putS; rw [hc]; rfl]
    obtain ⟨b', hb', ih⟩ := l_put hn hn2 f qs hq hok rest (done ++ [p]) (putL n ps p) false (by rw [h]; simp) (by omega) (fun e => by cases e)
    refine ⟨b', hb', ?_⟩
    rw [lp15_0, row_at h]
    refine cT (ltI_t (by omega)) (cT (by rw [leI_t (by omega), ltI_t (by omega)]; rfl) (cT rfl (bnd (s_cach p hpo) (cT rfl (cF (by show (!cachB p) = false; rw [hc]; rfl) ?_)))))
    cases hi : idx p.l ps with
    | none =>
      rw [hi] at hs
      refine bnd hs (cT rfl (cF rfl (bnd (g_ins (ps.map Pg.row) (c9 p.row)) (cT (leN_t (by rw [List.length_map]; omega)) (cT (cut_ok hn _) ?_)))))
      show lp _ 0 0 ⟨[_, _, _, _, (16, .v (.int .i64 (IntKind.i64.wrap (((done.length : Nat) : Int) + 1))))], [⟨1, 24, 2, true, [[_, .sl (b && false) 1 0 none]]⟩, ⟨1, 42, 9, false, List.take (Int.toNat (if n < ((((p :: ps).map Pg.row).length - 0 : Nat) : Int) then n else ((((p :: ps).map Pg.row).length - 0 : Nat) : Int))) ((p :: ps).map Pg.row)⟩, _, _]⟩ = _
      rw [hw, cut_eq hn, Bool.and_false]
      rw [show putL n ps p = (p :: ps).take n.toNat by unfold putL; rw [hi]] at ih ⊢
      exact ih
    | some i =>
      rw [hi] at hs
      obtain ⟨hil, _⟩ := idx_lt hi
      have hrow := row_i hil
      have hdl := del_len hil
      have hdel := g_del ps i hil (by omega)
      have hins := g_ins ((del ps i).map Pg.row) (c9 (lget (ps.map Pg.row) (0 + Int.toNat (i : Int))))
      refine bnd hs (cT rfl (cT (by show leI 0 (i : Int) = true; exact leI_t (by omega)) (cT ?_ (cT ?_ ?_))))
      · show (leI 0 (i : Int) && ltI (i : Int) (((ps.map Pg.row).length - 0 : Nat) : Int)) = true
        rw [leI_t (by omega), ltI_t (by rw [List.length_map]; omega)]; rfl
      · show (ltN (0 + Int.toNat (i : Int)) (ps.map Pg.row).length && isI .u64 (cellAt (lget (ps.map Pg.row) (0 + Int.toNat (i : Int))) 1)) = true
        rw [hrow, ltN_t (by rw [List.length_map]; omega)]; rfl
      show cond (ltI p.h (avInt (cellAt (lget (ps.map Pg.row) (0 + Int.toNat (i : Int))) 1))) _ _ = _
      have hh : avInt (cellAt (lget (ps.map Pg.row) (0 + Int.toNat (i : Int))) 1) = (ps.getD i pz).h := by rw [hrow]; rfl
      cases hb : ltI p.h (ps.getD i pz).h with
      | true =>
        refine cT (by rw [hh]; exact hb) (cT ?_ (cT ?_ (bnd hdel (cT (leN_t (by rw [List.length_map]; omega)) (bnd hins (cT (leN_t (by rw [List.length_map]; omega)) (cT (cut_ok hn _) ?_)))))))
        · show (leI 0 (i : Int) && ltI (i : Int) (((ps.map Pg.row).length - 0 : Nat) : Int)) = true
          rw [leI_t (by omega), ltI_t (by rw [List.length_map]; omega)]; rfl
        · show (ltN (0 + Int.toNat (i : Int)) (ps.map Pg.row).length && (isI .i64 (cellAt (lget (ps.map Pg.row) (0 + Int.toNat (i : Int))) 0) && (isI .u64 (cellAt (lget (ps.map Pg.row) (0 + Int.toNat (i : Int))) 1) && (isI .u64 (cellAt (lget (ps.map Pg.row) (0 + Int.toNat (i : Int))) 2) && (isI .u64 (cellAt (lget (ps.map Pg.row) (0 + Int.toNat (i : Int))) 3) && (isI .u64 (cellAt (lget (ps.map Pg.row) (0 + Int.toNat (i : Int))) 4) && (isI .u64 (cellAt (lget (ps.map Pg.row) (0 + Int.toNat (i : Int))) 5) && (isI .u64 (cellAt (lget (ps.map Pg.row) (0 + Int.toNat (i : Int))) 6) && (isI .u64 (cellAt (lget (ps.map Pg.row) (0 + Int.toNat (i : Int))) 7) && isI .u64 (cellAt (lget (ps.map Pg.row) (0 + Int.toNat (i : Int))) 8)))))))))) = true
          rw [hrow, ltN_t (by rw [List.length_map]; omega)]; rfl
        show lp _ 0 0 ⟨[_, _, _, _, (16, .v (.int .i64 (IntKind.i64.wrap (((done.length : Nat) : Int) + 1))))], [⟨1, 24, 2, true, [[_, .sl ((b && List.isEmpty ((del ps i).map Pg.row)) && false) 1 0 none]]⟩, ⟨1, 42, 9, false, List.take (Int.toNat (if n < (((c9 (lget (ps.map Pg.row) (0 + Int.toNat (i : Int))) :: (del ps i).map Pg.row).length - 0 : Nat) : Int) then n else (((c9 (lget (ps.map Pg.row) (0 + Int.toNat (i : Int))) :: (del ps i).map Pg.row).length - 0 : Nat) : Int))) (c9 (lget (ps.map Pg.row) (0 + Int.toNat (i : Int))) :: (del ps i).map Pg.row)⟩, _, _]⟩ = _
        rw [hrow, c9_row, ← List.map_cons, hw, cut_eq hn, Bool.and_false]
        rw [show putL n ps p = ((ps.getD i pz) :: del ps i).take n.toNat by unfold putL; rw [hi]; simp only [hb, cond_true]] at ih ⊢
        exact ih
      | false =>
        have hins2 := g_ins ((del ps i).map Pg.row) (c9 p.row)
        refine cF (by rw [hh]; exact hb) (bnd hdel (cT (leN_t (by rw [List.length_map]; omega)) (bnd hins2 (cT (leN_t (by rw [List.length_map]; omega)) (cT (cut_ok hn _) ?_)))))
        show lp _ 0 0 ⟨[_, _, _, _, (16, .v (.int .i64 (IntKind.i64.wrap (((done.length : Nat) : Int) + 1))))], [⟨1, 24, 2, true, [[_, .sl ((b && List.isEmpty ((del ps i).map Pg.row)) && false) 1 0 none]]⟩, ⟨1, 42, 9, false, List.take (Int.toNat (if n < ((((p :: del ps i).map Pg.row).length - 0 : Nat) : Int) then n else ((((p :: del ps i).map Pg.row).length - 0 : Nat) : Int))) ((p :: del ps i).map Pg.row)⟩, _, _]⟩ = _
        rw [hw, cut_eq hn, Bool.and_false]
        rw [show putL n ps p = (p :: del ps i).take n.toNat by unfold putL; rw [hi]; simp only [hb, cond_false]] at ih ⊢
        exact ih
def putO (n : Int) (ps qs : List Pg) : List Pg := bif validB n ps then qs.foldl (putS n) ps else ps
theorem valid_cap {n : Int} {ps : List Pg} (h : validB n ps = true) : 1 ≤ n ∧ n ≤ 256 ∧ ((ps.length : Nat) : Int) ≤ n := by
  unfold validB at h
  simp only [Bool.and_eq_true, Bool.not_eq_true'] at h
  obtain ⟨h1, h2, h3, _⟩ := h
  have h1 : ¬ (n < 1) := of_decide_eq_false h1
  have h2 : ¬ (256 < n) := of_decide_eq_false h2
  have h3 : ¬ (n < ((ps.length : Nat) : Int)) := of_decide_eq_false h3
  omega
theorem s_put (n : Int) (b : Bool) (ps : List Pg) (hp : ∀ p ∈ ps, p.ok) (hb : b = true → ps = []) (hl : ps.length ≤ 256) (f : Bool) (qs : List Pg) (hq : qs.length ≤ 1000) (hok : ∀ p ∈ qs, p.ok) :
    ∃ b' : Bool, (b' = true → putO n ps qs = []) ∧ ev 15 [.agg [.v (.int .i64 n), .lst b 9 (ps.map Pg.row)], .lst f 9 (qs.map Pg.row)] = some [.agg [.v (.int .i64 n), .lst b' 9 ((putO n ps qs).map Pg.row)]] := by
  have hv := s_valid n b ps hp
  have hcl := s_clone b ps hb (by omega)
  unfold putO
  cases h : validB n ps with
  | false =>
    rw [h] at hv
    refine ⟨b, hb, ?_⟩
    rw [ev15]
    exact bnd hcl (cT (isOw_ok _ _ _ _) (bnd hv (cT rfl (cT rfl rfl))))
  | true =>
    rw [h] at hv
    obtain ⟨c1, c2, c3⟩ := valid_cap h
    obtain ⟨b', hb', hlp⟩ := l_put c1 c2 f qs hq hok qs [] ps b rfl hl hb
    refine ⟨b', hb', ?_⟩
    rw [ev15]
    exact bnd hcl (cT (isOw_ok _ _ _ _) (bnd hv (cT rfl (cF rfl (bnd hlp (cT rfl (cT rfl rfl)))))))
end Go.Proofs.YtjbpbidlcegopaaDoor
