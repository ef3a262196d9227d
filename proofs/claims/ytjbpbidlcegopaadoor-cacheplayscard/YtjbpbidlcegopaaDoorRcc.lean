/- The reference's cache: Put, Get, Drop and Hints. -/
import Derived.Test.YtjbpbidlcegopaaDoorGet
set_option linter.all false
namespace Go.Proofs.YtjbpbidlcegopaaDoor
open Go.Ev
theorem cut2 {α : Type} {n : Int} (hn : 1 ≤ n) (L : List Pg) (F : List (List AV) → α) (z : α) :
    cond (ltI n (((L.map Pg.row).length - 0 : Nat) : Int)) (cond (leI 0 n && leI n (((L.map Pg.row).length - 0 : Nat) : Int)) (F (List.take n.toNat (L.map Pg.row))) z) (F (L.map Pg.row)) = F ((L.take n.toNat).map Pg.row) := by
  rw [List.map_take]
  by_cases h : n < (((L.map Pg.row).length - 0 : Nat) : Int)
  · rw [ltI_t h, leI_t (by omega), leI_t (by omega)]; rfl
  · rw [ltI_f (by omega), List.take_of_length_le (by omega)]; rfl
def S16 (n : Int) (b : Bool) (ps0 cur : List Pg) : Store := [⟨1, 30, 2, true, [[.v (.int .i64 n), .lst b 9 (ps0.map Pg.row)]]⟩, ⟨1, 30, 2, true, [[.v (.int .i64 0), .sl true 2 0 none]]⟩, ⟨1, 42, 9, false, []⟩, ⟨1, 42, 9, false, cur.map Pg.row⟩]
theorem l16 {n : Int} (hn : 1 ≤ n) (hn2 : n ≤ 256) (b : Bool) (ps0 : List Pg) (f : Bool) (qs : List Pg) (hq : qs.length ≤ 1000) (hok : ∀ p ∈ qs, p.ok) : ∀ (rest done cur : List Pg) (c : Bool), qs = done ++ rest → cur.length ≤ 256 → (c = true → cur = []) → ∃ c' : Bool, (c' = true → rest.foldl (putS n) cur = []) ∧
    lp 16 0 0 ⟨[(1, .lst f 9 (qs.map Pg.row)), (2, .ptr 0 0 0), (4, .ptr 1 0 0), (5, .sl c 3 0 none), (6, .v (.int .i64 ((done.length : Nat) : Int)))], S16 n b ps0 cur⟩ =
      some ⟨some 0, ⟨[(2, .ptr 0 0 0), (4, .ptr 1 0 0), (5, .sl c' 3 0 none)], S16 n b ps0 (rest.foldl (putS n) cur)⟩, []⟩
  | [], done, cur, c, h, _, hc => by
    refine ⟨c, hc, ?_⟩
    show lp 16 0 0 ⟨_, [⟨1, 30, 2, true, [[_, _]]⟩, _, _, _]⟩ = _
    unfold S16
    rw [lp16_0]
    exact cF (ltI_f (by rw [List.length_map, h, List.append_nil]; omega)) rfl
  | p :: rest, done, cur, c, h, hpl, hcn => by
    have hpo := hok p (by rw [h]; simp)
    have hl := len_at h
    have hpl2 := putL_len n cur p
    have hw : IntKind.i64.wrap (((done.length : Nat) : Int) + 1) = (((done ++ [p]).length : Nat) : Int) := by rw [w_i64, List.length_append, List.length_singleton]; rw [List.length_map] at hl; omega
    have hs := s_cached c p.l cur (by omega)
    rw [List.foldl_cons]
    cases hc : cachB p with
    | false =>
      rw [show putS n cur p = cur by unfold putS; rw [hc]; rfl]
      obtain ⟨c', hc', ih⟩ := l16 hn hn2 b ps0 f qs hq hok rest (done ++ [p]) cur c (by rw [h]; simp) hpl hcn
      refine ⟨c', hc', ?_⟩
      unfold S16 at ih ⊢
      rw [lp16_0, row_at h, hw]
      refine cT (ltI_t (by omega)) (cT (by rw [leI_t (by omega), ltI_t (by omega)]; rfl) (cT rfl (bnd (s_cach2 p hpo) (cT rfl (cT (by show (!cachB p) = true; rw [hc]; rfl) ih)))))
    | true =>
    rw [show putS n cur p = putL n cur p by unfold putS; rw [hc]; rfl]
    obtain ⟨c', hc', ih⟩ := l16 hn hn2 b ps0 f qs hq hok rest (done ++ [p]) (putL n cur p) false (by rw [h]; simp) (by omega) (fun e => by cases e)
    refine ⟨c', hc', ?_⟩
    unfold S16 at ih ⊢
    rw [lp16_0, row_at h, hw]
    refine cT (ltI_t (by omega)) (cT (by rw [leI_t (by omega), ltI_t (by omega)]; rfl) (cT rfl (bnd (s_cach2 p hpo) (cT rfl (cF (by show (!cachB p) = false; rw [hc]; rfl) ?_)))))
    cases hi : idx p.l cur with
    | none =>
      rw [hi] at hs
      refine bnd hs (cT rfl (cF rfl (cT (leN_t (by rw [List.length_map]; omega)) ?_)))
      refine (cut2 hn (p :: cur) (fun X => lp 16 0 0 ⟨[(1, .lst f 9 (qs.map Pg.row)), (2, .ptr 0 0 0), (4, .ptr 1 0 0), (5, .sl ((cur.map Pg.row).isEmpty && false) 3 0 none), (6, .v (.int .i64 (((done ++ [p]).length : Nat) : Int)))], [⟨1, 30, 2, true, [[.v (.int .i64 n), .lst b 9 (ps0.map Pg.row)]]⟩, ⟨1, 30, 2, true, [[.v (.int .i64 0), .sl true 2 0 none]]⟩, ⟨1, 42, 9, false, []⟩, ⟨1, 42, 9, false, X⟩]⟩) none).trans ?_
      show lp 16 0 0 _ = _
      rw [Bool.and_false]
      rw [show putL n cur p = (p :: cur).take n.toNat by unfold putL; rw [hi]] at ih
      rw [show putL n cur p = (p :: cur).take n.toNat by unfold putL; rw [hi]]
      exact ih
    | some i =>
      rw [hi] at hs
      obtain ⟨hil, _⟩ := idx_lt hi
      have hrow := row_i hil
      have hdl := del_len hil
      obtain ⟨f', hwo, _⟩ := s_without c cur i hil (by omega)
      refine bnd hs (cT rfl (cT (by show leI 0 (i : Int) = true; exact leI_t (by omega)) (cT ?_ ?_)))
      · show (leI 0 (i : Int) && ltI (i : Int) (((cur.map Pg.row).length - 0 : Nat) : Int)) = true
        rw [leI_t (by omega), ltI_t (by rw [List.length_map]; omega)]; rfl
      have e0 : avInt (cellAt [AV.v (Value.int .i64 (idxI (some i)))] 0) = (i : Int) := rfl
      rw [e0, hrow]
      refine cT (by rw [ltN_t (by rw [List.length_map]; omega)]; rfl) ?_
      have fin : ∀ q : Pg, putL n cur p = (q :: del cur i).take n.toNat →
          (cond (leN ((1 + (List.length ((del cur i).map Pg.row))) * 72) 140737488355328)
            (cond (ltI n ((((q :: del cur i).map Pg.row).length - 0 : Nat) : Int)) (cond (leI 0 n && leI n ((((q :: del cur i).map Pg.row).length - 0 : Nat) : Int))
              (lp 16 0 0 ⟨[(1, .lst f 9 (qs.map Pg.row)), (2, .ptr 0 0 0), (4, .ptr 1 0 0), (5, .sl (((del cur i).map Pg.row).isEmpty && false) 3 0 none), (6, .v (.int .i64 (((done ++ [p]).length : Nat) : Int)))], [⟨1, 30, 2, true, [[.v (.int .i64 n), .lst b 9 (ps0.map Pg.row)]]⟩, ⟨1, 30, 2, true, [[.v (.int .i64 0), .sl true 2 0 none]]⟩, ⟨1, 42, 9, false, []⟩, ⟨1, 42, 9, false, List.take n.toNat ((q :: del cur i).map Pg.row)⟩]⟩) none)
              (lp 16 0 0 ⟨[(1, .lst f 9 (qs.map Pg.row)), (2, .ptr 0 0 0), (4, .ptr 1 0 0), (5, .sl (((del cur i).map Pg.row).isEmpty && false) 3 0 none), (6, .v (.int .i64 (((done ++ [p]).length : Nat) : Int)))], [⟨1, 30, 2, true, [[.v (.int .i64 n), .lst b 9 (ps0.map Pg.row)]]⟩, ⟨1, 30, 2, true, [[.v (.int .i64 0), .sl true 2 0 none]]⟩, ⟨1, 42, 9, false, []⟩, ⟨1, 42, 9, false, (q :: del cur i).map Pg.row⟩]⟩)) none) =
          some ⟨some 0, ⟨[(2, .ptr 0 0 0), (4, .ptr 1 0 0), (5, .sl c' 3 0 none)], [⟨1, 30, 2, true, [[.v (.int .i64 n), .lst b 9 (ps0.map Pg.row)]]⟩, ⟨1, 30, 2, true, [[.v (.int .i64 0), .sl true 2 0 none]]⟩, ⟨1, 42, 9, false, []⟩, ⟨1, 42, 9, false, (rest.foldl (putS n) (putL n cur p)).map Pg.row⟩]⟩, []⟩ := fun q hq' => by
        refine cT (leN_t (by rw [List.length_map]; omega)) ?_
        refine (cut2 hn (q :: del cur i) (fun X => lp 16 0 0 ⟨[(1, .lst f 9 (qs.map Pg.row)), (2, .ptr 0 0 0), (4, .ptr 1 0 0), (5, .sl (((del cur i).map Pg.row).isEmpty && false) 3 0 none), (6, .v (.int .i64 (((done ++ [p]).length : Nat) : Int)))], [⟨1, 30, 2, true, [[.v (.int .i64 n), .lst b 9 (ps0.map Pg.row)]]⟩, ⟨1, 30, 2, true, [[.v (.int .i64 0), .sl true 2 0 none]]⟩, ⟨1, 42, 9, false, []⟩, ⟨1, 42, 9, false, X⟩]⟩) none).trans ?_
        show lp 16 0 0 _ = _
        rw [Bool.and_false, ← hq']
        exact ih
      show cond (ltI p.h (cur.getD i pz).h) _ _ = _
      cases hb : ltI p.h (cur.getD i pz).h with
      | true =>
        refine cT rfl (cT ?_ (cT (by rw [ltN_t (by rw [List.length_map]; omega)]; rfl) (bnd hwo (cT (isOw_ok _ _ _ _) (cT ?_ (fin (cur.getD i pz) ?_))))))
        · show (leI 0 (i : Int) && ltI (i : Int) (((cur.map Pg.row).length - 0 : Nat) : Int)) = true
          rw [leI_t (by omega), ltI_t (by rw [List.length_map]; omega)]; rfl
        · show (false || (List.all ((del cur i).map Pg.row) rowV && true)) = true
          rw [rowV_all]; rfl
        · unfold putL; rw [hi]; simp only [hb, cond_true]
      | false =>
        refine cF rfl (bnd hwo (cT (isOw_ok _ _ _ _) (cT ?_ (fin p ?_))))
        · show (false || (List.all ((del cur i).map Pg.row) rowV && true)) = true
          rw [rowV_all]; rfl
        · unfold putL; rw [hi]; simp only [hb, cond_false]
theorem s_putR (n : Int) (b : Bool) (ps : List Pg) (hp : ∀ p ∈ ps, p.ok) (hb : b = true → ps = []) (hl : ps.length ≤ 256) (f : Bool) (qs : List Pg) (hq : qs.length ≤ 1000) (hok : ∀ p ∈ qs, p.ok) :
    ∃ b' : Bool, (b' = true → putO n ps qs = []) ∧ ev 16 [.agg [.v (.int .i64 n), .lst b 9 (ps.map Pg.row)], .lst f 9 (qs.map Pg.row)] = some [.agg [.v (.int .i64 n), .lst b' 9 ((putO n ps qs).map Pg.row)]] := by
  have hv := s_validc n b ps hp
  unfold putO
  cases h : validB n ps with
  | false =>
    rw [h] at hv
    refine ⟨b, hb, ?_⟩
    rw [ev16]
    exact bnd hv (cT rfl (cT rfl rfl))
  | true =>
    rw [h] at hv
    obtain ⟨c1, c2, c3⟩ := valid_cap h
    obtain ⟨b', hb', hlp⟩ := l16 c1 c2 b ps f qs hq hok qs [] ps ((ps.map Pg.row).isEmpty && false) rfl hl (fun e => by rw [Bool.and_false] at e; cases e)
    refine ⟨b', hb', ?_⟩
    rw [ev16]
    exact bnd hv (cT rfl (cF rfl (cT (leN_t (by rw [List.length_map]; omega)) (bnd hlp (cT rfl (cT rfl rfl))))))
theorem s_getR (n : Int) (b : Bool) (ps : List Pg) (hp : ∀ p ∈ ps, p.ok) (hb : b = true → ps = []) (hl : ps.length ≤ 256) (l : Int) :
    ∃ b' : Bool, (b' = true → (getO n ps l).1 = []) ∧ ev 11 [.agg [.v (.int .i64 n), .lst b 9 (ps.map Pg.row)], .v (.int .i64 l)] = some [.agg [.v (.int .i64 n), .lst b' 9 ((getO n ps l).1.map Pg.row)], .agg (getO n ps l).2.1.row, .v (.bool (getO n ps l).2.2)] := by
  have hv := s_validc n b ps hp
  have hs := s_cached b l ps (by omega)
  unfold getO
  cases h : validB n ps with
  | false =>
    rw [h] at hv
    refine ⟨b, hb, ?_⟩
    rw [ev11]
    exact bnd hs (cT rfl (bnd hv (cT rfl (cT rfl rfl))))
  | true =>
  rw [h] at hv
  cases hi : idx l ps with
  | none =>
    rw [hi] at hs
    refine ⟨b, hb, ?_⟩
    rw [ev11]
    exact bnd hs (cT rfl (bnd hv (cT rfl (cF rfl (cT rfl rfl)))))
  | some i =>
    rw [hi] at hs
    obtain ⟨hil, _⟩ := idx_lt hi
    have hrow : lget (ps.map Pg.row) (Int.toNat (i : Int)) = (ps.getD i pz).row := by have := row_i hil; rwa [Nat.zero_add] at this
    have hdl := del_len hil
    obtain ⟨f', hwo, _⟩ := s_without b ps i hil (by omega)
    refine ⟨false, fun e => (by cases e), ?_⟩
    rw [ev11]
    refine bnd hs (cT rfl (bnd hv (cT rfl (cF rfl (cF (by show ltI (i : Int) 0 = false; exact ltI_f (by omega)) ?_)))))
    have e0 : avInt (cellAt [AV.v (Value.int .i64 (idxI (some i)))] 0) = (i : Int) := rfl
    rw [e0, hrow]
    refine cT (by rw [leI_t (by omega), ltI_t (by rw [List.length_map]; omega)]; rfl) (cT rfl (bnd hwo (cT (isOw_ok _ _ _ _) (cT ?_ ?_))))
    · show leN ((1 + (List.length ((del ps i).map Pg.row))) * 72) 140737488355328 = true
      exact leN_t (by rw [List.length_map]; omega)
    · show some [AV.agg [_, .lst (((del ps i).map Pg.row).isEmpty && false) 9 _], _, _] = _
      rw [Bool.and_false]; rfl
end Go.Proofs.YtjbpbidlcegopaaDoor
