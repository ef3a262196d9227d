/- The reference's parser: values, keys, comparisons. -/
import Derived.Test.YtcinngpelbdopaaRps2
set_option linter.all false
namespace Go.Proofs.Ytcinngpelbdopaa
open Go.Ev
attribute [local congr] bind_first cond_first
theorem num_neg {w : B} {v : Int} (h : w.headD 0 = 45) (hv : num w = some v) : v ≤ 0 := by
  unfold num at hv
  rw [if_pos h] at hv
  split at hv
  · have := Option.some.inj hv; omega
  · cases hv
theorem num_pos {w : B} {v : Int} (h : ¬ w.headD 0 = 45) (hv : num w = some v) : 0 ≤ v := by
  unfold num at hv
  rw [if_neg h] at hv
  split at hv
  · have := Option.some.inj hv; omega
  · cases hv
theorem failS_failS (s : RS) (k : Nat) (c : Int) : failS (failS s k c) k c = failS s k c := by
  obtain ⟨n, e⟩ := s
  cases e <;> rfl
theorem Res_same {α : Type} {l : B} {f : Rd α} {n m : Nat} {e : Option (Nat × Int)} {a : α} {t : RS} (h : Res l f (n, e) a t) (hf : f n = f m) : Res l f (m, e) a t := by
  refine ⟨h.1, ?_⟩
  have h2 := h.2
  cases e with
  | some e => exact h2
  | none => simp only at h2 ⊢; rw [← hf]; exact h2
theorem s_rvalue (l : B) (s : RS) (hl : l.length ≤ 1000000) (hn : s.1 ≤ l.length) : ∃ (v : Int) (t : RS), ev 70 [rO l s, .v (.bool true)] = some [.v (.int .i64 v), rO l t] ∧ Res l (rdV l) s v t ∧ i64ok v := by
  obtain ⟨v, hv, h⟩ := s_num70 l s true hl hn
  have h2 := wd_le l s.1 hn
  have e : numU true (wd l s.1) = num (wd l s.1) := by
    unfold numU
    rw [if_neg (fun h => absurd h.2 (by decide))]
  rw [e] at h
  cases hx : num (wd l s.1) with
  | none =>
    rw [hx] at h
    exact ⟨v, _, h.2, Res_fail h2 (by unfold rdV rdI; rw [hx]), hv⟩
  | some x =>
    rw [hx] at h
    obtain ⟨rfl, h⟩ := h
    refine ⟨v, _, h, Res_ok h2 ?_, hv⟩
    unfold rdV rdI
    rw [hx]
    exact if_pos hv
/-- An unsigned number, held against bounds. -/
theorem s_rbound (l : B) (s : RS) (lo hi : Int) (hl : l.length ≤ 1000000) (hn : s.1 ≤ l.length) : ∃ (v : Int) (t : RS), ev 70 [rO l s, .v (.bool false)] = some [.v (.int .i64 v), rO l t] ∧ i64ok v ∧ 0 ≤ v ∧ t.1 ≤ l.length ∧
    (¬ (lo ≤ v ∧ v ≤ hi ∧ 1 ≤ v) → (s.2 = none → 1 ≤ lo) → ∀ a, Res l (rdI lo hi l) s a (failS t (sk l s.1) 15)) ∧ (lo ≤ v ∧ v ≤ hi ∧ 1 ≤ v → Res l (rdI lo hi l) s v t) := by
  obtain ⟨v, hv, h⟩ := s_num70 l s false hl hn
  have h2 := wd_le l s.1 hn
  by_cases h45 : (wd l s.1).headD 0 = 45
  · have e : numU false (wd l s.1) = none := by
      unfold numU
      rw [if_pos ⟨h45, rfl⟩]
    rw [e] at h
    obtain ⟨rfl, h⟩ := h
    refine ⟨0, _, h, hv, by omega, h2, fun _ hlo a => ?_, fun h => by omega⟩
    rw [failS_failS]
    obtain ⟨n, q⟩ := s
    refine ⟨h2, ?_⟩
    cases q with
    | some q => rfl
    | none =>
      have hlo := hlo rfl
      have : rdI lo hi l n = .error (sk l n) := by
        unfold rdI
        cases hx : num (wd l n) with
        | none => rfl
        | some x =>
          have := num_neg h45 hx
          simp only
          rw [if_neg (by omega)]
      simp only
      rw [this]; rfl
  · have e : numU false (wd l s.1) = num (wd l s.1) := by
      unfold numU
      rw [if_neg (fun h => h45 h.1)]
    rw [e] at h
    cases hx : num (wd l s.1) with
    | none =>
      rw [hx] at h
      obtain ⟨rfl, h⟩ := h
      refine ⟨0, _, h, hv, by omega, h2, fun _ _ a => ?_, fun h => by omega⟩
      rw [failS_failS]
      exact Res_fail h2 (by unfold rdI; rw [hx])
    | some x =>
      rw [hx] at h
      obtain ⟨rfl, h⟩ := h
      refine ⟨v, _, h, hv, num_pos h45 hx, h2, fun hno hlo a => ?_, fun hyes => Res_ok h2 (by unfold rdI; rw [hx]; exact if_pos ⟨hyes.1, hyes.2.1⟩)⟩
      obtain ⟨n, q⟩ := s
      refine ⟨h2, ?_⟩
      cases q with
      | some q => rfl
      | none =>
        have hlo := hlo rfl
        have : rdI lo hi l n = .error (sk l n) := by
          unfold rdI
          simp only at hx
          rw [hx]
          simp only
          rw [if_neg (by omega)]
        simp only
        rw [this]; rfl
theorem rdI_sk (lo hi : Int) (l : B) (n : Nat) : rdI lo hi l (sk l n) = rdI lo hi l n := by
  unfold rdI
  rw [wd_sk, skk]
theorem s_rkey (l : B) (s : RS) (low : Int) (hlow : 0 ≤ low ∧ low ≤ 4294967295) (hl : l.length ≤ 1000000) (hn : s.1 ≤ l.length) (hs : s.2 = none → 1 ≤ low) : ∃ (v : Int) (t : RS), ev 69 [rO l s, .v (.int .u32 low)] = some [.v (.int .u32 v), rO l t] ∧ Res l (rdI low 4294967294 l) s v t ∧ 0 ≤ v ∧ v ≤ 4294967295 := by
  have h1 := sk_le l s.1 hn
  obtain ⟨v, t, e, hv, hv0, ht, hno, hyes⟩ := s_rbound l (sk l s.1, s.2) low 4294967294 hl h1.2
  have ew : IntKind.i64.wrap low = low := by rw [w_i64]; omega
  by_cases hy : low ≤ v ∧ v ≤ 4294967294 ∧ 1 ≤ v
  · have hw : IntKind.u32.wrap v = v := by rw [w_u32]; omega
    refine ⟨v, t, ?_, Res_same (hyes hy) (rdI_sk _ _ l s.1), by omega, by omega⟩
    refine (ev69 _ _ _ _ _).trans ?_
    rw [ew]
    refine bnd (s_rpeek l s hl hn) (cT rfl (cT rfl (cT rfl (bnd e (cT rfl (cT rfl (cF (ltI_f (by show low ≤ v; omega)) (cF (ltI_f (by show (1 : Int) ≤ v; omega)) (cF (ltI_f (by show v ≤ 4294967294; omega)) ?_)))))))))
    show some [AV.v (.int .u32 (IntKind.u32.wrap v)), rO l t] = _
    rw [hw]
  · refine ⟨0, failS t (sk l (sk l s.1)) 15, ?_, Res_same (hno hy hs 0) (rdI_sk _ _ l s.1), by omega, by omega⟩
    rw [skk]
    refine (ev69 _ _ _ _ _).trans ?_
    rw [ew]
    refine bnd (s_rpeek l s hl hn) (cT rfl (cT rfl (cT rfl (bnd e (cT rfl (cT rfl ?_))))))
    by_cases c1 : v < low
    · exact cT (ltI_t c1) (bnd (s_rfail l t _ _) (cT rfl rfl))
    refine cF (ltI_f (by show low ≤ v; omega)) ?_
    by_cases c2 : v < 1
    · exact cT (ltI_t c2) (bnd (s_rfail l t _ _) (cT rfl rfl))
    refine cF (ltI_f (by show (1 : Int) ≤ v; omega)) ?_
    exact cT (ltI_t (by show (4294967294 : Int) < v; omega)) (bnd (s_rfail l t _ _) (cT rfl rfl))
/-- The last of some words that is this one. -/
def lastW (w : B) : List B → Nat → Int → Int
  | [], _, o => o
  | x :: xs, i, o => lastW w xs (i + 1) (if w = x then (i : Int) else o)
theorem l_ops (l : B) (u : RS) (w : B) (a5 : Int) (c : Int) : ∀ (k i : Nat) (o : Int), i + k = 7 → ∃ o' : Int, o' = lastW w (opW.drop i) i o ∧
    lp 71 0 1 ⟨[(0, .ptr 0 0 0), (2, .ptr 1 0 0), (3, .ptr 2 0 0), (4, .v (.string (bs w))), (5, .v (.int .i64 a5)), (6, .sl false 3 0 none), (7, .v (.int .i64 (i : Int))), (1000000, .ptr 0 0 0)], [⟨1, 102, 4, true, [rRow l u]⟩, ⟨1, 43, 3, true, [[.v (.int .i64 0), .v (.int .i64 0), .v (.int .i64 0)]]⟩, ⟨1, 43, 3, true, [[.v (.int .i64 c), .v (.int .i64 o), .v (.int .i64 0)]]⟩, ⟨1, 9, 1, false, opW.map sRow⟩]⟩ =
      some ⟨some 0, ⟨[(0, .ptr 0 0 0), (2, .ptr 1 0 0), (3, .ptr 2 0 0), (5, .v (.int .i64 a5)), (1000000, .ptr 0 0 0)], [⟨1, 102, 4, true, [rRow l u]⟩, ⟨1, 43, 3, true, [[.v (.int .i64 0), .v (.int .i64 0), .v (.int .i64 0)]]⟩, ⟨1, 43, 3, true, [[.v (.int .i64 c), .v (.int .i64 o'), .v (.int .i64 0)]]⟩]⟩, []⟩
  | 0, i, o, h => by
    obtain rfl : i = 7 := by omega
    refine ⟨o, rfl, ?_⟩
    refine (lp71_0 _ _ _ _ _ _ _ _ _ _ _ _ _ _ _).trans ?_
    exact cF rfl rfl
  | k + 1, i, o, h => by
    have e1 : IntKind.i64.wrap ((i : Int) + 1) = ((i + 1 : Nat) : Int) := by rw [w_i64]; omega
    have hi : i < opW.length := by show i < 7; omega
    have hg : lget (opW.map sRow) (0 + Int.toNat (i : Int)) = sRow opW[i] := by
      rw [Int.toNat_natCast, Nat.zero_add]; unfold lget; simp [hi]
    obtain ⟨o', ho, ih⟩ := l_ops l u w a5 c k (i + 1) (if w = opW[i] then (i : Int) else o) (by omega)
    refine ⟨o', by rw [List.drop_eq_getElem_cons hi]; exact ho, ?_⟩
    rw [← e1] at ih
    refine (lp71_0 _ _ _ _ _ _ _ _ _ _ _ _ _ _ _).trans ?_
    rw [List.length_map, hg]
    refine cT (ltI_t (by show (i : Int) < (((opW.length - 0) : Nat) : Int); omega)) (cT (by rw [leI_t (by omega), ltI_t (by show (i : Int) < (((opW.length - 0) : Nat) : Int); omega)]; rfl) (cT (by rw [Int.toNat_natCast, Nat.zero_add, ltN_t hi]; rfl) ?_))
    by_cases hw : w = opW[i]
    · rw [if_pos hw] at ih
      exact cT ((beq_bs w opW[i]).trans (beq_iff_eq.2 hw)) ih
    · rw [if_neg hw] at ih
      exact cF ((beq_bs w opW[i]).trans (beq_eq_false_iff_ne.2 hw)) ih
theorem op_last (w : B) : lastW w (opW.drop 1) 1 0 = if w = [] then 0 else match idxW w opW 0 with | some i => (i : Int) | none => 0 := by
  show lastW w [[61], [33, 61], [60], [60, 61], [62], [62, 61]] 1 0 = if w = [] then 0 else match idxW w [[], [61], [33, 61], [60], [60, 61], [62], [62, 61]] 0 with | some i => (i : Int) | none => 0
  by_cases h0 : w = []
  · subst h0; rfl
  by_cases h1 : w = [61]
  · subst h1; rfl
  by_cases h2 : w = [33, 61]
  · subst h2; rfl
  by_cases h3 : w = [60]
  · subst h3; rfl
  by_cases h4 : w = [60, 61]
  · subst h4; rfl
  by_cases h5 : w = [62]
  · subst h5; rfl
  by_cases h6 : w = [62, 61]
  · subst h6; rfl
  simp only [lastW, idxW, h0, h1, h2, h3, h4, h5, h6, if_false]
theorem s_rcomparison (l : B) (s : RS) (hl : l.length ≤ 1000000) (hn : s.1 ≤ l.length) : ∃ (c o v : Int) (t : RS), ev 71 [rO l s] = some [.agg [.v (.int .i64 c), .v (.int .i64 o), .v (.int .i64 v)], rO l t] ∧ Res l (rdT l) s (c, o, v) t ∧ i64ok c ∧ i64ok o ∧ i64ok v := by
  obtain ⟨c, t1, e1, r1, hc⟩ := s_rcolumn l s hl hn
  have w1 := s_rword l t1 hl r1.1
  have wl := wd_le l t1.1 r1.1
  obtain ⟨o, ho, hlp⟩ := l_ops l (sk l t1.1 + (wd l t1.1).length, t1.2) (wd l t1.1) (sk l t1.1) c 6 1 0 rfl
  rw [op_last] at ho
  have hops : ev 77 [] = some [.ow false 9 1 (opW.map sRow)] := ev77
  by_cases h0 : o = 0
  · -- no operator
    have hr : rdW opW l t1.1 = .error (sk l t1.1) := by
      unfold rdW
      by_cases hw : wd l t1.1 = []
      · rw [if_pos hw]
      · rw [if_neg hw]
        rw [if_neg hw] at ho
        cases hix : idxW (wd l t1.1) opW 0 with
        | none => rfl
        | some i =>
          exfalso
          rw [hix] at ho
          obtain rfl : i = 0 := by simp only at ho; omega
          have : idxW (wd l t1.1) [[61], [33, 61], [60], [60, 61], [62], [62, 61]] 1 = some 0 := by
            have h2 : idxW (wd l t1.1) ([] :: [[61], [33, 61], [60], [60, 61], [62], [62, 61]]) 0 = some 0 := hix
            rw [idxW_cons, if_neg hw] at h2
            exact h2
          have := (idxW_lt _ _ _ _ this).1
          omega
    have r2 : Res l (rdW opW l) t1 o (failS (sk l t1.1 + (wd l t1.1).length, t1.2) (sk l t1.1) 15) := Res_fail wl hr
    obtain ⟨v, t3, e3, r3, hv⟩ := s_rvalue l _ hl r2.1
    refine ⟨c, o, v, t3, ?_, Res_bind r1 (Res_bind r2 (Res_map r3)), by unfold i64ok; omega, by unfold i64ok; omega, hv⟩
    refine (ev71 _ _ _ _).trans ?_
    exact bnd e1 (cT rfl (cT rfl (bnd w1 (cT rfl (cT rfl (cT rfl (bnd hops (cT rfl (bnd hlp (cT rfl (cT rfl (cT (beq_iff_eq.2 h0) (bnd (s_rfail l _ _ _) (cT rfl (bnd e3 (cT rfl (cT rfl rfl)))))))))))))))))
  · have hwn : wd l t1.1 ≠ [] := fun h => h0 (by rw [ho, if_pos h])
    rw [if_neg hwn] at ho
    obtain ⟨i, hix, hoi⟩ : ∃ i, idxW (wd l t1.1) opW 0 = some i ∧ o = (i : Int) := by
      cases hix : idxW (wd l t1.1) opW 0 with
      | none => rw [hix] at ho; exact absurd ho h0
      | some i => rw [hix] at ho; exact ⟨i, rfl, ho⟩
    have hi7 : i < 0 + opW.length := (idxW_lt _ _ _ _ hix).2
    have hi7 : i < 7 := by have : opW.length = 7 := rfl; omega
    have r2 : Res l (rdW opW l) t1 o (sk l t1.1 + (wd l t1.1).length, t1.2) := Res_ok wl (by
      unfold rdW
      rw [if_neg hwn, hix, hoi])
    obtain ⟨v, t3, e3, r3, hv⟩ := s_rvalue l _ hl r2.1
    refine ⟨c, o, v, t3, ?_, Res_bind r1 (Res_bind r2 (Res_map r3)), by unfold i64ok; omega, by unfold i64ok; omega, hv⟩
    refine (ev71 _ _ _ _).trans ?_
    exact bnd e1 (cT rfl (cT rfl (bnd w1 (cT rfl (cT rfl (cT rfl (bnd hops (cT rfl (bnd hlp (cT rfl (cT rfl (cF (eqB_f h0) (bnd e3 (cT rfl (cT rfl rfl)))))))))))))))
end Go.Proofs.Ytcinngpelbdopaa
