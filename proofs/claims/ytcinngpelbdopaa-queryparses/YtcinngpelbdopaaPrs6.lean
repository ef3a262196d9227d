/- A text, read whole. -/
import Derived.Test.YtcinngpelbdopaaPrs5
set_option linter.all false
namespace Go.Proofs.Ytcinngpelbdopaa
open Go.Ev
attribute [local congr] bind_first cond_first
/-- What Parse comes to: the program, the place, the code. -/
def prs (l : B) : Nat → List Stm → Nat → List Stm × Nat × Int
  | 0, _, _ => ([], 0, 0)
  | f + 1, acc, n =>
    if acc.length = 8 ∧ wd l n ≠ [] then ([], sk l n, 18)
    else match rdStm l n with
      | .error k => ([], k, 15)
      | .ok (s, m) => if wd l m ≠ [] then ([], sk l m, 15) else if sk l m = l.length then (acc ++ [s], 0, 0) else prs l f (acc ++ [s]) (sk l m + 1)
def outP (r : List Stm × Nat × Int) : List AV := [.ow r.1.isEmpty 49 12 (r.1.map Stm.row), .v (.int .i64 (r.2.1 : Int)), .v (.int .i64 r.2.2)]
def st3 (l : B) (nl : Bool) (acc : List Stm) (n : Nat) (c : Int) : St := ⟨[(0, .v (.string (bs l))), (2, .sl nl 0 0 none), (5, .ptr 1 0 0)], [⟨1, 49, 12, false, acc.map Stm.row⟩, ⟨1, 95, 3, true, [pRow l n c]⟩]⟩
def st4 (l : B) (nl : Bool) (acc : List Stm) (n : Nat) (c : Int) (q : Nat) (b : Bool) : St := ⟨[(0, .v (.string (bs l))), (2, .sl nl 0 0 none), (5, .ptr 1 0 0), (q, .v (.bool b))], [⟨1, 49, 12, false, acc.map Stm.row⟩, ⟨1, 95, 3, true, [pRow l n c]⟩]⟩
theorem rdStm_nil {l : B} {n : Nat} (h : wd l n = []) : rdStm l n = .error (sk l n) := by
  unfold rdStm bindR rdW
  rw [if_pos h]
theorem map_snoc (acc : List Stm) (s : Stm) : (acc ++ [s]).map Stm.row = acc.map Stm.row ++ [s.row] := List.map_append
theorem neq_nil (w : B) : (!(ByteArray.toList (bs w) == ByteArray.toList (bs []))) = decide (w ≠ []) := by
  rw [bs_toList, bs_toList]
  by_cases h : w = []
  · subst h; rfl
  · rw [beq_eq_false_iff_ne.2 h, decide_eq_true h]; rfl
section
variable {l : B} (hl : l.length ≤ 1000000) (ha : okTxt l)
include hl ha
theorem l_Parse : ∀ (f : Nat) (acc : List Stm) (n : Nat) (nl : Bool), acc.length + f = 9 → 1 ≤ f → n ≤ l.length → lp 15 0 0 (st3 l nl acc n 0) = some ⟨none, ⟨[], []⟩, outP (prs l f acc n)⟩
  | 0, _, _, _, _, h, _ => absurd h (by omega)
  | f + 1, acc, n, nl, hf, _, hn => by
    have h1 := sk_le l n hn
    have hpk := s_peek l n 0 hl hn ha
    obtain ⟨n', en'⟩ : ∃ n' : Nat, n' = if acc.length = 8 then sk l n else n := ⟨_, rfl⟩
    obtain ⟨b, eb⟩ : ∃ b : Bool, b = decide (acc.length = 8 ∧ wd l n ≠ []) := ⟨_, rfl⟩
    obtain ⟨p, ep⟩ : ∃ p : Nat × Int, p = if b then (sk l n, 18) else (n', 0) := ⟨_, rfl⟩
    have hn' : n' ≤ l.length := by rw [en']; split; exact h1.2; exact hn
    have hb8 : b = true → n' = sk l n := fun h => by
      rw [eb, decide_eq_true_iff] at h
      rw [en', if_pos h.1]
    have ip : inv l p := by
      rw [ep]
      cases b with
      | true => exact ⟨h1.2, .inr (skk l n)⟩
      | false => exact ⟨hn', .inl rfl⟩
    obtain ⟨t, h2, ht, v2⟩ := s_statement hl ha p ip
    obtain ⟨q, eq⟩ : ∃ q, q = adv (rdStm l) p := ⟨_, rfl⟩
    have iq : inv l q := by rw [eq]; exact good_inv (good_Stm l) ip
    rw [← eq] at h2
    obtain ⟨b2, eb2⟩ : ∃ b : Bool, b = decide (q.2 = 0 ∧ wd l q.1 ≠ []) := ⟨_, rfl⟩
    obtain ⟨n2, en2⟩ : ∃ n2 : Nat, n2 = if q.2 = 0 then sk l q.1 else q.1 := ⟨_, rfl⟩
    obtain ⟨r, er⟩ : ∃ r : Nat × Int, r = if b2 then (sk l q.1, 15) else (n2, q.2) := ⟨_, rfl⟩
    have h3 := sk_le l q.1 iq.1
    have hn2 : n2 ≤ l.length := by rw [en2]; split; exact h3.2; exact iq.1
    have hpk2 := s_peek l q.1 q.2 hl iq.1 ha
    have hr : r.1 ≤ l.length := by
      rw [er]
      cases b2 with
      | true => exact h3.2
      | false => exact hn2
    have hres : prs l (f + 1) acc n = if r.2 ≠ 0 then ([], r.1, r.2) else if r.1 = l.length then (acc ++ [t], 0, 0) else prs l f (acc ++ [t]) (r.1 + 1) := by
      show (if acc.length = 8 ∧ wd l n ≠ [] then ([], sk l n, 18) else _) = _
      by_cases hb : acc.length = 8 ∧ wd l n ≠ []
      · rw [if_pos hb]
        obtain rfl : b = true := by rw [eb]; exact decide_eq_true hb
        rw [if_pos rfl] at ep
        subst ep
        obtain rfl : q = (sk l n, 18) := eq
        obtain rfl : b2 = false := by rw [eb2]; exact decide_eq_false (fun h => absurd h.1 (show ¬ (18 : Int) = 0 by decide))
        rw [if_neg (show ¬ (18 : Int) = 0 by decide)] at en2
        subst en2
        rw [if_neg (by decide)] at er
        subst er; rfl
      · rw [if_neg hb]
        obtain rfl : b = false := by rw [eb]; exact decide_eq_false hb
        rw [if_neg (by decide)] at ep
        have hrd : rdStm l n' = rdStm l n := by
          rw [en']
          by_cases h8 : acc.length = 8
          · rw [if_pos h8]
            have hw : wd l n = [] := Classical.byContradiction fun h => hb ⟨h8, h⟩
            rw [rdStm_nil hw, rdStm_nil (by rw [wd_sk]; exact hw), skk]
          · rw [if_neg h8]
        have eq' : q = nx (rdStm l n) := by
          rw [eq, ep]
          show nx (rdStm l n') = _
          rw [hrd]
        cases hx : rdStm l n with
        | error k =>
          rw [hx] at eq'
          obtain rfl : q = (k, 15) := eq'
          obtain rfl : b2 = false := by rw [eb2]; exact decide_eq_false (fun h => absurd h.1 (show ¬ (15 : Int) = 0 by decide))
          rw [if_neg (show ¬ (15 : Int) = 0 by decide)] at en2
          subst en2
          rw [if_neg (by decide)] at er
          subst er; rfl
        | ok sm =>
          obtain ⟨s, m⟩ := sm
          have ets : t = s := v2 (by rw [ep]) s m (by rw [ep]; show rdStm l n' = _; rw [hrd, hx])
          rw [hx] at eq'
          obtain rfl : q = (m, 0) := eq'
          rw [if_pos rfl] at en2
          subst en2 ets
          simp only
          by_cases hw : wd l m = []
          · obtain rfl : b2 = false := by rw [eb2]; exact decide_eq_false (fun h => h.2 hw)
            rw [if_neg (by decide)] at er
            subst er
            rw [if_neg (by simp [hw])]
            show _ = if (0 : Int) ≠ 0 then _ else _
            rw [if_neg (show ¬ (0 : Int) ≠ 0 by decide)]
          · obtain rfl : b2 = true := by rw [eb2]; exact decide_eq_true ⟨rfl, hw⟩
            rw [if_pos rfl] at er
            subst er
            rw [if_pos hw]; rfl
    rw [hres]
    refine (lp15_0 _ _ _ _ _ _).trans ?_
    rw [List.length_map]
    refine bnd (a := ⟨some 1000001, st3 l nl acc p.1 p.2, []⟩) (bnd (a := ⟨some 1000001, st4 l nl acc n' 0 19 b, []⟩) ?_ (cT rfl (cT rfl ?_))) ?_
    · by_cases h8 : acc.length = 8
      · refine cT (by rw [h8]; rfl) (bnd hpk (cT rfl (cT rfl ?_)))
        rw [if_pos h8] at en'
        have hb : (!(ByteArray.toList (bs (wd l n)) == ByteArray.toList (bs []))) = b := by
          rw [neq_nil, eb]; simp [h8]
        rw [← hb, en']; rfl
      · refine cF (eqB_f (by omega)) ?_
        rw [if_neg h8] at en'
        have hb : b = false := by rw [eb]; exact decide_eq_false (fun h => h8 h.1)
        rw [en', hb]; rfl
    · cases b with
      | true =>
        rw [if_pos rfl] at ep
        subst ep
        have hf2 := s_fail l n' 0 18 hl hn'
        rw [if_pos rfl, hb8 rfl, skk] at hf2
        rw [hb8 rfl]
        exact cT rfl (bnd hf2 (cT rfl rfl))
      | false =>
        rw [if_neg (by decide)] at ep
        subst ep
        exact cF rfl rfl
    refine cT rfl (cT rfl (bnd h2 ?_))
    refine cT (shS t) (cT rfl (cT (leN_t (by show ((acc.map Stm.row).length + 1) * 88 ≤ _; rw [List.length_map]; omega)) ?_))
    refine bnd (a := ⟨some 1000001, st3 l false (acc ++ [t]) r.1 r.2, []⟩) (bnd (a := ⟨some 1000001, st4 l false (acc ++ [t]) n2 q.2 36 b2, []⟩) ?_ (cT rfl (cT rfl ?_))) (cT rfl (cT rfl ?_))
    · by_cases h0 : q.2 = 0
      · refine cT (by show (q.2 == 0) = true; rw [h0]; rfl) (bnd hpk2 (cT rfl (cT rfl ?_)))
        rw [if_pos h0] at en2
        have hb : (!(ByteArray.toList (bs (wd l q.1)) == ByteArray.toList (bs []))) = b2 := by
          rw [neq_nil, eb2]; simp [h0]
        rw [← hb, en2]
        unfold st4
        rw [map_snoc]; rfl
      · refine cF (eqB_f h0) ?_
        rw [if_neg h0] at en2
        have hb : b2 = false := by rw [eb2]; exact decide_eq_false (fun h => h0 h.1)
        rw [en2, hb]
        unfold st4
        rw [map_snoc]; rfl
    · cases b2 with
      | true =>
        rw [if_pos rfl] at er
        subst er
        have h4 := of_decide_eq_true eb2.symm
        have hf2 := s_fail l n2 q.2 15 hl hn2
        rw [if_pos h4.1, en2, if_pos h4.1, skk] at hf2
        rw [en2, if_pos h4.1]
        exact cT rfl (bnd hf2 (cT rfl rfl))
      | false =>
        rw [if_neg (by decide)] at er
        subst er
        exact cF rfl rfl
    by_cases h0 : r.2 = 0
    · rw [if_neg (fun h => h h0)]
      refine cF (by show (!(r.2 == 0)) = false; rw [h0]; rfl) ?_
      by_cases he : r.1 = l.length
      · rw [if_pos he]
        refine cT (by show (((r.1 : Nat) : Int) == (((bs l).size : Nat) : Int)) = true; rw [bs_size, he]; simp) ?_
        cases acc <;> rfl
      · rw [if_neg he]
        refine cF (by show (((r.1 : Nat) : Int) == (((bs l).size : Nat) : Int)) = false; rw [bs_size]; exact eqB_f (by omega)) ?_
        have e1 : IntKind.i64.wrap ((r.1 : Int) + 1) = ((r.1 + 1 : Nat) : Int) := by rw [w_i64]; omega
        have hpos : 1 ≤ f := by
          refine Nat.pos_of_ne_zero fun hf0 => ?_
          have h8 : acc.length = 8 := by omega
          have hq : q.2 ≠ 0 := by
            rw [eq]
            cases b with
            | true => rw [if_pos rfl] at ep; subst ep; exact (show ¬ (18 : Int) = 0 by decide)
            | false =>
              rw [if_neg (by decide)] at ep
              subst ep
              have hw : wd l n = [] := Classical.byContradiction fun h => absurd (eb.trans (decide_eq_true ⟨h8, h⟩)) (by decide)
              show (nx (rdStm l n')).2 ≠ 0
              rw [en', if_pos h8, rdStm_nil (by rw [wd_sk]; exact hw)]
              exact (show ¬ (15 : Int) = 0 by decide)
          have hb2 : b2 = false := by rw [eb2]; exact decide_eq_false (fun h => hq h.1)
          rw [er, hb2] at h0
          exact hq h0
        have ih := l_Parse f (acc ++ [t]) (r.1 + 1) false (by rw [List.length_append]; show acc.length + 1 + f = 9; omega) hpos (by omega)
        unfold st3 pRow at ih
        rw [← e1] at ih
        show lp 15 0 0 ⟨[(0, .v (.string (bs l))), (2, .sl false 0 0 none), (5, .ptr 1 0 0)], [⟨1, 49, 12, false, (acc ++ [t]).map Stm.row⟩, ⟨1, 95, 3, true, [[.v (.string (bs l)), .v (.int .i64 (IntKind.i64.wrap ((r.1 : Int) + 1))), .v (.int .i64 r.2)]]⟩]⟩ = _
        rw [h0]
        exact ih
    · rw [if_pos h0]
      exact cT (by show (!(r.2 == 0)) = true; rw [eqB_f h0]; rfl) rfl
theorem s_Parse (h1 : l.length ≤ 1000) : ev 15 [.v (.string (bs l))] = some (outP (prs l 9 [] 0)) := by
  refine (ev15 _).trans ?_
  refine cF (ltI_f (by rw [bs_size]; omega)) ?_
  exact bnd (l_Parse hl ha 9 [] 0 true rfl (by omega) (by omega)) rfl
end
theorem s_Parse_long (l : B) (h1 : 1000 < l.length) : ev 15 [.v (.string (bs l))] = some (outP ([], 0, 18)) := by
  refine (ev15 _).trans ?_
  exact cT (ltI_t (by rw [bs_size]; omega)) rfl
end Go.Proofs.Ytcinngpelbdopaa
