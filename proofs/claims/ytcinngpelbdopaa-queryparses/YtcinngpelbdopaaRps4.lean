/- The reference's parser: statements. -/
import Derived.Test.YtcinngpelbdopaaRps3
set_option linter.all false
namespace Go.Proofs.Ytcinngpelbdopaa
open Go.Ev
attribute [local congr] bind_first cond_first
def sB (l : B) (u : RS) (t : Stm) : List Blk := [⟨1, 102, 4, true, [rRow l u]⟩, ⟨1, 45, 12, true, [(stm0 0).row]⟩, ⟨1, 45, 12, true, [t.row]⟩]
def sX (l : B) (u : RS) (t : Stm) (q : List (Nat × AV)) : LR := ⟨some 1000001, ⟨q, sB l u t⟩, []⟩
def F0 : List (Nat × AV) := [(0, .ptr 0 0 0), (2, .ptr 1 0 0), (5, .ptr 2 0 0), (1000000, .ptr 0 0 0)]
theorem Res_dead {α : Type} {l : B} {f : Rd α} {t : RS} {b : α} (h1 : t.1 ≤ l.length) (h2 : t.2 ≠ none) : Res l f t b t := by
  obtain ⟨n, e⟩ := t
  cases e with
  | none => exact absurd rfl h2
  | some e => exact ⟨h1, rfl⟩
theorem failS_dead (s : RS) (k : Nat) (c : Int) : (failS s k c).2 ≠ none := by
  obtain ⟨n, e⟩ := s
  cases e <;> simp [failS]
theorem Res_none {α : Type} {l : B} {f : Rd α} {s t : RS} {a : α} (h : Res l f s a t) (e : t.2 = none) : s.2 = none ∧ ∃ m, f s.1 = .ok (a, m) := by
  obtain ⟨n, q⟩ := s
  have h2 := h.2
  cases q with
  | some q => simp only at h2; rw [h2] at e; cases e
  | none =>
    simp only at h2 ⊢
    cases hf : f n with
    | error k => rw [hf] at h2; simp only at h2; rw [h2] at e; cases e
    | ok am =>
      rw [hf] at h2
      simp only at h2
      obtain ⟨_, rfl⟩ := h2
      exact ⟨trivial, am.2, rfl⟩
/-- As Res, but blanks behind do not matter. -/
def ResW {α : Type} (l : B) (f : Rd α) (s : RS) (v : α) (t : RS) : Prop :=
  t.1 ≤ l.length ∧ match s.2 with
    | some e => t.2 = some e
    | none => match f s.1 with
      | .ok (a, m) => t.2 = none ∧ sk l t.1 = sk l m ∧ v = a
      | .error k => t.2 = some (k, 15)
theorem Res.w {α : Type} {l : B} {f : Rd α} {s t : RS} {v : α} (h : Res l f s v t) : ResW l f s v t := by
  obtain ⟨n, q⟩ := s
  refine ⟨h.1, ?_⟩
  have h2 := h.2
  cases q with
  | some q => exact h2
  | none =>
    simp only at h2 ⊢
    cases hf : f n with
    | error k => rw [hf] at h2; exact h2
    | ok am =>
      rw [hf] at h2
      simp only at h2 ⊢
      rw [h2.1]
      exact ⟨rfl, rfl, h2.2⟩
theorem Res.wsk {α : Type} {l : B} {f : Rd α} {s t : RS} {v : α} (h : Res l f s v t) : ResW l f s v (sk l t.1, t.2) := by
  have h1 := sk_le l t.1 h.1
  obtain ⟨n, q⟩ := s
  refine ⟨h1.2, ?_⟩
  have h2 := h.2
  cases q with
  | some q => exact h2
  | none =>
    simp only at h2 ⊢
    cases hf : f n with
    | error k => rw [hf] at h2; exact h2
    | ok am =>
      rw [hf] at h2
      simp only at h2 ⊢
      rw [h2.1]
      exact ⟨rfl, skk l _, h2.2⟩
/-! ## Names -/
theorem l_kinds (l : B) (u : RS) (w : B) (a4 : Int) : ∀ (k i : Nat) (o : Int), i + k = 10 → ∃ o' : Int, o' = lastW w (nameW.drop i) i o ∧
    lp 43 0 1 ⟨[(0, .ptr 0 0 0), (2, .ptr 1 0 0), (3, .v (.string (bs w))), (4, .v (.int .i64 a4)), (5, .ptr 2 0 0), (6, .sl false 3 0 none), (7, .v (.int .i64 (i : Int))), (1000000, .ptr 0 0 0)], [⟨1, 102, 4, true, [rRow l u]⟩, ⟨1, 45, 12, true, [(stm0 0).row]⟩, ⟨1, 45, 12, true, [(stm0 o).row]⟩, ⟨1, 9, 1, false, nameW.map sRow⟩]⟩ =
      some ⟨some 0, ⟨[(0, .ptr 0 0 0), (2, .ptr 1 0 0), (4, .v (.int .i64 a4)), (5, .ptr 2 0 0), (1000000, .ptr 0 0 0)], sB l u (stm0 o')⟩, []⟩
  | 0, i, o, h => by
    obtain rfl : i = 10 := by omega
    refine ⟨o, rfl, ?_⟩
    refine (lp43_0 _ _ _ _ _ _ _ _ _ _ _ _ _ _ _ _ _ _ _ _ _ _ _ _ _ _ _ _ _ _ _ _ _).trans ?_
    exact cF rfl rfl
  | k + 1, i, o, h => by
    have e1 : IntKind.i64.wrap ((i : Int) + 1) = ((i + 1 : Nat) : Int) := by rw [w_i64]; omega
    have hi : i < nameW.length := by show i < 10; omega
    have hg : lget (nameW.map sRow) (0 + Int.toNat (i : Int)) = sRow nameW[i] := by
      rw [Int.toNat_natCast, Nat.zero_add]; unfold lget; simp [hi]
    obtain ⟨o', ho, ih⟩ := l_kinds l u w a4 k (i + 1) (if w = nameW[i] then (i : Int) else o) (by omega)
    refine ⟨o', by rw [List.drop_eq_getElem_cons hi]; exact ho, ?_⟩
    rw [← e1] at ih
    refine (lp43_0 _ _ _ _ _ _ _ _ _ _ _ _ _ _ _ _ _ _ _ _ _ _ _ _ _ _ _ _ _ _ _ _ _).trans ?_
    rw [List.length_map, hg]
    refine cT (ltI_t (by show (i : Int) < (((nameW.length - 0) : Nat) : Int); omega)) (cT (by rw [leI_t (by omega), ltI_t (by show (i : Int) < (((nameW.length - 0) : Nat) : Int); omega)]; rfl) (cT (by rw [Int.toNat_natCast, Nat.zero_add, ltN_t hi]; rfl) ?_))
    by_cases hw : w = nameW[i]
    · rw [if_pos hw] at ih
      exact cT ((beq_bs w nameW[i]).trans (beq_iff_eq.2 hw)) ih
    · rw [if_neg hw] at ih
      exact cF ((beq_bs w nameW[i]).trans (beq_eq_false_iff_ne.2 hw)) ih
theorem name_last (w : B) : lastW w (nameW.drop 1) 1 0 = if w = [] then 0 else match idxW w nameW 0 with | some i => (i : Int) | none => 0 := by
  show lastW w [[105, 110, 115, 101, 114, 116], [115, 101, 116], [97, 100, 100], [100, 101, 108, 101, 116, 101], [103, 101, 116], [115, 99, 97, 110], [99, 111, 117, 110, 116], [115, 117, 109], [99, 104, 101, 99, 107]] 1 0 = if w = [] then 0 else match idxW w [[], [105, 110, 115, 101, 114, 116], [115, 101, 116], [97, 100, 100], [100, 101, 108, 101, 116, 101], [103, 101, 116], [115, 99, 97, 110], [99, 111, 117, 110, 116], [115, 117, 109], [99, 104, 101, 99, 107]] 0 with | some i => (i : Int) | none => 0
  by_cases h0 : w = []
  · subst h0; rfl
  by_cases h1 : w = [105, 110, 115, 101, 114, 116]
  · subst h1; rfl
  by_cases h2 : w = [115, 101, 116]
  · subst h2; rfl
  by_cases h3 : w = [97, 100, 100]
  · subst h3; rfl
  by_cases h4 : w = [100, 101, 108, 101, 116, 101]
  · subst h4; rfl
  by_cases h5 : w = [103, 101, 116]
  · subst h5; rfl
  by_cases h6 : w = [115, 99, 97, 110]
  · subst h6; rfl
  by_cases h7 : w = [99, 111, 117, 110, 116]
  · subst h7; rfl
  by_cases h8 : w = [115, 117, 109]
  · subst h8; rfl
  by_cases h9 : w = [99, 104, 101, 99, 107]
  · subst h9; rfl
  simp only [lastW, idxW, h0, h1, h2, h3, h4, h5, h6, h7, h8, h9, if_false]
/-- The name of a statement. -/
theorem Res_name (l : B) (s : RS) (k : Int) (hn : s.1 ≤ l.length) (hk : k = if wd l s.1 = [] then 0 else match idxW (wd l s.1) nameW 0 with | some i => (i : Int) | none => 0) :
    (k = 0 → Res l (rdW nameW l) s k (failS (sk l s.1 + (wd l s.1).length, s.2) (sk l s.1) 15)) ∧ (k ≠ 0 → Res l (rdW nameW l) s k (sk l s.1 + (wd l s.1).length, s.2)) ∧ 0 ≤ k ∧ k ≤ 9 := by
  have wl := wd_le l s.1 hn
  by_cases hw : wd l s.1 = []
  · rw [if_pos hw] at hk
    subst hk
    exact ⟨fun _ => Res_fail wl (by unfold rdW; rw [if_pos hw]), fun h => absurd rfl h, by omega, by omega⟩
  · rw [if_neg hw] at hk
    cases hix : idxW (wd l s.1) nameW 0 with
    | none =>
      rw [hix] at hk
      simp only at hk
      subst hk
      exact ⟨fun _ => Res_fail wl (by unfold rdW; rw [if_neg hw, hix]), fun h => absurd rfl h, by omega, by omega⟩
    | some i =>
      rw [hix] at hk
      simp only at hk
      have hi : i < 0 + nameW.length := (idxW_lt _ _ _ _ hix).2
      have hl10 : nameW.length = 10 := rfl
      refine ⟨fun h => ?_, fun _ => Res_ok wl (by unfold rdW; rw [if_neg hw, hix, hk]), by omega, by omega⟩
      exfalso
      obtain rfl : i = 0 := by omega
      have h2 : idxW (wd l s.1) ([] :: nameW.tail) 0 = some 0 := hix
      rw [idxW_cons, if_neg hw] at h2
      have := (idxW_lt _ _ _ _ h2).1
      omega
def colsPut (t : Stm) (i : Nat) (v : Int) : Stm := { t with c0 := cond (Nat.beq i 0) v t.c0, c1 := cond (Nat.beq i 1) v t.c1, c2 := cond (Nat.beq i 2) v t.c2 }
section
variable {l : B} (hl : l.length ≤ 1000000)
include hl
theorem step43 (u : RS) (hu : u.1 ≤ l.length) (t : Stm) (i : Nat) (hi : i < 3) : ∃ (v : Int) (u' : RS), Res l (rdV l) u v u' ∧ i64ok v ∧
    lp 43 1 1 ⟨[(0, .ptr 0 0 0), (2, .ptr 1 0 0), (5, .ptr 2 0 0), (8, .v (.int .i64 (i : Int))), (1000000, .ptr 0 0 0)], sB l u t⟩ =
      lp 43 1 1 ⟨[(0, .ptr 0 0 0), (2, .ptr 1 0 0), (5, .ptr 2 0 0), (8, .v (.int .i64 ((i + 1 : Nat) : Int))), (1000000, .ptr 0 0 0)], sB l u' (colsPut t i v)⟩ := by
  obtain ⟨v, u', e, r, hv⟩ := s_rvalue l u hl hu
  refine ⟨v, u', r, hv, ?_⟩
  have e1 : IntKind.i64.wrap ((i : Int) + 1) = ((i + 1 : Nat) : Int) := by rw [w_i64]; omega
  refine (lp43_1 _ _ _ _ _ _ _ _ _ _ _ _ _ _ _ _ _ _ _ _ _ _ _ _ _ _ _ _ _).trans ?_
  refine cT (ltI_t (by omega)) (bnd e (cT rfl (cT rfl (cT (by rw [leI_t (by omega), ltI_t (by omega)]; rfl) ?_))))
  rw [e1, Int.toNat_natCast]; rfl
theorem l_cols (u : RS) (hu : u.1 ≤ l.length) (t : Stm) : ∃ (a b c : Int) (u' : RS), Res l (rdPart 2 t l) u { t with c0 := a, c1 := b, c2 := c } u' ∧ i64ok a ∧ i64ok b ∧ i64ok c ∧
    lp 43 1 1 ⟨[(0, .ptr 0 0 0), (2, .ptr 1 0 0), (5, .ptr 2 0 0), (8, .v (.int .i64 0)), (1000000, .ptr 0 0 0)], sB l u t⟩ =
      some ⟨some 3, ⟨[(2, .ptr 0 0 0), (5, .ptr 1 0 0), (1000000, .ptr 2 0 0)], [⟨1, 45, 12, true, [(stm0 0).row]⟩, ⟨1, 45, 12, true, [({ t with c0 := a, c1 := b, c2 := c } : Stm).row]⟩, ⟨1, 102, 4, true, [rRow l u']⟩]⟩, []⟩ := by
  obtain ⟨a, u1, r1, h1, e1⟩ := step43 hl u hu t 0 (by decide)
  obtain ⟨b, u2, r2, h2, e2⟩ := step43 hl u1 r1.1 (colsPut t 0 a) 1 (by decide)
  obtain ⟨c, u3, r3, h3, e3⟩ := step43 hl u2 r2.1 (colsPut (colsPut t 0 a) 1 b) 2 (by decide)
  refine ⟨a, b, c, u3, ?_, h1, h2, h3, ?_⟩
  · show Res l (bindR (rdV l) fun a => bindR (rdV l) fun b => bindR (rdV l) fun c => pureR { t with c0 := a, c1 := b, c2 := c }) u _ u3
    exact Res_bind r1 (Res_bind r2 (Res_map (g := fun c => ({ t with c0 := a, c1 := b, c2 := c } : Stm)) r3))
  · refine e1.trans (e2.trans (e3.trans ?_))
    refine (lp43_1 _ _ _ _ _ _ _ _ _ _ _ _ _ _ _ _ _ _ _ _ _ _ _ _ _ _ _ _ _).trans ?_
    exact cF rfl rfl
theorem s_rstatement (s : RS) (hn : s.1 ≤ l.length) : ∃ (t : Stm) (u : RS), ev 43 [rO l s] = some [.agg t.row, rO l u] ∧ ResW l (rdStm l) s t u := by
  have w1 := s_rword l s hl hn
  obtain ⟨k, hk, hlp⟩ := l_kinds l (sk l s.1 + (wd l s.1).length, s.2) (wd l s.1) (sk l s.1) 9 1 0 rfl
  rw [name_last] at hk
  obtain ⟨r0, r1, k0, k9⟩ := Res_name l s k hn hk
  have wl := wd_le l s.1 hn
  clear hk
  by_cases hk0 : k = 0
  · subst hk0
    have r0 := r0 rfl
    refine ⟨stm0 0, failS (sk l s.1 + (wd l s.1).length, s.2) (sk l s.1) 15, ?_, (Res_bind r0 (Res_dead wl (failS_dead _ _ _))).w⟩
    refine (ev43 _ _ _ _).trans ?_
    exact bnd w1 (cT rfl (cT rfl (cT rfl (bnd hlp (cT rfl (cT rfl (cT rfl (bnd (s_rfail l _ _ _) (cT rfl rfl)))))))))
  have r1 := r1 hk0
  obtain ⟨u1, hu1⟩ : ∃ u1 : RS, u1 = (sk l s.1 + (wd l s.1).length, s.2) := ⟨_, rfl⟩
  rw [← hu1] at r1 hlp w1
  have hu1l : u1.1 ≤ l.length := r1.1
  clear hu1 r0
  -- a sum's column
  obtain ⟨t1, u2, ht1, hu2, h8, hn8⟩ : ∃ (t1 : Stm) (u2 : RS), t1.k = k ∧ u2.1 ≤ l.length ∧ (k = 8 → ∃ c, ev 68 [rO l u1] = some [.v (.int .i64 c), rO l u2] ∧ t1 = { stm0 k with col := c } ∧ Res l (rdPart 3 (stm0 k) l) u1 t1 u2) ∧ (k ≠ 8 → t1 = stm0 k ∧ u2 = u1) := by
    by_cases h : k = 8
    · obtain ⟨c, u2, e, r, _⟩ := s_rcolumn l u1 hl hu1l
      exact ⟨{ stm0 k with col := c }, u2, rfl, r.1, fun _ => ⟨c, e, rfl, Res_map r⟩, fun h' => absurd h h'⟩
    · exact ⟨stm0 k, u1, rfl, hu1l, fun h' => absurd h' h, fun _ => ⟨rfl, rfl⟩⟩
  obtain ⟨v, u3, e3, r3, hv⟩ := s_rkey l u2 1 (by decide) hl hu2 (fun _ => by decide)
  obtain ⟨t2, ht2⟩ : ∃ t2 : Stm, t2 = { t1 with key := v } := ⟨_, rfl⟩
  have R3 : Res l (rdPart 0 t1 l) u2 t2 u3 := by rw [ht2]; exact Res_map (g := fun v => ({ t1 with key := v } : Stm)) r3
  have ht2k : t2.k = k := by rw [ht2]; exact ht1
  suffices h : ∃ (t : Stm) (u : RS), ResW l (rdStm l) s t u ∧ ev 43 [rO l s] = some [.agg t.row, rO l u] by
    obtain ⟨t, u, h1, h2⟩ := h
    exact ⟨t, u, h2, h1⟩
  by_cases hk1 : k = 1
  · subst hk1
    obtain ⟨rfl, rfl⟩ := hn8 (by decide)
    obtain ⟨a, b, c, u4, r4, _, _, _, e4⟩ := l_cols hl u3 r3.1 t2
    refine ⟨{ t2 with c0 := a, c1 := b, c2 := c }, u4, (Res_bind r1 (Res_bind R3 (Res_bind r4 (Res_pure _ r4.1)))).w, ?_⟩
    refine (ev43 _ _ _ _).trans ?_
    refine bnd w1 (cT rfl (cT rfl (cT rfl (bnd hlp (cT rfl (cT rfl (cF rfl ?_)))))))
    refine bnd (a := sX l u2 (stm0 1) F0) (cF rfl rfl) (cT rfl (cT rfl (bnd e3 (cT rfl (cT rfl (cT rfl ?_))))))
    rw [ht2] at e4 ⊢
    exact bnd e4 (cT rfl (cT rfl rfl))
  by_cases hk23 : k = 2 ∨ k = 3
  · have hne8 : k ≠ 8 := by omega
    obtain ⟨rfl, rfl⟩ := hn8 hne8
    obtain ⟨c, u4, e4, r4, _⟩ := s_rcolumn l u3 hl r3.1
    obtain ⟨x, u5, e5, r5, _⟩ := s_rvalue l u4 hl r4.1
    have R4 : Res l (rdPart 3 t2 l) u3 { t2 with col := c } u4 := Res_map (g := fun c => ({ t2 with col := c } : Stm)) r4
    have R5 : Res l (rdPart 4 { t2 with col := c } l) u4 { t2 with col := c, v := x } u5 := Res_map (g := fun v => ({ t2 with col := c, v := v } : Stm)) r5
    refine ⟨{ t2 with col := c, v := x }, u5, ?_, ?_⟩
    · rcases hk23 with rfl | rfl <;> exact (Res_bind r1 (Res_bind R3 (Res_bind R4 (Res_bind R5 (Res_pure _ R5.1))))).w
    · refine (ev43 _ _ _ _).trans ?_
      refine bnd w1 (cT rfl (cT rfl (cT rfl (bnd hlp (cT rfl (cT rfl (cF (eqB_f hk0) ?_)))))))
      refine bnd (a := sX l u2 (stm0 k) F0) (cF (eqB_f hne8) rfl) (cT rfl (cT rfl (bnd e3 (cT rfl (cT rfl (cF (eqB_f hk1) ?_))))))
      rw [ht2]
      refine bnd (a := sX l u3 { stm0 k with key := v } [(0, .ptr 0 0 0), (2, .ptr 1 0 0), (5, .ptr 2 0 0), (54, .v (.int .i64 k)), (66, .v (.bool true)), (1000000, .ptr 0 0 0)]) ?_ (cT rfl (cT rfl (cT rfl (bnd e4 (cT rfl (cT rfl (bnd e5 (cT rfl (cT rfl rfl)))))))))
      rcases hk23 with rfl | rfl <;> rfl
  have e66 : ∀ (t : Stm), t.k = k → (cond (t.k == 2) (some (sX l u3 t [(0, .ptr 0 0 0), (2, .ptr 1 0 0), (5, .ptr 2 0 0), (54, .v (.int .i64 t.k)), (66, .v (.bool true)), (1000000, .ptr 0 0 0)])) (some (sX l u3 t [(0, .ptr 0 0 0), (2, .ptr 1 0 0), (5, .ptr 2 0 0), (54, .v (.int .i64 t.k)), (66, .v (.bool (t.k == 3))), (1000000, .ptr 0 0 0)]))) = some (sX l u3 t [(0, .ptr 0 0 0), (2, .ptr 1 0 0), (5, .ptr 2 0 0), (54, .v (.int .i64 k)), (66, .v (.bool false)), (1000000, .ptr 0 0 0)]) := fun t ht => by
    rw [ht, eqB_f (show k ≠ 2 by omega), eqB_f (show k ≠ 3 by omega)]; rfl
  have e75 : ∀ (t : Stm) (b : Bool), b = decide (k = 6 ∨ k = 7 ∨ k = 8) → (cond (k == 6) (some (sX l u3 t [(0, .ptr 0 0 0), (2, .ptr 1 0 0), (5, .ptr 2 0 0), (54, .v (.int .i64 k)), (75, .v (.bool true)), (1000000, .ptr 0 0 0)])) (cond (k == 7) (some (sX l u3 t [(0, .ptr 0 0 0), (2, .ptr 1 0 0), (5, .ptr 2 0 0), (54, .v (.int .i64 k)), (75, .v (.bool true)), (1000000, .ptr 0 0 0)])) (some (sX l u3 t [(0, .ptr 0 0 0), (2, .ptr 1 0 0), (5, .ptr 2 0 0), (54, .v (.int .i64 k)), (75, .v (.bool (k == 8))), (1000000, .ptr 0 0 0)])))) = some (sX l u3 t [(0, .ptr 0 0 0), (2, .ptr 1 0 0), (5, .ptr 2 0 0), (54, .v (.int .i64 k)), (75, .v (.bool b)), (1000000, .ptr 0 0 0)]) := fun t b hb => by
    subst hb
    by_cases a6 : k = 6
    · subst a6; rfl
    rw [eqB_f a6]
    by_cases a7 : k = 7
    · subst a7; rfl
    rw [eqB_f a7]
    by_cases a8 : k = 8
    · subst a8; rfl
    rw [eqB_f a8, decide_eq_false (by omega)]; rfl
  by_cases hk45 : k = 4 ∨ k = 5
  · have hne8 : k ≠ 8 := by omega
    obtain ⟨rfl, rfl⟩ := hn8 hne8
    refine ⟨t2, u3, ?_, ?_⟩
    · rcases hk45 with rfl | rfl <;> exact (Res_bind r1 (Res_bind R3 (Res_pure _ R3.1))).w
    · refine (ev43 _ _ _ _).trans ?_
      refine bnd w1 (cT rfl (cT rfl (cT rfl (bnd hlp (cT rfl (cT rfl (cF (eqB_f hk0) ?_)))))))
      refine bnd (a := sX l u2 (stm0 k) F0) (cF (eqB_f hne8) rfl) (cT rfl (cT rfl (bnd e3 (cT rfl (cT rfl (cF (eqB_f hk1) ?_))))))
      rw [ht2]
      refine bnd (e66 { stm0 k with key := v } rfl) (cT rfl (cT rfl (cF rfl ?_)))
      refine bnd (e75 { stm0 k with key := v } false (by rw [decide_eq_false (by omega)])) (cT rfl (cT rfl (cF rfl (cF (eqB_f (show k ≠ 9 by omega)) rfl))))
  by_cases hk9 : k = 9
  · have hne8 : k ≠ 8 := by omega
    obtain ⟨rfl, rfl⟩ := hn8 hne8
    obtain ⟨c, o, x, u4, e4, r4, _⟩ := s_rcomparison l u3 hl r3.1
    have R4 : Res l (rdPart 5 t2 l) u3 { t2 with wc := c, wo := o, wv := x } u4 := Res_map (g := fun t : Int × Int × Int => ({ t2 with wc := t.1, wo := t.2.1, wv := t.2.2 } : Stm)) r4
    refine ⟨{ t2 with wc := c, wo := o, wv := x }, u4, ?_, ?_⟩
    · subst hk9; exact (Res_bind r1 (Res_bind R3 (Res_bind R4 (Res_pure _ R4.1)))).w
    · refine (ev43 _ _ _ _).trans ?_
      refine bnd w1 (cT rfl (cT rfl (cT rfl (bnd hlp (cT rfl (cT rfl (cF (eqB_f hk0) ?_)))))))
      refine bnd (a := sX l u2 (stm0 k) F0) (cF (eqB_f hne8) rfl) (cT rfl (cT rfl (bnd e3 (cT rfl (cT rfl (cF (eqB_f hk1) ?_))))))
      rw [ht2]
      refine bnd (e66 { stm0 k with key := v } rfl) (cT rfl (cT rfl (cF rfl ?_)))
      exact bnd (e75 { stm0 k with key := v } false (by rw [decide_eq_false (by omega)])) (cT rfl (cT rfl (cF rfl (cT (by show (k == 9) = true; rw [hk9]; rfl) (bnd e4 (cT rfl (cT rfl rfl)))))))
  have hk678 : k = 6 ∨ k = 7 ∨ k = 8 := by omega
  -- the last key
  obtain ⟨v2, u4, e4, r4, hv2⟩ := s_rkey l u3 v ⟨hv.1, hv.2⟩ hl r3.1 (fun h => by
    obtain ⟨_, m, hm⟩ := Res_none r3 h
    exact (rdI_range hm).1)
  obtain ⟨t3, ht3⟩ : ∃ t3 : Stm, t3 = { t2 with last := v2 } := ⟨_, rfl⟩
  have ht2key : t2.key = v := by rw [ht2]
  have R4 : Res l (rdPart 1 t2 l) u3 t3 u4 := by
    rw [ht3]
    refine Res_map (g := fun v => ({ t2 with last := v } : Stm)) (f := rdI t2.key 4294967294 l) ?_
    rw [ht2key]; exact r4
  have p4 := s_rpeek l u4 hl r4.1
  -- where
  obtain ⟨t4, u5, h5l, R5, hw, hnw⟩ : ∃ (t4 : Stm) (u5 : RS), u5.1 ≤ l.length ∧ Res l (rdPart 6 t3 l) u4 t4 u5 ∧
      (wd l u4.1 = whereW → ∃ (c o x : Int), ev 67 [rO l (sk l u4.1, u4.2)] = some [.v (.string (bs whereW)), .v (.int .i64 (sk l u4.1 : Int)), rO l (sk l u4.1 + whereW.length, u4.2)] ∧ ev 71 [rO l (sk l u4.1 + whereW.length, u4.2)] = some [.agg [.v (.int .i64 c), .v (.int .i64 o), .v (.int .i64 x)], rO l u5] ∧ t4 = { t3 with wc := c, wo := o, wv := x }) ∧
      (wd l u4.1 ≠ whereW → t4 = t3 ∧ u5 = (sk l u4.1, u4.2)) := by
    have hs4 := sk_le l u4.1 r4.1
    have hw4 := wd_le l u4.1 r4.1
    by_cases h : wd l u4.1 = whereW
    · rw [h] at hw4
      obtain ⟨c, o, x, u5, e, r, _⟩ := s_rcomparison l (sk l u4.1 + whereW.length, u4.2) hl hw4
      have rO1 : Res l (rdO whereW l) u4 true (sk l u4.1 + whereW.length, u4.2) := Res_ok hw4 (by unfold rdO; rw [if_pos h])
      refine ⟨{ t3 with wc := c, wo := o, wv := x }, u5, r.1, ?_, fun _ => ⟨c, o, x, ?_, e, rfl⟩, fun h' => absurd h h'⟩
      · exact Res_bind rO1 (Res_map (g := fun t : Int × Int × Int => ({ t3 with wc := t.1, wo := t.2.1, wv := t.2.2 } : Stm)) r)
      · have := s_rword l (sk l u4.1, u4.2) hl hs4.2
        rw [show wd l ((sk l u4.1, u4.2) : RS).1 = whereW from (wd_sk l u4.1).trans h, show sk l ((sk l u4.1, u4.2) : RS).1 = sk l u4.1 from skk l u4.1] at this
        exact this
    · refine ⟨t3, (sk l u4.1, u4.2), hs4.2, ?_, fun h' => absurd h' h, fun _ => ⟨rfl, rfl⟩⟩
      have rO1 : Res l (rdO whereW l) u4 false (sk l u4.1, u4.2) := Res_ok hs4.2 (by unfold rdO; rw [if_neg h])
      exact Res_bind rO1 (Res_pure _ hs4.2)
  have ht3k : t3.k = k := by rw [ht3]; exact ht2k
  have ht4k : t4.k = k := by
    by_cases h : wd l u4.1 = whereW
    · obtain ⟨c, o, x, _, _, rfl⟩ := hw h; exact ht3k
    · obtain ⟨rfl, _⟩ := hnw h; exact ht3k
  have p5 := s_rpeek l u5 hl h5l
  have hs5 := sk_le l u5.1 h5l
  have hw5 := wd_le l u5.1 h5l
  obtain ⟨b, hb⟩ : ∃ b : Bool, b = decide (wd l u5.1 = limitW ∧ k = 6) := ⟨_, rfl⟩
  obtain ⟨u6, hu6⟩ : ∃ u6 : RS, u6 = (sk l u5.1, u5.2) := ⟨_, rfl⟩
  rw [← hu6] at p5
  -- what is behind
  obtain ⟨t, u, hR, hlim, hnl⟩ : ∃ (t : Stm) (u : RS), ResW l (rdStm l) s t u ∧
      (b = true → ∃ (x : Int) (u9 : RS), ev 67 [rO l u6] = some [.v (.string (bs limitW)), .v (.int .i64 (sk l u5.1 : Int)), rO l (sk l u5.1 + limitW.length, u5.2)] ∧
        ev 41 [rO l (sk l u5.1 + limitW.length, u5.2)] = some [.v (.string (bs (wd l (sk l u5.1 + limitW.length)))), .v (.int .i64 (sk l (sk l u5.1 + limitW.length) : Int)), rO l (sk l (sk l u5.1 + limitW.length), u5.2)] ∧
        ev 70 [rO l (sk l (sk l u5.1 + limitW.length), u5.2), .v (.bool false)] = some [.v (.int .i64 x), rO l u9] ∧
        ((x < 1 ∨ 64 < x) → t = { t4 with lim := 0 } ∧ u = failS u9 (sk l (sk l u5.1 + limitW.length)) 15) ∧ (¬ (x < 1 ∨ 64 < x) → t = { t4 with lim := x } ∧ u = u9)) ∧
      (b = false → t = t4 ∧ u = u6) := by
    by_cases h6 : k = 6
    · subst h6
      obtain ⟨rfl, rfl⟩ := hn8 (by decide)
      by_cases hlm : wd l u5.1 = limitW
      · have hbt : b = true := by rw [hb]; exact decide_eq_true ⟨hlm, rfl⟩
        rw [hlm] at hw5
        have hs7 := sk_le l (sk l u5.1 + limitW.length) hw5
        obtain ⟨x, u9, e9, hx, hx0, h9l, hno, hyes⟩ := s_rbound l (sk l (sk l u5.1 + limitW.length), u5.2) 1 64 hl hs7.2
        have rO1 : Res l (rdO limitW l) u5 true (sk l u5.1 + limitW.length, u5.2) := Res_ok hw5 (by unfold rdO; rw [if_pos hlm])
        have w6 : ev 67 [rO l u6] = some [.v (.string (bs limitW)), .v (.int .i64 (sk l u5.1 : Int)), rO l (sk l u5.1 + limitW.length, u5.2)] := by
          have := s_rword l (sk l u5.1, u5.2) hl hs5.2
          rw [show wd l ((sk l u5.1, u5.2) : RS).1 = limitW from (wd_sk l u5.1).trans hlm, show sk l ((sk l u5.1, u5.2) : RS).1 = sk l u5.1 from skk l u5.1] at this
          rw [hu6]; exact this
        have p7 := s_rpeek l (sk l u5.1 + limitW.length, u5.2) hl hw5
        by_cases hr : x < 1 ∨ 64 < x
        · have rr : Res l (rdI 1 64 l) (sk l u5.1 + limitW.length, u5.2) 0 (failS u9 (sk l (sk l u5.1 + limitW.length)) 15) := by
            have := hno (by omega) (fun _ => by decide) 0
            rw [show sk l ((sk l (sk l u5.1 + limitW.length), u5.2) : RS).1 = sk l (sk l u5.1 + limitW.length) from skk l _] at this
            exact Res_same this (rdI_sk 1 64 l _)
          have R6 : Res l (rdPart 7 t4 l) u5 { t4 with lim := 0 } (failS u9 (sk l (sk l u5.1 + limitW.length)) 15) := Res_bind rO1 (Res_map (g := fun v => ({ t4 with lim := v } : Stm)) rr)
          exact ⟨_, _, (Res_bind r1 (Res_bind R3 (Res_bind R4 (Res_bind R5 (Res_bind R6 (Res_pure _ R6.1)))))).w, fun _ => ⟨x, u9, w6, p7, e9, fun _ => ⟨rfl, rfl⟩, fun h => absurd hr h⟩, fun h => by rw [hbt] at h; cases h⟩
        · have rr : Res l (rdI 1 64 l) (sk l u5.1 + limitW.length, u5.2) x u9 := Res_same (hyes (by omega)) (rdI_sk 1 64 l _)
          have R6 : Res l (rdPart 7 t4 l) u5 { t4 with lim := x } u9 := Res_bind rO1 (Res_map (g := fun v => ({ t4 with lim := v } : Stm)) rr)
          exact ⟨_, _, (Res_bind r1 (Res_bind R3 (Res_bind R4 (Res_bind R5 (Res_bind R6 (Res_pure _ R6.1)))))).w, fun _ => ⟨x, u9, w6, p7, e9, fun h => absurd h hr, fun _ => ⟨rfl, rfl⟩⟩, fun h => by rw [hbt] at h; cases h⟩
      · have hbf : b = false := by rw [hb]; exact decide_eq_false (fun h => hlm h.1)
        have rO1 : Res l (rdO limitW l) u5 false (sk l u5.1, u5.2) := Res_ok hs5.2 (by unfold rdO; rw [if_neg hlm])
        have R6 : Res l (rdPart 7 t4 l) u5 t4 u6 := by rw [hu6]; exact Res_bind rO1 (Res_pure _ hs5.2)
        exact ⟨t4, u6, (Res_bind r1 (Res_bind R3 (Res_bind R4 (Res_bind R5 (Res_bind R6 (Res_pure _ R6.1)))))).w, fun h => by (rw [hbf] at h; cases h), fun _ => ⟨rfl, rfl⟩⟩
    · have hbf : b = false := by rw [hb]; exact decide_eq_false (fun h => h6 h.2)
      refine ⟨t4, u6, ?_, fun h => by (rw [hbf] at h; cases h), fun _ => ⟨rfl, rfl⟩⟩
      rw [hu6]
      by_cases h7 : k = 7
      · subst h7
        obtain ⟨rfl, rfl⟩ := hn8 (by decide)
        exact (Res_bind r1 (Res_bind R3 (Res_bind R4 (Res_bind R5 (Res_pure _ R5.1))))).wsk
      · obtain rfl : k = 8 := by omega
        obtain ⟨c, _, _, R8⟩ := h8 rfl
        exact (Res_bind r1 (Res_bind R8 (Res_bind R3 (Res_bind R4 (Res_bind R5 (Res_pure _ R5.1)))))).wsk
  refine ⟨t, u, hR, ?_⟩
  refine (ev43 _ _ _ _).trans ?_
  refine bnd w1 (cT rfl (cT rfl (cT rfl (bnd hlp (cT rfl (cT rfl (cF (eqB_f hk0) ?_)))))))
  refine bnd (a := sX l u2 t1 F0) ?_ (cT rfl (cT rfl (bnd e3 (cT rfl (cT rfl (cF (by show (t1.k == 1) = false; rw [ht1]; exact eqB_f hk1) ?_))))))
  · by_cases h : k = 8
    · obtain ⟨c, e, et, _⟩ := h8 h
      refine cT (by show (k == 8) = true; rw [h]; rfl) (bnd e (cT rfl (cT rfl ?_)))
      rw [et]; rfl
    · obtain ⟨et, eu⟩ := hn8 h
      rw [et, eu]
      exact cF (eqB_f h) rfl
  rw [ht2] at ht2k ht3
  refine bnd (e66 { t1 with key := v } ht2k) (cT rfl (cT rfl (cF rfl ?_)))
  refine bnd (e75 { t1 with key := v } true (by rw [decide_eq_true hk678])) (cT rfl (cT rfl (cT rfl ?_)))
  refine bnd e4 (cT rfl (cT rfl ?_))
  refine bnd (a := sX l u5 t4 F0) ?_ (cT rfl (cT rfl ?_))
  · refine bnd p4 (cT rfl (cT rfl (cT rfl ?_)))
    by_cases h : wd l u4.1 = whereW
    · obtain ⟨c, o, x, e6, e7, et⟩ := hw h
      refine cT ((beq_bs (wd l u4.1) whereW).trans (beq_iff_eq.2 h)) (bnd e6 (cT rfl (cT rfl (cT rfl (bnd e7 (cT rfl (cT rfl ?_)))))))
      rw [et, ht3]; rfl
    · obtain ⟨et, eu⟩ := hnw h
      refine cF ((beq_bs (wd l u4.1) whereW).trans (beq_eq_false_iff_ne.2 h)) ?_
      rw [et, eu, ht3]; rfl
  refine bnd p5 (cT rfl (cT rfl (cT rfl ?_)))
  refine bnd (a := sX l u6 t4 [(0, .ptr 0 0 0), (2, .ptr 1 0 0), (5, .ptr 2 0 0), (107, .v (.bool b)), (1000000, .ptr 0 0 0)]) ?_ (cT rfl (cT rfl ?_))
  · by_cases h : wd l u5.1 = limitW
    · refine cT ((beq_bs (wd l u5.1) limitW).trans (beq_iff_eq.2 h)) ?_
      show some (sX l u6 t4 [(0, .ptr 0 0 0), (2, .ptr 1 0 0), (5, .ptr 2 0 0), (107, .v (.bool (t4.k == 6))), (1000000, .ptr 0 0 0)]) = _
      rw [ht4k, hb]
      by_cases h6 : k = 6
      · rw [decide_eq_true ⟨h, h6⟩, h6]; rfl
      · rw [decide_eq_false (fun h' => h6 h'.2), eqB_f h6]
    · refine cF ((beq_bs (wd l u5.1) limitW).trans (beq_eq_false_iff_ne.2 h)) ?_
      rw [hb, decide_eq_false (fun h' => h h'.1)]; rfl
  cases hbb : b with
  | false =>
    obtain ⟨et, eu⟩ := hnl hbb
    rw [et, eu]
    exact cF rfl rfl
  | true =>
    obtain ⟨x, u9, e6, e7, e8, hbad, hgood⟩ := hlim hbb
    obtain ⟨g, hg⟩ : ∃ g : Bool, g = decide (x < 1 ∨ 64 < x) := ⟨_, rfl⟩
    refine cT rfl (bnd e6 (cT rfl (cT rfl (cT rfl (bnd e7 (cT rfl (cT rfl (cT rfl (bnd e8 (cT rfl (cT rfl ?_)))))))))))
    refine bnd (a := sX l u9 t4 [(0, .ptr 0 0 0), (2, .ptr 1 0 0), (5, .ptr 2 0 0), (14, .v (.int .i64 (sk l (sk l u5.1 + limitW.length) : Int))), (15, .v (.int .i64 x)), (122, .v (.bool g)), (1000000, .ptr 0 0 0)]) ?_ (cT rfl (cT rfl ?_))
    · by_cases h1 : x < 1
      · refine cT (ltI_t h1) ?_
        rw [hg, decide_eq_true (.inl h1)]; rfl
      · refine cF (ltI_f (by show (1 : Int) ≤ x; omega)) ?_
        have : ltI 64 x = g := by
          rw [hg]
          by_cases h64 : 64 < x
          · rw [ltI_t h64, decide_eq_true (.inr h64)]
          · rw [ltI_f (by omega), decide_eq_false (by omega)]
        rw [← this]; rfl
    · by_cases hr : x < 1 ∨ 64 < x
      · obtain ⟨et, eu⟩ := hbad hr
        rw [et, eu]
        exact cT (by show g = true; rw [hg]; exact decide_eq_true hr) (bnd (s_rfail l u9 _ _) (cT rfl rfl))
      · obtain ⟨et, eu⟩ := hgood hr
        rw [et, eu]
        exact cF (by show g = false; rw [hg]; exact decide_eq_false hr) rfl
end
end Go.Proofs.Ytcinngpelbdopaa
