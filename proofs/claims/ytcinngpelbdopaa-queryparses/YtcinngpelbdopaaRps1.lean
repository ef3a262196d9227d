/- The reference's parser, word by word. -/
import Derived.Test.YtcinngpelbdopaaPrs6
import Derived.Test.YtcinngpelbdopaaEq3
set_option linter.all false
namespace Go.Proofs.Ytcinngpelbdopaa
open Go.Ev
attribute [local congr] bind_first cond_first
/-- Where the reference's parser stands, and where it failed first. -/
abbrev RS := Nat × Option (Nat × Int)
def rBad : Option (Nat × Int) → Int
  | none => -1
  | some (k, _) => (k : Int)
def rCod : Option (Nat × Int) → Int
  | none => 0
  | some (_, c) => c
def rRow (l : B) (s : RS) : List AV := [.v (.string (bs l)), .v (.int .i64 (s.1 : Int)), .v (.int .i64 (rBad s.2)), .v (.int .i64 (rCod s.2))]
def rO (l : B) (s : RS) : AV := .ob 102 (rRow l s)
def failS (s : RS) (k : Nat) (c : Int) : RS := (s.1, match s.2 with | none => some (k, c) | some e => some e)
def Res {α : Type} (l : B) (f : Rd α) (s : RS) (v : α) (t : RS) : Prop :=
  t.1 ≤ l.length ∧ match s.2 with
    | some e => t.2 = some e
    | none => match f s.1 with
      | .ok (a, m) => t = (m, none) ∧ v = a
      | .error k => t.2 = some (k, 15)
theorem Res_bind {α β : Type} {l : B} {f : Rd α} {g : α → Rd β} {s t u : RS} {a : α} {b : β} (h : Res l f s a t) (h2 : Res l (g a) t b u) : Res l (bindR f g) s b u := by
  obtain ⟨n, e⟩ := s
  unfold Res at h h2 ⊢
  refine ⟨h2.1, ?_⟩
  cases e with
  | some e =>
    simp only at h ⊢
    have h3 := h2.2
    rw [h.2] at h3
    exact h3
  | none =>
    simp only at h ⊢
    unfold bindR
    cases hf : f n with
    | error k =>
      rw [hf] at h
      simp only at h ⊢
      have h3 := h2.2
      rw [h.2] at h3
      exact h3
    | ok am =>
      obtain ⟨a', m⟩ := am
      rw [hf] at h
      simp only at h ⊢
      obtain ⟨_, rfl, rfl⟩ := h
      exact h2.2
theorem Res_pure {α : Type} {l : B} {s : RS} (a : α) (h : s.1 ≤ l.length) : Res l (pureR a) s a s := by
  obtain ⟨n, e⟩ := s
  refine ⟨h, ?_⟩
  cases e with
  | some e => rfl
  | none => exact ⟨rfl, rfl⟩
theorem Res_map {α β : Type} {l : B} {f : Rd α} {g : α → β} {s t : RS} {a : α} (h : Res l f s a t) : Res l (bindR f fun x => pureR (g x)) s (g a) t := Res_bind h (Res_pure _ h.1)
theorem l_rblanks (l : B) (e : Option (Nat × Int)) (hl : l.length ≤ 1000000) : ∀ (k n : Nat), n + k = l.length →
    lp 66 0 1 ⟨[(0, .ptr 0 0 0), (1000000, .ptr 0 0 0)], [⟨1, 102, 4, true, [rRow l (n, e)]⟩]⟩ = some ⟨some 0, ⟨[(1000000, .ptr 0 0 0)], [⟨1, 102, 4, true, [rRow l (sk l n, e)]⟩]⟩, []⟩
  | 0, n, h => by
    unfold rRow
    rw [lp66_0, bs_size, ltI_f (by omega), sk_end (by omega)]; rfl
  | k + 1, n, h => by
    have e1 : IntKind.i64.wrap ((n : Int) + 1) = ((n + 1 : Nat) : Int) := by rw [w_i64]; omega
    have ih := l_rblanks l e hl k (n + 1) (by omega)
    unfold rRow at ih ⊢
    rw [lp66_0, bs_size, ltI_t (by omega), leI_t (by omega), Int.toNat_natCast, bs_getD, byte32, e1]
    by_cases hb : l.getD n 0 = 32
    · rw [hb, sk_step (by omega) hb, ← ih]; rfl
    · rw [beq_eq_false_iff_ne.2 hb, sk_stop (by omega) hb]; rfl
theorem s_rblanks (l : B) (s : RS) (hl : l.length ≤ 1000000) (hn : s.1 ≤ l.length) : ev 66 [rO l s] = some [rO l (sk l s.1, s.2)] := by
  refine (ev66 _ _ _ _).trans ?_
  exact bnd (l_rblanks l s.2 hl (l.length - s.1) s.1 (by omega)) rfl
theorem nsep_iff0 (b : UInt8) : nsep b = true ↔ b ≠ 32 ∧ b ≠ 59 := by unfold nsep; simp
theorem byte59 (b : UInt8) : (((UInt8.toNat b : Nat) : Int) == 59) = (b == 59) := byteEq b 59 59 rfl
theorem l_rpeek (l : B) (s : RS) (hl : l.length ≤ 1000000) : ∀ (k n : Nat), n + k = l.length →
    lp 41 0 1 ⟨[(0, .ptr 0 0 0), (4, .v (.int .i64 (n : Int))), (1000000, .ptr 0 0 0)], [⟨1, 102, 4, true, [rRow l s]⟩]⟩ =
      some ⟨some 0, ⟨[(0, .ptr 0 0 0), (4, .v (.int .i64 ((n + ((l.drop n).takeWhile nsep).length : Nat) : Int))), (1000000, .ptr 0 0 0)], [⟨1, 102, 4, true, [rRow l s]⟩]⟩, []⟩
  | 0, n, h => by
    unfold rRow
    rw [lp41_0, bs_size, ltI_f (by omega), List.drop_of_length_le (by omega)]; rfl
  | k + 1, n, h => by
    have e1 : IntKind.i64.wrap ((n : Int) + 1) = ((n + 1 : Nat) : Int) := by rw [w_i64]; omega
    have ih := l_rpeek l s hl k (n + 1) (by omega)
    unfold rRow at ih ⊢
    rw [lp41_0, bs_size, ltI_t (by omega), leI_t (by omega), Int.toNat_natCast, bs_getD, byte32, byte59, e1, drop_cons (show n < l.length by omega), List.takeWhile_cons]
    generalize l.getD n 0 = b at *
    by_cases h1 : b = 32
    · subst h1; rfl
    rw [beq_eq_false_iff_ne.2 h1]
    by_cases h2 : b = 59
    · subst h2; rfl
    rw [beq_eq_false_iff_ne.2 h2, if_pos ((nsep_iff0 b).2 ⟨h1, h2⟩), List.length_cons, show n + (((l.drop (n + 1)).takeWhile nsep).length + 1) = n + 1 + ((l.drop (n + 1)).takeWhile nsep).length by omega]
    exact ih
theorem s_rpeek (l : B) (s : RS) (hl : l.length ≤ 1000000) (hn : s.1 ≤ l.length) : ev 41 [rO l s] = some [.v (.string (bs (wd l s.1))), .v (.int .i64 (sk l s.1 : Int)), rO l (sk l s.1, s.2)] := by
  have h1 := sk_le l s.1 hn
  have h2 := wd_le l s.1 hn
  refine (ev41 _ _ _ _).trans ?_
  refine bnd (s_rblanks l s hl hn) (cT rfl (bnd (l_rpeek l (sk l s.1, s.2) hl (l.length - sk l s.1) (sk l s.1) (by omega)) (cT rfl (cT rfl (cT ?_ ?_)))))
  · show (((leI 0 ((sk l s.1 : Nat) : Int)) && (leI ((sk l s.1 : Nat) : Int) ((sk l s.1 + (wd l s.1).length : Nat) : Int))) && (leI ((sk l s.1 + (wd l s.1).length : Nat) : Int) (((bs l).size : Nat) : Int))) = true
    rw [bs_size, leI_t (by omega), leI_t (by omega), leI_t (by omega)]; rfl
  · show some [AV.v (.string (ByteArray.extract (bs l) (Int.toNat ((sk l s.1 : Nat) : Int)) (Int.toNat ((sk l s.1 + (wd l s.1).length : Nat) : Int)))), .v (.int .i64 (sk l s.1 : Int)), rO l (sk l s.1, s.2)] = _
    rw [Int.toNat_natCast, Int.toNat_natCast, bs_extract, List.drop_take, Nat.add_sub_cancel_left]
    unfold wd
    rw [tw_take]
theorem s_rfail (l : B) (s : RS) (k : Nat) (c : Int) : ev 42 [rO l s, .v (.int .i64 (k : Int)), .v (.int .i64 c)] = some [rO l (failS s k c)] := by
  obtain ⟨n, e⟩ := s
  refine (ev42 _ _ _ _ _ _).trans ?_
  cases e with
  | none => rfl
  | some e =>
    refine cF (ltI_f ?_) rfl
    show 0 ≤ (e.1 : Int)
    omega
theorem s_rword (l : B) (s : RS) (hl : l.length ≤ 1000000) (hn : s.1 ≤ l.length) : ev 67 [rO l s] = some [.v (.string (bs (wd l s.1))), .v (.int .i64 (sk l s.1 : Int)), rO l (sk l s.1 + (wd l s.1).length, s.2)] := by
  have h2 := wd_le l s.1 hn
  refine (ev67 _ _ _ _).trans ?_
  refine bnd (s_rpeek l s hl hn) (cT rfl (cT rfl (cT rfl ?_)))
  have e : IntKind.i64.wrap (((sk l s.1 : Nat) : Int) + (((bs (wd l s.1)).size : Nat) : Int)) = ((sk l s.1 + (wd l s.1).length : Nat) : Int) := by rw [bs_size, w_i64]; omega
  show some [AV.v (.string (bs (wd l s.1))), .v (.int .i64 (sk l s.1 : Int)), .ob 102 [.v (.string (bs l)), .v (.int .i64 (IntKind.i64.wrap (((sk l s.1 : Nat) : Int) + (((bs (wd l s.1)).size : Nat) : Int)))), .v (.int .i64 (rBad s.2)), .v (.int .i64 (rCod s.2))]] = _
  rw [e]; rfl
/-- What a word's reader comes to. -/
theorem Res_ok {α : Type} {l : B} {f : Rd α} {s : RS} {a : α} {m : Nat} (hm : m ≤ l.length) (h : f s.1 = .ok (a, m)) : Res l f s a (m, s.2) := by
  obtain ⟨n, e⟩ := s
  refine ⟨hm, ?_⟩
  cases e with
  | some e => rfl
  | none => simp only at h ⊢; rw [h]; exact ⟨rfl, rfl⟩
theorem Res_fail {α : Type} {l : B} {f : Rd α} {s : RS} {a : α} {m k : Nat} (hm : m ≤ l.length) (h : f s.1 = .error k) : Res l f s a (failS (m, s.2) k 15) := by
  obtain ⟨n, e⟩ := s
  refine ⟨hm, ?_⟩
  cases e with
  | some e => rfl
  | none => simp only at h ⊢; rw [h]; rfl
theorem beq_bs (w x : B) : (ByteArray.toList (bs w) == ByteArray.toList (bs x)) = (w == x) := by rw [bs_toList, bs_toList]
theorem s_rcolumn (l : B) (s : RS) (hl : l.length ≤ 1000000) (hn : s.1 ≤ l.length) : ∃ (v : Int) (t : RS), ev 68 [rO l s] = some [.v (.int .i64 v), rO l t] ∧ Res l (rdW colW l) s v t ∧ 0 ≤ v ∧ v < 3 := by
  have h2 := wd_le l s.1 hn
  have hw := s_rword l s hl hn
  generalize hwe : wd l s.1 = w at *
  have b1 : (ByteArray.toList (bs w) == ByteArray.toList (bs [97])) = (w == [97]) := beq_bs _ _
  have b2 : (ByteArray.toList (bs w) == ByteArray.toList (bs [98])) = (w == [98]) := beq_bs _ _
  have b3 : (ByteArray.toList (bs w) == ByteArray.toList (bs [99])) = (w == [99]) := beq_bs _ _
  by_cases w1 : w = [97]
  · subst w1
    refine ⟨0, (sk l s.1 + 1, s.2), ?_, Res_ok h2 (by unfold rdW; rw [hwe]; rfl), by decide, by decide⟩
    refine (ev68 _ _ _ _).trans ?_
    exact bnd hw (cT rfl (cT rfl (cT rfl (cT (b1.trans rfl) (cT rfl rfl)))))
  by_cases w2 : w = [98]
  · subst w2
    refine ⟨1, (sk l s.1 + 1, s.2), ?_, Res_ok h2 (by unfold rdW; rw [hwe]; rfl), by decide, by decide⟩
    refine (ev68 _ _ _ _).trans ?_
    exact bnd hw (cT rfl (cT rfl (cT rfl (cF (b1.trans rfl) (cT (b2.trans rfl) (cT rfl rfl))))))
  by_cases w3 : w = [99]
  · subst w3
    refine ⟨2, (sk l s.1 + 1, s.2), ?_, Res_ok h2 (by unfold rdW; rw [hwe]; rfl), by decide, by decide⟩
    refine (ev68 _ _ _ _).trans ?_
    exact bnd hw (cT rfl (cT rfl (cT rfl (cF (b1.trans rfl) (cF (b2.trans rfl) (cT (b3.trans rfl) (cT rfl rfl)))))))
  have hix : idxW w colW 0 = none := by
    show idxW w [[97], [98], [99]] 0 = none
    rw [idxW_cons, if_neg w1, idxW_cons, if_neg w2, idxW_cons, if_neg w3]; rfl
  refine ⟨0, failS (sk l s.1 + w.length, s.2) (sk l s.1) 15, ?_, Res_fail h2 (by
    unfold rdW
    rw [hwe, hix]
    split <;> rfl), by decide, by decide⟩
  refine (ev68 _ _ _ _).trans ?_
  exact bnd hw (cT rfl (cT rfl (cT rfl (cF (b1.trans (beq_eq_false_iff_ne.2 w1)) (cF (b2.trans (beq_eq_false_iff_ne.2 w2)) (cF (b3.trans (beq_eq_false_iff_ne.2 w3)) (bnd (s_rfail l _ _ _) (cT rfl rfl))))))))
end Go.Proofs.Ytcinngpelbdopaa
