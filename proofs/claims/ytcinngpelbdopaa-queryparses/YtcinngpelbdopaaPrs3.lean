/- The parser's readers. -/
import Derived.Test.YtcinngpelbdopaaPrs2
set_option linter.all false
namespace Go.Proofs.Ytcinngpelbdopaa
open Go.Ev
attribute [local congr] bind_first cond_first
/-- What a reader comes to: a value and where it goes on, or where it fails. -/
abbrev RR (α : Type) := Except Nat (α × Nat)
abbrev Rd (α : Type) := Nat → RR α
def bindR {α β : Type} (f : Rd α) (g : α → Rd β) : Rd β := fun n => match f n with | .ok (a, m) => g a m | .error k => .error k
def pureR {α : Type} (a : α) : Rd α := fun n => .ok (a, n)
def nx {α : Type} : RR α → Nat × Int
  | .ok (_, m) => (m, 0)
  | .error k => (k, 15)
def adv {α : Type} (f : Rd α) (p : Nat × Int) : Nat × Int := if p.2 = 0 then nx (f p.1) else p
def pP (l : B) (p : Nat × Int) : AV := pO l p.1 p.2
/-- The place is in the text; a parse that has failed stands at a word. -/
def inv (l : B) (p : Nat × Int) : Prop := p.1 ≤ l.length ∧ (p.2 = 0 ∨ sk l p.1 = p.1)
def good {α : Type} (l : B) (f : Rd α) : Prop := ∀ n, n ≤ l.length → match f n with | .ok (_, m) => m ≤ l.length ∧ n ≤ m | .error k => k ≤ l.length ∧ sk l k = k
/-- If nothing failed, this is the value. -/
def vok {α : Type} (f : Rd α) (p : Nat × Int) (a : α) : Prop := p.2 = 0 → ∀ a' m, f p.1 = .ok (a', m) → a = a'
theorem good_inv {α : Type} {l : B} {f : Rd α} (h : good l f) {p : Nat × Int} (hp : inv l p) : inv l (adv f p) := by
  unfold adv
  by_cases h0 : p.2 = 0
  · rw [if_pos h0]
    have := h p.1 hp.1
    cases hf : f p.1 with
    | ok am => rw [hf] at this; exact ⟨this.1, .inl rfl⟩
    | error k => rw [hf] at this; exact ⟨this.1, .inr this.2⟩
  · rw [if_neg h0]; exact hp
theorem good_bind {α β : Type} {l : B} {f : Rd α} {g : α → Rd β} (h : good l f) (h2 : ∀ a, good l (g a)) : good l (bindR f g) := fun n hn => by
  have := h n hn
  unfold bindR
  cases hf : f n with
  | ok am =>
    rw [hf] at this
    have h3 := h2 am.1 am.2 this.1
    simp only
    cases hg : g am.1 am.2 with
    | ok bm => rw [hg] at h3; exact ⟨h3.1, by omega⟩
    | error k => rw [hg] at h3; exact h3
  | error k => rw [hf] at this; exact this
theorem good_pure {α : Type} {l : B} (a : α) : good l (pureR a) := fun n hn => ⟨hn, Nat.le_refl _⟩
theorem adv_pure {α : Type} (a : α) (p : Nat × Int) : adv (pureR a) p = p := by
  unfold adv
  by_cases h0 : p.2 = 0
  · rw [if_pos h0]
    obtain ⟨n, c⟩ := p
    simp only at h0
    subst h0; rfl
  · rw [if_neg h0]
theorem adv_seq {α β : Type} {f : Rd α} {g : α → Rd β} {p : Nat × Int} {a : α} (h : vok f p a) : adv (g a) (adv f p) = adv (bindR f g) p := by
  unfold adv
  by_cases h0 : p.2 = 0
  · rw [if_pos h0, if_pos h0]
    unfold bindR
    cases hf : f p.1 with
    | ok am =>
      obtain ⟨b, m⟩ := am
      obtain rfl := h h0 b m hf
      rfl
    | error k => rfl
  · rw [if_neg h0, if_neg h0, if_neg h0]
theorem vok_seq {α β : Type} {f : Rd α} {g : α → Rd β} {p : Nat × Int} {a : α} {b : β} (h : vok f p a) (h2 : vok (g a) (adv f p) b) : vok (bindR f g) p b := fun h0 b' m hb => by
  unfold bindR at hb
  cases hf : f p.1 with
  | ok am =>
    rw [hf] at hb
    obtain ⟨a', m'⟩ := am
    obtain rfl := h h0 a' m' hf
    have e : adv f p = (m', 0) := by unfold adv; rw [if_pos h0, hf]; rfl
    rw [e] at h2
    exact h2 rfl b' m hb
  | error k => rw [hf] at hb; cases hb
theorem vok_pure {α : Type} (a : α) (p : Nat × Int) : vok (pureR a) p a := fun _ a' m h => by
  injection h with h; injection h

/-! ## Words -/
def idxW (w : B) : List B → Nat → Option Nat
  | [], _ => none
  | x :: xs, i => if w = x then some i else idxW w xs (i + 1)
/-- One of some words, by its place. -/
def rdW (ws : List B) (l : B) : Rd Int := fun n => if wd l n = [] then .error (sk l n) else match idxW (wd l n) ws 0 with | some i => .ok ((i : Int), sk l n + (wd l n).length) | none => .error (sk l n)
/-- A number from lo to hi. -/
def rdI (lo hi : Int) (l : B) : Rd Int := fun n => match num (wd l n) with | some v => if lo ≤ v ∧ v ≤ hi then .ok (v, sk l n + (wd l n).length) else .error (sk l n) | none => .error (sk l n)
/-- A word that may be there. -/
def rdO (w : B) (l : B) : Rd Bool := fun n => if wd l n = w then .ok (true, sk l n + w.length) else .ok (false, sk l n)
theorem good_W (ws : List B) (l : B) : good l (rdW ws l) := fun n hn => by
  have h1 := sk_le l n hn
  have h2 := wd_le l n hn
  unfold rdW
  by_cases h0 : wd l n = []
  · rw [if_pos h0]; exact ⟨h1.2, skk l n⟩
  · rw [if_neg h0]
    cases idxW (wd l n) ws 0 with
    | some i => exact ⟨h2, by omega⟩
    | none => exact ⟨h1.2, skk l n⟩
theorem good_I (lo hi : Int) (l : B) : good l (rdI lo hi l) := fun n hn => by
  have h1 := sk_le l n hn
  have h2 := wd_le l n hn
  unfold rdI
  cases num (wd l n) with
  | some v =>
    by_cases h : lo ≤ v ∧ v ≤ hi
    · simp only [if_pos h]; exact ⟨h2, by omega⟩
    · simp only [if_neg h]; exact ⟨h1.2, skk l n⟩
  | none => exact ⟨h1.2, skk l n⟩
theorem good_O (w : B) (l : B) : good l (rdO w l) := fun n hn => by
  have h1 := sk_le l n hn
  have h2 := wd_le l n hn
  unfold rdO
  by_cases h : wd l n = w
  · rw [if_pos h, ← h]; exact ⟨h2, by omega⟩
  · rw [if_neg h]; exact h1.symm
theorem idxW_cons (w x : B) (xs : List B) (i : Nat) : idxW w (x :: xs) i = if w = x then some i else idxW w xs (i + 1) := rfl
theorem idxW_lt (w : B) : ∀ (ws : List B) (i j : Nat), idxW w ws i = some j → i ≤ j ∧ j < i + ws.length
  | [], _, _, h => by cases h
  | x :: xs, i, j, h => by
    unfold idxW at h
    split at h
    · obtain rfl := Option.some.inj h
      simp
    · have := idxW_lt w xs (i + 1) j h
      simp only [List.length_cons]; omega
theorem l_Index (w : B) (ws : List B) (nl : Bool) (hl : ws.length ≤ 1000000) : ∀ (k i : Nat), i + k = ws.length → lp 82 0 0 ⟨[(0, .lst nl 1 (ws.map sRow)), (1, .v (.string (bs w))), (7, .v (.int .i64 ((ws.length : Nat) : Int))), (8, .v (.int .i64 (i : Int)))], []⟩ =
    some (match idxW w (ws.drop i) i with | some j => ⟨none, ⟨[], []⟩, [.v (.int .i64 (j : Int))]⟩ | none => ⟨some 0, ⟨[], []⟩, []⟩)
  | 0, i, h => by rw [lp82_0, ltI_f (by omega), List.drop_of_length_le (by omega)]; rfl
  | k + 1, i, h => by
    have e1 : IntKind.i64.wrap ((i : Int) + 1) = ((i + 1 : Nat) : Int) := by rw [w_i64]; omega
    have ih := l_Index w ws nl hl k (i + 1) (by omega)
    have hi : i < ws.length := by omega
    have hg : lget (ws.map sRow) i = sRow ws[i] := by unfold lget; simp [hi]
    rw [lp82_0, List.length_map, ltI_t (show (i : Int) < ((ws.length : Nat) : Int) by omega), leI_t (show (0 : Int) ≤ (i : Int) by omega), Int.toNat_natCast, hg, e1, ih, List.drop_eq_getElem_cons hi, idxW_cons]
    have he : (ByteArray.toList (bs w) == ByteArray.toList (avStr (cellAt (sRow ws[i]) 0))) = (w == ws[i]) := by
      show (ByteArray.toList (bs w) == ByteArray.toList (bs ws[i])) = _
      rw [bs_toList, bs_toList]
    rw [he]
    by_cases hw : w = ws[i]
    · rw [if_pos hw, beq_iff_eq.2 hw]; rfl
    · rw [if_neg hw, beq_eq_false_iff_ne.2 hw]; rfl
theorem s_Index (w : B) (ws : List B) (nl : Bool) (hl : ws.length ≤ 1000000) : ev 82 [.lst nl 1 (ws.map sRow), .v (.string (bs w))] = some [.v (.int .i64 (match idxW w ws 0 with | some j => (j : Int) | none => -1))] := by
  rw [ev82, List.length_map]
  have key := l_Index w ws nl hl ws.length 0 (by omega)
  rw [List.drop_zero] at key
  refine bnd key ?_
  cases idxW w ws 0 <;> rfl

section
variable {l : B} (hl : l.length ≤ 1000000) (ha : okTxt l)
include hl ha
theorem s_choice (ws : List B) (nl : Bool) (hw : ws.length ≤ 1000) (p : Nat × Int) (hp : inv l p) : ∃ i : Int, ev 64 [pP l p, .lst nl 1 (ws.map sRow)] = some [.v (.int .i64 i), pP l (adv (rdW ws l) p)] ∧ (0 ≤ i ∧ (i < ws.length ∨ i = 0)) ∧ vok (rdW ws l) p i := by
  obtain ⟨n, c⟩ := p
  obtain ⟨hn, hc⟩ := hp
  simp only at hn hc
  have h1 := sk_le l n hn
  have h2 := wd_le l n hn
  have hpk := s_peek l n c hl hn ha
  have hix := s_Index (wd l n) ws nl (by omega)
  have htk := fun b => s_take l (sk l n) c (wd l n) b hl h2
  -- what the object comes to
  have ob : ∀ b : Bool, (b = true ↔ wd l n ≠ [] ∧ idxW (wd l n) ws 0 ≠ none) → (if c = 0 then (if b then pO l (sk l n + (wd l n).length) 0 else pO l (sk l (sk l n)) 15) else pO l (sk l n) c) = pP l (adv (rdW ws l) (n, c)) := fun b hb => by
    unfold adv pP
    by_cases h0 : c = 0
    · rw [if_pos h0, if_pos h0]
      unfold rdW
      simp only
      by_cases he : wd l n = []
      · rw [if_pos he]
        have : b = false := by cases b with | false => rfl | true => exact absurd he (hb.1 rfl).1
        subst this
        rw [if_neg (by decide), skk]; rfl
      · rw [if_neg he]
        cases hi : idxW (wd l n) ws 0 with
        | none =>
          have : b = false := by cases b with | false => rfl | true => exact absurd hi (hb.1 rfl).2
          subst this
          rw [if_neg (by decide), skk]; rfl
        | some j =>
          have : b = true := hb.2 ⟨he, by rw [hi]; simp⟩
          subst this; rfl
    · rw [if_neg h0, if_neg h0]
      rcases hc with hc | hc
      · exact absurd hc h0
      · rw [hc]
  have lk : ∀ q : AV, ∀ c' : Int, (∃ m : Nat, q = pO l m c') → (((isOb 95 q) && (Nat.beq (List.length (obCells q)) 3)) && (likeG (pRow l (sk l n) c) 0 (obCells q))) = true := fun q c' hq => by
    obtain ⟨m, rfl⟩ := hq; rfl
  have obf : ∀ b : Bool, ∃ (m : Nat) (c' : Int), (if c = 0 then (if b then pO l (sk l n + (wd l n).length) 0 else pO l (sk l (sk l n)) 15) else pO l (sk l n) c) = pO l m c' := fun b => by
    repeat' split
    all_goals exact ⟨_, _, rfl⟩
  generalize hI : (match idxW (wd l n) ws 0 with | some j => (j : Int) | none => -1) = I at hix
  have hI2 : (0 ≤ I ↔ idxW (wd l n) ws 0 ≠ none) ∧ (I = -1 ∨ (0 ≤ I ∧ I < ws.length)) := by
    subst hI
    cases hj : idxW (wd l n) ws 0 with
    | none => simp
    | some j =>
      have := (idxW_lt _ ws 0 j hj).2
      simp; omega
  refine ⟨if 0 > I then 0 else I, ?_, ⟨by split <;> omega, by split <;> omega⟩, fun h0 a' m hr => ?_⟩
  · refine (ev64 _ _ _ _ _).trans ?_
    refine bnd hpk (cT rfl (cT rfl (bnd hix (cT rfl ?_))))
    by_cases he : wd l n = []
    · refine cF (by show (!(ByteArray.toList (bs (wd l n)) == ByteArray.toList (bs []))) = false; rw [bs_toList, bs_toList, he]; rfl) ?_
      obtain ⟨m, c', hm⟩ := obf false
      have ho := ob false (by simp [he])
      have ht := htk false
      rw [hm] at ht ho
      refine bnd ht (cT rfl ?_)
      rw [← ho]; rfl
    · refine cT (by show (!(ByteArray.toList (bs (wd l n)) == ByteArray.toList (bs []))) = true; rw [bs_toList, bs_toList, beq_eq_false_iff_ne.2 he]; rfl) ?_
      obtain ⟨m, c', hm⟩ := obf (leI 0 I)
      have ho := ob (leI 0 I) (by rw [leI_iff, hI2.1]; simp [he])
      have ht := htk (leI 0 I)
      rw [hm] at ht ho
      refine bnd ht (cT rfl ?_)
      rw [← ho]; rfl
  · simp only at h0 hr
    unfold rdW at hr
    split at hr
    · cases hr
    · split at hr
      · rename_i j hj
        injection hr with hr
        injection hr with hr1 hr2
        subst hI
        rw [hj]
        simp only
        rw [← hr1, if_neg (by omega)]
      · cases hr
theorem s_integer (lo hi : Int) (p : Nat × Int) (hp : inv l p) : ∃ v : Int, ev 84 [pP l p, .v (.int .i64 lo), .v (.int .i64 hi)] = some [.v (.int .i64 v), pP l (adv (rdI lo hi l) p)] ∧ i64ok v ∧ vok (rdI lo hi l) p v := by
  obtain ⟨n, c⟩ := p
  obtain ⟨hn, hc⟩ := hp
  simp only at hn hc
  have h1 := sk_le l n hn
  have h2 := wd_le l n hn
  have hpk := s_peek l n c hl hn ha
  obtain ⟨v, hnum, hv, hvx⟩ := s_number94 (wd l n) lo hi (by omega)
  have ht := s_take l (sk l n) c (wd l n) (inR lo hi (num (wd l n))) hl h2
  have ob : (if c = 0 then (if inR lo hi (num (wd l n)) then pO l (sk l n + (wd l n).length) 0 else pO l (sk l (sk l n)) 15) else pO l (sk l n) c) = pP l (adv (rdI lo hi l) (n, c)) := by
    unfold adv pP
    by_cases h0 : c = 0
    · rw [if_pos h0, if_pos h0]
      unfold rdI
      simp only
      cases hx : num (wd l n) with
      | none => rw [show inR lo hi none = false from rfl, if_neg (by decide), skk]; rfl
      | some x =>
        simp only
        by_cases hr : lo ≤ x ∧ x ≤ hi
        · have hin : inR lo hi (some x) = true := by
            show (leI lo x && leI x hi) = true
            rw [leI_t hr.1, leI_t hr.2]; rfl
          rw [hin, if_pos hr]; rfl
        · have hin : inR lo hi (some x) = false := by
            show (leI lo x && leI x hi) = false
            rw [Bool.and_eq_false_iff]
            by_cases h : lo ≤ x
            · exact .inr (leI_f (by omega))
            · exact .inl (leI_f (by omega))
          rw [hin, if_neg (by decide), if_neg hr, skk]; rfl
    · rw [if_neg h0, if_neg h0]
      rcases hc with hc | hc
      · exact absurd hc h0
      · rw [hc]
  obtain ⟨m, c', hm⟩ : ∃ (m : Nat) (c' : Int), (if c = 0 then (if inR lo hi (num (wd l n)) then pO l (sk l n + (wd l n).length) 0 else pO l (sk l (sk l n)) 15) else pO l (sk l n) c) = pO l m c' := by
    repeat' split
    all_goals exact ⟨_, _, rfl⟩
  rw [hm] at ht ob
  refine ⟨v, ?_, hv, fun h0 a' m' hr => ?_⟩
  · refine (ev84 _ _ _ _ _).trans ?_
    refine bnd hpk (cT rfl (cT rfl (bnd hnum (cT rfl (cT rfl (bnd ht (cT rfl ?_)))))))
    rw [← ob]; rfl
  · simp only at h0 hr
    unfold rdI at hr
    cases hx : num (wd l n) with
    | none => rw [hx] at hr; cases hr
    | some x =>
      rw [hx] at hr
      simp only at hr
      split at hr
      · injection hr with hr
        injection hr with hr1 _
        rw [hvx x hx, hr1]
      · cases hr
def rdV (l : B) : Rd Int := rdI (-9223372036854775808) 9223372036854775807 l
theorem s_value (p : Nat × Int) (hp : inv l p) : ∃ v : Int, ev 85 [pP l p] = some [.v (.int .i64 v), pP l (adv (rdV l) p)] ∧ i64ok v ∧ vok (rdV l) p v := by
  obtain ⟨v, h1, h2, h3⟩ := s_integer hl ha (-9223372036854775808) 9223372036854775807 p hp
  refine ⟨v, ?_, h2, h3⟩
  refine (ev85 _ _ _).trans ?_
  exact bnd h1 (cT rfl (cT rfl rfl))
theorem s_option (w : B) (p : Nat × Int) (hp : inv l p) : ∃ b : Bool, ev 87 [pP l p, .v (.string (bs w))] = some [.v (.bool b), pP l (adv (rdO w l) p)] ∧ vok (rdO w l) p b ∧ (b = true → p.2 = 0) := by
  obtain ⟨n, c⟩ := p
  obtain ⟨hn, hc⟩ := hp
  simp only at hn hc
  have h1 := sk_le l n hn
  have h2 := wd_le l n hn
  have hpk := s_peek l n c hl hn ha
  by_cases h0 : c = 0
  · subst h0
    by_cases hw : wd l n = w
    · refine ⟨true, ?_, fun _ a' m hr => ?_, fun _ => rfl⟩
      · refine (ev87 _ _ _ _).trans ?_
        refine cF rfl (bnd hpk (cT rfl (cT rfl (cF (by show (!(ByteArray.toList (bs (wd l n)) == ByteArray.toList (bs w))) = false; rw [bs_toList, bs_toList, beq_iff_eq.2 hw]; rfl) ?_))))
        have e : IntKind.i64.wrap (((sk l n : Nat) : Int) + (((bs w).size : Nat) : Int)) = ((sk l n + w.length : Nat) : Int) := by rw [bs_size, w_i64, ← hw]; omega
        show some [AV.v (.bool true), .ob 95 [.v (.string (bs l)), .v (.int .i64 (IntKind.i64.wrap (((sk l n : Nat) : Int) + (((bs w).size : Nat) : Int)))), .v (.int .i64 0)]] = _
        rw [e]
        unfold adv rdO
        simp only [if_true, if_pos hw]
        rfl
      · simp only [rdO, if_pos hw] at hr
        injection hr with hr; injection hr
    · refine ⟨false, ?_, fun _ a' m hr => ?_, fun e => by cases e⟩
      · refine (ev87 _ _ _ _).trans ?_
        refine cF rfl (bnd hpk (cT rfl (cT rfl (cT (by show (!(ByteArray.toList (bs (wd l n)) == ByteArray.toList (bs w))) = true; rw [bs_toList, bs_toList, beq_eq_false_iff_ne.2 hw]; rfl) ?_))))
        unfold adv rdO
        simp only [if_true, if_neg hw]
        rfl
      · simp only [rdO, if_neg hw] at hr
        injection hr with hr; injection hr
  · refine ⟨false, ?_, fun h => absurd h h0, fun e => by cases e⟩
    refine (ev87 _ _ _ _).trans ?_
    refine cT (by show (!(c == 0)) = true; rw [eqB_f h0]; rfl) ?_
    unfold adv
    rw [if_neg h0]; rfl
end
end Go.Proofs.Ytcinngpelbdopaa
