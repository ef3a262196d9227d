/- The parser, word by word. -/
import Derived.Test.YtcinngpelbdopaaRfm
import Derived.Test.YtcinngpelbdopaaEq2
set_option linter.all false
namespace Go.Proofs.Ytcinngpelbdopaa
open Go.Ev
attribute [local congr] bind_first cond_first
def isSp (b : UInt8) : Bool := b == 32
def nsep (b : UInt8) : Bool := !(b == 32) && !(b == 59)
/-- Where the next word begins, and the word. -/
def sk (l : B) (n : Nat) : Nat := n + ((l.drop n).takeWhile isSp).length
def wd (l : B) (n : Nat) : B := (l.drop (sk l n)).takeWhile nsep
theorem tw_le {α : Type} (p : α → Bool) : ∀ l : List α, (l.takeWhile p).length ≤ l.length
  | [] => by simp
  | a :: l => by
    have := tw_le p l
    rw [List.takeWhile_cons]
    split <;> simp <;> omega
theorem sk_le (l : B) (n : Nat) (h : n ≤ l.length) : n ≤ sk l n ∧ sk l n ≤ l.length := by
  have := tw_le isSp (l.drop n)
  rw [List.length_drop] at this
  unfold sk; omega
theorem wd_le (l : B) (n : Nat) (h : n ≤ l.length) : sk l n + (wd l n).length ≤ l.length := by
  have := tw_le nsep (l.drop (sk l n))
  rw [List.length_drop] at this
  have := sk_le l n h
  unfold wd; omega
theorem drop_cons {l : B} {n : Nat} (h : n < l.length) : l.drop n = l.getD n 0 :: l.drop (n + 1) := by
  rw [List.drop_eq_getElem_cons h]; simp [h]
theorem sk_end {l : B} {n : Nat} (h : l.length ≤ n) : sk l n = n := by
  unfold sk
  rw [List.drop_of_length_le h]; rfl
theorem sk_step {l : B} {n : Nat} (h : n < l.length) (hb : l.getD n 0 = 32) : sk l n = sk l (n + 1) := by
  unfold sk
  rw [drop_cons h, List.takeWhile_cons, hb]
  simp [isSp]; omega
theorem sk_stop {l : B} {n : Nat} (h : n < l.length) (hb : l.getD n 0 ≠ 32) : sk l n = n := by
  unfold sk
  rw [drop_cons h, List.takeWhile_cons]
  have : isSp (l.getD n 0) = false := by unfold isSp; exact beq_eq_false_iff_ne.2 hb
  rw [this]; rfl
theorem sk_cases (l : B) (n : Nat) : sk l n = n ∨ (n < l.length ∧ l.getD n 0 = 32 ∧ sk l n = sk l (n + 1)) := by
  by_cases h : n < l.length
  · by_cases hb : l.getD n 0 = 32
    · exact .inr ⟨h, hb, sk_step h hb⟩
    · exact .inl (sk_stop h hb)
  · exact .inl (sk_end (by omega))
theorem sk_sk (l : B) : ∀ (k n : Nat), l.length ≤ n + k → sk l (sk l n) = sk l n
  | 0, n, h => by rw [sk_end (n := n) (by omega), sk_end (n := n) (by omega)]
  | k + 1, n, h => by
    rcases sk_cases l n with h1 | ⟨_, _, h1⟩
    · rw [h1, h1]
    · rw [h1]; exact sk_sk l k (n + 1) (by omega)
theorem skk (l : B) (n : Nat) : sk l (sk l n) = sk l n := sk_sk l l.length n (by omega)
theorem wd_sk (l : B) (n : Nat) : wd l (sk l n) = wd l n := by unfold wd; rw [skk]
def pO (l : B) (n : Nat) (c : Int) : AV := .ob 95 [.v (.string (bs l)), .v (.int .i64 (n : Int)), .v (.int .i64 c)]
def pRow (l : B) (n : Nat) (c : Int) : List AV := [.v (.string (bs l)), .v (.int .i64 (n : Int)), .v (.int .i64 c)]
theorem byte32 (b : UInt8) : (((UInt8.toNat b : Nat) : Int) == 32) = (b == 32) := by
  rw [Bool.eq_iff_iff, beq_iff_eq, beq_iff_eq]
  constructor
  · intro h
    apply UInt8.toNat_inj.1
    show b.toNat = 32
    omega
  · intro h; subst h; rfl
theorem l_blanks (l : B) (c : Int) (hl : l.length ≤ 1000000) : ∀ (k n : Nat), n + k = l.length →
    lp 62 0 1 ⟨[(0, .ptr 0 0 0), (1000000, .ptr 0 0 0)], [⟨1, 95, 3, true, [pRow l n c]⟩]⟩ = some ⟨some 0, ⟨[(1000000, .ptr 0 0 0)], [⟨1, 95, 3, true, [pRow l (sk l n) c]⟩]⟩, []⟩
  | 0, n, h => by
    unfold pRow
    rw [lp62_0, bs_size, ltI_f (by omega), sk_end (by omega)]; rfl
  | k + 1, n, h => by
    have e1 : IntKind.i64.wrap ((n : Int) + 1) = ((n + 1 : Nat) : Int) := by rw [w_i64]; omega
    have ih := l_blanks l c hl k (n + 1) (by omega)
    unfold pRow at ih ⊢
    rw [lp62_0, bs_size, ltI_t (by omega), leI_t (by omega), Int.toNat_natCast, bs_getD, byte32, e1]
    by_cases hb : l.getD n 0 = 32
    · rw [hb, sk_step (by omega) hb, ← ih]; rfl
    · rw [beq_eq_false_iff_ne.2 hb, sk_stop (by omega) hb]; rfl
theorem s_blanks (l : B) (n : Nat) (c : Int) (hl : l.length ≤ 1000000) (hn : n ≤ l.length) : ev 62 [pO l n c] = some [pO l (sk l n) c] := by
  refine (ev62 _ _ _).trans ?_
  exact bnd (l_blanks l c hl (l.length - n) n (by omega)) rfl
/-- The texts of which it is told where the next separator is: all. -/
def okTxt (l : B) : Prop := ∀ b ∈ l, b.toNat < 256
theorem okAny (l : B) : okTxt l := fun b _ => b.toNat_lt
theorem any_tw : ∀ l : B, Go.Lib.indexAny l [32, 59] = if (l.takeWhile nsep).length = l.length then -1 else (((l.takeWhile nsep).length : Nat) : Int)
  | [] => rfl
  | b :: l => by
    have ih := any_tw l
    have hle := tw_le nsep l
    have hc : ([32, 59] : B).contains b = !(nsep b) := by
      unfold nsep
      by_cases h1 : b = 32
      · subst h1; rfl
      · by_cases h2 : b = 59
        · subst h2; rfl
        · rw [beq_eq_false_iff_ne.2 h1, beq_eq_false_iff_ne.2 h2]
          simp [h1, h2]
    unfold Go.Lib.indexAny
    rw [hc, List.takeWhile_cons]
    cases hs : nsep b with
    | false => simp
    | true =>
      simp only [Bool.not_true, Bool.false_eq_true, if_false, if_true, List.length_cons]
      by_cases he : (l.takeWhile nsep).length = l.length
      · have e : Go.Lib.indexAny l [32, 59] = -1 := by rw [ih, if_pos he]
        rw [e, if_pos (show ((-1 : Int) == -1) = true from rfl), if_pos (by omega)]
      · have e : Go.Lib.indexAny l [32, 59] = (((l.takeWhile nsep).length : Nat) : Int) := by rw [ih, if_neg he]
        rw [e, if_neg (by rw [beq_iff_eq]; omega), if_neg (by omega)]
        omega
theorem s_any (r : B) (hl : r.length ≤ 1000000) (ha : okTxt r) : ev 63 [.v (.string (bs r)), .v (.string (bs [32, 59]))] = some [.v (.int .i64 (if (r.takeWhile nsep).length = r.length then -1 else (((r.takeWhile nsep).length : Nat) : Int)))] :=
  (ev_eq _ _).trans (by
    show anyG [.v (.string (bs r)), .v (.string (bs [32, 59]))] = _
    unfold anyG
    have h2 : decide (r.length < 4294967281) = true := decide_eq_true (by omega)
    simp only [bs_data, bs_size, h2, any_tw]
    rw [show (r.all (fun b => decide (b.toNat < 128)) || decide (([32, 59] : B).length = 2)) = true from Bool.or_true _]
    rfl)
theorem tw_take {α : Type} (p : α → Bool) : ∀ l : List α, l.take (l.takeWhile p).length = l.takeWhile p
  | [] => rfl
  | a :: l => by
    rw [List.takeWhile_cons]
    split
    · rw [List.length_cons, List.take_succ_cons, tw_take p l]
    · rfl
theorem okTxt_drop {l : B} (h : okTxt l) (n : Nat) : okTxt (l.drop n) := fun b hb => h b (List.mem_of_mem_drop hb)
theorem s_peek (l : B) (n : Nat) (c : Int) (hl : l.length ≤ 1000000) (hn : n ≤ l.length) (ha : okTxt l) : ev 38 [pO l n c] = some [.v (.string (bs (wd l n))), pO l (sk l n) c] := by
  have hs := sk_le l n hn
  have hb := s_blanks l n c hl hn
  have hx := s_any (l.drop (sk l n)) (by rw [List.length_drop]; omega) (okTxt_drop ha _)
  have htw := tw_le nsep (l.drop (sk l n))
  refine (ev38 _ _ _).trans ?_
  refine bnd hb (cT rfl (cT ?_ ?_))
  · show ((leI 0 ((sk l n : Nat) : Int) && leI ((sk l n : Nat) : Int) (((bs l).size : Nat) : Int)) && leI (((bs l).size : Nat) : Int) (((bs l).size : Nat) : Int)) = true
    rw [bs_size, leI_t (by omega), leI_t (by omega), leI_t (by omega)]; rfl
  have e : ByteArray.extract (bs l) (Int.toNat ((sk l n : Nat) : Int)) (Int.toNat (((bs l).size : Nat) : Int)) = bs (l.drop (sk l n)) := by
    rw [bs_extract, bs_size, Int.toNat_natCast, Int.toNat_natCast, List.take_length]
  have fin : ∀ (s : ByteArray), s = bs (l.drop (sk l n)) → ((ev 63 [(.v (.string s)), (.v (.string (bs [32, 59])))]).bind fun r6 =>
      cond (isI .i64 (cellAt r6 0))
       (cond (leI 0 (avInt (cellAt r6 0)))
         (cond ((true && (leI 0 (avInt (cellAt r6 0)))) && (leI (avInt (cellAt r6 0)) (((ByteArray.size s) : Nat) : Int)))
           (some [(.v (.string (ByteArray.extract s 0 (Int.toNat (avInt (cellAt r6 0)))))), pO l (sk l n) c])
           (none))
         (some [(.v (.string s)), pO l (sk l n) c]))
       (none)) = some [.v (.string (bs (wd l n))), pO l (sk l n) c] := fun s hs' => by
    subst hs'
    refine bnd hx (cT rfl ?_)
    unfold wd
    simp only [cellAt_zero, avInt_v]
    by_cases he : (List.takeWhile nsep (l.drop (sk l n))).length = (l.drop (sk l n)).length
    · rw [if_pos he, leI_f (by decide)]
      have : List.takeWhile nsep (l.drop (sk l n)) = l.drop (sk l n) := by
        have := tw_take nsep (l.drop (sk l n))
        rw [he, List.take_length] at this
        exact this.symm
      rw [this]; rfl
    · rw [if_neg he, leI_t (by omega), bs_size, leI_t (by omega), bs_extract, Int.toNat_natCast, List.drop_zero, tw_take]; rfl
  exact fin _ e
theorem s_fail (l : B) (n : Nat) (c e : Int) (hl : l.length ≤ 1000000) (hn : n ≤ l.length) : ev 39 [pO l n c, .v (.int .i64 e)] = some [if c = 0 then pO l (sk l n) e else pO l n c] := by
  refine (ev39 _ _ _ _).trans ?_
  by_cases h : c = 0
  · rw [if_pos h]
    subst h
    exact cT rfl (bnd (s_blanks l n 0 hl hn) (cT rfl rfl))
  · rw [if_neg h]
    exact cF (eqB_f h) rfl
theorem s_take (l : B) (n : Nat) (c : Int) (w : B) (b : Bool) (hl : l.length ≤ 1000000) (hn : n + w.length ≤ l.length) : ev 83 [pO l n c, .v (.string (bs w)), .v (.bool b)] = some [if c = 0 then (if b then pO l (n + w.length) 0 else pO l (sk l n) 15) else pO l n c] := by
  refine (ev83 _ _ _ _ _).trans ?_
  by_cases h : c = 0
  · rw [if_pos h]
    subst h
    refine cF rfl ?_
    cases b with
    | true =>
      rw [if_pos rfl, bs_size]
      have e : IntKind.i64.wrap ((n : Int) + ((w.length : Nat) : Int)) = ((n + w.length : Nat) : Int) := by rw [w_i64]; omega
      rw [e]; rfl
    | false =>
      rw [if_neg (by decide)]
      exact cF rfl (bnd (s_fail l n 0 15 hl (by omega)) (cT rfl rfl))
  · rw [if_neg h]
    exact cT (by show (!(c == 0)) = true; rw [eqB_f h]; rfl) rfl
end Go.Proofs.Ytcinngpelbdopaa
