/- The reference's parser: numbers. -/
import Derived.Test.YtcinngpelbdopaaRps1
set_option linter.all false
namespace Go.Proofs.Ytcinngpelbdopaa
open Go.Ev
attribute [local congr] bind_first cond_first
def rR (l : B) (s : RS) : List Blk := [⟨1, 102, 4, true, [rRow l s]⟩]
theorem l_num70 (l : B) (s : RS) (x6 : Int) (x7 : Bool) (d : B) (hd : d.length ≤ 19) : ∀ (k i n : Nat) (b : Bool), i + k = d.length → (b = true → n = natV (d.take i)) → (d.take i).all dgB = b → n < 18446744073709551616 →
    ∃ (m : Nat) (c : Bool), m < 18446744073709551616 ∧ c = d.all dgB ∧ (c = true → m = natV d) ∧ lp 70 0 1 ⟨[(0, .ptr 0 0 0), (6, .v (.int .i64 x6)), (7, .v (.bool x7)), (8, .v (.string (bs d))), (9, .v (.bool b)), (10, .v (.int .u64 (n : Int))), (11, .v (.int .i64 (i : Int))), (1000000, .ptr 0 0 0)], rR l s⟩ =
      some ⟨some 0, ⟨[(0, .ptr 0 0 0), (6, .v (.int .i64 x6)), (7, .v (.bool x7)), (9, .v (.bool c)), (10, .v (.int .u64 (m : Int))), (1000000, .ptr 0 0 0)], rR l s⟩, []⟩
  | 0, i, n, b, h, hn, hb, hm => by
    rw [List.take_of_length_le (by omega)] at hn hb
    refine ⟨n, b, hm, hb.symm, hn, ?_⟩
    refine (lp70_0 _ _ _ _ _ _ _ _ _ _).trans ?_
    refine bnd (a := ⟨some 0, ⟨[(0, .ptr 0 0 0), (6, .v (.int .i64 x6)), (7, .v (.bool x7)), (9, .v (.bool b)), (10, .v (.int .u64 (n : Int))), (1000000, .ptr 0 0 0)], rR l s⟩, []⟩) ?_ (cF rfl (cT rfl (cT rfl rfl)))
    refine bnd (a := ⟨some 1000001, ⟨[(0, .ptr 0 0 0), (6, .v (.int .i64 x6)), (7, .v (.bool x7)), (8, .v (.string (bs d))), (9, .v (.bool b)), (10, .v (.int .u64 (n : Int))), (11, .v (.int .i64 (i : Int))), (61, .v (.bool false)), (1000000, .ptr 0 0 0)], rR l s⟩, []⟩) ?_ (cT rfl (cT rfl (cF rfl rfl)))
    exact cF (ltI_f (by rw [bs_size]; omega)) rfl
  | k + 1, i, n, b, h, hn, hb, hm => by
    have hi : ltI (i : Int) (((bs d).size : Nat) : Int) = true := ltI_t (by rw [bs_size]; omega)
    cases b with
    | false =>
      have hall : d.all dgB = false := by
        rw [← List.take_append_drop i d, List.all_append, hb]; rfl
      refine ⟨n, false, hm, hall.symm, fun e => by (cases e), ?_⟩
      refine (lp70_0 _ _ _ _ _ _ _ _ _ _).trans ?_
      refine bnd (a := ⟨some 0, ⟨[(0, .ptr 0 0 0), (6, .v (.int .i64 x6)), (7, .v (.bool x7)), (9, .v (.bool false)), (10, .v (.int .u64 (n : Int))), (1000000, .ptr 0 0 0)], rR l s⟩, []⟩) ?_ (cF rfl (cT rfl (cT rfl rfl)))
      refine bnd (a := ⟨some 1000001, ⟨[(0, .ptr 0 0 0), (6, .v (.int .i64 x6)), (7, .v (.bool x7)), (8, .v (.string (bs d))), (9, .v (.bool false)), (10, .v (.int .u64 (n : Int))), (11, .v (.int .i64 (i : Int))), (61, .v (.bool false)), (1000000, .ptr 0 0 0)], rR l s⟩, []⟩) ?_ (cT rfl (cT rfl (cF rfl rfl)))
      exact cT hi rfl
    | true =>
      have hn := hn rfl
      have e1 : IntKind.i64.wrap ((i : Int) + 1) = ((i + 1 : Nat) : Int) := by rw [w_i64]; omega
      have hil : i < d.length := by omega
      have htk : d.take (i + 1) = d.take i ++ [d.getD i 0] := by rw [List.take_add_one]; simp [hil]
      have hlt : natV (d.take i) < 10 ^ (d.take i).length := natV_lt _ _ rfl hb
      have hlt2 : natV (d.take i) < 10 ^ 18 := Nat.lt_of_lt_of_le hlt (Nat.pow_le_pow_right (by decide) (by rw [List.length_take]; omega))
      have hb2 : (d.getD i 0).toNat < 256 := (d.getD i 0).toNat_lt
      have en : IntKind.u64.wrap (IntKind.u64.wrap (10 * (n : Int)) + IntKind.u64.wrap (IntKind.u8.wrap ((((d.getD i 0).toNat : Nat) : Int) - 48))) = ((natV (d.take i) * 10 + (((d.getD i 0).toNat + 208) % 256) : Nat) : Int) := by
        subst hn
        simp only [w_u64, w_u8]
        omega
      obtain ⟨m, c, h1, h2, h3, h4⟩ := l_num70 l s x6 x7 d hd k (i + 1) (natV (d.take i) * 10 + (((d.getD i 0).toNat + 208) % 256)) (dgB (d.getD i 0)) (by omega) (fun e => by
        rw [htk, natV_snoc]
        have := of_decide_eq_true e
        omega) (by rw [htk, List.all_append, hb, List.all_cons, List.all_nil, Bool.and_true, Bool.true_and]) (by omega)
      refine ⟨m, c, h1, h2, h3, ?_⟩
      rw [← en, ← e1] at h4
      refine (lp70_0 _ _ _ _ _ _ _ _ _ _).trans ?_
      have hg : Array.getD (ByteArray.data (bs d)) (Int.toNat (i : Int)) 0 = d.getD i 0 := by rw [Int.toNat_natCast, bs_getD]
      refine bnd (a := ⟨some 1000001, ⟨[(0, .ptr 0 0 0), (6, .v (.int .i64 x6)), (7, .v (.bool x7)), (8, .v (.string (bs d))), (10, .v (.int .u64 (n : Int))), (11, .v (.int .i64 (i : Int))), (1000000, .ptr 0 0 0)], rR l s⟩, []⟩) ?_ (cT rfl (cT rfl (cT ?_ ?_)))
      · refine bnd (a := ⟨some 1000001, ⟨[(0, .ptr 0 0 0), (6, .v (.int .i64 x6)), (7, .v (.bool x7)), (8, .v (.string (bs d))), (9, .v (.bool true)), (10, .v (.int .u64 (n : Int))), (11, .v (.int .i64 (i : Int))), (61, .v (.bool true)), (1000000, .ptr 0 0 0)], rR l s⟩, []⟩) ?_ (cT rfl (cT rfl (cT rfl rfl)))
        exact cT hi rfl
      · show ((leI 0 (i : Int)) && (ltI (i : Int) (((bs d).size : Nat) : Int))) = true
        rw [hi, leI_t (by omega)]; rfl
      have hin : ((leI 0 (i : Int)) && (ltI (i : Int) (((bs d).size : Nat) : Int))) = true := by rw [hi, leI_t (by omega)]; rfl
      show cond (leI 48 (((UInt8.toNat (Array.getD (ByteArray.data (bs d)) (Int.toNat (i : Int)) 0)) : Nat) : Int)) (cond ((leI 0 (i : Int)) && (ltI (i : Int) (((bs d).size : Nat) : Int))) (cond ((leI 0 (i : Int)) && (ltI (i : Int) (((bs d).size : Nat) : Int)))
          (lp 70 0 1 ⟨[(0, .ptr 0 0 0), (6, .v (.int .i64 x6)), (7, .v (.bool x7)), (8, .v (.string (bs d))), (9, .v (.bool (leI (((UInt8.toNat (Array.getD (ByteArray.data (bs d)) (Int.toNat (i : Int)) 0)) : Nat) : Int) 57))), (10, .v (.int .u64 (IntKind.u64.wrap (IntKind.u64.wrap (10 * (n : Int)) + IntKind.u64.wrap (IntKind.u8.wrap ((((UInt8.toNat (Array.getD (ByteArray.data (bs d)) (Int.toNat (i : Int)) 0)) : Nat) : Int) - 48)))))), (11, .v (.int .i64 (IntKind.i64.wrap ((i : Int) + 1)))), (1000000, .ptr 0 0 0)], rR l s⟩) none) none)
        (cond ((leI 0 (i : Int)) && (ltI (i : Int) (((bs d).size : Nat) : Int)))
          (lp 70 0 1 ⟨[(0, .ptr 0 0 0), (6, .v (.int .i64 x6)), (7, .v (.bool x7)), (8, .v (.string (bs d))), (9, .v (.bool false)), (10, .v (.int .u64 (IntKind.u64.wrap (IntKind.u64.wrap (10 * (n : Int)) + IntKind.u64.wrap (IntKind.u8.wrap ((((UInt8.toNat (Array.getD (ByteArray.data (bs d)) (Int.toNat (i : Int)) 0)) : Nat) : Int) - 48)))))), (11, .v (.int .i64 (IntKind.i64.wrap ((i : Int) + 1)))), (1000000, .ptr 0 0 0)], rR l s⟩) none) = _
      rw [hg, hin]
      by_cases h48 : 48 ≤ (d.getD i 0).toNat
      · refine cT (leI_t (by omega)) (cT rfl (cT rfl ?_))
        have e57 : leI (((d.getD i 0).toNat : Nat) : Int) 57 = dgB (d.getD i 0) := by
          unfold dgB
          by_cases h57 : (d.getD i 0).toNat ≤ 57
          · rw [leI_t (by omega), decide_eq_true (by omega)]
          · rw [leI_f (by omega), decide_eq_false (by omega)]
        rw [e57]; exact h4
      · refine cF (leI_f (by omega)) (cT rfl ?_)
        have e48 : dgB (d.getD i 0) = false := decide_eq_false (by omega)
        rw [e48] at h4; exact h4
theorem foldl_pos : ∀ (d : B) (a : Nat), 1 ≤ a → 1 ≤ d.foldl (fun a b => a * 10 + (b.toNat - 48)) a
  | [], a, h => h
  | b :: d, a, h => foldl_pos d (a * 10 + (b.toNat - 48)) (by omega)
theorem natV_pos {d : B} (ha : d.all dgB = true) (h0 : 0 < d.length) (h1 : d.getD 0 0 ≠ 48) : 1 ≤ natV d := by
  cases d with
  | nil => exact absurd h0 (by decide)
  | cons b d =>
    rw [List.all_cons, Bool.and_eq_true] at ha
    have hb := of_decide_eq_true ha.1
    have hne : b.toNat ≠ 48 := fun e => h1 (UInt8.toNat_inj.1 e)
    exact foldl_pos d (0 * 10 + (b.toNat - 48)) (by omega)
theorem one48 {d : B} (h : d.length = 1) (h48 : d.getD 0 0 = 48) : d = [48] := by
  match d, h with
  | [b], _ => simp at h48; rw [h48]
theorem isDg_eq (d : B) : isDg d = (d.all dgB && decide (0 < d.length ∧ (d.getD 0 0 ≠ 48 ∨ d.length = 1))) := by
  unfold isDg
  cases ha : d.all dgB with
  | false => rfl
  | true =>
    rw [Bool.true_and, Bool.true_and]
    rw [Bool.eq_iff_iff, Bool.or_eq_true, Bool.and_eq_true, decide_eq_true_iff, decide_eq_true_iff, beq_iff_eq, Bool.not_eq_true', beq_eq_false_iff_ne]
    constructor
    · rintro (h | h)
      · subst h; exact ⟨by decide, .inr rfl⟩
      · exact ⟨h.1, .inl h.2⟩
    · rintro ⟨h1, h2 | h2⟩
      · exact .inr ⟨h1, h2⟩
      · by_cases h48 : d.getD 0 0 = 48
        · exact .inl (one48 h2 h48)
        · exact .inr ⟨h1, h48⟩
/-- What a number's word says, with a sign or without. -/
def numU (sg : Bool) (w : B) : Option Int := if w.headD 0 = 45 ∧ sg = false then none else num w
def st7 (l : B) (s : RS) (q : List (Nat × AV)) : LR := ⟨some 1000001, ⟨q, rR l s⟩, []⟩
theorem s_num70 (l : B) (s : RS) (sg : Bool) (hl : l.length ≤ 1000000) (hn : s.1 ≤ l.length) : ∃ v : Int, i64ok v ∧
    (match numU sg (wd l s.1) with
     | some x => v = x ∧ ev 70 [rO l s, .v (.bool sg)] = some [.v (.int .i64 v), rO l (sk l s.1 + (wd l s.1).length, s.2)]
     | none => v = 0 ∧ ev 70 [rO l s, .v (.bool sg)] = some [.v (.int .i64 v), rO l (failS (sk l s.1 + (wd l s.1).length, s.2) (sk l s.1) 15)]) := by
  have hw := s_rword l s hl hn
  have hwl := wd_le l s.1 hn
  generalize hwe : wd l s.1 = w at *
  obtain ⟨u, hu⟩ : ∃ u : RS, u = (sk l s.1 + w.length, s.2) := ⟨_, rfl⟩
  rw [← hu] at hw ⊢
  obtain ⟨neg, hneg⟩ : ∃ b : Bool, b = (sg && decide (w.headD 0 = 45)) := ⟨_, rfl⟩
  obtain ⟨d, hd⟩ : ∃ d : B, d = if neg then w.tail else w := ⟨_, rfl⟩
  obtain ⟨ok, hok⟩ : ∃ b : Bool, b = decide (0 < d.length ∧ d.length ≤ 19 ∧ (d.getD 0 0 ≠ 48 ∨ (d.length = 1 ∧ neg = false))) := ⟨_, rfl⟩
  have hne : neg = true → 1 ≤ w.length := fun h => by
    rw [h] at hneg
    cases w with
    | nil => exact absurd (of_decide_eq_true (Bool.and_eq_true .. ▸ hneg.symm).2) (by decide)
    | cons a w => simp
  -- the loop
  obtain ⟨m, c, hm, hc, hmv, hloop⟩ : ∃ (m : Nat) (c : Bool), m < 18446744073709551616 ∧ c = (ok && d.all dgB) ∧ (c = true → m = natV d) ∧ lp 70 0 1 ⟨[(0, .ptr 0 0 0), (6, .v (.int .i64 (sk l s.1 : Int))), (7, .v (.bool neg)), (8, .v (.string (bs d))), (9, .v (.bool ok)), (10, .v (.int .u64 0)), (11, .v (.int .i64 0)), (1000000, .ptr 0 0 0)], rR l u⟩ =
      some ⟨some 0, ⟨[(0, .ptr 0 0 0), (6, .v (.int .i64 (sk l s.1 : Int))), (7, .v (.bool neg)), (9, .v (.bool c)), (10, .v (.int .u64 (m : Int))), (1000000, .ptr 0 0 0)], rR l u⟩, []⟩ := by
    cases hb : ok with
    | true =>
      rw [hb] at hok
      have h19 := (of_decide_eq_true hok.symm).2.1
      obtain ⟨m, c, h1, h2, h3, h4⟩ := l_num70 l u (sk l s.1) neg d h19 d.length 0 0 true (by omega) (fun _ => by rw [List.take_zero]; rfl) (by rw [List.take_zero]; rfl) (by decide)
      exact ⟨m, c, h1, by rw [h2]; rfl, h3, h4⟩
    | false =>
      refine ⟨0, false, by decide, rfl, fun e => by (cases e), ?_⟩
      refine (lp70_0 _ _ _ _ _ _ _ _ _ _).trans ?_
      refine bnd (a := ⟨some 0, ⟨[(0, .ptr 0 0 0), (6, .v (.int .i64 (sk l s.1 : Int))), (7, .v (.bool neg)), (9, .v (.bool false)), (10, .v (.int .u64 0)), (1000000, .ptr 0 0 0)], rR l u⟩, []⟩) ?_ (cF rfl (cT rfl (cT rfl rfl)))
      refine bnd (a := ⟨some 1000001, ⟨[(0, .ptr 0 0 0), (6, .v (.int .i64 (sk l s.1 : Int))), (7, .v (.bool neg)), (8, .v (.string (bs d))), (9, .v (.bool false)), (10, .v (.int .u64 0)), (11, .v (.int .i64 0)), (61, .v (.bool false)), (1000000, .ptr 0 0 0)], rR l u⟩, []⟩) ?_ (cT rfl (cT rfl (cF rfl rfl)))
      cases ltI 0 (((bs d).size : Nat) : Int) <;> rfl
  obtain ⟨most, hmost⟩ : ∃ x : Int, x = if neg then 9223372036854775808 else 9223372036854775807 := ⟨_, rfl⟩
  obtain ⟨flag, hflag⟩ : ∃ b : Bool, b = (!c || ltI most (m : Int)) := ⟨_, rfl⟩
  -- what the word says
  have key : match numU sg w with
      | some x => flag = false ∧ x = (if neg then -(m : Int) else (m : Int)) ∧ (neg = true → 1 ≤ m ∧ m ≤ 9223372036854775808) ∧ (neg = false → m ≤ 9223372036854775807)
      | none => flag = true := by
    unfold numU
    by_cases h45 : w.headD 0 = 45
    · cases sg with
      | false =>
        rw [if_pos ⟨h45, rfl⟩]
        simp only
        obtain rfl : neg = false := hneg
        rw [if_neg (by decide)] at hd
        subst hd
        have : d.all dgB = false := by
          cases d with
          | nil => exact absurd h45 (by decide)
          | cons a d => simp only [List.headD_cons] at h45; subst h45; rfl
        rw [hflag, hc, this, Bool.and_false]; rfl
      | true =>
        rw [if_neg (fun h => absurd h.2 (by decide))]
        obtain rfl : neg = true := by rw [hneg, decide_eq_true h45]; rfl
        rw [if_pos rfl] at hd hmost
        subst hd hmost
        unfold num
        rw [if_pos h45, isDg_eq]
        by_cases hC : (w.tail.all dgB && decide (0 < w.tail.length ∧ (w.tail.getD 0 0 ≠ 48 ∨ w.tail.length = 1))) = true ∧ w.tail ≠ [48] ∧ w.tail.length ≤ 19 ∧ natV w.tail ≤ 9223372036854775808
        · rw [if_pos hC]
          simp only
          obtain ⟨h1, h2, h3, h4⟩ := hC
          rw [Bool.and_eq_true, decide_eq_true_iff] at h1
          have h48 : w.tail.getD 0 0 ≠ 48 := fun e => by
            rcases h1.2.2 with h | h
            · exact h e
            · exact h2 (one48 h e)
          have hct : c = true := by
            rw [hc, hok, h1.1, decide_eq_true ⟨h1.2.1, h3, .inl h48⟩]; rfl
          have := hmv hct
          have hp := natV_pos h1.1 h1.2.1 h48
          refine ⟨by rw [hflag, hct, ltI_f (by omega)]; rfl, by rw [this]; rfl, fun _ => ⟨by omega, by omega⟩, fun e => by (cases e)⟩
        · rw [if_neg hC]
          simp only
          rw [hflag]
          cases hct : c with
          | false => rfl
          | true =>
            have hmv := hmv hct
            rw [hct] at hc
            have hc2 := (Bool.and_eq_true ..).mp hc.symm
            have hok2 := of_decide_eq_true (hok.symm.trans hc2.1)
            refine ltI_t ?_
            rw [hmv]
            have h48 : w.tail.getD 0 0 ≠ 48 := by
              rcases hok2.2.2 with h | h
              · exact h
              · exact absurd h.2 (by decide)
            have : ¬ natV w.tail ≤ 9223372036854775808 := fun hle => hC ⟨by rw [hc2.2, decide_eq_true ⟨hok2.1, .inl h48⟩]; rfl, fun e => h48 (by rw [e]; rfl), hok2.2.1, hle⟩
            omega
    · rw [if_neg (fun h => h45 h.1)]
      obtain rfl : neg = false := by rw [hneg, decide_eq_false h45, Bool.and_false]
      rw [if_neg (by decide)] at hd hmost
      subst hd hmost
      unfold num
      rw [if_neg h45, isDg_eq]
      by_cases hC : (d.all dgB && decide (0 < d.length ∧ (d.getD 0 0 ≠ 48 ∨ d.length = 1))) = true ∧ d.length ≤ 19 ∧ natV d ≤ 9223372036854775807
      · rw [if_pos hC]
        simp only
        obtain ⟨h1, h3, h4⟩ := hC
        rw [Bool.and_eq_true, decide_eq_true_iff] at h1
        have hct : c = true := by
          rw [hc, hok, h1.1, decide_eq_true ⟨h1.2.1, h3, h1.2.2.imp id fun h => ⟨h, rfl⟩⟩]; rfl
        have := hmv hct
        refine ⟨by rw [hflag, hct, ltI_f (by omega)]; rfl, by rw [this]; rfl, fun e => by (cases e), fun _ => by omega⟩
      · rw [if_neg hC]
        simp only
        rw [hflag]
        cases hct : c with
        | false => rfl
        | true =>
          have hmv := hmv hct
          rw [hct] at hc
          have hc2 := (Bool.and_eq_true ..).mp hc.symm
          have hok2 := of_decide_eq_true (hok.symm.trans hc2.1)
          refine ltI_t ?_
          rw [hmv]
          have : ¬ natV d ≤ 9223372036854775807 := fun hle => hC ⟨by rw [hc2.2, decide_eq_true ⟨hok2.1, hok2.2.2.imp id fun h => h.1⟩]; rfl, hok2.2.1, hle⟩
          omega
  -- the walk
  have walk : ∀ (v : Int) (t : RS), (flag = true → v = 0 ∧ t = failS u (sk l s.1) 15) → (flag = false → t = u ∧ v = if neg then IntKind.i64.wrap (IntKind.i64.wrap (0 - IntKind.i64.wrap (IntKind.u64.wrap ((m : Int) - 1))) - 1) else IntKind.i64.wrap (m : Int)) →
      ev 70 [rO l s, .v (.bool sg)] = some [.v (.int .i64 v), rO l t] := fun v t hf1 hf2 => by
    refine (ev70 _ _ _ _ _).trans ?_
    refine bnd hw (cT rfl (cT rfl (cT rfl ?_)))
    refine bnd (a := st7 l u [(0, .ptr 0 0 0), (5, .v (.string (bs w))), (6, .v (.int .i64 (sk l s.1 : Int))), (7, .v (.bool neg)), (1000000, .ptr 0 0 0)]) ?_ (cT rfl (cT rfl ?_))
    · by_cases hw0 : 0 < w.length
      · have hh : ltI 0 (((bs w).size : Nat) : Int) = true := ltI_t (by rw [bs_size]; omega)
        refine cT hh (cT ((Bool.true_and _).trans hh) ?_)
        have hg : ((((UInt8.toNat (Array.getD (ByteArray.data (bs w)) 0 0)) : Nat) : Int) == 45) = decide (w.headD 0 = 45) := by
          rw [bs_getD, byteEq _ 45 45 rfl]
          cases w with
          | nil => exact absurd hw0 (by decide)
          | cons a w => rfl
        by_cases h45 : w.headD 0 = 45
        · refine cT (hg.trans (decide_eq_true h45)) ?_
          rw [hneg, decide_eq_true h45, Bool.and_true]; rfl
        · refine cF (hg.trans (decide_eq_false h45)) ?_
          rw [hneg, decide_eq_false h45, Bool.and_false]; rfl
      · have hw1 : w = [] := List.eq_nil_of_length_eq_zero (by omega)
        refine cF (ltI_f (by show (((bs w).size : Nat) : Int) ≤ 0; rw [bs_size]; omega)) ?_
        rw [hneg, hw1, show decide (([] : B).headD 0 = 45) = false from rfl, Bool.and_false]; rfl
    refine bnd (a := st7 l u [(0, .ptr 0 0 0), (6, .v (.int .i64 (sk l s.1 : Int))), (7, .v (.bool neg)), (8, .v (.string (bs d))), (1000000, .ptr 0 0 0)]) ?_ (cT rfl (cT rfl ?_))
    · cases hb : neg with
      | true =>
        have hl1 := hne hb
        rw [hb, if_pos rfl] at hd
        refine cT rfl (cT ?_ ?_)
        · show ((true && (leI 1 (((bs w).size : Nat) : Int))) && (leI (((bs w).size : Nat) : Int) (((bs w).size : Nat) : Int))) = true
          rw [bs_size, leI_t (by omega), leI_t (by omega)]; rfl
        · have e : ByteArray.extract (bs w) 1 (Int.toNat (((bs w).size : Nat) : Int)) = bs d := by
            rw [bs_extract, bs_size, Int.toNat_natCast, List.take_length, hd, List.drop_one]
          show some (st7 l u [(0, .ptr 0 0 0), (6, .v (.int .i64 (sk l s.1 : Int))), (7, .v (.bool true)), (8, .v (.string (ByteArray.extract (bs w) 1 (Int.toNat (((bs w).size : Nat) : Int))))), (1000000, .ptr 0 0 0)]) = _
          rw [e]
      | false =>
        rw [hb, if_neg (by decide)] at hd
        subst hd
        exact cF rfl rfl
    refine bnd (a := st7 l u [(0, .ptr 0 0 0), (6, .v (.int .i64 (sk l s.1 : Int))), (7, .v (.bool neg)), (8, .v (.string (bs d))), (9, .v (.bool ok)), (1000000, .ptr 0 0 0)]) ?_ (cT rfl (cT rfl ?_))
    · by_cases h0 : 0 < d.length
      · have hh : ltI 0 (((bs d).size : Nat) : Int) = true := ltI_t (by rw [bs_size]; omega)
        refine cT hh ?_
        by_cases h19 : d.length ≤ 19
        · refine cT (leI_t (by show (((bs d).size : Nat) : Int) ≤ 19; rw [bs_size]; omega)) (cT ((Bool.true_and _).trans hh) ?_)
          have hg : (!((((UInt8.toNat (Array.getD (ByteArray.data (bs d)) 0 0)) : Nat) : Int) == 48)) = decide (d.getD 0 0 ≠ 48) := by
            rw [bs_getD, byteEq _ 48 48 rfl]
            by_cases h : d.getD 0 0 = 48
            · rw [beq_iff_eq.2 h, decide_eq_false (fun k => k h)]; rfl
            · rw [beq_eq_false_iff_ne.2 h, decide_eq_true h]; rfl
          by_cases h48 : d.getD 0 0 = 48
          · refine cF (hg.trans (decide_eq_false fun k => k h48)) ?_
            by_cases h1 : d.length = 1
            · refine cT (by show ((((bs d).size : Nat) : Int) == 1) = true; rw [bs_size, h1]; rfl) ?_
              have : ok = !neg := by
                rw [hok]
                cases neg with
                | true => exact decide_eq_false (fun h => by rcases h.2.2 with h | h; exact h h48; exact absurd h.2 (by decide))
                | false => exact decide_eq_true ⟨h0, h19, .inr ⟨h1, rfl⟩⟩
              rw [this]; rfl
            · refine cF (by show ((((bs d).size : Nat) : Int) == 1) = false; rw [bs_size]; exact eqB_f (by omega)) ?_
              have : ok = false := by
                rw [hok]
                exact decide_eq_false (fun h => by rcases h.2.2 with h | h; exact h h48; exact h1 h.1)
              rw [this]; rfl
          · refine cT (hg.trans (decide_eq_true h48)) ?_
            rw [hok, decide_eq_true ⟨h0, h19, .inl h48⟩]; rfl
        · refine cF (leI_f (by show (19 : Int) < (((bs d).size : Nat) : Int); rw [bs_size]; omega)) ?_
          rw [hok, decide_eq_false (fun h => h19 h.2.1)]; rfl
      · refine cF (ltI_f (by show (((bs d).size : Nat) : Int) ≤ 0; rw [bs_size]; omega)) ?_
        rw [hok, decide_eq_false (fun h => h0 h.1)]; rfl
    refine bnd hloop (cT rfl (cT rfl ?_))
    refine bnd (a := st7 l u [(0, .ptr 0 0 0), (6, .v (.int .i64 (sk l s.1 : Int))), (7, .v (.bool neg)), (9, .v (.bool c)), (10, .v (.int .u64 (m : Int))), (12, .v (.int .u64 most)), (1000000, .ptr 0 0 0)]) ?_ (cT rfl (cT rfl ?_))
    · rw [hmost]
      cases neg <;> rfl
    have h67 : ∀ (K : LR → Option LR), (cond (!c) (some (st7 l u [(0, .ptr 0 0 0), (6, .v (.int .i64 (sk l s.1 : Int))), (7, .v (.bool neg)), (10, .v (.int .u64 (m : Int))), (89, .v (.bool true)), (1000000, .ptr 0 0 0)])) (some (st7 l u [(0, .ptr 0 0 0), (6, .v (.int .i64 (sk l s.1 : Int))), (7, .v (.bool neg)), (10, .v (.int .u64 (m : Int))), (89, .v (.bool (ltI most (m : Int)))), (1000000, .ptr 0 0 0)]))) = some (st7 l u [(0, .ptr 0 0 0), (6, .v (.int .i64 (sk l s.1 : Int))), (7, .v (.bool neg)), (10, .v (.int .u64 (m : Int))), (89, .v (.bool flag)), (1000000, .ptr 0 0 0)]) := fun _ => by
      rw [hflag]
      cases c <;> rfl
    cases hfl : flag with
    | true =>
      obtain ⟨rfl, rfl⟩ := hf1 hfl
      refine bnd (a := ⟨none, ⟨[], []⟩, [.v (.int .i64 0), rO l (failS u (sk l s.1) 15)]⟩) (bnd (h67 some) (cT rfl (cT rfl (cT hfl (bnd (s_rfail l u _ _) (cT rfl rfl)))))) (cF rfl (cT rfl rfl))
    | false =>
      obtain ⟨rfl, rfl⟩ := hf2 hfl
      refine bnd (a := st7 l t [(7, .v (.bool neg)), (10, .v (.int .u64 (m : Int))), (1000000, .ptr 0 0 0)]) (bnd (h67 some) (cT rfl (cT rfl (cF hfl rfl)))) (cT rfl (cT rfl ?_))
      cases neg <;> rfl
  cases hnu : numU sg w with
  | none =>
    rw [hnu] at key
    exact ⟨0, by unfold i64ok; omega, rfl, walk 0 _ (fun _ => ⟨rfl, rfl⟩) (fun h => by rw [key] at h; cases h)⟩
  | some x =>
    rw [hnu] at key
    obtain ⟨k1, k2, k3, k4⟩ := key
    refine ⟨x, ?_, rfl, walk x u (fun h => by rw [k1] at h; cases h) (fun _ => ⟨rfl, ?_⟩)⟩
    · rw [k2]
      cases neg with
      | true => have := k3 rfl; rw [if_pos rfl]; unfold i64ok; omega
      | false => have := k4 rfl; rw [if_neg (by decide)]; unfold i64ok; omega
    · rw [k2]
      cases neg with
      | true =>
        have := k3 rfl
        rw [if_pos rfl, if_pos rfl]
        simp only [w_i64, w_u64]
        omega
      | false =>
        have := k4 rfl
        rw [if_neg (by decide), if_neg (by decide), w_i64]
        omega
end Go.Proofs.Ytcinngpelbdopaa
