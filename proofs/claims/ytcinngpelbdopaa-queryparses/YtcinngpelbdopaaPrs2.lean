/- Numbers and words of the parser. -/
import Derived.Test.YtcinngpelbdopaaPrs1
set_option linter.all false
namespace Go.Proofs.Ytcinngpelbdopaa
open Go.Ev
attribute [local congr] bind_first cond_first
def dgB (b : UInt8) : Bool := decide (48 ≤ b.toNat ∧ b.toNat ≤ 57)
def isDg (d : B) : Bool := d.all dgB && (d == [48] || (decide (0 < d.length) && !(d.getD 0 0 == 48)))
def natV (d : B) : Nat := d.foldl (fun a b => a * 10 + (b.toNat - 48)) 0
/-- The number that a word says. -/
def num (w : B) : Option Int :=
  if w.headD 0 = 45 then (if isDg w.tail ∧ w.tail ≠ [48] ∧ w.tail.length ≤ 19 ∧ natV w.tail ≤ 9223372036854775808 then some (-(natV w.tail : Int)) else none)
  else if isDg w ∧ w.length ≤ 19 ∧ natV w ≤ 9223372036854775807 then some (natV w : Int) else none
theorem getD_mem {l : B} {i : Nat} (h : i < l.length) : l.getD i 0 ∈ l := by
  simp [h]
theorem byteEq (b c : UInt8) (n : Int) (hn : ((c.toNat : Nat) : Int) = n) : (((UInt8.toNat b : Nat) : Int) == n) = (b == c) := by
  subst hn
  rw [Bool.eq_iff_iff, beq_iff_eq, beq_iff_eq]
  constructor
  · intro h
    exact UInt8.toNat_inj.1 (by omega)
  · intro h; subst h; rfl
theorem l_isDigits (d : B) (hl : d.length ≤ 1000000) : ∀ (k i : Nat), i + k = d.length → lp 97 0 0 ⟨[(0, .v (.string (bs d))), (5, .v (.int .i64 ((d.length : Nat) : Int))), (6, .v (.int .i64 (i : Int)))], []⟩ =
    some (bif (d.drop i).all dgB then ⟨some 0, ⟨[(0, .v (.string (bs d)))], []⟩, []⟩ else ⟨none, ⟨[], []⟩, [.v (.bool false)]⟩)
  | 0, i, h => by rw [lp97_0, ltI_f (by omega), List.drop_of_length_le (by omega)]; rfl
  | k + 1, i, h => by
    have e1 : IntKind.i64.wrap ((i : Int) + 1) = ((i + 1 : Nat) : Int) := by rw [w_i64]; omega
    have ih := l_isDigits d hl k (i + 1) (by omega)
    rw [lp97_0, bs_size, ltI_t (show (i : Int) < ((d.length : Nat) : Int) by omega), leI_t (show (0 : Int) ≤ (i : Int) by omega), Int.toNat_natCast, bs_getD, e1, ih, drop_cons (show i < d.length by omega), List.all_cons]
    generalize d.getD i 0 = b
    unfold dgB
    by_cases h1 : b.toNat < 48
    · rw [ltI_t (show ((b.toNat : Nat) : Int) < 48 by omega), decide_eq_false (by omega)]; rfl
    · rw [ltI_f (show 48 ≤ ((b.toNat : Nat) : Int) by omega)]
      by_cases h2 : 57 < b.toNat
      · rw [ltI_t (show 57 < ((b.toNat : Nat) : Int) by omega), decide_eq_false (by omega)]; rfl
      · rw [ltI_f (show ((b.toNat : Nat) : Int) ≤ 57 by omega), decide_eq_true (by omega)]; rfl
theorem s_isDigits (d : B) (hl : d.length ≤ 1000000) : ev 97 [.v (.string (bs d))] = some [.v (.bool (isDg d))] := by
  rw [ev97, bs_size]
  have key := l_isDigits d hl d.length 0 (by omega)
  rw [List.drop_zero] at key
  unfold isDg
  cases ha : d.all dgB with
  | false =>
    rw [ha] at key
    exact bnd key rfl
  | true =>
    rw [ha] at key
    refine bnd key (cT rfl (cT rfl ?_))
    show cond (ByteArray.toList (bs d) == ByteArray.toList (bs [48])) (some [AV.v (.bool true)]) (cond (ltI 0 (((bs d).size : Nat) : Int)) (cond (true && ltI 0 (((bs d).size : Nat) : Int)) (some [.v (.bool (!((((UInt8.toNat (Array.getD (ByteArray.data (bs d)) 0 0)) : Nat) : Int) == 48)))]) none) (some [.v (.bool false)])) = _
    rw [bs_toList, bs_toList, bs_size, bs_getD, byteEq _ 48 48 rfl]
    cases d == [48] with
    | true => rfl
    | false =>
      by_cases h0 : 0 < d.length
      · rw [ltI_t (by omega), decide_eq_true h0]; rfl
      · rw [ltI_f (by omega), decide_eq_false h0]; rfl
theorem natV_snoc (d : B) (b : UInt8) : natV (d ++ [b]) = natV d * 10 + (b.toNat - 48) := by unfold natV; rw [List.foldl_append]; rfl
theorem natV_lt : ∀ (k : Nat) (d : B), d.length = k → d.all dgB = true → natV d < 10 ^ k
  | 0, d, h, _ => by
    have : d = [] := List.eq_nil_of_length_eq_zero h
    subst this; decide
  | k + 1, d, h, ha => by
    obtain ⟨r, b, rfl⟩ : ∃ r b, d = r ++ [b] := ⟨d.dropLast, d.getLast (by intro e; rw [e] at h; cases h), (List.dropLast_concat_getLast _).symm⟩
    rw [List.all_append, Bool.and_eq_true] at ha
    have ih := natV_lt k r (by simpa using h) ha.1
    have hb : dgB b = true := by simpa using ha.2
    have := of_decide_eq_true hb
    rw [natV_snoc, Nat.pow_succ]; omega
theorem l_number (lo hi : Int) (neg : Bool) (d : B) (hl : d.length ≤ 19) (ha : d.all dgB = true) : ∀ (k i : Nat), i + k = d.length →
    lp 94 0 0 ⟨[(1, .v (.int .i64 lo)), (2, .v (.int .i64 hi)), (8, .v (.string (bs d))), (9, .v (.bool neg)), (10, .v (.int .u64 ((natV (d.take i) : Nat) : Int))), (34, .v (.int .i64 ((d.length : Nat) : Int))), (35, .v (.int .i64 (i : Int)))], []⟩ =
    some ⟨some 0, ⟨[(1, .v (.int .i64 lo)), (2, .v (.int .i64 hi)), (9, .v (.bool neg)), (10, .v (.int .u64 ((natV d : Nat) : Int)))], []⟩, []⟩
  | 0, i, h => by rw [List.take_of_length_le (by omega), lp94_0, ltI_f (by omega)]; rfl
  | k + 1, i, h => by
    have e1 : IntKind.i64.wrap ((i : Int) + 1) = ((i + 1 : Nat) : Int) := by rw [w_i64]; omega
    have ih := l_number lo hi neg d hl ha k (i + 1) (by omega)
    have hi' : i < d.length := by omega
    have hb : dgB (d.getD i 0) = true := List.all_eq_true.1 ha _ (getD_mem hi')
    have hb := of_decide_eq_true hb
    have tk : d.take (i + 1) = d.take i ++ [d.getD i 0] := by
      rw [List.take_add_one, List.getElem?_eq_getElem hi']; simp [hi']
    have hlt := natV_lt (d.take i).length (d.take i) rfl (by
      rw [List.all_eq_true]; intro x hx; exact List.all_eq_true.1 ha x (List.mem_of_mem_take hx))
    have hlt2 : natV (d.take i) < 10 ^ 18 := Nat.lt_of_lt_of_le hlt (Nat.pow_le_pow_right (by decide) (by rw [List.length_take]; omega))
    have e2 : IntKind.u64.wrap (IntKind.u64.wrap (((natV (d.take i) : Nat) : Int) * 10) + IntKind.u64.wrap (IntKind.u8.wrap ((((d.getD i 0).toNat : Nat) : Int) - 48))) = ((natV (d.take (i + 1)) : Nat) : Int) := by
      rw [tk, natV_snoc, w_u64, w_u64, w_u64, w_u8]; omega
    rw [lp94_0, bs_size, ltI_t (show (i : Int) < ((d.length : Nat) : Int) by omega), leI_t (show (0 : Int) ≤ (i : Int) by omega), Int.toNat_natCast, bs_getD, e1, e2]
    exact ih
def inR (lo hi : Int) (v : Option Int) : Bool := match v with | some v => leI lo v && leI v hi | none => false
theorem s_HasPrefix (w : B) : ev 100 [.v (.string (bs w)), .v (.string (bs [45]))] = some [.v (.bool (decide (w.headD 0 = 45)))] := by
  rw [ev100]
  simp only [bs_size, List.length_cons, List.length_nil, Nat.zero_add]
  cases w with
  | nil => rfl
  | cons b r =>
    simp only [List.length_cons]
    rw [leI_t (show ((1 : Nat) : Int) ≤ ((r.length + 1 : Nat) : Int) by omega), leI_t (by decide), bs_extract, bs_toList, bs_toList]
    show some [AV.v (.bool ([b] == [45]))] = _
    congr 4
    rw [Bool.eq_iff_iff, beq_iff_eq, decide_eq_true_iff]
    simp
theorem s_CutPrefix (w : B) (hl : w.length ≤ 1000000) : ev 96 [.v (.string (bs w)), .v (.string (bs [45]))] = some [.v (.string (bs (if w.headD 0 = 45 then w.tail else w))), .v (.bool (decide (w.headD 0 = 45)))] := by
  have h99 : ev 99 [.v (.string (bs w)), .v (.string (bs [45]))] = some [.v (.string (bs (if w.headD 0 = 45 then w.tail else w))), .v (.bool (decide (w.headD 0 = 45)))] := by
    rw [ev99]
    refine bnd (s_HasPrefix w) (cT rfl ?_)
    by_cases h : w.headD 0 = 45
    · rw [if_pos h, decide_eq_true h]
      refine cF rfl ?_
      cases w with
      | nil => cases h
      | cons b r =>
        simp only [bs_size, List.length_cons, List.length_nil, Nat.zero_add]
        rw [leI_t (by decide), leI_t (show ((1 : Nat) : Int) ≤ ((r.length + 1 : Nat) : Int) by omega), leI_t (by omega), bs_extract, Int.toNat_natCast, Int.toNat_natCast]
        show some [AV.v (.string (bs (((b :: r).take (r.length + 1)).drop 1))), AV.v (.bool true)] = _
        rw [List.take_of_length_le (by simp)]; rfl
    · rw [if_neg h, decide_eq_false h]; rfl
  rw [ev96]
  exact bnd h99 rfl
theorem s_number94 (w : B) (lo hi : Int) (hl : w.length ≤ 1000000) : ∃ v : Int, ev 94 [.v (.string (bs w)), .v (.int .i64 lo), .v (.int .i64 hi)] = some [.v (.int .i64 v), .v (.bool (inR lo hi (num w)))] ∧ i64ok v ∧ ∀ x, num w = some x → v = x := by
  have z : i64ok 0 := by unfold i64ok; omega
  have hcut := s_CutPrefix w hl
  by_cases hp : w.headD 0 = 45
  · rw [if_pos hp, decide_eq_true hp] at hcut
    have hd := s_isDigits w.tail (by rw [List.length_tail]; omega)
    have hn : num w = if isDg w.tail ∧ w.tail ≠ [48] ∧ w.tail.length ≤ 19 ∧ natV w.tail ≤ 9223372036854775808 then some (-(natV w.tail : Int)) else none := by unfold num; rw [if_pos hp]
    have no : ¬ (isDg w.tail ∧ w.tail ≠ [48] ∧ w.tail.length ≤ 19 ∧ natV w.tail ≤ 9223372036854775808) → num w = none := fun h => by rw [hn, if_neg h]
    have bad : num w = none → inR lo hi (num w) = false ∧ ∀ x, num w = some x → (0 : Int) = x := fun h => by rw [h]; exact ⟨rfl, fun x e => by cases e⟩
    cases hdg : isDg w.tail with
    | false =>
      have hb := bad (no (by rw [hdg]; simp))
      refine ⟨0, ?_, z, hb.2⟩
      rw [hb.1, ev94]
      exact bnd hcut (cT rfl (cT rfl (bnd (hd.trans (by rw [hdg])) (cT rfl (cT rfl rfl)))))
    | true =>
      by_cases h48 : w.tail = [48]
      · have hb := bad (no (by rw [h48]; simp))
        refine ⟨0, ?_, z, hb.2⟩
        rw [hb.1, ev94]
        refine bnd hcut (cT rfl (cT rfl (bnd (hd.trans (by rw [hdg])) (cT rfl (cF rfl (cT rfl (cT ?_ rfl)))))))
        show (ByteArray.toList (bs w.tail) == ByteArray.toList (bs [48])) = true
        rw [bs_toList, bs_toList, h48]; rfl
      · have h48' : (ByteArray.toList (bs w.tail) == ByteArray.toList (bs [48])) = false := by rw [bs_toList, bs_toList]; exact beq_eq_false_iff_ne.2 h48
        by_cases h19 : 19 < w.tail.length
        · have hb := bad (no (by omega))
          refine ⟨0, ?_, z, hb.2⟩
          rw [hb.1, ev94]
          refine bnd hcut (cT rfl (cT rfl (bnd (hd.trans (by rw [hdg])) (cT rfl (cF rfl (cT rfl (cF h48' (cT ?_ rfl))))))))
          show ltI 19 (((bs w.tail).size : Nat) : Int) = true
          rw [bs_size]; exact ltI_t (by omega)
        · have hall : w.tail.all dgB = true := by unfold isDg at hdg; exact (Bool.and_eq_true _ _ ▸ hdg : _ ∧ _).1
          have hlp := l_number lo hi true w.tail (by omega) hall w.tail.length 0 (by omega)
          have hlt := natV_lt w.tail.length w.tail rfl hall
          have hlt2 : natV w.tail < 10 ^ 19 := Nat.lt_of_lt_of_le hlt (Nat.pow_le_pow_right (by decide) (by omega))
          have hsz : ltI 19 (((bs w.tail).size : Nat) : Int) = false := by rw [bs_size]; exact ltI_f (by omega)
          have hlp' : lp 94 0 0 ⟨[(1, (.v (.int .i64 lo))), (2, (.v (.int .i64 hi))), (8, (.v (.string (bs w.tail)))), (9, (.v (.bool true))), (10, (.v (.int .u64 0))), (34, (.v (.int .i64 (((bs w.tail).size : Nat) : Int)))), (35, (.v (.int .i64 0)))], []⟩ = some ⟨some 0, ⟨[(1, .v (.int .i64 lo)), (2, .v (.int .i64 hi)), (9, .v (.bool true)), (10, .v (.int .u64 ((natV w.tail : Nat) : Int)))], []⟩, []⟩ := by rw [bs_size]; exact hlp
          by_cases hbig : natV w.tail ≤ 9223372036854775808
          · have hnum : num w = some (-(natV w.tail : Int)) := by rw [hn, if_pos ⟨hdg, h48, by omega, hbig⟩]
            have ew : IntKind.i64.wrap (0 - IntKind.i64.wrap ((natV w.tail : Nat) : Int)) = -(natV w.tail : Int) := by rw [w_i64, w_i64]; omega
            refine ⟨-(natV w.tail : Int), ?_, by unfold i64ok; omega, fun x e => by rw [hnum] at e; exact Option.some.inj e⟩
            rw [hnum, ev94]
            refine bnd hcut (cT rfl (cT rfl (bnd (hd.trans (by rw [hdg])) (cT rfl (cF rfl (cT rfl (cF h48' (cF hsz (bnd hlp' (cT rfl (cT rfl (cT rfl (cT (leI_t (show ((natV w.tail : Nat) : Int) ≤ 9223372036854775808 by omega)) ?_)))))))))))))
            show cond (leI lo (IntKind.i64.wrap (0 - IntKind.i64.wrap ((natV w.tail : Nat) : Int)))) (some [AV.v (.int .i64 (IntKind.i64.wrap (0 - IntKind.i64.wrap ((natV w.tail : Nat) : Int)))), .v (.bool (leI (IntKind.i64.wrap (0 - IntKind.i64.wrap ((natV w.tail : Nat) : Int))) hi))]) (some [AV.v (.int .i64 (IntKind.i64.wrap (0 - IntKind.i64.wrap ((natV w.tail : Nat) : Int)))), .v (.bool false)]) = _
            rw [ew]
            unfold inR
            simp only
            cases leI lo (-(natV w.tail : Int)) <;> rfl
          · have hb := bad (no (by omega))
            refine ⟨0, ?_, z, hb.2⟩
            rw [hb.1, ev94]
            exact bnd hcut (cT rfl (cT rfl (bnd (hd.trans (by rw [hdg])) (cT rfl (cF rfl (cT rfl (cF h48' (cF hsz (bnd hlp' (cT rfl (cT rfl (cT rfl (cF (leI_f (show (9223372036854775808 : Int) < ((natV w.tail : Nat) : Int) by omega)) (cT rfl rfl))))))))))))))
  · rw [if_neg hp, decide_eq_false hp] at hcut
    have hd := s_isDigits w hl
    have hn : num w = if isDg w ∧ w.length ≤ 19 ∧ natV w ≤ 9223372036854775807 then some (natV w : Int) else none := by unfold num; rw [if_neg hp]
    have no : ¬ (isDg w ∧ w.length ≤ 19 ∧ natV w ≤ 9223372036854775807) → num w = none := fun h => by rw [hn, if_neg h]
    have bad : num w = none → inR lo hi (num w) = false ∧ ∀ x, num w = some x → (0 : Int) = x := fun h => by rw [h]; exact ⟨rfl, fun x e => by cases e⟩
    cases hdg : isDg w with
    | false =>
      have hb := bad (no (by rw [hdg]; simp))
      refine ⟨0, ?_, z, hb.2⟩
      rw [hb.1, ev94]
      exact bnd hcut (cT rfl (cT rfl (bnd (hd.trans (by rw [hdg])) (cT rfl (cT rfl rfl)))))
    | true =>
      by_cases h19 : 19 < w.length
      · have hb := bad (no (by omega))
        refine ⟨0, ?_, z, hb.2⟩
        rw [hb.1, ev94]
        refine bnd hcut (cT rfl (cT rfl (bnd (hd.trans (by rw [hdg])) (cT rfl (cF rfl (cF rfl (cT ?_ rfl)))))))
        show ltI 19 (((bs w).size : Nat) : Int) = true
        rw [bs_size]; exact ltI_t (by omega)
      · have hall : w.all dgB = true := by unfold isDg at hdg; exact (Bool.and_eq_true _ _ ▸ hdg : _ ∧ _).1
        have hlp := l_number lo hi false w (by omega) hall w.length 0 (by omega)
        have hlt := natV_lt w.length w rfl hall
        have hlt2 : natV w < 10 ^ 19 := Nat.lt_of_lt_of_le hlt (Nat.pow_le_pow_right (by decide) (by omega))
        have hsz : ltI 19 (((bs w).size : Nat) : Int) = false := by rw [bs_size]; exact ltI_f (by omega)
        have hlp' : lp 94 0 0 ⟨[(1, (.v (.int .i64 lo))), (2, (.v (.int .i64 hi))), (8, (.v (.string (bs w)))), (9, (.v (.bool false))), (10, (.v (.int .u64 0))), (34, (.v (.int .i64 (((bs w).size : Nat) : Int)))), (35, (.v (.int .i64 0)))], []⟩ = some ⟨some 0, ⟨[(1, .v (.int .i64 lo)), (2, .v (.int .i64 hi)), (9, .v (.bool false)), (10, .v (.int .u64 ((natV w : Nat) : Int)))], []⟩, []⟩ := by rw [bs_size]; exact hlp
        by_cases hbig : natV w ≤ 9223372036854775807
        · have hnum : num w = some (natV w : Int) := by rw [hn, if_pos ⟨hdg, by omega, hbig⟩]
          have ew : IntKind.i64.wrap ((natV w : Nat) : Int) = (natV w : Int) := by rw [w_i64]; omega
          refine ⟨(natV w : Int), ?_, by unfold i64ok; omega, fun x e => by rw [hnum] at e; exact Option.some.inj e⟩
          rw [hnum, ev94]
          refine bnd hcut (cT rfl (cT rfl (bnd (hd.trans (by rw [hdg])) (cT rfl (cF rfl (cF rfl (cF hsz (bnd hlp' (cT rfl (cT rfl (cF rfl (cF rfl (cF (ltI_f (show ((natV w : Nat) : Int) ≤ 9223372036854775807 by omega)) ?_)))))))))))))
          show cond (leI lo (IntKind.i64.wrap ((natV w : Nat) : Int))) (some [AV.v (.int .i64 (IntKind.i64.wrap ((natV w : Nat) : Int))), .v (.bool (leI (IntKind.i64.wrap ((natV w : Nat) : Int)) hi))]) (some [AV.v (.int .i64 (IntKind.i64.wrap ((natV w : Nat) : Int))), .v (.bool false)]) = _
          rw [ew]
          unfold inR
          simp only
          cases leI lo (natV w : Int) <;> rfl
        · have hb := bad (no (by omega))
          refine ⟨0, ?_, z, hb.2⟩
          rw [hb.1, ev94]
          exact bnd hcut (cT rfl (cT rfl (bnd (hd.trans (by rw [hdg])) (cT rfl (cF rfl (cF rfl (cF hsz (bnd hlp' (cT rfl (cT rfl (cF rfl (cF rfl (cT (ltI_t (show (9223372036854775807 : Int) < ((natV w : Nat) : Int) by omega)) rfl)))))))))))))
end Go.Proofs.Ytcinngpelbdopaa
