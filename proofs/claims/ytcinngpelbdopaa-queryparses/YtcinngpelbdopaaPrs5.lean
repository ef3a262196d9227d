/- A statement, read whole. -/
import Derived.Test.YtcinngpelbdopaaPrs4
set_option linter.all false
namespace Go.Proofs.Ytcinngpelbdopaa
open Go.Ev
attribute [local congr] bind_first cond_first
def kRow (k : Nat) : List AV := [.v (.string (bs (nameW.getD k []))), .lst (Nat.beq k 0) 1 ((parts (k : Int)).map iRow)]
def kinds10 : List (List AV) := (List.range 10).map kRow
theorem s_kinds : ev 33 [] = some [.ow false 85 2 kinds10] := ev33
theorem kinds_get (i : Nat) (h : i < 10) : lget kinds10 i = kRow i := by
  rcases (by omega : i = 0 ∨ i = 1 ∨ i = 2 ∨ i = 3 ∨ i = 4 ∨ i = 5 ∨ i = 6 ∨ i = 7 ∨ i = 8 ∨ i = 9) with h | h | h | h | h | h | h | h | h | h <;> subst h <;> rfl
theorem adv_err {α β : Type} {f : Rd α} {g : α → Rd β} {p : Nat × Int} (h : (adv f p).2 ≠ 0) : adv (bindR f g) p = adv f p := by
  unfold adv at h ⊢
  by_cases h0 : p.2 = 0
  · rw [if_pos h0] at h
    rw [if_pos h0, if_pos h0]
    unfold bindR
    cases hf : f p.1 with
    | ok am => rw [hf] at h; exact absurd rfl h
    | error k => rfl
  · rw [if_neg h0, if_neg h0]
theorem vok_err {α β : Type} {f : Rd α} {g : α → Rd β} {p : Nat × Int} {b : β} (h : (adv f p).2 ≠ 0) : vok (bindR f g) p b := fun h0 b' m hb => by
  unfold adv at h
  rw [if_pos h0] at h
  unfold bindR at hb
  cases hf : f p.1 with
  | ok am => rw [hf] at h; exact absurd rfl h
  | error k => rw [hf] at hb; cases hb
def s40 (l : B) (p : Nat × Int) (n : Bool) (i : Nat) : St := ⟨[(0, .ptr 0 0 0), (2, .ptr 1 0 0), (3, .sl n 2 0 none), (1000000, .ptr 0 0 0)], [⟨1, 95, 3, true, [pRow l p.1 p.2]⟩, ⟨1, 49, 12, true, [(stm0 0).row]⟩, ⟨1, 9, 1, false, (nameW.take i).map sRow⟩]⟩
theorem l_names (l : B) (p : Nat × Int) : ∀ (k i : Nat) (n : Bool), i + k = 10 →
    lp 40 0 1 ⟨[(0, .ptr 0 0 0), (2, .ptr 1 0 0), (3, .sl n 2 0 none), (9, .sl false 3 0 none), (10, .v (.int .i64 10)), (11, .v (.int .i64 (i : Int))), (1000000, .ptr 0 0 0)], [⟨1, 95, 3, true, [pRow l p.1 p.2]⟩, ⟨1, 49, 12, true, [(stm0 0).row]⟩, ⟨1, 9, 1, false, (nameW.take i).map sRow⟩, ⟨1, 85, 2, false, kinds10⟩]⟩ =
      some ⟨some 0, s40 l p (bif Nat.beq k 0 then n else false) 10, []⟩
  | 0, i, n, h => by
    obtain rfl : i = 10 := by omega
    exact lp40_0 ..
  | k + 1, i, n, h => by
    have e1 : IntKind.i64.wrap ((i : Int) + 1) = ((i + 1 : Nat) : Int) := by rw [w_i64]; omega
    have ih := l_names l p k (i + 1) false (by omega)
    refine (lp40_0 _ _ _ _ _ _ _ _ _ _ _ _ _ _ _ _ _ _ _ _ _).trans ?_
    refine cT (ltI_t (by omega)) (cT ?_ (cT ?_ (cT (leN_t ?_) ?_)))
    · rw [leI_t (by omega)]
      show (true && ltI (i : Int) 10) = true
      rw [ltI_t (by omega)]; rfl
    · rw [Int.toNat_natCast, Nat.zero_add, kinds_get i (by omega)]
      show (ltN i 10 && (true && true)) = true
      rw [ltN_t (by omega)]; rfl
    · rw [List.length_map, List.length_take]
      show (min i 10 + 1) * 16 ≤ _
      omega
    · rw [Int.toNat_natCast, Nat.zero_add, kinds_get i (by omega), e1]
      have tk : (nameW.take (i + 1)).map sRow = (nameW.take i).map sRow ++ [sRow (nameW.getD i [])] := by
        have hi : i < nameW.length := by show i < 10; omega
        rw [List.take_add_one, List.map_append]
        simp [hi]
      rw [tk] at ih
      refine ih.trans ?_
      cases k <;> rfl
section
variable {l : B} (hl : l.length ≤ 1000000) (ha : okTxt l)
include hl ha
theorem l_parts (n : Bool) (ps : List Int) (hps : ps.length ≤ 1000) : ∀ (k i : Nat) (t : Stm) (p : Nat × Int), i + k = ps.length → inv l p → t.ok →
    ∃ u : Stm, lp 40 1 1 ⟨[(0, .ptr 0 0 0), (2, .ptr 1 0 0), (6, .ptr 2 0 0), (36, .lst n 1 (ps.map iRow)), (37, .v (.int .i64 (((ps.map iRow).length : Nat) : Int))), (38, .v (.int .i64 (i : Int))), (1000000, .ptr 0 0 0)], [⟨1, 95, 3, true, [pRow l p.1 p.2]⟩, ⟨1, 49, 12, true, [(stm0 0).row]⟩, ⟨1, 49, 12, true, [t.row]⟩]⟩ =
      some ⟨some 2, ⟨[(2, .ptr 0 0 0), (6, .ptr 1 0 0), (1000000, .ptr 2 0 0)], [⟨1, 49, 12, true, [(stm0 0).row]⟩, ⟨1, 49, 12, true, [u.row]⟩, ⟨1, 95, 3, true, [pRow l (adv (rdParts l (ps.drop i) t) p).1 (adv (rdParts l (ps.drop i) t) p).2]⟩]⟩, []⟩ ∧ u.ok ∧ vok (rdParts l (ps.drop i) t) p u
  | 0, i, t, p, h, hp, ht => by
    rw [List.drop_of_length_le (by omega)]
    refine ⟨t, ?_, ht, vok_pure _ _⟩
    refine (lp40_1 _ _ _ _ _ _ _ _ _ _ _ _ _ _ _ _ _ _ _ _ _ _ _ _ _ _ _ _ _ _ _).trans ?_
    refine cF (ltI_f (by rw [List.length_map]; omega)) ?_
    rw [show adv (rdParts l [] t) p = p from adv_pure _ _]; rfl
  | k + 1, i, t, p, h, hp, ht => by
    have e1 : IntKind.i64.wrap ((i : Int) + 1) = ((i + 1 : Nat) : Int) := by rw [w_i64]; omega
    obtain ⟨s, h1, hs, v1⟩ := s_read hl ha t ht (ps.getD i 0) p hp
    obtain ⟨u, h2, hu, v2⟩ := l_parts n ps hps k (i + 1) s (adv (rdPart (ps.getD i 0) t l) p) (by omega) (good_inv (good_Part _ _ l) hp) hs
    rw [drop_getD ps i (by omega)]
    have e : adv (rdParts l (ps.getD i 0 :: ps.drop (i + 1)) t) p = adv (rdParts l (ps.drop (i + 1)) s) (adv (rdPart (ps.getD i 0) t l) p) := (adv_seq v1).symm
    refine ⟨u, ?_, hu, vok_seq v1 v2⟩
    rw [e]
    refine (lp40_1 _ _ _ _ _ _ _ _ _ _ _ _ _ _ _ _ _ _ _ _ _ _ _ _ _ _ _ _ _ _ _).trans ?_
    refine cT (ltI_t (by rw [List.length_map]; omega)) (cT (by rw [leI_t (by omega), List.length_map, ltI_t (by omega)]; rfl) ?_)
    rw [Int.toNat_natCast, iRow_get ps i (by omega), e1]
    exact cT rfl (bnd h1 (cT rfl (cT rfl h2)))
theorem s_statement (p : Nat × Int) (hp : inv l p) : ∃ t : Stm, ev 40 [pP l p] = some [.agg t.row, pP l (adv (rdStm l) p)] ∧ t.ok ∧ vok (rdStm l) p t := by
  obtain ⟨i, h1, hi, v1⟩ := s_choice hl ha nameW false (by decide) p hp
  have hi10 : i < 10 := by
    rcases hi.2 with h | h
    · exact h
    · omega
  have i1 := good_inv (good_W nameW l) hp
  have hok : (stm0 i).ok := by
    unfold stm0 Stm.ok i64ok
    simp only
    omega
  by_cases hc : (adv (rdW nameW l) p).2 = 0
  · obtain ⟨j, rfl⟩ : ∃ j : Nat, i = (j : Int) := ⟨i.toNat, by omega⟩
    have hpl : (parts (j : Int)).length ≤ 1000 := by
      unfold parts
      repeat' split
      all_goals decide
    obtain ⟨u, h2, hu, v2⟩ := l_parts hl ha (Nat.beq j 0) (parts (j : Int)) hpl (parts (j : Int)).length 0 (stm0 j) (adv (rdW nameW l) p) (by omega) i1 hok
    rw [List.drop_zero] at h2 v2
    refine ⟨u, ?_, hu, vok_seq v1 v2⟩
    rw [show adv (rdStm l) p = _ from (adv_seq v1).symm]
    refine (ev40 _ _ _).trans ?_
    refine bnd s_kinds (cT rfl (bnd (l_names l p 10 0 true (by omega)) (cT rfl (cT rfl (bnd h1 (cT rfl (cT rfl (cF ?_ (bnd s_kinds (cT rfl (cT ?_ (cT ?_ ?_))))))))))))
    · show (!((adv (rdW nameW l) p).2 == 0)) = false
      rw [hc]; rfl
    · show (leI 0 (j : Int) && ltI (j : Int) 10) = true
      rw [leI_t (by omega), ltI_t (by omega)]; rfl
    · show (ltN (0 + Int.toNat (j : Int)) 10 && isL 1 (cellAt (lget kinds10 (0 + Int.toNat (j : Int))) 1)) = true
      rw [Int.toNat_natCast, Nat.zero_add, kinds_get j (by omega), ltN_t (by omega)]; rfl
    · have hg : lget kinds10 (0 + Int.toNat (avInt (cellAt [AV.v (.int .i64 (j : Int)), pP l (adv (rdW nameW l) p)] 0))) = kRow j := by
        show lget kinds10 (0 + Int.toNat (j : Int)) = kRow j
        rw [Int.toNat_natCast, Nat.zero_add, kinds_get j (by omega)]
      show (lp 40 1 1 ⟨[(0, .ptr 0 0 0), (2, .ptr 1 0 0), (6, .ptr 2 0 0), (36, .lst (avNil (cellAt (lget kinds10 (0 + Int.toNat (avInt (cellAt [AV.v (.int .i64 (j : Int)), pP l (adv (rdW nameW l) p)] 0)))) 1)) 1 (avXs (cellAt (lget kinds10 (0 + Int.toNat (avInt (cellAt [AV.v (.int .i64 (j : Int)), pP l (adv (rdW nameW l) p)] 0)))) 1))), (37, .v (.int .i64 (((avXs (cellAt (lget kinds10 (0 + Int.toNat (avInt (cellAt [AV.v (.int .i64 (j : Int)), pP l (adv (rdW nameW l) p)] 0)))) 1)).length : Nat) : Int))), (38, .v (.int .i64 0)), (1000000, .ptr 0 0 0)], [⟨1, 95, 3, true, [pRow l (adv (rdW nameW l) p).1 (adv (rdW nameW l) p).2]⟩, ⟨1, 49, 12, true, [(stm0 0).row]⟩, ⟨1, 49, 12, true, [(stm0 (j : Int)).row]⟩]⟩).bind _ = _
      rw [hg]
      exact bnd h2 (cT rfl (cT rfl rfl))
  · refine ⟨stm0 i, ?_, hok, vok_err hc⟩
    rw [show adv (rdStm l) p = _ from adv_err hc]
    refine (ev40 _ _ _).trans ?_
    refine bnd s_kinds (cT rfl (bnd (l_names l p 10 0 true (by omega)) (cT rfl (cT rfl (bnd h1 (cT rfl (cT rfl (cT ?_ rfl))))))))
    show (!((adv (rdW nameW l) p).2 == 0)) = true
    rw [eqB_f hc]; rfl
end
end Go.Proofs.Ytcinngpelbdopaa
