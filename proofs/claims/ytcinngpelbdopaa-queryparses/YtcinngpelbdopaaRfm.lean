/- Format, by the reference; the law of formats. -/
import Derived.Test.YtcinngpelbdopaaTxt
import Derived.Test.YtcinngpelbdopaaSp
set_option linter.all false
namespace Go.Proofs.Ytcinngpelbdopaa
open Go.Ev
attribute [local congr] bind_first cond_first
theorem l_VProgram (l : List Stm) (n : Bool) (hl : l.length ≤ 1000000) : ∀ (k i : Nat), i + k = l.length → lp 36 0 0 ⟨[(0, .lst n 12 (l.map Stm.row)), (3, .v (.int .i64 (i : Int)))], []⟩ = some (bif (l.drop i).all Stm.valid then ⟨some 0, ⟨[], []⟩, []⟩ else ⟨none, ⟨[], []⟩, [.v (.bool false)]⟩)
  | 0, i, hi => by
    rw [List.drop_of_length_le (by omega), lp36_0, List.length_map, ltI_f (by omega)]; rfl
  | k + 1, i, hi => by
    have e1 : IntKind.i64.wrap ((i : Int) + 1) = ((i + 1 : Nat) : Int) := by rw [w_i64]; omega
    have ih := l_VProgram l n hl k (i + 1) (by omega)
    obtain ⟨s, hs, hsi, hg⟩ := sRow_get l i (by omega)
    have dr : l.drop i = s :: l.drop (i + 1) := by
      have hi' : i < l.length := by omega
      rw [List.drop_eq_getElem_cons hi']
      have : l[i]? = some l[i] := List.getElem?_eq_getElem hi'
      rw [this] at hsi
      rw [Option.some.inj hsi]
    rw [lp36_0, List.length_map, ltI_t (show (i : Int) < _ by omega), leI_t (show (0 : Int) ≤ (i : Int) by omega), Int.toNat_natCast, hg, dr, List.all_cons]
    refine cT rfl (cT rfl (cT rfl (bnd (s_VStatement s) (cT rfl ?_))))
    cases hv : s.valid with
    | false => rfl
    | true =>
      refine cF rfl ?_
      rw [e1]; exact ih
def okLen (l : List Stm) : Bool := decide (1 ≤ l.length ∧ l.length ≤ 8)
theorem s_VProgram (l : List Stm) (n : Bool) (hl : l.length ≤ 1000000) : ev 36 [.lst n 12 (l.map Stm.row)] = some [.v (.bool (okLen l && l.all Stm.valid))] := by
  rw [ev36, List.length_map]
  unfold okLen
  by_cases h1 : l.length < 1
  · rw [ltI_t (by omega), decide_eq_false (by omega)]; rfl
  rw [ltI_f (by omega), cond_false]
  by_cases h2 : 8 < l.length
  · rw [ltI_t (by omega), decide_eq_false (by omega)]; rfl
  rw [ltI_f (by omega), cond_false, decide_eq_true (by omega)]
  refine bnd (l_VProgram l n hl l.length 0 (by omega)) ?_
  rw [List.drop_zero]
  cases l.all Stm.valid <;> rfl
theorem join_snoc (a : List B) (x : B) (sep : B) (h : a ≠ []) : Go.Lib.join (a ++ [x]) sep = Go.Lib.join a sep ++ sep ++ x := by
  cases a with
  | nil => exact absurd rfl h
  | cons y r =>
    rw [List.cons_append, Go.Lib.join_cons, Go.Lib.join_cons]
    simp [Go.Lib.joinTail]
theorem l_RFormat (l : List Stm) (hV : ∀ s ∈ l, s.V) (hok : ∀ s ∈ l, s.ok) (n : Bool) (hl : l.length ≤ 8) : ∀ (k i : Nat), i + k = l.length → 1 ≤ i →
    lp 12 0 0 ⟨[(0, .lst n 12 (l.map Stm.row)), (4, .v (.string (bs (fmtL (l.take i))))), (5, .v (.int .i64 (i : Int)))], []⟩ = some ⟨some 0, ⟨[(4, .v (.string (bs (fmtL l))))], []⟩, []⟩
  | 0, i, hi, h1 => by
    rw [List.take_of_length_le (by omega), lp12_0, List.length_map, ltI_f (by omega)]; rfl
  | k + 1, i, hi, h1 => by
    have e1 : IntKind.i64.wrap ((i : Int) + 1) = ((i + 1 : Nat) : Int) := by rw [w_i64]; omega
    have ih := l_RFormat l hV hok n hl k (i + 1) (by omega) (by omega)
    obtain ⟨s, hs, hsi, hg⟩ := sRow_get l i (by omega)
    have tk : l.take (i + 1) = l.take i ++ [s] := by rw [List.take_add_one, hsi]; rfl
    have hx := s_text s (hV s hs) (hok s hs)
    have b1 := fmtL_len (l.take i) fun t ht => hok t (List.mem_of_mem_take ht)
    have b2 := stmT_len s (hok s hs)
    have hlt : (l.take i).length ≤ 8 := by rw [List.length_take]; omega
    rw [lp12_0, List.length_map, ltI_t (show (i : Int) < _ by omega), leI_t (show (0 : Int) ≤ (i : Int) by omega), Int.toNat_natCast, hg, bs_size, leN_t (show (fmtL (l.take i)).length + 2 ≤ 9223372036854775807 by omega)]
    refine cT rfl (cT rfl (cT rfl (cT rfl (bnd hx (cT rfl (cT (leN_t ?_) ?_))))))
    · show (bs (fmtL (l.take i)) ++ bs [59, 32]).size + (bs (stmT s)).size ≤ _
      rw [bs_append, bs_size, bs_size, List.length_append]
      show (fmtL (l.take i)).length + 2 + (stmT s).length ≤ 9223372036854775807
      omega
    · have e2 : (bs (fmtL (l.take i)) ++ bs [59, 32]) ++ bs (stmT s) = bs (fmtL (l.take (i + 1))) := by
        rw [bs_append, bs_append, tk]
        unfold fmtL
        rw [List.map_append, List.map_cons, List.map_nil, join_snoc _ _ _ (by
          intro h
          have := congrArg List.length h
          rw [List.length_map, List.length_take, List.length_nil] at this
          omega)]
      show lp 12 0 0 ⟨[(0, .lst n 12 (l.map Stm.row)), (4, .v (.string ((bs (fmtL (l.take i)) ++ bs [59, 32]) ++ bs (stmT s)))), (5, .v (.int .i64 (IntKind.i64.wrap ((i : Int) + 1))))], []⟩ = _
      rw [e2, e1]; exact ih
theorem s_RFormat (l : List Stm) (n : Bool) (hok : ∀ s ∈ l, s.ok) (hl : l.length ≤ 1000000) : ev 12 [.lst n 12 (l.map Stm.row)] = some (bif okLen l then fmtR l else [.v (.string (bs [])), .v (.int .i64 1)]) := by
  refine (ev12 _ _).trans ?_
  refine bnd (s_VProgram l n hl) (cT rfl ?_)
  unfold fmtR
  cases h1 : okLen l with
  | false => rfl
  | true =>
    have h1 := of_decide_eq_true h1
    cases h2 : l.all Stm.valid with
    | false => rfl
    | true =>
      have hV : ∀ s ∈ l, s.V := fun s hs => of_decide_eq_true (List.all_eq_true.1 h2 s hs)
      obtain ⟨s, hs, hsi, hg⟩ := sRow_get l 0 (by omega)
      rw [List.length_map, hg]
      refine cF rfl (cT (by show (true && ltI 0 ((l.length : Nat) : Int)) = true; rw [ltI_t (by omega)]; rfl) (cT rfl ?_))
      refine bnd (s_text s (hV s hs) (hok s hs)) (cT rfl ?_)
      have key := l_RFormat l hV hok n h1.2 (l.length - 1) 1 (by omega) (by omega)
      have tk : l.take 1 = [s] := by rw [List.take_add_one, hsi]; rfl
      have e : fmtL (l.take 1) = stmT s := by rw [tk]; unfold fmtL; rw [List.map_cons, List.map_nil, Go.Lib.join_one]
      rw [e] at key
      exact bnd key (cT rfl (cT rfl rfl))
theorem rows_V (l : List Stm) : List.all (l.map Stm.row) rowV = true := by
  rw [List.all_eq_true]
  intro x hx
  obtain ⟨s, _, rfl⟩ := List.mem_map.1 hx
  rfl
theorem l_owns (l : List Stm) (n : Bool) (hl : l.length ≤ 1000000) : ∀ (k i : Nat) (nl : Bool), i + k = l.length →
    lp 13 0 0 ⟨[(0, .lst n 12 (l.map Stm.row)), (3, .sl nl 0 0 none), (4, .v (.int .i64 (i : Int)))], [⟨1, 45, 12, false, (l.take i).map Stm.row⟩]⟩ = some ⟨some 0, ⟨[(3, .sl (bif Nat.beq k 0 then nl else false) 0 0 none)], [⟨1, 45, 12, false, l.map Stm.row⟩]⟩, []⟩
  | 0, i, nl, hi => by
    rw [List.take_of_length_le (by omega), lp13_0, List.length_map, ltI_f (by omega)]; rfl
  | k + 1, i, nl, hi => by
    have e1 : IntKind.i64.wrap ((i : Int) + 1) = ((i + 1 : Nat) : Int) := by rw [w_i64]; omega
    have ih := l_owns l n hl k (i + 1) false (by omega)
    obtain ⟨s, hs, hsi, hg⟩ := sRow_get l i (by omega)
    have tk : l.take (i + 1) = l.take i ++ [s] := by rw [List.take_add_one, hsi]; rfl
    rw [lp13_0, List.length_map, ltI_t (show (i : Int) < _ by omega), leI_t (show (0 : Int) ≤ (i : Int) by omega), Int.toNat_natCast, hg]
    refine cT rfl (cT rfl (cT rfl (bnd (s_own s) (cT (shS s) (cT (leN_t ?_) ?_)))))
    · rw [List.length_map, List.length_take]; omega
    · rw [tk, List.map_append] at ih
      show lp 13 0 0 ⟨[(0, .lst n 12 (l.map Stm.row)), (3, .sl false 0 0 none), (4, .v (.int .i64 (IntKind.i64.wrap ((i : Int) + 1))))], [⟨1, 45, 12, false, (l.take i).map Stm.row ++ [s.row]⟩]⟩ = _
      rw [e1]
      refine ih.trans ?_
      cases k <;> rfl
theorem s_owns (l : List Stm) (n : Bool) (hl : l.length ≤ 1000000) : ev 13 [.lst n 12 (l.map Stm.row)] = some [.ow l.isEmpty 45 12 (l.map Stm.row)] := by
  refine (ev13 _ _).trans ?_
  refine bnd (l_owns l n hl l.length 0 true (by omega)) ?_
  cases l <;> rfl
theorem rRow_get (l : List Raw) (i : Nat) (h : i < l.length) : ∃ s, s ∈ l ∧ l[i]? = some s ∧ lget (l.map Raw.row) i = s.row := by
  refine ⟨l[i], List.getElem_mem h, by simp [h], ?_⟩
  unfold lget; simp [h]
set_option maxRecDepth 100000
theorem raws {N : Nat} {n : Nat} {x : List (List AV)} (h : ∀ y ∈ x, TypC Try.prog N (n + 2) 52 y) : ∃ l : List Raw, x = l.map Raw.row ∧ ∀ r ∈ l, r.ok :=
  rows_of Raw.row Raw.ok x fun y hy => by
    obtain ⟨x0, x1, x2, x3, x4, x5, x6, x7, x8, x9, rfl, f0, f1, f2, f3, f4, f5, f6, f7, f8, f9⟩ := openC52 (h y hy)
    exact ⟨⟨x0, x1, x2, x3, x4, x5, x6, x7, x8, x9⟩, rfl, f0, f1, f2, f3, f4, f5, f6, f7, f8, f9⟩
end Go.Proofs.Ytcinngpelbdopaa
