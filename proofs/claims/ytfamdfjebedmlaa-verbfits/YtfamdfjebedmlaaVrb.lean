/- The verbs that the law makes. -/
import Derived.Test.YtfamdfjebedmlaaFit
set_option linter.all false
namespace Go.Proofs.Ytfamdfjebedmlaa
open Go.Ev
attribute [local congr] bind_first cond_first
def vbr (k nd a n o w : Int) (s : AV) (key bt : Int) : List AV := [.v (.int .i64 k), .v (.int .i64 nd), .v (.int .i64 a), .v (.int .i64 n), .v (.int .u64 o), .v (.int .u64 w), s, .v (.int .u64 key), .v (.int .i64 bt)]
def z0 : List AV := vbr 0 0 0 0 0 0 (.sl true 1 0 none) 0 0
theorem pickR (n m : Int) (h : 0 < m) : 0 ≤ pick n m ∧ pick n m < m := ⟨Int.emod_nonneg n (by omega), Int.emod_lt_of_pos n h⟩
theorem l_verb (x3 x7 k nd a n o w key bt : Int) (c : Nat) (hc : (c : Int) = pick x3 23) : ∀ (j i : Nat) (f : Bool) (b3 : List (List AV)), i + j = c → b3.length ≤ i →
    ∃ (f' : Bool) (b' : List (List AV)), lp 13 0 0 ⟨[(3, .v (.int .i64 x3)), (7, .v (.int .u64 x7)), (16, .ptr 0 0 0), (17, .ptr 2 0 0), (18, .v (.int .i64 (i : Int)))], [⟨1, 29, 9, true, [z0]⟩, ⟨1, 26, 1, false, []⟩, ⟨1, 29, 9, true, [vbr k nd a n o w (.sl f 3 0 none) key bt]⟩, ⟨1, 26, 1, false, b3⟩]⟩ =
      some ⟨some 0, ⟨[(16, .ptr 0 0 0), (17, .ptr 2 0 0)], [⟨1, 29, 9, true, [z0]⟩, ⟨1, 26, 1, false, []⟩, ⟨1, 29, 9, true, [vbr k nd a n o w (.sl f' 3 0 none) key bt]⟩, ⟨1, 26, 1, false, b'⟩]⟩, []⟩
  | 0, i, f, b3, hi, hb => by
    refine ⟨f, b3, ?_⟩
    unfold z0 vbr
    rw [lp13_0, s_Pick x3 23 (by decide) (by decide)]
    simp only [Option.bind_some, cellAt_zero, isI_v, avInt_v, cond_true]
    rw [ltI_f (by omega)]; rfl
  | j + 1, i, f, b3, hi, hb => by
    have hp := pickR x3 23 (by decide)
    have e1 : IntKind.i64.wrap ((i : Int) + 1) = ((i + 1 : Nat) : Int) := by rw [w_i64]; omega
    obtain ⟨f', b', ih⟩ := l_verb x3 x7 k nd a n o w key bt c hc j (i + 1) false (b3 ++ [[.v (.int .u64 (IntKind.u64.wrap (x7 + IntKind.u64.wrap (i : Int))))]]) (by omega) (by simp; omega)
    refine ⟨f', b', ?_⟩
    unfold z0 vbr at *
    rw [lp13_0, s_Pick x3 23 (by decide) (by decide)]
    simp only [Option.bind_some, cellAt_zero, isI_v, avInt_v, cond_true]
    rw [ltI_t (by omega), leN_t (by omega), e1]
    exact ih
theorem s_Verb (a0 a1 a2 a3 a4 a5 a6 a7 : Int) : ∃ v : Vb, ev 13 [.v (.int .i64 a0), .v (.int .i64 a1), .v (.int .i64 a2), .v (.int .i64 a3), .v (.int .i64 a4), .v (.int .i64 a5), .v (.int .u64 a6), .v (.int .u64 a7)] = some [.agg v.row] ∧ v.n ≤ 3000 := by
  have hp := pickR a3 23 (by decide)
  have hp2 := pickR (IntKind.i64.wrap (Int.tdiv a3 7)) 2100 (by decide)
  have hp3 := pickR a3 40 (by decide)
  obtain ⟨c, hc⟩ : ∃ c : Nat, (c : Int) = pick a3 23 := ⟨(pick a3 23).toNat, by omega⟩
  rw [ev13]
  simp only [s_Pick _ 6 (by decide) (by decide), s_Pick _ 7 (by decide) (by decide), s_Pick _ 900 (by decide) (by decide), s_Pick _ 40 (by decide) (by decide), s_Pick _ 4 (by decide) (by decide), s_Pick _ 3 (by decide) (by decide), s_Pick _ 2100 (by decide) (by decide), Option.bind_some, cellAt_zero, isI_v, avInt_v, cond_true]
  cases (pick a3 7 == 6) with
  | true =>
    obtain ⟨f, b, hl⟩ := l_verb a3 a7 (pick a0 6) (IntKind.i64.wrap (pick a1 7 - 1)) (IntKind.i64.wrap (pick a2 900 - 8)) (IntKind.i64.wrap (pick (IntKind.i64.wrap (Int.tdiv a3 7)) 2100 - 20)) a6 a7 (IntKind.u64.wrap (pick a4 4)) (pick a5 3) c hc c 0 true [] (by omega) (by simp)
    refine ⟨⟨pick a0 6, IntKind.i64.wrap (pick a1 7 - 1), IntKind.i64.wrap (pick a2 900 - 8), IntKind.i64.wrap (pick (IntKind.i64.wrap (Int.tdiv a3 7)) 2100 - 20), a6, a7, f, b, IntKind.u64.wrap (pick a4 4), pick a5 3⟩, bnd hl ?_, ?_⟩
    · cases f <;> rfl
    · show IntKind.i64.wrap (pick (IntKind.i64.wrap (Int.tdiv a3 7)) 2100 - 20) ≤ 3000
      rw [w_i64]; omega
  | false =>
    obtain ⟨f, b, hl⟩ := l_verb a3 a7 (pick a0 6) (IntKind.i64.wrap (pick a1 7 - 1)) (IntKind.i64.wrap (pick a2 900 - 8)) (pick a3 40) a6 a7 (IntKind.u64.wrap (pick a4 4)) (pick a5 3) c hc c 0 true [] (by omega) (by simp)
    refine ⟨⟨pick a0 6, IntKind.i64.wrap (pick a1 7 - 1), IntKind.i64.wrap (pick a2 900 - 8), pick a3 40, a6, a7, f, b, IntKind.u64.wrap (pick a4 4), pick a5 3⟩, bnd hl ?_, ?_⟩
    · cases f <;> rfl
    · show pick a3 40 ≤ 3000
      omega
theorem s_count (v : Vb) : ∃ e : Int, ev 14 [.agg v.row] = some [.v (.int .i64 e)] := by
  obtain ⟨kind, node, a, n, old, new, wn, ws, key, boot⟩ := v
  rw [Vb.row, ev14]
  cases (kind == 1)
  · cases (kind == 2) <;> exact ⟨_, rfl⟩
  · exact ⟨_, rfl⟩
def GI (x : Option (List AV)) : Prop := ∃ e : Int, x = some [.v (.int .i64 e)]
theorem GI.cond {c : Bool} {x y : Option (List AV)} (hx : GI x) (hy : GI y) : GI (cond c x y) := by cases c <;> assumption
theorem GI.some (e : Int) : GI (some [.v (.int .i64 e)]) := ⟨e, rfl⟩
theorem s_Valid (v : Vb) (nodes lines : Int) : ∃ e : Int, ev 5 [.agg v.row, .v (.int .i64 nodes), .v (.int .i64 lines)] = some [.v (.int .i64 e)] ∧ (e = 0 → (1 ≤ v.kind ∧ v.kind ≤ 4) ∧ (v.kind = 1 → 1 ≤ v.n)) := by
  obtain ⟨r, hr⟩ := s_count v
  have hg : ∀ x, GI x → (1 ≤ v.kind ∧ v.kind ≤ 4) ∧ (v.kind = 1 → 1 ≤ v.n) → ∃ e : Int, x = some [.v (.int .i64 e)] ∧ (e = 0 → (1 ≤ v.kind ∧ v.kind ≤ 4) ∧ (v.kind = 1 → 1 ≤ v.n)) := fun x ⟨e, he⟩ h => ⟨e, he, fun _ => h⟩
  obtain ⟨kind, node, a, n, old, new, wn, ws, key, boot⟩ := v
  unfold Vb.row at *
  rw [ev5, hr]
  simp only [Option.bind_some, cellAt_zero, isI_v, avInt_v, cond_true] at *
  by_cases h1 : kind < 1
  · rw [ltI_t h1]; exact ⟨1, rfl, fun h => by omega⟩
  rw [ltI_f (show 1 ≤ kind by omega)]
  by_cases h4 : 4 < kind
  · rw [ltI_t h4]; exact ⟨1, rfl, fun h => by omega⟩
  rw [ltI_f (show kind ≤ 4 by omega)]
  by_cases hk : kind = 1
  · subst hk
    by_cases hn : n < 1
    · rw [ltI_t hn]; exact ⟨1, rfl, fun h => by omega⟩
    rw [ltI_f (show 1 ≤ n by omega)]
    refine hg _ ?_ ⟨⟨by omega, by omega⟩, fun _ => by omega⟩
    simp only [cond_false]
    repeat' first | exact GI.some _ | apply GI.cond
  · rw [show (kind == 1) = false from beq_eq_false_iff_ne.2 hk]
    refine hg _ ?_ ⟨⟨by omega, by omega⟩, fun h => absurd h hk⟩
    simp only [cond_false]
    repeat' first | exact GI.some _ | apply GI.cond
end Go.Proofs.Ytfamdfjebedmlaa
