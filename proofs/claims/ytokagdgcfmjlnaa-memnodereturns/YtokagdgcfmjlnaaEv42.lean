/- Pages, and lists of them. -/
import Derived.Test.YtokagdgcfmjlnaaEv41
set_option linter.all false
namespace Go.Ev
open Go

/-- A page: its line, its header, its seven words. -/
structure Pg where
  l : Int
  h : Int
  d0 : Int
  d1 : Int
  d2 : Int
  d3 : Int
  d4 : Int
  d5 : Int
  d6 : Int
abbrev pgl (l h d0 d1 d2 d3 d4 d5 d6 : Int) : List AV := [.v (.int .i64 l), .v (.int .u64 h), .v (.int .u64 d0), .v (.int .u64 d1), .v (.int .u64 d2), .v (.int .u64 d3), .v (.int .u64 d4), .v (.int .u64 d5), .v (.int .u64 d6)]
def Pg.row (p : Pg) : List AV := pgl p.l p.h p.d0 p.d1 p.d2 p.d3 p.d4 p.d5 p.d6
theorem Pg.row_eq (p : Pg) : p.row = pgl p.l p.h p.d0 p.d1 p.d2 p.d3 p.d4 p.d5 p.d6 := rfl
def pz : Pg := ⟨0, 0, 0, 0, 0, 0, 0, 0, 0⟩
def u64ok (x : Int) : Prop := 0 ≤ x ∧ x ≤ 18446744073709551615
def i64ok (x : Int) : Prop := -9223372036854775808 ≤ x ∧ x ≤ 9223372036854775807
def Pg.ok (p : Pg) : Prop := i64ok p.l ∧ u64ok p.h ∧ u64ok p.d0 ∧ u64ok p.d1 ∧ u64ok p.d2 ∧ u64ok p.d3 ∧ u64ok p.d4 ∧ u64ok p.d5 ∧ u64ok p.d6
theorem rows_of {α : Type} (f : α → List AV) (Q : α → Prop) : ∀ (xs : List (List AV)), (∀ y ∈ xs, ∃ p, y = f p ∧ Q p) → ∃ ps : List α, xs = ps.map f ∧ ∀ p ∈ ps, Q p
  | [], _ => ⟨[], rfl, fun _ h => by cases h⟩
  | y :: r, h => by
    obtain ⟨p, rfl, hp⟩ := h y (List.mem_cons_self ..)
    obtain ⟨ps, rfl, hps⟩ := rows_of f Q r fun z hz => h z (List.mem_cons_of_mem _ hz)
    exact ⟨p :: ps, rfl, fun q hq => by
      rcases List.mem_cons.1 hq with hq | hq
      · subst hq; exact hp
      · exact hps q hq⟩
theorem lget_map {α : Type} (f : α → List AV) (ps : List α) (i : Nat) (h : i < ps.length) : lget (ps.map f) i = f ps[i] := by
  unfold lget
  simp [h]
theorem lget_mapD {α : Type} (f : α → List AV) (ps : List α) (d : α) (i : Nat) (h : i < ps.length) : lget (ps.map f) i = f (ps.getD i d) := by
  rw [lget_map f ps i h]; simp [h]
theorem mem_getD {α : Type} (ps : List α) (d : α) (i : Nat) (h : i < ps.length) : ps.getD i d ∈ ps := by simp [h]
end Go.Ev
