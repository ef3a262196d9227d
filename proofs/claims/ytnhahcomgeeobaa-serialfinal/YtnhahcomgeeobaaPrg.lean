/- Results converted, programs made of raw numbers. -/
import Derived.Test.YtnhahcomgeeobaaHlp
set_option linter.all false
namespace Go.Proofs.Ytnhahcomgeeobaa
open Go.Ev
structure Raw where
  x0 : Int
  x1 : Int
  x2 : Int
  x3 : Int
  x4 : Int
  x5 : Int
  x6 : Int
def Raw.row (r : Raw) : List AV := [.v (.int .i64 r.x0), .v (.int .i64 r.x1), .v (.int .i64 r.x2), .v (.int .i64 r.x3), .v (.int .i64 r.x4), .v (.int .i64 r.x5), .v (.int .i64 r.x6)]
def OfQ (e : Option (List AV)) : Prop := ∃ s : Stm, s.ok ∧ e = some [.agg s.row]
theorem qB {α : Type} {x : Option α} {a : α} {f : α → Option (List AV)} (h : x = some a) (h2 : OfQ (f a)) : OfQ (x.bind f) := by rw [h]; exact h2
theorem qT {b : Bool} {A B : Option (List AV)} (h : b = true) (h2 : OfQ A) : OfQ (cond b A B) := by rw [h]; exact h2
theorem qC {b : Bool} {A B : Option (List AV)} (h1 : OfQ A) (h2 : OfQ B) : OfQ (cond b A B) := by cases b; exact h2; exact h1
theorem qL {a b c d e f g h i j k l : Int} (hok : (⟨a, b, c, d, e, f, g, h, i, j, k, l⟩ : Stm).ok) : OfQ (some [.agg [.v (.int .i64 a), .v (.int .u32 b), .v (.int .u32 c), .v (.int .i64 d), .v (.int .i64 e), .v (.int .i64 f), .v (.int .i64 g), .v (.int .i64 h), .v (.int .i64 i), .v (.int .i64 j), .v (.int .i64 k), .v (.int .i64 l)]]) := ⟨_, hok, rfl⟩
theorem ok_w (x : Int) : i64ok (IntKind.i64.wrap x) := by unfold i64ok; rw [w_i64]; omega
theorem ok_u (x : Int) : 0 ≤ IntKind.u32.wrap x ∧ IntKind.u32.wrap x ≤ 4294967295 := by rw [w_u32]; omega
theorem ok_u0 : 0 ≤ (0 : Int) ∧ (0 : Int) ≤ 4294967295 := by decide
theorem ok_p (a m : Int) (h : 0 < m) (h2 : m ≤ 1000) : i64ok (pick a m) := by have := pick_rng a m h; unfold i64ok; omega
theorem ok_0 : i64ok 0 := by unfold i64ok; decide
theorem ok_65 : i64ok 65 := by unfold i64ok; decide
set_option maxHeartbeats 0 in
theorem s_of (r : Raw) : OfQ (ev 44 [.agg r.row]) := by
  unfold Raw.row
  rw [ev44]
  repeat' (first
    | refine qB (s_Pick _ _ (by decide) (by decide)) ?_
    | refine qT rfl ?_
    | refine qC ?_ ?_
    | refine qL ⟨?_, ?_, ?_, ?_, ?_, ?_, ?_, ?_, ?_, ?_, ?_, ?_⟩
    | exact ok_w _
    | exact ok_u _
    | exact ok_u0
    | exact ok_p _ _ (by decide) (by decide)
    | exact ok_0
    | exact ok_65)
end Go.Proofs.Ytnhahcomgeeobaa
