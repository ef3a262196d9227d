/- What is known of the package variable: the nil pointer of package btree. -/
import Derived.Test.YtjbpbidlcegopaaDoorEv10
set_option linter.all false
namespace Go.Proofs.YtjbpbidlcegopaaDoor
open Go.Ev
def NoneAt (μ : Mu) : Prop := ∃ (cur : Array Value) (T : Nat) (fz : Nat × Nat), μ 0 = some (.cells cur T fz) ∧ cur[0]? = some (.int .i64 0) ∧ cur[1]? = some (.int .i64 0)
instance noneGl : Gl where
  ok := NoneAt
  mono := fun h ⟨cur, T, fz, h1, h2, h3⟩ => ⟨cur, T, fz, h _ _ h1, h2, h3⟩
end Go.Proofs.YtjbpbidlcegopaaDoor
