/- The memory node. -/
import Derived.Test.YtnjccbnlmdajkaaEq
import Derived.Test.YtnjccbnlmdajkaaEv10
import Derived.Test.YtnjccbnlmdajkaaEv11
import Derived.Test.YtnjccbnlmdajkaaEv12
set_option linter.all false
namespace Go.Proofs.Ytnjccbnlmdajkaa
open Go.Ev
attribute [local congr] bind_first cond_first
theorem mix : Try.prog.follows .mixedOrders = true := by kernel_rfl
theorem extOk : ExtS Try.prog cfg := by
  refine ⟨fun f bs rs e => ?_, prS_none fun _ => rfl, fun f g e => by cases e⟩
  by_cases h : f = 59
  · subst h
    exact pieceS bs rs e
  · have hf : cfg.ext f = none := by
      show extF f = none
      unfold extF
      split
      · exact absurd rfl h
      · rfl
    simp only [evTop, hf] at e
    cases e
def wr (w : Int) : List AV := [.v (.int .u64 w)]
abbrev ndO (ws : List Int) (dn : Bool) : AV := .ob 69 [.ow false 47 1 (ws.map wr), .v (.bool dn)]
theorem s_New (n : Int) (h : 1 ≤ n ∧ n ≤ 256) : ev 31 [.v (.int .i64 n)] = some [ndO (List.replicate (8 * n.toNat) 0) false, .v (.int .i64 0)] := by
  have e : IntKind.i64.wrap (n * 8) = n * 8 := by rw [w_i64]; omega
  rw [ev31, ltI_f (by omega), ltI_f (by omega), e, leI_t (show 0 ≤ n * 8 by omega), leI_t (Int.le_refl _), leI_t (show n * 8 * 8 ≤ 281474976710656 by omega), leI_t (show n * 8 ≤ 281474976710656 by omega), show (n * 8).toNat = 8 * n.toNat by omega]
  show some [AV.ob _ [AV.ow false _ 1 (List.replicate (8 * n.toNat) (wr 0)), _], _] = _
  rw [← List.map_replicate]
end Go.Proofs.Ytnjccbnlmdajkaa
