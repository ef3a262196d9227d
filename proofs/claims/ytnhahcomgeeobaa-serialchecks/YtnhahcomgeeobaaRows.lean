/-
  No cell of these rows narrows 'for every input' (looked for: loops, veiled, ifaces, maps, wideKeys, modest, calm, conditions, laid).
  DERIVED. THE GIVEN ROWS OF THIS SEAT. 7 by the template 'for every input the law returns true; each argument reads behind the call as it read before'; 0 by the template 'total and deterministic' (their statements: YtnhahcomgeeobaaTotals.lean).
  GIVEN WITH THE SEED: the statements are not yours to turn. If you find one false, say at which input.
  Laid BY PROGRAM, IN A SANDBOX (cutbox-rows.mjs): the forced cells as the released guide's own fill.sh prints them over the translation 1f0dc027c235760b… (all of the seat's roots in one cut). By AI agents, Wed Nov 11 2026. No macro, syntax, notation, axiom, sorry.
-/
import Derived.Test.YtnhahcomgeeobaaChecked
import GoSem.Claim
import GoSem.ClaimJoined
import GoSem.ClaimMapViews
import Derived.JoinedTies
import Derived.KernelRfl
namespace Go.Proofs.Ytnhahcomgeeobaa
/- THE CELL 'sum', in the pinned program and in every row, IS THE sha256 OF THE DUMP (.gsa) THAT YtnhahcomgeeobaaProg.lean LOADS. Nothing in Lean hashes anything: it is a label: what it is worth is what the hold of that sum in a sandbox is worth. -/
noncomputable def Try.pinned : Pinned := { name := "ytnhahcomgeeobaa", sum := "1f0dc027c235760bc74817c7bc229dc8856c3fc3812b2f85de56b41891d53108", checked := Try.checked }
namespace Rows
def none {H : Type} : Left H := { results := [], args := [] }

/-- 'bodegalaw34.SerialChecks': WHATEVER THE INPUT: true; the input reads as it did. -/
def serialChecksSpec : ChangeSpec := { name := "serialChecks", fn := fun _ => fun
  | [d1, d2, d3, d4, d5] => { results := [.lit (.bool true)], args := [d1, d2, d3, d4, d5] }
  | _ => none }
def serialChecksRow : OpenClaim := { program := "ytnhahcomgeeobaa", sum := "1f0dc027c235760bc74817c7bc229dc8856c3fc3812b2f85de56b41891d53108", func := "bodega/bodegalaw34.SerialChecks", spec := "serialChecks", inPlace := ["internal/abi.NoEscape", "internal/bytealg.MakeNoZero", "slices.overlaps[bodega/record.Row]", "math/bits.Add64"], unfollowed := true, recurses := true, apart := false }
def SerialChecksSaid : Prop := serialChecksRow.holds Try.pinned (OpenSpec.ofChange serialChecksSpec)

/-- ITS FALSE NEIGHBOUR: 'it returns false'. Refute it at one input. -/
def serialChecksWrong : ChangeSpec := { name := "serialChecks", fn := fun _ => fun
  | [d1, d2, d3, d4, d5] => { results := [.lit (.bool false)], args := [d1, d2, d3, d4, d5] }
  | _ => none }
def SerialChecksWrongFalsely : Prop := serialChecksRow.holds Try.pinned (OpenSpec.ofChange serialChecksWrong)

/-- 'bodegalaw34.SerialFinds': WHATEVER THE INPUT: true; the input reads as it did. -/
def serialFindsSpec : ChangeSpec := { name := "serialFinds", fn := fun _ => fun
  | [d1, d2] => { results := [.lit (.bool true)], args := [d1, d2] }
  | _ => none }
def serialFindsRow : OpenClaim := { program := "ytnhahcomgeeobaa", sum := "1f0dc027c235760bc74817c7bc229dc8856c3fc3812b2f85de56b41891d53108", func := "bodega/bodegalaw34.SerialFinds", spec := "serialFinds", inPlace := ["internal/abi.NoEscape", "internal/bytealg.MakeNoZero", "slices.overlaps[bodega/record.Row]", "math/bits.Add64"], unfollowed := true, recurses := true, apart := false }
def SerialFindsSaid : Prop := serialFindsRow.holds Try.pinned (OpenSpec.ofChange serialFindsSpec)

/-- ITS FALSE NEIGHBOUR: 'it returns false'. Refute it at one input. -/
def serialFindsWrong : ChangeSpec := { name := "serialFinds", fn := fun _ => fun
  | [d1, d2] => { results := [.lit (.bool false)], args := [d1, d2] }
  | _ => none }
def SerialFindsWrongFalsely : Prop := serialFindsRow.holds Try.pinned (OpenSpec.ofChange serialFindsWrong)

/-- 'bodegalaw34.SerialStrict': WHATEVER THE INPUT: true; the input reads as it did. -/
def serialStrictSpec : ChangeSpec := { name := "serialStrict", fn := fun _ => fun
  | [d1, d2, d3] => { results := [.lit (.bool true)], args := [d1, d2, d3] }
  | _ => none }
def serialStrictRow : OpenClaim := { program := "ytnhahcomgeeobaa", sum := "1f0dc027c235760bc74817c7bc229dc8856c3fc3812b2f85de56b41891d53108", func := "bodega/bodegalaw34.SerialStrict", spec := "serialStrict", inPlace := ["internal/abi.NoEscape", "internal/bytealg.MakeNoZero", "slices.overlaps[bodega/record.Row]", "math/bits.Add64"], unfollowed := true, recurses := true, apart := false }
def SerialStrictSaid : Prop := serialStrictRow.holds Try.pinned (OpenSpec.ofChange serialStrictSpec)

/-- ITS FALSE NEIGHBOUR: 'it returns false'. Refute it at one input. -/
def serialStrictWrong : ChangeSpec := { name := "serialStrict", fn := fun _ => fun
  | [d1, d2, d3] => { results := [.lit (.bool false)], args := [d1, d2, d3] }
  | _ => none }
def SerialStrictWrongFalsely : Prop := serialStrictRow.holds Try.pinned (OpenSpec.ofChange serialStrictWrong)

/-- 'bodegalaw34.SerialOpen': WHATEVER THE INPUT: true; the input reads as it did. -/
def serialOpenSpec : ChangeSpec := { name := "serialOpen", fn := fun _ => fun
  | [d1, d2, d3, d4] => { results := [.lit (.bool true)], args := [d1, d2, d3, d4] }
  | _ => none }
def serialOpenRow : OpenClaim := { program := "ytnhahcomgeeobaa", sum := "1f0dc027c235760bc74817c7bc229dc8856c3fc3812b2f85de56b41891d53108", func := "bodega/bodegalaw34.SerialOpen", spec := "serialOpen", inPlace := ["internal/abi.NoEscape", "internal/bytealg.MakeNoZero", "slices.overlaps[bodega/record.Row]", "math/bits.Add64"], unfollowed := true, recurses := true, apart := false }
def SerialOpenSaid : Prop := serialOpenRow.holds Try.pinned (OpenSpec.ofChange serialOpenSpec)

/-- ITS FALSE NEIGHBOUR: 'it returns false'. Refute it at one input. -/
def serialOpenWrong : ChangeSpec := { name := "serialOpen", fn := fun _ => fun
  | [d1, d2, d3, d4] => { results := [.lit (.bool false)], args := [d1, d2, d3, d4] }
  | _ => none }
def SerialOpenWrongFalsely : Prop := serialOpenRow.holds Try.pinned (OpenSpec.ofChange serialOpenWrong)

/-- 'bodegalaw34.SerialApplies': WHATEVER THE INPUT: true; the input reads as it did. -/
def serialAppliesSpec : ChangeSpec := { name := "serialApplies", fn := fun _ => fun
  | [d1, d2, d3] => { results := [.lit (.bool true)], args := [d1, d2, d3] }
  | _ => none }
def serialAppliesRow : OpenClaim := { program := "ytnhahcomgeeobaa", sum := "1f0dc027c235760bc74817c7bc229dc8856c3fc3812b2f85de56b41891d53108", func := "bodega/bodegalaw34.SerialApplies", spec := "serialApplies", inPlace := ["internal/abi.NoEscape", "internal/bytealg.MakeNoZero", "slices.overlaps[bodega/record.Row]", "math/bits.Add64"], unfollowed := true, recurses := true, apart := false }
def SerialAppliesSaid : Prop := serialAppliesRow.holds Try.pinned (OpenSpec.ofChange serialAppliesSpec)

/-- ITS FALSE NEIGHBOUR: 'it returns false'. Refute it at one input. -/
def serialAppliesWrong : ChangeSpec := { name := "serialApplies", fn := fun _ => fun
  | [d1, d2, d3] => { results := [.lit (.bool false)], args := [d1, d2, d3] }
  | _ => none }
def SerialAppliesWrongFalsely : Prop := serialAppliesRow.holds Try.pinned (OpenSpec.ofChange serialAppliesWrong)

/-- 'bodegalaw34.SerialAtomic': WHATEVER THE INPUT: true; the input reads as it did. -/
def serialAtomicSpec : ChangeSpec := { name := "serialAtomic", fn := fun _ => fun
  | [d1, d2, d3] => { results := [.lit (.bool true)], args := [d1, d2, d3] }
  | _ => none }
def serialAtomicRow : OpenClaim := { program := "ytnhahcomgeeobaa", sum := "1f0dc027c235760bc74817c7bc229dc8856c3fc3812b2f85de56b41891d53108", func := "bodega/bodegalaw34.SerialAtomic", spec := "serialAtomic", inPlace := ["internal/abi.NoEscape", "internal/bytealg.MakeNoZero", "slices.overlaps[bodega/record.Row]", "math/bits.Add64"], unfollowed := true, recurses := true, apart := false }
def SerialAtomicSaid : Prop := serialAtomicRow.holds Try.pinned (OpenSpec.ofChange serialAtomicSpec)

/-- ITS FALSE NEIGHBOUR: 'it returns false'. Refute it at one input. -/
def serialAtomicWrong : ChangeSpec := { name := "serialAtomic", fn := fun _ => fun
  | [d1, d2, d3] => { results := [.lit (.bool false)], args := [d1, d2, d3] }
  | _ => none }
def SerialAtomicWrongFalsely : Prop := serialAtomicRow.holds Try.pinned (OpenSpec.ofChange serialAtomicWrong)

/-- 'bodegalaw34.SerialFinal': WHATEVER THE INPUT: true; the input reads as it did. -/
def serialFinalSpec : ChangeSpec := { name := "serialFinal", fn := fun _ => fun
  | [d1, d2, d3, d4] => { results := [.lit (.bool true)], args := [d1, d2, d3, d4] }
  | _ => none }
def serialFinalRow : OpenClaim := { program := "ytnhahcomgeeobaa", sum := "1f0dc027c235760bc74817c7bc229dc8856c3fc3812b2f85de56b41891d53108", func := "bodega/bodegalaw34.SerialFinal", spec := "serialFinal", inPlace := ["internal/abi.NoEscape", "internal/bytealg.MakeNoZero", "slices.overlaps[bodega/record.Row]", "math/bits.Add64"], unfollowed := true, recurses := true, apart := false }
def SerialFinalSaid : Prop := serialFinalRow.holds Try.pinned (OpenSpec.ofChange serialFinalSpec)

/-- ITS FALSE NEIGHBOUR: 'it returns false'. Refute it at one input. -/
def serialFinalWrong : ChangeSpec := { name := "serialFinal", fn := fun _ => fun
  | [d1, d2, d3, d4] => { results := [.lit (.bool false)], args := [d1, d2, d3, d4] }
  | _ => none }
def SerialFinalWrongFalsely : Prop := serialFinalRow.holds Try.pinned (OpenSpec.ofChange serialFinalWrong)

/- THE SECOND FORM. 'bulk': how many values and letters a reading holds, each counted each time it is reached (what is shared counts as often as it is met; a slice's spare places count too). A statement '..UptoSaid' is the law's where the arguments, and the package variables that the reading takes, are together of bulk at most 1048576: NARROWER than '..Said'. Prove '..Said' where nothing that the law and all that it calls make is longer than what came in: it says more and counts as full. Else prove '..UptoSaid'. A law counts once. -/
mutual
def uptoBulk {H : Type} : DataW H → Nat
  | .lit (.string bytes) => bytes.length + 1
  | .lit _ => 1
  | .nil => 1
  | .ptr d => uptoBulk d + 1
  | .slice elems spare => uptoBulkAll elems + uptoBulkAll spare + 1
  | .agg parts => uptoBulkAll parts + 1
  | .iface _ d => uptoBulk d + 1
  | .map entries => uptoBulkEntries entries + 1
  | .held _ => 1
def uptoBulkAll {H : Type} : List (DataW H) → Nat
  | [] => 0
  | d :: r => uptoBulk d + uptoBulkAll r
def uptoBulkEntries {H : Type} : List (Lit × DataW H) → Nat
  | [] => 0
  | x :: r => uptoBulkEntry x + uptoBulkEntries r
def uptoBulkEntry {H : Type} : Lit × DataW H → Nat
  | (.string bytes, d) => bytes.length + uptoBulk d + 1
  | (_, d) => uptoBulk d + 1
 end
def uptoSmall : (H : Type) → List (DataW H) → Bool := fun _ ds => decide (uptoBulkAll ds ≤ 1048576)
def OpenSpec.upto (s : _root_.Go.ChangeSpec) : _root_.Go.OpenSpec := { _root_.Go.OpenSpec.ofChange s with cond := some uptoSmall }

/-- 'bodegalaw34.SerialChecks', WHERE WHAT IT READS IS OF BULK AT MOST 1048576: true; the input reads as it did. -/
def serialChecksUptoRow : OpenClaim := { program := "ytnhahcomgeeobaa", sum := "1f0dc027c235760bc74817c7bc229dc8856c3fc3812b2f85de56b41891d53108", func := "bodega/bodegalaw34.SerialChecks", spec := "serialChecks", inPlace := ["internal/abi.NoEscape", "internal/bytealg.MakeNoZero", "slices.overlaps[bodega/record.Row]", "math/bits.Add64"], unfollowed := true, recurses := true, apart := false, narrowed := true }
def SerialChecksUptoSaid : Prop := serialChecksUptoRow.holds Try.pinned (OpenSpec.upto serialChecksSpec)

/-- 'bodegalaw34.SerialFinds', WHERE WHAT IT READS IS OF BULK AT MOST 1048576: true; the input reads as it did. -/
def serialFindsUptoRow : OpenClaim := { program := "ytnhahcomgeeobaa", sum := "1f0dc027c235760bc74817c7bc229dc8856c3fc3812b2f85de56b41891d53108", func := "bodega/bodegalaw34.SerialFinds", spec := "serialFinds", inPlace := ["internal/abi.NoEscape", "internal/bytealg.MakeNoZero", "slices.overlaps[bodega/record.Row]", "math/bits.Add64"], unfollowed := true, recurses := true, apart := false, narrowed := true }
def SerialFindsUptoSaid : Prop := serialFindsUptoRow.holds Try.pinned (OpenSpec.upto serialFindsSpec)

/-- 'bodegalaw34.SerialStrict', WHERE WHAT IT READS IS OF BULK AT MOST 1048576: true; the input reads as it did. -/
def serialStrictUptoRow : OpenClaim := { program := "ytnhahcomgeeobaa", sum := "1f0dc027c235760bc74817c7bc229dc8856c3fc3812b2f85de56b41891d53108", func := "bodega/bodegalaw34.SerialStrict", spec := "serialStrict", inPlace := ["internal/abi.NoEscape", "internal/bytealg.MakeNoZero", "slices.overlaps[bodega/record.Row]", "math/bits.Add64"], unfollowed := true, recurses := true, apart := false, narrowed := true }
def SerialStrictUptoSaid : Prop := serialStrictUptoRow.holds Try.pinned (OpenSpec.upto serialStrictSpec)

/-- 'bodegalaw34.SerialOpen', WHERE WHAT IT READS IS OF BULK AT MOST 1048576: true; the input reads as it did. -/
def serialOpenUptoRow : OpenClaim := { program := "ytnhahcomgeeobaa", sum := "1f0dc027c235760bc74817c7bc229dc8856c3fc3812b2f85de56b41891d53108", func := "bodega/bodegalaw34.SerialOpen", spec := "serialOpen", inPlace := ["internal/abi.NoEscape", "internal/bytealg.MakeNoZero", "slices.overlaps[bodega/record.Row]", "math/bits.Add64"], unfollowed := true, recurses := true, apart := false, narrowed := true }
def SerialOpenUptoSaid : Prop := serialOpenUptoRow.holds Try.pinned (OpenSpec.upto serialOpenSpec)

/-- 'bodegalaw34.SerialApplies', WHERE WHAT IT READS IS OF BULK AT MOST 1048576: true; the input reads as it did. -/
def serialAppliesUptoRow : OpenClaim := { program := "ytnhahcomgeeobaa", sum := "1f0dc027c235760bc74817c7bc229dc8856c3fc3812b2f85de56b41891d53108", func := "bodega/bodegalaw34.SerialApplies", spec := "serialApplies", inPlace := ["internal/abi.NoEscape", "internal/bytealg.MakeNoZero", "slices.overlaps[bodega/record.Row]", "math/bits.Add64"], unfollowed := true, recurses := true, apart := false, narrowed := true }
def SerialAppliesUptoSaid : Prop := serialAppliesUptoRow.holds Try.pinned (OpenSpec.upto serialAppliesSpec)

/-- 'bodegalaw34.SerialAtomic', WHERE WHAT IT READS IS OF BULK AT MOST 1048576: true; the input reads as it did. -/
def serialAtomicUptoRow : OpenClaim := { program := "ytnhahcomgeeobaa", sum := "1f0dc027c235760bc74817c7bc229dc8856c3fc3812b2f85de56b41891d53108", func := "bodega/bodegalaw34.SerialAtomic", spec := "serialAtomic", inPlace := ["internal/abi.NoEscape", "internal/bytealg.MakeNoZero", "slices.overlaps[bodega/record.Row]", "math/bits.Add64"], unfollowed := true, recurses := true, apart := false, narrowed := true }
def SerialAtomicUptoSaid : Prop := serialAtomicUptoRow.holds Try.pinned (OpenSpec.upto serialAtomicSpec)

/-- 'bodegalaw34.SerialFinal', WHERE WHAT IT READS IS OF BULK AT MOST 1048576: true; the input reads as it did. -/
def serialFinalUptoRow : OpenClaim := { program := "ytnhahcomgeeobaa", sum := "1f0dc027c235760bc74817c7bc229dc8856c3fc3812b2f85de56b41891d53108", func := "bodega/bodegalaw34.SerialFinal", spec := "serialFinal", inPlace := ["internal/abi.NoEscape", "internal/bytealg.MakeNoZero", "slices.overlaps[bodega/record.Row]", "math/bits.Add64"], unfollowed := true, recurses := true, apart := false, narrowed := true }
def SerialFinalUptoSaid : Prop := serialFinalUptoRow.holds Try.pinned (OpenSpec.upto serialFinalSpec)

end Rows
end Go.Proofs.Ytnhahcomgeeobaa
