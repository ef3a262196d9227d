/-
  No cell of these rows narrows 'for every input' (looked for: loops, veiled, ifaces, maps, wideKeys, modest, calm, conditions, laid).
  DERIVED. THE GIVEN ROWS OF THIS SEAT. 5 by the template 'for every input the law returns true; each argument reads behind the call as it read before'; 0 by the template 'total and deterministic' (their statements: YtokagdgcfmjlnaaTotals.lean).
  GIVEN WITH THE SEED: the statements are not yours to turn. If you find one false, say at which input.
  Laid BY PROGRAM, IN A SANDBOX (cutbox-rows.mjs): the forced cells as the released guide's own fill.sh prints them over the translation 268fa576c68ad806… (all of the seat's roots in one cut). By AI agents, Wed Nov 11 2026. No macro, syntax, notation, axiom, sorry.
-/
import Derived.Test.YtokagdgcfmjlnaaChecked
import GoSem.Claim
import GoSem.ClaimJoined
import GoSem.ClaimMapViews
import Derived.JoinedTies
import Derived.KernelRfl
namespace Go.Proofs.Ytokagdgcfmjlnaa
/- THE CELL 'sum', in the pinned program and in every row, IS THE sha256 OF THE DUMP (.gsa) THAT YtokagdgcfmjlnaaProg.lean LOADS. Nothing in Lean hashes anything: it is a label: what it is worth is what the hold of that sum in a sandbox is worth. -/
noncomputable def Try.pinned : Pinned := { name := "ytokagdgcfmjlnaa", sum := "268fa576c68ad8063c0adc295eb3edfae01922360ec0269d3725cb15e20075a4", checked := Try.checked }
namespace Rows
def none {H : Type} : Left H := { results := [], args := [] }

/-- 'bodegalaw3.MemnodeNew': WHATEVER THE INPUT: true; the input reads as it did. -/
def memnodeNewSpec : ChangeSpec := { name := "memnodeNew", fn := fun _ => fun
  | [d] => { results := [.lit (.bool true)], args := [d] }
  | _ => none }
def memnodeNewRow : OpenClaim := { program := "ytokagdgcfmjlnaa", sum := "268fa576c68ad8063c0adc295eb3edfae01922360ec0269d3725cb15e20075a4", func := "bodega/bodegalaw3.MemnodeNew", spec := "memnodeNew", apart := false }
def MemnodeNewSaid : Prop := memnodeNewRow.holds Try.pinned (OpenSpec.ofChange memnodeNewSpec)

/-- ITS FALSE NEIGHBOUR: 'it returns false'. Refute it at one input. -/
def memnodeNewWrong : ChangeSpec := { name := "memnodeNew", fn := fun _ => fun
  | [d] => { results := [.lit (.bool false)], args := [d] }
  | _ => none }
def MemnodeNewWrongFalsely : Prop := memnodeNewRow.holds Try.pinned (OpenSpec.ofChange memnodeNewWrong)

/-- 'bodegalaw3.MemnodeReturns': WHATEVER THE INPUT: true; the input reads as it did. -/
def memnodeReturnsSpec : ChangeSpec := { name := "memnodeReturns", fn := fun _ => fun
  | [d1, d2] => { results := [.lit (.bool true)], args := [d1, d2] }
  | _ => none }
def memnodeReturnsRow : OpenClaim := { program := "ytokagdgcfmjlnaa", sum := "268fa576c68ad8063c0adc295eb3edfae01922360ec0269d3725cb15e20075a4", func := "bodega/bodegalaw3.MemnodeReturns", spec := "memnodeReturns", apart := false }
def MemnodeReturnsSaid : Prop := memnodeReturnsRow.holds Try.pinned (OpenSpec.ofChange memnodeReturnsSpec)

/-- ITS FALSE NEIGHBOUR: 'it returns false'. Refute it at one input. -/
def memnodeReturnsWrong : ChangeSpec := { name := "memnodeReturns", fn := fun _ => fun
  | [d1, d2] => { results := [.lit (.bool false)], args := [d1, d2] }
  | _ => none }
def MemnodeReturnsWrongFalsely : Prop := memnodeReturnsRow.holds Try.pinned (OpenSpec.ofChange memnodeReturnsWrong)

/-- 'bodegalaw3.MemnodePlays': WHATEVER THE INPUT: true; the input reads as it did. -/
def memnodePlaysSpec : ChangeSpec := { name := "memnodePlays", fn := fun _ => fun
  | [d1, d2] => { results := [.lit (.bool true)], args := [d1, d2] }
  | _ => none }
def memnodePlaysRow : OpenClaim := { program := "ytokagdgcfmjlnaa", sum := "268fa576c68ad8063c0adc295eb3edfae01922360ec0269d3725cb15e20075a4", func := "bodega/bodegalaw3.MemnodePlays", spec := "memnodePlays", apart := false }
def MemnodePlaysSaid : Prop := memnodePlaysRow.holds Try.pinned (OpenSpec.ofChange memnodePlaysSpec)

/-- ITS FALSE NEIGHBOUR: 'it returns false'. Refute it at one input. -/
def memnodePlaysWrong : ChangeSpec := { name := "memnodePlays", fn := fun _ => fun
  | [d1, d2] => { results := [.lit (.bool false)], args := [d1, d2] }
  | _ => none }
def MemnodePlaysWrongFalsely : Prop := memnodePlaysRow.holds Try.pinned (OpenSpec.ofChange memnodePlaysWrong)

/-- 'bodegalaw3.MemnodeCopies': WHATEVER THE INPUT: true; the input reads as it did. -/
def memnodeCopiesSpec : ChangeSpec := { name := "memnodeCopies", fn := fun _ => fun
  | [d1, d2, d3] => { results := [.lit (.bool true)], args := [d1, d2, d3] }
  | _ => none }
def memnodeCopiesRow : OpenClaim := { program := "ytokagdgcfmjlnaa", sum := "268fa576c68ad8063c0adc295eb3edfae01922360ec0269d3725cb15e20075a4", func := "bodega/bodegalaw3.MemnodeCopies", spec := "memnodeCopies", apart := false }
def MemnodeCopiesSaid : Prop := memnodeCopiesRow.holds Try.pinned (OpenSpec.ofChange memnodeCopiesSpec)

/-- ITS FALSE NEIGHBOUR: 'it returns false'. Refute it at one input. -/
def memnodeCopiesWrong : ChangeSpec := { name := "memnodeCopies", fn := fun _ => fun
  | [d1, d2, d3] => { results := [.lit (.bool false)], args := [d1, d2, d3] }
  | _ => none }
def MemnodeCopiesWrongFalsely : Prop := memnodeCopiesRow.holds Try.pinned (OpenSpec.ofChange memnodeCopiesWrong)

/-- 'bodegalaw3.MemnodeImages': WHATEVER THE INPUT: true; the input reads as it did. -/
def memnodeImagesSpec : ChangeSpec := { name := "memnodeImages", fn := fun _ => fun
  | [d1, d2, d3, d4, d5] => { results := [.lit (.bool true)], args := [d1, d2, d3, d4, d5] }
  | _ => none }
def memnodeImagesRow : OpenClaim := { program := "ytokagdgcfmjlnaa", sum := "268fa576c68ad8063c0adc295eb3edfae01922360ec0269d3725cb15e20075a4", func := "bodega/bodegalaw3.MemnodeImages", spec := "memnodeImages", apart := false }
def MemnodeImagesSaid : Prop := memnodeImagesRow.holds Try.pinned (OpenSpec.ofChange memnodeImagesSpec)

/-- ITS FALSE NEIGHBOUR: 'it returns false'. Refute it at one input. -/
def memnodeImagesWrong : ChangeSpec := { name := "memnodeImages", fn := fun _ => fun
  | [d1, d2, d3, d4, d5] => { results := [.lit (.bool false)], args := [d1, d2, d3, d4, d5] }
  | _ => none }
def MemnodeImagesWrongFalsely : Prop := memnodeImagesRow.holds Try.pinned (OpenSpec.ofChange memnodeImagesWrong)

/- THE SECOND FORM. 'bulk': how many values and letters a reading holds, each counted each time it is reached (what is shared counts as often as it is met; a slice's spare places count too). A statement '..UptoSaid' is the law's where the arguments, and the package variables that the reading takes, are together of bulk at most 1048576: NARROWER than '..Said'. Prove '..Said' where nothing that the law and all that it calls make is longer than what came in: it says more and counts as full. Else prove '..UptoSaid'. A law counts once. -/
mutual
def uptoBulk {H : Type} : DataW H → Nat
  | .lit (.string bytes) => bytes.length + 1
  | .lit _ => 1
  | .nil => 1
  | .ptr d => uptoBulk d + 1
  | .slice elems spare => uptoBulkAll elems + uptoBulkAll spare + 1
  | .agg parts => uptoBulkAll parts + 1
  | .iface _ d => uptoBulk d + 1
  | .map entries => uptoBulkEntries entries + 1
  | .held _ => 1
def uptoBulkAll {H : Type} : List (DataW H) → Nat
  | [] => 0
  | d :: r => uptoBulk d + uptoBulkAll r
def uptoBulkEntries {H : Type} : List (Lit × DataW H) → Nat
  | [] => 0
  | x :: r => uptoBulkEntry x + uptoBulkEntries r
def uptoBulkEntry {H : Type} : Lit × DataW H → Nat
  | (.string bytes, d) => bytes.length + uptoBulk d + 1
  | (_, d) => uptoBulk d + 1
 end
def uptoSmall : (H : Type) → List (DataW H) → Bool := fun _ ds => decide (uptoBulkAll ds ≤ 1048576)
def OpenSpec.upto (s : _root_.Go.ChangeSpec) : _root_.Go.OpenSpec := { _root_.Go.OpenSpec.ofChange s with cond := some uptoSmall }

/-- 'bodegalaw3.MemnodeNew', WHERE WHAT IT READS IS OF BULK AT MOST 1048576: true; the input reads as it did. -/
def memnodeNewUptoRow : OpenClaim := { program := "ytokagdgcfmjlnaa", sum := "268fa576c68ad8063c0adc295eb3edfae01922360ec0269d3725cb15e20075a4", func := "bodega/bodegalaw3.MemnodeNew", spec := "memnodeNew", apart := false, narrowed := true }
def MemnodeNewUptoSaid : Prop := memnodeNewUptoRow.holds Try.pinned (OpenSpec.upto memnodeNewSpec)

/-- 'bodegalaw3.MemnodeReturns', WHERE WHAT IT READS IS OF BULK AT MOST 1048576: true; the input reads as it did. -/
def memnodeReturnsUptoRow : OpenClaim := { program := "ytokagdgcfmjlnaa", sum := "268fa576c68ad8063c0adc295eb3edfae01922360ec0269d3725cb15e20075a4", func := "bodega/bodegalaw3.MemnodeReturns", spec := "memnodeReturns", apart := false, narrowed := true }
def MemnodeReturnsUptoSaid : Prop := memnodeReturnsUptoRow.holds Try.pinned (OpenSpec.upto memnodeReturnsSpec)

/-- 'bodegalaw3.MemnodePlays', WHERE WHAT IT READS IS OF BULK AT MOST 1048576: true; the input reads as it did. -/
def memnodePlaysUptoRow : OpenClaim := { program := "ytokagdgcfmjlnaa", sum := "268fa576c68ad8063c0adc295eb3edfae01922360ec0269d3725cb15e20075a4", func := "bodega/bodegalaw3.MemnodePlays", spec := "memnodePlays", apart := false, narrowed := true }
def MemnodePlaysUptoSaid : Prop := memnodePlaysUptoRow.holds Try.pinned (OpenSpec.upto memnodePlaysSpec)

/-- 'bodegalaw3.MemnodeCopies', WHERE WHAT IT READS IS OF BULK AT MOST 1048576: true; the input reads as it did. -/
def memnodeCopiesUptoRow : OpenClaim := { program := "ytokagdgcfmjlnaa", sum := "268fa576c68ad8063c0adc295eb3edfae01922360ec0269d3725cb15e20075a4", func := "bodega/bodegalaw3.MemnodeCopies", spec := "memnodeCopies", apart := false, narrowed := true }
def MemnodeCopiesUptoSaid : Prop := memnodeCopiesUptoRow.holds Try.pinned (OpenSpec.upto memnodeCopiesSpec)

/-- 'bodegalaw3.MemnodeImages', WHERE WHAT IT READS IS OF BULK AT MOST 1048576: true; the input reads as it did. -/
def memnodeImagesUptoRow : OpenClaim := { program := "ytokagdgcfmjlnaa", sum := "268fa576c68ad8063c0adc295eb3edfae01922360ec0269d3725cb15e20075a4", func := "bodega/bodegalaw3.MemnodeImages", spec := "memnodeImages", apart := false, narrowed := true }
def MemnodeImagesUptoSaid : Prop := memnodeImagesUptoRow.holds Try.pinned (OpenSpec.upto memnodeImagesSpec)

end Rows
end Go.Proofs.Ytokagdgcfmjlnaa
