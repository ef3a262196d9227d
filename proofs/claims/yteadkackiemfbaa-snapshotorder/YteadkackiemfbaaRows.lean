/-
  No cell of these rows narrows 'for every input' (looked for: loops, veiled, ifaces, maps, wideKeys, modest, calm, conditions, laid).
  DERIVED. THE GIVEN ROWS OF THIS SEAT. 3 by the template 'for every input the law returns true; each argument reads behind the call as it read before'; 0 by the template 'total and deterministic' (their statements: YteadkackiemfbaaTotals.lean).
  GIVEN WITH THE SEED: the statements are not yours to turn. If you find one false, say at which input.
  Laid BY PROGRAM, IN A SANDBOX (cutbox-rows.mjs): the forced cells as the released guide's own fill.sh prints them over the translation 3c4e7b2110263aaf… (all of the seat's roots in one cut). By AI agents, Wed Nov 11 2026. No macro, syntax, notation, axiom, sorry.
-/
import Derived.Test.YteadkackiemfbaaChecked
import GoSem.Claim
import GoSem.ClaimJoined
import GoSem.ClaimMapViews
import Derived.JoinedTies
import Derived.KernelRfl
namespace Go.Proofs.Yteadkackiemfbaa
/- THE CELL 'sum', in the pinned program and in every row, IS THE sha256 OF THE DUMP (.gsa) THAT YteadkackiemfbaaProg.lean LOADS. Nothing in Lean hashes anything: it is a label: what it is worth is what the hold of that sum in a sandbox is worth. -/
noncomputable def Try.pinned : Pinned := { name := "yteadkackiemfbaa", sum := "3c4e7b2110263aafe41a7d271db58f55f648da4f287f9ea1de0bf2bd4af68551", checked := Try.checked }
namespace Rows
def none {H : Type} : Left H := { results := [], args := [] }

/-- 'bodegalaw22.SnapshotOrder': WHATEVER THE INPUT: true; the input reads as it did. -/
def snapshotOrderSpec : ChangeSpec := { name := "snapshotOrder", fn := fun _ => fun
  | [d1, d2, d3, d4] => { results := [.lit (.bool true)], args := [d1, d2, d3, d4] }
  | _ => none }
def snapshotOrderRow : OpenClaim := { program := "yteadkackiemfbaa", sum := "3c4e7b2110263aafe41a7d271db58f55f648da4f287f9ea1de0bf2bd4af68551", func := "bodega/bodegalaw22.SnapshotOrder", spec := "snapshotOrder", apart := false }
def SnapshotOrderSaid : Prop := snapshotOrderRow.holds Try.pinned (OpenSpec.ofChange snapshotOrderSpec)

/-- ITS FALSE NEIGHBOUR: 'it returns false'. Refute it at one input. -/
def snapshotOrderWrong : ChangeSpec := { name := "snapshotOrder", fn := fun _ => fun
  | [d1, d2, d3, d4] => { results := [.lit (.bool false)], args := [d1, d2, d3, d4] }
  | _ => none }
def SnapshotOrderWrongFalsely : Prop := snapshotOrderRow.holds Try.pinned (OpenSpec.ofChange snapshotOrderWrong)

/-- 'bodegalaw22.SnapshotVectors': WHATEVER THE INPUT: true; the input reads as it did. -/
def snapshotVectorsSpec : ChangeSpec := { name := "snapshotVectors", fn := fun _ => fun
  | [d1, d2, d3, d4] => { results := [.lit (.bool true)], args := [d1, d2, d3, d4] }
  | _ => none }
def snapshotVectorsRow : OpenClaim := { program := "yteadkackiemfbaa", sum := "3c4e7b2110263aafe41a7d271db58f55f648da4f287f9ea1de0bf2bd4af68551", func := "bodega/bodegalaw22.SnapshotVectors", spec := "snapshotVectors", apart := false }
def SnapshotVectorsSaid : Prop := snapshotVectorsRow.holds Try.pinned (OpenSpec.ofChange snapshotVectorsSpec)

/-- ITS FALSE NEIGHBOUR: 'it returns false'. Refute it at one input. -/
def snapshotVectorsWrong : ChangeSpec := { name := "snapshotVectors", fn := fun _ => fun
  | [d1, d2, d3, d4] => { results := [.lit (.bool false)], args := [d1, d2, d3, d4] }
  | _ => none }
def SnapshotVectorsWrongFalsely : Prop := snapshotVectorsRow.holds Try.pinned (OpenSpec.ofChange snapshotVectorsWrong)

/-- 'bodegalaw22.SnapshotSees': WHATEVER THE INPUT: true; the input reads as it did. -/
def snapshotSeesSpec : ChangeSpec := { name := "snapshotSees", fn := fun _ => fun
  | [d1, d2, d3] => { results := [.lit (.bool true)], args := [d1, d2, d3] }
  | _ => none }
def snapshotSeesRow : OpenClaim := { program := "yteadkackiemfbaa", sum := "3c4e7b2110263aafe41a7d271db58f55f648da4f287f9ea1de0bf2bd4af68551", func := "bodega/bodegalaw22.SnapshotSees", spec := "snapshotSees", unfollowed := true, recurses := true, apart := false }
def SnapshotSeesSaid : Prop := snapshotSeesRow.holds Try.pinned (OpenSpec.ofChange snapshotSeesSpec)

/-- ITS FALSE NEIGHBOUR: 'it returns false'. Refute it at one input. -/
def snapshotSeesWrong : ChangeSpec := { name := "snapshotSees", fn := fun _ => fun
  | [d1, d2, d3] => { results := [.lit (.bool false)], args := [d1, d2, d3] }
  | _ => none }
def SnapshotSeesWrongFalsely : Prop := snapshotSeesRow.holds Try.pinned (OpenSpec.ofChange snapshotSeesWrong)

/- THE SECOND FORM. 'bulk': how many values and letters a reading holds, each counted each time it is reached (what is shared counts as often as it is met; a slice's spare places count too). A statement '..UptoSaid' is the law's where the arguments, and the package variables that the reading takes, are together of bulk at most 1048576: NARROWER than '..Said'. Prove '..Said' where nothing that the law and all that it calls make is longer than what came in: it says more and counts as full. Else prove '..UptoSaid'. A law counts once. -/
mutual
def uptoBulk {H : Type} : DataW H → Nat
  | .lit (.string bytes) => bytes.length + 1
  | .lit _ => 1
  | .nil => 1
  | .ptr d => uptoBulk d + 1
  | .slice elems spare => uptoBulkAll elems + uptoBulkAll spare + 1
  | .agg parts => uptoBulkAll parts + 1
  | .iface _ d => uptoBulk d + 1
  | .map entries => uptoBulkEntries entries + 1
  | .held _ => 1
def uptoBulkAll {H : Type} : List (DataW H) → Nat
  | [] => 0
  | d :: r => uptoBulk d + uptoBulkAll r
def uptoBulkEntries {H : Type} : List (Lit × DataW H) → Nat
  | [] => 0
  | x :: r => uptoBulkEntry x + uptoBulkEntries r
def uptoBulkEntry {H : Type} : Lit × DataW H → Nat
  | (.string bytes, d) => bytes.length + uptoBulk d + 1
  | (_, d) => uptoBulk d + 1
 end
def uptoSmall : (H : Type) → List (DataW H) → Bool := fun _ ds => decide (uptoBulkAll ds ≤ 1048576)
def OpenSpec.upto (s : _root_.Go.ChangeSpec) : _root_.Go.OpenSpec := { _root_.Go.OpenSpec.ofChange s with cond := some uptoSmall }

/-- 'bodegalaw22.SnapshotOrder', WHERE WHAT IT READS IS OF BULK AT MOST 1048576: true; the input reads as it did. -/
def snapshotOrderUptoRow : OpenClaim := { program := "yteadkackiemfbaa", sum := "3c4e7b2110263aafe41a7d271db58f55f648da4f287f9ea1de0bf2bd4af68551", func := "bodega/bodegalaw22.SnapshotOrder", spec := "snapshotOrder", apart := false, narrowed := true }
def SnapshotOrderUptoSaid : Prop := snapshotOrderUptoRow.holds Try.pinned (OpenSpec.upto snapshotOrderSpec)

/-- 'bodegalaw22.SnapshotVectors', WHERE WHAT IT READS IS OF BULK AT MOST 1048576: true; the input reads as it did. -/
def snapshotVectorsUptoRow : OpenClaim := { program := "yteadkackiemfbaa", sum := "3c4e7b2110263aafe41a7d271db58f55f648da4f287f9ea1de0bf2bd4af68551", func := "bodega/bodegalaw22.SnapshotVectors", spec := "snapshotVectors", apart := false, narrowed := true }
def SnapshotVectorsUptoSaid : Prop := snapshotVectorsUptoRow.holds Try.pinned (OpenSpec.upto snapshotVectorsSpec)

/-- 'bodegalaw22.SnapshotSees', WHERE WHAT IT READS IS OF BULK AT MOST 1048576: true; the input reads as it did. -/
def snapshotSeesUptoRow : OpenClaim := { program := "yteadkackiemfbaa", sum := "3c4e7b2110263aafe41a7d271db58f55f648da4f287f9ea1de0bf2bd4af68551", func := "bodega/bodegalaw22.SnapshotSees", spec := "snapshotSees", unfollowed := true, recurses := true, apart := false, narrowed := true }
def SnapshotSeesUptoSaid : Prop := snapshotSeesUptoRow.holds Try.pinned (OpenSpec.upto snapshotSeesSpec)

end Rows
end Go.Proofs.Yteadkackiemfbaa
