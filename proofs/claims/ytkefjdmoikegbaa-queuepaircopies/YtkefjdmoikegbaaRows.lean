/-
  No cell of these rows narrows 'for every input' (looked for: loops, veiled, ifaces, maps, wideKeys, modest, calm, conditions, laid).
  DERIVED. THE GIVEN ROWS OF THIS SEAT. 5 by the template 'for every input the law returns true; each argument reads behind the call as it read before'; 0 by the template 'total and deterministic' (their statements: YtkefjdmoikegbaaTotals.lean).
  GIVEN WITH THE SEED: the statements are not yours to turn. If you find one false, say at which input.
  Laid BY PROGRAM, IN A SANDBOX (cutbox-rows.mjs): the forced cells as the released guide's own fill.sh prints them over the translation fe7a3d8f2e3439c0… (all of the seat's roots in one cut). By AI agents, Wed Nov 11 2026. No macro, syntax, notation, axiom, sorry.
-/
import Derived.Test.YtkefjdmoikegbaaChecked
import GoSem.Claim
import GoSem.ClaimJoined
import GoSem.ClaimMapViews
import Derived.JoinedTies
import Derived.KernelRfl
namespace Go.Proofs.Ytkefjdmoikegbaa
/- THE CELL 'sum', in the pinned program and in every row, IS THE sha256 OF THE DUMP (.gsa) THAT YtkefjdmoikegbaaProg.lean LOADS. Nothing in Lean hashes anything: it is a label: what it is worth is what the hold of that sum in a sandbox is worth. -/
noncomputable def Try.pinned : Pinned := { name := "ytkefjdmoikegbaa", sum := "fe7a3d8f2e3439c03c3bee2b1dc61573db466d53201d61b92d90c74ab9f478fb", checked := Try.checked }
namespace Rows
def none {H : Type} : Left H := { results := [], args := [] }

/-- 'bodegalaw5.QueuepairOrder': WHATEVER THE INPUT: true; the input reads as it did. -/
def queuepairOrderSpec : ChangeSpec := { name := "queuepairOrder", fn := fun _ => fun
  | [d1, d2] => { results := [.lit (.bool true)], args := [d1, d2] }
  | _ => none }
def queuepairOrderRow : OpenClaim := { program := "ytkefjdmoikegbaa", sum := "fe7a3d8f2e3439c03c3bee2b1dc61573db466d53201d61b92d90c74ab9f478fb", func := "bodega/bodegalaw5.QueuepairOrder", spec := "queuepairOrder", unfollowed := true, recurses := true, apart := false }
def QueuepairOrderSaid : Prop := queuepairOrderRow.holds Try.pinned (OpenSpec.ofChange queuepairOrderSpec)

/-- ITS FALSE NEIGHBOUR: 'it returns false'. Refute it at one input. -/
def queuepairOrderWrong : ChangeSpec := { name := "queuepairOrder", fn := fun _ => fun
  | [d1, d2] => { results := [.lit (.bool false)], args := [d1, d2] }
  | _ => none }
def QueuepairOrderWrongFalsely : Prop := queuepairOrderRow.holds Try.pinned (OpenSpec.ofChange queuepairOrderWrong)

/-- 'bodegalaw5.QueuepairNew': WHATEVER THE INPUT: true; the input reads as it did. -/
def queuepairNewSpec : ChangeSpec := { name := "queuepairNew", fn := fun _ => fun
  | [d1, d2, d3, d4] => { results := [.lit (.bool true)], args := [d1, d2, d3, d4] }
  | _ => none }
def queuepairNewRow : OpenClaim := { program := "ytkefjdmoikegbaa", sum := "fe7a3d8f2e3439c03c3bee2b1dc61573db466d53201d61b92d90c74ab9f478fb", func := "bodega/bodegalaw5.QueuepairNew", spec := "queuepairNew", unfollowed := true, recurses := true, apart := false }
def QueuepairNewSaid : Prop := queuepairNewRow.holds Try.pinned (OpenSpec.ofChange queuepairNewSpec)

/-- ITS FALSE NEIGHBOUR: 'it returns false'. Refute it at one input. -/
def queuepairNewWrong : ChangeSpec := { name := "queuepairNew", fn := fun _ => fun
  | [d1, d2, d3, d4] => { results := [.lit (.bool false)], args := [d1, d2, d3, d4] }
  | _ => none }
def QueuepairNewWrongFalsely : Prop := queuepairNewRow.holds Try.pinned (OpenSpec.ofChange queuepairNewWrong)

/-- 'bodegalaw5.QueuepairTorn': WHATEVER THE INPUT: true; the input reads as it did. -/
def queuepairTornSpec : ChangeSpec := { name := "queuepairTorn", fn := fun _ => fun
  | [d1, d2, d3, d4] => { results := [.lit (.bool true)], args := [d1, d2, d3, d4] }
  | _ => none }
def queuepairTornRow : OpenClaim := { program := "ytkefjdmoikegbaa", sum := "fe7a3d8f2e3439c03c3bee2b1dc61573db466d53201d61b92d90c74ab9f478fb", func := "bodega/bodegalaw5.QueuepairTorn", spec := "queuepairTorn", unfollowed := true, recurses := true, apart := false }
def QueuepairTornSaid : Prop := queuepairTornRow.holds Try.pinned (OpenSpec.ofChange queuepairTornSpec)

/-- ITS FALSE NEIGHBOUR: 'it returns false'. Refute it at one input. -/
def queuepairTornWrong : ChangeSpec := { name := "queuepairTorn", fn := fun _ => fun
  | [d1, d2, d3, d4] => { results := [.lit (.bool false)], args := [d1, d2, d3, d4] }
  | _ => none }
def QueuepairTornWrongFalsely : Prop := queuepairTornRow.holds Try.pinned (OpenSpec.ofChange queuepairTornWrong)

/-- 'bodegalaw5.QueuepairPlays': WHATEVER THE INPUT: true; the input reads as it did. -/
def queuepairPlaysSpec : ChangeSpec := { name := "queuepairPlays", fn := fun _ => fun
  | [d1, d2, d3] => { results := [.lit (.bool true)], args := [d1, d2, d3] }
  | _ => none }
def queuepairPlaysRow : OpenClaim := { program := "ytkefjdmoikegbaa", sum := "fe7a3d8f2e3439c03c3bee2b1dc61573db466d53201d61b92d90c74ab9f478fb", func := "bodega/bodegalaw5.QueuepairPlays", spec := "queuepairPlays", unfollowed := true, recurses := true, apart := false }
def QueuepairPlaysSaid : Prop := queuepairPlaysRow.holds Try.pinned (OpenSpec.ofChange queuepairPlaysSpec)

/-- ITS FALSE NEIGHBOUR: 'it returns false'. Refute it at one input. -/
def queuepairPlaysWrong : ChangeSpec := { name := "queuepairPlays", fn := fun _ => fun
  | [d1, d2, d3] => { results := [.lit (.bool false)], args := [d1, d2, d3] }
  | _ => none }
def QueuepairPlaysWrongFalsely : Prop := queuepairPlaysRow.holds Try.pinned (OpenSpec.ofChange queuepairPlaysWrong)

/-- 'bodegalaw5.QueuepairCopies': WHATEVER THE INPUT: true; the input reads as it did. -/
def queuepairCopiesSpec : ChangeSpec := { name := "queuepairCopies", fn := fun _ => fun
  | [d1, d2, d3] => { results := [.lit (.bool true)], args := [d1, d2, d3] }
  | _ => none }
def queuepairCopiesRow : OpenClaim := { program := "ytkefjdmoikegbaa", sum := "fe7a3d8f2e3439c03c3bee2b1dc61573db466d53201d61b92d90c74ab9f478fb", func := "bodega/bodegalaw5.QueuepairCopies", spec := "queuepairCopies", unfollowed := true, recurses := true, apart := false }
def QueuepairCopiesSaid : Prop := queuepairCopiesRow.holds Try.pinned (OpenSpec.ofChange queuepairCopiesSpec)

/-- ITS FALSE NEIGHBOUR: 'it returns false'. Refute it at one input. -/
def queuepairCopiesWrong : ChangeSpec := { name := "queuepairCopies", fn := fun _ => fun
  | [d1, d2, d3] => { results := [.lit (.bool false)], args := [d1, d2, d3] }
  | _ => none }
def QueuepairCopiesWrongFalsely : Prop := queuepairCopiesRow.holds Try.pinned (OpenSpec.ofChange queuepairCopiesWrong)

/- THE SECOND FORM. 'bulk': how many values and letters a reading holds, each counted each time it is reached (what is shared counts as often as it is met; a slice's spare places count too). A statement '..UptoSaid' is the law's where the arguments, and the package variables that the reading takes, are together of bulk at most 1048576: NARROWER than '..Said'. Prove '..Said' where nothing that the law and all that it calls make is longer than what came in: it says more and counts as full. Else prove '..UptoSaid'. A law counts once. -/
mutual
def uptoBulk {H : Type} : DataW H → Nat
  | .lit (.string bytes) => bytes.length + 1
  | .lit _ => 1
  | .nil => 1
  | .ptr d => uptoBulk d + 1
  | .slice elems spare => uptoBulkAll elems + uptoBulkAll spare + 1
  | .agg parts => uptoBulkAll parts + 1
  | .iface _ d => uptoBulk d + 1
  | .map entries => uptoBulkEntries entries + 1
  | .held _ => 1
def uptoBulkAll {H : Type} : List (DataW H) → Nat
  | [] => 0
  | d :: r => uptoBulk d + uptoBulkAll r
def uptoBulkEntries {H : Type} : List (Lit × DataW H) → Nat
  | [] => 0
  | x :: r => uptoBulkEntry x + uptoBulkEntries r
def uptoBulkEntry {H : Type} : Lit × DataW H → Nat
  | (.string bytes, d) => bytes.length + uptoBulk d + 1
  | (_, d) => uptoBulk d + 1
 end
def uptoSmall : (H : Type) → List (DataW H) → Bool := fun _ ds => decide (uptoBulkAll ds ≤ 1048576)
def OpenSpec.upto (s : _root_.Go.ChangeSpec) : _root_.Go.OpenSpec := { _root_.Go.OpenSpec.ofChange s with cond := some uptoSmall }

/-- 'bodegalaw5.QueuepairOrder', WHERE WHAT IT READS IS OF BULK AT MOST 1048576: true; the input reads as it did. -/
def queuepairOrderUptoRow : OpenClaim := { program := "ytkefjdmoikegbaa", sum := "fe7a3d8f2e3439c03c3bee2b1dc61573db466d53201d61b92d90c74ab9f478fb", func := "bodega/bodegalaw5.QueuepairOrder", spec := "queuepairOrder", unfollowed := true, recurses := true, apart := false, narrowed := true }
def QueuepairOrderUptoSaid : Prop := queuepairOrderUptoRow.holds Try.pinned (OpenSpec.upto queuepairOrderSpec)

/-- 'bodegalaw5.QueuepairNew', WHERE WHAT IT READS IS OF BULK AT MOST 1048576: true; the input reads as it did. -/
def queuepairNewUptoRow : OpenClaim := { program := "ytkefjdmoikegbaa", sum := "fe7a3d8f2e3439c03c3bee2b1dc61573db466d53201d61b92d90c74ab9f478fb", func := "bodega/bodegalaw5.QueuepairNew", spec := "queuepairNew", unfollowed := true, recurses := true, apart := false, narrowed := true }
def QueuepairNewUptoSaid : Prop := queuepairNewUptoRow.holds Try.pinned (OpenSpec.upto queuepairNewSpec)

/-- 'bodegalaw5.QueuepairTorn', WHERE WHAT IT READS IS OF BULK AT MOST 1048576: true; the input reads as it did. -/
def queuepairTornUptoRow : OpenClaim := { program := "ytkefjdmoikegbaa", sum := "fe7a3d8f2e3439c03c3bee2b1dc61573db466d53201d61b92d90c74ab9f478fb", func := "bodega/bodegalaw5.QueuepairTorn", spec := "queuepairTorn", unfollowed := true, recurses := true, apart := false, narrowed := true }
def QueuepairTornUptoSaid : Prop := queuepairTornUptoRow.holds Try.pinned (OpenSpec.upto queuepairTornSpec)

/-- 'bodegalaw5.QueuepairPlays', WHERE WHAT IT READS IS OF BULK AT MOST 1048576: true; the input reads as it did. -/
def queuepairPlaysUptoRow : OpenClaim := { program := "ytkefjdmoikegbaa", sum := "fe7a3d8f2e3439c03c3bee2b1dc61573db466d53201d61b92d90c74ab9f478fb", func := "bodega/bodegalaw5.QueuepairPlays", spec := "queuepairPlays", unfollowed := true, recurses := true, apart := false, narrowed := true }
def QueuepairPlaysUptoSaid : Prop := queuepairPlaysUptoRow.holds Try.pinned (OpenSpec.upto queuepairPlaysSpec)

/-- 'bodegalaw5.QueuepairCopies', WHERE WHAT IT READS IS OF BULK AT MOST 1048576: true; the input reads as it did. -/
def queuepairCopiesUptoRow : OpenClaim := { program := "ytkefjdmoikegbaa", sum := "fe7a3d8f2e3439c03c3bee2b1dc61573db466d53201d61b92d90c74ab9f478fb", func := "bodega/bodegalaw5.QueuepairCopies", spec := "queuepairCopies", unfollowed := true, recurses := true, apart := false, narrowed := true }
def QueuepairCopiesUptoSaid : Prop := queuepairCopiesUptoRow.holds Try.pinned (OpenSpec.upto queuepairCopiesSpec)

end Rows
end Go.Proofs.Ytkefjdmoikegbaa
