/-
  No cell of these rows narrows 'for every input' (looked for: loops, veiled, ifaces, maps, wideKeys, modest, calm, conditions, laid).
  DERIVED. THE GIVEN ROWS OF THIS SEAT. 4 by the template 'for every input the law returns true; each argument reads behind the call as it read before'; 0 by the template 'total and deterministic' (their statements: YtniocbmadbaojaaTotals.lean).
  GIVEN WITH THE SEED: the statements are not yours to turn. If you find one false, say at which input.
  Laid BY PROGRAM, IN A SANDBOX (cutbox-rows.mjs): the forced cells as the released guide's own fill.sh prints them over the translation 3f8d2aae8c7bf469… (all of the seat's roots in one cut). By AI agents, Wed Nov 11 2026. No macro, syntax, notation, axiom, sorry.
-/
import Derived.Test.YtniocbmadbaojaaChecked
import GoSem.Claim
import GoSem.ClaimJoined
import GoSem.ClaimMapViews
import Derived.JoinedTies
import Derived.KernelRfl
namespace Go.Proofs.Ytniocbmadbaojaa
/- THE CELL 'sum', in the pinned program and in every row, IS THE sha256 OF THE DUMP (.gsa) THAT YtniocbmadbaojaaProg.lean LOADS. Nothing in Lean hashes anything: it is a label: what it is worth is what the hold of that sum in a sandbox is worth. -/
noncomputable def Try.pinned : Pinned := { name := "ytniocbmadbaojaa", sum := "3f8d2aae8c7bf4699189eeb66d49119ea88c0550fbd2a56f8005571f49dcbd19", checked := Try.checked }
namespace Rows
def none {H : Type} : Left H := { results := [], args := [] }

/-- 'bodegalaw7.LayoutApart': WHATEVER THE INPUT: true; the input reads as it did. -/
def layoutApartSpec : ChangeSpec := { name := "layoutApart", fn := fun _ => fun
  | [] => { results := [.lit (.bool true)], args := [] }
  | _ => none }
def layoutApartRow : OpenClaim := { program := "ytniocbmadbaojaa", sum := "3f8d2aae8c7bf4699189eeb66d49119ea88c0550fbd2a56f8005571f49dcbd19", func := "bodega/bodegalaw7.LayoutApart", spec := "layoutApart", unfollowed := true, recurses := true, apart := false }
def LayoutApartSaid : Prop := layoutApartRow.holds Try.pinned (OpenSpec.ofChange layoutApartSpec)

/-- ITS FALSE NEIGHBOUR: 'it returns false'. Refute it at one input. -/
def layoutApartWrong : ChangeSpec := { name := "layoutApart", fn := fun _ => fun
  | [] => { results := [.lit (.bool false)], args := [] }
  | _ => none }
def LayoutApartWrongFalsely : Prop := layoutApartRow.holds Try.pinned (OpenSpec.ofChange layoutApartWrong)

/-- 'bodegalaw7.LayoutAddresses': WHATEVER THE INPUT: true; the input reads as it did. -/
def layoutAddressesSpec : ChangeSpec := { name := "layoutAddresses", fn := fun _ => fun
  | [d1, d2, d3, d4, d5, d6] => { results := [.lit (.bool true)], args := [d1, d2, d3, d4, d5, d6] }
  | _ => none }
def layoutAddressesRow : OpenClaim := { program := "ytniocbmadbaojaa", sum := "3f8d2aae8c7bf4699189eeb66d49119ea88c0550fbd2a56f8005571f49dcbd19", func := "bodega/bodegalaw7.LayoutAddresses", spec := "layoutAddresses", unfollowed := true, recurses := true, apart := false }
def LayoutAddressesSaid : Prop := layoutAddressesRow.holds Try.pinned (OpenSpec.ofChange layoutAddressesSpec)

/-- ITS FALSE NEIGHBOUR: 'it returns false'. Refute it at one input. -/
def layoutAddressesWrong : ChangeSpec := { name := "layoutAddresses", fn := fun _ => fun
  | [d1, d2, d3, d4, d5, d6] => { results := [.lit (.bool false)], args := [d1, d2, d3, d4, d5, d6] }
  | _ => none }
def LayoutAddressesWrongFalsely : Prop := layoutAddressesRow.holds Try.pinned (OpenSpec.ofChange layoutAddressesWrong)

/-- 'bodegalaw7.LayoutFormats': WHATEVER THE INPUT: true; the input reads as it did. -/
def layoutFormatsSpec : ChangeSpec := { name := "layoutFormats", fn := fun _ => fun
  | [d1, d2, d3, d4] => { results := [.lit (.bool true)], args := [d1, d2, d3, d4] }
  | _ => none }
def layoutFormatsRow : OpenClaim := { program := "ytniocbmadbaojaa", sum := "3f8d2aae8c7bf4699189eeb66d49119ea88c0550fbd2a56f8005571f49dcbd19", func := "bodega/bodegalaw7.LayoutFormats", spec := "layoutFormats", unfollowed := true, recurses := true, apart := false }
def LayoutFormatsSaid : Prop := layoutFormatsRow.holds Try.pinned (OpenSpec.ofChange layoutFormatsSpec)

/-- ITS FALSE NEIGHBOUR: 'it returns false'. Refute it at one input. -/
def layoutFormatsWrong : ChangeSpec := { name := "layoutFormats", fn := fun _ => fun
  | [d1, d2, d3, d4] => { results := [.lit (.bool false)], args := [d1, d2, d3, d4] }
  | _ => none }
def LayoutFormatsWrongFalsely : Prop := layoutFormatsRow.holds Try.pinned (OpenSpec.ofChange layoutFormatsWrong)

/-- 'bodegalaw7.LayoutFormatsAll': WHATEVER THE INPUT: true; the input reads as it did. -/
def layoutFormatsAllSpec : ChangeSpec := { name := "layoutFormatsAll", fn := fun _ => fun
  | [d1, d2] => { results := [.lit (.bool true)], args := [d1, d2] }
  | _ => none }
def layoutFormatsAllRow : OpenClaim := { program := "ytniocbmadbaojaa", sum := "3f8d2aae8c7bf4699189eeb66d49119ea88c0550fbd2a56f8005571f49dcbd19", func := "bodega/bodegalaw7.LayoutFormatsAll", spec := "layoutFormatsAll", unfollowed := true, recurses := true, apart := false }
def LayoutFormatsAllSaid : Prop := layoutFormatsAllRow.holds Try.pinned (OpenSpec.ofChange layoutFormatsAllSpec)

/-- ITS FALSE NEIGHBOUR: 'it returns false'. Refute it at one input. -/
def layoutFormatsAllWrong : ChangeSpec := { name := "layoutFormatsAll", fn := fun _ => fun
  | [d1, d2] => { results := [.lit (.bool false)], args := [d1, d2] }
  | _ => none }
def LayoutFormatsAllWrongFalsely : Prop := layoutFormatsAllRow.holds Try.pinned (OpenSpec.ofChange layoutFormatsAllWrong)

/- THE SECOND FORM. 'bulk': how many values and letters a reading holds, each counted each time it is reached (what is shared counts as often as it is met; a slice's spare places count too). A statement '..UptoSaid' is the law's where the arguments, and the package variables that the reading takes, are together of bulk at most 1048576: NARROWER than '..Said'. Prove '..Said' where nothing that the law and all that it calls make is longer than what came in: it says more and counts as full. Else prove '..UptoSaid'. A law counts once. -/
mutual
def uptoBulk {H : Type} : DataW H → Nat
  | .lit (.string bytes) => bytes.length + 1
  | .lit _ => 1
  | .nil => 1
  | .ptr d => uptoBulk d + 1
  | .slice elems spare => uptoBulkAll elems + uptoBulkAll spare + 1
  | .agg parts => uptoBulkAll parts + 1
  | .iface _ d => uptoBulk d + 1
  | .map entries => uptoBulkEntries entries + 1
  | .held _ => 1
def uptoBulkAll {H : Type} : List (DataW H) → Nat
  | [] => 0
  | d :: r => uptoBulk d + uptoBulkAll r
def uptoBulkEntries {H : Type} : List (Lit × DataW H) → Nat
  | [] => 0
  | x :: r => uptoBulkEntry x + uptoBulkEntries r
def uptoBulkEntry {H : Type} : Lit × DataW H → Nat
  | (.string bytes, d) => bytes.length + uptoBulk d + 1
  | (_, d) => uptoBulk d + 1
 end
def uptoSmall : (H : Type) → List (DataW H) → Bool := fun _ ds => decide (uptoBulkAll ds ≤ 1048576)
def OpenSpec.upto (s : _root_.Go.ChangeSpec) : _root_.Go.OpenSpec := { _root_.Go.OpenSpec.ofChange s with cond := some uptoSmall }

/-- 'bodegalaw7.LayoutApart', WHERE WHAT IT READS IS OF BULK AT MOST 1048576: true; the input reads as it did. -/
def layoutApartUptoRow : OpenClaim := { program := "ytniocbmadbaojaa", sum := "3f8d2aae8c7bf4699189eeb66d49119ea88c0550fbd2a56f8005571f49dcbd19", func := "bodega/bodegalaw7.LayoutApart", spec := "layoutApart", unfollowed := true, recurses := true, apart := false, narrowed := true }
def LayoutApartUptoSaid : Prop := layoutApartUptoRow.holds Try.pinned (OpenSpec.upto layoutApartSpec)

/-- 'bodegalaw7.LayoutAddresses', WHERE WHAT IT READS IS OF BULK AT MOST 1048576: true; the input reads as it did. -/
def layoutAddressesUptoRow : OpenClaim := { program := "ytniocbmadbaojaa", sum := "3f8d2aae8c7bf4699189eeb66d49119ea88c0550fbd2a56f8005571f49dcbd19", func := "bodega/bodegalaw7.LayoutAddresses", spec := "layoutAddresses", unfollowed := true, recurses := true, apart := false, narrowed := true }
def LayoutAddressesUptoSaid : Prop := layoutAddressesUptoRow.holds Try.pinned (OpenSpec.upto layoutAddressesSpec)

/-- 'bodegalaw7.LayoutFormats', WHERE WHAT IT READS IS OF BULK AT MOST 1048576: true; the input reads as it did. -/
def layoutFormatsUptoRow : OpenClaim := { program := "ytniocbmadbaojaa", sum := "3f8d2aae8c7bf4699189eeb66d49119ea88c0550fbd2a56f8005571f49dcbd19", func := "bodega/bodegalaw7.LayoutFormats", spec := "layoutFormats", unfollowed := true, recurses := true, apart := false, narrowed := true }
def LayoutFormatsUptoSaid : Prop := layoutFormatsUptoRow.holds Try.pinned (OpenSpec.upto layoutFormatsSpec)

/-- 'bodegalaw7.LayoutFormatsAll', WHERE WHAT IT READS IS OF BULK AT MOST 1048576: true; the input reads as it did. -/
def layoutFormatsAllUptoRow : OpenClaim := { program := "ytniocbmadbaojaa", sum := "3f8d2aae8c7bf4699189eeb66d49119ea88c0550fbd2a56f8005571f49dcbd19", func := "bodega/bodegalaw7.LayoutFormatsAll", spec := "layoutFormatsAll", unfollowed := true, recurses := true, apart := false, narrowed := true }
def LayoutFormatsAllUptoSaid : Prop := layoutFormatsAllUptoRow.holds Try.pinned (OpenSpec.upto layoutFormatsAllSpec)

end Rows
end Go.Proofs.Ytniocbmadbaojaa
