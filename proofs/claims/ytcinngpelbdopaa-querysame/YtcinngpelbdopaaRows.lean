/-
  No cell of these rows narrows 'for every input' (looked for: loops, veiled, ifaces, maps, wideKeys, modest, calm, conditions, laid).
  DERIVED. THE GIVEN ROWS OF THIS SEAT. 7 by the template 'for every input the law returns true; each argument reads behind the call as it read before'; 0 by the template 'total and deterministic' (their statements: YtcinngpelbdopaaTotals.lean).
  GIVEN WITH THE SEED: the statements are not yours to turn. If you find one false, say at which input.
  Laid BY PROGRAM, IN A SANDBOX (cutbox-rows.mjs): the forced cells as the released guide's own fill.sh prints them over the translation 77e1cb0421d7dd96… (all of the seat's roots in one cut). By AI agents, Wed Nov 11 2026. No macro, syntax, notation, axiom, sorry.
-/
import Derived.Test.YtcinngpelbdopaaChecked
import GoSem.Claim
import GoSem.ClaimJoined
import GoSem.ClaimMapViews
import Derived.JoinedTies
import Derived.KernelRfl
namespace Go.Proofs.Ytcinngpelbdopaa
/- THE CELL 'sum', in the pinned program and in every row, IS THE sha256 OF THE DUMP (.gsa) THAT YtcinngpelbdopaaProg.lean LOADS. Nothing in Lean hashes anything: it is a label: what it is worth is what the hold of that sum in a sandbox is worth. -/
noncomputable def Try.pinned : Pinned := { name := "ytcinngpelbdopaa", sum := "77e1cb0421d7dd96f3eebd99c11131aaf46ec603036371af75427a8c2749f780", checked := Try.checked }
namespace Rows
def none {H : Type} : Left H := { results := [], args := [] }

/-- 'bodegalaw29.QueryFormats': WHATEVER THE INPUT: true; the input reads as it did. -/
def queryFormatsSpec : ChangeSpec := { name := "queryFormats", fn := fun _ => fun
  | [d1, d2] => { results := [.lit (.bool true)], args := [d1, d2] }
  | _ => none }
def queryFormatsRow : OpenClaim := { program := "ytcinngpelbdopaa", sum := "77e1cb0421d7dd96f3eebd99c11131aaf46ec603036371af75427a8c2749f780", func := "bodega/bodegalaw29.QueryFormats", spec := "queryFormats", inPlace := ["internal/abi.NoEscape", "internal/bytealg.MakeNoZero", "internal/bytealg.IndexByteString", "internal/bytealg.IndexString"], named := ["internal/bytealg.MaxLen"], apart := false }
def QueryFormatsSaid : Prop := queryFormatsRow.holds Try.pinned (OpenSpec.ofChange queryFormatsSpec)

/-- ITS FALSE NEIGHBOUR: 'it returns false'. Refute it at one input. -/
def queryFormatsWrong : ChangeSpec := { name := "queryFormats", fn := fun _ => fun
  | [d1, d2] => { results := [.lit (.bool false)], args := [d1, d2] }
  | _ => none }
def QueryFormatsWrongFalsely : Prop := queryFormatsRow.holds Try.pinned (OpenSpec.ofChange queryFormatsWrong)

/-- 'bodegalaw29.QueryBack': WHATEVER THE INPUT: true; the input reads as it did. -/
def queryBackSpec : ChangeSpec := { name := "queryBack", fn := fun _ => fun
  | [d1, d2] => { results := [.lit (.bool true)], args := [d1, d2] }
  | _ => none }
def queryBackRow : OpenClaim := { program := "ytcinngpelbdopaa", sum := "77e1cb0421d7dd96f3eebd99c11131aaf46ec603036371af75427a8c2749f780", func := "bodega/bodegalaw29.QueryBack", spec := "queryBack", inPlace := ["internal/abi.NoEscape", "internal/bytealg.MakeNoZero", "internal/bytealg.IndexByteString", "internal/bytealg.IndexString"], named := ["internal/bytealg.MaxLen"], apart := false }
def QueryBackSaid : Prop := queryBackRow.holds Try.pinned (OpenSpec.ofChange queryBackSpec)

/-- ITS FALSE NEIGHBOUR: 'it returns false'. Refute it at one input. -/
def queryBackWrong : ChangeSpec := { name := "queryBack", fn := fun _ => fun
  | [d1, d2] => { results := [.lit (.bool false)], args := [d1, d2] }
  | _ => none }
def QueryBackWrongFalsely : Prop := queryBackRow.holds Try.pinned (OpenSpec.ofChange queryBackWrong)

/-- 'bodegalaw29.QueryParses': WHATEVER THE INPUT: true; the input reads as it did. -/
def queryParsesSpec : ChangeSpec := { name := "queryParses", fn := fun _ => fun
  | [d1, d2, d3] => { results := [.lit (.bool true)], args := [d1, d2, d3] }
  | _ => none }
def queryParsesRow : OpenClaim := { program := "ytcinngpelbdopaa", sum := "77e1cb0421d7dd96f3eebd99c11131aaf46ec603036371af75427a8c2749f780", func := "bodega/bodegalaw29.QueryParses", spec := "queryParses", inPlace := ["internal/bytealg.IndexByteString", "internal/bytealg.IndexString", "internal/abi.NoEscape", "internal/bytealg.MakeNoZero"], named := ["internal/bytealg.MaxLen"], apart := false }
def QueryParsesSaid : Prop := queryParsesRow.holds Try.pinned (OpenSpec.ofChange queryParsesSpec)

/-- ITS FALSE NEIGHBOUR: 'it returns false'. Refute it at one input. -/
def queryParsesWrong : ChangeSpec := { name := "queryParses", fn := fun _ => fun
  | [d1, d2, d3] => { results := [.lit (.bool false)], args := [d1, d2, d3] }
  | _ => none }
def QueryParsesWrongFalsely : Prop := queryParsesRow.holds Try.pinned (OpenSpec.ofChange queryParsesWrong)

/-- 'bodegalaw29.QueryBlanks': WHATEVER THE INPUT: true; the input reads as it did. -/
def queryBlanksSpec : ChangeSpec := { name := "queryBlanks", fn := fun _ => fun
  | [d1, d2, d3] => { results := [.lit (.bool true)], args := [d1, d2, d3] }
  | _ => none }
def queryBlanksRow : OpenClaim := { program := "ytcinngpelbdopaa", sum := "77e1cb0421d7dd96f3eebd99c11131aaf46ec603036371af75427a8c2749f780", func := "bodega/bodegalaw29.QueryBlanks", spec := "queryBlanks", inPlace := ["internal/abi.NoEscape", "internal/bytealg.MakeNoZero", "internal/bytealg.IndexByteString", "internal/bytealg.IndexString"], named := ["internal/bytealg.MaxLen"], apart := false }
def QueryBlanksSaid : Prop := queryBlanksRow.holds Try.pinned (OpenSpec.ofChange queryBlanksSpec)

/-- ITS FALSE NEIGHBOUR: 'it returns false'. Refute it at one input. -/
def queryBlanksWrong : ChangeSpec := { name := "queryBlanks", fn := fun _ => fun
  | [d1, d2, d3] => { results := [.lit (.bool false)], args := [d1, d2, d3] }
  | _ => none }
def QueryBlanksWrongFalsely : Prop := queryBlanksRow.holds Try.pinned (OpenSpec.ofChange queryBlanksWrong)

/-- 'bodegalaw29.QueryValid': WHATEVER THE INPUT: true; the input reads as it did. -/
def queryValidSpec : ChangeSpec := { name := "queryValid", fn := fun _ => fun
  | [d1, d2] => { results := [.lit (.bool true)], args := [d1, d2] }
  | _ => none }
def queryValidRow : OpenClaim := { program := "ytcinngpelbdopaa", sum := "77e1cb0421d7dd96f3eebd99c11131aaf46ec603036371af75427a8c2749f780", func := "bodega/bodegalaw29.QueryValid", spec := "queryValid", inPlace := ["internal/bytealg.IndexByteString", "internal/bytealg.IndexString", "internal/abi.NoEscape", "internal/bytealg.MakeNoZero"], named := ["internal/bytealg.MaxLen"], apart := false }
def QueryValidSaid : Prop := queryValidRow.holds Try.pinned (OpenSpec.ofChange queryValidSpec)

/-- ITS FALSE NEIGHBOUR: 'it returns false'. Refute it at one input. -/
def queryValidWrong : ChangeSpec := { name := "queryValid", fn := fun _ => fun
  | [d1, d2] => { results := [.lit (.bool false)], args := [d1, d2] }
  | _ => none }
def QueryValidWrongFalsely : Prop := queryValidRow.holds Try.pinned (OpenSpec.ofChange queryValidWrong)

/-- 'bodegalaw29.QueryConditions': WHATEVER THE INPUT: true; the input reads as it did. -/
def queryConditionsSpec : ChangeSpec := { name := "queryConditions", fn := fun _ => fun
  | [d1, d2, d3] => { results := [.lit (.bool true)], args := [d1, d2, d3] }
  | _ => none }
def queryConditionsRow : OpenClaim := { program := "ytcinngpelbdopaa", sum := "77e1cb0421d7dd96f3eebd99c11131aaf46ec603036371af75427a8c2749f780", func := "bodega/bodegalaw29.QueryConditions", spec := "queryConditions", inPlace := ["internal/bytealg.IndexByteString", "internal/bytealg.IndexString", "internal/abi.NoEscape", "internal/bytealg.MakeNoZero"], named := ["internal/bytealg.MaxLen"], apart := false }
def QueryConditionsSaid : Prop := queryConditionsRow.holds Try.pinned (OpenSpec.ofChange queryConditionsSpec)

/-- ITS FALSE NEIGHBOUR: 'it returns false'. Refute it at one input. -/
def queryConditionsWrong : ChangeSpec := { name := "queryConditions", fn := fun _ => fun
  | [d1, d2, d3] => { results := [.lit (.bool false)], args := [d1, d2, d3] }
  | _ => none }
def QueryConditionsWrongFalsely : Prop := queryConditionsRow.holds Try.pinned (OpenSpec.ofChange queryConditionsWrong)

/-- 'bodegalaw29.QuerySame': WHATEVER THE INPUT: true; the input reads as it did. -/
def querySameSpec : ChangeSpec := { name := "querySame", fn := fun _ => fun
  | [d1, d2, d3] => { results := [.lit (.bool true)], args := [d1, d2, d3] }
  | _ => none }
def querySameRow : OpenClaim := { program := "ytcinngpelbdopaa", sum := "77e1cb0421d7dd96f3eebd99c11131aaf46ec603036371af75427a8c2749f780", func := "bodega/bodegalaw29.QuerySame", spec := "querySame", inPlace := ["internal/bytealg.IndexByteString", "internal/bytealg.IndexString", "internal/abi.NoEscape", "internal/bytealg.MakeNoZero"], unfollowed := true, recurses := true, named := ["internal/bytealg.MaxLen"], apart := false }
def QuerySameSaid : Prop := querySameRow.holds Try.pinned (OpenSpec.ofChange querySameSpec)

/-- ITS FALSE NEIGHBOUR: 'it returns false'. Refute it at one input. -/
def querySameWrong : ChangeSpec := { name := "querySame", fn := fun _ => fun
  | [d1, d2, d3] => { results := [.lit (.bool false)], args := [d1, d2, d3] }
  | _ => none }
def QuerySameWrongFalsely : Prop := querySameRow.holds Try.pinned (OpenSpec.ofChange querySameWrong)

/- THE SECOND FORM. 'bulk': how many values and letters a reading holds, each counted each time it is reached (what is shared counts as often as it is met; a slice's spare places count too). A statement '..UptoSaid' is the law's where the arguments, and the package variables that the reading takes, are together of bulk at most 1048576: NARROWER than '..Said'. Prove '..Said' where nothing that the law and all that it calls make is longer than what came in: it says more and counts as full. Else prove '..UptoSaid'. A law counts once. -/
mutual
def uptoBulk {H : Type} : DataW H → Nat
  | .lit (.string bytes) => bytes.length + 1
  | .lit _ => 1
  | .nil => 1
  | .ptr d => uptoBulk d + 1
  | .slice elems spare => uptoBulkAll elems + uptoBulkAll spare + 1
  | .agg parts => uptoBulkAll parts + 1
  | .iface _ d => uptoBulk d + 1
  | .map entries => uptoBulkEntries entries + 1
  | .held _ => 1
def uptoBulkAll {H : Type} : List (DataW H) → Nat
  | [] => 0
  | d :: r => uptoBulk d + uptoBulkAll r
def uptoBulkEntries {H : Type} : List (Lit × DataW H) → Nat
  | [] => 0
  | x :: r => uptoBulkEntry x + uptoBulkEntries r
def uptoBulkEntry {H : Type} : Lit × DataW H → Nat
  | (.string bytes, d) => bytes.length + uptoBulk d + 1
  | (_, d) => uptoBulk d + 1
 end
def uptoSmall : (H : Type) → List (DataW H) → Bool := fun _ ds => decide (uptoBulkAll ds ≤ 1048576)
def OpenSpec.upto (s : _root_.Go.ChangeSpec) : _root_.Go.OpenSpec := { _root_.Go.OpenSpec.ofChange s with cond := some uptoSmall }

/-- 'bodegalaw29.QueryFormats', WHERE WHAT IT READS IS OF BULK AT MOST 1048576: true; the input reads as it did. -/
def queryFormatsUptoRow : OpenClaim := { program := "ytcinngpelbdopaa", sum := "77e1cb0421d7dd96f3eebd99c11131aaf46ec603036371af75427a8c2749f780", func := "bodega/bodegalaw29.QueryFormats", spec := "queryFormats", inPlace := ["internal/abi.NoEscape", "internal/bytealg.MakeNoZero", "internal/bytealg.IndexByteString", "internal/bytealg.IndexString"], named := ["internal/bytealg.MaxLen"], apart := false, narrowed := true }
def QueryFormatsUptoSaid : Prop := queryFormatsUptoRow.holds Try.pinned (OpenSpec.upto queryFormatsSpec)

/-- 'bodegalaw29.QueryBack', WHERE WHAT IT READS IS OF BULK AT MOST 1048576: true; the input reads as it did. -/
def queryBackUptoRow : OpenClaim := { program := "ytcinngpelbdopaa", sum := "77e1cb0421d7dd96f3eebd99c11131aaf46ec603036371af75427a8c2749f780", func := "bodega/bodegalaw29.QueryBack", spec := "queryBack", inPlace := ["internal/abi.NoEscape", "internal/bytealg.MakeNoZero", "internal/bytealg.IndexByteString", "internal/bytealg.IndexString"], named := ["internal/bytealg.MaxLen"], apart := false, narrowed := true }
def QueryBackUptoSaid : Prop := queryBackUptoRow.holds Try.pinned (OpenSpec.upto queryBackSpec)

/-- 'bodegalaw29.QueryParses', WHERE WHAT IT READS IS OF BULK AT MOST 1048576: true; the input reads as it did. -/
def queryParsesUptoRow : OpenClaim := { program := "ytcinngpelbdopaa", sum := "77e1cb0421d7dd96f3eebd99c11131aaf46ec603036371af75427a8c2749f780", func := "bodega/bodegalaw29.QueryParses", spec := "queryParses", inPlace := ["internal/bytealg.IndexByteString", "internal/bytealg.IndexString", "internal/abi.NoEscape", "internal/bytealg.MakeNoZero"], named := ["internal/bytealg.MaxLen"], apart := false, narrowed := true }
def QueryParsesUptoSaid : Prop := queryParsesUptoRow.holds Try.pinned (OpenSpec.upto queryParsesSpec)

/-- 'bodegalaw29.QueryBlanks', WHERE WHAT IT READS IS OF BULK AT MOST 1048576: true; the input reads as it did. -/
def queryBlanksUptoRow : OpenClaim := { program := "ytcinngpelbdopaa", sum := "77e1cb0421d7dd96f3eebd99c11131aaf46ec603036371af75427a8c2749f780", func := "bodega/bodegalaw29.QueryBlanks", spec := "queryBlanks", inPlace := ["internal/abi.NoEscape", "internal/bytealg.MakeNoZero", "internal/bytealg.IndexByteString", "internal/bytealg.IndexString"], named := ["internal/bytealg.MaxLen"], apart := false, narrowed := true }
def QueryBlanksUptoSaid : Prop := queryBlanksUptoRow.holds Try.pinned (OpenSpec.upto queryBlanksSpec)

/-- 'bodegalaw29.QueryValid', WHERE WHAT IT READS IS OF BULK AT MOST 1048576: true; the input reads as it did. -/
def queryValidUptoRow : OpenClaim := { program := "ytcinngpelbdopaa", sum := "77e1cb0421d7dd96f3eebd99c11131aaf46ec603036371af75427a8c2749f780", func := "bodega/bodegalaw29.QueryValid", spec := "queryValid", inPlace := ["internal/bytealg.IndexByteString", "internal/bytealg.IndexString", "internal/abi.NoEscape", "internal/bytealg.MakeNoZero"], named := ["internal/bytealg.MaxLen"], apart := false, narrowed := true }
def QueryValidUptoSaid : Prop := queryValidUptoRow.holds Try.pinned (OpenSpec.upto queryValidSpec)

/-- 'bodegalaw29.QueryConditions', WHERE WHAT IT READS IS OF BULK AT MOST 1048576: true; the input reads as it did. -/
def queryConditionsUptoRow : OpenClaim := { program := "ytcinngpelbdopaa", sum := "77e1cb0421d7dd96f3eebd99c11131aaf46ec603036371af75427a8c2749f780", func := "bodega/bodegalaw29.QueryConditions", spec := "queryConditions", inPlace := ["internal/bytealg.IndexByteString", "internal/bytealg.IndexString", "internal/abi.NoEscape", "internal/bytealg.MakeNoZero"], named := ["internal/bytealg.MaxLen"], apart := false, narrowed := true }
def QueryConditionsUptoSaid : Prop := queryConditionsUptoRow.holds Try.pinned (OpenSpec.upto queryConditionsSpec)

/-- 'bodegalaw29.QuerySame', WHERE WHAT IT READS IS OF BULK AT MOST 1048576: true; the input reads as it did. -/
def querySameUptoRow : OpenClaim := { program := "ytcinngpelbdopaa", sum := "77e1cb0421d7dd96f3eebd99c11131aaf46ec603036371af75427a8c2749f780", func := "bodega/bodegalaw29.QuerySame", spec := "querySame", inPlace := ["internal/bytealg.IndexByteString", "internal/bytealg.IndexString", "internal/abi.NoEscape", "internal/bytealg.MakeNoZero"], unfollowed := true, recurses := true, named := ["internal/bytealg.MaxLen"], apart := false, narrowed := true }
def QuerySameUptoSaid : Prop := querySameUptoRow.holds Try.pinned (OpenSpec.upto querySameSpec)

end Rows
end Go.Proofs.Ytcinngpelbdopaa
