/-
  No cell of these rows narrows 'for every input' (looked for: loops, veiled, ifaces, maps, wideKeys, modest, calm, conditions, laid).
  DERIVED. THE GIVEN ROWS OF THIS SEAT. 8 by the template 'for every input the law returns true; each argument reads behind the call as it read before'; 0 by the template 'total and deterministic' (their statements: YtcalaooabgklbaaTotals.lean).
  GIVEN WITH THE SEED: the statements are not yours to turn. If you find one false, say at which input.
  Laid BY PROGRAM, IN A SANDBOX (cutbox-rows.mjs): the forced cells as the released guide's own fill.sh prints them over the translation bb6abbdddd3ac65d… (all of the seat's roots in one cut). By AI agents, Wed Nov 11 2026. No macro, syntax, notation, axiom, sorry.
-/
import Derived.Test.YtcalaooabgklbaaChecked
import GoSem.Claim
import GoSem.ClaimJoined
import GoSem.ClaimMapViews
import Derived.JoinedTies
import Derived.KernelRfl
namespace Go.Proofs.Ytcalaooabgklbaa
/- THE CELL 'sum', in the pinned program and in every row, IS THE sha256 OF THE DUMP (.gsa) THAT YtcalaooabgklbaaProg.lean LOADS. Nothing in Lean hashes anything: it is a label: what it is worth is what the hold of that sum in a sandbox is worth. -/
noncomputable def Try.pinned : Pinned := { name := "ytcalaooabgklbaa", sum := "bb6abbdddd3ac65d75e55a13aefd68e953261e1e20718dfb4f34dcef38bd8db0", checked := Try.checked }
namespace Rows
def none {H : Type} : Left H := { results := [], args := [] }

/-- 'bodegalaw19.PointerWords': WHATEVER THE INPUT: true; the input reads as it did. -/
def pointerWordsSpec : ChangeSpec := { name := "pointerWords", fn := fun _ => fun
  | [d1, d2] => { results := [.lit (.bool true)], args := [d1, d2] }
  | _ => none }
def pointerWordsRow : OpenClaim := { program := "ytcalaooabgklbaa", sum := "bb6abbdddd3ac65d75e55a13aefd68e953261e1e20718dfb4f34dcef38bd8db0", func := "bodega/bodegalaw19.PointerWords", spec := "pointerWords", apart := false }
def PointerWordsSaid : Prop := pointerWordsRow.holds Try.pinned (OpenSpec.ofChange pointerWordsSpec)

/-- ITS FALSE NEIGHBOUR: 'it returns false'. Refute it at one input. -/
def pointerWordsWrong : ChangeSpec := { name := "pointerWords", fn := fun _ => fun
  | [d1, d2] => { results := [.lit (.bool false)], args := [d1, d2] }
  | _ => none }
def PointerWordsWrongFalsely : Prop := pointerWordsRow.holds Try.pinned (OpenSpec.ofChange pointerWordsWrong)

/-- 'bodegalaw19.PointerRound': WHATEVER THE INPUT: true; the input reads as it did. -/
def pointerRoundSpec : ChangeSpec := { name := "pointerRound", fn := fun _ => fun
  | [d1, d2, d3] => { results := [.lit (.bool true)], args := [d1, d2, d3] }
  | _ => none }
def pointerRoundRow : OpenClaim := { program := "ytcalaooabgklbaa", sum := "bb6abbdddd3ac65d75e55a13aefd68e953261e1e20718dfb4f34dcef38bd8db0", func := "bodega/bodegalaw19.PointerRound", spec := "pointerRound", apart := false }
def PointerRoundSaid : Prop := pointerRoundRow.holds Try.pinned (OpenSpec.ofChange pointerRoundSpec)

/-- ITS FALSE NEIGHBOUR: 'it returns false'. Refute it at one input. -/
def pointerRoundWrong : ChangeSpec := { name := "pointerRound", fn := fun _ => fun
  | [d1, d2, d3] => { results := [.lit (.bool false)], args := [d1, d2, d3] }
  | _ => none }
def PointerRoundWrongFalsely : Prop := pointerRoundRow.holds Try.pinned (OpenSpec.ofChange pointerRoundWrong)

/-- 'bodegalaw19.PointerLatest': WHATEVER THE INPUT: true; the input reads as it did. -/
def pointerLatestSpec : ChangeSpec := { name := "pointerLatest", fn := fun _ => fun
  | [d1, d2, d3] => { results := [.lit (.bool true)], args := [d1, d2, d3] }
  | _ => none }
def pointerLatestRow : OpenClaim := { program := "ytcalaooabgklbaa", sum := "bb6abbdddd3ac65d75e55a13aefd68e953261e1e20718dfb4f34dcef38bd8db0", func := "bodega/bodegalaw19.PointerLatest", spec := "pointerLatest", apart := false }
def PointerLatestSaid : Prop := pointerLatestRow.holds Try.pinned (OpenSpec.ofChange pointerLatestSpec)

/-- ITS FALSE NEIGHBOUR: 'it returns false'. Refute it at one input. -/
def pointerLatestWrong : ChangeSpec := { name := "pointerLatest", fn := fun _ => fun
  | [d1, d2, d3] => { results := [.lit (.bool false)], args := [d1, d2, d3] }
  | _ => none }
def PointerLatestWrongFalsely : Prop := pointerLatestRow.holds Try.pinned (OpenSpec.ofChange pointerLatestWrong)

/-- 'bodegalaw19.PointerAllocates': WHATEVER THE INPUT: true; the input reads as it did. -/
def pointerAllocatesSpec : ChangeSpec := { name := "pointerAllocates", fn := fun _ => fun
  | [d1, d2, d3] => { results := [.lit (.bool true)], args := [d1, d2, d3] }
  | _ => none }
def pointerAllocatesRow : OpenClaim := { program := "ytcalaooabgklbaa", sum := "bb6abbdddd3ac65d75e55a13aefd68e953261e1e20718dfb4f34dcef38bd8db0", func := "bodega/bodegalaw19.PointerAllocates", spec := "pointerAllocates", apart := false }
def PointerAllocatesSaid : Prop := pointerAllocatesRow.holds Try.pinned (OpenSpec.ofChange pointerAllocatesSpec)

/-- ITS FALSE NEIGHBOUR: 'it returns false'. Refute it at one input. -/
def pointerAllocatesWrong : ChangeSpec := { name := "pointerAllocates", fn := fun _ => fun
  | [d1, d2, d3] => { results := [.lit (.bool false)], args := [d1, d2, d3] }
  | _ => none }
def PointerAllocatesWrongFalsely : Prop := pointerAllocatesRow.holds Try.pinned (OpenSpec.ofChange pointerAllocatesWrong)

/-- 'bodegalaw19.PointerLooks': WHATEVER THE INPUT: true; the input reads as it did. -/
def pointerLooksSpec : ChangeSpec := { name := "pointerLooks", fn := fun _ => fun
  | [d] => { results := [.lit (.bool true)], args := [d] }
  | _ => none }
def pointerLooksRow : OpenClaim := { program := "ytcalaooabgklbaa", sum := "bb6abbdddd3ac65d75e55a13aefd68e953261e1e20718dfb4f34dcef38bd8db0", func := "bodega/bodegalaw19.PointerLooks", spec := "pointerLooks", apart := false }
def PointerLooksSaid : Prop := pointerLooksRow.holds Try.pinned (OpenSpec.ofChange pointerLooksSpec)

/-- ITS FALSE NEIGHBOUR: 'it returns false'. Refute it at one input. -/
def pointerLooksWrong : ChangeSpec := { name := "pointerLooks", fn := fun _ => fun
  | [d] => { results := [.lit (.bool false)], args := [d] }
  | _ => none }
def PointerLooksWrongFalsely : Prop := pointerLooksRow.holds Try.pinned (OpenSpec.ofChange pointerLooksWrong)

/-- 'bodegalaw19.PointerRaw': WHATEVER THE INPUT: true; the input reads as it did. -/
def pointerRawSpec : ChangeSpec := { name := "pointerRaw", fn := fun _ => fun
  | [d1, d2, d3] => { results := [.lit (.bool true)], args := [d1, d2, d3] }
  | _ => none }
def pointerRawRow : OpenClaim := { program := "ytcalaooabgklbaa", sum := "bb6abbdddd3ac65d75e55a13aefd68e953261e1e20718dfb4f34dcef38bd8db0", func := "bodega/bodegalaw19.PointerRaw", spec := "pointerRaw", apart := false }
def PointerRawSaid : Prop := pointerRawRow.holds Try.pinned (OpenSpec.ofChange pointerRawSpec)

/-- ITS FALSE NEIGHBOUR: 'it returns false'. Refute it at one input. -/
def pointerRawWrong : ChangeSpec := { name := "pointerRaw", fn := fun _ => fun
  | [d1, d2, d3] => { results := [.lit (.bool false)], args := [d1, d2, d3] }
  | _ => none }
def PointerRawWrongFalsely : Prop := pointerRawRow.holds Try.pinned (OpenSpec.ofChange pointerRawWrong)

/-- 'bodegalaw19.PointerStale': WHATEVER THE INPUT: true; the input reads as it did. -/
def pointerStaleSpec : ChangeSpec := { name := "pointerStale", fn := fun _ => fun
  | [d1, d2, d3, d4] => { results := [.lit (.bool true)], args := [d1, d2, d3, d4] }
  | _ => none }
def pointerStaleRow : OpenClaim := { program := "ytcalaooabgklbaa", sum := "bb6abbdddd3ac65d75e55a13aefd68e953261e1e20718dfb4f34dcef38bd8db0", func := "bodega/bodegalaw19.PointerStale", spec := "pointerStale", apart := false }
def PointerStaleSaid : Prop := pointerStaleRow.holds Try.pinned (OpenSpec.ofChange pointerStaleSpec)

/-- ITS FALSE NEIGHBOUR: 'it returns false'. Refute it at one input. -/
def pointerStaleWrong : ChangeSpec := { name := "pointerStale", fn := fun _ => fun
  | [d1, d2, d3, d4] => { results := [.lit (.bool false)], args := [d1, d2, d3, d4] }
  | _ => none }
def PointerStaleWrongFalsely : Prop := pointerStaleRow.holds Try.pinned (OpenSpec.ofChange pointerStaleWrong)

/-- 'bodegalaw19.PointerLocked': WHATEVER THE INPUT: true; the input reads as it did. -/
def pointerLockedSpec : ChangeSpec := { name := "pointerLocked", fn := fun _ => fun
  | [d1, d2, d3] => { results := [.lit (.bool true)], args := [d1, d2, d3] }
  | _ => none }
def pointerLockedRow : OpenClaim := { program := "ytcalaooabgklbaa", sum := "bb6abbdddd3ac65d75e55a13aefd68e953261e1e20718dfb4f34dcef38bd8db0", func := "bodega/bodegalaw19.PointerLocked", spec := "pointerLocked", apart := false }
def PointerLockedSaid : Prop := pointerLockedRow.holds Try.pinned (OpenSpec.ofChange pointerLockedSpec)

/-- ITS FALSE NEIGHBOUR: 'it returns false'. Refute it at one input. -/
def pointerLockedWrong : ChangeSpec := { name := "pointerLocked", fn := fun _ => fun
  | [d1, d2, d3] => { results := [.lit (.bool false)], args := [d1, d2, d3] }
  | _ => none }
def PointerLockedWrongFalsely : Prop := pointerLockedRow.holds Try.pinned (OpenSpec.ofChange pointerLockedWrong)

/- THE SECOND FORM. 'bulk': how many values and letters a reading holds, each counted each time it is reached (what is shared counts as often as it is met; a slice's spare places count too). A statement '..UptoSaid' is the law's where the arguments, and the package variables that the reading takes, are together of bulk at most 1048576: NARROWER than '..Said'. Prove '..Said' where nothing that the law and all that it calls make is longer than what came in: it says more and counts as full. Else prove '..UptoSaid'. A law counts once. -/
mutual
def uptoBulk {H : Type} : DataW H → Nat
  | .lit (.string bytes) => bytes.length + 1
  | .lit _ => 1
  | .nil => 1
  | .ptr d => uptoBulk d + 1
  | .slice elems spare => uptoBulkAll elems + uptoBulkAll spare + 1
  | .agg parts => uptoBulkAll parts + 1
  | .iface _ d => uptoBulk d + 1
  | .map entries => uptoBulkEntries entries + 1
  | .held _ => 1
def uptoBulkAll {H : Type} : List (DataW H) → Nat
  | [] => 0
  | d :: r => uptoBulk d + uptoBulkAll r
def uptoBulkEntries {H : Type} : List (Lit × DataW H) → Nat
  | [] => 0
  | x :: r => uptoBulkEntry x + uptoBulkEntries r
def uptoBulkEntry {H : Type} : Lit × DataW H → Nat
  | (.string bytes, d) => bytes.length + uptoBulk d + 1
  | (_, d) => uptoBulk d + 1
 end
def uptoSmall : (H : Type) → List (DataW H) → Bool := fun _ ds => decide (uptoBulkAll ds ≤ 1048576)
def OpenSpec.upto (s : _root_.Go.ChangeSpec) : _root_.Go.OpenSpec := { _root_.Go.OpenSpec.ofChange s with cond := some uptoSmall }

/-- 'bodegalaw19.PointerWords', WHERE WHAT IT READS IS OF BULK AT MOST 1048576: true; the input reads as it did. -/
def pointerWordsUptoRow : OpenClaim := { program := "ytcalaooabgklbaa", sum := "bb6abbdddd3ac65d75e55a13aefd68e953261e1e20718dfb4f34dcef38bd8db0", func := "bodega/bodegalaw19.PointerWords", spec := "pointerWords", apart := false, narrowed := true }
def PointerWordsUptoSaid : Prop := pointerWordsUptoRow.holds Try.pinned (OpenSpec.upto pointerWordsSpec)

/-- 'bodegalaw19.PointerRound', WHERE WHAT IT READS IS OF BULK AT MOST 1048576: true; the input reads as it did. -/
def pointerRoundUptoRow : OpenClaim := { program := "ytcalaooabgklbaa", sum := "bb6abbdddd3ac65d75e55a13aefd68e953261e1e20718dfb4f34dcef38bd8db0", func := "bodega/bodegalaw19.PointerRound", spec := "pointerRound", apart := false, narrowed := true }
def PointerRoundUptoSaid : Prop := pointerRoundUptoRow.holds Try.pinned (OpenSpec.upto pointerRoundSpec)

/-- 'bodegalaw19.PointerLatest', WHERE WHAT IT READS IS OF BULK AT MOST 1048576: true; the input reads as it did. -/
def pointerLatestUptoRow : OpenClaim := { program := "ytcalaooabgklbaa", sum := "bb6abbdddd3ac65d75e55a13aefd68e953261e1e20718dfb4f34dcef38bd8db0", func := "bodega/bodegalaw19.PointerLatest", spec := "pointerLatest", apart := false, narrowed := true }
def PointerLatestUptoSaid : Prop := pointerLatestUptoRow.holds Try.pinned (OpenSpec.upto pointerLatestSpec)

/-- 'bodegalaw19.PointerAllocates', WHERE WHAT IT READS IS OF BULK AT MOST 1048576: true; the input reads as it did. -/
def pointerAllocatesUptoRow : OpenClaim := { program := "ytcalaooabgklbaa", sum := "bb6abbdddd3ac65d75e55a13aefd68e953261e1e20718dfb4f34dcef38bd8db0", func := "bodega/bodegalaw19.PointerAllocates", spec := "pointerAllocates", apart := false, narrowed := true }
def PointerAllocatesUptoSaid : Prop := pointerAllocatesUptoRow.holds Try.pinned (OpenSpec.upto pointerAllocatesSpec)

/-- 'bodegalaw19.PointerLooks', WHERE WHAT IT READS IS OF BULK AT MOST 1048576: true; the input reads as it did. -/
def pointerLooksUptoRow : OpenClaim := { program := "ytcalaooabgklbaa", sum := "bb6abbdddd3ac65d75e55a13aefd68e953261e1e20718dfb4f34dcef38bd8db0", func := "bodega/bodegalaw19.PointerLooks", spec := "pointerLooks", apart := false, narrowed := true }
def PointerLooksUptoSaid : Prop := pointerLooksUptoRow.holds Try.pinned (OpenSpec.upto pointerLooksSpec)

/-- 'bodegalaw19.PointerRaw', WHERE WHAT IT READS IS OF BULK AT MOST 1048576: true; the input reads as it did. -/
def pointerRawUptoRow : OpenClaim := { program := "ytcalaooabgklbaa", sum := "bb6abbdddd3ac65d75e55a13aefd68e953261e1e20718dfb4f34dcef38bd8db0", func := "bodega/bodegalaw19.PointerRaw", spec := "pointerRaw", apart := false, narrowed := true }
def PointerRawUptoSaid : Prop := pointerRawUptoRow.holds Try.pinned (OpenSpec.upto pointerRawSpec)

/-- 'bodegalaw19.PointerStale', WHERE WHAT IT READS IS OF BULK AT MOST 1048576: true; the input reads as it did. -/
def pointerStaleUptoRow : OpenClaim := { program := "ytcalaooabgklbaa", sum := "bb6abbdddd3ac65d75e55a13aefd68e953261e1e20718dfb4f34dcef38bd8db0", func := "bodega/bodegalaw19.PointerStale", spec := "pointerStale", apart := false, narrowed := true }
def PointerStaleUptoSaid : Prop := pointerStaleUptoRow.holds Try.pinned (OpenSpec.upto pointerStaleSpec)

/-- 'bodegalaw19.PointerLocked', WHERE WHAT IT READS IS OF BULK AT MOST 1048576: true; the input reads as it did. -/
def pointerLockedUptoRow : OpenClaim := { program := "ytcalaooabgklbaa", sum := "bb6abbdddd3ac65d75e55a13aefd68e953261e1e20718dfb4f34dcef38bd8db0", func := "bodega/bodegalaw19.PointerLocked", spec := "pointerLocked", apart := false, narrowed := true }
def PointerLockedUptoSaid : Prop := pointerLockedUptoRow.holds Try.pinned (OpenSpec.upto pointerLockedSpec)

end Rows
end Go.Proofs.Ytcalaooabgklbaa
