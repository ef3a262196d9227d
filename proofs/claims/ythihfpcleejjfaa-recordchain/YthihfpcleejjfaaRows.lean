/-
  No cell of these rows narrows 'for every input' (looked for: loops, veiled, ifaces, maps, wideKeys, modest, calm, conditions, laid).
  DERIVED. THE GIVEN ROWS OF THIS SEAT. 6 by the template 'for every input the law returns true; each argument reads behind the call as it read before'; 0 by the template 'total and deterministic' (their statements: YthihfpcleejjfaaTotals.lean).
  GIVEN WITH THE SEED: the statements are not yours to turn. If you find one false, say at which input.
  Laid BY PROGRAM, IN A SANDBOX (cutbox-rows.mjs): the forced cells as the released guide's own fill.sh prints them over the translation c0b784c4c0ef7de4… (all of the seat's roots in one cut). By AI agents, Wed Nov 11 2026. No macro, syntax, notation, axiom, sorry.
-/
import Derived.Test.YthihfpcleejjfaaChecked
import GoSem.Claim
import GoSem.ClaimJoined
import GoSem.ClaimMapViews
import Derived.JoinedTies
import Derived.KernelRfl
namespace Go.Proofs.Ythihfpcleejjfaa
/- THE CELL 'sum', in the pinned program and in every row, IS THE sha256 OF THE DUMP (.gsa) THAT YthihfpcleejjfaaProg.lean LOADS. Nothing in Lean hashes anything: it is a label: what it is worth is what the hold of that sum in a sandbox is worth. -/
noncomputable def Try.pinned : Pinned := { name := "ythihfpcleejjfaa", sum := "c0b784c4c0ef7de43abd6036815ec00bf2383ae0f852b428263a202bf49c968f", checked := Try.checked }
namespace Rows
def none {H : Type} : Left H := { results := [], args := [] }

/-- 'bodegalaw21.RecordStamps': WHATEVER THE INPUT: true; the input reads as it did. -/
def recordStampsSpec : ChangeSpec := { name := "recordStamps", fn := fun _ => fun
  | [d1, d2, d3, d4] => { results := [.lit (.bool true)], args := [d1, d2, d3, d4] }
  | _ => none }
def recordStampsRow : OpenClaim := { program := "ythihfpcleejjfaa", sum := "c0b784c4c0ef7de43abd6036815ec00bf2383ae0f852b428263a202bf49c968f", func := "bodega/bodegalaw21.RecordStamps", spec := "recordStamps", apart := false }
def RecordStampsSaid : Prop := recordStampsRow.holds Try.pinned (OpenSpec.ofChange recordStampsSpec)

/-- ITS FALSE NEIGHBOUR: 'it returns false'. Refute it at one input. -/
def recordStampsWrong : ChangeSpec := { name := "recordStamps", fn := fun _ => fun
  | [d1, d2, d3, d4] => { results := [.lit (.bool false)], args := [d1, d2, d3, d4] }
  | _ => none }
def RecordStampsWrongFalsely : Prop := recordStampsRow.holds Try.pinned (OpenSpec.ofChange recordStampsWrong)

/-- 'bodegalaw21.RecordUnique': WHATEVER THE INPUT: true; the input reads as it did. -/
def recordUniqueSpec : ChangeSpec := { name := "recordUnique", fn := fun _ => fun
  | [d1, d2, d3, d4] => { results := [.lit (.bool true)], args := [d1, d2, d3, d4] }
  | _ => none }
def recordUniqueRow : OpenClaim := { program := "ythihfpcleejjfaa", sum := "c0b784c4c0ef7de43abd6036815ec00bf2383ae0f852b428263a202bf49c968f", func := "bodega/bodegalaw21.RecordUnique", spec := "recordUnique", apart := false }
def RecordUniqueSaid : Prop := recordUniqueRow.holds Try.pinned (OpenSpec.ofChange recordUniqueSpec)

/-- ITS FALSE NEIGHBOUR: 'it returns false'. Refute it at one input. -/
def recordUniqueWrong : ChangeSpec := { name := "recordUnique", fn := fun _ => fun
  | [d1, d2, d3, d4] => { results := [.lit (.bool false)], args := [d1, d2, d3, d4] }
  | _ => none }
def RecordUniqueWrongFalsely : Prop := recordUniqueRow.holds Try.pinned (OpenSpec.ofChange recordUniqueWrong)

/-- 'bodegalaw21.RecordPages': WHATEVER THE INPUT: true; the input reads as it did. -/
def recordPagesSpec : ChangeSpec := { name := "recordPages", fn := fun _ => fun
  | [d1, d2, d3, d4] => { results := [.lit (.bool true)], args := [d1, d2, d3, d4] }
  | _ => none }
def recordPagesRow : OpenClaim := { program := "ythihfpcleejjfaa", sum := "c0b784c4c0ef7de43abd6036815ec00bf2383ae0f852b428263a202bf49c968f", func := "bodega/bodegalaw21.RecordPages", spec := "recordPages", apart := false }
def RecordPagesSaid : Prop := recordPagesRow.holds Try.pinned (OpenSpec.ofChange recordPagesSpec)

/-- ITS FALSE NEIGHBOUR: 'it returns false'. Refute it at one input. -/
def recordPagesWrong : ChangeSpec := { name := "recordPages", fn := fun _ => fun
  | [d1, d2, d3, d4] => { results := [.lit (.bool false)], args := [d1, d2, d3, d4] }
  | _ => none }
def RecordPagesWrongFalsely : Prop := recordPagesRow.holds Try.pinned (OpenSpec.ofChange recordPagesWrong)

/-- 'bodegalaw21.RecordRound': WHATEVER THE INPUT: true; the input reads as it did. -/
def recordRoundSpec : ChangeSpec := { name := "recordRound", fn := fun _ => fun
  | [d1, d2, d3] => { results := [.lit (.bool true)], args := [d1, d2, d3] }
  | _ => none }
def recordRoundRow : OpenClaim := { program := "ythihfpcleejjfaa", sum := "c0b784c4c0ef7de43abd6036815ec00bf2383ae0f852b428263a202bf49c968f", func := "bodega/bodegalaw21.RecordRound", spec := "recordRound", apart := false }
def RecordRoundSaid : Prop := recordRoundRow.holds Try.pinned (OpenSpec.ofChange recordRoundSpec)

/-- ITS FALSE NEIGHBOUR: 'it returns false'. Refute it at one input. -/
def recordRoundWrong : ChangeSpec := { name := "recordRound", fn := fun _ => fun
  | [d1, d2, d3] => { results := [.lit (.bool false)], args := [d1, d2, d3] }
  | _ => none }
def RecordRoundWrongFalsely : Prop := recordRoundRow.holds Try.pinned (OpenSpec.ofChange recordRoundWrong)

/-- 'bodegalaw21.RecordReplaces': WHATEVER THE INPUT: true; the input reads as it did. -/
def recordReplacesSpec : ChangeSpec := { name := "recordReplaces", fn := fun _ => fun
  | [d1, d2, d3, d4, d5] => { results := [.lit (.bool true)], args := [d1, d2, d3, d4, d5] }
  | _ => none }
def recordReplacesRow : OpenClaim := { program := "ythihfpcleejjfaa", sum := "c0b784c4c0ef7de43abd6036815ec00bf2383ae0f852b428263a202bf49c968f", func := "bodega/bodegalaw21.RecordReplaces", spec := "recordReplaces", apart := false }
def RecordReplacesSaid : Prop := recordReplacesRow.holds Try.pinned (OpenSpec.ofChange recordReplacesSpec)

/-- ITS FALSE NEIGHBOUR: 'it returns false'. Refute it at one input. -/
def recordReplacesWrong : ChangeSpec := { name := "recordReplaces", fn := fun _ => fun
  | [d1, d2, d3, d4, d5] => { results := [.lit (.bool false)], args := [d1, d2, d3, d4, d5] }
  | _ => none }
def RecordReplacesWrongFalsely : Prop := recordReplacesRow.holds Try.pinned (OpenSpec.ofChange recordReplacesWrong)

/-- 'bodegalaw21.RecordChain': WHATEVER THE INPUT: true; the input reads as it did. -/
def recordChainSpec : ChangeSpec := { name := "recordChain", fn := fun _ => fun
  | [d1, d2, d3] => { results := [.lit (.bool true)], args := [d1, d2, d3] }
  | _ => none }
def recordChainRow : OpenClaim := { program := "ythihfpcleejjfaa", sum := "c0b784c4c0ef7de43abd6036815ec00bf2383ae0f852b428263a202bf49c968f", func := "bodega/bodegalaw21.RecordChain", spec := "recordChain", apart := false }
def RecordChainSaid : Prop := recordChainRow.holds Try.pinned (OpenSpec.ofChange recordChainSpec)

/-- ITS FALSE NEIGHBOUR: 'it returns false'. Refute it at one input. -/
def recordChainWrong : ChangeSpec := { name := "recordChain", fn := fun _ => fun
  | [d1, d2, d3] => { results := [.lit (.bool false)], args := [d1, d2, d3] }
  | _ => none }
def RecordChainWrongFalsely : Prop := recordChainRow.holds Try.pinned (OpenSpec.ofChange recordChainWrong)

/- THE SECOND FORM. 'bulk': how many values and letters a reading holds, each counted each time it is reached (what is shared counts as often as it is met; a slice's spare places count too). A statement '..UptoSaid' is the law's where the arguments, and the package variables that the reading takes, are together of bulk at most 1048576: NARROWER than '..Said'. Prove '..Said' where nothing that the law and all that it calls make is longer than what came in: it says more and counts as full. Else prove '..UptoSaid'. A law counts once. -/
mutual
def uptoBulk {H : Type} : DataW H → Nat
  | .lit (.string bytes) => bytes.length + 1
  | .lit _ => 1
  | .nil => 1
  | .ptr d => uptoBulk d + 1
  | .slice elems spare => uptoBulkAll elems + uptoBulkAll spare + 1
  | .agg parts => uptoBulkAll parts + 1
  | .iface _ d => uptoBulk d + 1
  | .map entries => uptoBulkEntries entries + 1
  | .held _ => 1
def uptoBulkAll {H : Type} : List (DataW H) → Nat
  | [] => 0
  | d :: r => uptoBulk d + uptoBulkAll r
def uptoBulkEntries {H : Type} : List (Lit × DataW H) → Nat
  | [] => 0
  | x :: r => uptoBulkEntry x + uptoBulkEntries r
def uptoBulkEntry {H : Type} : Lit × DataW H → Nat
  | (.string bytes, d) => bytes.length + uptoBulk d + 1
  | (_, d) => uptoBulk d + 1
 end
def uptoSmall : (H : Type) → List (DataW H) → Bool := fun _ ds => decide (uptoBulkAll ds ≤ 1048576)
def OpenSpec.upto (s : _root_.Go.ChangeSpec) : _root_.Go.OpenSpec := { _root_.Go.OpenSpec.ofChange s with cond := some uptoSmall }

/-- 'bodegalaw21.RecordStamps', WHERE WHAT IT READS IS OF BULK AT MOST 1048576: true; the input reads as it did. -/
def recordStampsUptoRow : OpenClaim := { program := "ythihfpcleejjfaa", sum := "c0b784c4c0ef7de43abd6036815ec00bf2383ae0f852b428263a202bf49c968f", func := "bodega/bodegalaw21.RecordStamps", spec := "recordStamps", apart := false, narrowed := true }
def RecordStampsUptoSaid : Prop := recordStampsUptoRow.holds Try.pinned (OpenSpec.upto recordStampsSpec)

/-- 'bodegalaw21.RecordUnique', WHERE WHAT IT READS IS OF BULK AT MOST 1048576: true; the input reads as it did. -/
def recordUniqueUptoRow : OpenClaim := { program := "ythihfpcleejjfaa", sum := "c0b784c4c0ef7de43abd6036815ec00bf2383ae0f852b428263a202bf49c968f", func := "bodega/bodegalaw21.RecordUnique", spec := "recordUnique", apart := false, narrowed := true }
def RecordUniqueUptoSaid : Prop := recordUniqueUptoRow.holds Try.pinned (OpenSpec.upto recordUniqueSpec)

/-- 'bodegalaw21.RecordPages', WHERE WHAT IT READS IS OF BULK AT MOST 1048576: true; the input reads as it did. -/
def recordPagesUptoRow : OpenClaim := { program := "ythihfpcleejjfaa", sum := "c0b784c4c0ef7de43abd6036815ec00bf2383ae0f852b428263a202bf49c968f", func := "bodega/bodegalaw21.RecordPages", spec := "recordPages", apart := false, narrowed := true }
def RecordPagesUptoSaid : Prop := recordPagesUptoRow.holds Try.pinned (OpenSpec.upto recordPagesSpec)

/-- 'bodegalaw21.RecordRound', WHERE WHAT IT READS IS OF BULK AT MOST 1048576: true; the input reads as it did. -/
def recordRoundUptoRow : OpenClaim := { program := "ythihfpcleejjfaa", sum := "c0b784c4c0ef7de43abd6036815ec00bf2383ae0f852b428263a202bf49c968f", func := "bodega/bodegalaw21.RecordRound", spec := "recordRound", apart := false, narrowed := true }
def RecordRoundUptoSaid : Prop := recordRoundUptoRow.holds Try.pinned (OpenSpec.upto recordRoundSpec)

/-- 'bodegalaw21.RecordReplaces', WHERE WHAT IT READS IS OF BULK AT MOST 1048576: true; the input reads as it did. -/
def recordReplacesUptoRow : OpenClaim := { program := "ythihfpcleejjfaa", sum := "c0b784c4c0ef7de43abd6036815ec00bf2383ae0f852b428263a202bf49c968f", func := "bodega/bodegalaw21.RecordReplaces", spec := "recordReplaces", apart := false, narrowed := true }
def RecordReplacesUptoSaid : Prop := recordReplacesUptoRow.holds Try.pinned (OpenSpec.upto recordReplacesSpec)

/-- 'bodegalaw21.RecordChain', WHERE WHAT IT READS IS OF BULK AT MOST 1048576: true; the input reads as it did. -/
def recordChainUptoRow : OpenClaim := { program := "ythihfpcleejjfaa", sum := "c0b784c4c0ef7de43abd6036815ec00bf2383ae0f852b428263a202bf49c968f", func := "bodega/bodegalaw21.RecordChain", spec := "recordChain", apart := false, narrowed := true }
def RecordChainUptoSaid : Prop := recordChainUptoRow.holds Try.pinned (OpenSpec.upto recordChainSpec)

end Rows
end Go.Proofs.Ythihfpcleejjfaa
