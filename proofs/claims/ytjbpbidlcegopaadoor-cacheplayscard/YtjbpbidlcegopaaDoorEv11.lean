/- Checksums in plain terms: a register of 64 bits, bit by bit and byte by byte. -/
import Derived.Laws.Bits64
import Derived.Laws.Bits64b
import Derived.Test.YtjbpbidlcegopaaDoorEv10
set_option linter.all false
namespace Go.Ev
variable [Gl]
open Go
def poly : Nat := 14514072000185962306
def step1 (r : Nat) : Nat := bif Nat.beq (r % 2) 1 then Nat.xor (r / 2) poly else r / 2
def stepK : Nat → Nat → Nat
  | 0, r => r
  | k + 1, r => stepK k (step1 r)
def step8 (r : Nat) : Nat := stepK 8 r
def upd (r x : Nat) : Nat := step8 (r ^^^ x)
/-! ## In the code's words -/
end Go.Ev
