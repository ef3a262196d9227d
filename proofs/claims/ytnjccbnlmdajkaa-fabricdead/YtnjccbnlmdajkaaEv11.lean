/- Checksums in plain terms: a register of 64 bits, bit by bit and byte by byte. -/
import Derived.Laws.Bits64
import Derived.Laws.Bits64b
import Derived.Test.YtnjccbnlmdajkaaEv10
set_option linter.all false
namespace Go.Ev
open Go
def poly : Nat := 14514072000185962306
def step1 (r : Nat) : Nat := bif Nat.beq (r % 2) 1 then Nat.xor (r / 2) poly else r / 2
/-! ## In the code's words -/
def bt (b : Nat) : List AV := [.v (.int .u8 (b : Int))]
end Go.Ev
