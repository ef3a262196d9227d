/- Checksums in plain terms: a register of 64 bits,bit by bit and byte by byte. -/
import Derived.Laws.Bits64
import Derived.Laws.Bits64b
import Derived.Test.YtkefjdmoikegbaaEv10
set_option linter.all false
namespace Go.Ev
open Go
def poly : Nat := 14514072000185962306
def step1 (r : Nat) : Nat := bif Nat.beq (r % 2) 1 then Nat.xor (r / 2) poly else r / 2
def stepK : Nat → Nat → Nat
 | 0,r => r
 | k + 1,r => stepK k (step1 r)
theorem step1_eq (r : Nat) : step1 r = if r % 2 = 1 then r / 2 ^^^ poly else r / 2 := by
 unfold step1
 by_cases h : r % 2 = 1
 ·rw [if_pos h,h]; rfl
 ·rw [if_neg h,show Nat.beq (r % 2) 1 = false from nbeq_false h]; rfl
def step8 (r : Nat) : Nat := stepK 8 r
theorem poly_lt : poly < 2 ^ 64 := by decide
theorem step1_lt {r : Nat} (h : r < 2 ^ 64) : step1 r < 2 ^ 64 := by
 rw [step1_eq]; split
 ·exact Nat.xor_lt_two_pow (by omega) poly_lt
 ·omega
/-! ## In the code's words -/
theorem xor_u64 (a b : Nat) (ha : a < 2 ^ 64) (hb : b < 2 ^ 64) : bits .xor .u64 (a : Int) (b : Int) = ((a ^^^ b : Nat) : Int) := bits_xor_u64_nat a b ha hb
theorem fdiv_nat (a n : Nat) : Int.fdiv (a : Int) (n : Int) = ((a / n : Nat) : Int) := by
 rw [fdiv_pos _ _ (by omega)]; rfl
def bt (b : Nat) : List AV := [.v (.int .u8 (b : Int))]
def bts (l : List Nat) : List (List AV) := l.map bt
theorem bts_len (l : List Nat) : (bts l).length = l.length := List.length_map _
def little (w : Nat) : List Nat := [w % 256,w / 256 % 256,w / 256 / 256 % 256,w / 256 / 256 / 256 % 256,w / 256 / 256 / 256 / 256 % 256,w / 256 / 256 / 256 / 256 / 256 % 256,w / 256 / 256 / 256 / 256 / 256 / 256 % 256,w / 256 / 256 / 256 / 256 / 256 / 256 / 256 % 256]
end Go.Ev
