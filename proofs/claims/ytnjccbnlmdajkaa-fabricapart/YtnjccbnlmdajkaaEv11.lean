/- Checksums in plain terms: a register of 64 bits,bit by bit and byte by byte. -/
import Derived.Laws.Bits64
import Derived.Laws.Bits64b
import Derived.Test.YtnjccbnlmdajkaaEv10
set_option linter.all false
namespace Go.Ev
open Go
def poly : Nat := 14514072000185962306
def step1 (r : Nat) : Nat := bif Nat.beq (r % 2) 1 then Nat.xor (r / 2) poly else r / 2
def stepK : Nat → Nat → Nat
 | 0,r => r
 | k + 1,r => stepK k (step1 r)
theorem step1_eq (r : Nat) : step1 r = if r % 2 = 1 then r / 2 ^^^ poly else r / 2 := by
 unfold step1
 by_cases h : r % 2 = 1
 ·rw [if_pos h,h]; rfl
 ·rw [if_neg h,show Nat.beq (r % 2) 1 = false from nbeq_false h]; rfl
theorem step1_xor (a b : Nat) : step1 (a ^^^ b) = step1 a ^^^ step1 b := by
 rw [step1_eq,step1_eq,step1_eq]
 have hd : (a ^^^ b) / 2 = a / 2 ^^^ b / 2 := Nat.xor_div_two_pow (n := 1)
 have hm := Nat.xor_mod_two_eq_one (a := a) (b := b)
 rw [hd]
 by_cases ha : a % 2 = 1 <;> by_cases hb : b % 2 = 1
 ·rw [if_neg (fun h => hm.1 h (by simp [ha,hb])),if_pos ha,if_pos hb]
  rw [Nat.xor_assoc,Nat.xor_comm (b / 2) poly,← Nat.xor_assoc poly,Nat.xor_self,Nat.zero_xor]
 ·rw [if_pos (hm.2 (by simp [ha,hb])),if_pos ha,if_neg hb,Nat.xor_assoc,Nat.xor_comm (b / 2) poly,← Nat.xor_assoc]
 ·rw [if_pos (hm.2 (by simp [ha,hb])),if_neg ha,if_pos hb,Nat.xor_assoc]
 ·rw [if_neg (fun h => hm.1 h (by simp [ha,hb])),if_neg ha,if_neg hb]
theorem stepK_xor : ∀ (k a b : Nat),stepK k (a ^^^ b) = stepK k a ^^^ stepK k b
 | 0,_,_ => rfl
 | k + 1,a,b => by simp only [stepK]; rw [step1_xor,stepK_xor k]
theorem stepK_shift : ∀ (k a : Nat),stepK k (2 ^ k * a) = a
 | 0,a => by simp [stepK]
 | k + 1,a => by
  have e : step1 (2 ^ (k + 1) * a) = 2 ^ k * a := by
   rw [step1_eq,Nat.pow_succ,if_neg (by rw [Nat.mul_comm (2 ^ k),Nat.mul_assoc]; omega),Nat.mul_comm (2 ^ k),Nat.mul_assoc]
   omega
  simp only [stepK]
  rw [e,stepK_shift k]
theorem low_high (a b i : Nat) (h : b < 2 ^ i) : 2 ^ i * a + b = (2 ^ i * a) ^^^ b := by
 apply Nat.eq_of_testBit_eq
 intro j
 rw [Nat.testBit_xor,Nat.testBit_two_pow_mul_add a h]
 have := Nat.testBit_two_pow_mul_add a (b := 0) (i := i) (Nat.two_pow_pos i) j
 rw [Nat.add_zero,Nat.zero_testBit] at this
 rw [this]
 split
 ·simp
 ·rename_i hj
  have : b.testBit j = false := Nat.testBit_lt_two_pow (Nat.lt_of_lt_of_le h (Nat.pow_le_pow_right (by decide) (by omega)))
  rw [this]; simp
def step8 (r : Nat) : Nat := stepK 8 r
theorem step8_split (r : Nat) : step8 r = r / 256 ^^^ step8 (r % 256) := by
 have h : r = 2 ^ 8 * (r / 256) + r % 256 := by omega
 have h2 := low_high (r / 256) (r % 256) 8 (by omega)
 rw [← h] at h2
 unfold step8
 calc stepK 8 r = stepK 8 ((2 ^ 8 * (r / 256)) ^^^ (r % 256)) := by rw [← h2]
  _ = _ := by rw [stepK_xor,stepK_shift]
theorem poly_lt : poly < 2 ^ 64 := by decide
theorem step1_lt {r : Nat} (h : r < 2 ^ 64) : step1 r < 2 ^ 64 := by
 rw [step1_eq]; split
 ·exact Nat.xor_lt_two_pow (by omega) poly_lt
 ·omega
theorem stepK_lt : ∀ (k : Nat) {r : Nat},r < 2 ^ 64 → stepK k r < 2 ^ 64
 | 0,_,h => h
 | k + 1,_,h => stepK_lt k (step1_lt h)
theorem step8_lt {r : Nat} (h : r < 2 ^ 64) : step8 r < 2 ^ 64 := stepK_lt 8 h
def upd (r x : Nat) : Nat := step8 (r ^^^ x)
def crcR (r : Nat) (xs : List Nat) : Nat := xs.foldl upd r
def ones : Nat := 18446744073709551615
def crcX (s : Nat) (xs : List Nat) : Nat := ones ^^^ crcR (ones ^^^ s) xs
theorem ones_lt : ones < 2 ^ 64 := by decide
theorem byte_lt {x : Nat} (h : x < 256) : x < 2 ^ 64 := Nat.lt_of_lt_of_le h (by decide)
theorem upd_lt {r x : Nat} (hr : r < 2 ^ 64) (hx : x < 256) : upd r x < 2 ^ 64 := step8_lt (Nat.xor_lt_two_pow hr (byte_lt hx))
theorem crcR_lt : ∀ {xs : List Nat} {r : Nat},r < 2 ^ 64 → (∀ x ∈ xs,x < 256) → crcR r xs < 2 ^ 64
 | [],_,h,_ => h
 | x :: xs,_,h,hx => crcR_lt (xs := xs) (upd_lt h (hx x (by simp))) fun y hy => hx y (by simp [hy])
/-! ## In the code's words -/
theorem xor_u64 (a b : Nat) (ha : a < 2 ^ 64) (hb : b < 2 ^ 64) : bits .xor .u64 (a : Int) (b : Int) = ((a ^^^ b : Nat) : Int) := bits_xor_u64_nat a b ha hb
theorem xor_u8 (a b : Nat) (ha : a < 256) (hb : b < 256) : bits .xor .u8 (a : Int) (b : Int) = ((a ^^^ b : Nat) : Int) := by
 have hx : a ^^^ b < 2 ^ 8 := Nat.xor_lt_two_pow (by omega) (by omega)
 have h1 : (BitVec.ofInt 8 (a : Int)).toNat = a := by simp; omega
 have h2 : (BitVec.ofInt 8 (b : Int)).toNat = b := by simp; omega
 show IntKind.u8.wrap (((BitVec.ofInt 8 (a : Int) ^^^ BitVec.ofInt 8 (b : Int)).toNat : Nat) : Int) = _
 rw [BitVec.toNat_xor,h1,h2,w_u8]
 omega
theorem fdiv_nat (a n : Nat) : Int.fdiv (a : Int) (n : Int) = ((a / n : Nat) : Int) := by
 rw [fdiv_pos _ _ (by omega)]; rfl
def bt (b : Nat) : List AV := [.v (.int .u8 (b : Int))]
def bts (l : List Nat) : List (List AV) := l.map bt
theorem bts_len (l : List Nat) : (bts l).length = l.length := List.length_map _
theorem get_bts (l : List Nat) (i : Nat) (h : i < l.length) : lget (bts l) i = bt (l.getD i 0) := lget_mapD bt l 0 i h
end Go.Ev
