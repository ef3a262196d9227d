/- Words: what wraps and bit operations are, in plain arithmetic. -/
import Derived.Laws.BitsLemmas
import Derived.Laws.Bits64b
import Derived.IntWalk
import Derived.Test.YtjbpbidlcegopaaDoorEv08
set_option linter.all false
namespace Go.Ev
open Go
theorem w_u64 (n : Int) : IntKind.u64.wrap n = n % 18446744073709551616 := IntKind.wrap_u64 n
theorem w_u32 (n : Int) : IntKind.u32.wrap n = n % 4294967296 := IntKind.wrap_u32 n
theorem w_i64 (n : Int) : IntKind.i64.wrap n = (n + 9223372036854775808) % 18446744073709551616 - 9223372036854775808 := IntKind.wrap_i64 n
theorem min_i64 : IntKind.i64.min = -9223372036854775808 := by decide
theorem max_i64 : IntKind.i64.max = 9223372036854775807 := by decide
theorem min_u64 : IntKind.u64.min = 0 := by decide
theorem max_u64 : IntKind.u64.max = 18446744073709551615 := by decide
theorem wraps_u64 (n : Int) (h₀ : 0 ≤ n) (h₁ : n < 2 ^ 64) : IntKind.u64.wrap n = n := by rw [w_u64]; omega
theorem wraps_u32 (n : Int) (h₀ : 0 ≤ n) (h₁ : n < 2 ^ 32) : IntKind.u32.wrap n = n := by rw [w_u32]; omega
theorem and_u64 (i : Nat) (hi : i ≤ 64) (x m : Int) (hm : m = 2 ^ i - 1) (h₀ : 0 ≤ x) (h₁ : x < 18446744073709551616) : bits .and .u64 x m = x % 2 ^ i := by
  subst hm
  exact bits_mask .u64 64 (by decide) wraps_u64 i hi x h₀ (by omega)
theorem and_u32 (i : Nat) (hi : i ≤ 32) (x m : Int) (hm : m = 2 ^ i - 1) (h₀ : 0 ≤ x) (h₁ : x < 4294967296) : bits .and .u32 x m = x % 2 ^ i := by
  subst hm
  exact bits_mask .u32 32 (by decide) wraps_u32 i hi x h₀ (by omega)
theorem or_u64 (i : Nat) (x y : Int) (hx₀ : 0 ≤ x) (hx : x % 2 ^ i = 0) (hx₁ : x < 18446744073709551616) (hy₀ : 0 ≤ y) (hy : y < 2 ^ i) (hy₁ : y < 18446744073709551616) : bits .or .u64 x y = x + y :=
  bits_join .u64 64 (by decide) wraps_u64 i x y hx₀ hx (by omega) hy₀ hy (by omega)
theorem or_u32 (i : Nat) (x y : Int) (hx₀ : 0 ≤ x) (hx : x % 2 ^ i = 0) (hx₁ : x < 4294967296) (hy₀ : 0 ≤ y) (hy : y < 2 ^ i) (hy₁ : y < 4294967296) : bits .or .u32 x y = x + y :=
  bits_join .u32 32 (by decide) wraps_u32 i x y hx₀ hx (by omega) hy₀ hy (by omega)
theorem fdiv_pos (x : Int) (n : Int) (hn : 0 ≤ n) : x.fdiv n = x / n := by
  rw [Int.fdiv_eq_ediv_of_nonneg _ hn]
theorem tdiv_pos (x : Int) (n : Int) (h : 0 ≤ x) : x.tdiv n = x / n := Int.tdiv_eq_ediv_of_nonneg h
theorem tmod_pos (x : Int) (n : Int) (h : 0 ≤ x) : x.tmod n = x % n := Int.tmod_eq_emod_of_nonneg h
@[simp] theorem isI_v (k : IntKind) (n : Int) : isI k (.v (.int k n)) = true := by simp [isI]
@[simp] theorem isB_v (b : Bool) : isB (.v (.bool b)) = true := rfl
@[simp] theorem isS_v (s : ByteArray) : isS (.v (.string s)) = true := rfl
@[simp] theorem avInt_v (k : IntKind) (n : Int) : avInt (.v (.int k n)) = n := rfl
@[simp] theorem avBool_v (b : Bool) : avBool (.v (.bool b)) = b := rfl
@[simp] theorem avStr_v (s : ByteArray) : avStr (.v (.string s)) = s := rfl
@[simp] theorem cellAt_zero (a : AV) (l : List AV) : cellAt (a :: l) 0 = a := rfl
@[simp] theorem cellAt_succ (a : AV) (l : List AV) (i : Nat) : cellAt (a :: l) (i + 1) = cellAt l i := rfl
@[simp] theorem some_bind' {α β : Type} (a : α) (f : α → Option β) : (some a).bind f = f a := rfl
@[simp] theorem lget_zero (a : List AV) (l : List (List AV)) : lget (a :: l) 0 = a := rfl
@[simp] theorem lget_succ (a : List AV) (l : List (List AV)) (i : Nat) : lget (a :: l) (i + 1) = lget l i := rfl
/-! ## Tests -/
def ltI (a b : Int) : Bool := decide (a < b)
def leI (a b : Int) : Bool := decide (a ≤ b)
def eqI (a b : Int) : Bool := decide (a = b)
def ltN (a b : Nat) : Bool := decide (a < b)
def leN (a b : Nat) : Bool := decide (a ≤ b)
theorem ltI_t {a b : Int} (h : a < b) : ltI a b = true := decide_eq_true h
theorem ltI_f {a b : Int} (h : b ≤ a) : ltI a b = false := decide_eq_false (by omega)
theorem leI_t {a b : Int} (h : a ≤ b) : leI a b = true := decide_eq_true h
theorem leI_f {a b : Int} (h : b < a) : leI a b = false := decide_eq_false (by omega)
theorem eqI_f {a b : Int} (h : a ≠ b) : eqI a b = false := decide_eq_false h
theorem ltN_t {a b : Nat} (h : a < b) : ltN a b = true := decide_eq_true h
theorem leN_t {a b : Nat} (h : a ≤ b) : leN a b = true := decide_eq_true h
def pick (n m : Int) : Int := n % m
theorem pick_ok {n m : Int} (hm : 0 < m) (hm' : m ≤ 4611686018427387904) : (IntKind.i64.wrap (n.tmod m + m)).tmod m = pick n m := by
  have h1 : n.tmod m < m := Int.tmod_lt_of_pos n hm
  have h2 : -m < n.tmod m := by
    rcases Int.le_total 0 n with h | h
    · have := Int.tmod_nonneg m h
      omega
    · have h3 := Int.tmod_lt_of_pos (-n) hm
      rw [Int.neg_tmod] at h3
      omega
  rw [w_i64, show (n.tmod m + m + 9223372036854775808) % 18446744073709551616 - 9223372036854775808 = n.tmod m + m by omega, tmod_pos _ _ (by omega)]
  unfold pick
  rw [Int.add_emod_right]
  have h3 := Int.tmod_add_mul_tdiv n m
  have h4 : n.tmod m = n + m * (-(n.tdiv m)) := by
    rw [Int.mul_neg]; omega
  rw [h4, Int.add_mul_emod_self_left]
theorem pick_range {n m : Int} (hm : 0 < m) : 0 ≤ pick n m ∧ pick n m < m := ⟨Int.emod_nonneg _ (by omega), Int.emod_lt_of_pos _ hm⟩
end Go.Ev
