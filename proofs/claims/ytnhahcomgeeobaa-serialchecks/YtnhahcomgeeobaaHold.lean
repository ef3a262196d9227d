/- Conditions. -/
import Derived.Test.YtnhahcomgeeobaaTotal
set_option linter.all false
namespace Go.Proofs.Ytnhahcomgeeobaa
open Go.Ev
attribute [local congr] bind_first cond_first
theorem s_Pick (a m : Int) (hm : 0 < m) (hm' : m ≤ 4611686018427387904) : ev 20 [.v (.int .i64 a),.v (.int .i64 m)] = some [.v (.int .i64 (pick a m))] := by
 rw [ev20]
 simp only [ltI_f (show 1 ≤ m by omega),eqI_f (show m ≠ 0 by omega),cond_false,pick_ok hm hm']
def colv (c a b d : Int) : Int := cond (Nat.beq c.toNat 0) a (cond (Nat.beq c.toNat 1) b d)
def cmpB (op x v : Int) : Bool := if op = 1 then x == v else if op = 2 then !(x == v) else if op = 3 then ltI x v else if op = 4 then leI x v else if op = 5 then ltI v x else leI v x
def holdB (c op v a b d : Int) : Bool := if op = 0 then true else if 1 ≤ op∧op ≤ 6∧0 ≤ c∧c < 3 then cmpB op (colv c a b d) v else false
def testB (c op : Int) : Bool := decide (1 ≤ op∧op ≤ 6∧0 ≤ c∧c < 3)
theorem eqB_f {a b : Int} (h : a ≠ b) : (a == b) = false := beq_eq_false_iff_ne.2 h
theorem in_dec (n lo hi : Int) : (bif leI lo n then leI n hi else false) = decide (lo ≤ n∧n ≤ hi) := by
 unfold leI
 by_cases h : lo ≤ n <;> by_cases h2 : n ≤ hi <;> simp [h,h2]
theorem s_isColumn (c : Int) : ev 92 [.v (.int .i64 c)] = some [.v (.bool (decide (0 ≤ c∧c < 3)))] := by
 rw [ev92]
 by_cases h : 0 ≤ c
 ·rw [leI_t h]; simp only [cond_true]; congr 4; unfold ltI; simp [h]
 ·rw [leI_f (by omega)]; simp [h]
theorem s_isTest (c op v : Int) : ev 88 [.agg [.v (.int .i64 c),.v (.int .i64 op),.v (.int .i64 v)]] = some [.v (.bool (testB c op))] := by
 rw [ev88,s_isColumn]
 unfold testB
 by_cases h1 : 1 ≤ op
 ·rw [leI_t h1]
  by_cases h2 : op ≤ 6
  ·rw [leI_t h2]; simp [h1,h2,isB,avBool]
  ·rw [leI_f (by omega)]; simp [h2]
 ·rw [leI_f (by omega)]; simp [h1]
theorem s_in (n lo hi : Int) : ev 57 [.v (.int .i64 n),.v (.int .i64 lo),.v (.int .i64 hi)] = some [.v (.bool (decide (lo ≤ n∧n ≤ hi)))] := by
 rw [ev57,← in_dec]
 cases leI lo n <;> rfl
theorem s_Holds (c op v k a b d : Int) : ev 71 [.agg [.v (.int .i64 c),.v (.int .i64 op),.v (.int .i64 v)],.agg [.v (.int .u32 k),.v (.int .i64 a),.v (.int .i64 b),.v (.int .i64 d)]] = some [.v (.bool (holdB c op v a b d))] := by
 rw [ev71,s_isTest]
 unfold holdB
 by_cases h0 : op = 0
 ·subst h0; rfl
 rw [eqB_f h0,if_neg h0]
 unfold testB
 by_cases h : 1 ≤ op∧op ≤ 6∧0 ≤ c∧c < 3
 ·rw [if_pos h,decide_eq_true h,leI_t h.2.2.1,ltI_t h.2.2.2]
  have : op = 1 ∨ op = 2 ∨ op = 3 ∨ op = 4 ∨ op = 5 ∨ op = 6 := by omega
  rcases this with rfl | rfl | rfl | rfl | rfl | rfl <;> rfl
 ·rw [if_neg h,decide_eq_false h]; rfl
theorem s_RHolds (c op v k a b d : Int) : ev 41 [.agg [.v (.int .i64 c),.v (.int .i64 op),.v (.int .i64 v)],.agg [.v (.int .u32 k),.v (.int .i64 a),.v (.int .i64 b),.v (.int .i64 d)]] = some [.v (.bool (holdB c op v a b d))] := by
 rw [ev41,s_in]
 unfold holdB
 by_cases h0 : op = 0
 ·subst h0; rfl
 rw [eqB_f h0,if_neg h0]
 by_cases h : 0 ≤ c∧c ≤ 2
 ·rw [decide_eq_true h,leI_t h.1,ltI_t (show c < 3 by omega)]
  by_cases hop : 1 ≤ op∧op ≤ 6
  ·rw [if_pos (by omega)]
   have : op = 1 ∨ op = 2 ∨ op = 3 ∨ op = 4 ∨ op = 5 ∨ op = 6 := by omega
   rcases this with rfl | rfl | rfl | rfl | rfl | rfl <;> rfl
  ·rw [if_neg (by omega),eqB_f (show op ≠ 1 by omega),eqB_f (show op ≠ 2 by omega),eqB_f (show op ≠ 3 by omega),eqB_f (show op ≠ 4 by omega),eqB_f (show op ≠ 5 by omega),eqB_f (show op ≠ 6 by omega)]; rfl
 ·rw [if_neg (by omega),decide_eq_false h]; rfl
end Go.Proofs.Ytnhahcomgeeobaa
