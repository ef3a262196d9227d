/- Tables: validity,copies; sums of two numbers. -/
import Derived.Test.YtnhahcomgeeobaaSpan
set_option linter.all false
namespace Go.Proofs.Ytnhahcomgeeobaa
open Go.Ev
def tval (last : Int) : List Rw → Bool
 | [] => true
 | r :: rs => bif leI r.k last then false else bif ltI 4294967294 r.k then false else tval r.k rs
theorem l_tval (b : Bool) (ts : List Rw) (hlen : ts.length ≤ 1000000) : ∀ (rest done : List Rw) (last : Int),ts = done ++ rest →
  lp 31 0 0 ⟨[(3,.v (.int .u32 last)),(6,.lst b 4 (ts.map Rw.row)),(7,.v (.int .i64 (((ts.map Rw.row).length : Nat) : Int))),(8,.v (.int .i64 ((done.length : Nat) : Int)))],[]⟩ =
   some (bif tval last rest then ⟨some 0,⟨[],[]⟩,[]⟩ else ⟨none,⟨[],[]⟩,[.v (.bool false)]⟩)
 | [],done,last,h => by
  rw [lp31_0]
  exact cF (ltI_f (by rw [List.length_map,h,List.append_nil]; omega)) rfl
 | r :: rest,done,last,h => by
  have hlt : done.length < ts.length := by rw [h]; simp
  have hrow : lget (ts.map Rw.row) (Int.toNat ((done.length : Nat) : Int)) = r.row := by
   rw [Int.toNat_natCast,lget_map _ _ _ hlt]
   subst h
   simp
  have hw : IntKind.i64.wrap (((done.length : Nat) : Int) + 1) = (((done ++ [r]).length : Nat) : Int) := by rw [w_i64,List.length_append,List.length_singleton]; omega
  have ih := l_tval b ts hlen rest (done ++ [r]) r.k (by rw [h]; simp)
  rw [lp31_0,hrow,hw]
  refine cT (ltI_t (by rw [List.length_map]; omega)) (cT (by rw [leI_t (by omega),ltI_t (by rw [List.length_map]; omega)]; rfl) (cT rfl ?_))
  show cond (leI r.k last) _ _ = _
  unfold tval
  cases leI r.k last with
  | true => exact cT rfl rfl
  | false =>
   refine cF rfl ?_
   show cond (ltI 4294967294 r.k) _ _ = _
   cases ltI 4294967294 r.k with
   | true => exact cT rfl rfl
   | false => exact cF rfl ih
theorem s_tval (b : Bool) (ts : List Rw) (hlen : ts.length ≤ 1000000) : ev 31 [.lst b 4 (ts.map Rw.row)] = some [.v (.bool (tval 0 ts))] := by
 rw [ev31]
 refine bnd (l_tval b ts hlen ts [] 0 rfl) ?_
 cases tval 0 ts with
 | true => exact cT rfl (cT rfl rfl)
 | false => exact cF rfl (cT rfl rfl)
theorem s_tclone (b : Bool) (ts : List Rw) (hb : b = true → ts = []) (hlen : ts.length ≤ 1000000) : ev 47 [.lst b 4 (ts.map Rw.row)] = some [.ow b 91 4 (ts.map Rw.row)] := by
 rw [ev47]
 cases b with
 | true => rw [hb rfl]; rfl
 | false =>
  refine cF rfl (cT (leN_t (by rw [List.length_map]; omega)) ?_)
  simp only [Bool.and_false,List.nil_append]
theorem s_plus {a v : Int} (ha : -9223372036854775808 ≤ a∧a ≤ 9223372036854775807) (hv : -9223372036854775808 ≤ v∧v ≤ 9223372036854775807) :
  ev 68 [.v (.int .i64 a),.v (.int .i64 v)] = some [.v (.int .i64 (IntKind.i64.wrap (a + v))),.v (.bool (decide (-9223372036854775808 ≤ a + v∧a + v ≤ 9223372036854775807)))] := by
 rw [ev68]
 by_cases h : 0 ≤ v
 ·refine cT (leI_t h) ?_
  have : leI a (IntKind.i64.wrap (a + v)) = decide (-9223372036854775808 ≤ a + v∧a + v ≤ 9223372036854775807) := by
   unfold leI
   rw [w_i64,Bool.eq_iff_iff,decide_eq_true_iff,decide_eq_true_iff]
   omega
  rw [this]
 ·refine cF (leI_f (by omega)) ?_
  have : ltI (IntKind.i64.wrap (a + v)) a = decide (-9223372036854775808 ≤ a + v∧a + v ≤ 9223372036854775807) := by
   unfold ltI
   rw [w_i64,Bool.eq_iff_iff,decide_eq_true_iff,decide_eq_true_iff]
   omega
  rw [this]
end Go.Proofs.Ytnhahcomgeeobaa
