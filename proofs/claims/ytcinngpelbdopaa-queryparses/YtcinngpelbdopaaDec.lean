/- Decimal texts. -/
import Derived.Test.YtcinngpelbdopaaStm
import Derived.Test.YtcinngpelbdopaaEv12
set_option linter.all false
namespace Go.Proofs.Ytcinngpelbdopaa
open Go.Ev
attribute [local congr] bind_first cond_first
def dig (d : Nat) : UInt8 := UInt8.ofNat (48 + d)
/-- The decimal text of a number that is not negative. -/
def natD (n : Nat) : B := if h : n < 10 then [dig n] else natD (n / 10) ++ [dig (n % 10)]
  termination_by n
  decreasing_by omega
theorem natD_lt {n : Nat} (h : n < 10) : natD n = [dig n] := by rw [natD, dif_pos h]
theorem natD_ge {n : Nat} (h : 10 ≤ n) : natD n = natD (n / 10) ++ [dig (n % 10)] := by rw [natD, dif_neg (by omega)]
def intD (v : Int) : B := if v < 0 then 45 :: natD v.natAbs else natD v.toNat
theorem natD_len : ∀ (k n : Nat), n < 10 ^ (k + 1) → (natD n).length ≤ k + 1 ∧ 0 < (natD n).length
  | 0, n, h => by rw [natD_lt (by simpa using h)]; simp
  | k + 1, n, h => by
    by_cases h1 : n < 10
    · rw [natD_lt h1]; simp
    · have h2 : n / 10 < 10 ^ (k + 1) := by
        rw [Nat.pow_succ] at h
        omega
      have := natD_len k (n / 10) h2
      rw [natD_ge (by omega), List.length_append]
      simp; omega
theorem natD_len20 {n : Nat} (h : n < 18446744073709551616) : (natD n).length ≤ 20 ∧ 0 < (natD n).length := natD_len 19 n (by omega)
theorem intD_len {v : Int} (h : -9223372036854775808 ≤ v ∧ v ≤ 9223372036854775807) : (intD v).length ≤ 21 ∧ 0 < (intD v).length := by
  unfold intD
  split
  · have := natD_len20 (n := v.natAbs) (by omega); simp; omega
  · have := natD_len20 (n := v.toNat) (by omega); omega
theorem byteOf_dig {d : Nat} (h : d < 10) (x : Int) (hx : x = 48 + (d : Int)) : Ev.byteOf [.v (.int .u8 (IntKind.u8.wrap (IntKind.u64.wrap x)))] = dig d := by
  subst hx
  unfold Ev.byteOf dig
  simp only [cellAt_zero, avInt_v]
  rw [w_u8, w_u64]
  congr 1; omega
theorem i64_u64 (a : Int) : IntKind.u64.wrap (IntKind.i64.wrap a) = IntKind.u64.wrap a := by rw [w_u64, w_i64, w_u64]; omega
theorem l_digits : ∀ (k n : Nat) (s : B), n < 10 ^ (k + 1) → n < 18446744073709551616 → s.length + k ≤ 1000 →
    lp 58 0 0 ⟨[(0, .v (.int .u64 (n : Int))), (3, .v (.string (bs (dig (n % 10) :: s))))], []⟩ = some ⟨some 0, ⟨[(3, .v (.string (bs (natD n ++ s))))], []⟩, []⟩
  | 0, n, s, h, h2, hs => by
    rw [lp58_0, leI_f (by omega), natD_lt (by simpa using h), show n % 10 = n by omega]; rfl
  | k + 1, n, s, h, h2, hs => by
    rw [lp58_0]
    by_cases h1 : n < 10
    · rw [leI_f (by omega), natD_lt h1, show n % 10 = n by omega]; rfl
    · have e1 : IntKind.u64.wrap ((n : Int).tdiv 10) = ((n / 10 : Nat) : Int) := by rw [w_u64, tdiv_pos _ _ (by omega)]; omega
      have e2 : ((n / 10 : Nat) : Int).tmod 10 = ((n / 10 % 10 : Nat) : Int) := by rw [tmod_pos _ _ (by omega)]; omega
      rw [leI_t (by omega), e1, e2, byteOf_dig (d := n / 10 % 10) (by omega) _ rfl, bs_size, bs_size, bs_append, leN_t (by simp; omega), cond_true, cond_true]
      have ih := l_digits k (n / 10) (dig (n % 10) :: s) (by rw [Nat.pow_succ] at h; omega) (by omega) (by simp; omega)
      rw [show [dig (n / 10 % 10)] ++ dig (n % 10) :: s = dig (n / 10 % 10) :: dig (n % 10) :: s from rfl, ih, natD_ge (n := n) (by omega)]
      simp
theorem s_digits (n : Nat) (h : n < 18446744073709551616) : ev 58 [.v (.int .u64 (n : Int))] = some [.v (.string (bs (natD n)))] := by
  have e2 : (n : Int).tmod 10 = ((n % 10 : Nat) : Int) := by rw [tmod_pos _ _ (by omega)]; omega
  rw [ev58, e2, byteOf_dig (d := n % 10) (by omega) _ rfl]
  refine bnd (l_digits 19 n [] (by omega) h (by simp)) ?_
  rw [List.append_nil]; rfl
theorem s_Number (v : Int) (hv : -9223372036854775808 ≤ v ∧ v ≤ 9223372036854775807) : ev 60 [.v (.int .i64 v)] = some [.v (.string (bs (intD v)))] := by
  rw [ev60]
  unfold intD
  by_cases h : v < 0
  · rw [ltI_t h, if_pos h]
    have e : IntKind.u64.wrap (IntKind.u64.wrap (IntKind.i64.wrap (0 - IntKind.i64.wrap (v + 1))) + 1) = ((v.natAbs : Nat) : Int) := by rw [i64_u64, w_i64, w_u64, w_u64]; omega
    have := natD_len20 (n := v.natAbs) (by omega)
    rw [e, s_digits v.natAbs (by omega)]
    simp -implicitDefEqProofs only [some_bind', obCells_agg, obCells_ob, isOb_ok, isL_ok, isOw_ok, avXs_lst, avXs_ow, avNil_lst, avNil_ow, avNil_sl, avOff_sl, avCut_sl, isAgg_agg, nat_beq_self, List.length_cons, List.length_nil, Nat.reduceAdd, Nat.zero_add, isI_v, isB_v, isS_v, avInt_v, avBool_v, avStr_v, cellAt_zero, cellAt_succ, lget_zero, lget_succ, frAt_zero, frAt_succ, blAt_zero, blAt_succ, isEx_ok, isEx_ne, isEx_none, isRt_some, isRt_none, like_st, likeFG_nil, likeFG_cons, likeBG_nil, likeBG_obj, likeBG_row, likeSG_nil, likeSG_cons, likeT_nil, likeS_nil, isNP_nil, isNP_ob, likeT_ep, isEp_ep, epCells_ep, likeT_agg, likeT_int, likeT_bool, likeT_str, likeT_lst, likeT_sl0, likeT_sl1, likeT_ptr, likeS_int, likeS_bool, likeS_str, likeS_lst, likeS_sl0, likeS_sl1, likeS_ptr, isPtr_ok, isSl_0, isSl_1, beq_self_b, Bool.and_self, Bool.and_true, Bool.true_and, Bool.and_false, Bool.false_and, cond_true, cond_false, Bool.not_true, Bool.not_false, bs_size, bs_append]
    rw [leN_t (by omega)]; rfl
  · rw [ltI_f (by omega), if_neg h]
    have e : IntKind.u64.wrap v = ((v.toNat : Nat) : Int) := by rw [w_u64]; omega
    rw [e, s_digits v.toNat (by omega)]; rfl
end Go.Proofs.Ytcinngpelbdopaa
