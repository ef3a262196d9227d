/- The sum of a column. -/
import Derived.Test.YtnhahcomgeeobaaFind
set_option linter.all false
namespace Go.Proofs.Ytnhahcomgeeobaa
open Go.Ev
def Rw.col (r : Rw) (c : Nat) : Int := if c = 0 then r.a else if c = 1 then r.b else r.c
def Rw.ok (r : Rw) : Prop := (0 ≤ r.k∧r.k ≤ 4294967295)∧(-9223372036854775808 ≤ r.a∧r.a ≤ 9223372036854775807)∧(-9223372036854775808 ≤ r.b∧r.b ≤ 9223372036854775807)∧(-9223372036854775808 ≤ r.c∧r.c ≤ 9223372036854775807)
theorem col_ok {r : Rw} (h : r.ok) (c : Nat) : -9223372036854775808 ≤ r.col c∧r.col c ≤ 9223372036854775807 := by
 unfold Rw.col
 split
 ·exact h.2.1
 ·split
  ·exact h.2.2.1
  ·exact h.2.2.2
def tot (c : Nat) : List Rw → Int
 | [] => 0
 | r :: rs => r.col c + tot c rs
theorem tot_snoc (c : Nat) : ∀ (l : List Rw) (r : Rw),tot c (l ++ [r]) = tot c l + r.col c
 | [],r => by simp [tot]
 | x :: l,r => by simp only [List.cons_append,tot,tot_snoc c l r]; omega
theorem tot_bound (c : Nat) : ∀ (l : List Rw),(∀ r ∈ l,r.ok) → -9223372036854775808 * (l.length : Int) ≤ tot c l∧tot c l ≤ 9223372036854775808 * (l.length : Int)
 | [],_ => by simp [tot]
 | r :: l,h => by
  have h1 := col_ok (h r (by simp)) c
  have h2 := tot_bound c l fun x hx => h x (by simp [hx])
  simp only [tot,List.length_cons]
  omega
theorem mod_of {a k r : Int} (h : a = k * 340282366920938463463374607431768211456 + r) (h0 : 0 ≤ r) (h1 : r < 340282366920938463463374607431768211456) : a % 340282366920938463463374607431768211456 = r := by
 rw [h,Int.add_comm,Int.add_mul_emod_self_right,Int.emod_eq_of_lt h0 h1]
theorem tot_core {H L v s W S k q m p H' : Int} (h0 : 0 ≤ H'∧H' < 18446744073709551616) (h1 : 0 ≤ m∧m < 18446744073709551616) (hS : S = k * 340282366920938463463374607431768211456 + (H * 18446744073709551616 + L)) (ht : L + W = 18446744073709551616 * q + m) (hp : H + s + q = 18446744073709551616 * p + H')
  (hv : (W = v∧s = 0) ∨ (W = v + 18446744073709551616∧s = 18446744073709551615)) : H' * 18446744073709551616 + m = (S + v) % 340282366920938463463374607431768211456 := by
 rcases hv with ⟨rfl,rfl⟩ | ⟨rfl,rfl⟩
 ·exact (mod_of (k := k + p) (by omega) (by omega) (by omega)).symm
 ·exact (mod_of (k := k + p - 1) (by omega) (by omega) (by omega)).symm
theorem tot_step {H L v S : Int} (h0 : 0 ≤ H∧H < 18446744073709551616) (h1 : 0 ≤ L∧L < 18446744073709551616) (hv : -9223372036854775808 ≤ v∧v ≤ 9223372036854775807) (h : H * 18446744073709551616 + L = S % 340282366920938463463374607431768211456) :
  IntKind.u64.wrap (H + IntKind.u64.wrap (Int.fdiv v 9223372036854775808) + Int.fdiv (L + IntKind.u64.wrap v + 0) 18446744073709551616) * 18446744073709551616 + IntKind.u64.wrap (L + IntKind.u64.wrap v + 0) = (S + v) % 340282366920938463463374607431768211456 := by
 rw [Int.fdiv_eq_ediv_of_nonneg _ (by decide),Int.fdiv_eq_ediv_of_nonneg _ (by decide),Int.add_zero]
 have hW : (IntKind.u64.wrap v = v∧IntKind.u64.wrap (v / 9223372036854775808) = 0) ∨ (IntKind.u64.wrap v = v + 18446744073709551616∧IntKind.u64.wrap (v / 9223372036854775808) = 18446744073709551615) := by
  rcases Int.lt_or_le v 0 with hn | hn
  ·right
   have e : v / 9223372036854775808 = -1 := by omega
   rw [e]
   exact ⟨by rw [w_u64]; omega,by rw [w_u64]; rfl⟩
  ·left
   have e : v / 9223372036854775808 = 0 := by omega
   rw [e]
   exact ⟨by rw [w_u64]; omega,by rw [w_u64]; rfl⟩
 generalize IntKind.u64.wrap v = W at *
 generalize IntKind.u64.wrap (v / 9223372036854775808) = s at *
 rw [w_u64,w_u64]
 have hS := Int.emod_add_mul_ediv S 340282366920938463463374607431768211456
 have ht := Int.emod_add_mul_ediv (L + W) 18446744073709551616
 have hp := Int.emod_add_mul_ediv (H + s + (L + W) / 18446744073709551616) 18446744073709551616
 have b1 := Int.emod_nonneg (L + W) (b := 18446744073709551616) (by decide)
 have b2 := Int.emod_lt_of_pos (L + W) (b := 18446744073709551616) (by decide)
 have b3 := Int.emod_nonneg (H + s + (L + W) / 18446744073709551616) (b := 18446744073709551616) (by decide)
 have b4 := Int.emod_lt_of_pos (H + s + (L + W) / 18446744073709551616) (b := 18446744073709551616) (by decide)
 exact tot_core (k := S / 340282366920938463463374607431768211456) (q := (L + W) / 18446744073709551616) (p := (H + s + (L + W) / 18446744073709551616) / 18446744073709551616) ⟨b3,b4⟩ ⟨b1,b2⟩ (by rw [h]; omega) (by omega) (by omega) hW
theorem col_eq (r : Rw) {c : Nat} (hc : c < 3) : (cond (Nat.beq (Int.toNat (c : Int)) 0) (avInt (cellAt r.row 1)) (cond (Nat.beq (Int.toNat (c : Int)) 1) (avInt (cellAt r.row 2)) (avInt (cellAt r.row 3)))) = r.col c := by
 have : c = 0 ∨ c = 1 ∨ c = 2 := by omega
 rcases this with rfl | rfl | rfl <;> rfl
theorem l_tot (b : Bool) (ts : List Rw) (c : Nat) (hc : c < 3) (hok : ∀ r ∈ ts,r.ok) (hlen : ts.length ≤ 1000000) : ∀ (rest done : List Rw) (H L : Int),ts = done ++ rest → (0 ≤ H∧H < 18446744073709551616) → (0 ≤ L∧L < 18446744073709551616) → H * 18446744073709551616 + L = tot c done % 340282366920938463463374607431768211456 →
  ∃ H' L' : Int,lp 70 0 0 ⟨[(1,.v (.int .i64 (c : Int))),(6,.v (.int .u64 H)),(7,.v (.int .u64 L)),(12,.lst b 4 (ts.map Rw.row)),(13,.v (.int .i64 (((ts.map Rw.row).length : Nat) : Int))),(14,.v (.int .i64 ((done.length : Nat) : Int)))],[]⟩ =
   some ⟨some 0,⟨[(6,.v (.int .u64 H')),(7,.v (.int .u64 L'))],[]⟩,[]⟩∧(0 ≤ H'∧H' < 18446744073709551616)∧(0 ≤ L'∧L' < 18446744073709551616)∧H' * 18446744073709551616 + L' = tot c ts % 340282366920938463463374607431768211456
 | [],done,H,L,h,hH,hL,hs => by
  refine ⟨H,L,?_,hH,hL,by rw [h,List.append_nil]; exact hs⟩
  rw [lp70_0]
  exact cF (ltI_f (by rw [List.length_map,h,List.append_nil]; omega)) rfl
 | r :: rest,done,H,L,h,hH,hL,hs => by
  have hlt : done.length < ts.length := by rw [h]; simp
  have hrow : lget (ts.map Rw.row) (Int.toNat ((done.length : Nat) : Int)) = r.row := by
   rw [Int.toNat_natCast,lget_map _ _ _ hlt]
   subst h
   simp
  have hro := hok r (by rw [h]; simp)
  have hv := col_ok hro c
  have hw : IntKind.i64.wrap (((done.length : Nat) : Int) + 1) = (((done ++ [r]).length : Nat) : Int) := by rw [w_i64,List.length_append,List.length_singleton]; omega
  have hst := tot_step hH hL hv hs
  rw [← tot_snoc] at hst
  have wr : ∀ x : Int,0 ≤ IntKind.u64.wrap x∧IntKind.u64.wrap x < 18446744073709551616 := fun x => by rw [w_u64]; omega
  obtain ⟨H',L',hr,k1,k2,k3⟩ := l_tot b ts c hc hok hlen rest (done ++ [r]) _ _ (by rw [h]; simp) (wr _) (wr _) hst
  refine ⟨H',L',?_,k1,k2,k3⟩
  rw [lp70_0,hrow,col_eq r hc,hw]
  have hq : 0 ≤ Int.fdiv (L + IntKind.u64.wrap (r.col c) + 0) 18446744073709551616∧Int.fdiv (L + IntKind.u64.wrap (r.col c) + 0) 18446744073709551616 ≤ 1 := by
   have := wr (r.col c)
   rw [Int.fdiv_eq_ediv_of_nonneg _ (by decide)]
   omega
  refine cT (ltI_t (by rw [List.length_map]; omega)) (cT (by rw [leI_t (by omega),ltI_t (by rw [List.length_map]; omega)]; rfl) (cT rfl (cT (by rw [leI_t (by omega),ltI_t (by omega)]; rfl) (cT ?_ (cT ?_ hr)))))
  ·rw [leI_t hL.1,leI_t (wr _).1]; rfl
  ·rw [leI_t hH.1,leI_t (wr _).1,leI_t hq.1,leI_t hq.2]; rfl
theorem s_total (b : Bool) (ts : List Rw) (c : Nat) (hc : c < 3) (hok : ∀ r ∈ ts,r.ok) (hlen : ts.length ≤ 1000000) :
  ev 70 [.lst b 4 (ts.map Rw.row),.v (.int .i64 (c : Int))] = some [.v (.int .i64 (IntKind.i64.wrap (tot c ts))),.v (.bool (decide (-9223372036854775808 ≤ tot c ts∧tot c ts ≤ 9223372036854775807)))] := by
 obtain ⟨H,L,hr,hH,hL,hs⟩ := l_tot b ts c hc hok hlen ts [] 0 0 rfl (by decide) (by decide) (by rfl)
 obtain ⟨b1,b2⟩ := tot_bound c ts hok
 rw [ev70]
 refine bnd hr (cT rfl (cT rfl ?_))
 show some [AV.v (.int .i64 (IntKind.i64.wrap L)),AV.v (.bool (H == IntKind.u64.wrap (Int.fdiv (IntKind.i64.wrap L) 9223372036854775808)))] = _
 generalize tot c ts = S at *
 have e1 : IntKind.i64.wrap L = IntKind.i64.wrap S := by rw [w_i64,w_i64]; omega
 have e2 : (H == IntKind.u64.wrap (Int.fdiv (IntKind.i64.wrap L) 9223372036854775808)) = decide (-9223372036854775808 ≤ S∧S ≤ 9223372036854775807) := by
  rw [Int.fdiv_eq_ediv_of_nonneg _ (by decide),Bool.eq_iff_iff,beq_iff_eq,decide_eq_true_iff]
  have hb : -9223372036854775808000000 ≤ S∧S ≤ 9223372036854775808000000 := by omega
  have hLw : (L ≤ 9223372036854775807∧IntKind.i64.wrap L = L) ∨ (9223372036854775808 ≤ L∧IntKind.i64.wrap L = L - 18446744073709551616) := by rw [w_i64]; omega
  have hx : IntKind.u64.wrap (IntKind.i64.wrap L / 9223372036854775808) = if L ≤ 9223372036854775807 then 0 else 18446744073709551615 := by
   rcases hLw with ⟨h1,h2⟩ | ⟨h1,h2⟩
   ·rw [h2,if_pos h1,show L / 9223372036854775808 = 0 by omega]; rfl
   ·rw [h2,if_neg (by omega),show (L - 18446744073709551616) / 9223372036854775808 = -1 by omega]; rfl
  rw [hx]
  split <;> omega
 rw [e2,e1]
end Go.Proofs.Ytnhahcomgeeobaa
