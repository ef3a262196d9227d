/- Decimal texts. -/
import Derived.Test.YtnhahcomgeeobaaStm
import Derived.Test.YtnhahcomgeeobaaEv12
set_option linter.all false
namespace Go.Proofs.Ytnhahcomgeeobaa
open Go.Ev
attribute [local congr] bind_first cond_first
def dig (d : Nat) : UInt8 := UInt8.ofNat (48 + d)
def natD (n : Nat) : B := if h : n < 10 then [dig n] else natD (n / 10) ++ [dig (n % 10)]
 termination_by n
 decreasing_by omega
theorem natD_lt {n : Nat} (h : n < 10) : natD n = [dig n] := by rw [natD,dif_pos h]
theorem natD_ge {n : Nat} (h : 10 ≤ n) : natD n = natD (n / 10) ++ [dig (n % 10)] := by rw [natD,dif_neg (by omega)]
def intD (v : Int) : B := if v < 0 then 45 :: natD v.natAbs else natD v.toNat
theorem natD_len : ∀ (k n : Nat),n < 10 ^ (k + 1) → (natD n).length ≤ k + 1∧0 < (natD n).length
 | 0,n,h => by rw [natD_lt (by simpa using h)]; simp
 | k + 1,n,h => by
  by_cases h1 : n < 10
  ·rw [natD_lt h1]; simp
  ·have h2 : n / 10 < 10 ^ (k + 1) := by
    rw [Nat.pow_succ] at h
    omega
   have := natD_len k (n / 10) h2
   rw [natD_ge (by omega),List.length_append]
   simp; omega
theorem natD_len20 {n : Nat} (h : n < 18446744073709551616) : (natD n).length ≤ 20∧0 < (natD n).length := natD_len 19 n (by omega)
theorem intD_len {v : Int} (h : -9223372036854775808 ≤ v∧v ≤ 9223372036854775807) : (intD v).length ≤ 21∧0 < (intD v).length := by
 unfold intD
 split
 ·have := natD_len20 (n := v.natAbs) (by omega); simp; omega
 ·have := natD_len20 (n := v.toNat) (by omega); omega
theorem ofByte_dig {d : Nat} (h : d < 10) (x : Int) (hx : x = 48 + (d : Int)) : [AV.v (.int .u8 (IntKind.u8.wrap (IntKind.u64.wrap x)))] = ofByte (dig d) := by
 subst hx
 unfold ofByte dig
 rw [w_u8,w_u64]
 congr 3
 rw [UInt8.toNat_ofNat']; omega
theorem byteOf_ofByte (b : UInt8) : Ev.byteOf (ofByte b) = b := by
 unfold Ev.byteOf ofByte
 simp
theorem rows_back (l : B) : ByteArray.mk (List.map Ev.byteOf (List.map ofByte l)).toArray = bs l := by
 rw [List.map_map,show Ev.byteOf ∘ ofByte = id from funext byteOf_ofByte,List.map_id]; rfl
theorem rows_all (l : B) : List.all (List.map ofByte l) Ev.isByte = true := by
 rw [List.all_eq_true]
 intro x hx
 obtain ⟨b,_,rfl⟩ := List.mem_map.1 hx
 rfl
theorem l_decimal (s : ByteArray) : ∀ (k n : Nat) (b : B) (nl : Bool),n < 10 ^ (k + 1) → n < 18446744073709551616 → (0 < n ∨ b = []) → b.length + k ≤ 1000 →
  lp 77 0 0 ⟨[(3,.v (.int .u64 (n : Int))),(4,.v (.string s)),(5,.sl nl 0 0 none)],[⟨1,5,1,false,b.map ofByte⟩]⟩ =
   some ⟨some 0,⟨[(4,.v (.string s)),(5,.sl false 0 0 none)],[⟨1,5,1,false,(b ++ (natD n).reverse).map ofByte⟩]⟩,[]⟩ := fun k => by
 have one : ∀ (n : Nat) (b : B) (nl : Bool),(0 < n ∨ b = []) → n < 18446744073709551616 → b.length ≤ 1000 → lp 77 0 0 ⟨[(3,.v (.int .u64 (n : Int))),(4,.v (.string s)),(5,.sl nl 0 0 none)],[⟨1,5,1,false,b.map ofByte⟩]⟩ =
   lp 77 0 0 ⟨[(3,.v (.int .u64 ((n / 10 : Nat) : Int))),(4,.v (.string s)),(5,.sl false 0 0 none)],[⟨1,5,1,false,(b ++ [dig (n % 10)]).map ofByte⟩]⟩ := fun n b nl h hn hb => by
  have e1 : IntKind.u64.wrap ((n : Int).tdiv 10) = ((n / 10 : Nat) : Int) := by rw [w_u64,tdiv_pos _ _ (by omega)]; omega
  have e2 : (n : Int).tmod 10 = ((n % 10 : Nat) : Int) := by rw [tmod_pos _ _ (by omega)]; omega
  have hl : (List.map ofByte b).length = b.length := List.length_map ..
  rw [lp77_0,e1,e2,ofByte_dig (d := n % 10) (by omega) _ rfl,hl,leN_t (show (b.length + 1) * 1 ≤ 140737488355328 by omega),List.map_append]
  by_cases h0 : 0 < n
  ·rw [ltI_t (by omega)]; rfl
  ·rw [ltI_f (by omega)]
   have hb0 : b = [] := by rcases h with h | h; exact absurd h h0; exact h
   subst hb0; rfl
 have stop : ∀ (b : B),b ≠ [] → lp 77 0 0 ⟨[(3,.v (.int .u64 ((0 : Nat) : Int))),(4,.v (.string s)),(5,.sl false 0 0 none)],[⟨1,5,1,false,b.map ofByte⟩]⟩ =
   some ⟨some 0,⟨[(4,.v (.string s)),(5,.sl false 0 0 none)],[⟨1,5,1,false,b.map ofByte⟩]⟩,[]⟩ := fun b hb => by
  rw [lp77_0,ltI_f (by decide)]
  have : ((((List.map ofByte b).length - 0 : Nat) : Int) == 0) = false := by
   rw [List.length_map,Nat.sub_zero,beq_eq_false_iff_ne]
   cases b with
   | nil => exact absurd rfl hb
   | cons _ _ => simp; omega
  rw [this]; rfl
 induction k with
 | zero =>
  intro n b nl hn h64 h hb
  rw [one n b nl h (by omega) (by omega),show n / 10 = 0 by omega,stop _ (by simp),natD_lt (by omega),show n % 10 = n by omega]; rfl
 | succ k ih =>
  intro n b nl hn h64 h hb
  rw [one n b nl h h64 (by omega)]
  by_cases h1 : n < 10
  ·rw [show n / 10 = 0 by omega,stop _ (by simp),natD_lt h1,show n % 10 = n by omega]; rfl
  ·rw [ih (n / 10) (b ++ [dig (n % 10)]) false (by rw [Nat.pow_succ] at hn; omega) (by omega) (by omega) (by simp; omega),natD_ge (n := n) (by omega)]
   simp
theorem s_decimal (v : Int) (hv : -9223372036854775808 ≤ v∧v ≤ 9223372036854775807) : ev 77 [.v (.int .i64 v)] = some [.v (.string (bs (intD v)))] := by
 have fin : ∀ (n : Nat) (p : B),p.length ≤ 1 → n < 18446744073709551616 → ∀ (l : LR),l = ⟨some 0,⟨[(4,.v (.string (bs p))),(5,.sl false 0 0 none)],[⟨1,5,1,false,([] ++ (natD n).reverse).map ofByte⟩]⟩,[]⟩ →
   (cond (leN (List.length (blAt l.st.bl 0).xs) 1000000) (cond (List.all (List.reverse (blAt l.st.bl 0).xs) Ev.isByte) (cond (leN ((ByteArray.size (avStr (frAt l.st.fr 0).2)) + (ByteArray.size ⟨(List.map Ev.byteOf (List.reverse (blAt l.st.bl 0).xs)).toArray⟩)) 9223372036854775807) (some [(AV.v (.string ((avStr (frAt l.st.fr 0).2) ++ ⟨(List.map Ev.byteOf (List.reverse (blAt l.st.bl 0).xs)).toArray⟩)))]) none) none) none) = some [.v (.string (bs (p ++ natD n)))] := fun n p hp hn l hl => by
  subst hl
  simp only [blAt_zero,frAt_zero,List.nil_append,avStr_v]
  rw [← List.map_reverse,List.reverse_reverse,rows_back,rows_all,List.length_map,List.length_reverse,bs_size,bs_size]
  have := natD_len20 hn
  rw [leN_t (by omega),leN_t (by omega),bs_append]; rfl
 rw [ev77]
 unfold intD
 by_cases h : v < 0
 ·rw [ltI_t h,if_pos h]
  have e : IntKind.u64.wrap (0 - IntKind.u64.wrap v) = ((v.natAbs : Nat) : Int) := by rw [w_u64,w_u64]; omega
  rw [e]
  exact bnd (l_decimal (bs [45]) 19 v.natAbs [] true (by omega) (by omega) (.inr rfl) (by simp)) (fin v.natAbs [45] (by simp) (by omega) _ rfl)
 ·rw [ltI_f (by omega),if_neg h]
  have e : IntKind.u64.wrap v = ((v.toNat : Nat) : Int) := by rw [w_u64]; omega
  rw [e]
  exact bnd (l_decimal (bs []) 19 v.toNat [] true (by omega) (by omega) (.inr rfl) (by simp)) (fin v.toNat [] (by simp) (by omega) _ rfl)
end Go.Proofs.Ytnhahcomgeeobaa
