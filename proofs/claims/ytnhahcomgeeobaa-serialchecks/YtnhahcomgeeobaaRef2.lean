/- The reference's sums,changes and ranges. -/
import Derived.Test.YtnhahcomgeeobaaRef1
set_option linter.all false
namespace Go.Proofs.Ytnhahcomgeeobaa
open Go.Ev
theorem s_Add {a v : Int} (ha : -9223372036854775808 ≤ a∧a ≤ 9223372036854775807) (hv : -9223372036854775808 ≤ v∧v ≤ 9223372036854775807) :
  ev 58 [.v (.int .i64 a),.v (.int .i64 v)] = some (bif sumB (a + v) then [.v (.int .i64 (IntKind.wrap .i64 (a + v))),.v (.bool true)] else [.v (.int .i64 0),.v (.bool false)]) := by
 have e1 : ltI (IntKind.wrap .i64 (9223372036854775807 - v)) a = ltI (IntKind.wrap .i64 (9223372036854775807 - v)) a := rfl
 rw [ev58]
 by_cases h : 0 < v
 ·refine cT (ltI_t h) ?_
  rw [show IntKind.wrap .i64 (9223372036854775807 - v) = 9223372036854775807 - v by rw [w_i64]; omega]
  by_cases h2 : 9223372036854775807 - v < a
  ·rw [show sumB (a + v) = false from decide_eq_false (by omega)]
   exact cT (ltI_t h2) rfl
  ·rw [show sumB (a + v) = true from decide_eq_true (by omega)]
   exact cF (ltI_f (by omega)) (cF (ltI_f (by omega)) rfl)
 ·refine cF (ltI_f (by omega)) ?_
  by_cases h3 : v < 0
  ·refine cT (ltI_t h3) ?_
   rw [show IntKind.wrap .i64 (-9223372036854775808 - v) = -9223372036854775808 - v by rw [w_i64]; omega]
   by_cases h2 : a < -9223372036854775808 - v
   ·rw [show sumB (a + v) = false from decide_eq_false (by omega)]
    exact cT (ltI_t h2) rfl
   ·rw [show sumB (a + v) = true from decide_eq_true (by omega)]
    exact cF (ltI_f (by omega)) rfl
  ·rw [show sumB (a + v) = true from decide_eq_true (by omega)]
   exact cF (ltI_f (by omega)) rfl
theorem and_low (x : Int) : bits .and .i64 x 4294967295 = x % 4294967296 := by
 show IntKind.i64.wrap (((BitVec.ofInt 64 x &&& BitVec.ofInt 64 4294967295).toNat : Nat) : Int) = _
 have h2 : (BitVec.ofInt 64 (4294967295 : Int)).toNat = 2 ^ 32 - 1 := by decide
 have h1 : (BitVec.ofInt 64 x).toNat = (x % 18446744073709551616).toNat := by simp [BitVec.toNat_ofInt]
 rw [BitVec.toNat_and,h1,h2,Nat.and_two_pow_sub_one_eq_mod,w_i64]
 omega
theorem or_low {h l : Int} (hh : -2147483648 ≤ h∧h ≤ 2147483647) (hl : 0 ≤ l∧l < 4294967296) : bits .or .i64 (IntKind.wrap .i64 (h * 4294967296)) l = h * 4294967296 + l := by
 rw [show IntKind.wrap .i64 (h * 4294967296) = h * 4294967296 by rw [w_i64]; omega]
 show IntKind.i64.wrap (((BitVec.ofInt 64 (h * 4294967296) ||| BitVec.ofInt 64 l).toNat : Nat) : Int) = _
 have h1 : (BitVec.ofInt 64 (h * 4294967296)).toNat = 2 ^ 32 * (h % 4294967296).toNat := by simp only [BitVec.toNat_ofInt]; omega
 have h2 : (BitVec.ofInt 64 l).toNat = l.toNat := by simp only [BitVec.toNat_ofInt]; omega
 rw [BitVec.toNat_or,h1,h2,← Nat.two_pow_add_eq_or_of_lt (by omega),w_i64]
 omega
def vRow (c : Int) : List AV := [.v (.int .i64 c)]
def isum : List Int → Int
 | [] => 0
 | c :: cs => c + isum cs
theorem isum_snoc : ∀ (l : List Int) (c : Int),isum (l ++ [c]) = isum l + c
 | [],c => by simp [isum]
 | x :: l,c => by simp only [List.cons_append,isum,isum_snoc l c]; omega
theorem isum_tot (c : Nat) : ∀ F : List Rw,isum (F.map fun r => r.col c) = tot c F
 | [] => rfl
 | r :: F => by simp only [List.map_cons,isum,tot,isum_tot c F]
theorem l_rsum (b : Bool) (cs : List Int) (hok : ∀ c ∈ cs,-9223372036854775808 ≤ c∧c ≤ 9223372036854775807) (hlen : cs.length ≤ 1000) : ∀ (rest done : List Int) (lo hi : Int),cs = done ++ rest → (0 ≤ lo∧lo ≤ 4294967296 * done.length) → (-2147483648 * done.length ≤ hi∧hi ≤ 2147483648 * done.length) → hi * 4294967296 + lo = isum done →
  ∃ lo' hi' : Int,lp 59 0 0 ⟨[(0,.lst b 1 (cs.map vRow)),(4,.v (.int .i64 lo)),(5,.v (.int .i64 hi)),(6,.v (.int .i64 ((done.length : Nat) : Int)))],[]⟩ = some ⟨some 0,⟨[(4,.v (.int .i64 lo')),(5,.v (.int .i64 hi'))],[]⟩,[]⟩ ∧
   (0 ≤ lo'∧lo' ≤ 4294967296000)∧(-2147483648000 ≤ hi'∧hi' ≤ 2147483648000)∧hi' * 4294967296 + lo' = isum cs
 | [],done,lo,hi,h,h1,h2,h3 => by
  have : done.length ≤ 1000 := by rw [h,List.append_nil] at hlen; exact hlen
  refine ⟨lo,hi,?_,by omega,by omega,by rw [h,List.append_nil]; exact h3⟩
  rw [lp59_0]
  exact cF (ltI_f (by rw [List.length_map,h,List.append_nil]; omega)) rfl
 | c :: rest,done,lo,hi,h,h1,h2,h3 => by
  have hlt : done.length < cs.length := by rw [h]; simp
  have hrow : lget (cs.map vRow) (Int.toNat ((done.length : Nat) : Int)) = vRow c := by
   rw [Int.toNat_natCast,lget_map _ _ _ hlt]
   subst h
   simp
  have hc := hok c (by rw [h]; simp)
  have hw : IntKind.i64.wrap (((done.length : Nat) : Int) + 1) = (((done ++ [c]).length : Nat) : Int) := by rw [w_i64,List.length_append,List.length_singleton]; omega
  have hin : (leI 0 ((done.length : Nat) : Int) && ltI ((done.length : Nat) : Int) (((List.length (cs.map vRow)) : Nat) : Int)) = true := by rw [leI_t (by omega),ltI_t (by rw [List.length_map]; omega)]; rfl
  have w1 : IntKind.i64.wrap (lo + c % 4294967296) = lo + c % 4294967296 := by rw [w_i64]; omega
  have w2 : IntKind.i64.wrap (hi + c / 4294967296) = hi + c / 4294967296 := by rw [w_i64]; omega
  obtain ⟨lo',hi',k1,k2,k3,k4⟩ := l_rsum b cs hok hlen rest (done ++ [c]) (lo + c % 4294967296) (hi + c / 4294967296) (by rw [h]; simp) (by rw [List.length_append,List.length_singleton]; omega) (by rw [List.length_append,List.length_singleton]; omega) (by rw [isum_snoc]; omega)
  refine ⟨lo',hi',?_,k2,k3,k4⟩
  rw [lp59_0,hrow,hw]
  refine cT (ltI_t (by rw [List.length_map]; omega)) (cT hin (cT rfl (cT hin (cT rfl ?_))))
  show lp 59 0 0 ⟨[(0,.lst b 1 (cs.map vRow)),(4,.v (.int .i64 (IntKind.i64.wrap (lo + bits .and .i64 c 4294967295)))),(5,.v (.int .i64 (IntKind.i64.wrap (hi + Int.fdiv c 4294967296)))),(6,.v (.int .i64 (((done ++ [c]).length : Nat) : Int)))],[]⟩ = _
  rw [and_low,Int.fdiv_eq_ediv_of_nonneg _ (by decide),w1,w2]
  exact k1
theorem s_Sum (b : Bool) (cs : List Int) (hok : ∀ c ∈ cs,-9223372036854775808 ≤ c∧c ≤ 9223372036854775807) (hlen : cs.length ≤ 1000) :
  ev 59 [.lst b 1 (cs.map vRow)] = some (bif sumB (isum cs) then [.v (.int .i64 (isum cs)),.v (.bool true)] else [.v (.int .i64 0),.v (.bool false)]) := by
 obtain ⟨lo,hi,k1,k2,k3,k4⟩ := l_rsum b cs hok hlen cs [] 0 0 rfl (by simp) (by simp) rfl
 rw [ev59]
 refine bnd k1 (cT rfl (cT rfl ?_))
 show cond (ltI (IntKind.i64.wrap (hi + Int.fdiv lo 4294967296)) (-2147483648)) _ (cond (ltI 2147483647 (IntKind.i64.wrap (hi + Int.fdiv lo 4294967296))) _ (some [AV.v (.int .i64 (bits .or .i64 (IntKind.i64.wrap (IntKind.i64.wrap (hi + Int.fdiv lo 4294967296) * 4294967296)) (bits .and .i64 lo 4294967295))),AV.v (.bool true)])) = _
 rw [Int.fdiv_eq_ediv_of_nonneg _ (by decide),and_low]
 rw [show IntKind.i64.wrap (hi + lo / 4294967296) = hi + lo / 4294967296 by rw [w_i64]; omega]
 by_cases h1 : hi + lo / 4294967296 < -2147483648
 ·rw [show sumB (isum cs) = false from decide_eq_false (by omega)]
  exact cT (ltI_t h1) rfl
 ·refine cF (ltI_f (by omega)) ?_
  by_cases h2 : 2147483647 < hi + lo / 4294967296
  ·rw [show sumB (isum cs) = false from decide_eq_false (by omega)]
   exact cT (ltI_t h2) rfl
  ·rw [show sumB (isum cs) = true from decide_eq_true (by omega)]
   refine cF (ltI_f (by omega)) ?_
   rw [or_low (by omega) (by omega),show (hi + lo / 4294967296) * 4294967296 + lo % 4294967296 = isum cs by omega]
   rfl
def chg (s : Stm) (r : Rw) : Rw × Int :=
 bif s.k == 2 then (r.set s.col.toNat s.v,0) else
 bif sumB (r.col s.col.toNat + s.v) then (r.set s.col.toNat (IntKind.i64.wrap (r.col s.col.toNat + s.v)),0) else (r,2)
theorem set_cells (r : Rw) {c : Nat} (hc : c < 3) (v : Int) : [AV.v (.int .u32 r.k),.v (.int .i64 (cond (Nat.beq (Int.toNat (c : Int)) 0) v r.a)),.v (.int .i64 (cond (Nat.beq (Int.toNat (c : Int)) 1) v r.b)),.v (.int .i64 (cond (Nat.beq (Int.toNat (c : Int)) 2) v r.c))] = (r.set c v).row := by
 have : c = 0 ∨ c = 1 ∨ c = 2 := by omega
 rcases this with rfl | rfl | rfl <;> rfl
theorem s_Change (s : Stm) (hc : 0 ≤ s.col∧s.col < 3) (hv : -9223372036854775808 ≤ s.v∧s.v ≤ 9223372036854775807) (r : Rw) (hr : r.ok) :
  ev 42 [.agg s.row,.agg r.row] = some [.agg (chg s r).1.row,.v (.int .i64 (chg s r).2)] := by
 obtain ⟨k,key,last,c0,c1,c2,col,v,wc,wo,wv,lim⟩ := s
 obtain ⟨c,rfl⟩ : ∃ c : Nat,col = c := ⟨col.toNat,by have := hc.1; simp only at this; omega⟩
 have hc3 : c < 3 := by have := hc.2; simp only at this; omega
 simp only at hv
 have hin : (leI 0 (c : Int) && ltI (c : Int) 3) = true := by rw [leI_t (by omega),ltI_t (by omega)]; rfl
 unfold Stm.row
 have hrr : r.row = [.v (.int .u32 r.k),.v (.int .i64 r.a),.v (.int .i64 r.b),.v (.int .i64 r.c)] := rfl
 rw [hrr,ev42]
 unfold chg
 simp only
 cases hk : (k == 2) with
 | true =>
  refine cT rfl (cT hin ?_)
  rw [set_cells r hc3,Int.toNat_natCast]; rfl
 | false =>
  have hadd := s_Add (col_ok hr c) hv
  have hcol : (cond (Nat.beq (Int.toNat (c : Int)) 0) r.a (cond (Nat.beq (Int.toNat (c : Int)) 1) r.b r.c)) = r.col c := by
   have : c = 0 ∨ c = 1 ∨ c = 2 := by omega
   rcases this with rfl | rfl | rfl <;> rfl
  rw [hcol]
  rw [Int.toNat_natCast]
  cases hs : sumB (r.col c + v) with
  | true =>
   rw [hs] at hadd
   refine cF rfl (cT hin (bnd hadd (cT rfl (cT rfl (cF rfl (cT hin ?_))))))
   have := set_cells r hc3 (IntKind.i64.wrap (r.col c + v))
   rw [Int.toNat_natCast] at this
   show some [AV.agg [AV.v (.int .u32 r.k),.v (.int .i64 (cond (Nat.beq c 0) (IntKind.i64.wrap (r.col c + v)) r.a)),.v (.int .i64 (cond (Nat.beq c 1) (IntKind.i64.wrap (r.col c + v)) r.b)),.v (.int .i64 (cond (Nat.beq c 2) (IntKind.i64.wrap (r.col c + v)) r.c))],AV.v (.int .i64 0)] = _
   rw [this]; rfl
  | false =>
   rw [hs] at hadd
   exact cF rfl (cT hin (bnd hadd (cT rfl (cT rfl (cT rfl rfl)))))
def hB (s : Stm) (r : Rw) : Bool := holdB s.wc s.wo s.wv r.a r.b r.c
theorem l_rrange (s : Stm) (hc : 0 ≤ s.col∧s.col < 3) (b : Bool) (F0 : List Rw) (hlen : F0.length ≤ 1000) : ∀ (rest done acc : List Rw) (f f2 b1n : Bool) (b1 b3 : Int) (b2 : List (List AV)),F0 = done ++ rest → acc.length ≤ done.length → (0 < s.lim → (acc.length : Int) ≤ s.lim) →
  ∃ (f' f2' : Bool),lp 43 0 0 ⟨[(1,.lst b 4 (F0.map Rw.row)),(2,.ptr 0 0 0),(4,.ptr 1 0 0),(6,.ptr 3 0 0),(7,.sl f 5 0 none),(8,.v (.int .i64 ((done.length : Nat) : Int)))],[⟨1,64,12,true,[s.row]⟩,⟨1,111,2,true,[[.sl b1n 2 0 none,.v (.int .i64 b1)]]⟩,⟨1,61,4,false,b2⟩,⟨1,111,2,true,[[.sl f2 4 0 none,.v (.int .i64 b3)]]⟩,⟨1,61,4,false,acc.map Rw.row⟩,⟨1,2,1,false,(acc.map fun r => r.col s.col.toNat).map vRow⟩]⟩ =
   some ⟨some 0,⟨[(2,.ptr 0 0 0),(4,.ptr 1 0 0),(6,.ptr 3 0 0),(7,.sl f' 5 0 none)],[⟨1,64,12,true,[s.row]⟩,⟨1,111,2,true,[[.sl b1n 2 0 none,.v (.int .i64 b1)]]⟩,⟨1,61,4,false,b2⟩,⟨1,111,2,true,[[.sl f2' 4 0 none,.v (.int .i64 b3)]]⟩,⟨1,61,4,false,(cutB s.lim (acc ++ rest.filter (hB s))).map Rw.row⟩,⟨1,2,1,false,((cutB s.lim (acc ++ rest.filter (hB s))).map fun r => r.col s.col.toNat).map vRow⟩]⟩,[]⟩
 | [],done,acc,f,f2,b1n,b1,b3,b2,h,ha,hl => by
  have e : cutB s.lim (acc ++ List.filter (hB s) []) = acc := by
   rw [List.filter_nil,List.append_nil]
   unfold cutB
   by_cases h0 : 0 < s.lim
   ·rw [ltI_t h0]
    have := hl h0
    exact List.take_of_length_le (by omega)
   ·rw [ltI_f (by omega)]; rfl
  rw [e]
  refine ⟨f,f2,?_⟩
  unfold Stm.row
  rw [lp43_0]
  exact cF (ltI_f (by rw [List.length_map,h,List.append_nil]; omega)) rfl
 | r :: rest,done,acc,f,f2,b1n,b1,b3,b2,h,ha,hl => by
  have hlt : done.length < F0.length := by rw [h]; simp
  have hrow : lget (F0.map Rw.row) (Int.toNat ((done.length : Nat) : Int)) = r.row := by
   rw [Int.toNat_natCast,lget_map _ _ _ hlt]
   subst h
   simp
  have hw : IntKind.i64.wrap (((done.length : Nat) : Int) + 1) = (((done ++ [r]).length : Nat) : Int) := by rw [w_i64,List.length_append,List.length_singleton]; omega
  have hin : (leI 0 ((done.length : Nat) : Int) && ltI ((done.length : Nat) : Int) (((List.length (F0.map Rw.row)) : Nat) : Int)) = true := by rw [leI_t (by omega),ltI_t (by rw [List.length_map]; omega)]; rfl
  have ih := fun acc f f2 ha hl => l_rrange s hc b F0 hlen rest (done ++ [r]) acc f f2 b1n b1 b3 b2 (by rw [h]; simp) ha hl
  have hh := s_RHolds s.wc s.wo s.wv r.k r.a r.b r.c
  have hcol : s.col = ((s.col.toNat : Nat) : Int) := by omega
  have hc3 : s.col.toNat < 3 := by omega
  have hcin : (leI 0 s.col && ltI s.col 3) = true := by rw [leI_t hc.1,ltI_t hc.2]; rfl
  have hl1 : leN (((List.length (acc.map Rw.row)) + 1) * 32) 140737488355328 = true := leN_t (by rw [List.length_map]; omega)
  have hl2 : leN (((List.length ((acc.map fun r => r.col s.col.toNat).map vRow)) + 1) * 8) 140737488355328 = true := leN_t (by rw [List.length_map,List.length_map]; omega)
  have hci : isI .i64 (cellAt r.row (1 + ((Int.toNat s.col) * 1))) = true := by have := col_isI r hc3; rwa [← hcol] at this
  have hcv : avInt (cellAt r.row (1 + ((Int.toNat s.col) * 1))) = r.col s.col.toNat := by have := col_cell r hc3; rwa [← hcol] at this
  rw [List.filter_cons]
  cases hB1 : hB s r with
  | false =>
   obtain ⟨f',f2',ih'⟩ := ih acc f f2 (by rw [List.length_append]; omega) hl
   refine ⟨f',f2',?_⟩
   rw [if_neg (by decide)]
   unfold Stm.row at ih' ⊢
   rw [lp43_0,hrow,hw]
   refine cT (ltI_t (by rw [List.length_map]; omega)) (cT hin (cT rfl (bnd hh (cT rfl ?_))))
   show cond (!(hB s r)) _ _ = _
   rw [hB1]
   exact ih'
  | true =>
   rw [if_pos rfl]
   have hcons : acc ++ r :: List.filter (hB s) rest = (acc ++ [r]) ++ List.filter (hB s) rest := by simp
   by_cases h0 : 0 < s.lim
   ·by_cases h3 : ((acc.length : Nat) : Int) = s.lim
    ·have e : cutB s.lim (acc ++ r :: List.filter (hB s) rest) = acc := by
      unfold cutB
      rw [ltI_t h0,cond_true,show s.lim.toNat = acc.length by omega,List.take_left']
      rfl
     rw [e]
     refine ⟨f,f2,?_⟩
     unfold Stm.row
     rw [lp43_0,hrow,hw]
     refine cT (ltI_t (by rw [List.length_map]; omega)) (cT hin (cT rfl (bnd hh (cT rfl ?_))))
     show cond (!(hB s r)) _ _ = _
     rw [hB1]
     refine cF rfl (cT (ltI_t h0) (cT ?_ rfl))
     show (((((List.length (acc.map Rw.row)) - 0 : Nat)) : Int) == s.lim) = true
     rw [List.length_map,Nat.sub_zero,beq_iff_eq]; exact h3
    ·obtain ⟨f',f2',ih'⟩ := ih (acc ++ [r]) false false (by rw [List.length_append,List.length_append]; simp; exact ha) (fun hp => by have := hl hp; rw [List.length_append,List.length_singleton]; omega)
     refine ⟨f',f2',?_⟩
     rw [hcons]
     rw [List.map_append,List.map_append,List.map_append] at ih'
     unfold Stm.row at ih' ⊢
     rw [lp43_0,hrow,hw]
     refine cT (ltI_t (by rw [List.length_map]; omega)) (cT hin (cT rfl (bnd hh (cT rfl ?_))))
     show cond (!(hB s r)) _ _ = _
     rw [hB1]
     refine cF rfl (cT (ltI_t h0) (cF ?_ (cT hin (cT rfl (cT hl1 (cT hin (cT hcin (cT hci (cT hl2 ?_)))))))))
     ·show (((((List.length (acc.map Rw.row)) - 0 : Nat)) : Int) == s.lim) = false
      rw [List.length_map,Nat.sub_zero,beq_eq_false_iff_ne]; exact h3
     ·rw [hcv]; exact ih'
   ·obtain ⟨f',f2',ih'⟩ := ih (acc ++ [r]) false false (by rw [List.length_append,List.length_append]; simp; exact ha) (fun hp => absurd hp h0)
    refine ⟨f',f2',?_⟩
    rw [hcons]
    rw [List.map_append,List.map_append,List.map_append] at ih'
    unfold Stm.row at ih' ⊢
    rw [lp43_0,hrow,hw]
    refine cT (ltI_t (by rw [List.length_map]; omega)) (cT hin (cT rfl (bnd hh (cT rfl ?_))))
    show cond (!(hB s r)) _ _ = _
    rw [hB1]
    refine cF rfl (cF (ltI_f (by omega)) (cT hin (cT rfl (cT hl1 (cT hin (cT hcin (cT hci (cT hl2 ?_))))))))
    rw [hcv]; exact ih'
theorem filt2 (s : Stm) (ts : List Rw) : (ts.filter fun r => leI s.key r.k && leI r.k s.last).filter (hB s) = ts.filter (selB s) := by
 rw [List.filter_filter]
 refine List.filter_congr fun r _ => ?_
 unfold selB hB
 cases leI s.key r.k <;> cases leI r.k s.last <;> simp
theorem s_Range (s : Stm) (hv : s.V) (h68 : 6 ≤ s.k∧s.k ≤ 8) (b : Bool) (ts F0 : List Rw) (hF0 : F0 = ts.filter fun r => leI s.key r.k && leI r.k s.last) (hT : OkT ts) (hlen : ts.length ≤ 1000) :
  ∃ nb : Bool,ev 43 [.agg s.row,.lst b 4 (F0.map Rw.row)] = some [.agg ((rdR s ts).1.cells nb),.v (.int .i64 (rdR s ts).2)] := by
 have hcol : 0 ≤ s.col∧s.col < 3 := by have := hv.2.2.2.2.1; omega
 have hF : F0.length ≤ 1000 := by have := List.length_filter_le (fun r : Rw => leI s.key r.k && leI r.k s.last) ts; rw [hF0]; omega
 obtain ⟨f',f2',h⟩ := l_rrange s hcol b F0 hF F0 [] [] true true true 0 0 [] rfl (Nat.le_refl _) (fun _ => by simp; omega)
 rw [List.nil_append] at h
 rw [show F0.filter (hB s) = ts.filter (selB s) by rw [hF0]; exact filt2 s ts] at h
 have hfl : (ts.filter (selB s)).length ≤ 1000 := by have := List.length_filter_le (selB s) ts; omega
 by_cases h6 : s.k = 6
 ·have hk6 : (s.k == 6) = true := by simp [h6]
  have hk7 : (s.k == 7) = false := by simp [h6]
  have hk8 : (s.k == 8) = false := by simp [h6]
  have e : rdR s ts = (⟨cutB s.lim (ts.filter (selB s)),0⟩,0) := by unfold rdR; rw [hk6]; rfl
  rw [e]
  refine ⟨f2',?_⟩
  unfold Stm.row at h ⊢
  rw [ev43]
  exact bnd h (cT rfl (cT rfl (cF hk7 (cF hk8 rfl))))
 ·have hl0 : s.lim = 0 := by have := hv.2.2.2.2.2.2.2; omega
  have ec : cutB s.lim (ts.filter (selB s)) = ts.filter (selB s) := by unfold cutB; rw [hl0]; rfl
  rw [ec] at h
  have hk6 : (s.k == 6) = false := by simp [h6]
  by_cases h7 : s.k = 7
  ·have hk7 : (s.k == 7) = true := by simp [h7]
   have e : rdR s ts = (⟨[],((ts.filter (selB s)).length : Nat)⟩,0) := by unfold rdR; rw [hk6,hk7]; rfl
   rw [e]
   refine ⟨true,?_⟩
   unfold Stm.row at h ⊢
   rw [ev43]
   refine bnd h (cT rfl (cT rfl (cT hk7 ?_)))
   show some [AV.agg [AV.lst true 4 [],AV.v (.int .i64 ((((List.length ((ts.filter (selB s)).map Rw.row)) - 0) : Nat) : Int))],AV.v (.int .i64 0)] = _
   rw [List.length_map]; rfl
  ·have hk7 : (s.k == 7) = false := by simp [h7]
   have hk8 : (s.k == 8) = true := by simp; omega
   have hs := s_Sum f' ((ts.filter (selB s)).map fun r => r.col s.col.toNat) (fun c hc => by
    obtain ⟨r,hr,rfl⟩ := List.mem_map.1 hc
    exact col_ok (hT r (List.mem_filter.1 hr).1) _) (by rw [List.length_map]; exact hfl)
   rw [isum_tot] at hs
   cases hsum : sumB (tot s.col.toNat (ts.filter (selB s))) with
   | true =>
    rw [hsum] at hs
    have e : rdR s ts = (⟨[],tot s.col.toNat (ts.filter (selB s))⟩,0) := by unfold rdR; rw [hk6,hk7,hk8,hsum]; rfl
    rw [e]
    refine ⟨true,?_⟩
    unfold Stm.row at h ⊢
    rw [ev43]
    exact bnd h (cT rfl (cT rfl (cF hk7 (cT hk8 (bnd hs (cT rfl (cT rfl (cF rfl rfl))))))))
   | false =>
    rw [hsum] at hs
    have e : rdR s ts = (r0,2) := by unfold rdR; rw [hk6,hk7,hk8,hsum]; rfl
    rw [e]
    refine ⟨true,?_⟩
    unfold Stm.row at h ⊢
    rw [ev43]
    exact bnd h (cT rfl (cT rfl (cF hk7 (cT hk8 (bnd hs (cT rfl (cT rfl (cT rfl rfl))))))))
end Go.Proofs.Ytnhahcomgeeobaa
