/- Tables,and where a key is found. -/
import Derived.Test.YtnhahcomgeeobaaTold
set_option linter.all false
namespace Go.Proofs.Ytnhahcomgeeobaa
open Go.Ev
theorem cT {α : Type} {c : Bool} {A B : α} {r : α} (h : c = true) (h2 : A = r) : cond c A B = r := by rw [h]; exact h2
theorem cF {α : Type} {c : Bool} {A B : α} {r : α} (h : c = false) (h2 : B = r) : cond c A B = r := by rw [h]; exact h2
structure Rw where
 k : Int
 a : Int
 b : Int
 c : Int
def Rw.row (r : Rw) : List AV := [.v (.int .u32 r.k),.v (.int .i64 r.a),.v (.int .i64 r.b),.v (.int .i64 r.c)]
def rz : Rw := ⟨0,0,0,0⟩
theorem s_nan (x : Int) : ev 97 [.v (.int .u32 x)] = some [.v (.bool false)] := by
 rw [ev97]
 show some [AV.v (.bool (!(x == x)))] = _
 rw [beq_self_i]; rfl
def cmp (x y : Int) : Int := if x < y then -1 else if y < x then 1 else 0
theorem s_cmp (x y : Int) : ev 84 [.v (.int .u32 x),.v (.int .u32 y)] = some [.v (.int .i64 (cmp x y))] := by
 rw [ev84]
 refine bnd (s_nan x) (cT rfl (bnd (s_nan y) (cT rfl (cF rfl (cF rfl ?_)))))
 unfold cmp
 by_cases h : x < y
 ·rw [if_pos h]; exact cT (ltI_t h) rfl
 ·rw [if_neg h]
  refine cF (ltI_f (by omega)) ?_
  by_cases h2 : y < x
  ·rw [if_pos h2]; exact cT (ltI_t h2) rfl
  ·rw [if_neg h2]; exact cF (ltI_f (by omega)) rfl
theorem s_find1 (r : Rw) (y : Int) : ev 83 [.agg r.row,.v (.int .u32 y)] = some [.v (.int .i64 (cmp r.k y))] := by
 show ev 83 [.agg [.v (.int .u32 r.k),.v (.int .i64 r.a),.v (.int .i64 r.b),.v (.int .i64 r.c)],.v (.int .u32 y)] = _
 rw [ev83]
 exact bnd (s_cmp r.k y) (cT rfl rfl)
theorem cmp_lt {x y : Int} : cmp x y < 0 ↔ x < y := by unfold cmp; split <;> (try split) <;> omega
theorem cmp_eq {x y : Int} : cmp x y = 0 ↔ x = y := by unfold cmp; split <;> (try split) <;> omega
structure At (ts : List Rw) (y : Int) (r : Nat) : Prop where
 le : r ≤ ts.length
 lo : ∀ i,i < r → (ts.getD i rz).k < y
 hi : ∀ i,r ≤ i → i < ts.length → y ≤ (ts.getD i rz).k
def Asc (ts : List Rw) : Prop := ∀ i j,i ≤ j → j < ts.length → (ts.getD i rz).k ≤ (ts.getD j rz).k
theorem l_bs (b : Bool) (ts : List Rw) (y : Int) (hs : Asc ts) (hlen : ts.length ≤ 1000000) : ∀ (d lo hi : Nat),hi - lo ≤ d → lo ≤ hi → hi ≤ ts.length → (∀ i,i < lo → (ts.getD i rz).k < y) → (∀ i,hi ≤ i → i < ts.length → y ≤ (ts.getD i rz).k) →
  ∃ r : Nat,lp 82 0 0 ⟨[(0,.lst b 4 (ts.map Rw.row)),(1,.v (.int .u32 y)),(2,.clo 83 [] []),(8,.v (.int .i64 (((ts.map Rw.row).length : Nat) : Int))),(9,.v (.int .i64 (lo : Int))),(10,.v (.int .i64 (hi : Int)))],[]⟩ =
   some ⟨some 0,⟨[(0,.lst b 4 (ts.map Rw.row)),(1,.v (.int .u32 y)),(2,.clo 83 [] []),(8,.v (.int .i64 (((ts.map Rw.row).length : Nat) : Int))),(9,.v (.int .i64 (r : Int)))],[]⟩,[]⟩∧At ts y r
 | 0,lo,hi,hd,h1,h2,h3,h4 => by
  refine ⟨lo,?_,by omega,h3,fun i hi' => h4 i (by omega)⟩
  rw [lp82_0]
  exact cF (ltI_f (by omega)) rfl
 | d + 1,lo,hi,hd,h1,h2,h3,h4 => by
  by_cases he : lo = hi
  ·refine ⟨lo,?_,by omega,h3,fun i hi' => h4 i (by omega)⟩
   rw [lp82_0]
   exact cF (ltI_f (by omega)) rfl
  ·obtain ⟨m,hm⟩ : ∃ m : Nat,m = (lo + hi) / 2 := ⟨_,rfl⟩
   have hmid : IntKind.i64.wrap (Int.fdiv (IntKind.u64.wrap (IntKind.i64.wrap ((lo : Int) + (hi : Int)))) 2) = (m : Int) := by
    have e1 : IntKind.i64.wrap ((lo : Int) + (hi : Int)) = ((lo + hi : Nat) : Int) := by rw [w_i64]; omega
    have e2 : IntKind.u64.wrap ((lo + hi : Nat) : Int) = ((lo + hi : Nat) : Int) := by rw [w_u64]; omega
    rw [e1,e2,Int.fdiv_eq_ediv_of_nonneg _ (by decide),w_i64]; omega
   have hml : m < ts.length := by omega
   have hrow : lget (ts.map Rw.row) (Int.toNat (m : Int)) = (ts.getD m rz).row := by rw [Int.toNat_natCast,lget_mapD _ _ rz _ hml]
   have hw : IntKind.i64.wrap ((m : Int) + 1) = ((m + 1 : Nat) : Int) := by rw [w_i64]; omega
   by_cases hc : (ts.getD m rz).k < y
   ·obtain ⟨r,hr,ha⟩ := l_bs b ts y hs hlen d (m + 1) hi (by omega) (by omega) h2 (fun i hi' => by
     have := hs i m (by omega) hml; omega) h4
    refine ⟨r,?_,ha⟩
    rw [lp82_0,hmid,hrow,hw]
    exact cT (ltI_t (by omega)) (cT (by rw [leI_t (by omega),ltI_t (by rw [List.length_map]; omega)]; rfl) (cT rfl (bnd (s_find1 _ y) (cT rfl (cT (ltI_t (cmp_lt.2 hc)) hr)))))
   ·obtain ⟨r,hr,ha⟩ := l_bs b ts y hs hlen d lo m (by omega) (by omega) (by omega) h3 (fun i hi' hi2 => by
     have := hs m i hi' hi2; omega)
    refine ⟨r,?_,ha⟩
    rw [lp82_0,hmid,hrow,hw]
    exact cT (ltI_t (by omega)) (cT (by rw [leI_t (by omega),ltI_t (by rw [List.length_map]; omega)]; rfl) (cT rfl (bnd (s_find1 _ y) (cT rfl (cF (ltI_f (by have := mt cmp_lt.1 hc; show 0 ≤ cmp (ts.getD m rz).k y; omega)) hr)))))
def hasK (ts : List Rw) (y : Int) (r : Nat) : Bool := decide (r < ts.length) && ((ts.getD r rz).k == y)
theorem s_find (b : Bool) (ts : List Rw) (y : Int) (hs : Asc ts) (hlen : ts.length ≤ 1000000) : ∃ r : Nat,ev 65 [.lst b 4 (ts.map Rw.row),.v (.int .u32 y)] = some [.v (.int .i64 (r : Int)),.v (.bool (hasK ts y r))]∧At ts y r := by
 obtain ⟨r,hr,ha⟩ := l_bs b ts y hs hlen ts.length 0 ts.length (by omega) (by omega) (Nat.le_refl _) (fun i h => by omega) (fun i h h2 => by omega)
 refine ⟨r,?_,ha⟩
 have h82 : ev 82 [.lst b 4 (ts.map Rw.row),.v (.int .u32 y),.clo 83 [] []] = some [.v (.int .i64 (r : Int)),.v (.bool (hasK ts y r))] := by
  rw [ev82 _ _ _ 0,show ((((ts.map Rw.row).length : Nat) : Int)) = ((ts.length : Nat) : Int) by rw [List.length_map]]
  rw [show ((((ts.map Rw.row).length : Nat) : Int)) = ((ts.length : Nat) : Int) by rw [List.length_map]] at hr
  refine bnd hr (cT rfl (cT rfl ?_))
  show cond (ltI (r : Int) ((ts.length : Nat) : Int)) _ _ = _
  by_cases hl : r < ts.length
  ·have hrow : lget (ts.map Rw.row) (Int.toNat (r : Int)) = (ts.getD r rz).row := by rw [Int.toNat_natCast,lget_mapD _ _ rz _ hl]
   refine cT (ltI_t (by omega)) (cT ?_ (cT ?_ (bnd (a := [.v (.int .i64 (cmp (ts.getD r rz).k y))]) ?_ (cT rfl ?_))))
   ·show (leI 0 (r : Int) && ltI (r : Int) (((ts.map Rw.row).length : Nat) : Int)) = true
    rw [leI_t (by omega),ltI_t (by rw [List.length_map]; omega)]; rfl
   ·show (isI .u32 (cellAt (lget (ts.map Rw.row) (Int.toNat (r : Int))) 0) && (isI .i64 (cellAt (lget (ts.map Rw.row) (Int.toNat (r : Int))) 1) && (isI .i64 (cellAt (lget (ts.map Rw.row) (Int.toNat (r : Int))) 2) && isI .i64 (cellAt (lget (ts.map Rw.row) (Int.toNat (r : Int))) 3)))) = true
    rw [hrow]; rfl
   ·show ev 83 [.agg [.v (.int .u32 (avInt (cellAt (lget (ts.map Rw.row) (Int.toNat (r : Int))) 0))),.v (.int .i64 (avInt (cellAt (lget (ts.map Rw.row) (Int.toNat (r : Int))) 1))),.v (.int .i64 (avInt (cellAt (lget (ts.map Rw.row) (Int.toNat (r : Int))) 2))),.v (.int .i64 (avInt (cellAt (lget (ts.map Rw.row) (Int.toNat (r : Int))) 3)))],.v (.int .u32 y)] = _
    rw [hrow]
    exact s_find1 _ y
   ·show some [AV.v (.int .i64 (r : Int)),AV.v (.bool (cmp (ts.getD r rz).k y == 0))] = _
    have : (cmp (ts.getD r rz).k y == 0) = hasK ts y r := by
     unfold hasK
     rw [decide_eq_true hl,Bool.true_and,Bool.eq_iff_iff,beq_iff_eq,beq_iff_eq]
     exact cmp_eq
    rw [this]
  ·refine cF (ltI_f (by omega)) ?_
   show some [AV.v (.int .i64 (r : Int)),AV.v (.bool false)] = _
   rw [show hasK ts y r = false by unfold hasK; rw [decide_eq_false hl]; rfl]
 rw [ev65]
 exact bnd h82 (cT rfl (cT rfl rfl))
end Go.Proofs.Ytnhahcomgeeobaa
