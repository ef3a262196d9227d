/- FabricApart: the walk. -/
import Derived.Test.YtnjccbnlmdajkaaVrbW
import Derived.Test.YtnjccbnlmdajkaaPstW
set_option linter.all false
namespace Go.Proofs.Ytnjccbnlmdajkaa
open Go.RowKit Go.Shelf Go.Lib Go.Ev
attribute [local go_sem] Oper.semAt_some
structure ApQ (fb n : Nat) (no ob oo : Nat) (Q : Nat → World → Prop) (X : World → Prop) (W : World) : Prop where
 run : ∃ wt : Int,(Calls Try.prog 19 #[.pointer (some ⟨fb,0,none⟩),.int .i64 0] W fun e w' => e = .returned (.int .i64 wt)∧w' = W) ∧
  (0 < wt → Calls Try.prog 21 #[.pointer (some ⟨fb,0,none⟩)] W fun e w' => ∃ (b l c : Nat),e = .returned (.slice (some ⟨b,0,none⟩) l c)∧0 < l∧l ≤ 1000∧0 < n∧(∀ i,i < no → ∃ x : Int,w'.cell? ⟨ob,oo + i,none⟩ = some (.int .i64 x)) ∧
   ∀ k,k < l → ∃ x y z : Int,w'.cell? ⟨b,k * 3,none⟩ = some (.int .i64 x)∧w'.cell? ⟨b,k * 3 + 1,none⟩ = some (.int .i64 y)∧w'.cell? ⟨b,k * 3 + 2,none⟩ = some (.int .i64 z) ∧
    Calls Try.prog 20 #[.pointer (some ⟨fb,0,none⟩),.agg #[.int .i64 x,.int .i64 y,.int .i64 z]] w' fun e w2 => (∃ q,e = .returned (.bool q))∧∃ n',n' < n∧Q n' w2) ∧
  (¬ 0 < wt → X W)
def ApR (fb gb m : Nat) (W : World) (K : World → Prop) : Prop :=
 Calls Try.prog 24 #[.pointer (some ⟨fb,0,none⟩),.int .i64 0] W fun e w1 => ∃ A1 c1,e = .returned (.tuple #[.slice A1 m c1,.bool true])∧Calls Try.prog 24 #[.pointer (some ⟨gb,0,none⟩),.int .i64 0] w1 fun e w2 => ∃ A2 c2,e = .returned (.tuple #[.slice A2 m c2,.bool true]) ∧
  Calls Try.prog 28 #[.slice A1 m c1,.slice A2 m c2] w2 fun e w3 => e = .returned (.bool true)∧Calls Try.prog 30 #[.pointer (some ⟨fb,0,none⟩)] w3 fun e w4 => ∃ u1,e = .returned u1∧Calls Try.prog 30 #[.pointer (some ⟨gb,0,none⟩)] w4 fun e w5 => ∃ u2,e = .returned u2 ∧
   Calls Try.prog 29 #[u1,u2] w5 fun e w6 => e = .returned (.bool true)∧K w6
theorem az1 {i g : Nat} (h : i + g ≤ 960) : ¬ (1000 : Int) < (i : Int) := by omega
theorem az2 {n g : Nat} (h : n ≤ g) (hn : 0 < n) : ∃ k,g = k + 1 := ⟨g - 1,by omega⟩
theorem az3 {i g : Nat} (h : i + g ≤ 960) : wrap64 ((i : Int) + 1) = ((i + 1 : Nat) : Int) := by rw [w64,w_i64]; omega
theorem az4 {n g k : Nat} (h : n ≤ g + 1) (h2 : k < n) : k ≤ g := by omega
theorem az5 {k g : Nat} (h : k + (g + 1) ≤ 960) : k + 1 + g ≤ 960 := by omega
theorem az6 {l : Nat} (h : 0 < l) : ¬ (l : Int) = 0 := by omega
theorem az7 {l : Nat} (h : 0 < l) (h2 : l ≤ 1000) : wrap64 ((l : Int) - 1) = ((l - 1 : Nat) : Int) := by rw [w64,w_i64]; omega
theorem az8 {l : Nat} (h : 0 < l) : ((l - 1 : Nat) : Int) < (l : Int) := by omega
theorem az10 {l : Nat} (h : 0 < l) : ((l : Int) == 0) = false := beq_eq_false_iff_ne.2 (az6 h)
theorem az11 {k l : Nat} (h : k < l) : (k : Int) < (l : Int) := Int.ofNat_lt.2 h
theorem az9 {x : Int} {l : Nat} (h : 0 < l) : ∃ k : Nat,pick x l = (k : Int)∧k < l := by
 obtain ⟨h1,h2⟩ := pick_range (n := x) (m := (l : Int)) (by omega)
 exact ⟨(pick x l).toNat,by omega,by omega⟩
set_option maxHeartbeats 8000000 in
set_option maxRecDepth 1000000 in
theorem apart_walk (A0 OA : Option Addr) (ob oo m vc no oc : Nat) (w : World) (P0 : Nat → World → Prop) (P00 : Nat → Nat → World → Prop) (P1 : Nat → Nat → Option Addr → Nat → World → Prop) (Q1 Q2 : Nat → Nat → Nat → World → Prop) (R : Nat → Nat → World → Prop) (K : World → Prop) (hm : 1 ≤ m∧m ≤ 10) (hno : no ≤ 100) (hOA2 : 0 < no → OA = some ⟨ob,oo,none⟩)
  (h7 : Calls Try.prog 7 #[.int .i64 2,.int .i64 1,.int .i64 12] w fun e w' => ∃ fb : Nat,e = .returned (.tuple #[.pointer (some ⟨fb,0,none⟩),.int .i64 0])∧P0 fb w')
  (h72 : ∀ fb W,P0 fb W → Calls Try.prog 7 #[.int .i64 2,.int .i64 1,.int .i64 12] W fun e w' => ∃ gb : Nat,e = .returned (.tuple #[.pointer (some ⟨gb,0,none⟩),.int .i64 0])∧P00 fb gb w')
  (h8 : ∀ fb gb W,P00 fb gb W → Calls Try.prog 8 #[] W fun e w' => e = .returned (.bool true)∧P00 fb gb w')
  (h17 : ∀ fb gb W,P00 fb gb W → Calls Try.prog 17 #[.slice A0 m vc] W fun e w' => ∃ VA VC,e = .returned (.slice VA m VC)∧P1 fb gb VA VC w')
  (h18 : ∀ fb gb VA VC W,P1 fb gb VA VC W → Calls Try.prog 18 #[.pointer (some ⟨fb,0,none⟩),.int .i64 0,.slice VA m VC] W fun e w' => ∃ z : Int,e = .returned (.int .i64 z)∧Calls Try.prog 18 #[.pointer (some ⟨gb,0,none⟩),.int .i64 0,.slice VA m VC] w' fun e w2 => e = .returned (.int .i64 z)∧(z ≠ 0 → K w2)∧(z = 0 → ∃ n,n ≤ 960∧Q1 fb gb n w2))
  (hQ1 : ∀ fb gb n W,Q1 fb gb n W → ApQ fb n no ob oo (Q1 fb gb) (fun W => ∃ n,n ≤ 960∧Q2 fb gb n W) W)
  (hQ2 : ∀ fb gb n W,Q2 fb gb n W → ApQ gb n no ob oo (Q2 fb gb) (R fb gb) W)
  (hR : ∀ fb gb W,R fb gb W → ApR fb gb m W K) :
  Calls Try.prog 5 #[.slice A0 m vc,.slice OA no oc] w fun e w' => e = .returned (.bool true)∧K w' := by
 have mixed : Try.prog.follows .mixedOrders = true := by kernel_rfl
 have hm1 : ¬ (10 : Int) < (m : Int) := by omega
 have hm2 : ¬ (m : Int) < 1 := by omega
 have hm3 : ¬ (100 : Int) < (no : Int) := by omega
 have HQ1 : Hid (∀ fb gb n W,Q1 fb gb n W → ApQ fb n no ob oo (Q1 fb gb) (fun W => ∃ n,n ≤ 960∧Q2 fb gb n W) W) := hQ1
 have HQ2 : Hid (∀ fb gb n W,Q2 fb gb n W → ApQ gb n no ob oo (Q2 fb gb) (R fb gb) W) := hQ2
 have HR : Hid (∀ fb gb W,R fb gb W → ApR fb gb m W K) := hR
 have HO : Hid (0 < no → OA = some ⟨ob,oo,none⟩) := hOA2
 clear hQ1 hQ2 hR hOA2
 go_enter Try.func5,Try.ntmps5
 go_wp2_with (first | (go_at_call 7; refine Calls.mono h7 ?_; clear h7; rintro e w1 ⟨fb,rfl,hP0⟩; have hP0' := h72 fb w1 hP0; clear h72 hP0) | (go_at_call 7; refine Calls.mono hP0' ?_; clear hP0'; rintro e w2 ⟨gb,rfl,hP00⟩; have hP8 := h8 fb gb w2 hP00; clear h8 hP00) | (go_at_call 8; refine Calls.mono hP8 ?_; clear hP8; rintro e w3 ⟨rfl,hP00⟩; have hP17 := h17 fb gb w3 hP00; clear h17 hP00) |
  (go_at_call 17; refine Calls.mono hP17 ?_; clear hP17; rintro e w4 ⟨VA,VC,rfl,hP1⟩; have hP18 := h18 fb gb VA VC w4 hP1; clear h18 hP1) | (go_at_call 18; refine Calls.mono hP18 ?_; clear hP18; rintro e w5 ⟨z,rfl,hP19⟩) | (go_at_call 18; refine Calls.mono hP19 ?_; clear hP19; rintro e w6 ⟨rfl,hz1,hz0⟩))
 rotate_left
 ·have hz := ‹¬z = 0›
  go_ret
  exact ⟨rfl,hz1 hz⟩
 have hz := ‹z = 0›
 obtain ⟨n0,hn0,hQ0⟩ := hz0 hz
 clear hz0 hz1
 go_loopg [12] 960 (fun g s W => ∃ i n : Nat,s = .int .i64 i∧n ≤ g∧i + g ≤ 960∧Q1 fb gb n W)
 case atStart => exact ⟨0,n0,rfl,hn0,by omega,hQ0⟩
 case round =>
  clear hQ0
  obtain ⟨i,n,rfl,hng,hkg,hI⟩ := hrel
  obtain ⟨wt,h19,h21,hx⟩ := (HQ1.out _ _ _ _ hI).run
  clear hI
  have hi1 := az1 hkg
  by_cases hwt : 0 < wt
  ·have h21 := h21 hwt
   have hw := az3 hkg
   have HA : Hid (n ≤ gk∧i + gk ≤ 960) := ⟨hng,hkg⟩
   clear hng hkg HQ1 HQ2 HR hx
   by_cases hio : i < no
   ·have hioI : (i : Int) < (no : Int) := by omega
    have hOA := HO.out (by omega)
    subst hOA
    go_wp2_with (first | (go_at_call 19; refine Calls.mono h19 ?_; clear h19; rintro e w' ⟨rfl,hw⟩; rw [hw]; clear hw) | (go_at_call 21; refine Calls.mono h21 ?_; clear h21; rintro e w7 ⟨b,l,c,rfl,hl0,hl1,hn1,hcell,hst⟩; obtain ⟨x,hx0⟩ := hcell i hio; clear hcell; have hl2 := az10 hl0; obtain ⟨k,hk,hkl⟩ := az9 (x := x) hl0; have hkI := az11 hkl; obtain ⟨y0,y1,y2,c0,c1,c2,h20⟩ := hst k hkl; clear hst) |
     (go_at_call 6; refine Calls.mono (pick_any _ _ _ (Int.ofNat_lt.2 hl0) (by omega)) ?_; rintro e w' ⟨rfl,hw⟩; rw [hw,hk]; clear hw) | (go_at_call 20; refine Calls.mono h20 ?_; clear h20; rintro e w8 ⟨⟨q,rfl⟩,n2,hn2,hQ3⟩; have H2 : Hid (0 < n∧n2 < n) := ⟨hn1,hn2⟩; clear hn2 hn1 hl1))
    obtain ⟨g,rfl⟩ := az2 HA.out.1 H2.out.1
    go_roundg g
    case measure => exact Nat.lt_succ_self g
    case rel => exact ⟨i + 1,n2,rfl,az4 HA.out.1 H2.out.2,az5 HA.out.2,hQ3⟩
   ·have hioI : ¬ (i : Int) < (no : Int) := by omega
    clear HO
    go_wp2_with (first | (go_at_call 19; refine Calls.mono h19 ?_; clear h19; rintro e w' ⟨rfl,hw⟩; rw [hw]; clear hw) | (go_at_call 21; refine Calls.mono h21 ?_; clear h21; rintro e w7 ⟨b,l,c,rfl,hl0,hl1,hn1,_,hst⟩; have hl2 := az10 hl0; have hkI := az11 hl0; obtain ⟨y0,y1,y2,c0,c1,c2,h20⟩ := hst 0 hl0; clear hst) |
     (go_at_call 20; refine Calls.mono h20 ?_; clear h20; rintro e w8 ⟨⟨q,rfl⟩,n2,hn2,hQ3⟩; have H2 : Hid (0 < n∧n2 < n) := ⟨hn1,hn2⟩; clear hn2 hn1 hl1))
    obtain ⟨g,rfl⟩ := az2 HA.out.1 H2.out.1
    go_roundg g
    case measure => exact Nat.lt_succ_self g
    case rel => exact ⟨i + 1,n2,rfl,az4 HA.out.1 H2.out.2,az5 HA.out.2,hQ3⟩
  ·obtain ⟨n1,hn1,hQ2⟩ := hx hwt
   clear hng hkg hx h21 HO HQ1 hi1
   go_wp2_with (first | (go_at_call 19; refine Calls.mono h19 ?_; clear h19; rintro e w' ⟨rfl,hw⟩; rw [hw]; clear hw))
   go_loopg [15] 960 (fun g s W => ∃ i n : Nat,s = .int .i64 i∧n ≤ g∧i + g ≤ 960∧Q2 fb gb n W)
   case atStart => exact ⟨0,n1,rfl,hn1,by omega,hQ2⟩
   case round =>
    clear hQ2
    rename_i gk2 _ _
    obtain ⟨i,n,rfl,hng,hkg,hI⟩ := hrel
    obtain ⟨wt,h19,h21,hx⟩ := (HQ2.out _ _ _ _ hI).run
    clear hI
    have hi1 := az1 hkg
    by_cases hwt : 0 < wt
    ·have h21 := h21 hwt
     have hw := az3 hkg
     have HA := And.intro hng hkg
     have HA : Hid _ := HA
     clear hng hkg HQ2 HR hx
     go_wp2_with (first | (go_at_call 19; refine Calls.mono h19 ?_; clear h19; rintro e w' ⟨rfl,hw⟩; rw [hw]; clear hw) | (go_at_call 21; refine Calls.mono h21 ?_; clear h21; rintro e w7 ⟨b,l,c,rfl,hl0,hl1,hn1,_,hst⟩; have hl2 := az10 hl0; have hl3 := az7 hl0 hl1; have hkI := az8 hl0; obtain ⟨y0,y1,y2,c0,c1,c2,h20⟩ := hst (l - 1) (Nat.sub_lt hl0 Nat.one_pos); clear hst) |
      (go_at_call 20; refine Calls.mono h20 ?_; clear h20; rintro e w8 ⟨⟨q,rfl⟩,n2,hn2,hQ3⟩; have H2 : Hid (0 < n∧n2 < n) := ⟨hn1,hn2⟩; clear hn2 hn1 hl1))
     obtain ⟨g,rfl⟩ := az2 HA.out.1 H2.out.1
     go_roundg g
     case measure => exact Nat.lt_succ_self g
     case rel => exact ⟨i + 1,n2,rfl,az4 HA.out.1 H2.out.2,az5 HA.out.2,hQ3⟩
    ·have hR := HR.out _ _ _ (hx hwt)
     clear hng hkg hx h21 HQ2 HR hi1
     unfold ApR at hR
     go_wp2_with (first | (go_at_call 19; refine Calls.mono h19 ?_; clear h19; rintro e w' ⟨rfl,hw⟩; rw [hw]; clear hw) | (go_at_call 24; refine Calls.mono hR ?_; clear hR; rintro e u1 ⟨A1,c1,rfl,hR2⟩) | (go_at_call 24; refine Calls.mono hR2 ?_; clear hR2; rintro e u2 ⟨A2,c2,rfl,hR3⟩) | (go_at_call 28; refine Calls.mono hR3 ?_; clear hR3; rintro e u3 ⟨rfl,hR4⟩) |
      (go_at_call 30; refine Calls.mono hR4 ?_; clear hR4; rintro e u4 ⟨x1,rfl,hR5⟩) | (go_at_call 30; refine Calls.mono hR5 ?_; clear hR5; rintro e u5 ⟨x2,rfl,hR6⟩) | (go_at_call 29; refine Calls.mono hR6 ?_; clear hR6; rintro e u6 ⟨rfl,hK⟩))
     go_ret
     exact ⟨rfl,hK⟩
end Go.Proofs.Ytnjccbnlmdajkaa
