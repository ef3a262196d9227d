/- QueuepairCopies: the walk. -/
import Derived.Test.YtkefjdmoikegbaaRg11
set_option linter.all false
namespace Go.Proofs.Ytkefjdmoikegbaa
open Go.RowKit Go.Shelf Go.Lib Go.Ev
attribute [local go_sem] Oper.semAt_some
set_option maxRecDepth 100000
def P4 (W : World) (b p n q r : Nat) : Prop := W.cell? ⟨b,0,none⟩ = some (.pointer (some ⟨p,0,none⟩))∧W.cell? ⟨b,1,none⟩ = some (.pointer (some ⟨n,0,none⟩))∧W.cell? ⟨b,2,none⟩ = some (.pointer (some ⟨q,0,none⟩))∧W.cell? ⟨b,3,none⟩ = some (.pointer (some ⟨r,0,none⟩))
def OprAt (W : World) (b o : Nat) (x : Opr) : Prop :=
 W.cell? ⟨b,o,none⟩ = some (.int .i64 x.k)∧W.cell? ⟨b,o + 1,none⟩ = some (.int .i64 x.r1)∧W.cell? ⟨b,o + 2,none⟩ = some (.int .i64 x.r2)∧W.cell? ⟨b,o + 3,none⟩ = some (.int .i64 x.r3)∧W.cell? ⟨b,o + 4,none⟩ = some (.int .i64 x.r4) ∧
 W.cell? ⟨b,o + 5,none⟩ = some (.int .i64 x.r5)∧W.cell? ⟨b,o + 6,none⟩ = some (.int .u64 x.r6)∧W.cell? ⟨b,o + 7,none⟩ = some (.int .u64 x.r7)∧W.cell? ⟨b,o + 8,none⟩ = some (.int .i64 x.a)∧W.cell? ⟨b,o + 9,none⟩ = some (.int .u64 x.w)
def LpRnd (b7 p n q r : Nat) (A : Option Addr) (i : Nat) (W : World) (J : World → Prop) : Prop :=
 ∃ (ab ao : Nat) (x : Opr),A = some ⟨ab,ao,none⟩∧P4 W b7 p n q r∧OprAt W ab (ao + i * 10) x∧Calls Try.prog 23 #[.agg (ptr4 p n q r),.agg x.vals.toArray] W.drew fun e w' => e = .returned (.bool true)∧J w'
def S12 (b7 t pb y z : Nat) (W : World) : Prop := W.cell? ⟨t,0,none⟩ = some (.pointer (some ⟨y,0,none⟩))∧W.cell? ⟨t,1,none⟩ = some (.pointer (some ⟨z,0,none⟩))∧W.cell? ⟨b7,0,none⟩ = some (.pointer (some ⟨pb,0,none⟩))
def Pk12 (b7 t pb y z : Nat) (W : World) (K : World → Prop) : Prop :=
 S12 b7 t pb y z W.drew∧Calls Try.prog 29 #[.pointer (some ⟨pb,0,none⟩)] W.drew fun e w1 => ∃ (A : Option Addr) (l c : Nat),e = .returned (.slice A l c)∧S12 b7 t pb y z w1∧Calls Try.prog 29 #[.pointer (some ⟨y,0,none⟩)] w1 fun e w2 => ∃ (B : Option Addr) (m d : Nat),e = .returned (.slice B m d)∧S12 b7 t pb y z w2 ∧
  Calls Try.prog 28 #[.slice A l c,.slice B m d] w2 fun e w3 => e = .returned (.bool true)∧S12 b7 t pb y z w3∧K w3
def S14 (b7 t qb u : Nat) (k0 k1 k2 : Int) (A : Option Addr) (l c : Nat) (W : World) : Prop := W.cell? ⟨t,2,none⟩ = some (.pointer (some ⟨u,0,none⟩))∧W.cell? ⟨b7,2,none⟩ = some (.pointer (some ⟨qb,0,none⟩)) ∧
 W.cell? ⟨qb,0,none⟩ = some (.int .i64 k0)∧W.cell? ⟨qb,1,none⟩ = some (.int .i64 k1)∧W.cell? ⟨qb,2,none⟩ = some (.int .i64 k2)∧W.cell? ⟨qb,3,none⟩ = some (.slice A l c)
def Pk14 (b7 t qb u : Nat) (W : World) (K : World → Prop) : Prop :=
 ∃ (k0 k1 k2 : Int) (A : Option Addr) (l c : Nat) (w1 w2 w3 w4 : World),S14 b7 t qb u k0 k1 k2 A l c W.drew∧W.drew.frozen? ⟨u,0,none⟩ = false∧(∃ y,W.drew.cell? ⟨u,0,none⟩ = some y)∧W.drew.setCell ⟨u,0,none⟩ (.int .i64 k0) = w1 ∧
  w1.frozen? ⟨u,1,none⟩ = false∧(∃ y,w1.cell? ⟨u,1,none⟩ = some y)∧w1.setCell ⟨u,1,none⟩ (.int .i64 k1) = w2∧w2.frozen? ⟨u,2,none⟩ = false∧(∃ y,w2.cell? ⟨u,2,none⟩ = some y)∧w2.setCell ⟨u,2,none⟩ (.int .i64 k2) = w3 ∧
  w3.frozen? ⟨u,3,none⟩ = false∧(∃ y,w3.cell? ⟨u,3,none⟩ = some y)∧w3.setCell ⟨u,3,none⟩ (.slice A l c) = w4∧S14 b7 t qb u k0 k1 k2 A l c w4∧K w4
def S15 (b7 t rb v : Nat) (A : Option Addr) (l c : Nat) (up : Bool) (W : World) : Prop := W.cell? ⟨t,3,none⟩ = some (.pointer (some ⟨v,0,none⟩))∧W.cell? ⟨b7,3,none⟩ = some (.pointer (some ⟨rb,0,none⟩))∧W.cell? ⟨rb,0,none⟩ = some (.slice A l c)∧W.cell? ⟨rb,1,none⟩ = some (.bool up)
def Pk15 (b7 t rb v : Nat) (W : World) (K : World → Prop) : Prop :=
 ∃ (A : Option Addr) (l c : Nat) (up : Bool) (VA : Option Addr) (vl vc : Nat) (W2 w3 w4 : World),S15 b7 t rb v A l c up W.drew∧Hid (∀ ty,(Builtin.append_ #[33,33] ty #[.slice none 0 0,.slice A l c]).run Try.prog W.drew = .ok (.slice VA vl vc) W2)∧S15 b7 t rb v A l c up W2 ∧
  W2.frozen? ⟨v,0,none⟩ = false∧(∃ y,W2.cell? ⟨v,0,none⟩ = some y)∧W2.setCell ⟨v,0,none⟩ (.slice VA vl vc) = w3∧w3.frozen? ⟨v,1,none⟩ = false∧(∃ y,w3.cell? ⟨v,1,none⟩ = some y)∧w3.setCell ⟨v,1,none⟩ (.bool up) = w4∧S15 b7 t rb v A l c up w4∧K w4
def S26 (b7 t pb y qb u : Nat) (W : World) : Prop := W.cell? ⟨b7,0,none⟩ = some (.pointer (some ⟨pb,0,none⟩))∧W.cell? ⟨t,0,none⟩ = some (.pointer (some ⟨y,0,none⟩))∧W.cell? ⟨b7,2,none⟩ = some (.pointer (some ⟨qb,0,none⟩))∧W.cell? ⟨t,2,none⟩ = some (.pointer (some ⟨u,0,none⟩))
def Pk26 (b7 t pb y qb u : Nat) (W : World) (R : World → Prop) : Prop :=
 S26 b7 t pb y qb u W.drew∧Calls Try.prog 29 #[.pointer (some ⟨pb,0,none⟩)] W.drew fun e w1 => ∃ (A : Option Addr) (l c : Nat),e = .returned (.slice A l c)∧S26 b7 t pb y qb u w1∧Calls Try.prog 29 #[.pointer (some ⟨y,0,none⟩)] w1 fun e w2 => ∃ (B : Option Addr) (m d : Nat),e = .returned (.slice B m d)∧S26 b7 t pb y qb u w2 ∧
  Calls Try.prog 28 #[.slice A l c,.slice B m d] w2 fun e w3 => ∃ r : Bool,e = .returned (.bool r)∧S26 b7 t pb y qb u w3∧Calls Try.prog 30 #[.pointer (some ⟨qb,0,none⟩)] w3 fun e w4 => ∃ s : ByteArray,e = .returned (.string s)∧S26 b7 t pb y qb u w4 ∧
   Calls Try.prog 30 #[.pointer (some ⟨u,0,none⟩)] w4 fun e w5 => ∃ s' : ByteArray,e = .returned (.string s')∧S26 b7 t pb y qb u w5∧r = (s.toList == s'.toList)∧R w5
set_option maxHeartbeats 8000000 in
set_option maxRecDepth 1000000 in
theorem copies_walk (A1 A2 A3 : Option Addr) (n1 n2 n3 c1 c2 c3 : Nat) (W : World) (R : World → Prop) (hn : n1 ≤ 20∧n2 ≤ 10∧n3 ≤ 10)
  (Main : Nat → Nat → Nat → Nat → Nat → World → Prop)
  (h : Calls Try.prog 8 #[.int .i64 1,.int .i64 1] W fun e w1 => ∃ pb nb qb rb : Nat,e = .returned (.tuple #[.agg (ptr4 pb nb qb rb),.bool true])∧Calls Try.prog 9 #[] (w1.alloc (.cells (ptr4 pb nb qb rb) 29)) fun e w2 => e = .returned (.bool true)∧Main pb nb qb rb w1.heap.size w2)
  (hM : ∀ pb nb qb rb b7 w,Main pb nb qb rb b7 w → ∃ J1 : Nat → World → Prop,J1 0 w∧(∀ i W,i < n1 → J1 i W → LpRnd b7 pb nb qb rb A1 i W (J1 (i + 1)))∧∃ Rr,MkY b7 pb nb Rr∧(∀ W,J1 n1 W → Rr none none none none none W.drew) ∧
   ∀ y z u v t w4,Rr (some y) (some z) (some u) (some v) (some t) w4 → ∃ (K12 K14 : World → Prop) (J2 J3 : Nat → World → Prop),Pk12 b7 t pb y z (st4W w4 t (.pointer (some ⟨y,0,none⟩)) (.pointer (some ⟨z,0,none⟩)) (.pointer (some ⟨u,0,none⟩)) (.pointer (some ⟨v,0,none⟩))) K12∧(∀ W,K12 W → Pk14 b7 t qb u W K14) ∧
    (∀ W,K14 W → Pk15 b7 t rb v W (J2 0))∧(∀ i W,i < n2 → J2 i W → LpRnd b7 pb nb qb rb A2 i W (J2 (i + 1)))∧(∀ W,J2 n2 W → J3 0 W)∧(∀ i W,i < n3 → J3 i W → LpRnd t y z u v A3 i W (J3 (i + 1)))∧∀ W,J3 n3 W → Pk26 b7 t pb y qb u W R) :
  Calls Try.prog 7 #[.slice A1 n1 c1,.slice A2 n2 c2,.slice A3 n3 c3] W fun e w' => e = .returned (.bool true)∧R w' := by
 have mixed : Try.prog.follows .mixedOrders = true := mix
 obtain ⟨hn1,hn2,hn3⟩ := hn
 have g1 : ¬ (20 : Int) < (n1 : Int) := by omega
 have g2 : ¬ (10 : Int) < (n2 : Int) := by omega
 have g3 : ¬ (10 : Int) < (n3 : Int) := by omega
 have HM : Hid (∀ pb nb qb rb b7 w,Main pb nb qb rb b7 w → ∃ J1 : Nat → World → Prop,J1 0 w∧(∀ i W,i < n1 → J1 i W → LpRnd b7 pb nb qb rb A1 i W (J1 (i + 1)))∧∃ Rr,MkY b7 pb nb Rr∧(∀ W,J1 n1 W → Rr none none none none none W.drew) ∧
   ∀ y z u v t w4,Rr (some y) (some z) (some u) (some v) (some t) w4 → ∃ (K12 K14 : World → Prop) (J2 J3 : Nat → World → Prop),Pk12 b7 t pb y z (st4W w4 t (.pointer (some ⟨y,0,none⟩)) (.pointer (some ⟨z,0,none⟩)) (.pointer (some ⟨u,0,none⟩)) (.pointer (some ⟨v,0,none⟩))) K12∧(∀ W,K12 W → Pk14 b7 t qb u W K14) ∧
    (∀ W,K14 W → Pk15 b7 t rb v W (J2 0))∧(∀ i W,i < n2 → J2 i W → LpRnd b7 pb nb qb rb A2 i W (J2 (i + 1)))∧(∀ W,J2 n2 W → J3 0 W)∧(∀ i W,i < n3 → J3 i W → LpRnd t y z u v A3 i W (J3 (i + 1)))∧∀ W,J3 n3 W → Pk26 b7 t pb y qb u W R) := hM
 clear hM
 go_enter Try.func7,Try.ntmps7
 go_wp2_with (first | (go_at_call 8; refine Calls.mono h ?_; clear h; rintro e w1 ⟨pb,nb,qb,rb,rfl,h9⟩) | (go_at_call 9; refine Calls.mono h9 ?_; clear h9; rintro e w2 ⟨rfl,hm⟩))
 obtain ⟨J1,hJ0,hJ1,hX⟩ := HM.out _ _ _ _ _ _ hm
 have HJ1 : Hid (∀ i W,i < n1 → J1 i W → LpRnd w1.heap.size pb nb qb rb A1 i W (J1 (i + 1))) := hJ1
 clear hJ1 HM hm
 go_loopg [9] n1 (fun g s W => ∃ i : Nat,i + g = n1∧s = .int .i64 i∧J1 i W)
 case atStart => exact ⟨0,by omega,rfl,hJ0⟩
 case round =>
  obtain ⟨i,hig,rfl,hI⟩ := hrel
  cases gk with
  | succ g =>
   have hi : i < n1 := by omega
   have hiI : (i : Int) < (n1 : Int) := by omega
   obtain ⟨ab,ao,x,rfl,⟨p0,p1,p2,p3⟩,⟨v0,v1,v2,v3,v4,v5,v6,v7,v8,v9⟩,hcall⟩ := HJ1.out i wr hi hI
   have hw : wrap64 ((i : Int) + 1) = ((i + 1 : Nat) : Int) := by rw [w64,w_i64]; omega
   clear HJ1 hI hJ0 hX
   go_wp2
   go_region_with_o (go_at_call 23; refine Calls.mono hcall ?_; clear hcall; rintro e w' ⟨rfl,hJ⟩)
   all_goals
    go_wp2
    go_roundg g
    case measure => omega
    case rel => exact ⟨i + 1,by omega,rfl,hJ⟩
  | zero =>
   obtain rfl : i = n1 := by omega
   clear HJ1 hJ0
   go_wp2
   obtain ⟨Rr,hmk,hR0,hY⟩ := hX
   have hR0 := hR0 wr hI
   have HMK : Hid (MkY w1.heap.size pb nb Rr) := hmk
   clear hmk hI
   refine region11 mixed rfl rfl HMK.out hR0 fun y z u v t w4 hR => ?_
   obtain ⟨K12,K14,J2,J3,⟨s0,hc⟩,h14,h15,h2,h23,h3,h26⟩ := hY y z u v t w4 hR
   have H14 : Hid _ := h14
   have H15 : Hid _ := h15
   have H2 : Hid _ := h2
   have H23 : Hid _ := h23
   have H3 : Hid _ := h3
   have H26 : Hid _ := h26
   clear hR0 hY hR h14 h15 h2 h23 h3 h26 HMK
   obtain ⟨w5,hw5⟩ : ∃ w5,st4W w4 t (.pointer (some ⟨y,0,none⟩)) (.pointer (some ⟨z,0,none⟩)) (.pointer (some ⟨u,0,none⟩)) (.pointer (some ⟨v,0,none⟩)) = w5 := ⟨_,rfl⟩
   rw [hw5] at s0 hc ⊢
   clear hw5
   simp only [putsA,Act.put]
   go_wp2
   go_region_held3 (fun w' => w'.cell? ⟨t,0,none⟩ = some (.pointer (some ⟨y,0,none⟩))∧w'.cell? ⟨t,1,none⟩ = some (.pointer (some ⟨z,0,none⟩))∧w'.cell? ⟨w1.heap.size,0,none⟩ = some (.pointer (some ⟨pb,0,none⟩)))
    (first | exact s0 | exact s1 | exact s2 | exact s3)
    (first
     | (go_at_call_of 29 (Value.pointer (some ⟨pb,0,none⟩)); refine Calls.mono hc ?_; clear hc; rintro e wa ⟨A,l,c,rfl,s1,hc⟩)
     | (go_at_call_of 29 (Value.pointer (some ⟨y,0,none⟩)); refine Calls.mono hc ?_; clear hc; rintro e wb ⟨B,m,d,rfl,s2,hc⟩)
     | (go_at_call 28; refine Calls.mono hc ?_; clear hc; rintro e wc ⟨rfl,s3,hK⟩))
   clear s0 s1 s2 s3
   obtain ⟨k0,k1,k2,A,l,c,x1,x2,x3,x4,s0,f0,⟨y0,q0⟩,hx1,f1,⟨y1,q1⟩,hx2,f2,⟨y2,q2⟩,hx3,f3,⟨y3,q3⟩,hx4,s1,hK14⟩ := H14.out _ hK
   clear H14 hK
   go_wp2
   go_region_held3 (fun w' => w'.cell? ⟨t,2,none⟩ = some (.pointer (some ⟨u,0,none⟩))∧w'.cell? ⟨w1.heap.size,2,none⟩ = some (.pointer (some ⟨qb,0,none⟩)) ∧
     w'.cell? ⟨qb,0,none⟩ = some (.int .i64 k0)∧w'.cell? ⟨qb,1,none⟩ = some (.int .i64 k1)∧w'.cell? ⟨qb,2,none⟩ = some (.int .i64 k2)∧w'.cell? ⟨qb,3,none⟩ = some (.slice A l c))
    (first | exact s0 | exact s1)
    (fail)
   clear s0 s1 f0 q0 hx1 f1 q1 hx2 f2 q2 hx3 f3 q3 hx4
   obtain ⟨A,l,c,up,VA,vl,vc,W2,x3,x4,s0,hap,s1,f0,⟨y0,q0⟩,hx3,f1,⟨y1,q1⟩,hx4,s2,hJ2⟩ := H15.out _ hK14
   clear H15 hK14
   go_wp2
   go_region_held3 (fun w' => w'.cell? ⟨t,3,none⟩ = some (.pointer (some ⟨v,0,none⟩))∧w'.cell? ⟨w1.heap.size,3,none⟩ = some (.pointer (some ⟨rb,0,none⟩))∧w'.cell? ⟨rb,0,none⟩ = some (.slice A l c)∧w'.cell? ⟨rb,1,none⟩ = some (.bool up))
    (first | exact s0 | exact s1 | exact s2)
    (first
     | (refine step_append_runE rfl (.const (.slice none 0 0)) (.tmp 91) 33 33 rfl (.slice none 0 0) (.slice A l c) (by simp [Act.eval,Act.put]) (by simp [Act.eval,Act.put]) (hap.out _) ?_))
   clear s0 s1 s2 f0 q0 hx3 f1 q1 hx4
   go_wp2
   go_loopg [11] n2 (fun g s W => ∃ i : Nat,i + g = n2∧s = .int .i64 i∧J2 i W)
   case atStart => exact ⟨0,by omega,rfl,hJ2⟩
   case round =>
    obtain ⟨j,hjg,rfl,hI⟩ := hrel
    cases gk with
    | succ g =>
     have hj : j < n2 := by omega
     have hjI : (j : Int) < (n2 : Int) := by omega
     obtain ⟨ab,ao,x,rfl,⟨p0,p1,p2,p3⟩,⟨v0,v1,v2,v3,v4,v5,v6,v7,v8,v9⟩,hcall⟩ := H2.out j wr hj hI
     have hw : wrap64 ((j : Int) + 1) = ((j + 1 : Nat) : Int) := by rw [w64,w_i64]; omega
     clear H2 hI hJ2 H23 H3 H26
     go_wp2
     go_region_with_o (go_at_call 23; refine Calls.mono hcall ?_; clear hcall; rintro e w' ⟨rfl,hJ⟩)
     all_goals
      go_wp2
      go_roundg g
      case measure => omega
      case rel => exact ⟨j + 1,by omega,rfl,hJ⟩
    | zero =>
     obtain rfl : j = n2 := by omega
     have hJ3 := H23.out _ hI
     clear H2 hJ2 H23 hI
     go_wp2
     go_loopg [12] n3 (fun g s W => ∃ i : Nat,i + g = n3∧s = .int .i64 i∧J3 i W)
     case atStart => exact ⟨0,by omega,rfl,hJ3⟩
     case round =>
      obtain ⟨k,hkg,rfl,hI⟩ := hrel
      cases gk with
      | succ g =>
       have hk : k < n3 := by omega
       have hkI : (k : Int) < (n3 : Int) := by omega
       obtain ⟨ab,ao,x,rfl,⟨p0,p1,p2,p3⟩,⟨v0,v1,v2,v3,v4,v5,v6,v7,v8,v9⟩,hcall⟩ := H3.out k wr hk hI
       have hw : wrap64 ((k : Int) + 1) = ((k + 1 : Nat) : Int) := by rw [w64,w_i64]; omega
       clear H3 hI hJ3 H26
       go_wp2
       go_region_with_o (go_at_call 23; refine Calls.mono hcall ?_; clear hcall; rintro e w' ⟨rfl,hJ⟩)
       all_goals
        go_wp2
        go_roundg g
        case measure => omega
        case rel => exact ⟨k + 1,by omega,rfl,hJ⟩
      | zero =>
       obtain rfl : k = n3 := by omega
       obtain ⟨s0,hc⟩ := H26.out _ hI
       clear H3 hJ3 H26 hI
       go_wp2
       go_region_held3 (fun w' => w'.cell? ⟨w1.heap.size,0,none⟩ = some (.pointer (some ⟨pb,0,none⟩))∧w'.cell? ⟨t,0,none⟩ = some (.pointer (some ⟨y,0,none⟩))∧w'.cell? ⟨w1.heap.size,2,none⟩ = some (.pointer (some ⟨qb,0,none⟩))∧w'.cell? ⟨t,2,none⟩ = some (.pointer (some ⟨u,0,none⟩)))
        (first | exact s0 | exact s1 | exact s2 | exact s3 | exact s4 | exact s5)
        (first
         | (go_at_call_of 29 (Value.pointer (some ⟨pb,0,none⟩)); refine Calls.mono hc ?_; clear hc; rintro e wa ⟨A,l,c,rfl,s1,hc⟩)
         | (go_at_call_of 29 (Value.pointer (some ⟨y,0,none⟩)); refine Calls.mono hc ?_; clear hc; rintro e wb ⟨B,m,d,rfl,s2,hc⟩)
         | (go_at_call 28; refine Calls.mono hc ?_; clear hc; rintro e wc ⟨r,rfl,s3,hc⟩)
         | (go_at_call_of 30 (Value.pointer (some ⟨qb,0,none⟩)); refine Calls.mono hc ?_; clear hc; rintro e wd ⟨sa,rfl,s4,hc⟩)
         | (go_at_call_of 30 (Value.pointer (some ⟨u,0,none⟩)); refine Calls.mono hc ?_; clear hc; rintro e we ⟨sb,rfl,s5,hr,hK⟩))
       subst hr
       go_wp2
       go_ret
       exact ⟨by simp,hK⟩
end Go.Proofs.Ytkefjdmoikegbaa
