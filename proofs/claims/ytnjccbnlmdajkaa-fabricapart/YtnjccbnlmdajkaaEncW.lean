/- Encode of a compute node that has no batch and no pending verb,and of a fabric: the walks. -/
import Derived.Test.YtnjccbnlmdajkaaPstW
set_option linter.all false
namespace Go.Proofs.Ytnjccbnlmdajkaa
open Go.RowKit Go.Shelf Go.Lib Go.Ev
attribute [local go_sem] Oper.semAt_some
attribute [local go_sem] neq_nil neq_some eql_some eql_nil
def SBx (n0 : Nat) (al : Bool) (inc : Int) (lv : Value) (w : World) : Prop := w.cell? ⟨n0,0,none⟩ = some (.bool al)∧w.cell? ⟨n0,1,none⟩ = some (.int .i64 inc)∧w.cell? ⟨n0,2,none⟩ = some lv∧w.cell? ⟨n0,3,none⟩ = some (.slice none 0 0)
abbrev b74 (al : Bool) (inc : Int) (lv : Value) (wt tr po : Int) : Array Value := #[.bool al,.int .i64 inc,lv,.slice none 0 0,.int .i64 wt,.int .i64 tr,.int .i64 po]
def EcHead (n0 : Nat) (al : Bool) (inc : Int) (lv v : Value) (w : World) (J : Value → World → Prop) : Prop :=
 SBx n0 al inc lv w∧Calls Try.prog 65 #[v,.bool al] w fun e w1 => ∃ v1,e = .returned v1∧SBx n0 al inc lv w1∧Calls Try.prog 46 #[v1,.int .i64 inc] w1 fun e w2 => ∃ v2,e = .returned v2∧SBx n0 al inc lv w2∧SBx n0 al inc lv w2.drew ∧
  Calls Try.prog 65 #[v2,.bool false] w2.drew fun e w3 => ∃ v3,e = .returned v3∧SBx n0 al inc lv w3∧Calls Try.prog 46 #[v3,.int .i64 0] w3 fun e w4 => ∃ v4,e = .returned v4∧SBx n0 al inc lv w4∧J v4 w4
def EcRnd (bl i : Nat) (v : Value) (W : World) (J : Value → World → Prop) : Prop :=
 ∃ (pb pc : Nat) (PA : Option Addr),W.cell? ⟨bl,i * 2,none⟩ = some (.pointer (some ⟨pb,0,none⟩))∧W.cell? ⟨bl,i * 2 + 1,none⟩ = some (.slice PA 0 pc)∧(W.alloc (.cells #[.pointer (some ⟨pb,0,none⟩),.slice PA 0 pc] 82)).cell? ⟨W.heap.size,0,none⟩ = some (.pointer (some ⟨pb,0,none⟩)) ∧
  Calls Try.prog 50 #[.pointer (some ⟨pb,0,none⟩)] (W.alloc (.cells #[.pointer (some ⟨pb,0,none⟩),.slice PA 0 pc] 82)) fun e w1 => ∃ u,e = .returned u∧Calls Try.prog 47 #[v,u] w1 fun e w2 => ∃ v2,e = .returned v2∧w2.cell? ⟨W.heap.size,1,none⟩ = some (.slice PA 0 pc)∧J v2 w2
set_option maxHeartbeats 8000000 in
set_option maxRecDepth 1000000 in
theorem encc_walk (bl ll lc : Nat) (al : Bool) (inc wt tr po : Int) (v : Value) (w : World) (J : Nat → Value → World → Prop) (hll : ll ≤ 1000)
  (h0 : EcHead w.heap.size al inc (.slice (some ⟨bl,0,none⟩) ll lc) v (w.alloc (.cells (b74 al inc (.slice (some ⟨bl,0,none⟩) ll lc) wt tr po) 74)).drew fun v' w' => ∀ o,J 0 v' (w'.alloc o)∧(w'.alloc o).cell? ⟨w.heap.size,2,none⟩ = some (.slice (some ⟨bl,0,none⟩) ll lc))
  (hR : (∀ i v W,i < ll → J i v W → EcRnd bl i v W (J (i + 1)))∧∀ v W,J ll v W → W.cell? ⟨w.heap.size,3,none⟩ = some (.slice none 0 0)) :
  Calls Try.prog 49 #[.agg (b74 al inc (.slice (some ⟨bl,0,none⟩) ll lc) wt tr po),v] w fun e w' => ∃ v',e = .returned v'∧J ll v' w' := by
 have mixed : Try.prog.follows .mixedOrders = true := by kernel_rfl
 have HR : Hid ((∀ i v W,i < ll → J i v W → EcRnd bl i v W (J (i + 1)))∧∀ v W,J ll v W → W.cell? ⟨w.heap.size,3,none⟩ = some (.slice none 0 0)) := hR
 clear hR
 obtain ⟨s0,hc⟩ := h0
 have hmm := @run_makeMap Try.prog
 go_enter Try.func49,Try.ntmps49
 go_wp2
 go_region_held3 (fun w' => w'.cell? ⟨w.heap.size,0,none⟩ = some (.bool al)∧w'.cell? ⟨w.heap.size,1,none⟩ = some (.int .i64 inc)∧w'.cell? ⟨w.heap.size,2,none⟩ = some (.slice (some ⟨bl,0,none⟩) ll lc)∧w'.cell? ⟨w.heap.size,3,none⟩ = some (.slice none 0 0))
  (first | exact s0 | exact s1 | exact s2)
  (first | (go_at_call 65; refine Calls.mono hc ?_; clear hc; rintro e w1 ⟨v1,rfl,s1,hc2⟩) | (go_at_call 46; refine Calls.mono hc2 ?_; clear hc2; rintro e w2 ⟨v2,rfl,s2,s3,hc3⟩))
 clear s0 s1 s2
 go_wp2
 go_region_held3 (fun w' => w'.cell? ⟨w.heap.size,0,none⟩ = some (.bool al)∧w'.cell? ⟨w.heap.size,1,none⟩ = some (.int .i64 inc)∧w'.cell? ⟨w.heap.size,2,none⟩ = some (.slice (some ⟨bl,0,none⟩) ll lc)∧w'.cell? ⟨w.heap.size,3,none⟩ = some (.slice none 0 0))
  (first | exact s3 | exact s4 | exact s5)
  (first | (go_at_call 65; refine Calls.mono hc3 ?_; clear hc3; rintro e w3 ⟨v3,rfl,s4,hc4⟩) | (go_at_call 46; refine Calls.mono hc4 ?_; clear hc4; rintro e w4 ⟨v4,rfl,s5,hJ0⟩))
 clear s3 s4 s5
 obtain ⟨hJ0,hlv⟩ := hJ0 (.map #[] 0)
 go_wp2
 clear hlv
 go_loopg [1,34] ll (fun g s1 s34 W => ∃ i : Nat,i + g = ll∧s34 = .int .i64 i∧J i s1 W)
 case atStart => exact ⟨0,by omega,rfl,hJ0⟩
 case round =>
  clear hJ0 hmm
  obtain ⟨i,hig,rfl,hI⟩ := hrel
  cases gk with
  | succ g =>
   have hiI : (i : Int) < (ll : Int) := by omega
   have hw : wrap64 ((i : Int) + 1) = ((i + 1 : Nat) : Int) := by rw [w64,w_i64]; omega
   obtain ⟨pb,pc,PA,q0,q1,q2,h50⟩ := HR.out.1 i _ wr (by omega) hI
   clear HR hI
   go_wp2_with (first | (go_at_call 50; refine Calls.mono h50 ?_; clear h50; rintro e w5 ⟨u,rfl,h47⟩) | (go_at_call 47; refine Calls.mono h47 ?_; clear h47; rintro e w6 ⟨v6,rfl,z1,hJ6⟩))
   go_loopg [46] 0 (fun g s W => g = 0∧s = .int .i64 0∧W = w6)
   case atStart => exact ⟨rfl,rfl,rfl⟩
   case round =>
    obtain ⟨rfl,rfl,rfl⟩ := hrel
    go_wp2
    go_roundg g
    case measure => omega
    case rel => exact ⟨i + 1,by omega,rfl,hJ6⟩
  | zero =>
   obtain rfl : i = ll := by omega
   have z3 := HR.out.2 _ wr hI
   clear HR
   go_wp2
   go_loopg [1,57] 0 (fun g s1 s W => g = 0∧s = .int .i64 0∧J i s1 W)
   case atStart => exact ⟨rfl,rfl,hI⟩
   case round =>
    clear hI
    obtain ⟨rfl,rfl,hI⟩ := hrel
    go_wp2
    go_ret
    exact ⟨_,rfl,hI⟩
def SFb (fb : Nat) (lines : Int) (nv cv : Value) (w : World) : Prop := w.cell? ⟨fb,0,none⟩ = some (.int .i64 lines)∧w.cell? ⟨fb,1,none⟩ = some nv∧w.cell? ⟨fb,2,none⟩ = some cv
def EfHead (fb : Nat) (lines : Int) (nv cv : Value) (nn nc : Nat) (w : World) (J : Value → World → Prop) : Prop :=
 SFb fb lines nv cv w∧Calls Try.prog 46 #[.slice none 0 0,.int .i64 lines] w fun e w1 => ∃ v1,e = .returned v1∧SFb fb lines nv cv w1∧Calls Try.prog 46 #[v1,.int .i64 nn] w1 fun e w2 => ∃ v2,e = .returned v2∧SFb fb lines nv cv w2 ∧
  Calls Try.prog 46 #[v2,.int .i64 nc] w2 fun e w3 => ∃ v3,e = .returned v3∧SFb fb lines nv cv w3∧J v3 w3
def EfNd (bn i : Nat) (v : Value) (W : World) (J : Value → World → Prop) : Prop :=
 ∃ nb : Nat,W.cell? ⟨bn,i,none⟩ = some (.pointer (some ⟨nb,0,none⟩))∧Calls Try.prog 48 #[.pointer (some ⟨nb,0,none⟩)] W fun e w1 => ∃ u,e = .returned u∧Calls Try.prog 47 #[v,u] w1 fun e w2 => ∃ v2,e = .returned v2∧J v2 w2
def EfCl (bc c : Nat) (v : Value) (W : World) (J : Value → World → Prop) : Prop :=
 ∃ (al : Bool) (inc wt tr po : Int) (LA BA : Option Addr) (ll lc bl bcc : Nat) (wn : World),W.cell? ⟨bc,c * 7,none⟩ = some (.bool al)∧W.cell? ⟨bc,c * 7 + 1,none⟩ = some (.int .i64 inc)∧W.cell? ⟨bc,c * 7 + 2,none⟩ = some (.slice LA ll lc)∧W.cell? ⟨bc,c * 7 + 3,none⟩ = some (.slice BA bl bcc) ∧
  W.cell? ⟨bc,c * 7 + 4,none⟩ = some (.int .i64 wt)∧W.cell? ⟨bc,c * 7 + 5,none⟩ = some (.int .i64 tr)∧W.cell? ⟨bc,c * 7 + 6,none⟩ = some (.int .i64 po) ∧
  W.alloc (.cells #[.bool al,.int .i64 inc,.slice LA ll lc,.slice BA bl bcc,.int .i64 wt,.int .i64 tr,.int .i64 po] 74) = wn ∧
  wn.cell? ⟨W.heap.size,0,none⟩ = some (.bool al)∧wn.cell? ⟨W.heap.size,1,none⟩ = some (.int .i64 inc)∧wn.cell? ⟨W.heap.size,2,none⟩ = some (.slice LA ll lc)∧wn.cell? ⟨W.heap.size,3,none⟩ = some (.slice BA bl bcc) ∧
  wn.cell? ⟨W.heap.size,4,none⟩ = some (.int .i64 wt)∧wn.cell? ⟨W.heap.size,5,none⟩ = some (.int .i64 tr)∧wn.cell? ⟨W.heap.size,6,none⟩ = some (.int .i64 po) ∧
  Calls Try.prog 49 #[.agg #[.bool al,.int .i64 inc,.slice LA ll lc,.slice BA bl bcc,.int .i64 wt,.int .i64 tr,.int .i64 po],v] wn fun e w2 => ∃ v2,e = .returned v2∧J v2 w2
def EfOr (bo k : Nat) (v : Value) (W : World) (J : Value → World → Prop) : Prop :=
 ∃ pb : Nat,W.cell? ⟨bo,k,none⟩ = some (.pointer (some ⟨pb,0,none⟩))∧Calls Try.prog 50 #[.pointer (some ⟨pb,0,none⟩)] W fun e w1 => ∃ u,e = .returned u∧Calls Try.prog 47 #[v,u] w1 fun e w2 => ∃ v2,e = .returned v2∧J v2 w2
set_option maxHeartbeats 8000000 in
set_option maxRecDepth 1000000 in
theorem encf_walk (fb bn nn cn bc nc cc on oc : Nat) (OA : Option Addr) (lines : Int) (w : World) (J1 J2 J3 : Nat → Value → World → Prop) (hb : nn ≤ 1000∧nc ≤ 1000∧on ≤ 100000)
  (h0 : EfHead fb lines (.slice (some ⟨bn,0,none⟩) nn cn) (.slice (some ⟨bc,0,none⟩) nc cc) nn nc w.drew (J1 0))
  (h1 : ∀ v W,J1 0 v W → W.cell? ⟨fb,1,none⟩ = some (.slice (some ⟨bn,0,none⟩) nn cn))
  (hR : (∀ i v W,i < nn → J1 i v W → EfNd bn i v W (J1 (i + 1)))∧(∀ v W,J1 nn v W → J2 0 v W∧W.cell? ⟨fb,2,none⟩ = some (.slice (some ⟨bc,0,none⟩) nc cc))∧(∀ c v W,c < nc → J2 c v W → EfCl bc c v W (J2 (c + 1))) ∧
   (∀ v W,J2 nc v W → J3 0 v W∧W.cell? ⟨fb,3,none⟩ = some (.slice OA on oc))∧∀ k v W,k < on → J3 k v W → ∃ bo,OA = some ⟨bo,0,none⟩∧EfOr bo k v W (J3 (k + 1))) :
  Calls Try.prog 30 #[.pointer (some ⟨fb,0,none⟩)] w fun e w' => ∃ v',e = .returned v'∧J3 on v' w' := by
 have mixed : Try.prog.follows .mixedOrders = true := by kernel_rfl
 have HR : Hid ((∀ i v W,i < nn → J1 i v W → EfNd bn i v W (J1 (i + 1)))∧(∀ v W,J1 nn v W → J2 0 v W∧W.cell? ⟨fb,2,none⟩ = some (.slice (some ⟨bc,0,none⟩) nc cc))∧(∀ c v W,c < nc → J2 c v W → EfCl bc c v W (J2 (c + 1))) ∧
   (∀ v W,J2 nc v W → J3 0 v W∧W.cell? ⟨fb,3,none⟩ = some (.slice OA on oc))∧∀ k v W,k < on → J3 k v W → ∃ bo,OA = some ⟨bo,0,none⟩∧EfOr bo k v W (J3 (k + 1))) := hR
 clear hR
 obtain ⟨s0,hc⟩ := h0
 go_enter Try.func30,Try.ntmps30
 go_wp2
 go_region_held3 (fun w' => w'.cell? ⟨fb,0,none⟩ = some (.int .i64 lines)∧w'.cell? ⟨fb,1,none⟩ = some (.slice (some ⟨bn,0,none⟩) nn cn)∧w'.cell? ⟨fb,2,none⟩ = some (.slice (some ⟨bc,0,none⟩) nc cc))
  (first | exact s0 | exact s1 | exact s2 | exact s3)
  (first | (go_at_call 46; refine Calls.mono hc ?_; clear hc; rintro e w1 ⟨v1,rfl,s1,hc2⟩) | (go_at_call 46; refine Calls.mono hc2 ?_; clear hc2; rintro e w2 ⟨v2,rfl,s2,hc3⟩) | (go_at_call 46; refine Calls.mono hc3 ?_; clear hc3; rintro e w3 ⟨v3,rfl,s3,hJ⟩))
 have h1 := h1 _ _ hJ
 clear s0 s1 s2 s3
 go_wp2
 clear h1
 go_loopg [3,32] nn (fun g s3 s W => ∃ i : Nat,i + g = nn∧s = .int .i64 i∧J1 i s3 W)
 case atStart => exact ⟨0,by omega,rfl,hJ⟩
 case round =>
  clear hJ
  obtain ⟨i,hig,rfl,hI⟩ := hrel
  cases gk with
  | succ g =>
   have hiI : (i : Int) < (nn : Int) := by omega
   have hw : wrap64 ((i : Int) + 1) = ((i + 1 : Nat) : Int) := by rw [w64,w_i64]; omega
   obtain ⟨nb,q0,h48⟩ := HR.out.1 i _ wr (by omega) hI
   clear HR hI
   go_wp2_with (first | (go_at_call 48; refine Calls.mono h48 ?_; clear h48; rintro e w5 ⟨u,rfl,h47⟩) | (go_at_call 47; refine Calls.mono h47 ?_; clear h47; rintro e w6 ⟨v6,rfl,hJ6⟩))
   go_roundg g
   case measure => omega
   case rel => exact ⟨i + 1,by omega,rfl,hJ6⟩
  | zero =>
   obtain rfl : i = nn := by omega
   obtain ⟨hJ2,c2⟩ := HR.out.2.1 _ wr hI
   clear hI
   go_wp2
   clear c2
   go_loopg [3,46] nc (fun g s3 s W => ∃ c : Nat,c + g = nc∧s = .int .i64 c∧J2 c s3 W)
   case atStart => exact ⟨0,by omega,rfl,hJ2⟩
   case round =>
    clear hJ2
    obtain ⟨c,hcg,rfl,hI⟩ := hrel
    cases gk with
    | succ g =>
     have hiI : (c : Int) < (nc : Int) := by omega
     have hw : wrap64 ((c : Int) + 1) = ((c + 1 : Nat) : Int) := by rw [w64,w_i64]; omega
     obtain ⟨al,inc,wt,tr,po,LA,BA,ll,lc,bl,bcc,wn,q0,q1,q2,q3,q4,q5,q6,hwn,r0,r1,r2,r3,r4,r5,r6,h49⟩ := HR.out.2.2.1 c _ wr (by omega) hI
     clear HR hI
     go_wp2_with (first | (go_at_call 49; refine Calls.mono h49 ?_; clear h49; rintro e w6 ⟨v6,rfl,hJ6⟩))
     go_roundg g
     case measure => omega
     case rel => exact ⟨c + 1,by omega,rfl,hJ6⟩
    | zero =>
     obtain rfl : c = nc := by omega
     obtain ⟨hJ3,c3⟩ := HR.out.2.2.2.1 _ wr hI
     clear hI
     go_wp2
     clear c3
     go_loopg [3,59] on (fun g s3 s W => ∃ k : Nat,k + g = on∧s = .int .i64 k∧J3 k s3 W)
     case atStart => exact ⟨0,by omega,rfl,hJ3⟩
     case round =>
      clear hJ3
      obtain ⟨k,hkg,rfl,hI⟩ := hrel
      cases gk with
      | succ g =>
       have hiI : (k : Int) < (on : Int) := by omega
       have hw : wrap64 ((k : Int) + 1) = ((k + 1 : Nat) : Int) := by rw [w64,w_i64]; omega
       obtain ⟨bo,rfl,pb,q0,h50⟩ := HR.out.2.2.2.2 k _ wr (by omega) hI
       clear HR hI
       go_wp2_with (first | (go_at_call 50; refine Calls.mono h50 ?_; clear h50; rintro e w5 ⟨u,rfl,h47⟩) | (go_at_call 47; refine Calls.mono h47 ?_; clear h47; rintro e w6 ⟨v6,rfl,hJ6⟩))
       go_roundg g
       case measure => omega
       case rel => exact ⟨k + 1,by omega,rfl,hJ6⟩
      | zero =>
       obtain rfl : k = on := by omega
       clear HR
       go_wp2
       go_ret
       exact ⟨_,rfl,hI⟩
end Go.Proofs.Ytnjccbnlmdajkaa
