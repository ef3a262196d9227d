/- Choices: the walk. -/
import Derived.Test.YtnjccbnlmdajkaaStpW
set_option linter.all false
namespace Go.Proofs.Ytnjccbnlmdajkaa
open Go.RowKit Go.Shelf Go.Lib Go.Ev
attribute [local go_sem] Oper.semAt_some
set_option maxRecDepth 1000000 in
theorem pclient_walk (pb : Nat) (c : Int) (W : World) (h : W.cell? ⟨pb,0,none⟩ = some (.int .i64 c)) : Calls Try.prog 41 #[.pointer (some ⟨pb,0,none⟩)] W fun e w' => e = .returned (.int .i64 c)∧w' = W := by
 go_enter Try.func41,Try.ntmps41
 go_wp2
 go_ret
 exact ⟨rfl,rfl⟩
set_option maxRecDepth 1000000 in
theorem pnode_walk (pb : Nat) (c : Int) (W : World) (h : W.cell? ⟨pb,2,none⟩ = some (.int .i64 c)) : Calls Try.prog 42 #[.pointer (some ⟨pb,0,none⟩)] W fun e w' => e = .returned (.int .i64 c)∧w' = W := by
 go_enter Try.func42,Try.ntmps42
 go_wp2
 go_ret
 exact ⟨rfl,rfl⟩
def ChsApp (x y z : Int) (v : Value) (W : World) (J : Value → World → Prop) : Prop :=
 ∃ (A : Option Addr) (l c B c' : Nat) (W4 : World),v = .slice A l c∧Hid (∀ ty,(Builtin.append_ #[41,41] ty #[.slice A l c,.slice (some ⟨W.heap.size,0,none⟩) 1 1]).run Try.prog (W.alloc (.cells #[.int .i64 x,.int .i64 y,.int .i64 z] 40)) = .ok (.slice (some ⟨B,0,none⟩) (l + 1) c') W4)∧J (.slice (some ⟨B,0,none⟩) (l + 1) c') W4
def ChsCl (bc i : Nat) (v : Value) (W : World) (J2 : Option Addr → Nat → Nat → Value → World → Prop) : Prop :=
 ∃ (al : Bool) (inc : Int) (LA BA : Option Addr) (ll lc bn bcp : Nat) (wv tr po : Int),W.cell? ⟨bc,i * 7,none⟩ = some (.bool al)∧W.cell? ⟨bc,i * 7 + 1,none⟩ = some (.int .i64 inc)∧W.cell? ⟨bc,i * 7 + 2,none⟩ = some (.slice LA ll lc)∧W.cell? ⟨bc,i * 7 + 3,none⟩ = some (.slice BA bn bcp) ∧
  W.cell? ⟨bc,i * 7 + 4,none⟩ = some (.int .i64 wv)∧W.cell? ⟨bc,i * 7 + 5,none⟩ = some (.int .i64 tr)∧W.cell? ⟨bc,i * 7 + 6,none⟩ = some (.int .i64 po)∧∃ wa,W.alloc (.cells #[.bool al,.int .i64 inc,.slice LA ll lc,.slice BA bn bcp,.int .i64 wv,.int .i64 tr,.int .i64 po] 74) = wa ∧
  wa.cell? ⟨W.heap.size,2,none⟩ = some (.slice LA ll lc)∧J2 LA ll 0 v wa
def ChsLn (i : Nat) (LA : Option Addr) (j : Nat) (v : Value) (W : World) (J2 : Nat → Value → World → Prop) : Prop :=
 ∃ (bl pb : Nat) (PA VA : Option Addr) (pl pc vl vc : Nat),LA = some ⟨bl,0,none⟩∧W.cell? ⟨bl,j * 2,none⟩ = some (.pointer (some ⟨pb,0,none⟩))∧W.cell? ⟨bl,j * 2 + 1,none⟩ = some (.slice PA pl pc)∧∃ wb,W.alloc (.cells #[.pointer (some ⟨pb,0,none⟩),.slice PA pl pc] 82) = wb ∧
  wb.cell? ⟨W.heap.size,0,none⟩ = some (.pointer (some ⟨pb,0,none⟩))∧wb.cell? ⟨pb,3,none⟩ = some (.slice VA vl vc)∧(vl = 0 → J2 (j + 1) v wb)∧(0 < vl → ChsApp (-1) i j v wb (J2 (j + 1)))
def ChsOr (OA : Option Addr) (k : Nat) (v : Value) (W : World) (J3 : Nat → Value → World → Prop) : Prop :=
 ∃ (bo pb : Nat) (c n : Int),OA = some ⟨bo,0,none⟩∧W.cell? ⟨bo,k,none⟩ = some (.pointer (some ⟨pb,0,none⟩))∧W.cell? ⟨pb,0,none⟩ = some (.int .i64 c)∧W.cell? ⟨pb,2,none⟩ = some (.int .i64 n)∧ChsApp k c n v W (J3 (k + 1))
set_option maxHeartbeats 8000000 in
set_option maxRecDepth 1000000 in
theorem choices_walk {cc : Nat} (bf bc nc on oc : Nat) (OA : Option Addr) (w : World) (J : Nat → Value → World → Prop) (J2 : Nat → Option Addr → Nat → Nat → Value → World → Prop) (J3 : Nat → Value → World → Prop) (K : Value → World → Prop)
  (hon : on ≤ 100000) (hnc : nc ≤ 100000) (h2 : w.cell? ⟨bf,2,none⟩ = some (.slice (some ⟨bc,0,none⟩) nc cc)) (hJ : J 0 (.slice none 0 0) w)
  (H : (∀ i v W,i < nc → J i v W → ChsCl bc i v W (J2 i))∧(∀ i LA ll j v W,j < ll → J2 i LA ll j v W → ll ≤ 100000∧ChsLn i LA j v W (J2 i LA ll))∧(∀ i LA ll v W,J2 i LA ll ll v W → J (i + 1) v W)∧(∀ v W,J nc v W → W.cell? ⟨bf,3,none⟩ = some (.slice OA on oc)∧J3 0 v W) ∧
   (∀ k v W,k < on → J3 k v W → ChsOr OA k v W J3)∧∀ v W,J3 on v W → K v W) :
  Calls Try.prog 21 #[.pointer (some ⟨bf,0,none⟩)] w fun e w' => ∃ v,e = .returned v∧K v w' := by
 have HH : Hid _ := H
 clear H
 go_enter Try.func21,Try.ntmps21
 go_wp2
 go_loopg [3,15] nc (fun g s3 s15 W => ∃ i : Nat,i + g = nc∧s15 = .int .i64 i∧J i s3 W)
 case atStart => exact ⟨0,by omega,rfl,hJ⟩
 case round =>
  obtain ⟨i,hig,rfl,hI⟩ := hrel
  cases gk with
  | succ g =>
   have hi : i < nc := by omega
   have hiI : (i : Int) < (nc : Int) := by omega
   obtain ⟨al,inc,LA,BA,ll,lc,bn,bcp,wv,tr,po,c0,c1,c2,c3,c4,c5,c6,wa,ea,ga,hJ2⟩ := HH.out.1 i _ _ hi hI
   have hw : wrap64 ((i : Int) + 1) = ((i + 1 : Nat) : Int) := by rw [w64,w_i64]; omega
   clear hJ hI
   go_wp2
   clear c0 c1 c2 c3 c4 c5 c6 ea ga
   go_loopg [3,23] ll (fun g s3 s23 W => ∃ j : Nat,j + g = ll∧s23 = .int .i64 j∧J2 i LA ll j s3 W)
   case atStart => exact ⟨0,by omega,rfl,hJ2⟩
   case round =>
    obtain ⟨j,hjg,rfl,hIj⟩ := hrel
    cases gk with
    | succ g' =>
     have hj : j < ll := by omega
     have hjI : (j : Int) < (ll : Int) := by omega
     obtain ⟨hll,bl,pb,PA,VA,pl,pc,vl,vc,rfl,d0,d1,wb,eb,gb,hv,hz,hp⟩ := HH.out.2.1 i _ _ j _ _ hj hIj
     have hwj : wrap64 ((j : Int) + 1) = ((j + 1 : Nat) : Int) := by rw [w64,w_i64]; omega
     have hpw := pending_walk pb vl vc VA wb hv
     clear hJ2 hIj
     by_cases h0 : vl = 0
     ·have hJn := hz h0
      have hvI : ¬ (0 : Int) < (vl : Int) := by omega
      clear hz hp
      go_wp2_with (go_at_call 38; refine Calls.mono hpw ?_; rintro e w' ⟨rfl,hw⟩; rw [hw]; clear hw)
      go_roundg g'
      case measure => omega
      case rel => exact ⟨j + 1,by omega,rfl,hJn⟩
     ·have hvI : (0 : Int) < (vl : Int) := by omega
      obtain ⟨A,l,c,B,c',W4,rfl,hap,hJn⟩ := hp (by omega)
      clear hz hp
      go_wp2_with (first | (go_at_call 38; refine Calls.mono hpw ?_; rintro e w' ⟨rfl,hw⟩; rw [hw]; clear hw) | (at_builtin; refine Lib.wpList_append_run _ rfl _ _ _ _ rfl _ _ rfl rfl _ _ (hap.out _) ?_))
      go_roundg g'
      case measure => omega
      case rel => exact ⟨j + 1,by omega,rfl,hJn⟩
    | zero =>
     obtain rfl : j = ll := by omega
     have hJn := HH.out.2.2.1 i _ _ _ _ hIj
     clear hJ2 hIj
     go_wp2
     go_roundg g
     case measure => omega
     case rel => exact ⟨i + 1,by omega,rfl,hJn⟩
  | zero =>
   obtain rfl : i = nc := by omega
   obtain ⟨h3,hJ3⟩ := HH.out.2.2.2.1 _ _ hI
   clear hJ hI h2 hig
   go_wp2
   clear h3
   go_loopg [3,45] on (fun g s3 s W => ∃ k : Nat,k + g = on∧s = .int .i64 k∧J3 k s3 W)
   case atStart => exact ⟨0,by omega,rfl,hJ3⟩
   case round =>
    obtain ⟨k,hkg,rfl,hIk⟩ := hrel
    cases gk with
    | succ g =>
     have hk : k < on := by omega
     have hkI : (k : Int) < (on : Int) := by omega
     obtain ⟨bo,pb,c,n,rfl,d0,d1,d2,A,l,ca,B,c',W4,rfl,hap,hJn⟩ := HH.out.2.2.2.2.1 k _ _ hk hIk
     have hwk : wrap64 ((k : Int) + 1) = ((k + 1 : Nat) : Int) := by rw [w64,w_i64]; omega
     have hpc := pclient_walk pb c _ d1
     have hpn := pnode_walk pb n _ d2
     clear hJ3 hIk
     go_wp2_with (first | (go_at_call 41; refine Calls.mono hpc ?_; rintro e w' ⟨rfl,hw⟩; rw [hw]; clear hw) | (go_at_call 42; refine Calls.mono hpn ?_; rintro e w' ⟨rfl,hw⟩; rw [hw]; clear hw) | (at_builtin; refine Lib.wpList_append_run _ rfl _ _ _ _ rfl _ _ rfl rfl _ _ (hap.out _) ?_))
     go_roundg g
     case measure => omega
     case rel => exact ⟨k + 1,by omega,rfl,hJn⟩
    | zero =>
     obtain rfl : k = on := by omega
     have hK := HH.out.2.2.2.2.2 _ _ hIk
     clear hJ3 hIk HH
     go_wp2
     go_ret
     exact ⟨_,rfl,hK⟩
end Go.Proofs.Ytnjccbnlmdajkaa
