import Derived.RangeFuncNested
import Derived.RangeFuncBound
import Derived.RangeFuncCalls
import Derived.RangeFuncLeaves
import Derived.RangeFuncBox
import Derived.Shelf.Abstract
import Derived.Shelf.RegionOpen
import Derived.Stop.RegionWithIn
import Derived.WalkKit
import Derived.OwnWalkIn
import Derived.TacticsInMore
import Derived.LoopNIn
import Derived.LoopIn
import Derived.Maps.AppendAt
import Derived.Test.YtnjccbnlmdajkaaProg
set_option linter.all false
namespace Go.Proofs.Ytnjccbnlmdajkaa
open Go.RowKit Go.Shelf
attribute [local go_sem] Oper.semAt_some
def vcnt (kind n len : Int) : Int := if kind = 1 then n else if kind = 2 then len else if kind = 3 ∨ kind = 4 then 1 else 0
abbrev vb (kind node at_ n old new key boot : Int) (A : Option Addr) (len cap : Nat) : Array Value := #[.int .i64 kind,.int .i64 node,.int .i64 at_,.int .i64 n,.int .u64 old,.int .u64 new,.slice A len cap,.int .u64 key,.int .i64 boot]
set_option maxRecDepth 100000 in
set_option maxHeartbeats 2000000 in
theorem Count_in (F : Fence) (m : Nat) (h : F.fn 52) (hro : F.round = none) (kind node at_ n old new key boot : Int) (A : Option Addr) (len cap : Nat) (w : World) :
  CallsIn F m Try.prog 52 #[.agg (vb kind node at_ n old new key boot A len cap)] w fun e w' => e = .returned (.int .i64 (vcnt kind n len))∧w' = w.alloc (.cells (vb kind node at_ n old new key boot A len cap) 50) := by
 refine callsIn_of_wp Try.func52 rfl h ?_ hro
 simp only [Try.ntmps52,List.size_toArray,List.length_cons,List.length_nil,Nat.reduceAdd,Nat.reduceSub,Array.replicate_succ,Array.replicate_zero,List.push_toArray,List.append_toArray,List.nil_append,List.cons_append]
 gi_wp2
 all_goals
  go_ret
  simp_all [vcnt]
def pcN (a l : Int) : Int := if wrap64 (8 - a.tmod 8) < l then wrap64 (8 - a.tmod 8) else l
def pcsF : Nat → Int → Int → List (Int × Int)
 | 0,_,_ => []
 | k+1,a,l => if 0 < l then (a,pcN a l) :: pcsF k (wrap64 (a + pcN a l)) (l - pcN a l) else []
def pcs (a l : Int) : List (Int × Int) := pcsF l.toNat a l
theorem w8 (a : Int) : wrap64 (8 - a.tmod 8) = 8 - a.tmod 8∧1 ≤ 8 - a.tmod 8∧8 - a.tmod 8 ≤ 15 := by
 have h1 := Int.tmod_lt_of_pos a (b := 8) (by omega)
 have h2 : -8 < a.tmod 8 := by
  rcases Int.le_total 0 a with h | h
  ·have := Int.tmod_nonneg 8 h; omega
  ·have := Int.tmod_lt_of_pos (-a) (b := 8) (by omega)
   rw [Int.neg_tmod] at this; omega
 have : wrap64 (8 - a.tmod 8) = 8 - a.tmod 8 := by unfold wrap64; omega
 omega
theorem pcN_pos {a l : Int} (h : 0 < l) : 1 ≤ pcN a l∧pcN a l ≤ l := by
 have := w8 a
 unfold pcN; split <;> omega
theorem pcsF_fuel : ∀ (k k' : Nat) (a l : Int),l ≤ k → l ≤ k' → pcsF k a l = pcsF k' a l
 | 0,0,_,_,_,_ => rfl
 | 0,k'+1,a,l,h,_ => by
  have : ¬ 0 < l := by omega
  simp [pcsF,this]
 | k+1,0,a,l,_,h => by
  have : ¬ 0 < l := by omega
  simp [pcsF,this]
 | k+1,k'+1,a,l,h,h' => by
  unfold pcsF
  split
  ·rename_i hl
   have := pcN_pos (a := a) hl
   rw [pcsF_fuel k k' _ _ (by omega) (by omega)]
  ·rfl
theorem pcs_pos {a l : Int} (h : 0 < l) : pcs a l = (a,pcN a l) :: pcs (wrap64 (a + pcN a l)) (l - pcN a l) := by
 have hp := pcN_pos (a := a) h
 have : pcs a l = pcsF ((l.toNat - 1) + 1) a l := by unfold pcs; congr 1; omega
 rw [this]
 unfold pcsF
 rw [if_pos h]
 unfold pcs
 rw [pcsF_fuel (l.toNat - 1) (l - pcN a l).toNat _ _ (by omega) (by omega)]
theorem pcs_neg {a l : Int} (h : l ≤ 0) : pcs a l = [] := by
 unfold pcs
 have : l.toNat = 0 := by omega
 rw [this]; rfl
theorem wsub {l n : Int} (h1 : 0 < l) (h2 : 1 ≤ n) (h3 : n ≤ l) (h4 : l < 2147483648) : wrap64 (l - n) = l - n := by unfold wrap64; omega
def mval : Value → Nat
 | .int _ l => l.toNat
 | _ => 0
def enc48 (x : Int × Int) : Array Value := #[.agg #[.int .i64 x.1,.int .i64 x.2]]
set_option maxRecDepth 100000 in
set_option maxHeartbeats 2000000 in
theorem p1_in (F : Fence) (n : Nat) (h25 : F.fn 80) (h18 : F.fn 52) (hro : F.round = none) (hn : 1 ≤ n) (l Bn : Nat) (kind node at_ nn old new key boot : Int) (A : Option Addr) (len cap : Nat)
  (W : World) (hBn : W.heap[Bn]? = some (.cells (vb kind node at_ nn old new key boot A len cap) 50 (0,0)))
  (J Jx : List (Int × Int) → World → Prop) (hJ : AbidesFrom W.heap.size J)
  (hY : ∀ pre x W1,J pre W1 → pre.length < (pcs at_ (vcnt kind nn len)).length → YieldAt F (n - 1) Try.prog l (enc48 x) W1 fun e W' =>
   (e = .returned (.bool true)∧J (pre ++ [x]) W'∧True) ∨ (e = .returned (.bool false)∧Jx (pre ++ [x]) W'))
  (hcb : vcnt kind nn len < 2147483648) (h0 : J [] W) :
  CallsIn F n Try.prog 80 #[.func (.yield l) #[] #[],.pointer (some ⟨Bn,0,none⟩)] W fun e W' => (∃ v,e = .returned v) ∧
   ((∃ ys,ys = pcs at_ (vcnt kind nn len)∧J ys W') ∨ (∃ pre,True∧Jx pre W')) := by
 refine callsIn_of_wp Try.func80 rfl h25 ?_ hro
 simp only [Try.ntmps80,List.size_toArray,List.length_cons,List.length_nil,Nat.reduceAdd,Nat.reduceSub,Array.replicate_succ,Array.replicate_zero,List.push_toArray,List.append_toArray,List.nil_append,List.cons_append]
 have hBlt : Bn < W.heap.size := (Array.getElem?_eq_some_iff.1 hBn).1
 have c0 : W.cell? ⟨Bn,0,none⟩ = some (.int .i64 kind) := by simp [World.cell?,hBn]
 have c1 : W.cell? ⟨Bn,1,none⟩ = some (.int .i64 node) := by simp [World.cell?,hBn]
 have c2 : W.cell? ⟨Bn,2,none⟩ = some (.int .i64 at_) := by simp [World.cell?,hBn]
 have c3 : W.cell? ⟨Bn,3,none⟩ = some (.int .i64 nn) := by simp [World.cell?,hBn]
 have c4 : W.cell? ⟨Bn,4,none⟩ = some (.int .u64 old) := by simp [World.cell?,hBn]
 have c5 : W.cell? ⟨Bn,5,none⟩ = some (.int .u64 new) := by simp [World.cell?,hBn]
 have c6 : W.cell? ⟨Bn,6,none⟩ = some (.slice A len cap) := by simp [World.cell?,hBn]
 have c7 : W.cell? ⟨Bn,7,none⟩ = some (.int .u64 key) := by simp [World.cell?,hBn]
 have c8 : W.cell? ⟨Bn,8,none⟩ = some (.int .i64 boot) := by simp [World.cell?,hBn]
 have h1 : J [] (W.alloc (Obj.cells (vb kind node at_ nn old new key boot A len cap) 50)).drew := by
  refine hJ [] W _ none h0 ?_ (by simp)
  have := World.grownBy_alloc W (Obj.cells (vb kind node at_ nn old new key boot A len cap) 50) none
  exact ⟨this.1,this.2,this.3,this.4,this.5⟩
 gi_wp2
 gi_region_with (gi_at_call 52; refine (Count_in F _ h18 hro _ _ _ _ _ _ _ _ _ _ _ _).mono ?_; rintro e w' ⟨rfl,rfl⟩)
 all_goals
  gi_wp2
  generalize (W.alloc (Obj.cells (vb kind node at_ nn old new key boot A len cap) 50)).drew = W0 at h1 ⊢
  generalize hc : vcnt kind nn len = cnt at hY hcb ⊢
  clear c0 c1 c2 c3 c4 c5 c6 c7 c8 h0
  gi_loopw [3,4] (fun p q wr => ∃ (a l : Int) (pre : List (Int × Int)),p = .int .i64 a∧q = .int .i64 l∧l < 2147483648∧pre ++ pcs a l = pcs at_ cnt∧J pre wr)
   (fun p q wr => mval q)
  case atStart =>
   exact ⟨at_,cnt,[],rfl,rfl,hcb,rfl,h1⟩
  case round =>
   obtain ⟨a,ll,pre,rfl,rfl,hlb,hx,hJs⟩ := hrel
   rcases Int.lt_or_le 0 ll with hl | hl
   ·have hp := pcN_pos (a := a) hl
    have hs := pcs_pos (a := a) hl
    have hlt : pre.length < (pcs at_ cnt).length := by rw [← hx,hs]; simp
    have hx' : (pre ++ [(a,pcN a ll)]) ++ pcs (wrap64 (a + pcN a ll)) (ll - pcN a ll) = pcs at_ cnt := by rw [← hx,hs]; simp
    have hws := wsub hl hp.1 hp.2 hlb
    obtain ⟨fn,tmps,assign,body,hy,hR⟩ := hY pre (a,pcN a ll) wr hJs hlt
    rcases Int.lt_or_le (wrap64 (8 - a.tmod 8)) ll with hm | hm
    ·have hN : pcN a ll = wrap64 (8 - a.tmod 8) := by unfold pcN; rw [if_pos hm]
     rw [hN] at hy hR hx' hws hp
     simp only [enc48] at hy
     gi_wp2
     all_goals first | (exfalso; omega) | skip
     refine hR.mono ?_
     rintro e W3 (⟨rfl,hJ3,_⟩ | ⟨rfl,hJx3⟩)
     ·gi_wp2
      go_roundw
      case rel => exact ⟨_,_,_,rfl,by first | rfl | rw [hws] | (congr 1; omega),by omega,hx',hJ3⟩
      case measure => simp only [mval]; omega
     ·gi_wp2
      refine bodyPost_ret (results_none rfl _ _ _) rfl ?_
      exact ⟨⟨_,rfl⟩,.inr ⟨_,trivial,hJx3⟩⟩
    ·have hN : pcN a ll = ll := by unfold pcN; rw [if_neg (by omega)]
     rw [hN] at hy hR hx' hws hp
     simp only [enc48] at hy
     gi_wp2
     all_goals first | (exfalso; omega) | skip
     refine hR.mono ?_
     rintro e W3 (⟨rfl,hJ3,_⟩ | ⟨rfl,hJx3⟩)
     ·gi_wp2
      go_roundw
      case rel => exact ⟨_,_,_,rfl,by first | rfl | rw [hws] | (congr 1; omega),by omega,hx',hJ3⟩
      case measure => simp only [mval]; omega
     ·gi_wp2
      refine bodyPost_ret (results_none rfl _ _ _) rfl ?_
      exact ⟨⟨_,rfl⟩,.inr ⟨_,trivial,hJx3⟩⟩
   ·have hs := pcs_neg (a := a) hl
    gi_wp2
    all_goals first | (exfalso; omega) | skip
    go_end0
    refine ⟨⟨_,rfl⟩,.inl ⟨_,rfl,?_⟩⟩
    rw [hs,List.append_nil] at hx
    rw [hc,← hx]
    exact hJs
theorem pcsF_len : ∀ (k : Nat) (a l : Int),(pcsF k a l).length ≤ k
 | 0,_,_ => by simp [pcsF]
 | k+1,a,l => by
  unfold pcsF
  split
  ·have := pcsF_len k (wrap64 (a + pcN a l)) (l - pcN a l)
   simp only [List.length_cons]; omega
  ·simp
theorem pcs_len (a l : Int) : (pcs a l).length ≤ l.toNat := pcsF_len _ _ _
def prow (xs : List (Int × Int)) : List Value := xs.flatMap fun x => [.int .i64 x.1,.int .i64 x.2]
theorem prow_snoc (xs : List (Int × Int)) (x : Int × Int) : prow (xs ++ [x]) = prow xs ++ [.int .i64 x.1,.int .i64 x.2] := by simp [prow]
theorem info48 : (Try.prog.info? 106).map (fun i => (i.zero,i.size,i.bytes)) = some (some (.agg #[.int .i64 0,.int .i64 0]),2,16) := by kernel_rfl
theorem under45 : Try.prog.underlying 102 = some (.slice 106) := by kernel_rfl
def Bx2 (W : World) (B : Nat) (x : Int × Int) : Prop := W.heap[B]? = some (.cells #[.int .i64 x.1,.int .i64 x.2] 106 (0,0))
theorem cell_two_new (w : World) (x y : Value) (t : TypeId) : ∀ j u,[x,y][j]? = some u → (w.alloc (.cells #[x,y] t)).cell? ((⟨w.heap.size,0,none⟩ : Addr).add j) = some u := by
 intro j u hj
 match j,hj with
 | 0,hj =>
  simp at hj
  subst hj
  have e : (⟨w.heap.size,0,none⟩ : Addr).add 0 = ⟨w.heap.size,0,none⟩ := by simp [Addr.add]
  rw [e]
  unfold World.cell?
  simp only [World.alloc_heap_new]
  rfl
 | 1,hj =>
  simp at hj
  subst hj
  have e : (⟨w.heap.size,0,none⟩ : Addr).add 1 = ⟨w.heap.size,1,none⟩ := by simp [Addr.add]
  rw [e]
  unfold World.cell?
  simp only [World.alloc_heap_new]
  rfl
set_option maxHeartbeats 1000000 in
theorem pieces_in (F : Fence) (n : Nat) (h : F.fn 72) (hro : F.round = none) (kind node at_ nn old new key boot : Int) (A : Option Addr) (len cap : Nat) (w : World) :
  CallsIn F n Try.prog 72 #[.agg (vb kind node at_ nn old new key boot A len cap)] w fun e w' => e = .returned (.func (.func 80) #[] #[.pointer (some ⟨w.heap.size,0,none⟩)])∧w' = w.alloc (.cells (vb kind node at_ nn old new key boot A len cap) 50) := by
 refine callsIn_of_wp Try.func72 rfl h ?_ hro
 simp only [Try.ntmps72,List.size_toArray,List.length_cons,List.length_nil,Nat.reduceAdd,Nat.reduceSub,Array.replicate_succ,Array.replicate_zero,List.push_toArray,List.append_toArray,List.nil_append,List.cons_append]
 gi_wp2
 go_ret
 exact ⟨rfl,rfl⟩
set_option maxRecDepth 100000 in
set_option maxHeartbeats 4000000 in
theorem Pieces_in (F : Fence) (n : Nat) (h15 : F.fn 59) (h18 : F.fn 52) (h20 : F.fn 72) (h25 : F.fn 80) (hro : F.round = none) (hn : 6 ≤ n) (kind node at_ nn old new key boot : Int) (A : Option Addr) (len cap : Nat) (w : World)
  (hcb : vcnt kind nn len < 2147483648) :
  CallsIn F n Try.prog 59 #[.agg (vb kind node at_ nn old new key boot A len cap)] w fun e w' => ∃ v,e = .returned v ∧
   w'.ownsRow w.heap.size 106 2 v (pcs at_ (vcnt kind nn len)).length (prow (pcs at_ (vcnt kind nn len)))∧(v = .slice none 0 0 ↔ pcs at_ (vcnt kind nn len) = [])∧Below w.heap.size w w' := by
 have h1 : 1 ≤ n := by omega
 have hlen := pcs_len at_ (vcnt kind nn len)
 refine callsIn_of_wp_marks Try.func59 rfl h15 ?_ hro
 simp only [Try.ntmps59,List.size_toArray,List.length_cons,List.length_nil,Nat.reduceAdd,Nat.reduceSub,Array.replicate_succ,Array.replicate_zero,List.push_toArray,List.append_toArray,List.nil_append,List.cons_append]
 gi_wp2_with (gi_at_call 72; refine (pieces_in F (n - 1) h20 hro _ _ _ _ _ _ _ _ _ _ _ _).mono ?_; rintro e w' ⟨rfl,rfl⟩)
 have bO := (Boxed.new (w.alloc (.cells (vb kind node at_ nn old new key boot A len cap) 50)) 102 (.slice none 0 0)).alloc (.cells (vb kind node at_ nn old new key boot A len cap) 50)
 simp only [World.size_alloc] at bO
 have hcap := World.alloc_heap_new ((w.alloc (.cells (vb kind node at_ nn old new key boot A len cap) 50)).alloc (.cells #[.slice none 0 0] 102)) (.cells (vb kind node at_ nn old new key boot A len cap) 50)
 simp only [World.size_alloc] at hcap
 have hB0 : Below w.heap.size w (((w.alloc (.cells (vb kind node at_ nn old new key boot A len cap) 50)).alloc (.cells #[.slice none 0 0] 102)).alloc (.cells (vb kind node at_ nn old new key boot A len cap) 50)) := (((Below.refl _ w).alloc (Nat.le_refl _) _).alloc (by simp) _).alloc (by simp; omega) _
 have hsz : (((w.alloc (.cells (vb kind node at_ nn old new key boot A len cap) 50)).alloc (.cells #[.slice none 0 0] 102)).alloc (.cells (vb kind node at_ nn old new key boot A len cap) 50)).heap.size = w.heap.size + 3 := by simp
 obtain ⟨W0,hW0⟩ : ∃ W0,(((w.alloc (.cells (vb kind node at_ nn old new key boot A len cap) 50)).alloc (.cells #[.slice none 0 0] 102)).alloc (.cells (vb kind node at_ nn old new key boot A len cap) 50)) = W0 := ⟨_,rfl⟩
 rw [hW0] at bO hB0 hsz hcap ⊢
 clear hW0
 obtain ⟨i0,hi,hz0,hz1,hz2⟩ := info_parts info48
 generalize hPS : pcs at_ (vcnt kind nn len) = PS at hlen ⊢
 refine wpIn_rangeFunc_ownH hro h1 (gf := 80) (lb := #[.pointer (some ⟨w.heap.size + 1 + 1,0,none⟩)]) rfl h25 (enters_of Try.func80 (by kernel_rfl) rfl)
  (encs := enc48) (Kp := fun _ _ => True) (S := fun ys => ys = PS) (Sp := fun _ => True) (N := PS.length) (w0 := W0)
  ?hseq (fun _ _ => trivial) (fun _ _ _ _ _ _ _ _ => trivial) (Below.refl _ _) (fun _ => rfl)
  (fun pre W => (∃ v,Boxed W (w.heap.size+1) 102 v∧W.ownsRow w.heap.size 106 2 v pre.length (prow pre)∧(v = .slice none 0 0 ↔ pre = []))∧Below w.heap.size w W)
  (fun _ _ _ => False)
  (OwnFrom.and (Own.from (holdsRow_own w.heap.size (w.heap.size+1) 102 106 2 (fun (pre : List (Int × Int)) => pre.length) (fun pre => prow pre) (fun pre v => v = .slice none 0 0 ↔ pre = [])) _) (ownFrom_below (Nat.le_refl _) (by omega)))
  (fun _ _ _ _ _ hs _ _ => hs)
  ⟨⟨_,bO,World.ownsRow_nil _ _ _ _,by simp⟩,hB0⟩
  (fun x a' W => ∃ Bx,w.heap.size + 1 < Bx∧Bx2 W Bx x∧a' = { tmps := #[.agg (vb kind node at_ nn old new key boot A len cap),.pointer (some ⟨w.heap.size,0,none⟩),.slice none 0 0,.pointer (some ⟨w.heap.size + 1,0,none⟩),.pointer (some ⟨Bx,0,none⟩),.agg (vb kind node at_ nn old new key boot A len cap),.func (.func 80) #[] #[.pointer (some ⟨w.heap.size + 1 + 1,0,none⟩)],.agg #[.int .i64 x.1,.int .i64 x.2],undef,undef,undef,undef,undef],defers := [] })
  (fun x a' _ X Y row hs hg hr => by
   obtain ⟨Bx,h1,h2,h3⟩ := hs
   refine ⟨Bx,h1,(hg.block Bx (Array.getElem?_eq_some_iff.1 h2).1 (fun e => ?_)).trans h2,h3⟩
   obtain ⟨_,o,ho,hc⟩ := hr Bx e.symm
   rw [show X.heap[Bx]? = _ from h2] at ho; cases ho; cases hc)
  ?assign ?body ?done ?stop
 case hseq =>
  intro l J Jx W hW hJ _ hY h0
  exact (p1_in F (n-1) h25 h18 hro (by omega) l (w.heap.size + 1 + 1) kind node at_ nn old new key boot A len cap W ((hW.block _ (by omega)).trans hcap) J Jx hJ (by rw [hPS]; exact hY) hcb h0).mono (by rw [hPS]; exact fun _ _ h => h)
 case assign =>
  rintro l pre x W K ⟨⟨v,bS1,hr1,hnil⟩,hB1⟩ hK
  simp only [enc48]
  gi_wp2
  exact hK _ _ ((KeepsOthers.alloc _ _).from _) trivial ⟨⟨v,bS1.alloc _,hr1.alloc _,hnil⟩,hB1.alloc hB1.size _⟩ ⟨W.heap.size,bS1.lt,World.alloc_heap_new W _,rfl⟩
 case body =>
  rintro l pre x a' W hl ⟨r,hr⟩ ⟨⟨v,bS1,hr1,hnil⟩,hB1⟩ ⟨Bx,hBx,bX,rfl⟩ hlt
  have cS := bS1.cell
  have hBxl : Bx < W.heap.size := (Array.getElem?_eq_some_iff.1 bX).1
  have cX0 : W.cell? ⟨Bx,0,none⟩ = some (.int .i64 x.1) := by simp [World.cell?,show W.heap[Bx]? = _ from bX]
  have cX1 : W.cell? ⟨Bx,1,none⟩ = some (.int .i64 x.2) := by simp [World.cell?,show W.heap[Bx]? = _ from bX]
  have hle := hB1.size
  gi_wp2_with (gi_at_builtin; refine wpListIn_append_own _ rfl _ _ 102 rfl w.heap.size 106 i0 (.agg #[.int .i64 0,.int .i64 0]) 2 16 under45 hi hz0 hz1 hz2 rfl (by decide) _ _ _ rfl (hr1.alloc _) ⟨W.heap.size,0,none⟩ 1 1 [.int .i64 x.1,.int .i64 x.2] rfl rfl (cell_two_new _ _ _ _) (by simp [Value.oneCell']) (by simp only [maxLen]; omega) (by omega) (by simp; omega) ?_; intro v' w1 hown' hgrow _; obtain ⟨g',cap',rfl⟩ := ownsRow_succ hown'; obtain ⟨hv1,hv2,hr2,hk2,hb2⟩ := bS1.appended (by decide) hr1 hB1.size (by omega) hown' hgrow; have hc1 := hv1.cell; have hf1 := hv1.frozen)
  refine ⟨hk2.from _,trivial,⟨_,hv2,?_,by simp⟩,hB1.trans hb2⟩
  rw [prow_snoc,List.length_append]
  exact hr2
 case done =>
  rintro D zs W hD rfl ⟨⟨v,bS1,hr1,hnil⟩,hB1⟩ hK
  have cS := bS1.cell
  gi_wp2
  refine ⟨by simp,.inl ⟨_,_,rfl,run_takeDeferred hK,?_⟩⟩
  exact ⟨_,results_tmp rfl _ _ _,v,rfl,by rw [hPS]; exact ownsRow_putObj hr1 _ hK rfl,by rw [hPS]; exact hnil,hB1.trans (belowK_b (w := w) (Nat.le_refl _) W D _ _ (by omega) hK rfl rfl)⟩
 case stop =>
  rintro D c pre W _ _ h _
  exact h.elim
end Go.Proofs.Ytnjccbnlmdajkaa
