/- What is told of functions is so. -/
import Derived.Test.YtnhahcomgeeobaaEq
import Derived.Test.YtnhahcomgeeobaaShelf
set_option linter.all false
namespace Go.Proofs.Ytnhahcomgeeobaa
open Go.Ev
theorem mix : Try.prog.follows .mixedOrders = true := by kernel_rfl
theorem joinS : TellS Try.prog 64 joinG := join_tell Try.func64 (by kernel_rfl) (fun a c sep w => Any.strings_Join_none Try.lays156 Try.Builder_Extra_156 a c sep w)
 (fun bk o c xs sep w h1 h2 h3 h4 h5 => Any.strings_Join Try.lays156 Try.Builder_Extra_156 bk o c xs sep w h1 h2 h3 h4 h5)
theorem growS : TellS Try.prog 94 (growG 9) := by
 have h9 : (Try.prog.info? 9).map (fun i => (i.zero,i.size,i.bytes)) = some (some (.string .empty),1,16) := by kernel_rfl
 obtain ⟨i0,hi0,hz⟩ : ∃ i0,Try.prog.info? 9 = some i0∧i0.zero = some (.string .empty)∧i0.size = 1∧i0.bytes = 16 := by
  obtain ⟨i0,h1,h2⟩ := Option.map_eq_some_iff.1 h9
  injection h2 with h2 h3
  injection h3 with h3 h4
  exact ⟨i0,h1,h2,h3,h4⟩
 exact grow_tell Try.func94 (by kernel_rfl) hi0 hz.1 hz.2.1 rfl (by omega)
  (fun n w h1 h2 => Any8.slices_Grow_grow Try.laysGrow i0 _ hi0 hz.1 (by omega) none 0 0 n [] w (Nat.le_refl _) (by omega) h2 (by rw [hz.2.2] at h2; omega) (by simp) (fun _ => rfl) (fun a e => by cases e))
theorem rev0 (a : Option Addr) (cap : Nat) (w : World) : Calls Try.prog 93 #[.slice a 0 cap] w fun e w' => e = .returned (.tuple #[])∧w' = w := AnyE.slices_Reverse_empty Try.laysRev a cap w
theorem rev1 (blk off cap : Nat) (zs : List {v : Value // v.oneCell' = true}) (w : World) (h : @Sort.Holds {v : Value // v.oneCell' = true} ⟨⟨.bool false,rfl⟩⟩ Subtype.val w blk off zs.toArray) (h2 : zs.length ≤ 9223372036854775807) :
  Calls Try.prog 93 #[.slice (some ⟨blk,off,none⟩) zs.length cap] w fun e w' => e = .returned (.tuple #[])∧∃ n,w' = @Sort.putRow {v : Value // v.oneCell' = true} ⟨⟨.bool false,rfl⟩⟩ Subtype.val (Sort.ahead w n) blk off zs.reverse.toArray :=
 by
  have key := @AnyE.slices_Reverse Try.prog Try.laysRev_ren {v : Value // v.oneCell' = true} ⟨⟨.bool false,rfl⟩⟩ Try.laysRev Subtype.val (fun x => x.2) blk off cap zs w h h2
  rw [show Try.laysRev_ren.f 35 = 93 from rfl] at key
  exact key
theorem addS : PrS Try.prog cfg := by
 intro f g e xs hx
 change prF f = some g at e
 unfold prF at e
 split at e
 ·cases e
  simp only at hx ⊢
  unfold addC at hx
  split at hx
  ·rename_i x y c
   simp only [Bool.and_eq_true,decide_eq_true_eq] at hx
   obtain ⟨h1,h2,h3,h4⟩ := hx
   obtain ⟨x,rfl⟩ : ∃ n : Nat,x = (n : Int) := ⟨x.toNat,by omega⟩
   obtain ⟨y,rfl⟩ : ∃ n : Nat,y = (n : Int) := ⟨y.toNat,by omega⟩
   obtain ⟨c,rfl⟩ : ∃ n : Nat,c = (n : Int) := ⟨c.toNat,by omega⟩
   refine ⟨fun v hv => ?_,fun w => ?_⟩
   ·simp only [addR,List.mem_cons,List.not_mem_nil,or_false] at hv
    rcases hv with rfl | rfl <;> rfl
   ·have h := Any7.bits_Add64 Try.lays25 x y c (by omega) w
    refine (show (callFunc 87 #[.int .u64 (x : Int),.int .u64 (y : Int),.int .u64 (c : Int)]).run Try.prog w = _ from h).trans ?_
    have e1 : IntKind.u64.wrap ((x : Int) + (y : Int) + (c : Int)) = (((x + y + c) % 18446744073709551616 : Nat) : Int) := by rw [w_u64]; omega
    have e2 : Int.fdiv ((x : Int) + (y : Int) + (c : Int)) 18446744073709551616 = (((x + y + c) / 18446744073709551616 : Nat) : Int) := by rw [Int.fdiv_eq_ediv_of_nonneg _ (by decide)]; omega
    simp only [addR,e1,e2]
  ·cases hx
 ·cases e
theorem updOk : UpdS Try.prog cfg := by
 refine ⟨addS,?_⟩
 intro f u e
 change updF f = some u at e
 unfold updF at e
 split at e
 ·cases e; exact ins_told
 ·cases e; exact del_told
 ·cases e; exact rev_upd rev0 rev1
 ·cases e
theorem extOk : ExtS Try.prog cfg := by
 refine ⟨fun f bs rs e => ?_,updOk⟩
 by_cases h64 : f = 64
 ·subst h64; exact joinS bs rs e
 by_cases h94 : f = 94
 ·subst h94; exact growS bs rs e
 by_cases h14 : f = 14
 ·subst h14; exact spoil_told bs rs e
 have hf : cfg.ext f = none := by
  show extF f = none
  unfold extF
  split
  ·exact absurd rfl h64
  ·exact absurd rfl h14
  ·exact absurd rfl h94
  ·rfl
 simp only [evTop,hf] at e
 cases e
theorem s_awake : ev 13 [] = some [.v (.bool true)] := evL_of (n := 16) (by kernel_rfl)
end Go.Proofs.Ytnhahcomgeeobaa
