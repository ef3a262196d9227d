/- What is told of functions is so. -/
import Derived.Test.YtcinngpelbdopaaEq
import Derived.Test.YtcinngpelbdopaaAny
set_option linter.all false
namespace Go.Proofs.Ytcinngpelbdopaa
open Go.Ev
theorem mix : Try.prog.follows .mixedOrders = true := by kernel_rfl
theorem joinS : TellS Try.prog 35 joinG := join_tell Try.func35 (by kernel_rfl) (fun a c sep w => Any.strings_Join_none Try.lays156 Try.Builder_Extra_156 a c sep w)
  (fun bk o c xs sep w h1 h2 h3 h4 h5 => Any.strings_Join Try.lays156 Try.Builder_Extra_156 bk o c xs sep w h1 h2 h3 h4 h5)
theorem set153 : (Try.prog.info? (Try.lays153_ren.t 116)).map (fun i => (i.zero, i.size)) = some (some (.agg (Array.replicate 256 (.bool false))), 256) := by kernel_rfl
theorem anyS : TellS Try.prog 63 anyG := any_tell Try.func63 (by kernel_rfl) (fun s c w h1 h2 h3 h4 => Any.strings_IndexAny_pair Try.lays153 set153 s c w h1 h2 h3 h4)
theorem growS : TellS Try.prog 74 (growG 9) := by
  have h9 : (Try.prog.info? 9).map (fun i => (i.zero, i.size, i.bytes)) = some (some (.string .empty), 1, 16) := by kernel_rfl
  obtain ⟨i0, hi0, hz⟩ : ∃ i0, Try.prog.info? 9 = some i0 ∧ i0.zero = some (.string .empty) ∧ i0.size = 1 ∧ i0.bytes = 16 := by
    obtain ⟨i0, h1, h2⟩ := Option.map_eq_some_iff.1 h9
    injection h2 with h2 h3
    injection h3 with h3 h4
    exact ⟨i0, h1, h2, h3, h4⟩
  exact grow_tell Try.func74 (by kernel_rfl) hi0 hz.1 hz.2.1 rfl (by omega)
    (fun n w h1 h2 => Any8.slices_Grow_grow Try.laysGrow i0 _ hi0 hz.1 (by omega) none 0 0 n [] w (Nat.le_refl _) (by omega) h2 (by rw [hz.2.2] at h2; omega) (by simp) (fun _ => rfl) (fun a e => by cases e))
theorem rev0 (a : Option Addr) (cap : Nat) (w : World) : Calls Try.prog 73 #[.slice a 0 cap] w fun e w' => e = .returned (.tuple #[]) ∧ w' = w := AnyE.slices_Reverse_empty Try.laysRev a cap w
theorem rev1 (blk off cap : Nat) (zs : List {v : Value // v.oneCell' = true}) (w : World) (h : @Sort.Holds {v : Value // v.oneCell' = true} ⟨⟨.bool false, rfl⟩⟩ Subtype.val w blk off zs.toArray) (h2 : zs.length ≤ 9223372036854775807) :
    Calls Try.prog 73 #[.slice (some ⟨blk, off, none⟩) zs.length cap] w fun e w' => e = .returned (.tuple #[]) ∧ ∃ n, w' = @Sort.putRow {v : Value // v.oneCell' = true} ⟨⟨.bool false, rfl⟩⟩ Subtype.val (Sort.ahead w n) blk off zs.reverse.toArray :=
  by
    have key := @AnyE.slices_Reverse Try.prog Try.laysRev_ren {v : Value // v.oneCell' = true} ⟨⟨.bool false, rfl⟩⟩ Try.laysRev Subtype.val (fun x => x.2) blk off cap zs w h h2
    rw [show Try.laysRev_ren.f 35 = 73 from rfl] at key
    exact key
theorem extOk : ExtS Try.prog cfg := by
  refine ⟨fun f bs rs e => ?_, prS_none fun _ => rfl, fun f g e => ?_⟩
  · by_cases h35 : f = 35
    · subst h35; exact joinS bs rs e
    by_cases h63 : f = 63
    · subst h63; exact anyS bs rs e
    by_cases h74 : f = 74
    · subst h74; exact growS bs rs e
    have hf : cfg.ext f = none := by
      show extF f = none
      unfold extF
      split
      · exact absurd rfl h35
      · exact absurd rfl h63
      · exact absurd rfl h74
      · rfl
    simp only [evTop, hf] at e
    cases e
  · by_cases h73 : f = 73
    · subst h73
      obtain rfl := Option.some.inj e
      exact rev_upd rev0 rev1
    · have hf : cfg.upd f = none := by
        show updF f = none
        unfold updF
        split
        · exact absurd rfl h73
        · rfl
      rw [hf] at e; cases e
end Go.Proofs.Ytcinngpelbdopaa
