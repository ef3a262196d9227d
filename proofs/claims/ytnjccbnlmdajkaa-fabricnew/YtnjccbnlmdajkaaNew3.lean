/- FabricNew's function is told. -/
import Derived.Test.YtnjccbnlmdajkaaNewT
import Derived.Test.YtnjccbnlmdajkaaTy
set_option linter.all false
namespace Go.Proofs.Ytnjccbnlmdajkaa
open Go.RowKit Go.Shelf Go.Lib Go.Ev
set_option maxRecDepth 100000
def fnG : List AV → Option (List AV)
  | [.v (.int .i64 _), .v (.int .i64 _), .v (.int .i64 _), .v (.bool _)] => some [.v (.bool true)]
  | _ => none
theorem fn_told : TellS Try.prog 3 fnG := by
  intro bs rs h
  refine ⟨Try.f3, Try.func3, fun w μ F G vals himm hb hnd => ?_⟩
  unfold fnG at h
  split at h
  · rename_i a b c d
    obtain rfl := Option.some.inj h
    obtain ⟨F1, F2, G1, G2, va, vs, rfl, rfl, rfl, b1, b2⟩ := b2s_cons hb
    obtain ⟨F3, F4, G3, G4, vb, vs', rfl, rfl, rfl, b3, b4⟩ := b2s_cons b2
    obtain ⟨F5, F6, G5, G6, vc, vs'', rfl, rfl, rfl, b5, b6⟩ := b2s_cons b4
    obtain ⟨F7, F8, G7, G8, vd, vs''', rfl, rfl, rfl, b7, b8⟩ := b2s_cons b6
    obtain ⟨rfl, rfl, rfl⟩ := Go.Ev.b2s_nil b8
    obtain ⟨rfl, rfl, rfl⟩ := b2_v b1
    obtain ⟨rfl, rfl, rfl⟩ := b2_v b3
    obtain ⟨rfl, rfl, rfl⟩ := b2_v b5
    obtain ⟨rfl, rfl, rfl⟩ := b2_v b7
    have hsz : (1 : Nat) = Try.f3.resultTypes.size := by kernel_rfl
    refine (law_ok a b c d w).mono fun e w' he => ?_
    obtain ⟨rfl, hk⟩ := he
    exact ⟨[.v (.bool true)], [], [.bool true], μ, [], [], [], rfl, hsz, rfl, ⟨hk.os, hk.tape, hk.output, hk.size, fun b hb _ => hk.keep b hb List.not_mem_nil, MuLe.refl μ, fun _ _ h => .inl h⟩,
      fun b o hbo => hk.get (himm b o hbo) List.not_mem_nil, .cons (F := []) (F' := []) (G := []) (G' := []) (.o (.c (.d (.v rfl)))) .nil, .nil, by simp, fun b hb => by simp at hb⟩
  · cases h
def ext3 : FuncId → Option (List AV → Option (List AV))
  | 3 => some fnG
  | _ => none
def cfg3 : Cfg := { rw := fun _ => [], dat := fun _ => false, inl := fun _ => false, roll := fun _ => 8, join := fun _ => false, ext := ext3 }
theorem ext3Ok : ExtS Try.prog cfg3 := by
  refine ⟨fun f bs rs e => ?_, updS_none fun _ => rfl⟩
  by_cases h9 : f = 3
  · subst h9; exact fn_told bs rs e
  · have hf : cfg3.ext f = none := by
      show ext3 f = none
      unfold ext3
      split
      · exact absurd rfl h9
      · rfl
    simp only [evTop, hf] at e
    cases e
theorem fabricNew_all {N : Nat} (l : List AV) (h : TypA Try.prog N Try.f3.params.toList l) : ∃ n, evF Try.prog cfg3 n 3 l = some [.v (.bool true)] := by
  rw [show Try.f3.params.toList = [3, 3, 3, 4] by kernel_rfl] at h
  obtain ⟨a0, r, rfl, h0, h⟩ := h
  obtain ⟨a1, r, rfl, h1, h⟩ := h
  obtain ⟨a2, r, rfl, h2, h⟩ := h
  obtain ⟨a3, r, rfl, h3, h⟩ := h
  obtain rfl : r = [] := h
  obtain ⟨a0, rfl, f0_0⟩ := openV3 h0
  obtain ⟨a1, rfl, f1_0⟩ := openV3 h1
  obtain ⟨a2, rfl, f2_0⟩ := openV3 h2
  obtain ⟨a3, rfl, f3_0⟩ := openV4 h3
  exact ⟨1, rfl⟩
end Go.Proofs.Ytnjccbnlmdajkaa
