/- LayoutFormatsAll's function is told. -/
import Derived.Test.YtniocbmadbaojaaFabZ
set_option linter.all false
namespace Go.Proofs.Ytniocbmadbaojaa
open Go.RowKit Go.Shelf Go.Lib Go.Ev
set_option maxRecDepth 100000
def faG : List AV → Option (List AV)
  | [.v (.int .i64 _), .v (.int .i64 _)] => some [.v (.bool true)]
  | _ => none
theorem fa_told : TellS Try.prog 6 faG := by
  intro bs rs h
  refine ⟨Try.f6, Try.func6, fun w μ F G vals himm hb hnd => ?_⟩
  unfold faG at h
  split at h
  · rename_i a b
    obtain rfl := Option.some.inj h
    obtain ⟨F1, F2, G1, G2, va, vs, rfl, rfl, rfl, b1, b2⟩ := b2s_cons hb
    obtain ⟨F3, F4, G3, G4, vb, vs', rfl, rfl, rfl, b3, b4⟩ := b2s_cons b2
    obtain ⟨rfl, rfl, rfl⟩ := b2s_nil b4
    obtain ⟨rfl, rfl, rfl⟩ := b2_v b1
    obtain ⟨rfl, rfl, rfl⟩ := b2_v b3
    have hsz : (1 : Nat) = Try.f6.resultTypes.size := by kernel_rfl
    refine (law_ok a b w).mono fun e w' he => ?_
    obtain ⟨rfl, hk⟩ := he
    exact ⟨[.v (.bool true)], [], [.bool true], μ, [], [], [], rfl, hsz, rfl, ⟨hk.os, hk.tape, hk.output, hk.size, fun b hb _ => hk.keep b hb List.not_mem_nil, MuLe.refl μ, fun _ _ h => .inl h⟩,
      fun b o hbo => hk.get (himm b o hbo) List.not_mem_nil, .cons (F := []) (F' := []) (G := []) (G' := []) (.o (.c (.d (.v rfl)))) .nil, .nil, by simp, fun b hb => by simp at hb⟩
  · cases h
def ext6 : FuncId → Option (List AV → Option (List AV))
  | 6 => some faG
  | _ => none
def cfg6 : Cfg := { rw := fun _ => [], dat := fun _ => false, inl := fun _ => false, roll := fun _ => 8, join := fun _ => false, ext := ext6 }
theorem ext6Ok : ExtS Try.prog cfg6 := by
  refine ⟨fun f bs rs e => ?_, updS_none fun _ => rfl⟩
  by_cases h9 : f = 6
  · subst h9; exact fa_told bs rs e
  · have hf : cfg6.ext f = none := by
      show ext6 f = none
      unfold ext6
      split
      · exact absurd rfl h9
      · rfl
    simp only [evTop, hf] at e
    cases e
theorem formatsAll_all {N : Nat} (l : List AV) (h : TypA Try.prog N Try.f6.params.toList l) : ∃ n, evF Try.prog cfg6 n 6 l = some [.v (.bool true)] := by
  rw [show Try.f6.params.toList = [3, 3] by kernel_rfl] at h
  obtain ⟨a0, r, rfl, h0, h⟩ := h
  obtain ⟨a1, r, rfl, h1, h⟩ := h
  obtain rfl : r = [] := h
  obtain ⟨a0, rfl, f0_0⟩ := openV3 h0
  obtain ⟨a1, rfl, f1_0⟩ := openV3 h1
  exact ⟨1, rfl⟩
end Go.Proofs.Ytniocbmadbaojaa
