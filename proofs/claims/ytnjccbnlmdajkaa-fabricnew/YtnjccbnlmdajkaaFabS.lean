/- The nodes of a fabric, and what calls do to them. -/
import Derived.Test.YtnjccbnlmdajkaaNod
import Derived.Test.YtnjccbnlmdajkaaEv12
set_option linter.all false
namespace Go.Proofs.Ytnjccbnlmdajkaa
open Go.RowKit Go.Shelf Go.Lib Go.Ev
theorem split_at {α : Type} : ∀ (l : List α) (i : Nat) (x : α), l[i]? = some x → ∃ l1 l2, l = l1 ++ x :: l2 ∧ l1.length = i
  | [], i, x, h => by simp at h
  | y :: l, 0, x, h => by simp at h; exact ⟨[], l, by rw [h]; rfl, rfl⟩
  | y :: l, i + 1, x, h => by
    obtain ⟨l1, l2, h1, h2⟩ := split_at l i x (by simpa using h)
    exact ⟨y :: l1, l2, by rw [h1]; rfl, by simp [h2]⟩
theorem set_mid {α : Type} (l1 l2 : List α) (x y : α) : (l1 ++ x :: l2).set l1.length y = l1 ++ y :: l2 := by
  rw [List.set_append_right _ _ (Nat.le_refl _), Nat.sub_self]; rfl
structure FS (w0 : World) (bf bn n cn : Nat) (its : List ItemO) (W : World) : Prop where
  kept : KeptW [] w0 W
  own : Owns mu0 W its
  hdr : ∃ curf curn : Array Value, W.heap[bf]? = some (.cells curf 62 (0, 0)) ∧ curf[1]? = some (.slice (some ⟨bn, 0, none⟩) n cn) ∧ W.heap[bn]? = some (.cells curn 28 (0, 0)) ∧
    ∀ (i : Nat) (x : ItemO), its[i]? = some x → ∃ pb : Nat, x.p = .pointer (some ⟨pb, 0, none⟩) ∧ curn[i]? = some x.p
  apart : ∀ b ∈ foot its, b ≠ bf ∧ b ≠ bn ∧ w0.heap.size ≤ b
theorem mu0_new {P : Nat → Prop} : ∀ b o, mu0 b = some o → mu0 b = some o ∨ P b := fun b o h => by cases h
theorem FS.kept' {w0 W W' : World} {bf bn n cn : Nat} {its : List ItemO} {D : List Nat} (h : FS w0 bf bn n cn its W) (k : KeptW D W W') (hd : ∀ b ∈ D, b ≠ bf ∧ b ≠ bn ∧ b ∉ foot its ∧ w0.heap.size ≤ b) : FS w0 bf bn n cn its W' := by
  obtain ⟨curf, curn, h1, h2, h3, h4⟩ := h.hdr
  exact ⟨h.kept.trans k fun x hx => .inr (hd x hx).2.2.2, h.own.kept k (MuLe.refl _) mu0_new fun b hb => (hd b hb).2.2.1, ⟨curf, curn, k.get h1 fun e => (hd _ e).1 rfl, h2, k.get h3 fun e => (hd _ e).2.1 rfl, h4⟩, h.apart⟩
theorem FS.kept0 {w0 W W' : World} {bf bn n cn : Nat} {its : List ItemO} (h : FS w0 bf bn n cn its W) (k : KeptW [] W W') : FS w0 bf bn n cn its W' := h.kept' k fun b hb => by cases hb
theorem FS.cells {w0 W : World} {bf bn n cn i : Nat} {its : List ItemO} {x : ItemO} (h : FS w0 bf bn n cn its W) (hi : its[i]? = some x) :
    ∃ pb : Nat, x.p = .pointer (some ⟨pb, 0, none⟩) ∧ W.cell? ⟨bf, 1, none⟩ = some (.slice (some ⟨bn, 0, none⟩) n cn) ∧ W.cell? ⟨bn, i, none⟩ = some (.pointer (some ⟨pb, 0, none⟩)) := by
  obtain ⟨curf, curn, h1, h2, h3, h4⟩ := h.hdr
  obtain ⟨pb, hp, hc⟩ := h4 i x hi
  exact ⟨pb, hp, cell_of h1 h2, hp ▸ cell_of h3 hc⟩
theorem FS.cell1 {w0 W : World} {bf bn n cn : Nat} {its : List ItemO} (h : FS w0 bf bn n cn its W) : W.cell? ⟨bf, 1, none⟩ = some (.slice (some ⟨bn, 0, none⟩) n cn) := by
  obtain ⟨curf, curn, h1, h2, h3, h4⟩ := h.hdr
  exact cell_of h1 h2
theorem FS.call {w0 W : World} {bf bn n cn i : Nat} {its : List ItemO} {x : ItemO} (h : FS w0 bf bn n cn its W) (hi : its[i]? = some x) {f : FuncId} {fn : Func} {dv rv : List Value} {a' : AV}
    (hev : ev f (x.a :: dv.map AV.v) = some (rv.map AV.v ++ [a'])) (hfn : Try.prog.funcs[f]? = some fn) (hsz : fn.resultTypes.size = rv.length) (hok : ∀ v ∈ dv, okC (.v v) = true) (hfl : flatO a' = true) :
    Calls Try.prog f (x.p :: dv).toArray W fun e w' => e = .returned (retV rv) ∧ ∃ F', FS w0 bf bn n cn (its.set i ⟨x.p, F', a'⟩) w' := by
  obtain ⟨l1, l2, hl, hl1⟩ := split_at its i x hi
  have hset : ∀ y, its.set i y = l1 ++ y :: l2 := fun y => by rw [hl, ← hl1]; exact set_mid l1 l2 x y
  have hO : Owns mu0 W (x :: (l1 ++ l2)) := by
    have := h.own; rw [hl] at this
    exact this.perm List.perm_middle
  obtain ⟨hx1, hx2, hrest, hdis⟩ := hO.head
  have hfoot : ∀ b, b ∈ foot its ↔ b ∈ x.F ∨ b ∈ foot (l1 ++ l2) := fun b => by
    rw [hl, foot_app, foot_cons, foot_app]
    simp only [List.mem_append]
    constructor
    · rintro (h | h | h)
      · exact .inr (.inl h)
      · exact .inl h
      · exact .inr (.inr h)
    · rintro (h | h | h)
      · exact .inr (.inl h)
      · exact .inl h
      · exact .inr (.inr h)
  have hB : B2s mu0 (hf W) x.F [x.p] (x.a :: dv.map AV.v) (x.p :: dv) := by
    have := B2s.cons (F' := []) (G' := []) (B2.o hx1) (b2s_vals (μ := mu0) (hp := hf W) dv hok)
    rwa [List.append_nil, List.append_nil] at this
  refine (call_rest mix extOk hev hfn (mu0_imm W) hB hx2 hrest hdis).mono fun e w' he => ?_
  obtain ⟨ra, ro, vs, μ', F1, F2, G1, hrs, hra, rfl, hk, _, hi', hb1, hb2, hnd, hnew, _, hap, _⟩ := he
  obtain ⟨e1, e2⟩ := List.append_inj hrs (by rw [List.length_map, ← hsz, hra])
  subst e1 e2
  obtain ⟨rfl, rfl⟩ := b2s_vals_inv (F := F1) (G := G1) _ hb1
  obtain ⟨v, hv, hb⟩ := b1s_one hb2
  cases hv
  rw [List.nil_append] at hnd hnew hap
  refine ⟨rfl, F2, ?_⟩
  rw [hset]
  have hown : Owns mu0 w' (⟨x.p, F2, a'⟩ :: (l1 ++ l2)) := .cons (flatO_b1 hfl hb) hnd (hrest.kept hk (MuLe.refl _) mu0_new hdis) hap
  obtain ⟨curf, curn, h1, h2, h3, h4⟩ := h.hdr
  have hbf : bf ∉ x.F := fun e => (h.apart bf ((hfoot bf).2 (.inl e))).1 rfl
  have hbn : bn ∉ x.F := fun e => (h.apart bn ((hfoot bn).2 (.inl e))).2.1 rfl
  refine ⟨h.kept.trans hk fun b hb => .inr (h.apart b ((hfoot b).2 (.inl hb))).2.2, hown.perm List.perm_middle.symm, ⟨curf, curn, hk.get h1 hbf, h2, hk.get h3 hbn, fun k y hy => ?_⟩, fun b hb => ?_⟩
  · by_cases hki : k = i
    · subst hki
      obtain ⟨pb, hp, hc⟩ := h4 k x hi
      rw [← hl1, List.getElem?_append_right (Nat.le_refl _), Nat.sub_self] at hy
      simp at hy
      subst hy
      exact ⟨pb, hp, hc⟩
    · refine h4 k y ?_
      rw [← hset, List.getElem?_set_ne (fun e => hki e.symm)] at hy
      exact hy
  · rw [foot_app, foot_cons] at hb
    simp only [List.mem_append] at hb
    have hold : b ∈ foot its → b ≠ bf ∧ b ≠ bn ∧ w0.heap.size ≤ b := h.apart b
    have hm : b ∈ foot l1 ∨ b ∈ foot l2 → b ∈ foot its := fun h => (hfoot b).2 (.inr (by rw [foot_app]; exact List.mem_append.2 h))
    rcases hb with hb | hb | hb
    · exact hold (hm (.inl hb))
    · rcases hnew b hb with hb | hb
      · exact hold ((hfoot b).2 (.inl hb))
      · have g1 := (Array.getElem?_eq_some_iff.1 h1).1
        have g2 := (Array.getElem?_eq_some_iff.1 h3).1
        have := h.kept.size
        exact ⟨by omega, by omega, by omega⟩
    · exact hold (hm (.inr hb))
end Go.Proofs.Ytnjccbnlmdajkaa
