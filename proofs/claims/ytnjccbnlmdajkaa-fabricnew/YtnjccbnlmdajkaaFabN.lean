/- fabric.New: what it makes. -/
import Derived.Test.YtnjccbnlmdajkaaFabS
import Derived.Test.YtnjccbnlmdajkaaFabW
set_option linter.all false
namespace Go.Proofs.Ytnjccbnlmdajkaa
open Go.RowKit Go.Shelf Go.Lib Go.Ev
theorem kept_cell {D : List Nat} {a b : World} (h : KeptW D a b) {x j : Nat} {v : Value} (hx : a.cell? ⟨x, j, none⟩ = some v) (hd : x ∉ D) : b.cell? ⟨x, j, none⟩ = some v := by
  cases e : a.heap[x]? with
  | none => simp [World.cell?, e] at hx
  | some o =>
    have := h.get e hd
    rw [← hx]
    simp only [World.cell?, e, this]
structure CS (w0 : World) (ln : Int) (bf bc nc k bn n cn : Nat) (its : List ItemO) (W : World) : Prop where
  fs : FS w0 bf bn n cn its W
  bcs : ∃ cur : Array Value, W.heap[bc]? = some (.cells cur 74 (0, 0)) ∧ cur.size = nc * 7 ∧ (∀ c, c < k → cur[c * 7]? = some (.bool true) ∧ cur[c * 7 + 1]? = some (.int .i64 1)) ∧
    ∀ c, c < nc → cur[c * 7 + 3]? = some (.slice none 0 0) ∧ cur[c * 7 + 4]? = some (.int .i64 0) ∧ cur[c * 7 + 5]? = some (.int .i64 0) ∧ cur[c * 7 + 6]? = some (.int .i64 0)
  bfs : W.cell? ⟨bf, 2, none⟩ = some (.slice (some ⟨bc, 0, none⟩) nc nc)
  lin : W.cell? ⟨bf, 0, none⟩ = some (.int .i64 ln) ∧ W.cell? ⟨bf, 3, none⟩ = some (.slice none 0 0)
  ne : bc ≠ bf ∧ bc ≠ bn ∧ w0.heap.size ≤ bc ∧ bc ∉ foot its
  bnw : w0.heap.size ≤ bn
theorem CS.kept {w0 W W' : World} {ln : Int} {bf bc nc k bn n cn : Nat} {its : List ItemO} {D : List Nat} (h : CS w0 ln bf bc nc k bn n cn its W) (kk : KeptW D W W') (hd : ∀ b ∈ D, b ≠ bf ∧ b ≠ bn ∧ b ∉ foot its ∧ w0.heap.size ≤ b ∧ b ≠ bc) : CS w0 ln bf bc nc k bn n cn its W' := by
  obtain ⟨cur, h1, h2, h3, h4⟩ := h.bcs
  exact ⟨h.fs.kept' kk fun b hb => ⟨(hd b hb).1, (hd b hb).2.1, (hd b hb).2.2.1, (hd b hb).2.2.2.1⟩, ⟨cur, kk.get h1 fun e => (hd _ e).2.2.2.2 rfl, h2, h3, h4⟩, kept_cell kk h.bfs fun e => (hd _ e).1 rfl, ⟨kept_cell kk h.lin.1 fun e => (hd _ e).1 rfl, kept_cell kk h.lin.2 fun e => (hd _ e).1 rfl⟩, h.ne, h.bnw⟩
theorem CS.set {w0 W : World} {ln : Int} {bf bc nc k bn n cn j : Nat} {its : List ItemO} {v : Value} (h : CS w0 ln bf bc nc k bn n cn its W) (hj : j < nc * 7) (hr : j % 7 ≤ 2) (hkj : k * 7 ≤ j) :
    CS w0 ln bf bc nc k bn n cn its (W.setCell ⟨bc, j, none⟩ v) ∧ W.frozen? ⟨bc, j, none⟩ = false ∧ (∃ x, W.cell? ⟨bc, j, none⟩ = some x) ∧ (W.setCell ⟨bc, j, none⟩ v).cell? ⟨bc, j, none⟩ = some v ∧ KeptW [bc] W (W.setCell ⟨bc, j, none⟩ v) ∧ ∀ j', j' ≠ j → (W.setCell ⟨bc, j, none⟩ v).cell? ⟨bc, j', none⟩ = W.cell? ⟨bc, j', none⟩ := by
  obtain ⟨cur, h1, h2, h3, h4⟩ := h.bcs
  obtain ⟨kk, hk⟩ := KeptW.set (j := j) (v := v) h1
  have ho : ∀ j', j' ≠ j → (cur.setIfInBounds j v)[j']? = cur[j']? := fun j' hj' => by rw [Array.getElem?_setIfInBounds, if_neg (fun e => hj' e.symm)]
  refine ⟨⟨h.fs.kept' kk fun b hb => ?_, ⟨_, hk, by rw [Array.size_setIfInBounds]; exact h2, fun c hc => ?_, fun c hc => ?_⟩, kept_cell kk h.bfs (by simp [h.ne.1.symm]), ⟨kept_cell kk h.lin.1 (by simp [h.ne.1.symm]), kept_cell kk h.lin.2 (by simp [h.ne.1.symm])⟩, h.ne, h.bnw⟩, frozen_of h1 j, ⟨cur[j], cell_of h1 (Array.getElem?_eq_getElem (by omega))⟩, cell_of hk (by rw [Array.getElem?_setIfInBounds, if_pos rfl, if_pos (by omega)]), kk, fun j' hj' => ?_⟩
  · simp only [List.mem_singleton] at hb
    subst hb
    exact ⟨h.ne.1, h.ne.2.1, h.ne.2.2.2, h.ne.2.2.1⟩
  · rw [ho _ (by omega), ho _ (by omega)]; exact h3 c hc
  · rw [ho _ (by omega), ho _ (by omega), ho _ (by omega), ho _ (by omega)]; exact h4 c hc
  · simp only [World.cell?, hk, h1, Option.isSome_none, Bool.false_eq_true, if_false]
    exact ho j' hj'
theorem inf89 : (Try.prog.info? 82).map (fun i => (i.zero, i.size, i.bytes)) = some (some (.agg #[.pointer none, .slice none 0 0]), 2, 32) := by kernel_rfl
theorem inf37 : (Try.prog.info? 28).map (fun i => (i.zero, i.size, i.bytes)) = some (some (.pointer none), 1, 8) := by kernel_rfl
theorem inf83 : (Try.prog.info? 74).map (fun i => (i.zero, i.size, i.bytes)) = some (some (.agg #[.bool false, .int .i64 0, .slice none 0 0, .slice none 0 0, .int .i64 0, .int .i64 0, .int .i64 0]), 7, 88) := by kernel_rfl
theorem und80 : Try.prog.underlying 72 = some (.slice 82) := by kernel_rfl
theorem und70 : Try.prog.underlying 59 = some (.slice 28) := by kernel_rfl
theorem und69 : Try.prog.underlying 58 = some (.slice 74) := by kernel_rfl
theorem info_parts {t : Nat} {z : Value} {s b : Nat} (h : (Try.prog.info? t).map (fun i => (i.zero, i.size, i.bytes)) = some (some z, s, b)) : ∃ I : TypeInfo, Try.prog.info? t = some I ∧ I.zero = some z ∧ I.size = s ∧ I.bytes = b := by
  cases hi : Try.prog.info? t with
  | none => rw [hi] at h; cases h
  | some I =>
    rw [hi] at h
    simp only [Option.map_some, Option.some.injEq, Prod.mk.injEq] at h
    exact ⟨I, rfl, h.1, h.2.1, h.2.2⟩
theorem call_mk {f : FuncId} {fn : Func} {dv : List Value} {ty : Nat} {cs : List AV} {x : Value} (hev : ev f (dv.map AV.v) = some [.ob ty cs, .v x]) (hfn : Try.prog.funcs[f]? = some fn) (hsz : fn.resultTypes.size = 2) (hok : ∀ v ∈ dv, okC (.v v) = true) (hfl : flatO (.ob ty cs) = true)
    (W : World) {its : List ItemO} (hO : Owns mu0 W its) : Calls Try.prog f dv.toArray W fun e w' => ∃ (pb : Nat) (F : List Nat), e = .returned (.tuple #[.pointer (some ⟨pb, 0, none⟩), x]) ∧ KeptW [] W w' ∧ B1 mu0 (hf w') F [.pointer (some ⟨pb, 0, none⟩)] (.ob ty cs) (.pointer (some ⟨pb, 0, none⟩)) ∧ F.Nodup ∧ ∀ b ∈ F, W.heap.size ≤ b := by
  refine (call_rest mix extOk hev hfn (mu0_imm W) (b2s_vals dv hok) List.nodup_nil hO (fun b hb => by cases hb)).mono fun e w' he => ?_
  obtain ⟨ra, ro, vs, μ', F1, F2, G1, hrs, hra, rfl, hk, _, hi', hb1, hb2, hnd, hnew, _, hap, _⟩ := he
  obtain ⟨rfl, rfl⟩ := Go.Ev.b1s_nil hb2 rfl
  rw [List.append_nil] at hrs hnd hnew
  subst hrs
  obtain ⟨Fa, Fb, Ga, Gb, v, vs', rfl, rfl, rfl, hv, hr⟩ := b2s_cons hb1
  obtain ⟨u, rfl, hu⟩ := Go.Ev.b2s_one hr
  obtain ⟨rfl, rfl, rfl⟩ := b2_v hu
  rw [List.append_nil] at hnd hnew
  cases hv with
  | o hv =>
    have hfl' := flatO_b1 hfl hv
    cases hfl' with
    | c h => cases h with | d h => cases h
    | @ob b _ F _ cur h1 h2 h3 =>
      exact ⟨b, b :: F, rfl, hk, .ob h1 h2 h3, hnd, fun x hx => (hnew x hx).resolve_left List.not_mem_nil⟩
end Go.Proofs.Ytnjccbnlmdajkaa
