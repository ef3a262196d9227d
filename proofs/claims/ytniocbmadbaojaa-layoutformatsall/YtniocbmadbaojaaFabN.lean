/- fabric.New: what it makes. -/
import Derived.Test.YtniocbmadbaojaaFabS
import Derived.Test.YtniocbmadbaojaaFabL
import Derived.Test.YtniocbmadbaojaaEq6
set_option linter.all false
namespace Go.Proofs.Ytniocbmadbaojaa
open Go.RowKit Go.Shelf Go.Lib Go.Ev
theorem kept_cell {D : List Nat} {a b : World} (h : KeptW D a b) {x j : Nat} {v : Value} (hx : a.cell? ⟨x, j, none⟩ = some v) (hd : x ∉ D) : b.cell? ⟨x, j, none⟩ = some v := by
  cases e : a.heap[x]? with
  | none => simp [World.cell?, e] at hx
  | some o =>
    have := h.get e hd
    rw [← hx]
    simp only [World.cell?, e, this]
structure CS (w0 : World) (bf bc nc bn n cn : Nat) (its : List ItemO) (W : World) : Prop where
  fs : FS w0 bf bn n cn its W
  bcs : ∃ cur : Array Value, W.heap[bc]? = some (.cells cur 83 (0, 0)) ∧ cur.size = nc * 7
  bfs : W.cell? ⟨bf, 2, none⟩ = some (.slice (some ⟨bc, 0, none⟩) nc nc)
  ne : bc ≠ bf ∧ bc ≠ bn ∧ w0.heap.size ≤ bc ∧ bc ∉ foot its
theorem CS.kept {w0 W W' : World} {bf bc nc bn n cn : Nat} {its : List ItemO} {D : List Nat} (h : CS w0 bf bc nc bn n cn its W) (k : KeptW D W W') (hd : ∀ b ∈ D, b ≠ bf ∧ b ≠ bn ∧ b ∉ foot its ∧ w0.heap.size ≤ b ∧ b ≠ bc) : CS w0 bf bc nc bn n cn its W' := by
  obtain ⟨cur, h1, h2⟩ := h.bcs
  exact ⟨h.fs.kept' k fun b hb => ⟨(hd b hb).1, (hd b hb).2.1, (hd b hb).2.2.1, (hd b hb).2.2.2.1⟩, ⟨cur, k.get h1 fun e => (hd _ e).2.2.2.2 rfl, h2⟩, kept_cell k h.bfs fun e => (hd _ e).1 rfl, h.ne⟩
theorem CS.set {w0 W : World} {bf bc nc bn n cn j : Nat} {its : List ItemO} {v : Value} (h : CS w0 bf bc nc bn n cn its W) (hj : j < nc * 7) :
    CS w0 bf bc nc bn n cn its (W.setCell ⟨bc, j, none⟩ v) ∧ W.frozen? ⟨bc, j, none⟩ = false ∧ (∃ x, W.cell? ⟨bc, j, none⟩ = some x) ∧ (W.setCell ⟨bc, j, none⟩ v).cell? ⟨bc, j, none⟩ = some v ∧ KeptW [bc] W (W.setCell ⟨bc, j, none⟩ v) := by
  obtain ⟨cur, h1, h2⟩ := h.bcs
  obtain ⟨k, hk⟩ := KeptW.set (j := j) (v := v) h1
  refine ⟨⟨h.fs.kept' k fun b hb => ?_, ⟨_, hk, by rw [Array.size_setIfInBounds]; exact h2⟩, kept_cell k h.bfs (by simp [h.ne.1.symm]), h.ne⟩, frozen_of h1 j, ⟨cur[j], cell_of h1 (Array.getElem?_eq_getElem (by omega))⟩, cell_of hk (by rw [Array.getElem?_setIfInBounds, if_pos rfl, if_pos (by omega)]), k⟩
  simp only [List.mem_singleton] at hb
  subst hb
  exact ⟨h.ne.1, h.ne.2.1, h.ne.2.2.2, h.ne.2.2.1⟩
theorem inf89 : (Try.prog.info? 89).map (fun i => (i.zero, i.size, i.bytes)) = some (some (.agg #[.pointer none, .slice none 0 0]), 2, 32) := by kernel_rfl
theorem inf37 : (Try.prog.info? 37).map (fun i => (i.zero, i.size, i.bytes)) = some (some (.pointer none), 1, 8) := by kernel_rfl
theorem inf83 : (Try.prog.info? 83).map (fun i => (i.zero, i.size, i.bytes)) = some (some (.agg #[.bool false, .int .i64 0, .slice none 0 0, .slice none 0 0, .int .i64 0, .int .i64 0, .int .i64 0]), 7, 88) := by kernel_rfl
theorem und80 : Try.prog.underlying 80 = some (.slice 89) := by kernel_rfl
theorem und70 : Try.prog.underlying 70 = some (.slice 37) := by kernel_rfl
theorem und69 : Try.prog.underlying 69 = some (.slice 83) := by kernel_rfl
theorem info_parts {t : Nat} {z : Value} {s b : Nat} (h : (Try.prog.info? t).map (fun i => (i.zero, i.size, i.bytes)) = some (some z, s, b)) : ∃ I : TypeInfo, Try.prog.info? t = some I ∧ I.zero = some z ∧ I.size = s ∧ I.bytes = b := by
  cases hi : Try.prog.info? t with
  | none => rw [hi] at h; cases h
  | some I =>
    rw [hi] at h
    simp only [Option.map_some, Option.some.injEq, Prod.mk.injEq] at h
    exact ⟨I, rfl, h.1, h.2.1, h.2.2⟩
theorem call_mk {f : FuncId} {fn : Func} {dv : List Value} {ty : Nat} {cs : List AV} {x : Value} (hev : ev f (dv.map AV.v) = some [.ob ty cs, .v x]) (hfn : Try.prog.funcs[f]? = some fn) (hsz : fn.resultTypes.size = 2) (hok : ∀ v ∈ dv, okC (.v v) = true) (hfl : flatO (.ob ty cs) = true)
    (W : World) {its : List ItemO} (hO : Owns mu0 W its) : Calls Try.prog f dv.toArray W fun e w' => ∃ (pb : Nat) (F : List Nat), e = .returned (.tuple #[.pointer (some ⟨pb, 0, none⟩), x]) ∧ KeptW [] W w' ∧ B1 mu0 (hf w') F [.pointer (some ⟨pb, 0, none⟩)] (.ob ty cs) (.pointer (some ⟨pb, 0, none⟩)) ∧ F.Nodup ∧ ∀ b ∈ F, W.heap.size ≤ b := by
  refine (call_rest mix extOk hev hfn (mu0_imm W) (b2s_vals dv hok) List.nodup_nil hO (fun b hb => by cases hb)).mono fun e w' he => ?_
  obtain ⟨ra, ro, vs, μ', F1, F2, G1, hrs, hra, rfl, hk, _, hi', hb1, hb2, hnd, hnew, _, hap, _⟩ := he
  obtain ⟨rfl, rfl⟩ := b1s_nil hb2 rfl
  rw [List.append_nil] at hrs hnd hnew
  subst hrs
  obtain ⟨Fa, Fb, Ga, Gb, v, vs', rfl, rfl, rfl, hv, hr⟩ := b2s_cons hb1
  obtain ⟨u, rfl, hu⟩ := b2s_one hr
  obtain ⟨rfl, rfl, rfl⟩ := b2_v hu
  rw [List.append_nil] at hnd hnew
  cases hv with
  | o hv =>
    have hfl' := flatO_b1 hfl hv
    cases hfl' with
    | c h => cases h with | d h => cases h
    | @ob b _ F _ cur h1 h2 h3 =>
      exact ⟨b, b :: F, rfl, hk, .ob h1 h2 h3, hnd, fun x hx => (hnew x hx).resolve_left List.not_mem_nil⟩
def CJ (w0 : World) (bf bc nc bn n cn : Nat) (its : List ItemO) (client i : Nat) (W : World) : Prop :=
  CS w0 bf bc nc bn n cn its W ∧ ∃ (A : Option Addr) (l c : Nat) (lcur : Array Value), W.cell? ⟨bc, client * 7 + 2, none⟩ = some (.slice A l c) ∧ l = i ∧
    ((A = none ∧ l = 0 ∧ c = 0) ∨ ∃ b, A = some ⟨b, 0, none⟩ ∧ l ≤ c ∧ W.heap[b]? = some (.cells lcur 89 (0, 0)) ∧ lcur.size = c * 2) ∧ ∀ b, A = some ⟨b, 0, none⟩ → b ≠ bf ∧ b ≠ bn ∧ b ∉ foot its ∧ w0.heap.size ≤ b ∧ b ≠ bc
theorem ev64_ok {c k i : Int} (hc : 0 ≤ c ∧ c < 6) (hk : 0 ≤ k ∧ k ≤ 59) (hi : 0 ≤ i ∧ i < 5) : ev 64 [.v (.int .i64 c), .v (.int .i64 k), .v (.int .i64 i)] = some [.ob 96 [.v (.int .i64 c), .v (.int .i64 k), .v (.int .i64 i), .ow true 116 9 [], .v (.int .i64 0), .ow true 29 1 []], .v (.int .i64 0)] := by
  rw [ev64, ltI_f (by omega), leI_f (by omega), ltI_f (by omega), ltI_f (by omega), ltI_f (by omega), leI_f (by omega)]; rfl
theorem cj_step {w0 W : World} {bf bc nc bn n cn client i : Nat} {inc : Int} {its : List ItemO} (hcl : client < nc) (hc6 : client < 6) (hinc : 0 ≤ inc ∧ inc ≤ 59) (hi5 : i < 5) (h : CJ w0 bf bc nc bn n cn its client i W) :
    Calls Try.prog 64 #[.int .i64 client, .int .i64 inc, .int .i64 i] W (CnPost client bc (CJ w0 bf bc nc bn n cn its client (i + 1))) := by
  obtain ⟨hC, A, l, c, lcur, hcell, rfl, hA, hAf⟩ := h
  have hev := ev64_ok (c := client) (k := inc) (i := l) ⟨by omega, by omega⟩ hinc ⟨by omega, by omega⟩
  refine (call_mk (dv := [.int .i64 client, .int .i64 inc, .int .i64 l]) hev Try.func64 (by kernel_rfl) (fun v hv => ?_) rfl W hC.fs.own).mono fun e w' he => ?_
  · simp only [List.mem_cons, List.not_mem_nil, or_false] at hv
    rcases hv with rfl | rfl | rfl <;> rfl
  obtain ⟨pb, F, rfl, hk, _⟩ := he
  have hk1 := KeptW.alloc w' (.cells #[.pointer (some ⟨pb, 0, none⟩), .slice none 0 0] 89)
  have hkk := hk.trans hk1 fun x hx => by cases hx
  obtain ⟨I, hI, hIz, hIs, hIb⟩ := info_parts inf89
  have hpos := hC.fs.kept.size
  have hA1 : (A = none ∧ l = 0 ∧ c = 0) ∨ ∃ b, A = some ⟨b, 0, none⟩ ∧ l ≤ c ∧ (w'.alloc (.cells #[.pointer (some ⟨pb, 0, none⟩), .slice none 0 0] 89)).heap[b]? = some (.cells lcur 89 (0, 0)) ∧ lcur.size = c * 2 := by
    rcases hA with h | ⟨b, h1, h2, h3, h4⟩
    · exact .inl h
    · exact .inr ⟨b, h1, h2, hkk.get h3 List.not_mem_nil, h4⟩
  obtain ⟨B, c', W4, cur', hrun, hk4, hB, hBs, hlc, hBA, _, _⟩ := app_raw (P := Try.prog) und80 hI hIz hIs (by omega) (by omega) rfl (l := l) (by omega) hA1 (Ev.alloc_new w' _) rfl (fun v hv => by
    simp only [List.mem_cons, List.not_mem_nil, or_false] at hv
    rcases hv with rfl | rfl <;> rfl)
  have hw' : W.heap.size ≤ (w'.alloc (.cells #[.pointer (some ⟨pb, 0, none⟩), .slice none 0 0] 89)).heap.size := hkk.size
  have hC1 := hC.kept hkk fun b hb => by cases hb
  have hBf : B ≠ bf ∧ B ≠ bn ∧ B ∉ foot its ∧ w0.heap.size ≤ B ∧ B ≠ bc := by
    rcases hBA with h | h
    · exact hAf B h
    · obtain ⟨curf, curn, g1, _, g3, _⟩ := hC.fs.hdr
      obtain ⟨cc, g5, _⟩ := hC.bcs
      have g1 := (Array.getElem?_eq_some_iff.1 g1).1
      have g3 := (Array.getElem?_eq_some_iff.1 g3).1
      have g5 := (Array.getElem?_eq_some_iff.1 g5).1
      exact ⟨by omega, by omega, fun hm => by have := (hC.fs.own.own B hm).2; omega, by omega, by omega⟩
  have hC4 := hC1.kept hk4 fun b hb => by simp only [List.mem_singleton] at hb; subst hb; exact hBf
  have hj : client * 7 + 2 < nc * 7 := by omega
  obtain ⟨hC5, hf, hx, hcv, hk5⟩ := hC4.set (j := client * 7 + 2) (v := .slice (some ⟨B, 0, none⟩) (l + 1) c') hj
  exact ⟨pb, 0, A, l, c, B, c', W4, rfl, kept_cell hk hcell List.not_mem_nil, hrun, hf, hx, hC5, _, _, _, cur', hcv, rfl, .inr ⟨B, rfl, hlc, hk5.get hB (by simp [hBf.2.2.2.2]), hBs⟩, fun b hb => by cases hb; exact hBf⟩
theorem connect_ok {w0 W : World} {bf bc nc bn n cn client : Nat} {inc : Int} {its : List ItemO} (hcl : client < nc) (hc6 : client < 6) (hinc : 0 ≤ inc ∧ inc ≤ 59) (hn5 : n ≤ 5) (h : CS w0 bf bc nc bn n cn its W) :
    Calls Try.prog 56 #[.pointer (some ⟨bf, 0, none⟩), .int .i64 client, .int .i64 inc] W fun e w' => e = .returned (.tuple #[]) ∧ CS w0 bf bc nc bn n cn its w' := by
  have j0 : client * 7 < nc * 7 := by omega
  have j1 : client * 7 + 1 < nc * 7 := by omega
  have j2 : client * 7 + 2 < nc * 7 := by omega
  obtain ⟨h1, f0, c0, _, _⟩ := h.set (v := .bool true) j0
  obtain ⟨h2, f1, c1, _, _⟩ := h1.set (v := .int .i64 inc) j1
  obtain ⟨h3, f2, c2, cv, _⟩ := h2.set (v := .slice none 0 0) j2
  refine (connect_walk bf bc client nc nc n cn (some ⟨bn, 0, none⟩) inc W _ _ _ (CJ w0 bf bc nc bn n cn its client) (by omega) h.bfs hcl rfl rfl rfl f0 f1 f2 c0 c1 c2 h3.fs.cell1 ⟨h3, none, 0, 0, #[], cv, rfl, .inl ⟨rfl, rfl, rfl⟩, fun b hb => by cases hb⟩ (fun i V hi hJ => cj_step hcl hc6 hinc (by omega) hJ)).mono fun e w' he => ⟨he.1, he.2.1⟩
end Go.Proofs.Ytniocbmadbaojaa
