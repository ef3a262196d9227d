/- connect: the lanes that it makes. -/
import Derived.Test.YtnjccbnlmdajkaaFabN
set_option linter.all false
namespace Go.Proofs.Ytnjccbnlmdajkaa
open Go.RowKit Go.Shelf Go.Lib Go.Ev
abbrev pr0 (c i : Nat) : AV := .ob 99 [.v (.int .i64 c), .v (.int .i64 1), .v (.int .i64 i), .ow true 50 9 [], .v (.int .i64 0), .ow true 47 1 []]
structure CJ (w0 : World) (ln : Int) (bf bc nc k bn n cn : Nat) (its : List ItemO) (i : Nat) (W : World) : Prop where
  cs : CS w0 ln bf bc nc k bn n cn its W
  alive : W.cell? ⟨bc, k * 7, none⟩ = some (.bool true)
  inc : W.cell? ⟨bc, k * 7 + 1, none⟩ = some (.int .i64 1)
  ex : ∃ (A : Option Addr) (l c : Nat) (lcur : Array Value) (prs : List ItemO), W.cell? ⟨bc, k * 7 + 2, none⟩ = some (.slice A l c) ∧ l = i ∧
    ((A = none ∧ l = 0 ∧ c = 0) ∨ ∃ b, A = some ⟨b, 0, none⟩ ∧ l ≤ c ∧ W.heap[b]? = some (.cells lcur 82 (0, 0)) ∧ lcur.size = c * 2) ∧
    (∀ b, A = some ⟨b, 0, none⟩ → b ≠ bf ∧ b ≠ bn ∧ b ∉ foot its ∧ w0.heap.size ≤ b ∧ b ≠ bc ∧ b ∉ foot prs) ∧
    Owns mu0 W (its ++ prs) ∧ prs.map ItemO.a = (List.range i).map (fun j => pr0 k j) ∧ (∀ b ∈ foot prs, b ≠ bf ∧ b ≠ bn ∧ b ≠ bc ∧ w0.heap.size ≤ b) ∧
    ∀ (j : Nat) (x : ItemO), prs[j]? = some x → ∃ pb : Nat, x.p = .pointer (some ⟨pb, 0, none⟩) ∧ lcur[j * 2]? = some x.p ∧ lcur[j * 2 + 1]? = some (.slice none 0 0)
theorem ev51_ok {c i : Nat} (hc : c < 6) (hi : i < 5) : ev 51 ([.int .i64 (c : Int), .int .i64 1, .int .i64 (i : Int)].map AV.v) = some [pr0 c i, .v (.int .i64 0)] := by
  show ev 51 [.v (.int .i64 (c : Int)), .v (.int .i64 1), .v (.int .i64 (i : Int))] = _
  rw [ev51, ltI_f (by omega), leI_f (by omega), ltI_f (by omega), ltI_f (by omega), ltI_f (by omega), leI_f (by omega)]; rfl
theorem foot_in_app {a b : List ItemO} {x : Nat} : x ∈ foot (a ++ b) ↔ x ∈ foot a ∨ x ∈ foot b := by rw [foot_app, List.mem_append]
theorem cj_step {w0 W : World} {ln : Int} {bf bc nc k bn n cn i : Nat} {its : List ItemO} (hcl : k < nc) (hc6 : k < 6) (hi5 : i < 5) (h : CJ w0 ln bf bc nc k bn n cn its i W) :
    Calls Try.prog 51 #[.int .i64 k, .int .i64 1, .int .i64 i] W (CnPost k bc (CJ w0 ln bf bc nc k bn n cn its (i + 1))) := by
  obtain ⟨hC, hal, hinc, A, l, c, lcur, prs, hcell, rfl, hA, hAf, hO, hmap, hfr, hpt⟩ := h
  refine (call_mk (dv := [.int .i64 k, .int .i64 1, .int .i64 l]) (ev51_ok hc6 hi5) Try.func51 (by kernel_rfl) (fun v hv => ?_) rfl W hO).mono fun e w' he => ?_
  · simp only [List.mem_cons, List.not_mem_nil, or_false] at hv
    rcases hv with rfl | rfl | rfl <;> rfl
  obtain ⟨pb, F, rfl, hk, hob, hnd, hnew⟩ := he
  have hk1 := KeptW.alloc w' (.cells #[.pointer (some ⟨pb, 0, none⟩), .slice none 0 0] 82)
  have hkk := hk.trans hk1 fun x hx => by cases hx
  obtain ⟨I, hI, hIz, hIs, hIb⟩ := info_parts inf89
  have hpos := hC.fs.kept.size
  have hA1 : (A = none ∧ l = 0 ∧ c = 0) ∨ ∃ b, A = some ⟨b, 0, none⟩ ∧ l ≤ c ∧ (w'.alloc (.cells #[.pointer (some ⟨pb, 0, none⟩), .slice none 0 0] 82)).heap[b]? = some (.cells lcur 82 (0, 0)) ∧ lcur.size = c * 2 := by
    rcases hA with h | ⟨b, h1, h2, h3, h4⟩
    · exact .inl h
    · exact .inr ⟨b, h1, h2, hkk.get h3 List.not_mem_nil, h4⟩
  obtain ⟨B, c', W4, cur', hrun, hk4, hB, hBs, hlc, hBA, hold, hnew1⟩ := app_raw (P := Try.prog) und80 hI hIz hIs (by omega) (by omega) rfl (l := l) (by omega) hA1 (Ev.alloc_new w' _) rfl (fun v hv => by
    simp only [List.mem_cons, List.not_mem_nil, or_false] at hv
    rcases hv with rfl | rfl <;> rfl)
  have hk1s : (w'.alloc (.cells #[.pointer (some ⟨pb, 0, none⟩), .slice none 0 0] 82)).heap.size = w'.heap.size + 1 := by show (w'.heap.push _).size = _; rw [Array.size_push]
  have hksz := hk.size
  have hobl := hob.ownd
  have hFl : ∀ b ∈ F, b < w'.heap.size := fun b hb => by obtain ⟨_, o, ho⟩ := hobl b hb; exact (Array.getElem?_eq_some_iff.1 ho).1
  have hC1 := hC.kept hkk fun b hb => by cases hb
  obtain ⟨curf, curn, g1, _, g3, _⟩ := hC.fs.hdr
  obtain ⟨cc, g5, _⟩ := hC.bcs
  have g1 := (Array.getElem?_eq_some_iff.1 g1).1
  have g3 := (Array.getElem?_eq_some_iff.1 g3).1
  have g5 := (Array.getElem?_eq_some_iff.1 g5).1
  have hBf : B ≠ bf ∧ B ≠ bn ∧ B ∉ foot its ∧ w0.heap.size ≤ B ∧ B ≠ bc ∧ B ∉ foot prs ∧ B ∉ F := by
    rcases hBA with h | h
    · obtain ⟨q1, q2, q3, q4, q5, q6⟩ := hAf B h
      refine ⟨q1, q2, q3, q4, q5, q6, fun hm => ?_⟩
      rcases hA with ⟨h0, _⟩ | ⟨b, h1, _, h3, _⟩
      · rw [h0] at h; cases h
      · rw [h1] at h; cases h
        have := (Array.getElem?_eq_some_iff.1 h3).1
        have := hnew B hm
        omega
    · exact ⟨by omega, by omega, fun hm => by have := (hC.fs.own.own B hm).2; omega, by omega, by omega, fun hm => by have := (hO.own B (foot_in_app.2 (.inr hm))).2; omega, fun hm => by have := hFl B hm; omega⟩
  have hC4 := hC1.kept hk4 fun b hb => by simp only [List.mem_singleton] at hb; subst hb; exact ⟨hBf.1, hBf.2.1, hBf.2.2.1, hBf.2.2.2.1, hBf.2.2.2.2.1⟩
  have hj : k * 7 + 2 < nc * 7 := by omega
  obtain ⟨hC5, hf, hx, hcv, hk5, hoth⟩ := hC4.set (j := k * 7 + 2) (v := .slice (some ⟨B, 0, none⟩) (l + 1) c') hj (by omega) (by omega)
  have hkB : bc ∉ ([B] : List Nat) := by simp only [List.mem_singleton]; exact fun e => hBf.2.2.2.2.1 e.symm
  have h4c : ∀ j v, W.cell? ⟨bc, j, none⟩ = some v → W4.cell? ⟨bc, j, none⟩ = some v := fun j v hv => kept_cell hk4 (kept_cell hkk hv List.not_mem_nil) hkB
  have hO1 : Owns mu0 w' (its ++ (prs ++ [⟨.pointer (some ⟨pb, 0, none⟩), F, pr0 k l⟩])) := by
    rw [← List.append_assoc]
    refine (Owns.cons (x := ⟨.pointer (some ⟨pb, 0, none⟩), F, pr0 k l⟩) hob hnd (hO.kept hk (MuLe.refl _) mu0_new fun b hb => by cases hb) fun b hb hm => ?_).perm (List.perm_append_comm (l₁ := [_]))
    have := hnew b hb
    have := (hO.own b hm).2
    omega
  have hfoot : ∀ b, b ∈ foot (prs ++ [(⟨.pointer (some ⟨pb, 0, none⟩), F, pr0 k l⟩ : ItemO)]) → b ∈ foot prs ∨ b ∈ F := fun b hb => by
    rw [foot_app] at hb
    simpa [foot] using hb
  have hO5 := ((hO1.kept hk1 (MuLe.refl _) mu0_new fun b hb => by cases hb).kept hk4 (MuLe.refl _) mu0_new fun b hb hm => by
    simp only [List.mem_singleton] at hb; subst hb
    rcases foot_in_app.1 hm with hm | hm
    · exact hBf.2.2.1 hm
    · exact (hfoot _ hm).elim hBf.2.2.2.2.2.1 hBf.2.2.2.2.2.2).kept hk5 (MuLe.refl _) mu0_new fun b hb hm => by
    simp only [List.mem_singleton] at hb; subst hb
    rcases foot_in_app.1 hm with hm | hm
    · exact hC.ne.2.2.2 hm
    · rcases hfoot _ hm with hm | hm
      · exact (hfr _ hm).2.2.1 rfl
      · have := hnew _ hm; omega
  have hlen : prs.length = l := by have := congrArg List.length hmap; simpa using this
  refine ⟨pb, 0, A, l, c, B, c', W4, rfl, kept_cell hk hcell List.not_mem_nil, hrun, hf, hx, hC5, ?_, ?_, some ⟨B, 0, none⟩, l + 1, c', cur', prs ++ [⟨.pointer (some ⟨pb, 0, none⟩), F, pr0 k l⟩], hcv, rfl, .inr ⟨B, rfl, hlc, hk5.get hB (by simp only [List.mem_singleton]; exact hBf.2.2.2.2.1), hBs⟩, ?_, hO5, ?_, ?_, ?_⟩
  · rw [hoth _ (by omega)]; exact h4c _ _ hal
  · rw [hoth _ (by omega)]; exact h4c _ _ hinc
  · intro b hb
    cases hb
    exact ⟨hBf.1, hBf.2.1, hBf.2.2.1, hBf.2.2.2.1, hBf.2.2.2.2.1, fun hm => (hfoot _ hm).elim hBf.2.2.2.2.2.1 hBf.2.2.2.2.2.2⟩
  · rw [List.map_append, hmap, List.range_succ, List.map_append]; rfl
  · intro b hb
    rcases hfoot b hb with hb | hb
    · exact hfr b hb
    · have := hnew b hb; exact ⟨by omega, by omega, by omega, by omega⟩
  · intro j x hx
    by_cases hkl : j < prs.length
    · rw [List.getElem?_append_left hkl] at hx
      obtain ⟨p, q1, q2, q3⟩ := hpt j x hx
      exact ⟨p, q1, by rw [← q2]; exact hold _ (by omega), by rw [← q3]; exact hold _ (by omega)⟩
    · have hke : j = prs.length := by
        have := (List.getElem?_eq_some_iff.1 hx).1
        simp at this; omega
      subst hke
      rw [List.getElem?_append_right (Nat.le_refl _), Nat.sub_self] at hx
      simp at hx
      subst hx
      have q0 := hnew1 0 (by decide)
      have q1 := hnew1 1 (by decide)
      rw [hlen]
      exact ⟨pb, rfl, by simpa using q0, by simpa using q1⟩
theorem connect_ok {w0 W : World} {ln : Int} {bf bc nc k bn n cn : Nat} {its : List ItemO} (hcl : k < nc) (hc6 : k < 6) (hn5 : n ≤ 5) (h : CS w0 ln bf bc nc k bn n cn its W) :
    Calls Try.prog 32 #[.pointer (some ⟨bf, 0, none⟩), .int .i64 k, .int .i64 1] W fun e w' => e = .returned (.tuple #[]) ∧ CJ w0 ln bf bc nc k bn n cn its n w' := by
  have j0 : k * 7 < nc * 7 := by omega
  have j1 : k * 7 + 1 < nc * 7 := by omega
  have j2 : k * 7 + 2 < nc * 7 := by omega
  obtain ⟨h1, f0, c0, v0, _, o0⟩ := h.set (v := .bool true) j0 (by omega) (by omega)
  obtain ⟨h2, f1, c1, v1, _, o1⟩ := h1.set (v := .int .i64 1) j1 (by omega) (by omega)
  obtain ⟨h3, f2, c2, cv, _, o2⟩ := h2.set (v := .slice none 0 0) j2 (by omega) (by omega)
  exact connect_walk bf bc k nc nc n cn (some ⟨bn, 0, none⟩) 1 W _ _ _ (CJ w0 ln bf bc nc k bn n cn its) (by omega) h.bfs hcl rfl rfl rfl f0 f1 f2 c0 c1 c2 h3.fs.cell1
    ⟨h3, by rw [o2 _ (by omega), o1 _ (by omega)]; exact v0, by rw [o2 _ (by omega)]; exact v1, none, 0, 0, #[], [], cv, rfl, .inl ⟨rfl, rfl, rfl⟩, (fun b hb => by cases hb), by rw [List.append_nil]; exact h3.fs.own, rfl, (fun b hb => by cases hb), fun j x hx => by simp at hx⟩ (fun i V hi hJ => cj_step hcl hc6 (by omega) hJ)
theorem CJ.next {w0 W : World} {ln : Int} {bf bc nc k bn n cn i : Nat} {its : List ItemO} (h : CJ w0 ln bf bc nc k bn n cn its i W) : CS w0 ln bf bc nc (k + 1) bn n cn its W := by
  obtain ⟨hC, hal, hinc, _⟩ := h
  obtain ⟨cur, h1, h2, h3, h4⟩ := hC.bcs
  refine ⟨hC.fs, ⟨cur, h1, h2, fun c hc => ?_, h4⟩, hC.bfs, hC.lin, hC.ne, hC.bnw⟩
  by_cases e : c = k
  · subst e
    simp only [World.cell?, h1, Option.isSome_none, Bool.false_eq_true, if_false] at hal hinc
    exact ⟨hal, hinc⟩
  · exact h3 c (by omega)
end Go.Proofs.Ytnjccbnlmdajkaa
