/- fabric.New: its nodes. -/
import Derived.Test.YtnjccbnlmdajkaaFabC
set_option linter.all false
namespace Go.Proofs.Ytnjccbnlmdajkaa
open Go.RowKit Go.Shelf Go.Lib Go.Ev
abbrev zw (lines : Nat) : List Int := List.replicate (8 * lines) 0
structure NS (w : World) (MC : Array Value) (clients lines i : Nat) (W : World) : Prop where
  kept : KeptW [] w W
  hbc : W.heap[w.heap.size]? = some (.cells MC 74 (0, 0))
  ex : ∃ (its : List ItemO) (A : Option Addr) (l c : Nat) (curn : Array Value), Owns mu0 W its ∧ its.map ItemO.a = List.replicate i (ndO (zw lines) false) ∧ (∀ b ∈ foot its, w.heap.size + 2 ≤ b) ∧ l = i ∧
    W.heap[w.heap.size + 1]? = some (.cells #[.int .i64 lines, .slice A l c, .slice (some ⟨w.heap.size, 0, none⟩) clients clients, .slice none 0 0] 62 (0, 0)) ∧
    ((A = none ∧ l = 0 ∧ c = 0) ∨ ∃ b, A = some ⟨b, 0, none⟩ ∧ l ≤ c ∧ W.heap[b]? = some (.cells curn 28 (0, 0)) ∧ curn.size = c * 1) ∧ (∀ b, A = some ⟨b, 0, none⟩ → w.heap.size + 2 ≤ b ∧ b ∉ foot its) ∧
    ∀ (k : Nat) (x : ItemO), its[k]? = some x → ∃ pb : Nat, x.p = .pointer (some ⟨pb, 0, none⟩) ∧ curn[k]? = some x.p
theorem ns_step {w W : World} {MC : Array Value} {clients lines i : Nat} (hl : 1 ≤ lines ∧ lines ≤ 256) (hi5 : i < 5) (h : NS w MC clients lines i W) :
    Calls Try.prog 31 #[.int .i64 lines] W (NwPost (w.heap.size + 1) (NS w MC clients lines (i + 1))) := by
  obtain ⟨hK, hbc, its, A, l, c, curn, hO, hmap, hfr, rfl, hbf, hA, hAf, hpt⟩ := h
  have hev := s_New (lines : Int) ⟨by omega, by omega⟩
  rw [Int.toNat_natCast] at hev
  refine (call_mk (dv := [.int .i64 lines]) hev Try.func31 (by kernel_rfl) (fun v hv => ?_) ?_ W hO).mono fun e w' he => ?_
  · simp only [List.mem_cons, List.not_mem_nil, or_false] at hv
    subst hv; rfl
  · show ((AV.ow false 47 1 (List.map wr (zw lines))) :: [AV.v (.bool false)]).all flatC = true
    rw [List.all_cons, Bool.and_eq_true]
    refine ⟨?_, rfl⟩
    show (List.map wr (zw lines)).all _ = true
    rw [List.all_eq_true]
    intro e he
    obtain ⟨x, _, rfl⟩ := List.mem_map.1 he
    rfl
  obtain ⟨pb, F, rfl, hk, hob, hnd, hnew⟩ := he
  have hsz := hK.size
  have hbfl := (Array.getElem?_eq_some_iff.1 hbf).1
  have hk1 := KeptW.alloc w' (.cells #[.pointer (some ⟨pb, 0, none⟩)] 28)
  have hkk := hk.trans hk1 fun x hx => by cases hx
  obtain ⟨I, hI, hIz, hIs, hIb⟩ := info_parts inf37
  have hA1 : (A = none ∧ l = 0 ∧ c = 0) ∨ ∃ b, A = some ⟨b, 0, none⟩ ∧ l ≤ c ∧ (w'.alloc (.cells #[.pointer (some ⟨pb, 0, none⟩)] 28)).heap[b]? = some (.cells curn 28 (0, 0)) ∧ curn.size = c * 1 := by
    rcases hA with h | ⟨b, h1, h2, h3, h4⟩
    · exact .inl h
    · exact .inr ⟨b, h1, h2, hkk.get h3 List.not_mem_nil, h4⟩
  obtain ⟨B, c', W4, cur', hrun, hk4, hB, hBs, hlc, hBA, hold, hnew1⟩ := app_raw (P := Try.prog) und70 hI hIz hIs (by omega) (by omega) rfl (l := l) (by omega) hA1 (Ev.alloc_new w' _) rfl (fun v hv => by
    simp only [List.mem_cons, List.not_mem_nil, or_false] at hv
    subst hv; rfl)
  have hk1s : (w'.alloc (.cells #[.pointer (some ⟨pb, 0, none⟩)] 28)).heap.size = w'.heap.size + 1 := by show (w'.heap.push _).size = _; rw [Array.size_push]
  have hksz := hk.size
  have hobl := hob.ownd
  have hFl : ∀ b ∈ F, b < w'.heap.size := fun b hb => by obtain ⟨_, o, ho⟩ := hobl b hb; exact (Array.getElem?_eq_some_iff.1 ho).1
  have hBf : w.heap.size + 2 ≤ B ∧ B ∉ foot its ∧ B ∉ F := by
    rcases hBA with h | h
    · refine ⟨(hAf B h).1, (hAf B h).2, fun hm => ?_⟩
      rcases hA with ⟨h0, _⟩ | ⟨b, h1, _, h3, _⟩
      · rw [h0] at h; cases h
      · rw [h1] at h; cases h
        have := (Array.getElem?_eq_some_iff.1 h3).1
        have := hnew B hm
        omega
    · exact ⟨by omega, fun hm => by have := (hO.own B hm).2; omega, fun hm => by have := hFl B hm; omega⟩
  have hO1 : Owns mu0 w' (its ++ [⟨.pointer (some ⟨pb, 0, none⟩), F, ndO (zw lines) false⟩]) := by
    refine (Owns.cons (x := ⟨.pointer (some ⟨pb, 0, none⟩), F, ndO (zw lines) false⟩) hob hnd (hO.kept hk (MuLe.refl _) mu0_new fun b hb => by cases hb) fun b hb hm => ?_).perm (List.perm_append_comm (l₁ := [_]))
    have := hnew b hb
    have := (hO.own b hm).2
    omega
  have hfoot : ∀ b, b ∈ foot (its ++ [(⟨.pointer (some ⟨pb, 0, none⟩), F, ndO (zw lines) false⟩ : ItemO)]) → b ∈ foot its ∨ b ∈ F := fun b hb => by
    rw [foot_app] at hb
    simpa [foot] using hb
  have hbf4 := hk4.get (hkk.get hbf List.not_mem_nil) (by simp; omega)
  obtain ⟨hk5, hbf5⟩ := KeptW.set (j := 1) (v := .slice (some ⟨B, 0, none⟩) (l + 1) c') hbf4
  have hall : KeptW [B, w.heap.size + 1] W (W4.setCell ⟨w.heap.size + 1, 1, none⟩ (.slice (some ⟨B, 0, none⟩) (l + 1) c')) :=
    (((hkk.mono (D' := [B, w.heap.size + 1]) fun x hx => by cases hx).trans hk4 fun x hx => .inl (by simp at hx; simp [hx])).trans hk5 fun x hx => .inl (by simp at hx; simp [hx]))
  have hO5 : Owns mu0 (W4.setCell ⟨w.heap.size + 1, 1, none⟩ (.slice (some ⟨B, 0, none⟩) (l + 1) c')) (its ++ [⟨.pointer (some ⟨pb, 0, none⟩), F, ndO (zw lines) false⟩]) := by
    refine ((hO1.kept hk1 (MuLe.refl _) mu0_new fun b hb => by cases hb).kept hk4 (MuLe.refl _) mu0_new fun b hb hm => ?_).kept hk5 (MuLe.refl _) mu0_new fun b hb hm => ?_
    · simp only [List.mem_singleton] at hb; subst hb
      exact (hfoot _ hm).elim hBf.2.1 hBf.2.2
    · simp only [List.mem_singleton] at hb; subst hb
      rcases hfoot _ hm with hm | hm
      · have := hfr _ hm; omega
      · have := hnew _ hm; omega
  have hlen : its.length = l := by have := congrArg List.length hmap; simpa using this
  refine ⟨pb, A, l, c, B, c', W4, rfl, cell_of (hk.get hbf List.not_mem_nil) rfl, hrun, frozen_of hbf4 1, ⟨_, cell_of hbf4 rfl⟩, ⟨?_, ?_, its ++ [⟨.pointer (some ⟨pb, 0, none⟩), F, ndO (zw lines) false⟩], some ⟨B, 0, none⟩, l + 1, c', cur', hO5, ?_, ?_, rfl, hbf5, .inr ⟨B, rfl, hlc, hk5.get hB (by simp; omega), hBs⟩, ?_, ?_⟩⟩
  · exact hK.trans hall fun x hx => by simp at hx; rcases hx with rfl | rfl <;> exact .inr (by omega)
  · exact hall.get hbc (by simp; omega)
  · rw [List.map_append, hmap, List.replicate_succ']; rfl
  · intro b hb
    rcases hfoot b hb with hb | hb
    · exact hfr b hb
    · have := hnew b hb; omega
  · intro b hb
    cases hb
    exact ⟨hBf.1, fun hm => (hfoot _ hm).elim hBf.2.1 hBf.2.2⟩
  · intro k x hx
    by_cases hkl : k < its.length
    · rw [List.getElem?_append_left hkl] at hx
      obtain ⟨p, h1, h2⟩ := hpt k x hx
      exact ⟨p, h1, by rw [← h2]; exact hold k (by omega)⟩
    · have hke : k = its.length := by
        have := (List.getElem?_eq_some_iff.1 hx).1
        simp at this; omega
      subst hke
      rw [List.getElem?_append_right (Nat.le_refl _), Nat.sub_self] at hx
      simp at hx
      subst hx
      refine ⟨pb, rfl, ?_⟩
      have := hnew1 0 (by decide)
      rw [hlen]
      simpa using this
theorem ns_zero (w : World) (MC : Array Value) (clients lines : Nat) : NS w MC clients lines 0 ((w.alloc (.cells MC 74)).alloc (.cells #[.int .i64 lines, .slice none 0 0, .slice (some ⟨w.heap.size, 0, none⟩) clients clients, .slice none 0 0] 62)) := by
  have k1 := KeptW.alloc w (.cells MC 74)
  have k2 := KeptW.alloc (w.alloc (.cells MC 74)) (.cells #[.int .i64 lines, .slice none 0 0, .slice (some ⟨w.heap.size, 0, none⟩) clients clients, .slice none 0 0] 62)
  have hs : (w.alloc (.cells MC 74)).heap.size = w.heap.size + 1 := by show (w.heap.push _).size = _; rw [Array.size_push]
  have h2 := Ev.alloc_new (w.alloc (.cells MC 74)) (.cells #[.int .i64 lines, .slice none 0 0, .slice (some ⟨w.heap.size, 0, none⟩) clients clients, .slice none 0 0] 62)
  rw [hs] at h2
  exact ⟨k1.trans k2 (fun x hx => by cases hx), k2.get (Ev.alloc_new w _) List.not_mem_nil, [], none, 0, 0, #[], Owns.nil _ _, rfl, (fun b hb => by cases hb), rfl, h2, .inl ⟨rfl, rfl, rfl⟩, (fun b hb => by cases hb), fun k x hx => by simp at hx⟩
def NC (w : World) (n clients lines c : Nat) (W : World) : Prop := ∃ (bn cn : Nat) (its : List ItemO), CS w (lines : Int) (w.heap.size + 1) w.heap.size clients c bn n cn its W ∧ its.map ItemO.a = List.replicate n (ndO (zw lines) false) ∧
  ∀ k, c = k + 1 → CJ w (lines : Int) (w.heap.size + 1) w.heap.size clients k bn n cn its n W
theorem ns_nc {w W : World} {MC : Array Value} {clients lines n : Nat} (hn : 0 < n) (hMC : MC.size = clients * 7) (hM0 : ∀ c, c < clients → MC[c * 7 + 3]? = some (.slice none 0 0) ∧ MC[c * 7 + 4]? = some (.int .i64 0) ∧ MC[c * 7 + 5]? = some (.int .i64 0) ∧ MC[c * 7 + 6]? = some (.int .i64 0))
    (h : NS w MC clients lines n W) : NC w n clients lines 0 W := by
  obtain ⟨hK, hbc, its, A, l, c, curn, hO, hmap, hfr, rfl, hbf, hA, hAf, hpt⟩ := h
  rcases hA with ⟨_, h, _⟩ | ⟨bn, rfl, hlc, hbn, hbs⟩
  · omega
  · obtain ⟨h1, h2⟩ := hAf bn rfl
    exact ⟨bn, c, its, ⟨⟨hK, hO, ⟨_, curn, hbf, rfl, hbn, hpt⟩, fun b hb => ⟨by have := hfr b hb; omega, fun e => h2 (e ▸ hb), by have := hfr b hb; omega⟩⟩, ⟨MC, hbc, hMC, (fun c hc => by omega), hM0⟩, cell_of hbf rfl, ⟨cell_of hbf rfl, cell_of hbf rfl⟩, ⟨by omega, by omega, Nat.le_refl _, fun hm => by have := hfr _ hm; omega⟩, by omega⟩, hmap, fun k hk => by omega⟩
theorem new_ok (w : World) (n clients lines : Nat) (hn : 1 ≤ n ∧ n ≤ 5) (hc : 1 ≤ clients ∧ clients ≤ 6) (hl : 1 ≤ lines ∧ lines ≤ 256) :
    Calls Try.prog 7 #[.int .i64 n, .int .i64 clients, .int .i64 lines] w fun e w' => e = .returned (.tuple #[.pointer (some ⟨w.heap.size + 1, 0, none⟩), .int .i64 0]) ∧ NC w n clients lines clients w' := by
  obtain ⟨I, hI, hIz, hIs, hIb⟩ := info_parts inf83
  have hmk := run_make w 58 74 I _ und69 hI hIz .i64 .i64 (clients : Int) (clients : Int) (by omega) (Int.le_refl _) (by rw [hIb]; omega) (by omega)
  rw [Int.toNat_natCast, hIs] at hmk
  obtain ⟨MC, hMC⟩ : ∃ MC, madeCells (Value.agg #[.bool false, .int .i64 0, .slice none 0 0, .slice none 0 0, .int .i64 0, .int .i64 0, .int .i64 0]).cells (clients * 7) = MC := ⟨_, rfl⟩
  rw [hMC] at hmk
  have hMs : MC.size = clients * 7 := by rw [← hMC, size_madeCells]
  have hM0 : ∀ c, c < clients → MC[c * 7 + 3]? = some (.slice none 0 0) ∧ MC[c * 7 + 4]? = some (.int .i64 0) ∧ MC[c * 7 + 5]? = some (.int .i64 0) ∧ MC[c * 7 + 6]? = some (.int .i64 0) := fun c hc => by
    have hzs : (Value.agg #[.bool false, .int .i64 0, .slice none 0 0, .slice none 0 0, .int .i64 0, .int .i64 0, .int .i64 0]).cells.size = 7 := rfl
    refine ⟨?_, ?_, ?_, ?_⟩ <;> rw [← hMC, madeCells_get (by omega), hzs]
    · rw [show (c * 7 + 3) % 7 = 3 by omega]; rfl
    · rw [show (c * 7 + 4) % 7 = 4 by omega]; rfl
    · rw [show (c * 7 + 5) % 7 = 5 by omega]; rfl
    · rw [show (c * 7 + 6) % 7 = 6 by omega]; rfl
  exact new_walk n clients lines w (NS w MC clients lines) (fun c => NC w n clients lines c) hn hc ⟨by omega, by omega⟩ MC hmk (ns_zero w MC clients lines) (fun i W hi h => ns_step hl (by omega) h)
    (fun W h => ⟨ns_nc (by omega) hMs hM0 h, by
      obtain ⟨hK, hbc, its, A, l, c, curn, hO, hmap, hfr, e, hbf, _⟩ := h
      exact cell_of hbf rfl⟩)
    (fun c W hc' h => by
      obtain ⟨bn, cn, its, hC, hm, _⟩ := h
      exact (connect_ok hc' (by omega) hn.2 hC).mono fun e w' he => ⟨he.1, bn, cn, its, he.2.next, hm, fun k hk => by
        have : c = k := by omega
        subst this
        exact he.2⟩)
end Go.Proofs.Ytnjccbnlmdajkaa
