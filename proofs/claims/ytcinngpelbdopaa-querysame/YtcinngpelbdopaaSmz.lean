/- QuerySame: the walk's conditions hold. -/
import Derived.Test.YtcinngpelbdopaaSmy
set_option linter.all false
namespace Go.Proofs.Ytcinngpelbdopaa
open Go.RowKit Go.Shelf Go.Lib Go.Ev
theorem setc_frozen (W : World) (b j : Nat) {t m n0 : Nat} (h : Bl n0 W b t m) : W.frozen? ⟨b, j, none⟩ = false := by
  obtain ⟨_, cur, hc, _⟩ := h
  simp [World.frozen?, hc]
theorem oksl_len {n0 mx : Nat} {W : World} {A : Option Addr} {l c : Nat} (h : OkSl n0 mx W A l c) : l ≤ mx := by
  rcases h with ⟨_, rfl, _⟩ | ⟨_, _, _, h, _⟩
  · exact Nat.zero_le _
  · exact h
theorem cok_s {n0 mx : Nat} {W : World} {A : Option Addr} {l c k : Nat} (h : OkSl n0 mx W A l c) : Cok n0 mx W tS (k * 2) (.slice A l c) :=
  .inr ⟨rfl, by rw [if_pos (by omega)]; exact ⟨A, l, c, rfl, h⟩⟩
theorem cok_n {n0 mx : Nat} {W : World} {k : Nat} {x : Int} : Cok n0 mx W tS (k * 2 + 1) (.int .i64 x) :=
  .inr ⟨rfl, by rw [if_neg (by omega)]; exact ⟨x, rfl⟩⟩
theorem cok_r0 {n0 mx : Nat} {W : World} {x : Int} : Cok n0 mx W tR 0 (.int .u32 x) := .inl ⟨rfl, by unfold okRc; rw [if_pos (by omega)]; exact ⟨x, rfl⟩⟩
theorem cok_rc {n0 mx : Nat} {W : World} {q c : Nat} (hc : c < 3) {x : Int} : Cok n0 mx W tR (q * 4 + 1 + c) (.int .i64 x) := .inl ⟨rfl, by unfold okRc; rw [if_neg (by omega)]; exact ⟨x, rfl⟩⟩
theorem cok_row {n0 mx : Nat} {W : World} : ∀ j v, (#[Value.int .u32 1, .int .i64 0, .int .i64 0, .int .i64 0] : Array Value)[j]? = some v → Cok n0 mx W tR j v
  | 0, v, h => by cases h; exact cok_r0
  | 1, v, h => by cases h; exact cok_rc (q := 0) (c := 0) (by decide)
  | 2, v, h => by cases h; exact cok_rc (q := 0) (c := 1) (by decide)
  | 3, v, h => by cases h; exact cok_rc (q := 0) (c := 2) (by decide)
  | j + 4, v, h => by simp at h
theorem cok_res {n0 mx : Nat} {W : World} {A : Option Addr} {l c : Nat} {x : Int} (h : OkSl n0 mx W A l c) : ∀ j v, (#[Value.slice A l c, .int .i64 x] : Array Value)[j]? = some v → Cok n0 mx W tS j v
  | 0, v, e => by cases e; exact cok_s (k := 0) h
  | 1, v, e => by cases e; exact cok_n (k := 0)
  | j + 2, v, e => by simp at e
theorem mod_ok {w W : World} {B n cc : Nat} {turn : Int} {K : World → Prop} (hn : 0 < n) (hn8 : n ≤ 8) (h : NB w.heap.size 20 w W) (hB : Bl w.heap.size W B tS (cc * 2)) (hc : n ≤ cc)
    (hK : ∀ W', NB w.heap.size 21 w W' → Bl w.heap.size W' B tS (cc * 2) → K W') : ModOk n turn B cc W K := by
  have p0 := pick_range (n := turn) (m := (n : Int)) (by omega)
  obtain ⟨k, hk⟩ : ∃ k : Nat, pick turn n = (k : Int) := ⟨(pick turn n).toNat, by omega⟩
  have hkn : k < n := by omega
  have p1 := pick_range (n := wrap64 (turn.tdiv 8)) (m := 5) (by decide)
  have hm2 : n * 2 ≤ cc * 2 := by omega
  obtain ⟨_, v0, hv0, ok0⟩ := h.get hB (j := k * 2) (by omega)
  obtain ⟨_, v1, hv1, ok1⟩ := h.get hB (j := k * 2 + 1) (by omega)
  obtain ⟨RA, rl, rc, rfl, hsl⟩ := ok0.sl (by omega)
  obtain ⟨num, rfl⟩ := ok1.num (by omega)
  have h21 := h.le (mx' := 21) (by decide)
  have hsl21 := hsl.le (mx' := 21) (by decide)
  refine ⟨k, RA, rl, rc, num, _, hk, hkn, oksl_len hsl, rfl, by omega, by omega, hv0, hv1, fun j => setc_frozen W B j hB, fun _ => ?_, fun _ => ?_, fun _ _ => hK W h21 hB, fun _ hl => ?_, fun _ _ => hK W h21 hB, fun _ hl => ?_, fun _ => hK W h21 hB⟩
  · obtain ⟨a, b⟩ := h21.set (j := k * 2 + 1) (v := .int .i64 (wrap64 (num + 1))) hB cok_n
    exact hK _ a (b _ _ _ hB)
  · obtain ⟨I, hI, hIz, hIs, hIb⟩ := info_parts infoR
    obtain ⟨a1, b1, e1⟩ := h21.alloc (cur := #[Value.int .u32 1, .int .i64 0, .int .i64 0, .int .i64 0]) (t := tR) cok_row
    obtain ⟨b2, c2, W2, hrun, a2, k2, hlc, hBl⟩ := app_one (l := rl) (c := rc) (A := RA) (szR w.heap.size 21) und74 hI hIz hIs (by omega) (by omega) oneR a1 (by have := oksl_len hsl; omega) (by
      rcases hsl21.kp b1 with h | ⟨b, h1, h2, h3, h4⟩
      · exact .inl h
      · exact .inr ⟨b, h1, h2, h4⟩) e1
    have hB2 := k2 _ _ _ (b1 _ _ _ hB)
    obtain ⟨f, x, hx, _⟩ := a2.get hB2 (j := k * 2) (by omega)
    have hlen := oksl_len hsl
    obtain ⟨a3, k3⟩ := a2.set (j := k * 2) (v := .slice (some ⟨b2, 0, none⟩) (rl + 1) c2) hB2 (cok_s (.inr ⟨b2, rfl, hlc, by omega, hBl⟩))
    exact ⟨b2, c2, W2, hrun, f, ⟨x, hx⟩, hK _ a3 (k3 _ _ _ hB2)⟩
  · rcases hsl with ⟨_, rfl, _⟩ | ⟨b2, rfl, hlc, hlm, hBl⟩
    · omega
    · have q0 := pick_range (n := wrap64 (turn.tdiv 40)) (m := (rl : Int)) (by omega)
      have q1 := pick_range (n := wrap64 (turn.tdiv 64)) (m := 3) (by decide)
      obtain ⟨q, hq⟩ : ∃ q : Nat, pick (wrap64 (turn.tdiv 40)) rl = (q : Int) := ⟨(pick (wrap64 (turn.tdiv 40)) rl).toNat, by omega⟩
      obtain ⟨c, hc3⟩ : ∃ c : Nat, pick (wrap64 (turn.tdiv 64)) 3 = (c : Int) := ⟨(pick (wrap64 (turn.tdiv 64)) 3).toNat, by omega⟩
      have hql : q < rl := by omega
      have hcl : c < 3 := by omega
      have hm : (q + 1) * 4 ≤ rc * 4 := Nat.mul_le_mul_right _ (by omega)
      obtain ⟨f, v, hv, hok⟩ := h.drew.get (j := q * 4 + 1 + c) hBl (by omega)
      obtain ⟨x, rfl⟩ := hok.col (by omega)
      obtain ⟨a, b⟩ := h21.drew.set (j := q * 4 + 1 + c) (v := .int .i64 (wrap64 (x + 1))) hBl (cok_rc hcl)
      exact ⟨b2, q, c, x, rfl, hq, hql, hc3, hcl, hv, f, hK _ a (b _ _ _ hB)⟩
  · rcases hsl with ⟨_, rfl, _⟩ | ⟨b2, rfl, hlc, hlm, hBl⟩
    · omega
    · obtain ⟨a, b⟩ := h21.set (j := k * 2) (v := .slice (some ⟨b2, 0, none⟩) (rl - 1) rc) hB (cok_s (.inr ⟨b2, rfl, by omega, by omega, hBl⟩))
      exact ⟨b2, rfl, hlc, hK _ a (b _ _ _ hB)⟩
theorem main_ok {w : World} {μ : Mu} {nx ny : Bool} {xs ys : List (Bool × Res)} {A : Option Addr} {ca : Nat} {vb : Value} {turn : Int} (himm : ∀ b o, μ b = some o → w.heap[b]? = some o) (ha : DR μ (.lst nx 2 (outB xs)) (.slice A xs.length ca)) (hb : DR μ (.lst ny 2 (outB ys)) vb)
    (hx8 : xs.length ≤ 8) (hx20 : ∀ p ∈ xs, p.2.rows.length ≤ 20) (sy : shortR ys) : Main (fun W => Frm ⟨w, (· ∈ ([] : List Nat)), μ⟩ μ W ∧ ∀ b o, μ b = some o → W.heap[b]? = some o) A xs.length ca vb turn w := by
  have fin : ∀ W' A1 n c, NB w.heap.size 21 w W' → OkC w.heap.size W' A1 n c → n ≤ 8 → Fin (fun W => Frm ⟨w, (· ∈ ([] : List Nat)), μ⟩ μ W ∧ ∀ b o, μ b = some o → W.heap[b]? = some o) (.slice A xs.length ca) vb (.slice A1 n c) W' := fun W' A' n c hN hC hn => by
    obtain ⟨b, cs, hcl, hcs, hd⟩ := okC_data (μ := μ) hN hC
    obtain ⟨hle, hi⟩ := hN.mu himm
    refine fin_ok hi (ha.mono hle) (hb.mono hle) hd ⟨by omega, fun p hp => by have := hx20 p hp; omega⟩ sy ⟨by omega, fun p hp => by have := hcs p hp; omega⟩ fun W hW => ?_
    have hsz := hN.size
    exact ⟨⟨hW.os.trans hN.os, hW.tape.trans hN.tape, hW.output.trans hN.output, Nat.le_trans hN.size hW.size, fun b hb _ => (hW.keep b (Nat.lt_of_lt_of_le hb hsz)).trans (hN.keep b hb), MuLe.refl μ, fun _ _ h => .inl h⟩,
      fun b o hbo => by
        have h0 := himm b o hbo
        have hl := (Array.getElem?_eq_some_iff.1 h0).1
        rw [hW.keep b (Nat.lt_of_lt_of_le hl hsz), hN.keep b hl]; exact h0⟩
  obtain ⟨_, hcell⟩ := dr_res ha himm
  refine ⟨fun i s W => ∃ C c, s = .slice C i c ∧ NB w.heap.size 20 w W ∧ OkC w.heap.size W C i c ∧ (i = 0 → C = none ∧ c = 0), ⟨none, 0, rfl, NB.start 20 w, .inl ⟨rfl, rfl, rfl⟩, fun _ => ⟨rfl, rfl⟩⟩, fun i s W hi hJ => ?_, fun s W hJ => ⟨fun h0 => ?_, fun h0 => ?_⟩⟩
  · obtain ⟨C, c, rfl, hN, hC, _⟩ := hJ
    obtain ⟨mb, mo, rfl, hmb, hcl⟩ := hcell (by omega)
    obtain ⟨RA, rc, hc1, hc2, hdr⟩ := hcl i _ (List.getElem?_eq_getElem hi)
    obtain ⟨p, hp⟩ : ∃ p, xs[i] = p := ⟨_, rfl⟩
    rw [hp] at hc1 hc2 hdr
    have hpm : p ∈ xs := by rw [← hp]; exact List.getElem_mem hi
    have hold : ∀ W', NB w.heap.size 20 w W' → ∀ o, W'.cell? ⟨mb, o, none⟩ = w.cell? ⟨mb, o, none⟩ := fun W' hW' o => by simp only [World.cell?, hW'.keep mb hmb]
    have hiW : ∀ b o, μ b = some o → W.drew.heap[b]? = some o := fun b o hb => by
      have h0 := himm b o hb
      show W.heap[b]? = _
      rw [hN.keep b (Array.getElem?_eq_some_iff.1 h0).1]; exact h0
    obtain ⟨VA, vl, vc, W2, hrun, hN2, hk2, hsl2⟩ := app_rows hN.drew hdr hiW (hx20 p hpm)
    obtain ⟨a3, k3, e3⟩ := hN2.alloc (cur := #[.slice VA vl vc, .int .i64 p.2.num]) (t := tS) (cok_res hsl2)
    obtain ⟨I, hI, hIz, hIs, hIb⟩ := info_parts infoS
    have hC2 : OkC w.heap.size (W2.alloc (.cells #[.slice VA vl vc, .int .i64 p.2.num] tS)) C i c := (hC.kp (W' := W.drew) (fun _ _ _ h => h)).kp (hk2.trans k3)
    obtain ⟨b, c', W4, hrun4, a4, k4, hlc, hBl⟩ := app_one (l := i) (c := c) (A := C) (szS w.heap.size 20) und73 hI hIz hIs (by omega) (by omega) oneS a3 (by omega) hC2 e3
    refine ⟨C, c, mb, mo, rfl, rfl, RA, _, rc, p.2.num, VA, vl, vc, b, c', W2, W4, (hold W hN _).trans hc1, hrun, (hold W2 hN2 _).trans hc2, (hold W.drew hN.drew _).trans hc2, hrun4, _, _, rfl, a4, .inr ⟨b, rfl, hlc, hBl⟩, fun h => by omega⟩
  · obtain ⟨C, c, rfl, hN, hC, hz⟩ := hJ
    obtain ⟨rfl, rfl⟩ := hz h0
    have := fin W none xs.length 0 (hN.le (by decide)) hC hx8
    refine ⟨by rw [h0], this⟩
  · obtain ⟨C, c, rfl, hN, hC, hz⟩ := hJ
    have hC' := hC
    rcases hC with ⟨_, h, _⟩ | ⟨B, rfl, hlc, hBl⟩
    · omega
    · exact ⟨B, c, rfl, hlc, mod_ok h0 hx8 hN hBl hlc fun W' hW' hB' => fin W' _ _ _ hW' (.inr ⟨B, rfl, hlc, hB'⟩) hx8⟩
end Go.Proofs.Ytcinngpelbdopaa
