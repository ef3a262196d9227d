/- The example of chapter 6: Post, and Choices. -/
import Derived.Test.YtnjccbnlmdajkaaAwkP
set_option linter.all false
namespace Go.Proofs.Ytnjccbnlmdajkaa
open Go.RowKit Go.Shelf Go.Lib Go.Ev
set_option maxRecDepth 100000
def pAn : Nat → AV
  | 0 => pA0
  | 1 => pA1
  | _ => pA2
abbrev MB4 : Array Value := #[.int .i64 0, .slice none 0 0, .int .i64 0, .slice none 0 0]
def AK2 (w : World) (bf : Nat) (W : World) : Prop := ∃ (d : AD) (B c bb : Nat) (cur : Array Value) (r : RawB), cur.size = c * 1 ∧ 2 ≤ c ∧ cur[0]? = some (.int .i64 0) ∧ cur[1]? = some (.int .i64 1) ∧
  AK w bf d n0 pA2 (.slice (some ⟨bb, 0, none⟩) 2 2) (.slice (some ⟨B, 0, none⟩) 2 c) 2 1 2 [r, rawC B cur 3, rawC bb MB4 67] W
theorem ltwo {i : Nat} (h : i < 2) : i = 0 ∨ i = 1 := by omega
theorem post_end {w : World} {bf : Nat} {d : AD} {plc : Value} {r : RawB} {ext : List RawB} {V : World} (h : AK w bf d n0 pA2 (.slice none 0 0) plc 0 0 0 (r :: ext) V) (hpl : PL 2 plc ext) : PostEnd d.bc 0 2 V (AK2 w bf) := by
  rcases hpl with ⟨e, _⟩ | ⟨_, B, c, cur, rfl, hic, rfl, hcs, hcv⟩
  · cases e
  obtain ⟨I, hI, hIz, hIs, hIb⟩ := info_parts inf67
  have hmk := run_make V 44 67 I _ und44 hI hIz .i64 .i64 (2 : Int) (2 : Int) (by decide) (Int.le_refl _) (by rw [hIb]; decide) (by decide)
  rw [show (2 : Int).toNat = 2 from rfl, hIs] at hmk
  have hMC : madeCells (Value.agg #[.int .i64 0, .slice none 0 0]).cells (2 * 2) = MB4 := by kernel_rfl
  rw [hMC] at hmk
  have hs1 := h.st.alloc MB4 67
  have c3 := (Array.getElem?_eq_some_iff.1 h.c.2.2.2.1).1
  have c4 := (Array.getElem?_eq_some_iff.1 h.c.2.2.2.2.1).1
  have c5 := (Array.getElem?_eq_some_iff.1 h.c.2.2.2.2.2.1).1
  have c6 := (Array.getElem?_eq_some_iff.1 h.c.2.2.2.2.2.2).1
  have hs2 := hs1.set (i := 2) rfl (0 * 7 + 3) (.slice (some ⟨V.heap.size, 0, none⟩) 2 2)
  have hs3 := hs2.set (i := 2) rfl (0 * 7 + 4) (.int .i64 (2 : Nat))
  have hs4 := hs3.set (i := 2) rfl (0 * 7 + 5) (.int .i64 (wrap64 (0 + 1)))
  have hs5 := hs4.set (i := 2) rfl (0 * 7 + 6) (.int .i64 (wrap64 (0 + (2 : Nat))))
  have w1 : wrap64 (0 + 1) = 1 := by rw [w64]; decide
  have w2 : wrap64 (0 + ((2 : Nat) : Int)) = 2 := by rw [w64]; decide
  refine ⟨MB4, _, _, _, _, 0, 0, hmk, hs1.frozen (i := 2) rfl _, ⟨_, hs1.cell (i := 2) rfl h.c.2.2.2.1⟩, rfl, hs2.frozen (i := 2) rfl _, ⟨.int .i64 0, hs2.cell (i := 2) (v := .int .i64 0) rfl ?_⟩, rfl, hs3.frozen (i := 2) rfl _, hs3.cell (i := 2) (v := .int .i64 0) rfl ?_, rfl, hs4.frozen (i := 2) rfl _, hs4.cell (i := 2) (v := .int .i64 0) rfl ?_, rfl,
    { d with curc := (((d.curc.setIfInBounds (0 * 7 + 3) (.slice (some ⟨V.heap.size, 0, none⟩) 2 2)).setIfInBounds (0 * 7 + 4) (.int .i64 (2 : Nat))).setIfInBounds (0 * 7 + 5) (.int .i64 (wrap64 (0 + 1)))).setIfInBounds (0 * 7 + 6) (.int .i64 (wrap64 (0 + (2 : Nat)))) }, B, c, V.heap.size, cur, r, hcs, hic, hcv 0 (by decide), hcv 1 (by decide), hs5, h.f, h.n, ⟨?_, ?_, ?_, ?_, ?_, ?_, ?_⟩, h.l⟩
  · rw [Array.getElem?_setIfInBounds, if_neg (by decide)]; exact h.c.2.2.2.2.1
  · rw [Array.getElem?_setIfInBounds, if_neg (by decide), Array.getElem?_setIfInBounds, if_neg (by decide)]; exact h.c.2.2.2.2.2.1
  · rw [Array.getElem?_setIfInBounds, if_neg (by decide), Array.getElem?_setIfInBounds, if_neg (by decide), Array.getElem?_setIfInBounds, if_neg (by decide)]; exact h.c.2.2.2.2.2.2
  all_goals simp only [Array.getElem?_setIfInBounds, Array.size_setIfInBounds]
  · rw [if_neg (by decide), if_neg (by decide), if_neg (by decide), if_neg (by decide)]; exact h.c.1
  · rw [if_neg (by decide), if_neg (by decide), if_neg (by decide), if_neg (by decide)]; exact h.c.2.1
  · rw [if_neg (by decide), if_neg (by decide), if_neg (by decide), if_neg (by decide)]; exact h.c.2.2.1
  · rw [if_neg (by decide), if_neg (by decide), if_neg (by decide), if_pos trivial, if_pos c3]
  · rw [if_neg (by decide), if_neg (by decide), if_pos trivial, if_pos c4]; rfl
  · rw [if_neg (by decide), if_pos trivial, if_pos c5, w1]
  · rw [if_pos trivial, if_pos c6, w2]
theorem post_all {w : World} {bf : Nat} {d : AD} {W : World} (h : AK w bf d n0 pA0 (.slice none 0 0) (.slice none 0 0) 0 0 0 [] W) :
    Calls Try.prog 18 #[.pointer (some ⟨bf, 0, none⟩), .int .i64 0, .slice (some ⟨W.heap.size, 0, none⟩) 2 2] (W.alloc (.cells vb18 50)) fun e w' => e = .returned (.int .i64 0) ∧ AK2 w bf w' := by
  have h0 : AK w bf d n0 pA0 (.slice none 0 0) (.slice none 0 0) 0 0 0 [rawC W.heap.size vb18 50] (W.alloc (.cells vb18 50)) := ⟨h.st.alloc vb18 50, h.f, h.n, h.c, h.l⟩
  generalize W.heap.size = vb at h0 ⊢
  generalize W.alloc (.cells vb18 50) = X at h0 ⊢
  refine post_walk bf d.bc 0 1 d.bn 1 d.cn vb 0 2 2 5 X (fun _ V => AK w bf d n0 pA0 (.slice none 0 0) (.slice none 0 0) 0 0 0 [rawC vb vb18 50] V)
    (fun i V => ∃ (d' : AD) (plc : Value) (ext : List RawB), (d'.bn = d.bn ∧ d'.cn = d.cn ∧ d'.bc = d.bc ∧ d'.bl = d.bl ∧ d'.cl = d.cl ∧ d'.pn = d.pn ∧ d'.pp = d.pp) ∧ PL i plc ext ∧ AK w bf d' n0 (pAn i) (.slice none 0 0) plc 0 0 0 (rawC vb vb18 50 :: ext) V)
    (AK2 w bf) (by decide) (by decide) (h0.st.cell (i := 0) rfl h0.f.2.2.1) (h0.st.cell (i := 2) rfl h0.c.1) (h0.st.cell (i := 2) rfl h0.c.2.2.2.1) h0 (fun i V hi hJ => ?_) (fun V hJ => ⟨d, _, [], ⟨rfl, rfl, rfl, rfl, rfl, rfl, rfl⟩, .inl ⟨rfl, rfl, rfl⟩, hJ⟩) ⟨fun i V hi hJ => ?_, fun V hJ => ?_⟩
  · have hc : ∀ j v, vb18[j]? = some v → V.cell? ⟨vb, j, none⟩ = some v := fun j v hv => hJ.st.cell (i := 4) rfl hv
    rcases ltwo hi with rfl | rfl
    · obtain ⟨a, b⟩ := valid_ok hJ e35a
      exact ⟨3, 0, 0, 0, 0, 4, none, 0, 0, 0, 0, ⟨hc 0 _ rfl, hc 1 _ rfl, hc 2 _ rfl, hc 3 _ rfl, hc 4 _ rfl, hc 5 _ rfl, hc 6 _ rfl, hc 7 _ rfl, hc 8 _ rfl⟩, a, b⟩
    · obtain ⟨a, b⟩ := valid_ok hJ e35b
      exact ⟨1, 0, 0, 1, 0, 0, none, 0, 0, 0, 0, ⟨hc 9 _ rfl, hc 10 _ rfl, hc 11 _ rfl, hc 12 _ rfl, hc 13 _ rfl, hc 14 _ rfl, hc 15 _ rfl, hc 16 _ rfl, hc 17 _ rfl⟩, a, b⟩
  · obtain ⟨d', plc, ext, ⟨g1, g2, g3, g4, g5, g6, g7⟩, hpl, hA⟩ := hJ
    rw [← g3]
    have hc : ∀ j v, vb18[j]? = some v → V.cell? ⟨vb, j, none⟩ = some v := fun j v hv => hA.st.cell (i := 4) rfl hv
    have hcf : ∀ o, (V.alloc o).cell? ⟨bf, 0, none⟩ = some (.int .i64 5) := fun o => (hA.kept0 (KeptW.alloc V o)).st.cell (i := 0) rfl hA.f.1
    have hcc : ∀ o, (V.alloc o).cell? ⟨d'.bc, 0 * 7 + 2, none⟩ = some (.slice (some ⟨d'.bl, 0, none⟩) 1 d'.cl) := fun o => (hA.kept0 (KeptW.alloc V o)).st.cell (i := 2) rfl hA.c.2.2.1
    have hcl : ∀ o, (V.alloc o).cell? ⟨d'.bl, 0 * 2, none⟩ = some (.pointer (some ⟨d'.pp, 0, none⟩)) := fun o => (hA.kept0 (KeptW.alloc V o)).st.cell (i := 3) rfl hA.l.1
    rcases ltwo hi with rfl | rfl
    · refine ⟨3, 0, 0, 0, 0, 4, none, 0, 0, 0, 0, d'.bl, 1, d'.cl, d'.pp, ⟨hc 0 _ rfl, hc 1 _ rfl, hc 2 _ rfl, hc 3 _ rfl, hc 4 _ rfl, hc 5 _ rfl, hc 6 _ rfl, hc 7 _ rfl, hc 8 _ rfl⟩, hcf, hcc, by decide, hcl, (post_ok hA hpl (by decide) e36a rfl).mono fun e w' he => ?_⟩
      obtain ⟨x, PA, pl, pc, B, c', W4, he, q1, q2, q3, q4, d2, ext', ⟨k1, k2, k3, k4, k5, k6, k7⟩, hp2, hA2⟩ := he
      exact ⟨x, PA, pl, pc, B, c', W4, he, q1, q2, q3, q4, d2, _, ext', ⟨k1.trans g1, k2.trans g2, k3, k4.trans g4, k5.trans g5, k6.trans g6, k7.trans g7⟩, hp2, hA2⟩
    · refine ⟨1, 0, 0, 1, 0, 0, none, 0, 0, 0, 0, d'.bl, 1, d'.cl, d'.pp, ⟨hc 9 _ rfl, hc 10 _ rfl, hc 11 _ rfl, hc 12 _ rfl, hc 13 _ rfl, hc 14 _ rfl, hc 15 _ rfl, hc 16 _ rfl, hc 17 _ rfl⟩, hcf, hcc, by decide, hcl, (post_ok hA hpl (by decide) e36b rfl).mono fun e w' he => ?_⟩
      obtain ⟨x, PA, pl, pc, B, c', W4, he, q1, q2, q3, q4, d2, ext', ⟨k1, k2, k3, k4, k5, k6, k7⟩, hp2, hA2⟩ := he
      exact ⟨x, PA, pl, pc, B, c', W4, he, q1, q2, q3, q4, d2, _, ext', ⟨k1.trans g1, k2.trans g2, k3, k4.trans g4, k5.trans g5, k6.trans g6, k7.trans g7⟩, hp2, hA2⟩
  · obtain ⟨d', plc, ext, ⟨g1, g2, g3, g4, g5, g6, g7⟩, hpl, hA⟩ := hJ
    rw [← g3]
    exact post_end hA hpl
end Go.Proofs.Ytnjccbnlmdajkaa
