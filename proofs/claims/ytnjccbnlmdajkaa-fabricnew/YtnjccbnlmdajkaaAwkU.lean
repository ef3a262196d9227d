/- The example of chapter 6 answers true. -/
import Derived.Test.YtnjccbnlmdajkaaAwkT
set_option linter.all false
namespace Go.Proofs.Ytnjccbnlmdajkaa
open Go.RowKit Go.Shelf Go.Lib Go.Ev
set_option maxRecDepth 100000
theorem inf40 : (Try.prog.info? 40).map (fun i => (i.zero, i.size, i.bytes)) = some (some (.agg #[.int .i64 0, .int .i64 0, .int .i64 0]), 3, 24) := by kernel_rfl
theorem und41 : Try.prog.underlying 41 = some (.slice 40) := by kernel_rfl
theorem choices_ok {w : World} {bf : Nat} {W : World} (h : AK2 w bf W) : Calls Try.prog 21 #[.pointer (some ⟨bf, 0, none⟩)] W fun e w' => (∃ A c, e = .returned (.slice A 1 c)) ∧ AK2 w bf w' := by
  obtain ⟨d, B, c, bb, cur, r, hcs, hc2, hc0, hc1, hA⟩ := h
  obtain ⟨VA, vc, hvc⟩ := pair_cell (hA.st.own.ok ⟨.pointer (some ⟨d.pp, 0, none⟩), d.Fp, pA2⟩ (by simp))
  have ha := hA.kept0 (KeptW.alloc W (.cells #[.bool true, .int .i64 1, .slice (some ⟨d.bl, 0, none⟩) 1 d.cl, .slice (some ⟨bb, 0, none⟩) 2 2, .int .i64 2, .int .i64 1, .int .i64 2] 74))
  have hna := Ev.alloc_new W (.cells #[.bool true, .int .i64 1, .slice (some ⟨d.bl, 0, none⟩) 1 d.cl, .slice (some ⟨bb, 0, none⟩) 2 2, .int .i64 2, .int .i64 1, .int .i64 2] 74)
  obtain ⟨wa, hwa⟩ : ∃ wa, W.alloc (.cells #[.bool true, .int .i64 1, .slice (some ⟨d.bl, 0, none⟩) 1 d.cl, .slice (some ⟨bb, 0, none⟩) 2 2, .int .i64 2, .int .i64 1, .int .i64 2] 74) = wa := ⟨_, rfl⟩
  rw [hwa] at ha hna
  have hb := ha.kept0 (KeptW.alloc wa (.cells #[.pointer (some ⟨d.pp, 0, none⟩), .slice (some ⟨B, 0, none⟩) 2 c] 82))
  have hnb := Ev.alloc_new wa (.cells #[.pointer (some ⟨d.pp, 0, none⟩), .slice (some ⟨B, 0, none⟩) 2 c] 82)
  obtain ⟨wb, hwb⟩ : ∃ wb, wa.alloc (.cells #[.pointer (some ⟨d.pp, 0, none⟩), .slice (some ⟨B, 0, none⟩) 2 c] 82) = wb := ⟨_, rfl⟩
  rw [hwb] at hb hnb
  obtain ⟨VA', vc', hvc'⟩ := pair_cell (hb.st.own.ok ⟨.pointer (some ⟨d.pp, 0, none⟩), d.Fp, pA2⟩ (by simp))
  have hd := hb.kept0 (KeptW.alloc wb (.cells #[.int .i64 (-1), .int .i64 0, .int .i64 0] 40))
  obtain ⟨I, hI, hIz, hIs, hIb⟩ := info_parts inf40
  obtain ⟨b', c', W4, cur', hrun, hst4, _, _, _⟩ := hd.st.app0 (P := Try.prog) und41 hI hIz hIs (by omega) (by omega) rfl (Ev.alloc_new wb _) rfl (fun v hv => by
    simp only [List.mem_cons, List.not_mem_nil, or_false] at hv
    rcases hv with rfl | rfl | rfl <;> rfl)
  have h4 : AK w bf d n0 pA2 (.slice (some ⟨bb, 0, none⟩) 2 2) (.slice (some ⟨B, 0, none⟩) 2 c) 2 1 2 ([r, rawC B cur 3, rawC bb MB4 67] ++ [rawC b' cur' 40]) W4 := ⟨hst4, hA.f, hA.n, hA.c, hA.l⟩
  exact choices1_walk bf d.bc d.bl d.cl d.pp 2 vc' b' c' VA' (some ⟨B, 0, none⟩) (some ⟨bb, 0, none⟩) 2 c 2 2 true 1 2 1 2 W wa wb W4 (AK2 w bf) (by decide) (hA.st.cell (i := 0) rfl hA.f.2.2.1) (hA.st.cell (i := 2) rfl hA.c.1) (hA.st.cell (i := 2) rfl hA.c.2.1) (hA.st.cell (i := 2) rfl hA.c.2.2.1) (hA.st.cell (i := 2) rfl hA.c.2.2.2.1) (hA.st.cell (i := 2) rfl hA.c.2.2.2.2.1) (hA.st.cell (i := 2) rfl hA.c.2.2.2.2.2.1) (hA.st.cell (i := 2) rfl hA.c.2.2.2.2.2.2)
    hwa (cell_of hna rfl) (ha.st.cell (i := 3) rfl ha.l.1) (ha.st.cell (i := 3) rfl ha.l.2) hwb (cell_of hnb rfl) hvc' hrun (h4.st.cell (i := 0) rfl h4.f.2.2.2) ⟨d, B, c, bb, cur, r, hcs, hc2, hc0, hc1, h4.drop⟩
def AK3 (w : World) (bf : Nat) (W : World) : Prop := ∃ (bb q qo cq : Nat) (more : List RawB), StA w bf n1 pA3 [1] 1 bb ((MB4.setIfInBounds 0 (.int .i64 0)).setIfInBounds 1 (.slice (some ⟨q, qo, none⟩) 1 cq)) more W
def AK4 (w : World) (bf : Nat) (W : World) : Prop := ∃ (bb q qo cq q2 qo2 cq2 : Nat) (o : Obj) (more : List RawB), WdAt ⟨q2, o⟩ qo2 4 ∧
  StA w bf n1 pA4 [] 0 bb ((((MB4.setIfInBounds 0 (.int .i64 0)).setIfInBounds 1 (.slice (some ⟨q, qo, none⟩) 1 cq)).setIfInBounds 2 (.int .i64 0)).setIfInBounds 3 (.slice (some ⟨q2, qo2, none⟩) 1 cq2)) (more ++ [⟨q2, o⟩]) W
theorem awake_ok (w : World) : Calls Try.prog 8 #[] w fun e w' => e = .returned (.bool true) ∧ KeptW [] w w' := by
  have v1 : wrap64 (2 - 1) = 1 := by rw [w64]; decide
  have v2 : wrap64 (1 - 1) = 0 := by rw [w64]; decide
  refine awake_walk (w.heap.size + 1) 0 0 w (fun W => NC w 1 1 5 1 W) (AK2 w (w.heap.size + 1)) (AK2 w (w.heap.size + 1)) (AK3 w (w.heap.size + 1)) (AK4 w (w.heap.size + 1)) (KeptW [] w)
    (new_ok w 1 1 5 (by decide) (by decide) (by decide)) (fun W hW => ?_) (fun W hW => choices_ok hW) (fun W hW => ?_) (fun W hW => ?_) (fun W hW => ?_)
  · obtain ⟨d, hd⟩ := ak_new hW
    exact post_all hd
  · obtain ⟨d, B, c, bb, cur, r, hcs, hc2, hc0, hc1, hA⟩ := hW
    refine step_ok (na := n0) (na' := n1) (pa' := pA3) (x := 0) (rest := [1]) (wv := 2) (wd := 0) (bb := bb) (bcur := MB4) (more := []) (qs := [row1, row2]) ⟨d, B, 0, c, cur, (0, 0), r, hc2, rfl, fun k y hy => ?_, hA⟩ (by decide) (by decide) (.inr rfl) e39a rfl rfl _ fun q qo cq o mid W' hwd hS => ?_
    · match k, hy with
      | 0, hy => cases hy; exact hc0
      | 1, hy => cases hy; exact hc1
      | k + 2, hy => simp at hy
    · rw [v1] at hS
      exact ⟨bb, q, qo, cq, _, hS⟩
  · obtain ⟨bb, q, qo, cq, more, hS⟩ := hW
    refine step_ok (na' := n1) (pa' := pA4) (wd := 4) (qs := [row2]) hS (by decide) (by decide) (.inl rfl) e39b rfl rfl _ fun q2 qo2 cq2 o mid W' hwd hS2 => ?_
    rw [v2] at hS2
    exact ⟨bb, q, qo, cq, q2, qo2, cq2, o, _, hwd, hS2⟩
  · obtain ⟨bb, q, qo, cq, q2, qo2, cq2, o, more, ⟨wc, wt, wfz, ho, hwd⟩, d, Bp, po, pc, pcur, fz, r, hpc, hbs, hps, hA⟩ := hW
    simp only at ho
    subst ho
    have hs := hA.st.set (i := 2) rfl (0 * 7 + 3) (.slice none 0 0)
    refine (take_walk (w.heap.size + 1) d.bc 0 1 2 2 ⟨bb, 0, none⟩ W (fun V => Wst w (d.its n1 pA4) ((d.raw (w.heap.size + 1) (r :: ⟨Bp, .cells pcur 3 fz⟩ :: rawC bb _ 67 :: (more ++ [⟨q2, .cells wc wt wfz⟩]))).set 2 _) V) (by decide) (hA.st.cell (i := 0) rfl hA.f.2.2.1) (hA.st.cell (i := 2) rfl hA.c.1) (hA.st.cell (i := 2) rfl hA.c.2.2.2.1) (hA.st.cell (i := 2) rfl hA.c.2.2.2.2.1) (hA.st.frozen (i := 2) rfl _) hs).mono fun e w' he => ?_
    obtain ⟨rfl, hs'⟩ := he
    refine ⟨bb, 2, some ⟨q, qo, none⟩, cq, q2, qo2, cq2, rfl, hs'.cell (i := 6) rfl rfl, hs'.cell (i := 6) rfl rfl, hs'.cell (i := 7 + more.length) (t := wt) (fz := wfz) ?_ hwd, hs'.kept⟩
    rw [List.getElem?_set_ne (by omega)]
    show (_ :: _ :: _ :: _ :: _ :: _ :: _ :: (more ++ [_]))[7 + more.length]? = _
    rw [Nat.add_comm 7]
    simp
end Go.Proofs.Ytnjccbnlmdajkaa
