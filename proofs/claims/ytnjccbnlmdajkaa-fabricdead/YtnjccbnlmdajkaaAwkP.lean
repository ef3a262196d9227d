/- The example of chapter 6: Post. -/
import Derived.Test.YtnjccbnlmdajkaaAwkA
import Derived.Test.YtnjccbnlmdajkaaAwkW
import Derived.Test.YtnjccbnlmdajkaaFbP5
import Derived.Test.YtnjccbnlmdajkaaPiecesS
import Derived.Test.YtnjccbnlmdajkaaEv10
set_option linter.all false
namespace Go.Proofs.Ytnjccbnlmdajkaa
open Go.RowKit Go.Shelf Go.Lib Go.Ev
set_option maxRecDepth 100000
theorem b1s_d {μ : Mu} {hp : HF} {a : AV} {v : Value} {cs : List AV} {vs : List Value} (h : DR μ a v) (k : B1s μ hp [] [] cs vs) : B1s μ hp [] [] (a :: cs) (v :: vs) := .cons (F := []) (F' := []) (G := []) (G' := []) (.c (.d h)) k
theorem b2s_d {μ : Mu} {hp : HF} {a : AV} {v : Value} {F : List Nat} {G : List Value} {cs : List AV} {vs : List Value} (h : B2 μ hp [] [] a v) (k : B2s μ hp F G cs vs) : B2s μ hp F G (a :: cs) (v :: vs) := .cons (F := []) (F' := F) (G := []) (G' := G) h k
theorem dr_nil' (μ : Mu) (sz : Nat) : DR μ (.lst true sz []) (.slice none 0 0) :=
  DR.lst (A := none) (c := 0) (xs := []) (fun _ _ => undef) rfl (fun _ => ⟨rfl, rfl⟩) (Nat.le_refl _) (fun e he => by cases he) (fun a ha => by cases ha) (fun k e j u hk => by simp at hk)
theorem vrb_b2 {μ : Mu} {hp : HF} (kd nd at_ n old nw key bt : Int) : B2 μ hp [] [] (.agg [.v (.int .i64 kd), .v (.int .i64 nd), .v (.int .i64 at_), .v (.int .i64 n), .v (.int .u64 old), .v (.int .u64 nw), .lst true 1 [], .v (.int .u64 key), .v (.int .i64 bt)]) (.agg (vCells kd nd at_ n old nw none 0 0 key bt)) :=
  .agg (vs := [.int .i64 kd, .int .i64 nd, .int .i64 at_, .int .i64 n, .int .u64 old, .int .u64 nw, .slice none 0 0, .int .u64 key, .int .i64 bt]) (b1s_d (.v rfl) (b1s_d (.v rfl) (b1s_d (.v rfl) (b1s_d (.v rfl) (b1s_d (.v rfl) (b1s_d (.v rfl) (b1s_d (dr_nil' μ 1) (b1s_d (.v rfl) (b1s_d (.v rfl) .nil)))))))))
theorem d_v {μ : Mu} {hp : HF} {v : Value} (h : okC (.v v) = true) : B2 μ hp [] [] (.v v) v := .o (.c (.d (.v h)))
section
variable {w : World} {bf : Nat} {d : AD} {na pa : AV} {bat plc : Value} {wv tr po : Int} {ext : List RawB} {V : World}
theorem s13_mk (h : AK w bf d na pa bat plc wv tr po ext V) {b : Nat} {kd nd at_ n old nw key bt : Int} {A : Option Addr} {l c : Nat} (hb : V.heap[b]? = some (.cells (vCells kd nd at_ n old nw A l c key bt) 50 (0, 0))) : S13 bf d.bn 1 d.cn 5 V b kd nd at_ n old nw A l c key bt :=
  ⟨cell_of hb rfl, cell_of hb rfl, cell_of hb rfl, cell_of hb rfl, cell_of hb rfl, cell_of hb rfl, cell_of hb rfl, cell_of hb rfl, cell_of hb rfl, h.st.cell (i := 0) rfl h.f.1, h.st.cell (i := 0) rfl h.f.2.1⟩
theorem valid_ok (h : AK w bf d na pa bat plc wv tr po ext V) {kd nd at_ n old nw key bt : Int} (hev : ev 35 [.agg [.v (.int .i64 kd), .v (.int .i64 nd), .v (.int .i64 at_), .v (.int .i64 n), .v (.int .u64 old), .v (.int .u64 nw), .lst true 1 [], .v (.int .u64 key), .v (.int .i64 bt)], .v (.int .i64 1), .v (.int .i64 5)] = some [.v (.int .i64 0)]) :
    S13 bf d.bn 1 d.cn 5 (V.alloc (.cells (vCells kd nd at_ n old nw none 0 0 key bt) 50)).drew V.heap.size kd nd at_ n old nw none 0 0 key bt ∧
    Calls Try.prog 35 #[.agg (vCells kd nd at_ n old nw none 0 0 key bt), .int .i64 (1 : Nat), .int .i64 5] (V.alloc (.cells (vCells kd nd at_ n old nw none 0 0 key bt) 50)).drew fun e w' => e = .returned (.int .i64 0) ∧ AK w bf d na pa bat plc wv tr po ext w' ∧ S13 bf d.bn 1 d.cn 5 w' V.heap.size kd nd at_ n old nw none 0 0 key bt := by
  have ka := KeptW.alloc V (.cells (vCells kd nd at_ n old nw none 0 0 key bt) 50)
  have h1 := (h.kept0 ka).kept0 (kept_drew _)
  have hb := Ev.alloc_new V (.cells (vCells kd nd at_ n old nw none 0 0 key bt) 50)
  refine ⟨s13_mk h1 hb, (call_lent mix extOk hev Try.func35 (b2s_d (vrb_b2 ..) (b2s_d (d_v rfl) (b2s_d (d_v rfl) .nil)))).mono fun e w' he => ?_⟩
  obtain ⟨vs, μ', F1, G1, rfl, hk, hle, hb3⟩ := he
  obtain ⟨rfl, _⟩ := b2s_vals_inv (F := F1) (G := G1) [.int .i64 0] hb3
  exact ⟨rfl, h1.kept0 hk, s13_mk (h1.kept0 hk) (hk.get hb List.not_mem_nil)⟩
end
theorem inf3A : (Try.prog.info? 3).map (fun i => (i.zero, i.size, i.bytes)) = some (some (.int .i64 0), 1, 8) := by kernel_rfl
theorem und52A : Try.prog.underlying 52 = some (.slice 3) := by kernel_rfl
theorem inf67A : (Try.prog.info? 67).map (fun i => (i.zero, i.size, i.bytes)) = some (some (.agg #[.int .i64 0, .slice none 0 0]), 2, 32) := by kernel_rfl
def PL (i : Nat) (plc : Value) (ext : List RawB) : Prop := (i = 0 ∧ plc = .slice none 0 0 ∧ ext = []) ∨ (0 < i ∧ ∃ (B c : Nat) (cur : Array Value), plc = .slice (some ⟨B, 0, none⟩) i c ∧ i ≤ c ∧ ext = [rawC B cur 3] ∧ cur.size = c * 1 ∧ ∀ k, k < i → cur[k]? = some (.int .i64 (k : Nat)))
theorem post_okA {w : World} {bf : Nat} {d : AD} {pa pa' : AV} {plc : Value} {vb i : Nat} {ext : List RawB} {V : World} (h : AK w bf d n0 pa (.slice none 0 0) plc 0 0 0 (rawC vb vb18 50 :: ext) V) (hpl : PL i plc ext) (hi : i < 2) {kd at_ n old nw key bt : Int}
    (hev : ev 36 [pa, .agg [.v (.int .i64 kd), .v (.int .i64 0), .v (.int .i64 at_), .v (.int .i64 n), .v (.int .u64 old), .v (.int .u64 nw), .lst true 1 [], .v (.int .u64 key), .v (.int .i64 bt)], .v (.int .i64 5)] = some ([.v (.int .i64 0)] ++ [pa'])) (hfl : flatO pa' = true) :
    Calls Try.prog 36 #[.pointer (some ⟨d.pp, 0, none⟩), .agg (vCells kd 0 at_ n old nw none 0 0 key bt), .int .i64 5] (V.alloc (.cells (vCells kd 0 at_ n old nw none 0 0 key bt) 50)).drew.drew fun e w' =>
      ∃ (x : Int) (PA : Option Addr) (pl pc B c' : Nat) (W4 : World), e = .returned (.int .i64 x) ∧ w'.cell? ⟨d.bl, 0 * 2 + 1, none⟩ = some (.slice PA pl pc) ∧
        Hid (∀ ty, (Builtin.append_ #[52, 52] ty #[.slice PA pl pc, .slice (some ⟨w'.heap.size, 0, none⟩) 1 1]).run Try.prog (w'.alloc (.cells #[.int .i64 i] 3)) = .ok (.slice (some ⟨B, 0, none⟩) (pl + 1) c') W4) ∧
        W4.frozen? ⟨d.bl, 0 * 2 + 1, none⟩ = false ∧ (∃ y, W4.cell? ⟨d.bl, 0 * 2 + 1, none⟩ = some y) ∧
        ∃ (d' : AD) (ext' : List RawB), (d'.bn = d.bn ∧ d'.cn = d.cn ∧ d'.bc = d.bc ∧ d'.bl = d.bl ∧ d'.cl = d.cl ∧ d'.pn = d.pn ∧ d'.pp = d.pp) ∧ PL (i + 1) (.slice (some ⟨B, 0, none⟩) (pl + 1) c') ext' ∧
          AK w bf d' n0 pa' (.slice none 0 0) (.slice (some ⟨B, 0, none⟩) (pl + 1) c') 0 0 0 (rawC vb vb18 50 :: ext') (W4.setCell ⟨d.bl, 0 * 2 + 1, none⟩ (.slice (some ⟨B, 0, none⟩) (pl + 1) c')) := by
  have ka := KeptW.alloc V (.cells (vCells kd 0 at_ n old nw none 0 0 key bt) 50)
  have h1 := ((h.kept0 ka).kept0 (kept_drew _)).kept0 (kept_drew _)
  generalize (V.alloc (.cells (vCells kd 0 at_ n old nw none 0 0 key bt) 50)).drew.drew = X at h1 ⊢
  have hpr : B1 mu0 (hf X) d.Fp [.pointer (some ⟨d.pp, 0, none⟩)] pa (.pointer (some ⟨d.pp, 0, none⟩)) := h1.st.own.ok ⟨_, d.Fp, pa⟩ (by simp)
  have hB : B2s mu0 (hf X) (foot [(⟨.pointer (some ⟨d.pp, 0, none⟩), d.Fp, pa⟩ : ItemO)]) ([(⟨.pointer (some ⟨d.pp, 0, none⟩), d.Fp, pa⟩ : ItemO)].map ItemO.p) [pa, .agg [.v (.int .i64 kd), .v (.int .i64 0), .v (.int .i64 at_), .v (.int .i64 n), .v (.int .u64 old), .v (.int .u64 nw), .lst true 1 [], .v (.int .u64 key), .v (.int .i64 bt)], .v (.int .i64 5)] [.pointer (some ⟨d.pp, 0, none⟩), .agg (vCells kd 0 at_ n old nw none 0 0 key bt), .int .i64 5] :=
    .cons (F' := []) (G' := []) (.o hpr) (b2s_d (vrb_b2 ..) (b2s_d (d_v rfl) .nil))
  refine (h1.st.call mix extOk [⟨.pointer (some ⟨d.pp, 0, none⟩), d.Fp, pa⟩] [⟨.pointer (some ⟨d.pn, 0, none⟩), d.Fn, n0⟩] (List.Perm.swap _ _ _) hev Try.func36 (by kernel_rfl) hB (by rw [List.all_cons, hfl]; rfl)).mono fun e w' he => ?_
  obtain ⟨vs, μ', F1, G1, xs', rfl, hb1, _, hp', ha', hst, _, _⟩ := he
  obtain ⟨rfl, _⟩ := b2s_vals_inv (F := F1) (G := G1) [.int .i64 0] hb1
  obtain ⟨⟨xp, xF, xa⟩, rfl⟩ := one_of (l := xs') (by have := congrArg List.length hp'; simpa using this)
  obtain rfl : xp = .pointer (some ⟨d.pp, 0, none⟩) := (List.cons.inj hp').1
  obtain rfl : xa = pa' := (List.cons.inj ha').1
  have hst2 : Wst w [⟨.pointer (some ⟨d.pn, 0, none⟩), d.Fn, n0⟩, ⟨.pointer (some ⟨d.pp, 0, none⟩), xF, xa⟩] (d.raw bf (rawC vb vb18 50 :: ext)) w' := hst.perm (List.Perm.swap _ _ _)
  obtain ⟨I, hI, hIz, hIs, hIb⟩ := info_parts inf3A
  have hst3 := hst2.kept0 (KeptW.alloc w' (.cells #[.int .i64 i] 3))
  have hE := Ev.alloc_new w' (.cells #[.int .i64 i] 3)
  have hone : ∀ v ∈ (#[Value.int .i64 (i : Nat)] : Array Value).toList, v.oneCell' = true := fun v hv => by
    simp only [List.mem_cons, List.not_mem_nil, or_false] at hv
    subst hv; rfl
  rcases hpl with ⟨rfl, rfl, rfl⟩ | ⟨h0, B, c, cur, rfl, hic, rfl, hcs, hcv⟩
  · obtain ⟨b', c', W4, cur', hrun, hst4, hs4, hc4, hnew⟩ := hst3.app0 (P := Try.prog) und52A hI hIz hIs (by omega) (by omega) rfl hE rfl hone
    have hst5 := hst4.set (i := 3) rfl (0 * 2 + 1) (.slice (some ⟨b', 0, none⟩) (0 + 1) c')
    refine ⟨0, none, 0, 0, b', c', W4, rfl, hst2.cell (i := 3) rfl h.l.2, hrun, hst4.frozen (i := 3) rfl _, ⟨_, hst4.cell (i := 3) rfl h.l.2⟩, { d with Fp := xF, curl := d.curl.setIfInBounds (0 * 2 + 1) (.slice (some ⟨b', 0, none⟩) (0 + 1) c') }, [rawC b' cur' 3], ⟨rfl, rfl, rfl, rfl, rfl, rfl, rfl⟩,
      .inr ⟨by omega, b', c', cur', rfl, hc4, rfl, hs4, fun k hk => ?_⟩, hst5, h.f, h.n, h.c, ?_, ?_⟩
    · obtain rfl : k = 0 := by omega
      exact hnew 0 (by decide)
    · rw [Array.getElem?_setIfInBounds, if_neg (by decide)]; exact h.l.1
    · have := (Array.getElem?_eq_some_iff.1 h.l.2).1
      rw [Array.getElem?_setIfInBounds, if_pos rfl, if_pos this]
  · obtain ⟨b', c', W4, cur', hrun, hst4, hs4, hc4, hold, hnew⟩ := hst3.app (P := Try.prog) (i := 5) rfl und52A hI hIz hIs (by omega) (by omega) rfl (l := i) (by omega) hic hcs hE rfl hone
    have hst5 := hst4.set (i := 3) rfl (0 * 2 + 1) (.slice (some ⟨b', 0, none⟩) (i + 1) c')
    refine ⟨0, some ⟨B, 0, none⟩, i, c, b', c', W4, rfl, hst2.cell (i := 3) rfl h.l.2, hrun, hst4.frozen (i := 3) rfl _, ⟨_, hst4.cell (i := 3) rfl h.l.2⟩, { d with Fp := xF, curl := d.curl.setIfInBounds (0 * 2 + 1) (.slice (some ⟨b', 0, none⟩) (i + 1) c') }, [rawC b' cur' 3], ⟨rfl, rfl, rfl, rfl, rfl, rfl, rfl⟩,
      .inr ⟨by omega, b', c', cur', rfl, hc4, rfl, hs4, fun k hk => ?_⟩, hst5, h.f, h.n, h.c, ?_, ?_⟩
    · by_cases hki : k < i
      · rw [hold k (by omega)]; exact hcv k hki
      · obtain rfl : k = i := by omega
        have := hnew 0 (by decide)
        simpa using this
    · rw [Array.getElem?_setIfInBounds, if_neg (by decide)]; exact h.l.1
    · have := (Array.getElem?_eq_some_iff.1 h.l.2).1
      rw [Array.getElem?_setIfInBounds, if_pos rfl, if_pos this]
end Go.Proofs.Ytnjccbnlmdajkaa
namespace Go.Proofs.Ytnjccbnlmdajkaa
open Go.RowKit Go.Shelf Go.Lib Go.Ev
set_option maxRecDepth 100000
def pAn : Nat → AV
  | 0 => pA0
  | 1 => pA1
  | _ => pA2
abbrev MB4 : Array Value := #[.int .i64 0, .slice none 0 0, .int .i64 0, .slice none 0 0]
def AK2 (w : World) (bf : Nat) (W : World) : Prop := ∃ (d : AD) (B c bb : Nat) (cur : Array Value) (r : RawB), cur.size = c * 1 ∧ 2 ≤ c ∧ cur[0]? = some (.int .i64 0) ∧ cur[1]? = some (.int .i64 1) ∧
  AK w bf d n0 pA2 (.slice (some ⟨bb, 0, none⟩) 2 2) (.slice (some ⟨B, 0, none⟩) 2 c) 2 1 2 [r, rawC B cur 3, rawC bb MB4 67] W
theorem ltwo {i : Nat} (h : i < 2) : i = 0 ∨ i = 1 := by omega
theorem post_endA {w : World} {bf : Nat} {d : AD} {plc : Value} {r : RawB} {ext : List RawB} {V : World} (h : AK w bf d n0 pA2 (.slice none 0 0) plc 0 0 0 (r :: ext) V) (hpl : PL 2 plc ext) : PostEnd d.bc 0 2 V (AK2 w bf) := by
  rcases hpl with ⟨e, _⟩ | ⟨_, B, c, cur, rfl, hic, rfl, hcs, hcv⟩
  · cases e
  obtain ⟨I, hI, hIz, hIs, hIb⟩ := info_parts inf67A
  have hmk := run_make V 44 67 I _ und44 hI hIz .i64 .i64 (2 : Int) (2 : Int) (by decide) (Int.le_refl _) (by rw [hIb]; decide) (by decide)
  rw [show (2 : Int).toNat = 2 from rfl, hIs] at hmk
  have hMC : madeCells (Value.agg #[.int .i64 0, .slice none 0 0]).cells (2 * 2) = MB4 := by kernel_rfl
  rw [hMC] at hmk
  have hs1 := h.st.alloc MB4 67
  have c3 := (Array.getElem?_eq_some_iff.1 h.c.2.2.2.1).1
  have c4 := (Array.getElem?_eq_some_iff.1 h.c.2.2.2.2.1).1
  have c5 := (Array.getElem?_eq_some_iff.1 h.c.2.2.2.2.2.1).1
  have c6 := (Array.getElem?_eq_some_iff.1 h.c.2.2.2.2.2.2).1
  have hs2 := hs1.set (i := 2) rfl (0 * 7 + 3) (.slice (some ⟨V.heap.size, 0, none⟩) 2 2)
  have hs3 := hs2.set (i := 2) rfl (0 * 7 + 4) (.int .i64 (2 : Nat))
  have hs4 := hs3.set (i := 2) rfl (0 * 7 + 5) (.int .i64 (wrap64 (0 + 1)))
  have hs5 := hs4.set (i := 2) rfl (0 * 7 + 6) (.int .i64 (wrap64 (0 + (2 : Nat))))
  have w1 : wrap64 (0 + 1) = 1 := by rw [w64]; decide
  have w2 : wrap64 (0 + ((2 : Nat) : Int)) = 2 := by rw [w64]; decide
  refine ⟨MB4, _, _, _, _, 0, 0, hmk, hs1.frozen (i := 2) rfl _, ⟨_, hs1.cell (i := 2) rfl h.c.2.2.2.1⟩, rfl, hs2.frozen (i := 2) rfl _, ⟨.int .i64 0, hs2.cell (i := 2) (v := .int .i64 0) rfl ?_⟩, rfl, hs3.frozen (i := 2) rfl _, hs3.cell (i := 2) (v := .int .i64 0) rfl ?_, rfl, hs4.frozen (i := 2) rfl _, hs4.cell (i := 2) (v := .int .i64 0) rfl ?_, rfl,
    { d with curc := (((d.curc.setIfInBounds (0 * 7 + 3) (.slice (some ⟨V.heap.size, 0, none⟩) 2 2)).setIfInBounds (0 * 7 + 4) (.int .i64 (2 : Nat))).setIfInBounds (0 * 7 + 5) (.int .i64 (wrap64 (0 + 1)))).setIfInBounds (0 * 7 + 6) (.int .i64 (wrap64 (0 + (2 : Nat)))) }, B, c, V.heap.size, cur, r, hcs, hic, hcv 0 (by decide), hcv 1 (by decide), hs5, h.f, h.n, ⟨?_, ?_, ?_, ?_, ?_, ?_, ?_⟩, h.l⟩
  · rw [Array.getElem?_setIfInBounds, if_neg (by decide)]; exact h.c.2.2.2.2.1
  · rw [Array.getElem?_setIfInBounds, if_neg (by decide), Array.getElem?_setIfInBounds, if_neg (by decide)]; exact h.c.2.2.2.2.2.1
  · rw [Array.getElem?_setIfInBounds, if_neg (by decide), Array.getElem?_setIfInBounds, if_neg (by decide), Array.getElem?_setIfInBounds, if_neg (by decide)]; exact h.c.2.2.2.2.2.2
  all_goals simp only [Array.getElem?_setIfInBounds, Array.size_setIfInBounds]
  · rw [if_neg (by decide), if_neg (by decide), if_neg (by decide), if_neg (by decide)]; exact h.c.1
  · rw [if_neg (by decide), if_neg (by decide), if_neg (by decide), if_neg (by decide)]; exact h.c.2.1
  · rw [if_neg (by decide), if_neg (by decide), if_neg (by decide), if_neg (by decide)]; exact h.c.2.2.1
  · rw [if_neg (by decide), if_neg (by decide), if_neg (by decide), if_pos trivial, if_pos c3]
  · rw [if_neg (by decide), if_neg (by decide), if_pos trivial, if_pos c4]; rfl
  · rw [if_neg (by decide), if_pos trivial, if_pos c5, w1]
  · rw [if_pos trivial, if_pos c6, w2]
theorem post_all {w : World} {bf : Nat} {d : AD} {W : World} (h : AK w bf d n0 pA0 (.slice none 0 0) (.slice none 0 0) 0 0 0 [] W) :
    Calls Try.prog 18 #[.pointer (some ⟨bf, 0, none⟩), .int .i64 0, .slice (some ⟨W.heap.size, 0, none⟩) 2 2] (W.alloc (.cells vb18 50)) fun e w' => e = .returned (.int .i64 0) ∧ AK2 w bf w' := by
  have h0 : AK w bf d n0 pA0 (.slice none 0 0) (.slice none 0 0) 0 0 0 [rawC W.heap.size vb18 50] (W.alloc (.cells vb18 50)) := ⟨h.st.alloc vb18 50, h.f, h.n, h.c, h.l⟩
  generalize W.heap.size = vb at h0 ⊢
  generalize W.alloc (.cells vb18 50) = X at h0 ⊢
  refine post_walk bf d.bc 0 1 d.bn 1 d.cn vb 0 2 2 5 X (fun _ V => AK w bf d n0 pA0 (.slice none 0 0) (.slice none 0 0) 0 0 0 [rawC vb vb18 50] V)
    (fun i V => ∃ (d' : AD) (plc : Value) (ext : List RawB), (d'.bn = d.bn ∧ d'.cn = d.cn ∧ d'.bc = d.bc ∧ d'.bl = d.bl ∧ d'.cl = d.cl ∧ d'.pn = d.pn ∧ d'.pp = d.pp) ∧ PL i plc ext ∧ AK w bf d' n0 (pAn i) (.slice none 0 0) plc 0 0 0 (rawC vb vb18 50 :: ext) V)
    (AK2 w bf) (by decide) (by decide) (h0.st.cell (i := 0) rfl h0.f.2.2.1) (h0.st.cell (i := 2) rfl h0.c.1) (h0.st.cell (i := 2) rfl h0.c.2.2.2.1) h0 (fun i V hi hJ => ?_) (fun V hJ => ⟨d, _, [], ⟨rfl, rfl, rfl, rfl, rfl, rfl, rfl⟩, .inl ⟨rfl, rfl, rfl⟩, hJ⟩) ⟨fun i V hi hJ => ?_, fun V hJ => ?_⟩
  · have hc : ∀ j v, vb18[j]? = some v → V.cell? ⟨vb, j, none⟩ = some v := fun j v hv => hJ.st.cell (i := 4) rfl hv
    rcases ltwo hi with rfl | rfl
    · obtain ⟨a, b⟩ := valid_ok hJ e35a
      exact ⟨3, 0, 0, 0, 0, 4, none, 0, 0, 0, 0, ⟨hc 0 _ rfl, hc 1 _ rfl, hc 2 _ rfl, hc 3 _ rfl, hc 4 _ rfl, hc 5 _ rfl, hc 6 _ rfl, hc 7 _ rfl, hc 8 _ rfl⟩, a, b⟩
    · obtain ⟨a, b⟩ := valid_ok hJ e35b
      exact ⟨1, 0, 0, 1, 0, 0, none, 0, 0, 0, 0, ⟨hc 9 _ rfl, hc 10 _ rfl, hc 11 _ rfl, hc 12 _ rfl, hc 13 _ rfl, hc 14 _ rfl, hc 15 _ rfl, hc 16 _ rfl, hc 17 _ rfl⟩, a, b⟩
  · obtain ⟨d', plc, ext, ⟨g1, g2, g3, g4, g5, g6, g7⟩, hpl, hA⟩ := hJ
    rw [← g3]
    have hc : ∀ j v, vb18[j]? = some v → V.cell? ⟨vb, j, none⟩ = some v := fun j v hv => hA.st.cell (i := 4) rfl hv
    have hcf : ∀ o, (V.alloc o).cell? ⟨bf, 0, none⟩ = some (.int .i64 5) := fun o => (hA.kept0 (KeptW.alloc V o)).st.cell (i := 0) rfl hA.f.1
    have hcc : ∀ o, (V.alloc o).cell? ⟨d'.bc, 0 * 7 + 2, none⟩ = some (.slice (some ⟨d'.bl, 0, none⟩) 1 d'.cl) := fun o => (hA.kept0 (KeptW.alloc V o)).st.cell (i := 2) rfl hA.c.2.2.1
    have hcl : ∀ o, (V.alloc o).cell? ⟨d'.bl, 0 * 2, none⟩ = some (.pointer (some ⟨d'.pp, 0, none⟩)) := fun o => (hA.kept0 (KeptW.alloc V o)).st.cell (i := 3) rfl hA.l.1
    rcases ltwo hi with rfl | rfl
    · refine ⟨3, 0, 0, 0, 0, 4, none, 0, 0, 0, 0, d'.bl, 1, d'.cl, d'.pp, ⟨hc 0 _ rfl, hc 1 _ rfl, hc 2 _ rfl, hc 3 _ rfl, hc 4 _ rfl, hc 5 _ rfl, hc 6 _ rfl, hc 7 _ rfl, hc 8 _ rfl⟩, hcf, hcc, by decide, hcl, (post_okA hA hpl (by decide) e36a rfl).mono fun e w' he => ?_⟩
      obtain ⟨x, PA, pl, pc, B, c', W4, he, q1, q2, q3, q4, d2, ext', ⟨k1, k2, k3, k4, k5, k6, k7⟩, hp2, hA2⟩ := he
      exact ⟨x, PA, pl, pc, B, c', W4, he, q1, q2, q3, q4, d2, _, ext', ⟨k1.trans g1, k2.trans g2, k3, k4.trans g4, k5.trans g5, k6.trans g6, k7.trans g7⟩, hp2, hA2⟩
    · refine ⟨1, 0, 0, 1, 0, 0, none, 0, 0, 0, 0, d'.bl, 1, d'.cl, d'.pp, ⟨hc 9 _ rfl, hc 10 _ rfl, hc 11 _ rfl, hc 12 _ rfl, hc 13 _ rfl, hc 14 _ rfl, hc 15 _ rfl, hc 16 _ rfl, hc 17 _ rfl⟩, hcf, hcc, by decide, hcl, (post_okA hA hpl (by decide) e36b rfl).mono fun e w' he => ?_⟩
      obtain ⟨x, PA, pl, pc, B, c', W4, he, q1, q2, q3, q4, d2, ext', ⟨k1, k2, k3, k4, k5, k6, k7⟩, hp2, hA2⟩ := he
      exact ⟨x, PA, pl, pc, B, c', W4, he, q1, q2, q3, q4, d2, _, ext', ⟨k1.trans g1, k2.trans g2, k3, k4.trans g4, k5.trans g5, k6.trans g6, k7.trans g7⟩, hp2, hA2⟩
  · obtain ⟨d', plc, ext, ⟨g1, g2, g3, g4, g5, g6, g7⟩, hpl, hA⟩ := hJ
    rw [← g3]
    exact post_endA hA hpl
end Go.Proofs.Ytnjccbnlmdajkaa
namespace Go.Proofs.Ytnjccbnlmdajkaa
open Go.RowKit Go.Shelf Go.Lib Go.Ev
set_option maxRecDepth 100000
def WdAt (r : RawB) (qo : Nat) (wd : Int) : Prop := ∃ (cur : Array Value) (t : Nat) (fz : Nat × Nat), r.o = .cells cur t fz ∧ cur[qo]? = some (.int .u64 wd)
theorem word_of {μ : Mu} {w : World} {wd : Int} {v : Value} (hle : MuLe μ (hf w)) (h : DR μ (.lst false 1 [[.v (.int .u64 wd)]]) v) : ∃ (q qo c : Nat) (o : Obj), v = .slice (some ⟨q, qo, none⟩) 1 c ∧ μ q = some o ∧ w.heap[q]? = some o ∧ WdAt ⟨q, o⟩ qo wd := by
  cases h with
  | @lst _ _ _ A c vals hnil hA hc hsz hcell hv =>
    cases A with
    | none => cases hnil
    | some a =>
      have h1 := hcell a rfl 0 0 (by simp) (by decide)
      have h2 := hv 0 _ 0 _ rfl rfl
      generalize vals 0 0 = y at h1 h2
      cases h2
      obtain ⟨q, qo, s⟩ := a
      rw [show (0 * 1 + 0 : Nat) = 0 by decide] at h1
      cases s with
      | some s =>
        simp only [Addr.add, if_true, muCell] at h1
        split at h1 <;> simp at h1
      | none =>
        rw [Addr.add_lit, Nat.add_zero] at h1
        unfold muCell at h1
        simp only at h1
        split at h1
        · rename_i cc ty fz hm
          exact ⟨q, qo, c, _, rfl, hm, hle _ _ hm, cc, ty, fz, rfl, by simpa using h1⟩
        · cases h1
theorem b2_agg2 {μ : Mu} {hp : HF} {F : List Nat} {G : List Value} {a b : AV} {v : Value} (h : B2 μ hp F G (.agg [a, b]) v) : ∃ (Fa Fb : List Nat) (Ga Gb : List Value) (v0 v1 : Value), v = .agg #[v0, v1] ∧ B1 μ hp Fa Ga a v0 ∧ B1 μ hp Fb Gb b v1 := by
  cases h with
  | o h => cases h with | c h => cases h with | d h => cases h
  | agg h => cases h with
    | cons h0 h => cases h with
      | cons h1 h => cases h; exact ⟨_, _, _, _, _, _, rfl, h0, h1⟩
theorem core39 {w : World} {bf : Nat} {d : AD} {na pa na' pa' : AV} {bat plc : Value} {wv tr po wd : Int} {ext : List RawB} {V : World} (h : AK w bf d na pa bat plc wv tr po ext V)
    (hev : ev 39 [pa, na] = some ([.agg [.v (.int .i64 0), .lst false 1 [[.v (.int .u64 wd)]]], .v (.bool true)] ++ [pa', na'])) (hf1 : flatO pa' = true) (hf2 : flatO na' = true) :
    Calls Try.prog 39 #[.pointer (some ⟨d.pp, 0, none⟩), .pointer (some ⟨d.pn, 0, none⟩)] V fun e w' => ∃ (q qo c : Nat) (o : Obj) (Fn' Fp' : List Nat), e = .returned (.tuple #[.agg #[.int .i64 0, .slice (some ⟨q, qo, none⟩) 1 c], .bool true]) ∧ WdAt ⟨q, o⟩ qo wd ∧
      AK w bf { d with Fn := Fn', Fp := Fp' } na' pa' bat plc wv tr po (ext ++ [⟨q, o⟩]) w' := by
  have hpp : B1 mu0 (hf V) d.Fp [.pointer (some ⟨d.pp, 0, none⟩)] pa (.pointer (some ⟨d.pp, 0, none⟩)) := h.st.own.ok ⟨_, d.Fp, pa⟩ (by simp)
  have hpn : B1 mu0 (hf V) d.Fn [.pointer (some ⟨d.pn, 0, none⟩)] na (.pointer (some ⟨d.pn, 0, none⟩)) := h.st.own.ok ⟨_, d.Fn, na⟩ (by simp)
  have hB : B2s mu0 (hf V) (foot [(⟨.pointer (some ⟨d.pp, 0, none⟩), d.Fp, pa⟩ : ItemO), ⟨.pointer (some ⟨d.pn, 0, none⟩), d.Fn, na⟩]) ([(⟨.pointer (some ⟨d.pp, 0, none⟩), d.Fp, pa⟩ : ItemO), ⟨.pointer (some ⟨d.pn, 0, none⟩), d.Fn, na⟩].map ItemO.p) [pa, na] [.pointer (some ⟨d.pp, 0, none⟩), .pointer (some ⟨d.pn, 0, none⟩)] :=
    .cons (.o hpp) (.cons (F' := []) (G' := []) (.o hpn) .nil)
  refine (h.st.call mix extOk [⟨.pointer (some ⟨d.pp, 0, none⟩), d.Fp, pa⟩, ⟨.pointer (some ⟨d.pn, 0, none⟩), d.Fn, na⟩] [] (List.Perm.swap _ _ _) hev Try.func39 (by kernel_rfl) hB (by rw [List.all_cons, hf1, List.all_cons, hf2]; rfl)).mono fun e w' he => ?_
  obtain ⟨vs, μ', F1, G1, xs', rfl, hb1, hle, hp', ha', hst, hap, _⟩ := he
  obtain ⟨_, _, _, _, v0, vs', _, _, rfl, hv0, hr⟩ := b2s_cons hb1
  obtain ⟨u, rfl, hu⟩ := Go.Ev.b2s_one hr
  obtain ⟨_, _, rfl⟩ := b2_v hu
  obtain ⟨_, _, _, _, y0, y1, rfl, hy0, hy1⟩ := b2_agg2 hv0
  obtain ⟨_, _, rfl⟩ := b1_v hy0
  obtain ⟨_, _, hy1⟩ := Go.Ev.b1_lst hy1
  obtain ⟨q, qo, c, o, rfl, hm, hq, hwd⟩ := word_of hle hy1
  match xs', hp', ha' with
  | [⟨x1, F1', a1⟩, ⟨x2, F2', a2⟩], hp', ha' =>
    obtain rfl : x1 = .pointer (some ⟨d.pp, 0, none⟩) := (List.cons.inj hp').1
    obtain rfl : x2 = .pointer (some ⟨d.pn, 0, none⟩) := (List.cons.inj (List.cons.inj hp').2).1
    obtain rfl : a1 = pa' := (List.cons.inj ha').1
    obtain rfl : a2 = na' := (List.cons.inj (List.cons.inj ha').2).1
    obtain ⟨r1, r2, r3⟩ := hap q (.inr ⟨o, hm⟩)
    have hst2 := (hst.addOld hq r1 r2 r3).perm (List.Perm.swap _ _ _)
    exact ⟨q, qo, c, o, F2', F1', rfl, hwd, hst2, h.f, h.n, h.c, h.l⟩
end Go.Proofs.Ytnjccbnlmdajkaa
namespace Go.Proofs.Ytnjccbnlmdajkaa
open Go.RowKit Go.Shelf Go.Lib Go.Ev
set_option maxRecDepth 100000
def StA (w : World) (bf : Nat) (na pa : AV) (ps : List Nat) (wv : Int) (bb : Nat) (bcur : Array Value) (more : List RawB) (W : World) : Prop := ∃ (d : AD) (Bp po pc : Nat) (pcur : Array Value) (fz : Nat × Nat) (r : RawB), ps.length ≤ pc ∧ bcur.size = 4 ∧ (∀ k x, ps[k]? = some x → pcur[po + k]? = some (.int .i64 (x : Nat))) ∧
  AK w bf d na pa (.slice (some ⟨bb, 0, none⟩) 2 2) (.slice (some ⟨Bp, po, none⟩) ps.length pc) wv 1 2 (r :: ⟨Bp, .cells pcur 3 fz⟩ :: rawC bb bcur 67 :: more) W
theorem e40 (l : List AV) (h : l = [] ∨ l = [.v (.int .i64 1)]) : ev 40 [.lst false 1 (l.map fun a => [a])] = some [.ow false 3 1 (l.map fun a => [a])] := by
  rcases h with rfl | rfl
  · exact evL_of (n := 12) (by kernel_rfl)
  · exact evL_of (n := 12) (by kernel_rfl)
theorem AK.drop {w : World} {bf : Nat} {d : AD} {na pa : AV} {bat plc : Value} {wv tr po : Int} {ext ext' : List RawB} {W : World} (h : AK w bf d na pa bat plc wv tr po (ext ++ ext') W) : AK w bf d na pa bat plc wv tr po ext W :=
  ⟨h.st.drop (raw := d.raw bf ext) (raw' := ext'), h.f, h.n, h.c, h.l⟩
theorem lent_ints {W : World} {B po len c : Nat} {pcur : Array Value} {fz : Nat × Nat} {xs : List Nat} (hb : W.heap[B]? = some (.cells pcur 3 fz)) (hl : xs.length = len) (hc : len ≤ c) (hx : ∀ k x, xs[k]? = some x → pcur[po + k]? = some (.int .i64 (x : Nat))) :
    DR (hf W) (.lst false 1 ((xs.map fun x : Nat => AV.v (.int .i64 (x : Nat))).map fun a => [a])) (.slice (some ⟨B, po, none⟩) len c) := by
  have hlen : ((xs.map fun x : Nat => AV.v (.int .i64 (x : Nat))).map fun a => [a]).length = len := by simp [hl]
  rw [← hlen]
  refine .lst (fun k _ => (xs[k]?.map fun x : Nat => Value.int .i64 (x : Nat)).getD undef) rfl (fun e => by cases e) (by rw [hlen]; exact hc) (fun e he => ?_) (fun a ha k j hk hj => ?_) (fun k e j u hk hj => ?_)
  · simp only [List.map_map, List.mem_map] at he
    obtain ⟨x, _, rfl⟩ := he
    rfl
  · cases ha
    rw [hlen, ← hl] at hk
    have hxk := List.getElem?_eq_getElem hk
    have hj0 : j = 0 := by omega
    subst hj0
    rw [Addr.add_lit]
    unfold muCell
    have hb' : hf W B = some (.cells pcur 3 fz) := hb
    simp only [hb', hxk, Option.map_some, Option.getD_some]
    have := hx k _ hxk
    rw [Nat.mul_one, Nat.add_zero]
    simpa using this
  · rw [List.getElem?_map, List.getElem?_map] at hk
    cases hxk : xs[k]? with
    | none => rw [hxk] at hk; cases hk
    | some x =>
      rw [hxk] at hk
      obtain rfl := Option.some.inj hk
      match j, hj with
      | 0, hj => cases hj; exact .v rfl
      | j + 1, hj => simp at hj
theorem fin_ok {w : World} {bf : Nat} {d : AD} {na pa : AV} {x : Nat} {rest : List Nat} {wv : Int} {bb : Nat} {bcur : Array Value} {more : List RawB} {W : World} {Bp po pc : Nat} {pcur : Array Value} {fz : Nat × Nat} {r : RawB} {t7 q qo cq : Nat} (hpc : (x :: rest).length ≤ pc) (hbs : bcur.size = 4) (hx2 : x < 2)
    (hps : ∀ k y, (x :: rest)[k]? = some y → pcur[po + k]? = some (.int .i64 (y : Nat))) (hrest : rest = [] ∨ rest = [1])
    (h : AK w bf d na pa (.slice (some ⟨bb, 0, none⟩) 2 2) (.slice (some ⟨Bp, po, none⟩) (x :: rest).length pc) wv 1 2 (r :: ⟨Bp, .cells pcur 3 fz⟩ :: rawC bb bcur 67 :: (more ++ [rawC t7 #[.int .i64 0, .slice (some ⟨q, qo, none⟩) 1 cq] 67])) W)
    (K : World → Prop) (hK : ∀ W', StA w bf na pa rest (wrap64 (wv - 1)) bb ((bcur.setIfInBounds (x * 2) (.int .i64 0)).setIfInBounds (x * 2 + 1) (.slice (some ⟨q, qo, none⟩) 1 cq)) more W' → K W') :
    StpFin d.bc 0 d.bl 0 t7 0 (some ⟨q, qo, none⟩) 1 cq W K := by
  have hit : (d.raw bf (r :: ⟨Bp, .cells pcur 3 fz⟩ :: rawC bb bcur 67 :: (more ++ [rawC t7 #[.int .i64 0, .slice (some ⟨q, qo, none⟩) 1 cq] 67])))[7 + more.length]? = some (rawC t7 #[.int .i64 0, .slice (some ⟨q, qo, none⟩) 1 cq] 67) := by
    show (_ :: _ :: _ :: _ :: _ :: _ :: _ :: (more ++ [_]))[7 + more.length]? = _
    rw [Nat.add_comm]
    simp
  have hs1 := h.st.set (i := 6) rfl (x * 2) (.int .i64 0)
  have hs2 := hs1.set (i := 6) rfl (x * 2 + 1) (.slice (some ⟨q, qo, none⟩) 1 cq)
  have hit2 : ∀ a b : RawB, (((d.raw bf (r :: ⟨Bp, .cells pcur 3 fz⟩ :: rawC bb bcur 67 :: (more ++ [rawC t7 #[.int .i64 0, .slice (some ⟨q, qo, none⟩) 1 cq] 67]))).set 6 a).set 6 b)[7 + more.length]? = some (rawC t7 #[.int .i64 0, .slice (some ⟨q, qo, none⟩) 1 cq] 67) := fun a b => by
    rw [List.getElem?_set_ne (by omega), List.getElem?_set_ne (by omega)]; exact hit
  have hp0 := hps 0 x rfl
  rw [Nat.add_zero] at hp0
  refine ⟨bb, 2, 2, Bp, po, (x :: rest).length, pc, x, wv, hx2, by rw [List.length_cons]; omega, ⟨h.st.cell (i := 2) rfl h.c.2.2.2.1, h.st.cell (i := 3) rfl h.l.2, h.st.cell (i := 5) rfl hp0, h.st.cell hit rfl, h.st.cell hit rfl⟩, h.st.frozen (i := 6) rfl _, ⟨_, h.st.cell (i := 6) (v := bcur[x * 2]) rfl (Array.getElem?_eq_getElem (by omega))⟩, hs1.frozen (i := 6) rfl _,
    ⟨_, hs1.cell (i := 6) (v := bcur[x * 2 + 1]) rfl (by rw [Array.getElem?_setIfInBounds, if_neg (by omega)]; exact Array.getElem?_eq_getElem (by omega))⟩, ⟨hs2.cell (i := 2) rfl h.c.2.2.2.1, hs2.cell (i := 3) rfl h.l.2, hs2.cell (i := 5) rfl hp0, hs2.cell (hit2 _ _) rfl, hs2.cell (hit2 _ _) rfl⟩, fun qv hqv => ?_⟩
  have hs3 := hs2.drew
  generalize ((W.setCell ⟨bb, x * 2, none⟩ (.int .i64 0)).setCell ⟨bb, x * 2 + 1, none⟩ (.slice (some ⟨q, qo, none⟩) 1 cq)).drew = X at hs3 ⊢
  have hbp := (hs3.blk 5 ⟨Bp, .cells pcur 3 fz⟩ rfl).1
  have hdr : DR (hf X) (.lst false 1 ((rest.map fun y : Nat => AV.v (.int .i64 (y : Nat))).map fun a => [a])) qv := by
    rcases hqv with ⟨rfl, hp1⟩ | ⟨rfl, hp1⟩
    · exact lent_ints hbp (by simp) (by rw [List.length_cons] at hpc ⊢; omega) fun k y hy => by
        have := hps (k + 1) y (by simpa using hy)
        rw [← this]; congr 1; omega
    · have : rest = [] := by rw [List.length_cons] at hpc; exact List.eq_nil_of_length_eq_zero (by omega)
      subst this
      exact lent_ints hbp rfl (by simp) fun k y hy => by simp at hy
  have hev := e40 (rest.map fun y : Nat => AV.v (.int .i64 (y : Nat))) (by rcases hrest with rfl | rfl; exact .inl rfl; exact .inr rfl)
  refine (call_lentN mix extOk hev Try.func40 (.cons (F := []) (F' := []) (G := []) (G' := []) (.o (.c (.d hdr))) .nil)).mono fun e w' he => ?_
  obtain ⟨vs, μ', F1, G1, rfl, hk, hle, hb2, hnw⟩ := he
  obtain ⟨v, rfl, hv⟩ := Go.Ev.b2s_one hb2
  obtain ⟨b, c, cur, fz', rfl, rfl, hcell, hlc, hcv⟩ := ow_new hv
  have hbn := hnw b (by simp)
  have hs4 := hs3.kept0 hk
  have hs5 := hs3.repl (i := 5) (r' := ⟨b, .cells cur 3 fz'⟩) rfl (hk.mono fun x hx => by cases hx) hcell (.inr hbn)
  · have hs6 := hs5.set (i := 3) rfl (0 * 2 + 1) (.slice (some ⟨b, 0, none⟩) ((rest.map fun y : Nat => AV.v (.int .i64 (y : Nat))).map fun a => [a]).length c)
    have hs7 := hs6.set (i := 2) rfl (0 * 7 + 4) (.int .i64 (wrap64 (wv - 1)))
    have hl1 := (Array.getElem?_eq_some_iff.1 h.l.2).1
    have hc4 := (Array.getElem?_eq_some_iff.1 h.c.2.2.2.2.1).1
    have hlen : ((rest.map fun y : Nat => AV.v (.int .i64 (y : Nat))).map fun a => [a]).length = rest.length := by simp
    rw [hlen] at hs7 hs6 hlc ⊢
    refine ⟨some ⟨b, 0, none⟩, rest.length, c, _, rfl, hs4.frozen (i := 3) rfl _, ⟨_, hs4.cell (i := 3) rfl h.l.2⟩, rfl, hs6.frozen (i := 2) rfl _, hs6.cell (i := 2) rfl h.c.2.2.2.2.1, hK _ ?_⟩
    refine ⟨{ d with curl := d.curl.setIfInBounds (0 * 2 + 1) (.slice (some ⟨b, 0, none⟩) rest.length c), curc := d.curc.setIfInBounds (0 * 7 + 4) (.int .i64 (wrap64 (wv - 1))) }, b, 0, c, cur, fz', r, hlc, by rw [Array.size_setIfInBounds, Array.size_setIfInBounds]; exact hbs, fun k y hy => ?_, AK.drop (ext' := [rawC t7 #[.int .i64 0, .slice (some ⟨q, qo, none⟩) 1 cq] 67]) ⟨hs7, h.f, h.n, ⟨?_, ?_, ?_, ?_, ?_, ?_, ?_⟩, ?_, ?_⟩⟩
    · have := hcv k 0 [AV.v (.int .i64 (y : Nat))] _ (by rw [List.getElem?_map, List.getElem?_map, hy]; rfl) rfl
      rw [Nat.zero_add]
      simpa using this
    · rw [Array.getElem?_setIfInBounds, if_neg (by decide)]; exact h.c.1
    · rw [Array.getElem?_setIfInBounds, if_neg (by decide)]; exact h.c.2.1
    · rw [Array.getElem?_setIfInBounds, if_neg (by decide)]; exact h.c.2.2.1
    · rw [Array.getElem?_setIfInBounds, if_neg (by decide)]; exact h.c.2.2.2.1
    · rw [Array.getElem?_setIfInBounds, if_pos rfl, if_pos hc4]
    · rw [Array.getElem?_setIfInBounds, if_neg (by decide)]; exact h.c.2.2.2.2.2.1
    · rw [Array.getElem?_setIfInBounds, if_neg (by decide)]; exact h.c.2.2.2.2.2.2
    · rw [Array.getElem?_setIfInBounds, if_neg (by decide)]; exact h.l.1
    · rw [Array.getElem?_setIfInBounds, if_pos rfl, if_pos hl1]
theorem pair_cell {W : World} {pp : Nat} {F : List Nat} {qn : Bool} {qs : List (List AV)} {wl : AV} (h : B1 mu0 (hf W) F [.pointer (some ⟨pp, 0, none⟩)] (pAA qn qs wl) (.pointer (some ⟨pp, 0, none⟩))) : ∃ (VA : Option Addr) (vc : Nat), W.cell? ⟨pp, 3, none⟩ = some (.slice VA qs.length vc) := by
  cases h with
  | @ob _ _ _ _ cur hb hm hc =>
    have hlen := hc.len
    obtain ⟨l, hl⟩ : ∃ l, cur.toList = l := ⟨_, rfl⟩
    rw [hl] at hc hlen
    match l, hlen with
    | [v0, v1, v2, v3, v4, v5], _ =>
      have c3 : cur[3]? = some v3 := by have := congrArg (fun l => l[3]?) hl; simpa using this
      have hb' : W.heap[pp]? = some (.cells cur 99 (0, 0)) := hb
      cases hc with
      | cons _ hc => cases hc with
        | cons _ hc => cases hc with
          | cons _ hc => cases hc with
            | cons h3 hc =>
              cases h3 with
              | d h => cases h
              | own => exact ⟨none, 0, cell_of hb' c3⟩
              | ow => exact ⟨_, _, cell_of hb' c3⟩
theorem nodup_b {raw : List RawB} (h : ∀ (i j : Nat) (r s : RawB), raw[i]? = some r → raw[j]? = some s → r.b = s.b → i = j) : (raw.map RawB.b).Nodup := by
  rw [List.Nodup, List.pairwise_iff_getElem]
  intro i j hi hj hij e
  rw [List.length_map] at hi hj
  rw [List.getElem_map, List.getElem_map] at e
  have := h i j _ _ (List.getElem?_eq_getElem hi) (List.getElem?_eq_getElem hj) e
  omega
theorem nodup_b' {raw : List RawB} (h : (raw.map RawB.b).Nodup) (i j : Nat) (r s : RawB) (hi : raw[i]? = some r) (hj : raw[j]? = some s) (e : r.b = s.b) : i = j := by
  rw [List.Nodup, List.pairwise_iff_getElem] at h
  obtain ⟨hi1, hi2⟩ := List.getElem?_eq_some_iff.1 hi
  obtain ⟨hj1, hj2⟩ := List.getElem?_eq_some_iff.1 hj
  rcases Nat.lt_trichotomy i j with hl | hl | hl
  · exact absurd (by rw [List.getElem_map, List.getElem_map, hi2, hj2]; exact e) (h i j (by rw [List.length_map]; exact hi1) (by rw [List.length_map]; exact hj1) hl)
  · exact hl
  · exact absurd (by rw [List.getElem_map, List.getElem_map, hi2, hj2]; exact e.symm) (h j i (by rw [List.length_map]; exact hj1) (by rw [List.length_map]; exact hi1) hl)
theorem wst_rawp {w W : World} {its : List ItemO} {raw raw' : List RawB} (h : Wst w its raw W) (hp : raw.Perm raw') : Wst w its raw' W :=
  ⟨h.kept, h.own, fun i r hi => by
    obtain ⟨j, hj⟩ := List.getElem?_of_mem (hp.mem_iff.2 (List.mem_of_getElem? hi))
    exact h.blk j r hj, fun i j r s hi hj e => nodup_b' ((hp.map RawB.b).nodup_iff.1 (nodup_b h.nd)) i j r s hi hj e, h.new⟩
theorem step_okA {w : World} {bf : Nat} {na na' pa' : AV} {qn : Bool} {qs : List (List AV)} {wl : AV} {x : Nat} {rest : List Nat} {wv wd : Int} {bb : Nat} {bcur : Array Value} {more : List RawB} {V : World} (h : StA w bf na (pAA qn qs wl) (x :: rest) wv bb bcur more V) (hq : 0 < qs.length) (hx2 : x < 2) (hrest : rest = [] ∨ rest = [1])
    (hev : ev 39 [pAA qn qs wl, na] = some ([.agg [.v (.int .i64 0), .lst false 1 [[.v (.int .u64 wd)]]], .v (.bool true)] ++ [pa', na'])) (hf1 : flatO pa' = true) (hf2 : flatO na' = true) (K : World → Prop)
    (hK : ∀ (q qo cq : Nat) (o : Obj) (mid : List RawB) (W' : World), WdAt ⟨q, o⟩ qo wd → StA w bf na' pa' rest (wrap64 (wv - 1)) bb ((bcur.setIfInBounds (x * 2) (.int .i64 0)).setIfInBounds (x * 2 + 1) (.slice (some ⟨q, qo, none⟩) 1 cq)) ((more ++ mid) ++ [⟨q, o⟩]) W' → K W') :
    Calls Try.prog 20 #[.pointer (some ⟨bf, 0, none⟩), .agg #[.int .i64 (-1), .int .i64 (0 : Nat), .int .i64 (0 : Nat)]] V fun e w' => e = .returned (.bool true) ∧ K w' := by
  obtain ⟨d, Bp, po, pc, pcur, fz, r, hpc, hbs, hps, hA⟩ := h
  obtain ⟨b3k, hb3k⟩ : ∃ b3k, rawC V.heap.size #[.int .i64 (-1), .int .i64 (0 : Nat), .int .i64 (0 : Nat)] 40 = b3k := ⟨_, rfl⟩
  have h1 : AK w bf d na (pAA qn qs wl) (.slice (some ⟨bb, 0, none⟩) 2 2) (.slice (some ⟨Bp, po, none⟩) (x :: rest).length pc) wv 1 2 (r :: ⟨Bp, .cells pcur 3 fz⟩ :: rawC bb bcur 67 :: (more ++ [b3k])) (V.alloc (.cells #[.int .i64 (-1), .int .i64 (0 : Nat), .int .i64 (0 : Nat)] 40)) :=
    ⟨hb3k ▸ hA.st.alloc #[.int .i64 (-1), .int .i64 (0 : Nat), .int .i64 (0 : Nat)] 40, hA.f, hA.n, hA.c, hA.l⟩
  obtain ⟨w1, hw1⟩ : ∃ w1, V.alloc (.cells #[.int .i64 (-1), .int .i64 (0 : Nat), .int .i64 (0 : Nat)] 40) = w1 := ⟨_, rfl⟩
  rw [hw1] at h1
  obtain ⟨VA, vc, hvc⟩ := pair_cell (h1.st.own.ok ⟨.pointer (some ⟨d.pp, 0, none⟩), d.Fp, pAA qn qs wl⟩ (by simp))
  have h2 := ((h1.kept0 (kept_drew _)).kept0 (kept_drew _)).kept0 (kept_drew _)
  have i3 : ∀ tl : List RawB, (d.raw bf (r :: ⟨Bp, .cells pcur 3 fz⟩ :: rawC bb bcur 67 :: ((more ++ [b3k]) ++ tl)))[7 + more.length]? = some b3k := fun tl => by
    show (_ :: _ :: _ :: _ :: _ :: _ :: _ :: ((more ++ [b3k]) ++ tl))[7 + more.length]? = _
    rw [Nat.add_comm]
    simp
  have hc3 : ∀ {X : World} {its : List ItemO} {tl : List RawB}, Wst w its (d.raw bf (r :: ⟨Bp, .cells pcur 3 fz⟩ :: rawC bb bcur 67 :: ((more ++ [b3k]) ++ tl))) X → ∀ j v, (#[.int .i64 (-1), .int .i64 (0 : Nat), .int .i64 (0 : Nat)] : Array Value)[j]? = some v → X.cell? ⟨V.heap.size, j, none⟩ = some v := fun {X its tl} hX j v hv =>
    hX.cell (i := 7 + more.length) (t := 40) (fz := (0, 0)) (by rw [i3, ← hb3k]) hv
  have h1' : Wst w (d.its na (pAA qn qs wl)) (d.raw bf (r :: ⟨Bp, .cells pcur 3 fz⟩ :: rawC bb bcur 67 :: ((more ++ [b3k]) ++ []))) w1 := by rw [List.append_nil]; exact h1.st
  have hs9 : ∀ {ext' : List RawB} {d' : AD} {na2 pa2 : AV} {b2 p2 : Value} {x1 x2 x3 : Int} {W' : World}, d'.bn = d.bn ∧ d'.cn = d.cn ∧ d'.bl = d.bl ∧ d'.pn = d.pn ∧ d'.pp = d.pp → AK w bf d' na2 pa2 b2 p2 x1 x2 x3 ext' W' → W'.cell? ⟨V.heap.size, 2, none⟩ = some (.int .i64 (0 : Nat)) → S9 d.bl 0 d.pp bf d.bn 1 d.cn V.heap.size d.pn W' := fun {ext' d' na2 pa2 b2 p2 x1 x2 x3 W'} he hA' hc => by
    obtain ⟨g1, g2, g3, g4, g5⟩ := he
    have a1 := hA'.st.cell (i := 3) rfl hA'.l.1
    have a2 := hA'.st.cell (i := 0) rfl hA'.f.2.1
    have a3 := hA'.st.cell (i := 1) rfl hA'.n
    rw [g3, g5] at a1
    rw [g1, g2] at a2
    rw [g1, g4] at a3
    exact ⟨a1, a2, hc, a3⟩
  refine step_walk bf d.bc 0 1 d.bn 1 d.cn 0 d.bl 1 d.cl d.pp d.pn qs.length vc VA V w1 K (by decide) (by decide) (by decide) hq hw1 V.heap.size rfl (hc3 h1' 0 _ rfl) (hc3 h1' 1 _ rfl) (hc3 h1' 2 _ rfl) (h1.st.cell (i := 0) rfl h1.f.2.1) (h1.st.cell (i := 0) rfl h1.f.2.2.1) (h1.st.cell (i := 2) rfl h1.c.2.2.1) (h1.st.cell (i := 3) rfl h1.l.1) (h1.st.cell (i := 1) rfl h1.n) hvc
    w1.heap.size rfl ((core39 h2 hev hf1 hf2).mono fun e w' he => ?_) ?_
  · obtain ⟨q, qo, c, o, Fn', Fp', rfl, hwd, hA'⟩ := he
    have hst : Wst w (AD.its { d with Fn := Fn', Fp := Fp' } na' pa') (d.raw bf (r :: ⟨Bp, .cells pcur 3 fz⟩ :: rawC bb bcur 67 :: ((more ++ [b3k]) ++ [⟨q, o⟩]))) w' := hA'.st
    refine ⟨0, some ⟨q, qo, none⟩, 1, c, rfl, hs9 (d' := { d with Fn := Fn', Fp := Fp' }) ⟨rfl, rfl, rfl, rfl, rfl⟩ hA' (hc3 hst 2 _ rfl), ?_⟩
    refine fin_ok (d := { d with Fn := Fn', Fp := Fp' }) (more := (more ++ [b3k]) ++ [⟨q, o⟩]) hpc hbs hx2 hps hrest ⟨hst.alloc #[.int .i64 0, .slice (some ⟨q, qo, none⟩) 1 c] 67, hA'.f, hA'.n, hA'.c, hA'.l⟩ K fun W' hW' => hK q qo c o [b3k] W' hwd hW'
  · have h3 : AK w bf d na (pAA qn qs wl) (.slice (some ⟨bb, 0, none⟩) 2 2) (.slice (some ⟨Bp, po, none⟩) (x :: rest).length pc) wv 1 2 ((r :: ⟨Bp, .cells pcur 3 fz⟩ :: rawC bb bcur 67 :: (more ++ [b3k])) ++ [rawC w1.heap.size #[.int .i64 0, .slice none 0 0] 67]) (w1.drew.drew.drew.alloc (.cells #[.int .i64 0, .slice none 0 0] 67)) :=
      ⟨h2.st.alloc #[.int .i64 0, .slice none 0 0] 67, h2.f, h2.n, h2.c, h2.l⟩
    refine (core39 h3 hev hf1 hf2).mono fun e w' he => ?_
    obtain ⟨q, qo, c, o, Fn', Fp', rfl, hwd, hA'⟩ := he
    have hst : Wst w (AD.its { d with Fn := Fn', Fp := Fp' } na' pa') (d.raw bf (r :: ⟨Bp, .cells pcur 3 fz⟩ :: rawC bb bcur 67 :: ((more ++ [b3k]) ++ ([⟨q, o⟩] ++ [rawC w1.heap.size #[.int .i64 0, .slice none 0 0] 67])))) w' := by
      refine wst_rawp hA'.st ?_
      show (_ :: _ :: _ :: _ :: _ :: _ :: _ :: (((more ++ [b3k]) ++ [_]) ++ [_])).Perm (_ :: _ :: _ :: _ :: _ :: _ :: _ :: ((more ++ [b3k]) ++ ([_] ++ [_])))
      rw [List.append_assoc]
      exact (((((((List.Perm.append_left _ (List.Perm.swap _ _ _)).cons _).cons _).cons _).cons _).cons _).cons _).cons _
    have i7 : ∀ z : RawB, (d.raw bf (r :: ⟨Bp, .cells pcur 3 fz⟩ :: rawC bb bcur 67 :: ((more ++ [b3k]) ++ ([⟨q, o⟩] ++ [z]))))[9 + more.length]? = some z := fun z => by
      show (_ :: _ :: _ :: _ :: _ :: _ :: _ :: ((more ++ [b3k]) ++ ([_] ++ [z])))[9 + more.length]? = _
      rw [Nat.add_comm]
      simp
    have s7 : ∀ z z' : RawB, (d.raw bf (r :: ⟨Bp, .cells pcur 3 fz⟩ :: rawC bb bcur 67 :: ((more ++ [b3k]) ++ ([⟨q, o⟩] ++ [z])))).set (9 + more.length) z' = d.raw bf (r :: ⟨Bp, .cells pcur 3 fz⟩ :: rawC bb bcur 67 :: ((more ++ [b3k]) ++ ([⟨q, o⟩] ++ [z']))) := fun z z' => by
      show (_ :: _ :: _ :: _ :: _ :: _ :: _ :: ((more ++ [b3k]) ++ ([_] ++ [z]))).set (9 + more.length) z' = _
      rw [Nat.add_comm]
      simp
    have t1 := hst.set (i7 _) 0 (.int .i64 0)
    rw [s7] at t1
    have t2 := t1.set (i7 _) 1 (.slice (some ⟨q, qo, none⟩) 1 c)
    rw [s7] at t2
    refine ⟨0, some ⟨q, qo, none⟩, 1, c, rfl, hs9 (d' := { d with Fn := Fn', Fp := Fp' }) ⟨rfl, rfl, rfl, rfl, rfl⟩ hA' (hc3 hst 2 _ rfl), hst.frozen (i7 _) _, t1.frozen (i7 _) _, ⟨_, hst.cell (i7 _) rfl⟩, ⟨_, t1.cell (v := .slice none 0 0) (i7 _) rfl⟩,
      hs9 (d' := { d with Fn := Fn', Fp := Fp' }) (ext' := r :: ⟨Bp, .cells pcur 3 fz⟩ :: rawC bb bcur 67 :: ((more ++ [b3k]) ++ ([⟨q, o⟩] ++ [_]))) ⟨rfl, rfl, rfl, rfl, rfl⟩ ⟨t2, hA'.f, hA'.n, hA'.c, hA'.l⟩ (hc3 t2 2 _ rfl), ?_⟩
    refine fin_ok (fz := fz) (r := r) (d := { d with Fn := Fn', Fp := Fp' }) (more := (more ++ [b3k]) ++ [⟨q, o⟩]) hpc hbs hx2 hps hrest ⟨?_, hA'.f, hA'.n, hA'.c, hA'.l⟩ K fun W' hW' => hK q qo c o [b3k] W' hwd hW'
    rw [List.append_assoc]
    exact t2
end Go.Proofs.Ytnjccbnlmdajkaa
namespace Go.Proofs.Ytnjccbnlmdajkaa
open Go.RowKit Go.Shelf Go.Lib Go.Ev
set_option maxRecDepth 100000
theorem inf40A : (Try.prog.info? 40).map (fun i => (i.zero, i.size, i.bytes)) = some (some (.agg #[.int .i64 0, .int .i64 0, .int .i64 0]), 3, 24) := by kernel_rfl
theorem und41A : Try.prog.underlying 41 = some (.slice 40) := by kernel_rfl
theorem choices_okA {w : World} {bf : Nat} {W : World} (h : AK2 w bf W) : Calls Try.prog 21 #[.pointer (some ⟨bf, 0, none⟩)] W fun e w' => (∃ A c, e = .returned (.slice A 1 c)) ∧ AK2 w bf w' := by
  obtain ⟨d, B, c, bb, cur, r, hcs, hc2, hc0, hc1, hA⟩ := h
  obtain ⟨VA, vc, hvc⟩ := pair_cell (hA.st.own.ok ⟨.pointer (some ⟨d.pp, 0, none⟩), d.Fp, pA2⟩ (by simp))
  have ha := hA.kept0 (KeptW.alloc W (.cells #[.bool true, .int .i64 1, .slice (some ⟨d.bl, 0, none⟩) 1 d.cl, .slice (some ⟨bb, 0, none⟩) 2 2, .int .i64 2, .int .i64 1, .int .i64 2] 74))
  have hna := Ev.alloc_new W (.cells #[.bool true, .int .i64 1, .slice (some ⟨d.bl, 0, none⟩) 1 d.cl, .slice (some ⟨bb, 0, none⟩) 2 2, .int .i64 2, .int .i64 1, .int .i64 2] 74)
  obtain ⟨wa, hwa⟩ : ∃ wa, W.alloc (.cells #[.bool true, .int .i64 1, .slice (some ⟨d.bl, 0, none⟩) 1 d.cl, .slice (some ⟨bb, 0, none⟩) 2 2, .int .i64 2, .int .i64 1, .int .i64 2] 74) = wa := ⟨_, rfl⟩
  rw [hwa] at ha hna
  have hb := ha.kept0 (KeptW.alloc wa (.cells #[.pointer (some ⟨d.pp, 0, none⟩), .slice (some ⟨B, 0, none⟩) 2 c] 82))
  have hnb := Ev.alloc_new wa (.cells #[.pointer (some ⟨d.pp, 0, none⟩), .slice (some ⟨B, 0, none⟩) 2 c] 82)
  obtain ⟨wb, hwb⟩ : ∃ wb, wa.alloc (.cells #[.pointer (some ⟨d.pp, 0, none⟩), .slice (some ⟨B, 0, none⟩) 2 c] 82) = wb := ⟨_, rfl⟩
  rw [hwb] at hb hnb
  obtain ⟨VA', vc', hvc'⟩ := pair_cell (hb.st.own.ok ⟨.pointer (some ⟨d.pp, 0, none⟩), d.Fp, pA2⟩ (by simp))
  have hd := hb.kept0 (KeptW.alloc wb (.cells #[.int .i64 (-1), .int .i64 0, .int .i64 0] 40))
  obtain ⟨I, hI, hIz, hIs, hIb⟩ := info_parts inf40A
  obtain ⟨b', c', W4, cur', hrun, hst4, _, _, _⟩ := hd.st.app0 (P := Try.prog) und41A hI hIz hIs (by omega) (by omega) rfl (Ev.alloc_new wb _) rfl (fun v hv => by
    simp only [List.mem_cons, List.not_mem_nil, or_false] at hv
    rcases hv with rfl | rfl | rfl <;> rfl)
  have h4 : AK w bf d n0 pA2 (.slice (some ⟨bb, 0, none⟩) 2 2) (.slice (some ⟨B, 0, none⟩) 2 c) 2 1 2 ([r, rawC B cur 3, rawC bb MB4 67] ++ [rawC b' cur' 40]) W4 := ⟨hst4, hA.f, hA.n, hA.c, hA.l⟩
  exact choices1_walk bf d.bc d.bl d.cl d.pp 2 vc' b' c' VA' (some ⟨B, 0, none⟩) (some ⟨bb, 0, none⟩) 2 c 2 2 true 1 2 1 2 W wa wb W4 (AK2 w bf) (by decide) (hA.st.cell (i := 0) rfl hA.f.2.2.1) (hA.st.cell (i := 2) rfl hA.c.1) (hA.st.cell (i := 2) rfl hA.c.2.1) (hA.st.cell (i := 2) rfl hA.c.2.2.1) (hA.st.cell (i := 2) rfl hA.c.2.2.2.1) (hA.st.cell (i := 2) rfl hA.c.2.2.2.2.1) (hA.st.cell (i := 2) rfl hA.c.2.2.2.2.2.1) (hA.st.cell (i := 2) rfl hA.c.2.2.2.2.2.2)
    hwa (cell_of hna rfl) (ha.st.cell (i := 3) rfl ha.l.1) (ha.st.cell (i := 3) rfl ha.l.2) hwb (cell_of hnb rfl) hvc' hrun (h4.st.cell (i := 0) rfl h4.f.2.2.2) ⟨d, B, c, bb, cur, r, hcs, hc2, hc0, hc1, h4.drop⟩
def AK3 (w : World) (bf : Nat) (W : World) : Prop := ∃ (bb q qo cq : Nat) (more : List RawB), StA w bf n1 pA3 [1] 1 bb ((MB4.setIfInBounds 0 (.int .i64 0)).setIfInBounds 1 (.slice (some ⟨q, qo, none⟩) 1 cq)) more W
def AK4 (w : World) (bf : Nat) (W : World) : Prop := ∃ (bb q qo cq q2 qo2 cq2 : Nat) (o : Obj) (more : List RawB), WdAt ⟨q2, o⟩ qo2 4 ∧
  StA w bf n1 pA4 [] 0 bb ((((MB4.setIfInBounds 0 (.int .i64 0)).setIfInBounds 1 (.slice (some ⟨q, qo, none⟩) 1 cq)).setIfInBounds 2 (.int .i64 0)).setIfInBounds 3 (.slice (some ⟨q2, qo2, none⟩) 1 cq2)) (more ++ [⟨q2, o⟩]) W
theorem awake_ok (w : World) : Calls Try.prog 8 #[] w fun e w' => e = .returned (.bool true) ∧ KeptW [] w w' := by
  have v1 : wrap64 (2 - 1) = 1 := by rw [w64]; decide
  have v2 : wrap64 (1 - 1) = 0 := by rw [w64]; decide
  refine awake_walk (w.heap.size + 1) 0 0 w (fun W => NC w 1 1 5 1 W) (AK2 w (w.heap.size + 1)) (AK2 w (w.heap.size + 1)) (AK3 w (w.heap.size + 1)) (AK4 w (w.heap.size + 1)) (KeptW [] w)
    (new_ok w 1 1 5 (by decide) (by decide) (by decide)) (fun W hW => ?_) (fun W hW => choices_okA hW) (fun W hW => ?_) (fun W hW => ?_) (fun W hW => ?_)
  · obtain ⟨d, hd⟩ := ak_new hW
    exact post_all hd
  · obtain ⟨d, B, c, bb, cur, r, hcs, hc2, hc0, hc1, hA⟩ := hW
    refine step_okA (na := n0) (na' := n1) (pa' := pA3) (x := 0) (rest := [1]) (wv := 2) (wd := 0) (bb := bb) (bcur := MB4) (more := []) (qs := [row1, row2]) ⟨d, B, 0, c, cur, (0, 0), r, hc2, rfl, fun k y hy => ?_, hA⟩ (by decide) (by decide) (.inr rfl) e39a rfl rfl _ fun q qo cq o mid W' hwd hS => ?_
    · match k, hy with
      | 0, hy => cases hy; exact hc0
      | 1, hy => cases hy; exact hc1
      | k + 2, hy => simp at hy
    · rw [v1] at hS
      exact ⟨bb, q, qo, cq, _, hS⟩
  · obtain ⟨bb, q, qo, cq, more, hS⟩ := hW
    refine step_okA (na' := n1) (pa' := pA4) (wd := 4) (qs := [row2]) hS (by decide) (by decide) (.inl rfl) e39b rfl rfl _ fun q2 qo2 cq2 o mid W' hwd hS2 => ?_
    rw [v2] at hS2
    exact ⟨bb, q, qo, cq, q2, qo2, cq2, o, _, hwd, hS2⟩
  · obtain ⟨bb, q, qo, cq, q2, qo2, cq2, o, more, ⟨wc, wt, wfz, ho, hwd⟩, d, Bp, po, pc, pcur, fz, r, hpc, hbs, hps, hA⟩ := hW
    simp only at ho
    subst ho
    have hs := hA.st.set (i := 2) rfl (0 * 7 + 3) (.slice none 0 0)
    refine (take_walk (w.heap.size + 1) d.bc 0 1 2 2 ⟨bb, 0, none⟩ W (fun V => Wst w (d.its n1 pA4) ((d.raw (w.heap.size + 1) (r :: ⟨Bp, .cells pcur 3 fz⟩ :: rawC bb _ 67 :: (more ++ [⟨q2, .cells wc wt wfz⟩]))).set 2 _) V) (by decide) (hA.st.cell (i := 0) rfl hA.f.2.2.1) (hA.st.cell (i := 2) rfl hA.c.1) (hA.st.cell (i := 2) rfl hA.c.2.2.2.1) (hA.st.cell (i := 2) rfl hA.c.2.2.2.2.1) (hA.st.frozen (i := 2) rfl _) hs).mono fun e w' he => ?_
    obtain ⟨rfl, hs'⟩ := he
    refine ⟨bb, 2, some ⟨q, qo, none⟩, cq, q2, qo2, cq2, rfl, hs'.cell (i := 6) rfl rfl, hs'.cell (i := 6) rfl rfl, hs'.cell (i := 7 + more.length) (t := wt) (fz := wfz) ?_ hwd, hs'.kept⟩
    rw [List.getElem?_set_ne (by omega)]
    show (_ :: _ :: _ :: _ :: _ :: _ :: _ :: (more ++ [_]))[7 + more.length]? = _
    rw [Nat.add_comm 7]
    simp
end Go.Proofs.Ytnjccbnlmdajkaa
namespace Go.Proofs.Ytnjccbnlmdajkaa
open Go.RowKit Go.Shelf Go.Lib Go.Ev
set_option maxRecDepth 100000
variable {w0 W : World} {fb m VC : Nat} {VA : Option Addr}
abbrev I0 : Ky → Option ItemO := fun _ => none
def DeV (w0 : World) (μ : Mu) (VA : Option Addr) (VC m : Nat) (vs : List Vb) : Prop := ∃ n, DR μ (.lst n 9 (vs.map Vb.row)) (.slice VA m VC) ∧ vs.length = m ∧ (∀ u ∈ vs, u.Wf)
def y1 : ClA := clUp 1 2
structure Bs (m : Nat) (inc tr : Int) (x : ClA) : Prop where
  inc : x.inc = inc
  tr : x.tr = tr
  po : x.po = (m : Int)
def P1 (w0 : World) (m fb : Nat) (VA : Option Addr) (VC : Nat) (W : World) : Prop := ∃ μ vs, DeV w0 μ VA VC m vs ∧ FSt 0 w0 μ I0 fb (newA 2 2 12 2) W
def DQ (w0 : World) (m fb : Nat) (VA : Option Addr) (VC : Nat) (W : World) : Prop :=
  ∃ μ vs l0 l1 x n0 n1, DeV w0 μ VA VC m vs ∧ Bt m 0 900 l0 l1 x ∧ Bs m 1 1 x ∧ (n0 : NdA).ws.length ≤ 1000 ∧ (n1 : NdA).ws.length ≤ 1000 ∧ FSt 0 w0 μ I0 fb ⟨12, [n0, n1], [x, y1], []⟩ W
def DRr (w0 : World) (m fb : Nat) (VA : Option Addr) (VC : Nat) (W : World) : Prop :=
  ∃ μ x os n0 n1, (x : ClA).al = false ∧ x.ba = [] ∧ x.wt = 0 ∧ Bs m 1 1 x ∧ Ors os ∧ lefts os ≤ 900 ∧ os.length ≤ 2 ∧ (n0 : NdA).ws.length ≤ 1000 ∧ (n1 : NdA).ws.length ≤ 1000 ∧ FSt 0 w0 μ I0 fb ⟨12, [n0, n1], [x, y1], os⟩ W
def DT (w0 : World) (m fb : Nat) (VA : Option Addr) (VC n : Nat) (W : World) : Prop :=
  ∃ μ x os n0 n1, (x : ClA).al = true ∧ x.ba = [] ∧ x.wt = 0 ∧ x.ln = lnNew 0 3 2 ∧ Bs m 3 1 x ∧ Ors os ∧ lefts os = n ∧ os.length ≤ 2 ∧ (n0 : NdA).ws.length ≤ 1000 ∧ (n1 : NdA).ws.length ≤ 1000 ∧ FSt 0 w0 μ I0 fb ⟨12, [n0, n1], [x, y1], os⟩ W
theorem new_eq : newA 2 2 12 2 = ⟨12, [nd0 12, nd0 12], [clUp 0 2, y1], []⟩ := rfl
theorem nd_eq (lines : Int) : (nd0 lines).ws.length = 8 * lines.toNat := List.length_replicate ..
theorem de_post (hm : 1 ≤ m ∧ m ≤ 8) (h : P1 w0 m fb VA VC W) : Calls Try.prog 18 #[ptr fb, .int .i64 0, .slice VA m VC] W fun e w' => ∃ z : Int, e = .returned (.int .i64 z) ∧ (z ≠ 0 → KeptW [] w0 w') ∧ (z = 0 → DQ w0 m fb VA VC w') := by
  obtain ⟨μ, vs, ⟨n, hd, hl, hw⟩, hF⟩ := h
  rw [new_eq] at hF
  subst hl
  have hx : (⟨12, [nd0 12, nd0 12], [clUp 0 2, y1], []⟩ : FbA).cl[0]? = some (clUp 0 2) := rfl
  rcases first_bad (vs := vs) 2 12 with hg | ⟨k, uk, h1, h2, h3⟩
  · refine (g_post hF (c := 0) hx rfl rfl hd (by omega) (fun u hu => ⟨hw u hu, hg u hu⟩) (by decide) rfl fun l hl => ?_).mono fun e w' he => ⟨0, he.1, fun h => absurd rfl h, fun _ => ?_⟩
    · have : l ∈ [(⟨prNew 0 1 0, []⟩ : LnA), ⟨prNew 0 1 1, []⟩] := hl
      simp only [List.mem_cons, List.not_mem_nil, or_false] at this
      rcases this with rfl | rfl
      · show 0 + vs.length ≤ 1024 ∧ 0 + vs.length ≤ 1024; omega
      · show 0 + vs.length ≤ 1024 ∧ 0 + vs.length ≤ 1024; omega
    · obtain ⟨l0, l1, hB⟩ := Bt.post (c := 0) (inc := 1) (lines := 12) (by omega) (by omega) (by omega) (fun u hu => ⟨hw u hu, hg u hu⟩) (by omega) (x := clUp 0 2) rfl rfl
      have e1 : wrap64 (0 + 1) = 1 := by rw [w64]; decide
      have e2 : wrap64 (0 + (vs.length : Int)) = vs.length := by rw [w64, w_i64]; omega
      exact ⟨μ, vs, l0, l1, _, nd0 12, nd0 12, ⟨n, hd, rfl, hw⟩, hB.mono (by omega), ⟨rfl, e1, e2⟩, by rw [nd_eq]; decide, by rw [nd_eq]; decide, he.2⟩
  · exact (g_bad hF (c := 0) hx rfl rfl hd (by omega) (by decide) h1 h2 h3).mono fun e w' he => ⟨_, he.1, fun _ => he.2.kept, fun h => absurd h h3⟩
theorem chs_bt {l0 l1 : LnA} {x : ClA} {B : Nat} (h : Bt m 0 B l0 l1 x) (n0 n1 : NdA) : (⟨12, [n0, n1], [x, y1], []⟩ : FbA).chs = (if l0.p.q = [] then [] else [(-1, 0, 0)]) ++ (if l1.p.q = [] then [] else [(-1, 0, 1)]) := by
  have h1 := chL_new 1 1 1
  have h2 := chL_two l0 l1 0
  unfold FbA.chs
  show (([] ++ chL x.ln 0 x.ln.length) ++ chL (lnNew 1 1 2) 1 (lnNew 1 1 2).length) ++ [] = _
  rw [h1, h.ln, h2]
  simp
theorem de_q (h : DQ w0 m fb VA VC W) (hm : m ≤ 1000) : DeQ fb VA VC m (DQ w0 m fb VA VC) (DRr w0 m fb VA VC) W := by
  obtain ⟨μ, vs, l0, l1, x, n0, n1, hv, hB, hs, hn0, hn1, hF⟩ := h
  have hx : (⟨12, [n0, n1], [x, y1], []⟩ : FbA).cl[0]? = some x := rfl
  refine ⟨⟨x.wt, g_waiting hF (c := 0) hx, fun hw => ?_⟩, ?_⟩
  · have hb2 : ∀ z ∈ (⟨12, [n0, n1], [x, y1], []⟩ : FbA).cl, z.ln.length ≤ 100 := fun z hz => by
      have : z ∈ [x, y1] := hz
      simp only [List.mem_cons, List.not_mem_nil, or_false] at this
      rcases this with rfl | rfl
      · rw [hB.ln]; exact Nat.le_of_ble_eq_true rfl
      · show (lnNew 1 1 2).length ≤ 100; decide
    refine (g_choices hF (show 0 < 2 by decide) ⟨show 2 ≤ 100 by decide, hb2, show 0 ≤ 50000 by decide⟩).mono fun e w' he => ?_
    obtain ⟨b, A, c, rfl, hA, hc, hF'⟩ := he
    rw [chs_bt hB] at hA hc ⊢
    have hww := hB.wt
    by_cases h0 : l0.p.q = []
    · have h1 : l1.p.q ≠ [] := fun e => by rw [h0, e] at hww; simp at hww; omega
      rw [if_pos h0, if_neg h1] at hA hc ⊢
      obtain rfl := hA (by decide)
      obtain ⟨c0, c1, c2⟩ := hc 0 (-1, 0, 1) rfl
      refine ⟨b, 1, c, -1, 0, 1, rfl, by decide, c0, c1, c2, ?_⟩
      have hl1 : x.ln[1]? = some l1 := by rw [hB.ln]; rfl
      refine (g_step hF' (c := 0) (nd := 1) hx hl1 (n := n1) rfl h1 hB.h1.inv.ok (by omega) fun _ => ?_).mono fun e w2 he => ⟨⟨true, he.1⟩, ?_⟩
      · obtain ⟨ix, rest, q1, q2, q3⟩ := hB.h1.head h1
        exact ⟨ix, rest, q1, by rw [hB.ba]; exact q2, q3⟩
      · have hst := hB.step1 h1 n1
        have hws := (hB.h1.inv.step h1 n1).2.2.1
        refine ⟨μ, vs, l0, _, _, n0, _, hv, hst.mono (by omega), ?_, hn0, ?_, he.2⟩
        · rw [stepA_eq]; exact ⟨hs.inc, hs.tr, hs.po⟩
        · rw [hws]; exact hn1
    · rw [if_neg h0] at hA hc ⊢
      obtain rfl := hA (by simp)
      obtain ⟨c0, c1, c2⟩ := hc 0 (-1, 0, 0) (by simp)
      refine ⟨b, _, c, -1, 0, 0, rfl, by simp, c0, c1, c2, ?_⟩
      have hl0 : x.ln[0]? = some l0 := by rw [hB.ln]; rfl
      refine (g_step hF' (c := 0) (nd := 0) hx hl0 (n := n0) rfl h0 hB.h0.inv.ok (by omega) fun _ => ?_).mono fun e w2 he => ⟨⟨true, he.1⟩, ?_⟩
      · obtain ⟨ix, rest, q1, q2, q3⟩ := hB.h0.head h0
        exact ⟨ix, rest, q1, by rw [hB.ba]; exact q2, q3⟩
      · have hst := hB.step0 h0 n0
        have hws := (hB.h0.inv.step h0 n0).2.2.1
        refine ⟨μ, vs, _, l1, _, _, n1, hv, hst.mono (by omega), ?_, ?_, hn1, he.2⟩
        · rw [stepA_eq]; exact ⟨hs.inc, hs.tr, hs.po⟩
        · rw [hws]; exact hn0
  · refine (g_die hF (c := 0) hx hB.al (by rw [hB.ln]; exact Nat.le_of_ble_eq_true rfl)).mono fun e w' he => ⟨he.1, ?_⟩
    obtain ⟨q1, q2, q3⟩ := orphans hB
    exact ⟨μ, { x with al := false, ln := [], ba := [], wt := 0 }, _, n0, n1, rfl, rfl, rfl, ⟨hs.inc, hs.tr, hs.po⟩, q1, q2, q3, hn0, hn1, he.2⟩
theorem de_r (h : DRr w0 m fb VA VC W) : DeR fb VA VC m (DT w0 m fb VA VC) W := by
  obtain ⟨μ, x, os, n0, n1, hal, hba, hwt, hs, ho, hlf, hol, hn0, hn1, hF⟩ := h
  have hx : (⟨12, [n0, n1], [x, y1], os⟩ : FbA).cl[0]? = some x := rfl
  refine ⟨g_dieDead hF (c := 0) hx hal, ?_, g_postDead hF (c := 0) hx hal VA m VC, ?_⟩
  · have := g_alive hF (c := 0) hx
    rw [hal] at this; exact this
  · refine (g_restart hF (c := 0) hx hal (by omega) (inc := 3) (by omega) (by show 2 ≤ 5; decide)).mono fun e w' he => ⟨he.1, lefts os, hlf, ?_⟩
    exact ⟨μ, { x with al := true, inc := 3, ln := lnNew 0 3 2 }, os, n0, n1, rfl, hba, hwt, rfl, ⟨rfl, hs.tr, hs.po⟩, ho, rfl, hol, hn0, hn1, he.2⟩
theorem chs_or {x : ClA} {inc : Int} (hx : x.ln = lnNew 0 inc 2) (n0 n1 : NdA) (os : List Pr) : (⟨12, [n0, n1], [x, y1], os⟩ : FbA).chs = chO os os.length := by
  have h1 := chL_new 1 1 1
  have h2 := chL_new 0 inc 0
  unfold FbA.chs
  show (([] ++ chL x.ln 0 x.ln.length) ++ chL (lnNew 1 1 2) 1 (lnNew 1 1 2).length) ++ _ = _
  rw [h1, hx, h2]
  rfl
theorem ors_pos {os : List Pr} (h : Ors os) : os ≠ [] ↔ 0 < lefts os := by
  cases os with
  | nil => exact ⟨fun h => absurd rfl h, fun h => by cases h⟩
  | cons p r =>
    obtain ⟨h1, h2, _⟩ := h p (by simp)
    have := h1.left_pos h2
    refine ⟨fun _ => ?_, fun _ => by simp⟩
    show 0 < p.left + _
    omega
def rd1 : Vb := ⟨1, 0, 0, 1, 0, 0, true, [], 0, 0⟩
theorem de_t (hm : m ≤ 1000) {n : Nat} (h : DT w0 m fb VA VC n W) : DeT fb m n (DT w0 m fb VA VC) (KeptW [] w0) W := by
  obtain ⟨μ, x, os, n0, n1, hal, hba, hwt, hln, hs, ho, rfl, hol, hn0, hn1, hF⟩ := h
  have hx : (⟨12, [n0, n1], [x, y1], os⟩ : FbA).cl[0]? = some x := rfl
  refine ⟨?_, g_take0 hF (c := 0) hx hal hba, ?_, ?_, ?_⟩
  · have := g_inc hF (c := 0) hx
    rw [hs.inc] at this; exact this
  · have := g_waiting hF (c := 0) hx
    rw [hwt] at this; exact this
  · have hb2 : ∀ z ∈ (⟨12, [n0, n1], [x, y1], os⟩ : FbA).cl, z.ln.length ≤ 100 := fun z hz => by
      have : z ∈ [x, y1] := hz
      simp only [List.mem_cons, List.not_mem_nil, or_false] at this
      rcases this with rfl | rfl
      · rw [hln]; decide
      · show (lnNew 1 1 2).length ≤ 100; decide
    refine (g_choices hF (show 0 < 2 by decide) ⟨show 2 ≤ 100 by decide, hb2, show os.length ≤ 50000 by omega⟩).mono fun e w' he => ?_
    obtain ⟨b, A, c, rfl, hA, hc, hF'⟩ := he
    rw [chs_or hln] at hA hc ⊢
    obtain ⟨hlen, hget⟩ := chO_get os os.length (Nat.le_refl _)
    rw [hlen] at hA ⊢
    have hpos := ors_pos ho
    have hT : ∀ {W' : World}, FSt 0 w0 μ I0 fb ⟨12, [n0, n1], [x, y1], os⟩ W' → DT w0 m fb VA VC (lefts os) W' := fun h => ⟨μ, x, os, n0, n1, hal, hba, hwt, hln, hs, ho, rfl, hol, hn0, hn1, h⟩
    cases os with
    | nil => exact ⟨b, 0, c, A, 0, rfl, hT hF', ⟨fun h => by omega, fun h => by cases h⟩, fun h => by cases h⟩
    | cons p r =>
      obtain rfl := hA (by simp)
      obtain ⟨hpI, hpq, hpc, hpn⟩ := ho p (by simp)
      have hr : Ors r := fun q hq => ho q (List.mem_cons_of_mem _ hq)
      have hrl : r.length ≤ 2 := by simp at hol; omega
      have hlt : lefts r < lefts (p :: r) := by
        have := hpI.left_pos hpq
        show lefts r < p.left + lefts r
        omega
      obtain ⟨c0, c1, c2⟩ := hc 0 _ (hget 0 p (by simp) rfl)
      rw [hpc] at c1
      refine ⟨b, _, c, _, p.node, rfl, hT hF', ⟨fun _ => hpos.1 (by simp), fun _ => by simp⟩, fun _ => ⟨rfl, c0, c1, c2, ?_⟩⟩
      have hFa := hF'.kept0 (KeptW.alloc w' (.cells #[.int .i64 0, .int .i64 0, .int .i64 p.node] 40))
      have ha := Ev.alloc_new w' (.cells #[.int .i64 0, .int .i64 0, .int .i64 p.node] 40)
      refine ⟨_, rfl, cell_of ha rfl, cell_of ha rfl, cell_of ha rfl, ?_, ?_⟩
      · refine (g_drop hFa (i := 0) (by show 0 < r.length + 1; omega) (by show r.length + 1 ≤ 100000; omega)).mono fun e w2 he => ⟨he.1, lefts r, hlt, ?_⟩
        exact ⟨μ, x, r, n0, n1, hal, hba, hwt, hln, hs, hr, rfl, hrl, hn0, hn1, he.2⟩
      · have key : ∀ (nd : Nat) (nn : NdA), p.node = (nd : Int) → ([n0, n1] : List NdA)[nd]? = some nn → nn.ws.length ≤ 1000 → (∀ z : NdA, z.ws.length ≤ 1000 → ∃ z0 z1, ([n0, n1] : List NdA).set nd z = [z0, z1] ∧ z0.ws.length ≤ 1000 ∧ z1.ws.length ≤ 1000) →
            Calls Try.prog 20 #[ptr fb, .agg #[.int .i64 0, .int .i64 0, .int .i64 p.node]] (w'.alloc (.cells #[.int .i64 0, .int .i64 0, .int .i64 p.node] 40)) fun e w2 => e = .returned (.bool true) ∧ ∃ k, k < lefts (p :: r) ∧ DT w0 m fb VA VC k w2 := fun nd nn e1 e2 e3 e4 => by
          obtain ⟨s1, s2, s3, s4, s5, s6, s7⟩ := hpI.step hpq nn
          refine (g_stepO hFa (i := 0) (nd := nd) (p := p) rfl e1 e2 hpI.ok (by omega) (by show r.length + 1 ≤ 100000; omega) 0 p.node).mono fun e w2 he => ⟨he.1, ?_⟩
          obtain ⟨z0, z1, g1, g2, g3⟩ := e4 (p.step nn).2.2.2 (by rw [s3]; exact e3)
          have hF2 := he.2
          unfold FbA.stepO at hF2
          simp only [g1] at hF2
          by_cases hq : (p.step nn).2.2.1.q = []
          · rw [if_pos hq] at hF2
            exact ⟨lefts r, hlt, μ, x, r, z0, z1, hal, hba, hwt, hln, hs, hr, rfl, hrl, g2, g3, hF2⟩
          · rw [if_neg hq] at hF2
            refine ⟨lefts ((p.step nn).2.2.1 :: r), ?_, μ, x, _ :: r, z0, z1, hal, hba, hwt, hln, hs, fun q hq' => ?_, rfl, by simp at hol ⊢; omega, g2, g3, hF2⟩
            · show _ + lefts r < p.left + lefts r
              omega
            · rcases List.mem_cons.1 hq' with rfl | hq'
              · exact ⟨s1, hq, s5.trans hpc, by rw [s4]; exact hpn⟩
              · exact hr q hq'
        rcases hpn with e | e
        · exact key 0 n0 e rfl hn0 fun z hz => ⟨z, n1, rfl, hz, hn1⟩
        · exact key 1 n1 e rfl hn1 fun z hz => ⟨n0, z, rfl, hn0, hz⟩
  · obtain ⟨μ', n, hd, hF2⟩ := g_lit hF rd1 ⟨rfl, rfl⟩
    have hg : ∀ u ∈ [rd1], u.Wf ∧ u.badN 2 12 = 0 := fun u hu => by
      simp at hu; subst hu
      exact ⟨⟨fun _ => rfl, by decide⟩, by decide⟩
    have hxl : ∀ l ∈ x.ln, l.p.q.length + 1 ≤ 1024 ∧ l.pl.length + 1 ≤ 1024 := fun l hl => by
      rw [hln, lnNew_two] at hl
      simp only [List.mem_cons, List.not_mem_nil, or_false] at hl
      rcases hl with rfl | rfl <;> decide
    refine (g_post hF2 (c := 0) hx hal hba hd (by decide) hg (by show 1 ≤ 2 ∧ 2 ≤ 5; decide) (by rw [hln]; rfl) hxl).mono fun e w' he => ⟨he.1, ?_⟩
    have hx2 : (⟨12, [n0, n1], ([x, y1] : List ClA).set 0 (x.post 12 [rd1]), os⟩ : FbA).cl[0]? = some (x.post 12 [rd1]) := rfl
    have hF3 : FSt 0 w0 μ' I0 fb ⟨12, [n0, n1], ([x, y1] : List ClA).set 0 (x.post 12 [rd1]), os⟩ w' := he.2
    have e1 : (x.post 12 [rd1]).tr = 2 := by
      show wrap64 (x.tr + 1) = 2
      rw [hs.tr, w64]; decide
    have e2 : (x.post 12 [rd1]).po = (m : Int) + 1 := by
      show wrap64 (x.po + 1) = _
      rw [hs.po, w64, w_i64]; omega
    refine ⟨?_, ?_, hF3.kept⟩
    · have := g_trips hF3 (c := 0) hx2
      rw [e1] at this; exact this
    · have := g_posted hF3 (c := 0) hx2
      rw [e2] at this; exact this
theorem dead_ok (w : World) {n : Bool} {rs : List Rw} {A0 : Option Addr} {vc : Nat} (hd : DR (hf w) (.lst n 6 (rs.map Rw.row)) (.slice A0 rs.length vc)) (hm : 1 ≤ rs.length ∧ rs.length ≤ 8) (before : Int) (drop : Bool) :
    Calls Try.prog 4 #[.slice A0 rs.length vc, .int .i64 before, .bool drop] w fun e w' => e = .returned (.bool true) ∧ KeptW [] w w' := by
  refine dead_walk A0 rs.length vc before drop w (fun fb W => FSt 0 w (hf w) I0 fb (newA 2 2 12 2) W) (fun fb VA VC => P1 w rs.length fb VA VC) (fun fb VA VC => DQ w rs.length fb VA VC) (fun fb VA VC => DRr w rs.length fb VA VC) (fun fb VA VC n => DT w rs.length fb VA VC n) (KeptW [] w) hm
    (new_okF 0 (Kst.start w) 2 2 12 (by decide) (by decide) (by decide)) (fun fb W hW => (awake_ok W).mono fun e w' he => ⟨he.1, hW.kept0 he.2⟩) (fun fb W hW => ?_) (fun fb VA VC W h => de_post hm h) (fun fb VA VC W h => de_q h (by omega)) (fun fb VA VC W h => de_r h) fun fb VA VC n W h => de_t (by omega) h
  refine (g_verbs hW hd (by omega)).mono fun e w' he => ?_
  obtain ⟨μ', vs, n', A, c, rfl, hm', hd', hl, hw, hF⟩ := he
  rw [hl] at hd' ⊢
  exact ⟨A, c, rfl, μ', vs, ⟨n', hd', hl, hw⟩, hF⟩
end Go.Proofs.Ytnjccbnlmdajkaa
namespace Go.Proofs.Ytnjccbnlmdajkaa
open Go.Ev
set_option maxRecDepth 100000
set_option maxHeartbeats 0
theorem openC3 {N n : Nat} {c : List AV} (h : TypC Try.prog N (n + 1) 3 c) : ∃ (x : Int), c = [.v (.int .i64 x)] ∧ ((-9223372036854775808) ≤ x ∧ x ≤ 9223372036854775807) := by
  obtain ⟨x, rfl, fx⟩ := typC_int (k := IntKind.i64) (by kernel_rfl) h
  exact ⟨x, rfl, (lim_i64 fx)⟩
theorem openV3 {N : Nat} {a : AV} (h : TypV Try.prog N 3 a) : ∃ (x : Int), a = .v (.int .i64 x) ∧ ((-9223372036854775808) ≤ x ∧ x ≤ 9223372036854775807) := by
  obtain ⟨c, h1, rfl⟩ := h
  obtain ⟨x, rfl, hx⟩ := openC3 (n := 11) h1
  exact ⟨x, by rw [show aggT Try.prog 3 = false by kernel_rfl]; rfl, hx⟩
theorem openC4 {N n : Nat} {c : List AV} (h : TypC Try.prog N (n + 1) 4 c) : ∃ (x : Bool), c = [.v (.bool x)] ∧ (True) := by
  obtain ⟨x, rfl⟩ := typC_bool (by kernel_rfl) h
  exact ⟨x, rfl, trivial⟩
theorem openV4 {N : Nat} {a : AV} (h : TypV Try.prog N 4 a) : ∃ (x : Bool), a = .v (.bool x) ∧ (True) := by
  obtain ⟨c, h1, rfl⟩ := h
  obtain ⟨x, rfl, hx⟩ := openC4 (n := 11) h1
  exact ⟨x, by rw [show aggT Try.prog 4 = false by kernel_rfl]; rfl, hx⟩
end Go.Proofs.Ytnjccbnlmdajkaa
namespace Go.Proofs.Ytnjccbnlmdajkaa
open Go.Ev
set_option maxRecDepth 100000
set_option maxHeartbeats 0
theorem openC76 {N n : Nat} {c : List AV} (h : TypC Try.prog N (n + 2) 76 c) : ∃ (x_0 : Int) (x_1 : Int) (x_2 : Int) (x_3 : Int) (x_4 : Int) (x_5 : Int), c = [.v (.int .i64 x_0), .v (.int .i64 x_1), .v (.int .i64 x_2), .v (.int .i64 x_3), .v (.int .u64 x_4), .v (.int .u64 x_5)] ∧ ((-9223372036854775808) ≤ x_0 ∧ x_0 ≤ 9223372036854775807) ∧ ((-9223372036854775808) ≤ x_1 ∧ x_1 ≤ 9223372036854775807) ∧ ((-9223372036854775808) ≤ x_2 ∧ x_2 ≤ 9223372036854775807) ∧ ((-9223372036854775808) ≤ x_3 ∧ x_3 ≤ 9223372036854775807) ∧ (0 ≤ x_4 ∧ x_4 ≤ 18446744073709551615) ∧ (0 ≤ x_5 ∧ x_5 ≤ 18446744073709551615) := by
  have lx := typC_st (ts := [3, 3, 3, 3, 47, 47]) (by kernel_rfl) h
  obtain ⟨_, _, rfl, hx_0, lx⟩ := lx
  obtain ⟨_, _, rfl, hx_1, lx⟩ := lx
  obtain ⟨_, _, rfl, hx_2, lx⟩ := lx
  obtain ⟨_, _, rfl, hx_3, lx⟩ := lx
  obtain ⟨_, _, rfl, hx_4, lx⟩ := lx
  obtain ⟨_, _, rfl, hx_5, lx⟩ := lx
  cases lx
  obtain ⟨x_0, rfl, fx_0⟩ := typC_int (k := IntKind.i64) (by kernel_rfl) hx_0
  obtain ⟨x_1, rfl, fx_1⟩ := typC_int (k := IntKind.i64) (by kernel_rfl) hx_1
  obtain ⟨x_2, rfl, fx_2⟩ := typC_int (k := IntKind.i64) (by kernel_rfl) hx_2
  obtain ⟨x_3, rfl, fx_3⟩ := typC_int (k := IntKind.i64) (by kernel_rfl) hx_3
  obtain ⟨x_4, rfl, fx_4⟩ := typC_int (k := IntKind.u64) (by kernel_rfl) hx_4
  obtain ⟨x_5, rfl, fx_5⟩ := typC_int (k := IntKind.u64) (by kernel_rfl) hx_5
  exact ⟨x_0, x_1, x_2, x_3, x_4, x_5, rfl, (lim_i64 fx_0), (lim_i64 fx_1), (lim_i64 fx_2), (lim_i64 fx_3), (lim_u64 fx_4), (lim_u64 fx_5)⟩
theorem openC34 {N n : Nat} {c : List AV} (h : TypC Try.prog N (n + 1) 34 c) : ∃ (xn : Bool) (x : List (List AV)), c = [.lst xn 6 x] ∧ ((xn = true → x = []) ∧ x.length ≤ N ∧ ∀ y ∈ x, TypC Try.prog N n 76 y) := by
  obtain ⟨xn, x, rfl, fx⟩ := typC_slice (e := 76) (by kernel_rfl) h
  exact ⟨xn, x, rfl, fx⟩
theorem openV34 {N : Nat} {a : AV} (h : TypV Try.prog N 34 a) : ∃ (xn : Bool) (x : List (List AV)), a = .lst xn 6 x ∧ ((xn = true → x = []) ∧ x.length ≤ N ∧ ∀ y ∈ x, TypC Try.prog N 11 76 y) := by
  obtain ⟨c, h1, rfl⟩ := h
  obtain ⟨xn, x, rfl, hx⟩ := openC34 (n := 11) h1
  exact ⟨xn, x, by rw [show aggT Try.prog 34 = false by kernel_rfl]; rfl, hx⟩
end Go.Proofs.Ytnjccbnlmdajkaa
namespace Go.Proofs.Ytnjccbnlmdajkaa
open Go.RowKit Go.Shelf Go.Lib Go.Ev
attribute [local go_sem] Oper.semAt_some
set_option maxRecDepth 100000
set_option maxHeartbeats 4000000 in
set_option maxRecDepth 1000000 in
theorem dead_out (A0 : Option Addr) (m vc : Nat) (before : Int) (drop : Bool) (w : World) (hm : ¬ (1 ≤ m ∧ m ≤ 8)) : Calls Try.prog 4 #[.slice A0 m vc, .int .i64 before, .bool drop] w fun e w' => e = .returned (.bool true) ∧ KeptW [] w w' := by
  by_cases h1 : 8 < m
  · have g1 : (8 : Int) < (m : Int) := by omega
    go_enter Try.func4, Try.ntmps4
    go_wp2
    go_ret
    exact ⟨rfl, KeptW.refl _ _⟩
  · have g1 : ¬ (8 : Int) < (m : Int) := by omega
    have g2 : (m : Int) < 1 := by omega
    go_enter Try.func4, Try.ntmps4
    go_wp2
    go_ret
    exact ⟨rfl, KeptW.refl _ _⟩
def rwB : List AV → Bool
  | [.v (.int .i64 _), .v (.int .i64 _), .v (.int .i64 _), .v (.int .i64 _), .v (.int .u64 _), .v (.int .u64 _)] => true
  | _ => false
theorem rwB_row {e : List AV} (h : rwB e = true) : ∃ r : Rw, e = r.row := by
  unfold rwB at h
  split at h
  · rename_i a b c d e f
    exact ⟨⟨a, b, c, d, e, f⟩, rfl⟩
  · cases h
theorem rows_rw : ∀ l : List (List AV), l.all rwB = true → ∃ rs : List Rw, l = rs.map Rw.row
  | [], _ => ⟨[], rfl⟩
  | e :: l, h => by
    rw [List.all_cons, Bool.and_eq_true] at h
    obtain ⟨r, rfl⟩ := rwB_row h.1
    obtain ⟨rs, rfl⟩ := rows_rw l h.2
    exact ⟨r :: rs, rfl⟩
theorem rw_typ {N : Nat} {y : List AV} (hy : TypC Try.prog N 11 76 y) : rwB y = true := by
  obtain ⟨x0, x1, x2, x3, x4, x5, rfl, h⟩ := openC76 (n := 9) hy
  rfl
def deG : List AV → Option (List AV)
  | [.lst _ 6 X, .v (.int .i64 _), .v (.bool _)] => cond (X.all rwB) (some [.v (.bool true)]) none
  | _ => none
theorem de_told : TellS Try.prog 4 deG := by
  intro bs rs h
  refine ⟨Try.f4, Try.func4, fun w μ F G vals himm hb hnd => ?_⟩
  unfold deG at h
  split at h
  · rename_i nx X before drop
    obtain ⟨hc, h⟩ := cond_some h
    obtain rfl := Option.some.inj h
    obtain ⟨o1, rfl⟩ := rows_rw _ hc
    obtain ⟨F1, F2, G1, G2, va, vs, rfl, rfl, rfl, b1, b2⟩ := b2s_cons hb
    obtain ⟨F3, F4, G3, G4, vb, vs', rfl, rfl, rfl, b3, b4⟩ := b2s_cons b2
    obtain ⟨F5, F6, G5, G6, vc, vs'', rfl, rfl, rfl, b5, b6⟩ := b2s_cons b4
    obtain ⟨rfl, rfl, rfl⟩ := Go.Ev.b2s_nil b6
    obtain ⟨rfl, rfl, hd1⟩ := b2_lst b1
    obtain ⟨rfl, rfl, rfl⟩ := b2_v b3
    obtain ⟨rfl, rfl, rfl⟩ := b2_v b5
    obtain ⟨A1, c1, rfl, _⟩ := dr_slice hd1
    rw [List.length_map] at hd1
    have hsz : (1 : Nat) = Try.f4.resultTypes.size := by kernel_rfl
    rw [List.length_map]
    have key : Calls Try.prog 4 #[.slice A1 o1.length c1, .int .i64 before, .bool drop] w fun e w' => e = .returned (.bool true) ∧ KeptW [] w w' := by
      by_cases hl : 1 ≤ o1.length ∧ o1.length ≤ 8
      · exact dead_ok w (hd1.mono himm) hl before drop
      · exact dead_out A1 _ c1 before drop w hl
    refine key.mono fun e w' he => ?_
    obtain ⟨rfl, hk⟩ := he
    exact ⟨[.v (.bool true)], [], [.bool true], μ, [], [], [], rfl, hsz, rfl, ⟨hk.os, hk.tape, hk.output, hk.size, fun b hb _ => hk.keep b hb List.not_mem_nil, MuLe.refl μ, fun _ _ h => .inl h⟩,
      fun b o hbo => hk.get (himm b o hbo) List.not_mem_nil, .cons (F := []) (F' := []) (G := []) (G' := []) (.o (.c (.d (.v rfl)))) .nil, .nil, by simp, fun b hb => by simp at hb⟩
  · cases h
def ext4 : FuncId → Option (List AV → Option (List AV))
  | 4 => some deG
  | _ => none
def cfg4 : Cfg := { rw := fun _ => [], dat := fun _ => false, inl := fun _ => false, roll := fun _ => 8, join := fun _ => false, ext := ext4 }
theorem ext4Ok : ExtS Try.prog cfg4 := by
  refine ⟨fun f bs rs e => ?_, updS_none fun _ => rfl⟩
  by_cases h9 : f = 4
  · subst h9; exact de_told bs rs e
  · have hf : cfg4.ext f = none := by
      show ext4 f = none
      unfold ext4
      split
      · exact absurd rfl h9
      · rfl
    simp only [evTop, hf] at e
    cases e
theorem fabricDead_all {N : Nat} (l : List AV) (h : TypA Try.prog N Try.f4.params.toList l) : ∃ n, evF Try.prog cfg4 n 4 l = some [.v (.bool true)] := by
  rw [show Try.f4.params.toList = [34, 3, 4] by kernel_rfl] at h
  obtain ⟨a0, r, rfl, h0, h⟩ := h
  obtain ⟨a1, r, rfl, h1, h⟩ := h
  obtain ⟨a2, r, rfl, h2, h⟩ := h
  obtain rfl : r = [] := h
  obtain ⟨f0, x0, rfl, _, _, g0⟩ := openV34 h0
  obtain ⟨a1, rfl, f1⟩ := openV3 h1
  obtain ⟨a2, rfl, f2⟩ := openV4 h2
  refine ⟨1, ?_⟩
  have e0 : x0.all rwB = true := List.all_eq_true.2 fun e he => rw_typ (g0 e he)
  show cond (x0.all rwB) _ _ = _
  rw [e0]; rfl
end Go.Proofs.Ytnjccbnlmdajkaa
