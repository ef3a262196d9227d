/- The example of chapter 6: Post. -/
import Derived.Test.YtnjccbnlmdajkaaAwkA
import Derived.Test.YtnjccbnlmdajkaaAwkW
set_option linter.all false
namespace Go.Proofs.Ytnjccbnlmdajkaa
open Go.RowKit Go.Shelf Go.Lib Go.Ev
set_option maxRecDepth 100000
theorem b1s_d {μ : Mu} {hp : HF} {a : AV} {v : Value} {cs : List AV} {vs : List Value} (h : DR μ a v) (k : B1s μ hp [] [] cs vs) : B1s μ hp [] [] (a :: cs) (v :: vs) := .cons (F := []) (F' := []) (G := []) (G' := []) (.c (.d h)) k
theorem b2s_d {μ : Mu} {hp : HF} {a : AV} {v : Value} {F : List Nat} {G : List Value} {cs : List AV} {vs : List Value} (h : B2 μ hp [] [] a v) (k : B2s μ hp F G cs vs) : B2s μ hp F G (a :: cs) (v :: vs) := .cons (F := []) (F' := F) (G := []) (G' := G) h k
theorem dr_nil' (μ : Mu) (sz : Nat) : DR μ (.lst true sz []) (.slice none 0 0) :=
  DR.lst (A := none) (c := 0) (xs := []) (fun _ _ => undef) rfl (fun _ => ⟨rfl, rfl⟩) (Nat.le_refl _) (fun e he => by cases he) (fun a ha => by cases ha) (fun k e j u hk => by simp at hk)
theorem vrb_b2 {μ : Mu} {hp : HF} (kd nd at_ n old nw key bt : Int) : B2 μ hp [] [] (.agg [.v (.int .i64 kd), .v (.int .i64 nd), .v (.int .i64 at_), .v (.int .i64 n), .v (.int .u64 old), .v (.int .u64 nw), .lst true 1 [], .v (.int .u64 key), .v (.int .i64 bt)]) (.agg (vCells kd nd at_ n old nw none 0 0 key bt)) :=
  .agg (vs := [.int .i64 kd, .int .i64 nd, .int .i64 at_, .int .i64 n, .int .u64 old, .int .u64 nw, .slice none 0 0, .int .u64 key, .int .i64 bt]) (b1s_d (.v rfl) (b1s_d (.v rfl) (b1s_d (.v rfl) (b1s_d (.v rfl) (b1s_d (.v rfl) (b1s_d (.v rfl) (b1s_d (dr_nil' μ 1) (b1s_d (.v rfl) (b1s_d (.v rfl) .nil)))))))))
theorem d_v {μ : Mu} {hp : HF} {v : Value} (h : okC (.v v) = true) : B2 μ hp [] [] (.v v) v := .o (.c (.d (.v h)))
section
variable {w : World} {bf : Nat} {d : AD} {na pa : AV} {bat plc : Value} {wv tr po : Int} {ext : List RawB} {V : World}
theorem s13_mk (h : AK w bf d na pa bat plc wv tr po ext V) {b : Nat} {kd nd at_ n old nw key bt : Int} {A : Option Addr} {l c : Nat} (hb : V.heap[b]? = some (.cells (vCells kd nd at_ n old nw A l c key bt) 50 (0, 0))) : S13 bf d.bn 1 d.cn 5 V b kd nd at_ n old nw A l c key bt :=
  ⟨cell_of hb rfl, cell_of hb rfl, cell_of hb rfl, cell_of hb rfl, cell_of hb rfl, cell_of hb rfl, cell_of hb rfl, cell_of hb rfl, cell_of hb rfl, h.st.cell (i := 0) rfl h.f.1, h.st.cell (i := 0) rfl h.f.2.1⟩
theorem valid_ok (h : AK w bf d na pa bat plc wv tr po ext V) {kd nd at_ n old nw key bt : Int} (hev : ev 35 [.agg [.v (.int .i64 kd), .v (.int .i64 nd), .v (.int .i64 at_), .v (.int .i64 n), .v (.int .u64 old), .v (.int .u64 nw), .lst true 1 [], .v (.int .u64 key), .v (.int .i64 bt)], .v (.int .i64 1), .v (.int .i64 5)] = some [.v (.int .i64 0)]) :
    S13 bf d.bn 1 d.cn 5 (V.alloc (.cells (vCells kd nd at_ n old nw none 0 0 key bt) 50)).drew V.heap.size kd nd at_ n old nw none 0 0 key bt ∧
    Calls Try.prog 35 #[.agg (vCells kd nd at_ n old nw none 0 0 key bt), .int .i64 (1 : Nat), .int .i64 5] (V.alloc (.cells (vCells kd nd at_ n old nw none 0 0 key bt) 50)).drew fun e w' => e = .returned (.int .i64 0) ∧ AK w bf d na pa bat plc wv tr po ext w' ∧ S13 bf d.bn 1 d.cn 5 w' V.heap.size kd nd at_ n old nw none 0 0 key bt := by
  have ka := KeptW.alloc V (.cells (vCells kd nd at_ n old nw none 0 0 key bt) 50)
  have h1 := (h.kept0 ka).kept0 (kept_drew _)
  have hb := Ev.alloc_new V (.cells (vCells kd nd at_ n old nw none 0 0 key bt) 50)
  refine ⟨s13_mk h1 hb, (call_lent mix extOk hev Try.func35 (b2s_d (vrb_b2 ..) (b2s_d (d_v rfl) (b2s_d (d_v rfl) .nil)))).mono fun e w' he => ?_⟩
  obtain ⟨vs, μ', F1, G1, rfl, hk, hle, hb3⟩ := he
  obtain ⟨rfl, _⟩ := b2s_vals_inv (F := F1) (G := G1) [.int .i64 0] hb3
  exact ⟨rfl, h1.kept0 hk, s13_mk (h1.kept0 hk) (hk.get hb List.not_mem_nil)⟩
end
theorem inf3 : (Try.prog.info? 3).map (fun i => (i.zero, i.size, i.bytes)) = some (some (.int .i64 0), 1, 8) := by kernel_rfl
theorem und52 : Try.prog.underlying 52 = some (.slice 3) := by kernel_rfl
theorem inf67 : (Try.prog.info? 67).map (fun i => (i.zero, i.size, i.bytes)) = some (some (.agg #[.int .i64 0, .slice none 0 0]), 2, 32) := by kernel_rfl
def PL (i : Nat) (plc : Value) (ext : List RawB) : Prop := (i = 0 ∧ plc = .slice none 0 0 ∧ ext = []) ∨ (0 < i ∧ ∃ (B c : Nat) (cur : Array Value), plc = .slice (some ⟨B, 0, none⟩) i c ∧ i ≤ c ∧ ext = [rawC B cur 3] ∧ cur.size = c * 1 ∧ ∀ k, k < i → cur[k]? = some (.int .i64 (k : Nat)))
theorem post_ok {w : World} {bf : Nat} {d : AD} {pa pa' : AV} {plc : Value} {vb i : Nat} {ext : List RawB} {V : World} (h : AK w bf d n0 pa (.slice none 0 0) plc 0 0 0 (rawC vb vb18 50 :: ext) V) (hpl : PL i plc ext) (hi : i < 2) {kd at_ n old nw key bt : Int}
    (hev : ev 36 [pa, .agg [.v (.int .i64 kd), .v (.int .i64 0), .v (.int .i64 at_), .v (.int .i64 n), .v (.int .u64 old), .v (.int .u64 nw), .lst true 1 [], .v (.int .u64 key), .v (.int .i64 bt)], .v (.int .i64 5)] = some ([.v (.int .i64 0)] ++ [pa'])) (hfl : flatO pa' = true) :
    Calls Try.prog 36 #[.pointer (some ⟨d.pp, 0, none⟩), .agg (vCells kd 0 at_ n old nw none 0 0 key bt), .int .i64 5] (V.alloc (.cells (vCells kd 0 at_ n old nw none 0 0 key bt) 50)).drew.drew fun e w' =>
      ∃ (x : Int) (PA : Option Addr) (pl pc B c' : Nat) (W4 : World), e = .returned (.int .i64 x) ∧ w'.cell? ⟨d.bl, 0 * 2 + 1, none⟩ = some (.slice PA pl pc) ∧
        Hid (∀ ty, (Builtin.append_ #[52, 52] ty #[.slice PA pl pc, .slice (some ⟨w'.heap.size, 0, none⟩) 1 1]).run Try.prog (w'.alloc (.cells #[.int .i64 i] 3)) = .ok (.slice (some ⟨B, 0, none⟩) (pl + 1) c') W4) ∧
        W4.frozen? ⟨d.bl, 0 * 2 + 1, none⟩ = false ∧ (∃ y, W4.cell? ⟨d.bl, 0 * 2 + 1, none⟩ = some y) ∧
        ∃ (d' : AD) (ext' : List RawB), (d'.bn = d.bn ∧ d'.cn = d.cn ∧ d'.bc = d.bc ∧ d'.bl = d.bl ∧ d'.cl = d.cl ∧ d'.pn = d.pn ∧ d'.pp = d.pp) ∧ PL (i + 1) (.slice (some ⟨B, 0, none⟩) (pl + 1) c') ext' ∧
          AK w bf d' n0 pa' (.slice none 0 0) (.slice (some ⟨B, 0, none⟩) (pl + 1) c') 0 0 0 (rawC vb vb18 50 :: ext') (W4.setCell ⟨d.bl, 0 * 2 + 1, none⟩ (.slice (some ⟨B, 0, none⟩) (pl + 1) c')) := by
  have ka := KeptW.alloc V (.cells (vCells kd 0 at_ n old nw none 0 0 key bt) 50)
  have h1 := ((h.kept0 ka).kept0 (kept_drew _)).kept0 (kept_drew _)
  generalize (V.alloc (.cells (vCells kd 0 at_ n old nw none 0 0 key bt) 50)).drew.drew = X at h1 ⊢
  have hpr : B1 mu0 (hf X) d.Fp [.pointer (some ⟨d.pp, 0, none⟩)] pa (.pointer (some ⟨d.pp, 0, none⟩)) := h1.st.own.ok ⟨_, d.Fp, pa⟩ (by simp)
  have hB : B2s mu0 (hf X) (foot [(⟨.pointer (some ⟨d.pp, 0, none⟩), d.Fp, pa⟩ : ItemO)]) ([(⟨.pointer (some ⟨d.pp, 0, none⟩), d.Fp, pa⟩ : ItemO)].map ItemO.p) [pa, .agg [.v (.int .i64 kd), .v (.int .i64 0), .v (.int .i64 at_), .v (.int .i64 n), .v (.int .u64 old), .v (.int .u64 nw), .lst true 1 [], .v (.int .u64 key), .v (.int .i64 bt)], .v (.int .i64 5)] [.pointer (some ⟨d.pp, 0, none⟩), .agg (vCells kd 0 at_ n old nw none 0 0 key bt), .int .i64 5] :=
    .cons (F' := []) (G' := []) (.o hpr) (b2s_d (vrb_b2 ..) (b2s_d (d_v rfl) .nil))
  refine (h1.st.call mix extOk [⟨.pointer (some ⟨d.pp, 0, none⟩), d.Fp, pa⟩] [⟨.pointer (some ⟨d.pn, 0, none⟩), d.Fn, n0⟩] (List.Perm.swap _ _ _) hev Try.func36 (by kernel_rfl) hB (by rw [List.all_cons, hfl]; rfl)).mono fun e w' he => ?_
  obtain ⟨vs, μ', F1, G1, xs', rfl, hb1, _, hp', ha', hst, _, _⟩ := he
  obtain ⟨rfl, _⟩ := b2s_vals_inv (F := F1) (G := G1) [.int .i64 0] hb1
  obtain ⟨⟨xp, xF, xa⟩, rfl⟩ := one_of (l := xs') (by have := congrArg List.length hp'; simpa using this)
  obtain rfl : xp = .pointer (some ⟨d.pp, 0, none⟩) := (List.cons.inj hp').1
  obtain rfl : xa = pa' := (List.cons.inj ha').1
  have hst2 : Wst w [⟨.pointer (some ⟨d.pn, 0, none⟩), d.Fn, n0⟩, ⟨.pointer (some ⟨d.pp, 0, none⟩), xF, xa⟩] (d.raw bf (rawC vb vb18 50 :: ext)) w' := hst.perm (List.Perm.swap _ _ _)
  obtain ⟨I, hI, hIz, hIs, hIb⟩ := info_parts inf3
  have hst3 := hst2.kept0 (KeptW.alloc w' (.cells #[.int .i64 i] 3))
  have hE := Ev.alloc_new w' (.cells #[.int .i64 i] 3)
  have hone : ∀ v ∈ (#[Value.int .i64 (i : Nat)] : Array Value).toList, v.oneCell' = true := fun v hv => by
    simp only [List.mem_cons, List.not_mem_nil, or_false] at hv
    subst hv; rfl
  rcases hpl with ⟨rfl, rfl, rfl⟩ | ⟨h0, B, c, cur, rfl, hic, rfl, hcs, hcv⟩
  · obtain ⟨b', c', W4, cur', hrun, hst4, hs4, hc4, hnew⟩ := hst3.app0 (P := Try.prog) und52 hI hIz hIs (by omega) (by omega) rfl hE rfl hone
    have hst5 := hst4.set (i := 3) rfl (0 * 2 + 1) (.slice (some ⟨b', 0, none⟩) (0 + 1) c')
    refine ⟨0, none, 0, 0, b', c', W4, rfl, hst2.cell (i := 3) rfl h.l.2, hrun, hst4.frozen (i := 3) rfl _, ⟨_, hst4.cell (i := 3) rfl h.l.2⟩, { d with Fp := xF, curl := d.curl.setIfInBounds (0 * 2 + 1) (.slice (some ⟨b', 0, none⟩) (0 + 1) c') }, [rawC b' cur' 3], ⟨rfl, rfl, rfl, rfl, rfl, rfl, rfl⟩,
      .inr ⟨by omega, b', c', cur', rfl, hc4, rfl, hs4, fun k hk => ?_⟩, hst5, h.f, h.n, h.c, ?_, ?_⟩
    · obtain rfl : k = 0 := by omega
      exact hnew 0 (by decide)
    · rw [Array.getElem?_setIfInBounds, if_neg (by decide)]; exact h.l.1
    · have := (Array.getElem?_eq_some_iff.1 h.l.2).1
      rw [Array.getElem?_setIfInBounds, if_pos rfl, if_pos this]
  · obtain ⟨b', c', W4, cur', hrun, hst4, hs4, hc4, hold, hnew⟩ := hst3.app (P := Try.prog) (i := 5) rfl und52 hI hIz hIs (by omega) (by omega) rfl (l := i) (by omega) hic hcs hE rfl hone
    have hst5 := hst4.set (i := 3) rfl (0 * 2 + 1) (.slice (some ⟨b', 0, none⟩) (i + 1) c')
    refine ⟨0, some ⟨B, 0, none⟩, i, c, b', c', W4, rfl, hst2.cell (i := 3) rfl h.l.2, hrun, hst4.frozen (i := 3) rfl _, ⟨_, hst4.cell (i := 3) rfl h.l.2⟩, { d with Fp := xF, curl := d.curl.setIfInBounds (0 * 2 + 1) (.slice (some ⟨b', 0, none⟩) (i + 1) c') }, [rawC b' cur' 3], ⟨rfl, rfl, rfl, rfl, rfl, rfl, rfl⟩,
      .inr ⟨by omega, b', c', cur', rfl, hc4, rfl, hs4, fun k hk => ?_⟩, hst5, h.f, h.n, h.c, ?_, ?_⟩
    · by_cases hki : k < i
      · rw [hold k (by omega)]; exact hcv k hki
      · obtain rfl : k = i := by omega
        have := hnew 0 (by decide)
        simpa using this
    · rw [Array.getElem?_setIfInBounds, if_neg (by decide)]; exact h.l.1
    · have := (Array.getElem?_eq_some_iff.1 h.l.2).1
      rw [Array.getElem?_setIfInBounds, if_pos rfl, if_pos this]
end Go.Proofs.Ytnjccbnlmdajkaa
