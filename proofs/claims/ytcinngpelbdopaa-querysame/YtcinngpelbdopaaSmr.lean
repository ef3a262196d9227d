/- QuerySame's list: what its appends make. -/
import Derived.Test.YtcinngpelbdopaaSmq
set_option linter.all false
namespace Go.Proofs.Ytcinngpelbdopaa
open Go.RowKit Go.Shelf Go.Lib Go.Ev
theorem infoR : (Try.prog.info? 66).map (fun i => (i.zero, i.size, i.bytes)) = some (some (.agg #[.int .u32 0, .int .i64 0, .int .i64 0, .int .i64 0]), 4, 32) := by kernel_rfl
theorem infoS : (Try.prog.info? 76).map (fun i => (i.zero, i.size, i.bytes)) = some (some (.agg #[.slice none 0 0, .int .i64 0]), 2, 32) := by kernel_rfl
theorem und73 : Try.prog.underlying 73 = some (.slice 76) := by kernel_rfl
theorem und74 : Try.prog.underlying 74 = some (.slice 66) := by kernel_rfl
theorem info_parts {t : Nat} {z : Value} {s b : Nat} (h : (Try.prog.info? t).map (fun i => (i.zero, i.size, i.bytes)) = some (some z, s, b)) : ∃ I : TypeInfo, Try.prog.info? t = some I ∧ I.zero = some z ∧ I.size = s ∧ I.bytes = b := by
  cases hi : Try.prog.info? t with
  | none => rw [hi] at h; cases h
  | some I =>
    rw [hi] at h
    simp only [Option.map_some, Option.some.injEq, Prod.mk.injEq] at h
    exact ⟨I, rfl, h.1, h.2.1, h.2.2⟩
theorem oneR {n0 mx : Nat} (v : Value) (j : Nat) (W : World) (h : Cok n0 mx W tR j v) : v.oneCell' = true := by
  by_cases hj : j % 4 = 0
  · obtain ⟨x, rfl⟩ := h.key hj; rfl
  · obtain ⟨x, rfl⟩ := h.col hj; rfl
theorem oneS {n0 mx : Nat} (v : Value) (j : Nat) (W : World) (h : Cok n0 mx W tS j v) : v.oneCell' = true := by
  by_cases hj : j % 2 = 0
  · obtain ⟨A, l, c, rfl, _⟩ := h.sl hj; rfl
  · obtain ⟨x, rfl⟩ := h.num (by omega); rfl
theorem app_new {μ : Mu} {W : World} {t ety sz bytes : Nat} {z : Value} {I : TypeInfo} (ht : Try.prog.underlying t = some (.slice ety)) (hI : Try.prog.info? ety = some I) (hz : I.zero = some z) (hs : I.size = sz) (hb : I.bytes = bytes) (hb1 : 0 < bytes) (hb2 : bytes ≤ 100)
    {nl : Bool} {es : List (List AV)} {u : Value} (hd : DR μ (.lst nl sz es) u) (himm : ∀ b o, μ b = some o → W.heap[b]? = some o) (h0 : 0 < es.length) (hbig : es.length ≤ 1000) :
    ∃ (A : Option Addr) (c : Nat) (news : List Value), u = .slice A es.length c ∧ news.length = es.length * sz ∧ RowD μ sz es news.toArray ∧
      ∀ ty, (Builtin.append_ #[t, t] ty #[.slice none 0 0, u]).run Try.prog W = .ok (.slice (some ⟨W.heap.size, 0, none⟩) es.length (grownCap W es.length 0 ety)) (W.drew.alloc (.cells (news ++ (Builtin.zeroCells z.cells (grownCap W es.length 0 ety - es.length)).toList).toArray ety)) := by
  obtain ⟨A, c, _, hu, _⟩ := hd.view himm
  obtain ⟨news, hlen, hnl, hrow, hfirst⟩ := app_view (P := Try.prog) (E := ⟨W, fun _ => False, μ⟩) (ρ := fun _ => none) (σ := []) (a := .lst nl sz es) rfl (.c (.d hd)) (SR.start himm _)
  refine ⟨A, c, news, hu, hnl, hrow, fun ty => ?_⟩
  have hf := hfirst I.size es.length W.drew (.inl hs) (Nat.le_refl _) rfl
  rw [hs, List.take_of_length_le (by omega)] at hf
  have hm : es.length * bytes ≤ 1000 * 100 := Nat.mul_le_mul hbig hb2
  have := run_app_grow (P := Try.prog) (ty := ty) ht ht rfl hI hz (by omega) (base := none) (sLen := 0) (sCap := 0) (olds := []) (news := news) hlen (by rw [hs]; exact hf) (by simp [Builtin.firstCells]) (by omega) (by rw [hb, Nat.zero_add]; omega)
  simpa only [Nat.zero_add, List.nil_append] using this
theorem app_rows {μ : Mu} {n0 : Nat} {w W : World} {nl : Bool} {rows : List Rw} {u : Value} (h : NB n0 20 w W) (hd : DR μ (.lst nl 4 (rows.map Rw.row)) u) (himm : ∀ b o, μ b = some o → W.heap[b]? = some o) (hl : rows.length ≤ 20) :
    ∃ (VA : Option Addr) (vl vc : Nat) (W2 : World), (∀ ty, (Builtin.append_ #[74, 74] ty #[.slice none 0 0, u]).run Try.prog W = .ok (.slice VA vl vc) W2) ∧ NB n0 20 w W2 ∧ Kp n0 W W2 ∧ OkSl n0 20 W2 VA vl vc := by
  obtain ⟨I, hI, hIz, hIs, hIb⟩ := info_parts infoR
  by_cases h0 : 0 < rows.length
  · obtain ⟨A, c, news, rfl, hnl, hrow, hap⟩ := app_new (W := W) und74 hI hIz hIs hIb (by decide) (by decide) hd himm (by simpa using h0) (by rw [List.length_map]; omega)
    rw [List.length_map] at hnl hap ⊢
    have hge := grownCap_ge W rows.length 0 66
    obtain ⟨G, hG⟩ : ∃ G, grownCap W rows.length 0 66 = G := ⟨_, rfl⟩
    rw [hG] at hap hge
    have hzc : (Value.agg #[.int .u32 0, .int .i64 0, .int .i64 0, .int .i64 0]).cells = #[.int .u32 0, .int .i64 0, .int .i64 0, .int .i64 0] := rfl
    rw [hzc] at hap
    obtain ⟨R, hR⟩ : ∃ R, (news ++ (Builtin.zeroCells #[.int .u32 0, .int .i64 0, .int .i64 0, .int .i64 0] (G - rows.length)).toList).toArray = R := ⟨_, rfl⟩
    rw [hR] at hap
    have hRs : R.size = G * 4 := by
      rw [← hR, List.size_toArray, List.length_append, hnl]
      simp only [Array.length_toList, size_zeroCells]
      show rows.length * 4 + (G - rows.length) * 4 = _
      omega
    have hRok : ∀ j v, R[j]? = some v → Cok n0 20 W.drew tR j v := fun j v hj => by
      rw [← hR] at hj
      simp only [List.getElem?_toArray] at hj
      rcases list_app_get hj with hj | ⟨h1, hj⟩
      · have hjl := (List.getElem?_eq_some_iff.1 hj).1
        rw [hnl] at hjl
        obtain ⟨r, hr⟩ : ∃ r, rows[j / 4]? = some r := ⟨_, List.getElem?_eq_getElem (by omega)⟩
        have hrr : (rows.map Rw.row)[j / 4]? = some r.row := by rw [List.getElem?_map, hr]; rfl
        have hpl : j / 4 * 4 + j % 4 = j := by omega
        have hm : j % 4 < 4 := by omega
        refine .inl ⟨rfl, ?_⟩
        unfold okRc
        have key : ∀ (k : Nat) (a : AV), k = j % 4 → r.row[k]? = some a → ∃ x, news[j]? = some x ∧ DR μ a x := fun k a hk ha => by
          obtain ⟨x, hx, hdx⟩ := hrow.2 _ _ k a hrr ha
          rw [hk, hpl] at hx
          exact ⟨x, by simpa using hx, hdx⟩
        match e : j % 4, hm with
        | 0, _ => obtain ⟨x, hx, hdx⟩ := key 0 _ e.symm rfl; rw [hj] at hx; cases hx; cases hdx; exact ⟨_, rfl⟩
        | 1, _ => obtain ⟨x, hx, hdx⟩ := key 1 _ e.symm rfl; rw [hj] at hx; cases hx; cases hdx; exact ⟨_, rfl⟩
        | 2, _ => obtain ⟨x, hx, hdx⟩ := key 2 _ e.symm rfl; rw [hj] at hx; cases hx; cases hdx; exact ⟨_, rfl⟩
        | 3, _ => obtain ⟨x, hx, hdx⟩ := key 3 _ e.symm rfl; rw [hj] at hx; cases hx; cases hdx; exact ⟨_, rfl⟩
      · rw [hnl] at h1 hj
        have hZ := szR n0 20
        have h3 := hZ.sh W.drew (rows.length + (j - rows.length * 4) / 4) _ _ (hZ.zok W.drew _ _ (zeros_get hZ.zsz hZ.pos (show (Builtin.zeroCells #[.int .u32 0, .int .i64 0, .int .i64 0, .int .i64 0] (G - rows.length))[j - rows.length * 4]? = some v by simpa using hj)))
        have e2 : (rows.length + (j - rows.length * 4) / 4) * 4 + (j - rows.length * 4) % 4 = j := by omega
        rw [e2] at h3
        exact h3
    obtain ⟨k1, k2, k3⟩ := h.drew.alloc hRok
    rw [hRs] at k3
    exact ⟨_, _, _, _, hap, k1, k2, .inr ⟨_, rfl, hge, hl, k3⟩⟩
  · have hr : rows = [] := List.eq_nil_of_length_eq_zero (by omega)
    subst hr
    obtain ⟨A, c, _, rfl, _⟩ := hd.view himm
    simp only [List.map_nil, List.length_nil]
    refine ⟨none, 0, 0, W, fun ty => ?_, h, Kp.refl _, .inl ⟨rfl, rfl, rfl⟩⟩
    have h1 : ∀ w : World, (Builtin.lenOf (.slice A 0 c)).run Try.prog w = .ok 0 w := fun w => by simp [Builtin.lenOf]
    have h2 : (Builtin.firstCells I.size 0 (.slice A 0 c)).run Try.prog W = .ok (List.toArray []) W := by
      cases A with
      | none => rfl
      | some a => exact run_firstCells_some W I.size 0 a 0 c [] (by simp) fun j v hj => by simp at hj
    have h3 : ((match (none : Option Addr) with | some a => storeCells (a.add (0 * I.size)) [] | none => pure ()) : Sem Unit).run Try.prog W = .ok () W := by simp
    exact run_app_room (P := Try.prog) und74 und74 rfl hI h1 h2 (Nat.le_refl _) h3
theorem dr_res {μ : Mu} {w : World} {nl : Bool} {xs : List (Bool × Res)} {A : Option Addr} {c n : Nat} (hd : DR μ (.lst nl 2 (outB xs)) (.slice A n c)) (himm : ∀ b o, μ b = some o → w.heap[b]? = some o) :
    n = xs.length ∧ (0 < n → ∃ mb mo, A = some ⟨mb, mo, none⟩ ∧ mb < w.heap.size ∧ ∀ (k : Nat) (p : Bool × Res), xs[k]? = some p → ∃ (RA : Option Addr) (rc : Nat), w.cell? ⟨mb, mo + k * 2, none⟩ = some (.slice RA p.2.rows.length rc) ∧ w.cell? ⟨mb, mo + k * 2 + 1, none⟩ = some (.int .i64 p.2.num) ∧ DR μ (.lst p.1 4 (p.2.rows.map Rw.row)) (.slice RA p.2.rows.length rc)) := by
  cases hd with
  | @lst _ _ _ A c vals hnil hA hc hszs hcell hv =>
    refine ⟨outB_len xs, fun h0 => ?_⟩
    cases A with
    | none => have := (hA rfl).1; rw [this] at h0; cases h0
    | some ad =>
      have hspot : ∃ b o, ad = ⟨b, o, none⟩ ∧ ∃ cc ty fz, μ b = some (.cells cc ty fz) := by
        have := hcell ad rfl 0 0 h0 (by decide)
        obtain ⟨b, o, s⟩ := ad
        cases s with
        | none =>
          refine ⟨b, o, rfl, ?_⟩
          rw [Addr.add_lit] at this
          unfold muCell at this
          simp only at this
          split at this
          · rename_i cc ty fz hm; exact ⟨cc, ty, fz, hm⟩
          · cases this
        | some s =>
          rw [show (0 * 2 + 0 : Nat) = 0 by omega] at this
          simp only [Addr.add, if_true, muCell] at this
          split at this <;> simp at this
      obtain ⟨b, o, rfl, cc, ty, fz, hm⟩ := hspot
      refine ⟨b, o, rfl, (Array.getElem?_eq_some_iff.1 (himm _ _ hm)).1, fun k p hk => ?_⟩
      have hkl := (List.getElem?_eq_some_iff.1 hk).1
      have hkk : (outB xs)[k]? = some (p.2.cells p.1) := by unfold outB; rw [List.getElem?_map, hk]; rfl
      have g : ∀ j, j < 2 → w.cell? ⟨b, o + (k * 2 + j), none⟩ = some (vals k j) := fun j hj => by
        have := hcell _ rfl k j (by rw [outB_len]; exact hkl) hj
        rw [Addr.add_lit] at this
        exact muCell_cell himm this
      have d0 := hv k _ 0 _ hkk rfl
      have d1 := hv k _ 1 _ hkk rfl
      have g0 := g 0 (by decide)
      have g1 := g 1 (by decide)
      generalize vals k 0 = y0 at d0 g0
      generalize vals k 1 = y1 at d1 g1
      obtain ⟨RA, rc, _, rfl, _⟩ := d0.view himm
      rw [List.length_map] at g0 d0
      cases d1
      exact ⟨RA, rc, g0, by rw [Nat.add_assoc]; exact g1, d0⟩
end Go.Proofs.Ytcinngpelbdopaa
