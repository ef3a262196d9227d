/- New rows; appending; copying; writing. -/
import Derived.Test.YtokagdgcfmjlnaaEv12
set_option linter.all false
namespace Go.Ev

section
variable {P : Program} {E : Env} {μ : Mu} {ρ : Rho} {σ : Store} {w : World}

theorem plain_data {cs : List AV} {vs : List Value} (h : CRs μ ρ cs vs) (hp : cs.all isV = true) : DRs μ cs vs := by
  refine ⟨h.1, fun k u v hu hv => ?_⟩
  have h1 := h.2 k u v hu hv
  have h2 := List.all_eq_true.1 hp u (List.mem_of_getElem? hu)
  cases u with
  | v x => cases h1 with | d hd => exact hd
  | _ => cases h2

theorem frzP_sound {e : TypeId} {cs cs' : List AV} {vs : List Value} {σ' : Store} (hs : SR E μ ρ σ w) (hv : CRs μ ρ cs vs) (h : frzP P e σ cs = some (cs', σ')) :
    ∃ μ', MuLe μ μ' ∧ SR E μ' ρ σ' w ∧ DRs μ' cs' vs ∧ σ'.length = σ.length ∧ cs'.length = cs.length ∧ (plainT P e = true → μ' = μ) := by
  unfold frzP at h
  cases hp : plainT P e with
  | true =>
    rw [hp] at h
    simp only [cond_true] at h
    obtain ⟨ha, h⟩ := cond_some h
    injection h with h; injection h with h1 h2; subst h1; subst h2
    exact ⟨μ, MuLe.refl μ, hs, plain_data hv ha, rfl, rfl, fun _ => rfl⟩
  | false =>
    rw [hp] at h
    obtain ⟨μ', h1, h2, h3, h4, h5⟩ := frzL_sound hs hv h
    exact ⟨μ', h1, h2, h3, h4, h5, fun e => (by cases e)⟩
theorem frzP_plain {e : TypeId} {cs cs' : List AV} {σ' : Store} (hp : plainT P e = true) (h : frzP P e σ cs = some (cs', σ')) : σ' = σ := by
  unfold frzP at h
  rw [hp] at h
  simp only [cond_true] at h
  obtain ⟨_, h⟩ := cond_some h
  injection h with h; injection h with _ h2; exact h2.symm

theorem frzL_len : ∀ (cs : List AV) (σ σ' : Store) (cs' : List AV), frzL σ cs = some (cs', σ') → σ'.length = σ.length := by
  intro cs
  induction cs with
  | nil => intro σ σ' cs' h; simp [frzL] at h; rw [h.2]
  | cons c cs ih =>
    intro σ σ' cs' h
    simp only [frzL] at h
    split at h
    · cases h
    · rename_i h1
      split at h
      · cases h
      · rename_i h2
        simp only [Option.some.injEq, Prod.mk.injEq] at h
        rw [← h.2, ih _ _ _ h2]
        unfold frz at h1
        split at h1
        · injection h1 with h1; injection h1 with _ h1; rw [← h1]
        · injection h1 with h1; injection h1 with _ h1; rw [← h1]
        · split at h1
          · cases h1
          · have h1 := (cond_some' h1).2
            injection h1 with h1; injection h1 with _ h1; rw [← h1]; simp
        · cases h1
theorem frzP_len {e : TypeId} {cs cs' : List AV} {σ σ' : Store} (h : frzP P e σ cs = some (cs', σ')) : σ'.length = σ.length := by
  cases hp : plainT P e with
  | true => rw [frzP_plain hp h]
  | false =>
    unfold frzP at h
    rw [hp] at h
    exact frzL_len _ _ _ _ h

/-- Are the rows of a slice's type plain? -/
def rowQ (P : Program) (t : TypeId) : Bool := match P.underlying t with | some (.slice e) => plainT P e | _ => false

theorem Grow.any {μ μ' : Mu} {ρ ρ' : Rho} {n n' : Nat} {w w' : World} (h : Grow true μ ρ n w μ' ρ' n' w') (q : Bool) : Grow q μ ρ n w μ' ρ' n' w' := by
  cases q with
  | true => exact h
  | false => exact h.loud

theorem grow_mu {q : Bool} {μ' : Mu} (h : MuLe μ μ') (hq : q = true → μ' = μ) (n : Nat) : Grow q μ ρ n w μ' ρ n w :=
  ⟨h, RhoLe.refl ρ, Nat.le_refl n, fun _ _ h => .inl h, fun _ _ _ => rfl, Nat.le_refl _, fun e b o hb => .inl (by rw [hq e] at hb; exact hb)⟩

theorem madeCells_get {z : Array Value} {n i : Nat} (hi : i < n) : (madeCells z n)[i]? = some (z[i % z.size]!) := by
  simp [madeCells, hi]

theorem idx_lt {i j n sz : Nat} (hi : i < n) (hj : j < sz) : i * sz + j < n * sz ∧ (i * sz + j) % sz = j := by
  refine ⟨?_, by rw [Nat.mul_comm, Nat.mul_add_mod, Nat.mod_eq_of_lt hj]⟩
  calc i * sz + j < i * sz + sz := by omega
    _ = (i + 1) * sz := by rw [Nat.add_mul, Nat.one_mul]
    _ ≤ n * sz := Nat.mul_le_mul_right _ hi

/-- A new row, for a slice. -/
theorem newRow_sound {e : TypeId} {sz : Nat} {xs : List (List AV)} {cur : Array Value} {cap : Nat} (hs : SR E μ ρ σ w) (hf : Fresh ρ σ) (hr : RowD μ sz xs cur) (hc : cur.size = cap * sz) (hle : xs.length ≤ cap) :
    ∃ ρ', Grow true μ ρ σ.length w μ ρ' (σ ++ [(⟨1, e, sz, false, xs⟩ : Blk)]).length (w.alloc (.cells cur e)) ∧ VR μ ρ' (.sl false σ.length 0 none) (.slice (some ⟨w.heap.size, 0, none⟩) xs.length cap) ∧
      SR E μ ρ' (σ ++ [(⟨1, e, sz, false, xs⟩ : Blk)]) (w.alloc (.cells cur e)) := by
  obtain ⟨_, hs'⟩ := hs.new hf ⟨1, e, sz, false, xs⟩ cur rfl (by rw [hc]; exact Nat.mul_le_mul_right _ hle) (fun e => by cases e) (fun _ => hr) (fun e => by cases e)
  refine ⟨_, grow_add hf _ _ _ (fun _ => .inr (Nat.le_refl _)) (fun _ b hb => alloc_old w _ b hb) (by simp), ?_, hs'⟩
  exact .c (.sl (rhoAdd_same ρ σ.length ⟨w.heap.size, cur.size, sz, xs.length, false⟩) rfl (.inl (by simp)) (by simp [cutN]) (by simp) hle (by simp [hc]))

theorem evMakeSlice_sound {R : Type} {K : AV → Store → Option R} {r : R} {t : TypeId} {a b : AV} (h : evMakeSlice P σ K t a b = some r) :
    ∃ av σ', K av σ' = some r ∧ σ.length ≤ σ'.length ∧ (rowQ P t = true → ∃ τ, σ' = σ ++ τ) ∧ ∀ (E : Env) (μ : Mu) (ρ : Rho) (va vb : Value) (w : World), VR μ ρ a va → VR μ ρ b vb → SR E μ ρ σ w → FreshTo ρ σ.length σ'.length →
      ∃ v w' μ' ρ', (Instr.makeSlice t va vb).run P w = .ok v w' ∧ Grow (rowQ P t) μ ρ σ.length w μ' ρ' σ'.length w' ∧ VR μ' ρ' av v ∧ SR E μ' ρ' σ' w' := by
  unfold evMakeSlice at h
  split at h
  · rename_i e k n k' c hu
    split at h
    · cases h
    · rename_i z σ1 hz
      obtain ⟨i, z0, hi, hzz, hzs⟩ := zeroOf_spec hz
      obtain ⟨τ, ht⟩ := zeros_app _ _ hzs
      split at h
      · cases h
      · rename_i z' σ2 hfz
        replace h := cond_some h
        obtain ⟨hl, h⟩ := h
        simp only [Bool.and_eq_true] at hl
        have hlen := Nat.eq_of_beq_eq_true hl.1
        have hpos : 0 < P.cellsOf e := by simpa [Nat.blt_eq] using hl.2
        replace h := cond_some h
        obtain ⟨hr, h⟩ := h
        simp only [Bool.and_eq_true, decide_eq_true_eq] at hr
        obtain ⟨⟨⟨h0, hnc⟩, hby⟩, hc48⟩ := hr
        refine ⟨_, _, h, (by have := frzP_len hfz; rw [ht] at this; simp at this ⊢; omega), fun hp => ?_, fun E μ ρ va vb w ha hb hs hf => ?_⟩
        · rw [rowQ, hu] at hp
          rw [frzP_plain hp hfz, ht]
          exact ⟨_, by rw [List.append_assoc]⟩
        · have hrq : rowQ P t = plainT P e := by rw [rowQ, hu]
          rw [hrq]
          have := ha.v_eq; subst this
          have := hb.v_eq; subst this
          have hlen2 : σ1.length ≤ (σ2 ++ [(⟨1, e, P.cellsOf e, false, List.replicate n.toNat z'⟩ : Blk)]).length := by
            have := frzP_len hfz
            simp; omega
          obtain ⟨ρ1, g1, hzc, hs1⟩ := zeros_sound _ _ hzs hs hf hlen2
          obtain ⟨μ2, hle2, hs2, hd2, hn2, hn3, hmq⟩ := frzP_sound hs1 hzc hfz
          have g2 : Grow (plainT P e) μ ρ1 σ1.length w μ2 ρ1 σ2.length w := by rw [hn2]; exact grow_mu hle2 hmq _
          have hfr : Fresh ρ1 σ2 := (hf.grow ((g1.any _).trans g2)).fresh (by simp)
          have hci : P.cellsOf e = i.size := by simp [Program.cellsOf, hi]
          have hbi : P.bytesOf e = i.bytes := by simp [Program.bytesOf, hi]
          have hzl : z0.cells.size = P.cellsOf e := by have := hd2.1; simp only [Array.length_toList] at this; rw [this, hlen]
          have hrow : RowD μ2 (P.cellsOf e) (List.replicate n.toNat z') (madeCells z0.cells (c.toNat * i.size)) := by
            refine ⟨fun x hx => ?_, fun p x q u hx hu' => ?_⟩
            · rw [(List.mem_replicate.1 hx).2]; exact hlen
            · have hp : p < n.toNat := by have := (List.getElem?_eq_some_iff.1 hx).1; simpa using this
              have hxz : x = z' := by simp [List.getElem?_replicate, hp] at hx; exact hx.symm
              subst hxz
              have hq : q < P.cellsOf e := by rw [← hlen]; exact (List.getElem?_eq_some_iff.1 hu').1
              obtain ⟨h1, h2⟩ := idx_lt (n := c.toNat) (show p < c.toNat by omega) hq
              rw [hci] at h1 h2
              refine ⟨z0.cells[q]!, ?_, ?_⟩
              · rw [hci, madeCells_get h1, hzl, hci, h2]
              · have hq' : q < z0.cells.size := by omega
                refine hd2.2 q u _ hu' ?_
                rw [Array.getElem?_toList]; simp [hq']
          obtain ⟨ρ3, g3, hv3, hs3⟩ := newRow_sound (e := e) (cap := c.toNat) hs2 hfr hrow (by rw [size_madeCells, hci]) (by simp; omega)
          refine ⟨_, _, μ2, ρ3, run_make w t e i z0 hu hi hzz k k' n c h0 hnc ?_ (by omega), ((g1.any _).trans g2).trans (g3.any _), ?_, hs3⟩
          · rw [← hbi, Int.mul_comm]; exact hby
          · simpa using hv3
  · cases h

theorem made_flat {z : Array Value} {n : Nat} (hz : 0 < z.size) : madeCells z (n * z.size) = (List.replicate n z.toList).flatten.toArray := by
  apply Array.ext'
  apply List.ext_getElem?
  intro q
  have hlen : (List.replicate n z.toList).flatten.length = n * z.size := by simp [List.length_flatten]
  by_cases hq : q < n * z.size
  · obtain ⟨h1, h2, h3⟩ := div_lt hq
    rw [Array.getElem?_toList, madeCells_get hq]
    have := flat_get z.toList n (q / z.size) (q % z.size) h1 (by simpa using h2)
    rw [Array.length_toList, h3] at this
    rw [this]
    simp [h2]
  · rw [Array.getElem?_toList, Array.getElem?_eq_none (by rw [size_madeCells]; omega), List.getElem?_eq_none (by rw [show ((List.replicate n z.toList).flatten.toArray.toList) = (List.replicate n z.toList).flatten from rfl, hlen]; omega)]

theorem fillAV_len {place : Nat → Option (Nat × Nat)} : ∀ (parts : List (Nat × AV)) (cs cs' : List AV), fillAV place cs parts = some cs' → cs'.length = cs.length
  | [], cs, cs', h => by simp only [fillAV, Option.some.injEq] at h; rw [h]
  | (i, a) :: parts, cs, cs', h => by
    simp only [fillAV] at h
    split at h
    · cases h
    · rename_i off size _
      split at h
      · cases h
      · rename_i p _
        obtain ⟨hb, h⟩ := cond_some h
        simp only [Bool.and_eq_true] at hb
        have h1 := Nat.eq_of_beq_eq_true hb.1
        have h2 := Nat.le_of_ble_eq_true hb.2
        rw [fillAV_len parts _ _ h]
        simp; omega

theorem chunks_row {sz n : Nat} {cs : List AV} {vs : List Value} (h : DRs μ cs vs) (hl : cs.length = n * sz) : RowD μ sz (chunks sz n cs) vs.toArray := by
  have hi : ∀ (i : Nat) (e : List AV), (chunks sz n cs)[i]? = some e → i < n ∧ e = (cs.drop (i * sz)).take sz := fun i e he => by
    have hin : i < n := by have := (List.getElem?_eq_some_iff.1 he).1; rwa [chunks_len] at this
    rw [chunks_get sz n cs i hin] at he
    injection he with he
    exact ⟨hin, he.symm⟩
  have hel : ∀ (i : Nat) (e : List AV), (chunks sz n cs)[i]? = some e → e.length = sz := fun i e he => by
    obtain ⟨h1, h2⟩ := hi i e he
    have : (i + 1) * sz ≤ n * sz := Nat.mul_le_mul_right _ h1
    rw [Nat.add_mul, Nat.one_mul] at this
    rw [h2]; simp; omega
  refine ⟨fun e he => ?_, fun i e j c he hc => ?_⟩
  · obtain ⟨i, hi', e1⟩ := List.getElem_of_mem he
    exact hel i e (by rw [List.getElem?_eq_getElem hi', e1])
  · obtain ⟨h1, h2⟩ := hi i e he
    have hj : j < sz := by rw [← hel i e he]; exact (List.getElem?_eq_some_iff.1 hc).1
    subst h2
    rw [List.getElem?_take, if_pos hj, List.getElem?_drop] at hc
    obtain ⟨h3, _⟩ := idx_lt h1 hj
    have hlt : i * sz + j < vs.length := by rw [h.1, hl]; exact h3
    exact ⟨vs[i * sz + j], by simp [hlt], h.2 _ c _ hc (List.getElem?_eq_getElem hlt)⟩

theorem evBuildSlice_sound {R : Type} {K : AV → Store → Option R} {r : R} {t : TypeId} {n : Nat} {parts : List (Nat × AV)} (h : evBuildSlice P σ K t n parts = some r) :
    ∃ av σ', K av σ' = some r ∧ σ.length ≤ σ'.length ∧ (rowQ P t = true → ∃ τ, σ' = σ ++ τ) ∧ ∀ (E : Env) (μ : Mu) (ρ : Rho) (vparts : Array (Nat × Value)) (w : World), parts.length = vparts.size →
      (∀ (q i : Nat) (a : AV), parts[q]? = some (i, a) → ∃ v : Value, vparts.toList[q]? = some (i, v) ∧ VR μ ρ a v) → SR E μ ρ σ w → FreshTo ρ σ.length σ'.length →
      ∃ v w' μ' ρ', (Instr.buildSlice t n vparts).run P w = .ok v w' ∧ Grow (rowQ P t) μ ρ σ.length w μ' ρ' σ'.length w' ∧ VR μ' ρ' av v ∧ SR E μ' ρ' σ' w' := by
  unfold evBuildSlice at h
  split at h
  · rename_i e hu
    split at h
    · cases h
    · rename_i z σ1 hz
      obtain ⟨i, z0, hi, hzz, hzs⟩ := zeroOf_spec hz
      obtain ⟨τ, ht⟩ := zeros_app _ _ hzs
      split at h
      · cases h
      · rename_i cs hfill
        split at h
        · cases h
        · rename_i cs' σ2 hfz
          replace h := cond_some h
          obtain ⟨hl, h⟩ := h
          simp only [Bool.and_eq_true] at hl
          have hlen := Nat.eq_of_beq_eq_true hl.1.1
          have h24 := Nat.le_of_ble_eq_true hl.1.2
          have hpos : 0 < P.cellsOf e := by simpa [Nat.blt_eq] using hl.2
          refine ⟨_, _, h, (by have := frzP_len hfz; rw [ht] at this; simp at this ⊢; omega), fun hp => ?_, fun E μ ρ vparts w hpl hparts hs hf => ?_⟩
          · rw [rowQ, hu] at hp
            rw [frzP_plain hp hfz, ht]
            exact ⟨_, by rw [List.append_assoc]⟩
          · have hrq : rowQ P t = plainT P e := by rw [rowQ, hu]
            rw [hrq]
            have hln := frzP_len hfz
            obtain ⟨ρ1, g1, hzc, hs1⟩ := zeros_sound _ _ hzs hs hf (by simp; omega)
            have hparts' : ∀ (q i : Nat) (a : AV), parts[q]? = some (i, a) → ∃ v : Value, vparts.toList[q]? = some (i, v) ∧ VR μ ρ1 a v := fun q i a hq => let ⟨v, h1, h2⟩ := hparts q i a hq; ⟨v, h1, h2.mono (MuLe.refl μ) g1.rho⟩
            have hci : P.cellsOf e = i.size := by simp [Program.cellsOf, hi]
            have hzl : z0.cells.size = P.cellsOf e := by have := hzc.1; simp only [Array.length_toList] at this; rw [this, hlen]
            obtain ⟨vs', hfl, hc'⟩ := fill_sound (place' := fun j => some (j * i.size, i.size)) (fun j p hp => by
              cases hb : Nat.blt j n with
              | true => rw [hb] at hp; simp only [cond_true, Option.some.injEq] at hp; rw [← hp, hci]
              | false => rw [hb] at hp; cases hp) parts vparts.toList _ cs _ (by simpa using hpl) hparts' (hzc.flat n) hfill
            obtain ⟨μ2, hle2, hs2, hd2, hn2, hn3, hmq⟩ := frzP_sound hs1 hc' hfz
            have g2 : Grow (plainT P e) μ ρ1 σ1.length w μ2 ρ1 σ2.length w := by rw [hn2]; exact grow_mu hle2 hmq _
            have hfr : Fresh ρ1 σ2 := (hf.grow ((g1.any _).trans g2)).fresh (by simp)
            have hcl : cs'.length = n * P.cellsOf e := by rw [hn3, fillAV_len _ _ _ hfill]; simp [List.length_flatten, hlen]
            obtain ⟨ρ3, g3, hv3, hs3⟩ := newRow_sound (e := e) (cap := n) hs2 hfr (chunks_row hd2 hcl) (by simp [hd2.1, hcl]) (by rw [chunks_len]; exact Nat.le_refl _)
            rw [chunks_len] at hv3
            refine ⟨_, _, μ2, ρ3, ?_, ((g1.any _).trans g2).trans (g3.any _), hv3, hs3⟩
            have h24' : ¬ (n * i.size > 2 ^ 24) := by rw [← hci]; omega
            have hmade : (Array.range (n * i.size)).map (z0.cells[· % z0.cells.size]!) = (List.replicate n z0.cells.toList).flatten.toArray := by
              have := made_flat (z := z0.cells) (n := n) (by rw [hzl]; exact hpos)
              rw [hzl, hci] at this
              exact this
            simp only [Instr.buildSlice, Sem.run_bind, run_underlying hu, Result.andThen_ok, sizeOf, typeInfo, run_program, hi, Sem.run_pure, if_neg h24']
            by_cases hn0 : n * i.size = 0
            · have hnz : n = 0 := by
                rcases Nat.mul_eq_zero.1 hn0 with h | h
                · exact h
                · omega
              subst hnz
              simp only [List.replicate_zero, List.flatten_nil] at hfl
              have hr0 : ∀ f : Nat → Value, (Array.range 0).map f = ([] : List Value).toArray := fun f => by simp
              simp only [hn0, if_true, Sem.run_bind, Sem.run_pure, Result.andThen_ok, hr0]
              simp only [hfl, Sem.run_bind, newRow, run_newObj, Result.andThen_ok, Sem.run_pure]
              rfl
            · simp only [hn0, if_false, zeroValue, typeInfo, Sem.run_bind, run_program, Result.andThen_ok, hi, Sem.run_pure, hzz, hmade, hfl, newRow, run_newObj]
              rfl
  · cases h
end
end Go.Ev
