/- What reading, writing, freezing and forgetting a block do to the relation between the evaluator's store and the model's world. -/
import Derived.Test.YtokagdgcfmjlnaaEv04
import Derived.Maps.AppendAt
import Derived.Laws.CopyRow
set_option linter.all false
namespace Go.Ev

theorem get_set {α : Type} {σ : List α} {k kk : α} {l m : Nat} (h : (σ.set l k)[m]? = some kk) : (m = l ∧ kk = k) ∨ (m ≠ l ∧ σ[m]? = some kk) := by
  rw [List.getElem?_set] at h
  split at h
  · rename_i e
    split at h
    · exact .inl ⟨e.symm, by simpa using h.symm⟩
    · cases h
  · rename_i e
    exact .inr ⟨fun x => e x.symm, h⟩

/-- Storing into cells ahead of which, and in which, nothing is frozen. -/
theorem run_storeCells_fz (P : Program) (g o : Nat) (t : TypeId) (b : Bool) (fz : Nat × Nat) : ∀ (vs : List Value) (i : Nat) (cur : Array Value) (w : World), w.heap[g]? = some (.cells cur t fz) → OkFz b cur.size fz → o + i + vs.length ≤ cur.size → (∀ v ∈ vs, v.oneCell' = true) →
    (storeCells ⟨g, o, none⟩ vs i).run P w = .ok () (w.setRow g (cur.toList.take (o + i) ++ vs ++ cur.toList.drop (o + i + vs.length)).toArray)
  | [], i, cur, w, hg, _, _, _ => by
    simp only [storeCells, List.append_nil, List.length_nil, Nat.add_zero, List.take_append_drop, Array.toArray_toList]
    rw [setRow_self w g cur t fz hg]
    rfl
  | v :: rest, i, cur, w, hg, hfz, hl, h1 => by
    have hi : o + i < cur.size := by simp at hl; omega
    have hadd : (⟨g, o, none⟩ : Addr).add i = ⟨g, o + i, none⟩ := by unfold Addr.add; split <;> simp_all
    have hcell : w.cell? ⟨g, o + i, none⟩ = some cur[o + i] := by simp [World.cell?, hg, hi]
    have hfro : w.frozen? ⟨g, o + i, none⟩ = false := by
      rcases hfz with hfz | ⟨_, hfz⟩
      · subst hfz; simp [World.frozen?, hg]
      · obtain ⟨lo, hi'⟩ := fz
        simp only [World.frozen?, hg, Bool.and_eq_false_iff, decide_eq_false_iff_not]
        left
        simp only at hfz
        omega
    have hst : (store ((⟨g, o, none⟩ : Addr).add i) v).run P w = .ok () (w.setRow g (cur.setIfInBounds (o + i) v)) := by
      rw [hadd, run_store P w _ v _ (h1 v (by simp)), hcell]
      simp [hfro, setCell_eq_setRow w g (o + i) cur t fz v hg]
    have ih := run_storeCells_fz P g o t b fz rest (i + 1) (cur.setIfInBounds (o + i) v) (w.setRow g (cur.setIfInBounds (o + i) v)) (setRow_heap w g cur _ t _ hg) (by simpa using hfz) (by simp at hl ⊢; omega) (fun x hx => h1 x (by simp [hx]))
    simp only [storeCells, Sem.run_bind, hst, Result.andThen_ok, ih, setRow_setRow]
    congr 3
    have e := list_seg_step cur.toList (o + i) v rest (by simp at hl ⊢; omega)
    simpa [Array.toList_setIfInBounds, Nat.add_assoc] using e

section
variable {E : Env} {μ : Mu} {ρ : Rho} {σ : Store} {w : World}

theorem SR.kill (h : SR E μ ρ σ w) (l : Nat) (k' : Blk) (h0 : k'.mode = 0) : SR E μ ρ (σ.set l k') w := by
  refine ⟨fun m rb k hl hk hm => ?_, fun m m' rb rb' k k' hl hl' hk hk' hm1 hm2 hp hp' he => ?_, fun m rb k hl hk hm1 hp => ?_, h.imm, h.base⟩
  · rcases get_set hk with ⟨_, e⟩ | ⟨_, hk⟩
    · exact absurd (e ▸ h0) hm
    · exact h.blk m rb k hl hk hm
  · rcases get_set hk with ⟨_, e⟩ | ⟨_, hk⟩
    · subst e; omega
    rcases get_set hk' with ⟨_, e⟩ | ⟨_, hk'⟩
    · subst e; omega
    exact h.inj m m' rb rb' k k' hl hl' hk hk' hm1 hm2 hp hp' he
  · rcases get_set hk with ⟨_, e⟩ | ⟨_, hk⟩
    · subst e; omega
    · exact h.ownD m rb k hl hk hm1 hp

/-- The world changes, but not where a live block lies. -/
theorem SR.moved (h : SR E μ ρ σ w) {w' : World} (ho : w'.os = w.os) (ht : w'.tape = w.tape) (hu : w'.output = w.output) (hz : w.heap.size ≤ w'.heap.size)
    (hk : ∀ b, b < w.heap.size → w'.heap[b]? = w.heap[b]? ∨ ((E.D b ∨ E.w0.heap.size ≤ b) ∧ μ b = none ∧ ∀ l rb k, ρ l = some rb → σ[l]? = some k → k.mode = 1 → rb.ph = false → rb.b ≠ b)) : SR E μ ρ σ w' := by
  refine ⟨fun l rb k hl hk' hm => ?_, h.inj, h.ownD, fun b o hb => ?_, ⟨ho.trans h.base.os, ht.trans h.base.tape, hu.trans h.base.output, Nat.le_trans h.base.size hz, fun b hb hD => ?_, h.base.mu, h.base.muNew⟩⟩
  · have hb := h.blk l rb k hl hk' hm
    refine ⟨hb.sz, hb.n, hb.fit, hb.ph, hb.one, fun hp => ?_⟩
    obtain ⟨cur, hc⟩ := hb.live hp
    refine ⟨cur, hc.size, hc.rowD, hc.rowO, ?_⟩
    rcases hc.at_ with ⟨h1, h2, h3⟩ | h2
    · refine .inl ⟨h1, h2.imp fun fz h2 => ⟨?_, h2.2⟩, h3⟩
      rcases hk rb.b (h.own_lt hl hk' h1 hp) with h4 | ⟨_, _, h4⟩
      · rw [h4]; exact h2.1
      · exact absurd rfl (h4 l rb k hl hk' h1 hp)
    · exact .inr h2
  · have h1 := h.imm b o hb
    rcases hk b (Array.getElem?_eq_some_iff.1 h1).1 with h4 | ⟨_, h4, _⟩
    · rw [h4]; exact h1
    · rw [h4] at hb; cases hb
  · rcases hk b (Nat.lt_of_lt_of_le hb h.base.size) with h4 | ⟨h4, _⟩
    · rw [h4]; exact h.base.keep b hb hD
    · rcases h4 with h4 | h4
      · exact absurd h4 hD
      · omega

/-- A block is set anew. -/
theorem SR.revive (h : SR E μ ρ σ w) (l : Nat) (k' : Blk) (rb : RB) (hl : ρ l = some rb) (hb : BlkR μ ρ w k' rb)
    (hn : k'.mode = 1 → rb.ph = false → (E.D rb.b ∨ E.w0.heap.size ≤ rb.b) ∧ ∀ m rb' k, m ≠ l → ρ m = some rb' → σ[m]? = some k → k.mode = 1 → rb'.ph = false → rb'.b ≠ rb.b) : SR E μ ρ (σ.set l k') w := by
  refine ⟨fun m r k hm hk hmm => ?_, fun m m' r r' k k'' hm hm' hk hk' hm1 hm2 hp hp' he => ?_, fun m r k hm hk hm1 hp => ?_, h.imm, h.base⟩
  · rcases get_set hk with ⟨e, e2⟩ | ⟨_, hk⟩
    · subst e; rw [hl] at hm; injection hm with hm; subst hm; subst e2; exact hb
    · exact h.blk m r k hm hk hmm
  · rcases get_set hk with ⟨e, e2⟩ | ⟨n1, hkk⟩ <;> rcases get_set hk' with ⟨e', e2'⟩ | ⟨n2, hkk'⟩
    · rw [e, e']
    · subst e; rw [hl] at hm; injection hm with hm; subst hm; subst e2
      exact absurd he.symm ((hn hm1 hp).2 m' r' k'' n2 hm' hkk' hm2 hp')
    · subst e'; rw [hl] at hm'; injection hm' with hm'; subst hm'; subst e2'
      exact absurd he ((hn hm2 hp').2 m r k n1 hm hkk hm1 hp)
    · exact h.inj m m' r r' k k'' hm hm' hkk hkk' hm1 hm2 hp hp' he
  · rcases get_set hk with ⟨e, e2⟩ | ⟨_, hk⟩
    · subst e; rw [hl] at hm; injection hm with hm; subst hm; subst e2; exact (hn hm1 hp).1
    · exact h.ownD m r k hm hk hm1 hp

/-- An own block's cells are written. -/
theorem SR.write (h : SR E μ ρ σ w) {l : Nat} {rb : RB} {k : Blk} (hl : ρ l = some rb) (hk : σ[l]? = some k) (hm : k.mode = 1) (hp : rb.ph = false) (xs : List (List AV)) (cur cur' : Array Value)
    (hg : Has w rb.b cur k.ty k.obj) (hs0 : cur.size = rb.csz) (hs : cur'.size = rb.csz) (hx : xs.length = k.xs.length)
    (hD : k.obj = false → RowD μ rb.sz xs cur') (hO : k.obj = true → RowO μ ρ rb.sz xs cur') : SR E μ ρ (σ.set l { k with xs := xs }) (w.setRow rb.b cur') := by
  have hb := h.blk l rb k hl hk (by omega)
  obtain ⟨c0, hc0⟩ := hb.live hp
  have hmu : μ rb.b = none := by
    rcases hc0.at_ with ⟨_, _, h3⟩ | ⟨h3, _⟩
    · exact h3
    · omega
  have h1 := (h.kill l { k with mode := 0 } rfl)
  have hset : ∀ (k1 k2 : Blk), (σ.set l k1).set l k2 = σ.set l k2 := fun k1 k2 => by simp
  have hother : ∀ m rb' k1, m ≠ l → ρ m = some rb' → (σ.set l { k with mode := 0 })[m]? = some k1 → k1.mode = 1 → rb'.ph = false → rb'.b ≠ rb.b := fun m rb' k1 hne hm' hk1 hm1 hp1 he => by
    rcases get_set hk1 with ⟨e, _⟩ | ⟨_, hk1⟩
    · exact hne e
    · exact hne (h.inj m l rb' rb k1 k hm' hl hk1 hk hm1 hm hp1 hp he)
  have h2 : SR E μ ρ (σ.set l { k with mode := 0 }) (w.setRow rb.b cur') := by
    refine h1.moved rfl rfl rfl (by simp) fun b hb => ?_
    by_cases e : b = rb.b
    · refine .inr ⟨e ▸ h.ownD l rb k hl hk hm hp, e ▸ hmu, fun m rb' k1 hm' hk1 hm1 hp1 he => ?_⟩
      rcases get_set hk1 with ⟨_, e2⟩ | ⟨hne, hk1'⟩
      · subst e2; cases hm1
      · exact hother m rb' k1 hne hm' hk1 hm1 hp1 (he.trans e)
    · exact .inl (setRow_other w rb.b b cur' e)
  have h3 := h2.revive l { k with xs := xs } rb hl ⟨hb.sz, hb.n.trans hx.symm, hb.fit, fun e => absurd e (by simp [hp]), fun ho => ⟨hx.trans (hb.one ho).1, (hb.one ho).2⟩, fun _ => ⟨cur', hs, hD, hO, .inl ⟨hm, hg.imp fun fz hg => ⟨setRow_heap w rb.b cur cur' k.ty fz hg.1, by rw [hs, ← hs0]; exact hg.2⟩, hmu⟩⟩⟩
    fun _ _ => ⟨h.ownD l rb k hl hk hm hp, hother⟩
  rwa [hset] at h3

/-- A block becomes data. -/
theorem SR.freezeX (h : SR E μ ρ σ w) {l : Nat} {rb : RB} {k : Blk} (hl : ρ l = some rb) (hk : σ[l]? = some k) (hm : k.mode ≠ 0) :
    ∃ μ', MuLe μ μ' ∧ SR E μ' ρ (σ.set l { k with mode := 2 }) w ∧ ∀ b o, μ' b = some o → μ b = some o ∨ (k.mode = 1 ∧ rb.ph = false ∧ b = rb.b) := by
  have hb := h.blk l rb k hl hk hm
  by_cases hp : rb.ph = true
  · refine ⟨μ, MuLe.refl μ, h.revive l _ rb hl ⟨hb.sz, hb.n, hb.fit, hb.ph, hb.one, fun e => absurd e (by simp [hp])⟩ (fun e => by cases e), fun _ _ h => .inl h⟩
  · have hp : rb.ph = false := by simpa using hp
    obtain ⟨cur, hc⟩ := hb.live hp
    rcases hc.at_ with ⟨h1, h2, h3⟩ | ⟨h1, h2⟩
    · obtain ⟨fz0, h2, _⟩ := h2
      let μ' : Mu := fun b => if b = rb.b then w.heap[rb.b]? else μ b
      have hle : MuLe μ μ' := fun b o hb => by
        show (if b = rb.b then w.heap[rb.b]? else μ b) = some o
        split
        · rename_i e; rw [e, h3] at hb; cases hb
        · exact hb
      have h0 := h.kill l { k with mode := 0 } rfl
      have hother : ∀ m rb' k1, m ≠ l → ρ m = some rb' → σ[m]? = some k1 → k1.mode = 1 → rb'.ph = false → rb'.b ≠ rb.b := fun m rb' k1 hne hm' hk1 hm1 hp1 he =>
        hne (h.inj m l rb' rb k1 k hm' hl hk1 hk hm1 h1 hp1 hp he)
      refine ⟨μ', hle, ⟨fun m r k1 hm' hk1 hmm => ?_, fun m m' r r' k1 k2 hm1 hm2 hk1 hk2 ho1 ho2 hp1 hp2 he => ?_, fun m r k1 hm' hk1 hm1 hp1 => ?_, fun b o hb' => ?_, ⟨h.base.os, h.base.tape, h.base.output, h.base.size, h.base.keep, h.base.mu.trans hle, fun b o hb' => ?_⟩⟩, fun b o hb' => ?_⟩
      · rcases get_set hk1 with ⟨e, e2⟩ | ⟨hne, hk1⟩
        · subst e; rw [hl] at hm'; injection hm' with hm'; subst hm'; subst e2
          refine ⟨hb.sz, hb.n, hb.fit, hb.ph, hb.one, fun _ => ⟨cur, hc.size, fun e => (hc.rowD e).mono hle, fun e => (hc.rowO e).mono hle (RhoLe.refl ρ), .inr ⟨rfl, k.ty, fz0, ?_⟩⟩⟩
          show (if rb.b = rb.b then w.heap[rb.b]? else μ rb.b) = _
          rw [if_pos rfl]; exact h2
        · have hb1 := h.blk m r k1 hm' hk1 hmm
          refine ⟨hb1.sz, hb1.n, hb1.fit, hb1.ph, hb1.one, fun hp1 => ?_⟩
          obtain ⟨c1, hc1⟩ := hb1.live hp1
          refine ⟨c1, hc1.size, fun e => (hc1.rowD e).mono hle, fun e => (hc1.rowO e).mono hle (RhoLe.refl ρ), ?_⟩
          rcases hc1.at_ with ⟨a1, a2, a3⟩ | ⟨a1, ty, fz, a2⟩
          · refine .inl ⟨a1, a2, ?_⟩
            show (if r.b = rb.b then w.heap[rb.b]? else μ r.b) = none
            rw [if_neg (hother m r k1 hne hm' hk1 a1 hp1)]; exact a3
          · exact .inr ⟨a1, ty, fz, hle _ _ a2⟩
      · rcases get_set hk1 with ⟨_, e2⟩ | ⟨_, hk1⟩
        · subst e2; cases ho1
        rcases get_set hk2 with ⟨_, e2⟩ | ⟨_, hk2⟩
        · subst e2; cases ho2
        exact h.inj m m' r r' k1 k2 hm1 hm2 hk1 hk2 ho1 ho2 hp1 hp2 he
      · rcases get_set hk1 with ⟨_, e2⟩ | ⟨_, hk1⟩
        · subst e2; cases hm1
        · exact h.ownD m r k1 hm' hk1 hm1 hp1
      · change (if b = rb.b then w.heap[rb.b]? else μ b) = some o at hb'
        split at hb'
        · rename_i e; rw [e]; exact hb'
        · exact h.imm b o hb'
      · change (if b = rb.b then w.heap[rb.b]? else μ b) = some o at hb'
        split at hb'
        · rename_i e; exact .inr (e ▸ h.ownD l rb k hl hk h1 hp)
        · exact h.base.muNew b o hb'
      · change (if b = rb.b then w.heap[rb.b]? else μ b) = some o at hb'
        split at hb'
        · rename_i e; exact .inr ⟨h1, hp, e⟩
        · exact .inl hb'
    · have : σ.set l { k with mode := 2 } = σ := by
        have e : ({ k with mode := 2 } : Blk) = k := by cases k; simp at h1; subst h1; rfl
        rw [e]
        apply List.ext_getElem?
        intro m
        rw [List.getElem?_set]
        split
        · rename_i e; subst e
          rw [hk]
          split
          · rfl
          · rename_i e2; rw [List.getElem?_eq_none (by omega)] at hk; cases hk
        · rfl
      exact ⟨μ, MuLe.refl μ, by rw [this]; exact h, fun _ _ h => .inl h⟩
theorem SR.freeze (h : SR E μ ρ σ w) {l : Nat} {rb : RB} {k : Blk} (hl : ρ l = some rb) (hk : σ[l]? = some k) (hm : k.mode ≠ 0) :
    ∃ μ', MuLe μ μ' ∧ SR E μ' ρ (σ.set l { k with mode := 2 }) w :=
  let ⟨μ', h1, h2, _⟩ := h.freezeX hl hk hm
  ⟨μ', h1, h2⟩
end
end Go.Ev
