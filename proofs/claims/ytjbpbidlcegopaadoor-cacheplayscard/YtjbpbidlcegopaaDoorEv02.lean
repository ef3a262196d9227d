/- What reading, writing, freezing and forgetting a block do to the relation between the evaluator's store and the model's world. -/
import Derived.Maps.AppendAt
import Derived.Laws.CopyRow
import Derived.Test.YtjbpbidlcegopaaDoorEv01
set_option linter.all false
namespace Go.Ev
variable [Gl]
theorem get_set {α : Type} {σ : List α} {k kk : α} {l m : Nat} (h : (σ.set l k)[m]? = some kk) : (m = l ∧ kk = k) ∨ (m ≠ l ∧ σ[m]? = some kk) := by
  rw [List.getElem?_set] at h
  split at h
  · rename_i e
    split at h
    · exact .inl ⟨e.symm, by simpa using h.symm⟩
    · cases h
  · rename_i e
    exact .inr ⟨fun x => e x.symm, h⟩
theorem run_storeCells_fz (P : Program) (g o : Nat) (t : TypeId) (b : Bool) (fz : Nat × Nat) : ∀ (vs : List Value) (i : Nat) (cur : Array Value) (w : World), w.heap[g]? = some (.cells cur t fz) → OkFz b cur.size fz → o + i + vs.length ≤ cur.size → (∀ v ∈ vs, v.oneCell' = true) →
    (storeCells ⟨g, o, none⟩ vs i).run P w = .ok () (w.setRow g (cur.toList.take (o + i) ++ vs ++ cur.toList.drop (o + i + vs.length)).toArray)
  | [], i, cur, w, hg, _, _, _ => by
    simp only [storeCells, List.append_nil, List.length_nil, Nat.add_zero, List.take_append_drop, Array.toArray_toList]
    rw [setRow_self w g cur t fz hg]
    rfl
  | v :: rest, i, cur, w, hg, hfz, hl, h1 => by
    have hi : o + i < cur.size := by simp at hl; omega
    have hadd : (⟨g, o, none⟩ : Addr).add i = ⟨g, o + i, none⟩ := by unfold Addr.add; split <;> simp_all
    have hcell : w.cell? ⟨g, o + i, none⟩ = some cur[o + i] := by simp [World.cell?, hg, hi]
    have hfro : w.frozen? ⟨g, o + i, none⟩ = false := by
      rcases hfz with hfz | ⟨_, hfz⟩
      · subst hfz; simp [World.frozen?, hg]
      · obtain ⟨lo, hi'⟩ := fz
        simp only [World.frozen?, hg, Bool.and_eq_false_iff, decide_eq_false_iff_not]
        left
        simp only at hfz
        omega
    have hst : (store ((⟨g, o, none⟩ : Addr).add i) v).run P w = .ok () (w.setRow g (cur.setIfInBounds (o + i) v)) := by
      rw [hadd, run_store P w _ v _ (h1 v (by simp)), hcell]
      simp [hfro, setCell_eq_setRow w g (o + i) cur t fz v hg]
    have ih := run_storeCells_fz P g o t b fz rest (i + 1) (cur.setIfInBounds (o + i) v) (w.setRow g (cur.setIfInBounds (o + i) v)) (setRow_heap w g cur _ t _ hg) (by simpa using hfz) (by simp at hl ⊢; omega) (fun x hx => h1 x (by simp [hx]))
    simp only [storeCells, Sem.run_bind, hst, Result.andThen_ok, ih, setRow_setRow]
    congr 3
    have e := list_seg_step cur.toList (o + i) v rest (by simp at hl ⊢; omega)
    simpa [Array.toList_setIfInBounds, Nat.add_assoc] using e
section
variable {E : Env} {μ : Mu} {ρ : Rho} {σ : Store} {w : World}
theorem SR.kill (h : SR E μ ρ σ w) (l : Nat) (k' : Blk) (h0 : k'.mode = 0) : SR E μ ρ (σ.set l k') w := by
  refine ⟨fun m rb k hl hk hm => ?_, fun m m' rb rb' k k' hl hl' hk hk' hm1 hm2 hp hp' he => ?_, fun m rb k hl hk hm1 hp => ?_, h.imm, h.base⟩
  · rcases get_set hk with ⟨_, e⟩ | ⟨_, hk⟩
    · exact absurd (e ▸ h0) hm
    · exact h.blk m rb k hl hk hm
  · rcases get_set hk with ⟨_, e⟩ | ⟨_, hk⟩
    · subst e; omega
    rcases get_set hk' with ⟨_, e⟩ | ⟨_, hk'⟩
    · subst e; omega
    exact h.inj m m' rb rb' k k' hl hl' hk hk' hm1 hm2 hp hp' he
  · rcases get_set hk with ⟨_, e⟩ | ⟨_, hk⟩
    · subst e; omega
    · exact h.ownD m rb k hl hk hm1 hp
theorem SR.moved (h : SR E μ ρ σ w) {w' : World} (ho : w'.os = w.os) (ht : w'.tape = w.tape) (hu : w'.output = w.output) (hz : w.heap.size ≤ w'.heap.size)
    (hk : ∀ b, b < w.heap.size → w'.heap[b]? = w.heap[b]? ∨ ((E.D b ∨ E.w0.heap.size ≤ b) ∧ μ b = none ∧ ∀ l rb k, ρ l = some rb → σ[l]? = some k → k.mode = 1 → rb.ph = false → rb.b ≠ b)) : SR E μ ρ σ w' := by
  refine ⟨fun l rb k hl hk' hm => ?_, h.inj, h.ownD, fun b o hb => ?_, ⟨ho.trans h.base.os, ht.trans h.base.tape, hu.trans h.base.output, Nat.le_trans h.base.size hz, fun b hb hD => ?_, h.base.mu, h.base.muNew⟩⟩
  · have hb := h.blk l rb k hl hk' hm
    refine ⟨hb.sz, hb.n, hb.fit, hb.ph, hb.one, fun hp => ?_⟩
    obtain ⟨cur, hc⟩ := hb.live hp
    refine ⟨cur, hc.size, hc.rowD, hc.rowO, ?_⟩
    rcases hc.at_ with ⟨h1, h2, h3⟩ | h2
    · refine .inl ⟨h1, h2.imp fun fz h2 => ⟨?_, h2.2⟩, h3⟩
      rcases hk rb.b (h.own_lt hl hk' h1 hp) with h4 | ⟨_, _, h4⟩
      · rw [h4]; exact h2.1
      · exact absurd rfl (h4 l rb k hl hk' h1 hp)
    · exact .inr h2
  · have h1 := h.imm b o hb
    rcases hk b (Array.getElem?_eq_some_iff.1 h1).1 with h4 | ⟨_, h4, _⟩
    · rw [h4]; exact h1
    · rw [h4] at hb; cases hb
  · rcases hk b (Nat.lt_of_lt_of_le hb h.base.size) with h4 | ⟨h4, _⟩
    · rw [h4]; exact h.base.keep b hb hD
    · rcases h4 with h4 | h4
      · exact absurd h4 hD
      · omega
theorem SR.revive (h : SR E μ ρ σ w) (l : Nat) (k' : Blk) (rb : RB) (hl : ρ l = some rb) (hb : BlkR μ ρ w k' rb)
    (hn : k'.mode = 1 → rb.ph = false → (E.D rb.b ∨ E.w0.heap.size ≤ rb.b) ∧ ∀ m rb' k, m ≠ l → ρ m = some rb' → σ[m]? = some k → k.mode = 1 → rb'.ph = false → rb'.b ≠ rb.b) : SR E μ ρ (σ.set l k') w := by
  refine ⟨fun m r k hm hk hmm => ?_, fun m m' r r' k k'' hm hm' hk hk' hm1 hm2 hp hp' he => ?_, fun m r k hm hk hm1 hp => ?_, h.imm, h.base⟩
  · rcases get_set hk with ⟨e, e2⟩ | ⟨_, hk⟩
    · subst e; rw [hl] at hm; injection hm with hm; subst hm; subst e2; exact hb
    · exact h.blk m r k hm hk hmm
  · rcases get_set hk with ⟨e, e2⟩ | ⟨n1, hkk⟩ <;> rcases get_set hk' with ⟨e', e2'⟩ | ⟨n2, hkk'⟩
    · rw [e, e']
    · subst e; rw [hl] at hm; injection hm with hm; subst hm; subst e2
      exact absurd he.symm ((hn hm1 hp).2 m' r' k'' n2 hm' hkk' hm2 hp')
    · subst e'; rw [hl] at hm'; injection hm' with hm'; subst hm'; subst e2'
      exact absurd he ((hn hm2 hp').2 m r k n1 hm hkk hm1 hp)
    · exact h.inj m m' r r' k k'' hm hm' hkk hkk' hm1 hm2 hp hp' he
  · rcases get_set hk with ⟨e, e2⟩ | ⟨_, hk⟩
    · subst e; rw [hl] at hm; injection hm with hm; subst hm; subst e2; exact (hn hm1 hp).1
    · exact h.ownD m r k hm hk hm1 hp
theorem SR.write (h : SR E μ ρ σ w) {l : Nat} {rb : RB} {k : Blk} (hl : ρ l = some rb) (hk : σ[l]? = some k) (hm : k.mode = 1) (hp : rb.ph = false) (xs : List (List AV)) (cur cur' : Array Value)
    (hg : Has w rb.b cur k.ty (fxB k.obj k.sz)) (hs0 : cur.size = rb.csz) (hs : cur'.size = rb.csz) (hx : xs.length = k.xs.length)
    (hD : k.obj = false → RowD μ rb.sz xs cur') (hO : k.obj = true → RowO μ ρ rb.sz xs cur') : SR E μ ρ (σ.set l { k with xs := xs }) (w.setRow rb.b cur') := by
  have hb := h.blk l rb k hl hk (by omega)
  obtain ⟨c0, hc0⟩ := hb.live hp
  have hmu : μ rb.b = none := by
    rcases hc0.at_ with ⟨_, _, h3⟩ | ⟨h3, _⟩
    · exact h3
    · omega
  have h1 := (h.kill l { k with mode := 0 } rfl)
  have hset : ∀ (k1 k2 : Blk), (σ.set l k1).set l k2 = σ.set l k2 := fun k1 k2 => by simp
  have hother : ∀ m rb' k1, m ≠ l → ρ m = some rb' → (σ.set l { k with mode := 0 })[m]? = some k1 → k1.mode = 1 → rb'.ph = false → rb'.b ≠ rb.b := fun m rb' k1 hne hm' hk1 hm1 hp1 he => by
    rcases get_set hk1 with ⟨e, _⟩ | ⟨_, hk1⟩
    · exact hne e
    · exact hne (h.inj m l rb' rb k1 k hm' hl hk1 hk hm1 hm hp1 hp he)
  have h2 : SR E μ ρ (σ.set l { k with mode := 0 }) (w.setRow rb.b cur') := by
    refine h1.moved rfl rfl rfl (by simp) fun b hb => ?_
    by_cases e : b = rb.b
    · refine .inr ⟨e ▸ h.ownD l rb k hl hk hm hp, e ▸ hmu, fun m rb' k1 hm' hk1 hm1 hp1 he => ?_⟩
      rcases get_set hk1 with ⟨_, e2⟩ | ⟨hne, hk1'⟩
      · subst e2; cases hm1
      · exact hother m rb' k1 hne hm' hk1 hm1 hp1 (he.trans e)
    · exact .inl (setRow_other w rb.b b cur' e)
  have h3 := h2.revive l { k with xs := xs } rb hl ⟨hb.sz, hb.n.trans hx.symm, hb.fit, fun e => absurd e (by simp [hp]), fun ho => ⟨hx.trans (hb.one ho).1, (hb.one ho).2⟩, fun _ => ⟨cur', hs, hD, hO, .inl ⟨hm, hg.imp fun fz hg => ⟨setRow_heap w rb.b cur cur' k.ty fz hg.1, by rw [hs, ← hs0]; exact hg.2⟩, hmu⟩⟩⟩
    fun _ _ => ⟨h.ownD l rb k hl hk hm hp, hother⟩
  rwa [hset] at h3
theorem SR.freezeX (h : SR E μ ρ σ w) {l : Nat} {rb : RB} {k : Blk} (hl : ρ l = some rb) (hk : σ[l]? = some k) (hm : k.mode ≠ 0) :
    ∃ μ', MuLe μ μ' ∧ SR E μ' ρ (σ.set l { k with mode := 2 }) w ∧ ∀ b o, μ' b = some o → μ b = some o ∨ (k.mode = 1 ∧ rb.ph = false ∧ b = rb.b) := by
  have hb := h.blk l rb k hl hk hm
  by_cases hp : rb.ph = true
  · refine ⟨μ, MuLe.refl μ, h.revive l _ rb hl ⟨hb.sz, hb.n, hb.fit, hb.ph, hb.one, fun e => absurd e (by simp [hp])⟩ (fun e => by cases e), fun _ _ h => .inl h⟩
  · have hp : rb.ph = false := by simpa using hp
    obtain ⟨cur, hc⟩ := hb.live hp
    rcases hc.at_ with ⟨h1, h2, h3⟩ | ⟨h1, h2⟩
    · obtain ⟨fz0, h2, _⟩ := h2
      let μ' : Mu := fun b => if b = rb.b then w.heap[rb.b]? else μ b
      have hle : MuLe μ μ' := fun b o hb => by
        show (if b = rb.b then w.heap[rb.b]? else μ b) = some o
        split
        · rename_i e; rw [e, h3] at hb; cases hb
        · exact hb
      have h0 := h.kill l { k with mode := 0 } rfl
      have hother : ∀ m rb' k1, m ≠ l → ρ m = some rb' → σ[m]? = some k1 → k1.mode = 1 → rb'.ph = false → rb'.b ≠ rb.b := fun m rb' k1 hne hm' hk1 hm1 hp1 he =>
        hne (h.inj m l rb' rb k1 k hm' hl hk1 hk hm1 h1 hp1 hp he)
      refine ⟨μ', hle, ⟨fun m r k1 hm' hk1 hmm => ?_, fun m m' r r' k1 k2 hm1 hm2 hk1 hk2 ho1 ho2 hp1 hp2 he => ?_, fun m r k1 hm' hk1 hm1 hp1 => ?_, fun b o hb' => ?_, ⟨h.base.os, h.base.tape, h.base.output, h.base.size, h.base.keep, h.base.mu.trans hle, fun b o hb' => ?_⟩⟩, fun b o hb' => ?_⟩
      · rcases get_set hk1 with ⟨e, e2⟩ | ⟨hne, hk1⟩
        · subst e; rw [hl] at hm'; injection hm' with hm'; subst hm'; subst e2
          refine ⟨hb.sz, hb.n, hb.fit, hb.ph, hb.one, fun _ => ⟨cur, hc.size, fun e => (hc.rowD e).mono hle, fun e => (hc.rowO e).mono hle (RhoLe.refl ρ), .inr ⟨rfl, k.ty, fz0, ?_⟩⟩⟩
          show (if rb.b = rb.b then w.heap[rb.b]? else μ rb.b) = _
          rw [if_pos rfl]; exact h2
        · have hb1 := h.blk m r k1 hm' hk1 hmm
          refine ⟨hb1.sz, hb1.n, hb1.fit, hb1.ph, hb1.one, fun hp1 => ?_⟩
          obtain ⟨c1, hc1⟩ := hb1.live hp1
          refine ⟨c1, hc1.size, fun e => (hc1.rowD e).mono hle, fun e => (hc1.rowO e).mono hle (RhoLe.refl ρ), ?_⟩
          rcases hc1.at_ with ⟨a1, a2, a3⟩ | ⟨a1, ty, fz, a2⟩
          · refine .inl ⟨a1, a2, ?_⟩
            show (if r.b = rb.b then w.heap[rb.b]? else μ r.b) = none
            rw [if_neg (hother m r k1 hne hm' hk1 a1 hp1)]; exact a3
          · exact .inr ⟨a1, ty, fz, hle _ _ a2⟩
      · rcases get_set hk1 with ⟨_, e2⟩ | ⟨_, hk1⟩
        · subst e2; cases ho1
        rcases get_set hk2 with ⟨_, e2⟩ | ⟨_, hk2⟩
        · subst e2; cases ho2
        exact h.inj m m' r r' k1 k2 hm1 hm2 hk1 hk2 ho1 ho2 hp1 hp2 he
      · rcases get_set hk1 with ⟨_, e2⟩ | ⟨_, hk1⟩
        · subst e2; cases hm1
        · exact h.ownD m r k1 hm' hk1 hm1 hp1
      · change (if b = rb.b then w.heap[rb.b]? else μ b) = some o at hb'
        split at hb'
        · rename_i e; rw [e]; exact hb'
        · exact h.imm b o hb'
      · change (if b = rb.b then w.heap[rb.b]? else μ b) = some o at hb'
        split at hb'
        · rename_i e; exact .inr (e ▸ h.ownD l rb k hl hk h1 hp)
        · exact h.base.muNew b o hb'
      · change (if b = rb.b then w.heap[rb.b]? else μ b) = some o at hb'
        split at hb'
        · rename_i e; exact .inr ⟨h1, hp, e⟩
        · exact .inl hb'
    · have : σ.set l { k with mode := 2 } = σ := by
        have e : ({ k with mode := 2 } : Blk) = k := by cases k; simp at h1; subst h1; rfl
        rw [e]
        apply List.ext_getElem?
        intro m
        rw [List.getElem?_set]
        split
        · rename_i e; subst e
          rw [hk]
          split
          · rfl
          · rename_i e2; rw [List.getElem?_eq_none (by omega)] at hk; cases hk
        · rfl
      exact ⟨μ, MuLe.refl μ, by rw [this]; exact h, fun _ _ h => .inl h⟩
theorem SR.freeze (h : SR E μ ρ σ w) {l : Nat} {rb : RB} {k : Blk} (hl : ρ l = some rb) (hk : σ[l]? = some k) (hm : k.mode ≠ 0) :
    ∃ μ', MuLe μ μ' ∧ SR E μ' ρ (σ.set l { k with mode := 2 }) w :=
  let ⟨μ', h1, h2, _⟩ := h.freezeX hl hk hm
  ⟨μ', h1, h2⟩
end
end Go.Ev
namespace Go.Ev
variable [Gl]
theorem addr_add (b o j : Nat) : (⟨b, o, none⟩ : Addr).add j = ⟨b, o + j, none⟩ := by
  unfold Addr.add; split <;> simp_all
theorem muCell_at {μ : Mu} {b : Nat} {cur : Array Value} {ty : TypeId} {fz : Nat × Nat} (h : μ b = some (.cells cur ty fz)) (j : Nat) : muCell μ ⟨b, j, none⟩ = cur[j]? := by
  simp [muCell, h]
theorem muCell_cell {μ : Mu} {w : World} (h : ∀ b o, μ b = some o → w.heap[b]? = some o) {a : Addr} {v : Value} (hc : muCell μ a = some v) : w.cell? a = some v := by
  unfold muCell at hc
  split at hc
  · rename_i c t f hm
    unfold World.cell?
    rw [h _ _ hm]
    exact hc
  · cases hc
theorem div_lt {j n sz : Nat} (h : j < n * sz) : j / sz < n ∧ j % sz < sz ∧ j / sz * sz + j % sz = j := by
  have hs : 0 < sz := Nat.pos_of_ne_zero fun e => by rw [e, Nat.mul_zero] at h; exact Nat.not_lt_zero _ h
  refine ⟨Nat.div_lt_of_lt_mul (by rw [Nat.mul_comm]; exact h), Nat.mod_lt _ hs, ?_⟩
  have := Nat.div_add_mod j sz
  rw [Nat.mul_comm] at this
  exact this
theorem RowD.at_ {μ : Mu} {sz : Nat} {xs : List (List AV)} {cur : Array Value} (h : RowD μ sz xs cur) {j : Nat} (hj : j < xs.length * sz) : ∃ u, cur[j]? = some u ∧ u.oneCell' = true := by
  obtain ⟨h1, h2, h3⟩ := div_lt hj
  have he : xs[j / sz]? = some xs[j / sz] := List.getElem?_eq_getElem h1
  have hl := h.1 _ (List.getElem_mem h1)
  have hc : (xs[j / sz])[j % sz]? = some (xs[j / sz])[j % sz] := List.getElem?_eq_getElem (by rw [hl]; exact h2)
  obtain ⟨u, hu, hd⟩ := h.2 _ _ _ _ he hc
  rw [h3] at hu
  exact ⟨u, hu, hd.one⟩
structure SV (μ : Mu) (w : World) (nil : Bool) (sz : Nat) (xs : List (List AV)) (A : Option Addr) (c : Nat) (news : List Value) : Prop where
  hnil : nil = A.isNone
  hA : A = none → xs = [] ∧ c = 0
  cap : xs.length ≤ c
  len : news.length = xs.length * sz
  row : RowD μ sz xs news.toArray
  one : ∀ u ∈ news, u.oneCell' = true
  cell : ∀ a, A = some a → ∀ j u, news[j]? = some u → w.cell? (a.add j) = some u
theorem RowD.list {μ : Mu} {sz : Nat} {xs : List (List AV)} {news : List Value} (h : RowD μ sz xs news.toArray) (hl : news.length = xs.length * sz) : ∀ u ∈ news, u.oneCell' = true := by
  intro u hu
  obtain ⟨j, hj, e⟩ := List.getElem_of_mem hu
  obtain ⟨u', h1, h2⟩ := h.at_ (j := j) (by omega)
  have : news[j]? = some u' := by simpa using h1
  rw [List.getElem?_eq_getElem hj, e] at this
  injection this with this
  exact this ▸ h2
theorem DR.view {μ : Mu} {w : World} {nil : Bool} {sz : Nat} {xs : List (List AV)} {v : Value} (h : DR μ (.lst nil sz xs) v) (himm : ∀ b o, μ b = some o → w.heap[b]? = some o) :
    ∃ A c news, v = .slice A xs.length c ∧ SV μ w nil sz xs A c news := by
  cases h with
  | @lst _ _ _ A c vals hnil hA hc hsz hcell hv =>
    have hrow : RowD μ sz xs ((List.range (xs.length * sz)).map fun j => vals (j / sz) (j % sz)).toArray := by
      refine ⟨hsz, fun i e j c he hc => ⟨vals i j, ?_, hv i e j c he hc⟩⟩
      have hi : i < xs.length := (List.getElem?_eq_some_iff.1 he).1
      have hj : j < sz := by have := (List.getElem?_eq_some_iff.1 hc).1; rw [hsz e (List.mem_of_getElem? he)] at this; exact this
      have hs : 0 < sz := by omega
      have hlt : i * sz + j < xs.length * sz := by
        calc i * sz + j < i * sz + sz := by omega
          _ = (i + 1) * sz := by rw [Nat.add_mul, Nat.one_mul]
          _ ≤ xs.length * sz := Nat.mul_le_mul_right _ hi
      have h1 : (i * sz + j) / sz = i := by rw [Nat.mul_comm, Nat.mul_add_div hs, Nat.div_eq_of_lt hj, Nat.add_zero]
      have h2 : (i * sz + j) % sz = j := by rw [Nat.mul_comm, Nat.mul_add_mod, Nat.mod_eq_of_lt hj]
      simp [List.getElem?_range hlt, h1, h2]
    have hlen : ((List.range (xs.length * sz)).map fun j => vals (j / sz) (j % sz)).length = xs.length * sz := by simp
    refine ⟨A, c, _, rfl, ⟨hnil, hA, hc, hlen, hrow, hrow.list hlen, fun a ha j u hu => ?_⟩⟩
    have hj : j < xs.length * sz := by rw [← hlen]; exact (List.getElem?_eq_some_iff.1 hu).1
    simp only [List.getElem?_map, List.getElem?_range hj, Option.map_some] at hu
    obtain ⟨h1, h2, h3⟩ := div_lt hj
    have := muCell_cell himm (hcell a ha (j / sz) (j % sz) h1 h2)
    rw [h3] at this
    rw [this, ← hu]
theorem cutL_len {α : Type} {xs : List α} {off n : Nat} {cut : Option Nat} (hn : n = cutN xs.length off cut) (h : off + n ≤ xs.length) : (cutL xs off cut).length = n := by
  cases cut with
  | none => simp [cutL, hn, cutN]
  | some m => simp [cutL, hn, cutN] at *; omega
theorem cutL_get {α : Type} {xs : List α} {off : Nat} {cut : Option Nat} {i : Nat} {e : α} (h : (cutL xs off cut)[i]? = some e) : xs[off + i]? = some e := by
  cases cut with
  | none => simpa [cutL] using h
  | some m =>
    simp only [cutL, List.getElem?_take] at h
    split at h
    · simpa using h
    · cases h
theorem cutL_mem {α : Type} {xs : List α} {off : Nat} {cut : Option Nat} {e : α} (h : e ∈ cutL xs off cut) : e ∈ xs := by
  cases cut with
  | none => exact List.mem_of_mem_drop h
  | some m => exact List.mem_of_mem_drop (List.mem_of_mem_take h)
theorem cutL_nil {α : Type} (off : Nat) (cut : Option Nat) : cutL ([] : List α) off cut = [] := by cases cut <;> simp [cutL]
section
variable {E : Env} {μ : Mu} {ρ : Rho} {σ : Store} {w : World}
theorem Live.heap {k : Blk} {rb : RB} {cur : Array Value} (h : Live μ ρ w k rb cur) (himm : ∀ b o, μ b = some o → w.heap[b]? = some o) : ∃ ty fz, w.heap[rb.b]? = some (.cells cur ty fz) := by
  rcases h.at_ with ⟨_, ⟨fz, h2, _⟩, _⟩ | ⟨_, ty, fz, h2⟩
  · exact ⟨_, _, h2⟩
  · exact ⟨ty, fz, himm _ _ h2⟩
theorem sub_row {sz off n i j : Nat} {xs : List (List AV)} {cut : Option Nat} {e : List AV} {c : AV} (hl : (cutL xs off cut).length = n) (he : (cutL xs off cut)[i]? = some e) (hc : e[j]? = some c) (hs : e.length = sz) : i * sz + j < n * sz ∧ off * sz + (i * sz + j) = (off + i) * sz + j := by
  have hi : i < n := by rw [← hl]; exact (List.getElem?_eq_some_iff.1 he).1
  have hj : j < sz := by rw [← hs]; exact (List.getElem?_eq_some_iff.1 hc).1
  refine ⟨?_, by rw [Nat.add_mul]; omega⟩
  calc i * sz + j < i * sz + sz := by omega
    _ = (i + 1) * sz := by rw [Nat.add_mul, Nat.one_mul]
    _ ≤ n * sz := Nat.mul_le_mul_right _ hi
theorem CR.slView {nil : Bool} {l off : Nat} {cut : Option Nat} {v : Value} {k : Blk} (h : CR μ ρ (.sl nil l off cut) v) (hs : SR E μ ρ σ w) (hk : σ[l]? = some k) (hm : k.mode ≠ 0) (ho : k.obj = false) :
    ∃ A c news, v = .slice A (cutL k.xs off cut).length c ∧ SV μ w nil k.sz (cutL k.xs off cut) A c news ∧ (k.mode = 2 → DR μ (.lst nil k.sz (cutL k.xs off cut)) v) := by
  cases h with
  | d hx => cases hx
  | @sl _ _ _ rb a len cap hl hp ha hlen hoff hcap hcsz =>
    have hb := hs.blk l rb k hl hk hm
    obtain ⟨cur, hc⟩ := hb.live hp
    obtain ⟨ty, fz, hheap⟩ := hc.heap hs.imm
    have hcl : (cutL k.xs off cut).length = len := cutL_len (by rw [hlen, hb.n]) (by rw [← hb.n]; exact hoff)
    have hrow := hc.rowD ho
    rw [hb.sz] at hrow
    have hfit := hb.fit
    rw [hb.sz] at hfit hcsz
    have hsz := hc.size
    have hsub : (off + len) * k.sz ≤ cur.size := by rw [hsz]; exact Nat.le_trans (Nat.mul_le_mul_right _ hoff) hfit
    rw [Nat.add_mul] at hsub
    let news := (cur.toList.drop (off * k.sz)).take (len * k.sz)
    have hnl : news.length = len * k.sz := by simp [news]; omega
    have hng : ∀ j, j < len * k.sz → news[j]? = cur[off * k.sz + j]? := fun j hj => by
      simp [news, List.getElem?_take, hj]
    have hR : RowD μ k.sz (cutL k.xs off cut) news.toArray := by
      refine ⟨fun e he => hrow.1 e (cutL_mem he), fun i e j c he hc' => ?_⟩
      obtain ⟨h1, h2⟩ := sub_row hcl he hc' (hrow.1 e (cutL_mem (List.mem_of_getElem? he)))
      obtain ⟨u, h3, h4⟩ := hrow.2 _ _ _ _ (cutL_get he) hc'
      refine ⟨u, ?_, h4⟩
      rw [List.getElem?_toArray, hng _ h1, h2]
      exact h3
    have hzero : cap = 0 → len = 0 := fun e => by omega
    refine ⟨some a, cap, news, by rw [hcl], ⟨rfl, fun e => (by cases e), by rw [hcl]; exact hcap, by rw [hnl, hcl], hR, hR.list (by rw [hnl, hcl]), fun a' ha' j u hu => ?_⟩, fun hm2 => ?_⟩
    · injection ha' with ha'
      subst ha'
      have hj : j < len * k.sz := by rw [← hnl]; exact (List.getElem?_eq_some_iff.1 hu).1
      rcases ha with ha | ⟨ha, _⟩
      · rw [ha, addr_add, hb.sz, cell_of_row w rb.b _ cur ty fz hheap, ← hng j hj]
        exact hu
      · rw [hzero ha, Nat.zero_mul] at hj; exact absurd hj (Nat.not_lt_zero _)
    · rcases hc.at_ with ⟨h1, _⟩ | ⟨_, ty', fz', h2⟩
      · omega
      have : (Value.slice (some a) len cap) = .slice (some a) (cutL k.xs off cut).length cap := by rw [hcl]
      rw [this]
      refine .lst (fun i j => (cur[(off + i) * k.sz + j]?).getD undef) rfl (fun e => (by cases e)) (by rw [hcl]; exact hcap) (fun e he => hrow.1 e (cutL_mem he)) (fun a' ha' i j hi hj => ?_) (fun i e j c he hc' => ?_)
      · injection ha' with ha'
        subst ha'
        rw [hcl] at hi
        rcases ha with ha | ⟨ha, _⟩
        · have hlt : (off + i) * k.sz + j < cur.size := by
            have : (off + i + 1) * k.sz ≤ (off + len) * k.sz := Nat.mul_le_mul_right _ (by omega)
            rw [Nat.add_mul (off + i), Nat.one_mul, Nat.add_mul off len] at this
            omega
          rw [ha, addr_add, hb.sz, muCell_at h2, show off * k.sz + (i * k.sz + j) = (off + i) * k.sz + j by rw [Nat.add_mul]; omega, Array.getElem?_eq_getElem hlt]
          rfl
        · rw [hzero ha] at hi; exact absurd hi (Nat.not_lt_zero _)
      · obtain ⟨u, h3, h4⟩ := hrow.2 _ _ _ _ (cutL_get he) hc'
        rw [h3]; exact h4
  | @sln _ _ _ rb hl hn hoff hcut =>
    have hb := hs.blk l rb k hl hk hm
    have hx : k.xs = [] := List.eq_nil_of_length_eq_zero (by rw [← hb.n]; exact hn)
    rw [hx, cutL_nil]
    refine ⟨none, 0, [], rfl, ⟨rfl, fun _ => ⟨rfl, rfl⟩, by simp, by simp, ⟨fun e he => (by cases he), fun i e j c he => (by simp at he)⟩, fun u hu => (by cases hu), fun a ha => (by cases ha)⟩, fun _ => ?_⟩
    exact .lst (fun _ _ => undef) rfl (fun _ => ⟨rfl, rfl⟩) (by simp) (fun e he => by cases he) (fun a ha => by cases ha) (fun i e j u he => by simp at he)
theorem frz_sound (hs : SR E μ ρ σ w) {c c' : AV} {σ' : Store} {v : Value} (hv : CR μ ρ c v) (h : frz σ c = some (c', σ')) :
    ∃ μ', MuLe μ μ' ∧ SR E μ' ρ σ' w ∧ DR μ' c' v ∧ σ'.length = σ.length := by
  unfold frz at h
  split at h
  · injection h with h; injection h with h1 h2; subst h1; subst h2
    cases hv with
    | d hx => exact ⟨μ, MuLe.refl μ, hs, hx, rfl⟩
  · injection h with h; injection h with h1 h2; subst h1; subst h2
    cases hv with
    | d hx => exact ⟨μ, MuLe.refl μ, hs, hx, rfl⟩
  · rename_i n l off cut
    split at h
    · cases h
    · rename_i b hb
      cases hc : (Nat.beq b.mode 0 || b.obj) with
      | true => rw [hc] at h; cases h
      | false =>
        rw [hc] at h
        simp only [cond] at h
        injection h with h; injection h with h1 h2; subst h1; subst h2
        simp only [Bool.or_eq_false_iff] at hc
        have hm : b.mode ≠ 0 := fun e => by rw [e] at hc; exact absurd hc.1 (by decide)
        have hrb : ∃ rb, ρ l = some rb := by
          cases hv with
          | d hx => cases hx
          | sl hl => exact ⟨_, hl⟩
          | sln hl => exact ⟨_, hl⟩
        obtain ⟨rb, hl⟩ := hrb
        obtain ⟨μ', hle, hs'⟩ := hs.freeze hl hb hm
        have hlt : l < σ.length := (List.getElem?_eq_some_iff.1 hb).1
        obtain ⟨_, _, _, _, _, hd⟩ := (hv.mono hle (RhoLe.refl ρ)).slView hs' (k := { b with mode := 2 }) (by rw [List.getElem?_set_self hlt]) (by simp) hc.2
        exact ⟨μ', hle, hs', hd rfl, by simp⟩
  · cases h
theorem frzL_sound : ∀ {cs : List AV} {vs : List Value} {cs' : List AV} {σ σ' : Store} {μ : Mu}, SR E μ ρ σ w → CRs μ ρ cs vs → frzL σ cs = some (cs', σ') →
    ∃ μ', MuLe μ μ' ∧ SR E μ' ρ σ' w ∧ DRs μ' cs' vs ∧ σ'.length = σ.length ∧ cs'.length = cs.length
  | [], vs, cs', σ, σ', μ, hs, hv, h => by
    simp only [frzL, Option.some.injEq, Prod.mk.injEq] at h
    obtain ⟨h1, h2⟩ := h; subst h1; subst h2
    exact ⟨μ, MuLe.refl μ, hs, ⟨hv.1, fun k u v hu => by simp at hu⟩, rfl, rfl⟩
  | c :: cs, vs, cs', σ, σ', μ, hs, hv, h => by
    cases vs with
    | nil => exact absurd hv.1 (by simp)
    | cons v vs =>
    simp only [frzL] at h
    split at h
    · cases h
    · rename_i c1 σ1 h1
      split at h
      · cases h
      · rename_i cs1 σ2 h2
        simp only [Option.some.injEq, Prod.mk.injEq] at h
        obtain ⟨e1, e2⟩ := h; subst e1; subst e2
        obtain ⟨μ1, hle1, hs1, hd1, hn1⟩ := frz_sound hs (hv.2 0 c v rfl rfl) h1
        obtain ⟨μ2, hle2, hs2, hd2, hn2, hn3⟩ := frzL_sound hs1 (cs := cs) (vs := vs) ⟨by have := hv.1; simpa using this, fun k u v' hu hv' => (hv.2 (k + 1) u v' (by simpa using hu) (by simpa using hv')).mono hle1 (RhoLe.refl ρ)⟩ h2
        refine ⟨μ2, hle1.trans hle2, hs2, ⟨by simp [hd2.1], fun k u v' hu hv' => ?_⟩, hn2.trans hn1, by simp [hn3]⟩
        cases k with
        | zero => simp at hu hv'; subst hu; subst hv'; exact hd1.mono hle2
        | succ k => exact hd2.2 k u v' (by simpa using hu) (by simpa using hv')
end
end Go.Ev
