/- What a slice's elements are in the model's world, and what a load gives. -/
import Derived.Test.YtokagdgcfmjlnaaEv05
set_option linter.all false
namespace Go.Ev

theorem addr_add (b o j : Nat) : (⟨b, o, none⟩ : Addr).add j = ⟨b, o + j, none⟩ := by
  unfold Addr.add; split <;> simp_all

theorem muCell_at {μ : Mu} {b : Nat} {cur : Array Value} {ty : TypeId} {fz : Nat × Nat} (h : μ b = some (.cells cur ty fz)) (j : Nat) : muCell μ ⟨b, j, none⟩ = cur[j]? := by
  simp [muCell, h]
theorem muCell_cell {μ : Mu} {w : World} (h : ∀ b o, μ b = some o → w.heap[b]? = some o) {a : Addr} {v : Value} (hc : muCell μ a = some v) : w.cell? a = some v := by
  unfold muCell at hc
  split at hc
  · rename_i c t f hm
    unfold World.cell?
    rw [h _ _ hm]
    exact hc
  · cases hc

theorem div_lt {j n sz : Nat} (h : j < n * sz) : j / sz < n ∧ j % sz < sz ∧ j / sz * sz + j % sz = j := by
  have hs : 0 < sz := Nat.pos_of_ne_zero fun e => by rw [e, Nat.mul_zero] at h; exact Nat.not_lt_zero _ h
  refine ⟨Nat.div_lt_of_lt_mul (by rw [Nat.mul_comm]; exact h), Nat.mod_lt _ hs, ?_⟩
  have := Nat.div_add_mod j sz
  rw [Nat.mul_comm] at this
  exact this

theorem RowD.at_ {μ : Mu} {sz : Nat} {xs : List (List AV)} {cur : Array Value} (h : RowD μ sz xs cur) {j : Nat} (hj : j < xs.length * sz) : ∃ u, cur[j]? = some u ∧ u.oneCell' = true := by
  obtain ⟨h1, h2, h3⟩ := div_lt hj
  have he : xs[j / sz]? = some xs[j / sz] := List.getElem?_eq_getElem h1
  have hl := h.1 _ (List.getElem_mem h1)
  have hc : (xs[j / sz])[j % sz]? = some (xs[j / sz])[j % sz] := List.getElem?_eq_getElem (by rw [hl]; exact h2)
  obtain ⟨u, hu, hd⟩ := h.2 _ _ _ _ he hc
  rw [h3] at hu
  exact ⟨u, hu, hd.one⟩

/-- A slice's elements, as the model reads them. -/
structure SV (μ : Mu) (w : World) (nil : Bool) (sz : Nat) (xs : List (List AV)) (A : Option Addr) (c : Nat) (news : List Value) : Prop where
  hnil : nil = A.isNone
  hA : A = none → xs = [] ∧ c = 0
  cap : xs.length ≤ c
  len : news.length = xs.length * sz
  row : RowD μ sz xs news.toArray
  one : ∀ u ∈ news, u.oneCell' = true
  cell : ∀ a, A = some a → ∀ j u, news[j]? = some u → w.cell? (a.add j) = some u

theorem RowD.list {μ : Mu} {sz : Nat} {xs : List (List AV)} {news : List Value} (h : RowD μ sz xs news.toArray) (hl : news.length = xs.length * sz) : ∀ u ∈ news, u.oneCell' = true := by
  intro u hu
  obtain ⟨j, hj, e⟩ := List.getElem_of_mem hu
  obtain ⟨u', h1, h2⟩ := h.at_ (j := j) (by omega)
  have : news[j]? = some u' := by simpa using h1
  rw [List.getElem?_eq_getElem hj, e] at this
  injection this with this
  exact this ▸ h2

theorem DR.view {μ : Mu} {w : World} {nil : Bool} {sz : Nat} {xs : List (List AV)} {v : Value} (h : DR μ (.lst nil sz xs) v) (himm : ∀ b o, μ b = some o → w.heap[b]? = some o) :
    ∃ A c news, v = .slice A xs.length c ∧ SV μ w nil sz xs A c news := by
  cases h with
  | @lst _ _ _ A c vals hnil hA hc hsz hcell hv =>
    have hrow : RowD μ sz xs ((List.range (xs.length * sz)).map fun j => vals (j / sz) (j % sz)).toArray := by
      refine ⟨hsz, fun i e j c he hc => ⟨vals i j, ?_, hv i e j c he hc⟩⟩
      have hi : i < xs.length := (List.getElem?_eq_some_iff.1 he).1
      have hj : j < sz := by have := (List.getElem?_eq_some_iff.1 hc).1; rw [hsz e (List.mem_of_getElem? he)] at this; exact this
      have hs : 0 < sz := by omega
      have hlt : i * sz + j < xs.length * sz := by
        calc i * sz + j < i * sz + sz := by omega
          _ = (i + 1) * sz := by rw [Nat.add_mul, Nat.one_mul]
          _ ≤ xs.length * sz := Nat.mul_le_mul_right _ hi
      have h1 : (i * sz + j) / sz = i := by rw [Nat.mul_comm, Nat.mul_add_div hs, Nat.div_eq_of_lt hj, Nat.add_zero]
      have h2 : (i * sz + j) % sz = j := by rw [Nat.mul_comm, Nat.mul_add_mod, Nat.mod_eq_of_lt hj]
      simp [List.getElem?_range hlt, h1, h2]
    have hlen : ((List.range (xs.length * sz)).map fun j => vals (j / sz) (j % sz)).length = xs.length * sz := by simp
    refine ⟨A, c, _, rfl, ⟨hnil, hA, hc, hlen, hrow, hrow.list hlen, fun a ha j u hu => ?_⟩⟩
    have hj : j < xs.length * sz := by rw [← hlen]; exact (List.getElem?_eq_some_iff.1 hu).1
    simp only [List.getElem?_map, List.getElem?_range hj, Option.map_some] at hu
    obtain ⟨h1, h2, h3⟩ := div_lt hj
    have := muCell_cell himm (hcell a ha (j / sz) (j % sz) h1 h2)
    rw [h3] at this
    rw [this, ← hu]

theorem cutL_len {α : Type} {xs : List α} {off n : Nat} {cut : Option Nat} (hn : n = cutN xs.length off cut) (h : off + n ≤ xs.length) : (cutL xs off cut).length = n := by
  cases cut with
  | none => simp [cutL, hn, cutN]
  | some m => simp [cutL, hn, cutN] at *; omega
theorem cutL_get {α : Type} {xs : List α} {off : Nat} {cut : Option Nat} {i : Nat} {e : α} (h : (cutL xs off cut)[i]? = some e) : xs[off + i]? = some e := by
  cases cut with
  | none => simpa [cutL] using h
  | some m =>
    simp only [cutL, List.getElem?_take] at h
    split at h
    · simpa using h
    · cases h
theorem cutL_mem {α : Type} {xs : List α} {off : Nat} {cut : Option Nat} {e : α} (h : e ∈ cutL xs off cut) : e ∈ xs := by
  cases cut with
  | none => exact List.mem_of_mem_drop h
  | some m => exact List.mem_of_mem_drop (List.mem_of_mem_take h)
theorem cutL_nil {α : Type} (off : Nat) (cut : Option Nat) : cutL ([] : List α) off cut = [] := by cases cut <;> simp [cutL]

section
variable {E : Env} {μ : Mu} {ρ : Rho} {σ : Store} {w : World}

theorem Live.heap {k : Blk} {rb : RB} {cur : Array Value} (h : Live μ ρ w k rb cur) (himm : ∀ b o, μ b = some o → w.heap[b]? = some o) : ∃ ty fz, w.heap[rb.b]? = some (.cells cur ty fz) := by
  rcases h.at_ with ⟨_, ⟨fz, h2, _⟩, _⟩ | ⟨_, ty, fz, h2⟩
  · exact ⟨_, _, h2⟩
  · exact ⟨ty, fz, himm _ _ h2⟩

theorem sub_row {sz off n i j : Nat} {xs : List (List AV)} {cut : Option Nat} {e : List AV} {c : AV} (hl : (cutL xs off cut).length = n) (he : (cutL xs off cut)[i]? = some e) (hc : e[j]? = some c) (hs : e.length = sz) : i * sz + j < n * sz ∧ off * sz + (i * sz + j) = (off + i) * sz + j := by
  have hi : i < n := by rw [← hl]; exact (List.getElem?_eq_some_iff.1 he).1
  have hj : j < sz := by rw [← hs]; exact (List.getElem?_eq_some_iff.1 hc).1
  refine ⟨?_, by rw [Nat.add_mul]; omega⟩
  calc i * sz + j < i * sz + sz := by omega
    _ = (i + 1) * sz := by rw [Nat.add_mul, Nat.one_mul]
    _ ≤ n * sz := Nat.mul_le_mul_right _ hi

theorem CR.slView {nil : Bool} {l off : Nat} {cut : Option Nat} {v : Value} {k : Blk} (h : CR μ ρ (.sl nil l off cut) v) (hs : SR E μ ρ σ w) (hk : σ[l]? = some k) (hm : k.mode ≠ 0) (ho : k.obj = false) :
    ∃ A c news, v = .slice A (cutL k.xs off cut).length c ∧ SV μ w nil k.sz (cutL k.xs off cut) A c news ∧ (k.mode = 2 → DR μ (.lst nil k.sz (cutL k.xs off cut)) v) := by
  cases h with
  | d hx => cases hx
  | @sl _ _ _ rb a len cap hl hp ha hlen hoff hcap hcsz =>
    have hb := hs.blk l rb k hl hk hm
    obtain ⟨cur, hc⟩ := hb.live hp
    obtain ⟨ty, fz, hheap⟩ := hc.heap hs.imm
    have hcl : (cutL k.xs off cut).length = len := cutL_len (by rw [hlen, hb.n]) (by rw [← hb.n]; exact hoff)
    have hrow := hc.rowD ho
    rw [hb.sz] at hrow
    have hfit := hb.fit
    rw [hb.sz] at hfit hcsz
    have hsz := hc.size
    have hsub : (off + len) * k.sz ≤ cur.size := by rw [hsz]; exact Nat.le_trans (Nat.mul_le_mul_right _ hoff) hfit
    rw [Nat.add_mul] at hsub
    let news := (cur.toList.drop (off * k.sz)).take (len * k.sz)
    have hnl : news.length = len * k.sz := by simp [news]; omega
    have hng : ∀ j, j < len * k.sz → news[j]? = cur[off * k.sz + j]? := fun j hj => by
      simp [news, List.getElem?_take, hj]
    have hR : RowD μ k.sz (cutL k.xs off cut) news.toArray := by
      refine ⟨fun e he => hrow.1 e (cutL_mem he), fun i e j c he hc' => ?_⟩
      obtain ⟨h1, h2⟩ := sub_row hcl he hc' (hrow.1 e (cutL_mem (List.mem_of_getElem? he)))
      obtain ⟨u, h3, h4⟩ := hrow.2 _ _ _ _ (cutL_get he) hc'
      refine ⟨u, ?_, h4⟩
      rw [List.getElem?_toArray, hng _ h1, h2]
      exact h3
    have hzero : cap = 0 → len = 0 := fun e => by omega
    refine ⟨some a, cap, news, by rw [hcl], ⟨rfl, fun e => (by cases e), by rw [hcl]; exact hcap, by rw [hnl, hcl], hR, hR.list (by rw [hnl, hcl]), fun a' ha' j u hu => ?_⟩, fun hm2 => ?_⟩
    · injection ha' with ha'
      subst ha'
      have hj : j < len * k.sz := by rw [← hnl]; exact (List.getElem?_eq_some_iff.1 hu).1
      rcases ha with ha | ⟨ha, _⟩
      · rw [ha, addr_add, hb.sz, cell_of_row w rb.b _ cur ty fz hheap, ← hng j hj]
        exact hu
      · rw [hzero ha, Nat.zero_mul] at hj; exact absurd hj (Nat.not_lt_zero _)
    · rcases hc.at_ with ⟨h1, _⟩ | ⟨_, ty', fz', h2⟩
      · omega
      have : (Value.slice (some a) len cap) = .slice (some a) (cutL k.xs off cut).length cap := by rw [hcl]
      rw [this]
      refine .lst (fun i j => (cur[(off + i) * k.sz + j]?).getD undef) rfl (fun e => (by cases e)) (by rw [hcl]; exact hcap) (fun e he => hrow.1 e (cutL_mem he)) (fun a' ha' i j hi hj => ?_) (fun i e j c he hc' => ?_)
      · injection ha' with ha'
        subst ha'
        rw [hcl] at hi
        rcases ha with ha | ⟨ha, _⟩
        · have hlt : (off + i) * k.sz + j < cur.size := by
            have : (off + i + 1) * k.sz ≤ (off + len) * k.sz := Nat.mul_le_mul_right _ (by omega)
            rw [Nat.add_mul (off + i), Nat.one_mul, Nat.add_mul off len] at this
            omega
          rw [ha, addr_add, hb.sz, muCell_at h2, show off * k.sz + (i * k.sz + j) = (off + i) * k.sz + j by rw [Nat.add_mul]; omega, Array.getElem?_eq_getElem hlt]
          rfl
        · rw [hzero ha] at hi; exact absurd hi (Nat.not_lt_zero _)
      · obtain ⟨u, h3, h4⟩ := hrow.2 _ _ _ _ (cutL_get he) hc'
        rw [h3]; exact h4
  | @sln _ _ _ rb hl hn hoff hcut =>
    have hb := hs.blk l rb k hl hk hm
    have hx : k.xs = [] := List.eq_nil_of_length_eq_zero (by rw [← hb.n]; exact hn)
    rw [hx, cutL_nil]
    refine ⟨none, 0, [], rfl, ⟨rfl, fun _ => ⟨rfl, rfl⟩, by simp, by simp, ⟨fun e he => (by cases he), fun i e j c he => (by simp at he)⟩, fun u hu => (by cases hu), fun a ha => (by cases ha)⟩, fun _ => ?_⟩
    exact .lst (fun _ _ => undef) rfl (fun _ => ⟨rfl, rfl⟩) (by simp) (fun e he => by cases he) (fun a ha => by cases ha) (fun i e j u he => by simp at he)

/-- A cell becomes data. -/
theorem frz_sound (hs : SR E μ ρ σ w) {c c' : AV} {σ' : Store} {v : Value} (hv : CR μ ρ c v) (h : frz σ c = some (c', σ')) :
    ∃ μ', MuLe μ μ' ∧ SR E μ' ρ σ' w ∧ DR μ' c' v ∧ σ'.length = σ.length := by
  unfold frz at h
  split at h
  · injection h with h; injection h with h1 h2; subst h1; subst h2
    cases hv with
    | d hx => exact ⟨μ, MuLe.refl μ, hs, hx, rfl⟩
  · injection h with h; injection h with h1 h2; subst h1; subst h2
    cases hv with
    | d hx => exact ⟨μ, MuLe.refl μ, hs, hx, rfl⟩
  · rename_i n l off cut
    split at h
    · cases h
    · rename_i b hb
      cases hc : (Nat.beq b.mode 0 || b.obj) with
      | true => rw [hc] at h; cases h
      | false =>
        rw [hc] at h
        simp only [cond] at h
        injection h with h; injection h with h1 h2; subst h1; subst h2
        simp only [Bool.or_eq_false_iff] at hc
        have hm : b.mode ≠ 0 := fun e => by rw [e] at hc; exact absurd hc.1 (by decide)
        have hrb : ∃ rb, ρ l = some rb := by
          cases hv with
          | d hx => cases hx
          | sl hl => exact ⟨_, hl⟩
          | sln hl => exact ⟨_, hl⟩
        obtain ⟨rb, hl⟩ := hrb
        obtain ⟨μ', hle, hs'⟩ := hs.freeze hl hb hm
        have hlt : l < σ.length := (List.getElem?_eq_some_iff.1 hb).1
        obtain ⟨_, _, _, _, _, hd⟩ := (hv.mono hle (RhoLe.refl ρ)).slView hs' (k := { b with mode := 2 }) (by rw [List.getElem?_set_self hlt]) (by simp) hc.2
        exact ⟨μ', hle, hs', hd rfl, by simp⟩
  · cases h

theorem frzL_sound : ∀ {cs : List AV} {vs : List Value} {cs' : List AV} {σ σ' : Store} {μ : Mu}, SR E μ ρ σ w → CRs μ ρ cs vs → frzL σ cs = some (cs', σ') →
    ∃ μ', MuLe μ μ' ∧ SR E μ' ρ σ' w ∧ DRs μ' cs' vs ∧ σ'.length = σ.length ∧ cs'.length = cs.length
  | [], vs, cs', σ, σ', μ, hs, hv, h => by
    simp only [frzL, Option.some.injEq, Prod.mk.injEq] at h
    obtain ⟨h1, h2⟩ := h; subst h1; subst h2
    exact ⟨μ, MuLe.refl μ, hs, ⟨hv.1, fun k u v hu => by simp at hu⟩, rfl, rfl⟩
  | c :: cs, vs, cs', σ, σ', μ, hs, hv, h => by
    cases vs with
    | nil => exact absurd hv.1 (by simp)
    | cons v vs =>
    simp only [frzL] at h
    split at h
    · cases h
    · rename_i c1 σ1 h1
      split at h
      · cases h
      · rename_i cs1 σ2 h2
        simp only [Option.some.injEq, Prod.mk.injEq] at h
        obtain ⟨e1, e2⟩ := h; subst e1; subst e2
        obtain ⟨μ1, hle1, hs1, hd1, hn1⟩ := frz_sound hs (hv.2 0 c v rfl rfl) h1
        obtain ⟨μ2, hle2, hs2, hd2, hn2, hn3⟩ := frzL_sound hs1 (cs := cs) (vs := vs) ⟨by have := hv.1; simpa using this, fun k u v' hu hv' => (hv.2 (k + 1) u v' (by simpa using hu) (by simpa using hv')).mono hle1 (RhoLe.refl ρ)⟩ h2
        refine ⟨μ2, hle1.trans hle2, hs2, ⟨by simp [hd2.1], fun k u v' hu hv' => ?_⟩, hn2.trans hn1, by simp [hn3]⟩
        cases k with
        | zero => simp at hu hv'; subst hu; subst hv'; exact hd1.mono hle2
        | succ k => exact hd2.2 k u v' (by simpa using hu) (by simpa using hv')
end
end Go.Ev
