/- Conversions; new blocks. -/
import Derived.Test.YtokagdgcfmjlnaaEv10
set_option linter.all false
namespace Go.Ev

section
variable {P : Program} {E : Env} {μ : Mu} {ρ : Rho} {σ : Store} {w : World}

/-- A new immutable object. -/
theorem SR.learn (h : SR E μ ρ σ w) {w' : World} {b : Nat} {o : Obj} (hk : ∀ x, x < w.heap.size → w'.heap[x]? = w.heap[x]?) (hz : w.heap.size ≤ w'.heap.size) (ho : w'.os = w.os) (ht : w'.tape = w.tape) (hu : w'.output = w.output)
    (hb : w.heap.size ≤ b) (hob : w'.heap[b]? = some o) : MuLe μ (fun x => if x = b then some o else μ x) ∧ SR E (fun x => if x = b then some o else μ x) ρ σ w' := by
  have hnone : μ b = none := by
    cases e : μ b with
    | none => rfl
    | some o' => have := (Array.getElem?_eq_some_iff.1 (h.imm b o' e)).1; omega
  have hle : MuLe μ (fun x => if x = b then some o else μ x) := fun x o' hx => by
    show (if x = b then some o else μ x) = some o'
    split
    · rename_i e; subst e; rw [hnone] at hx; cases hx
    · exact hx
  have h' := h.world hk hz ho ht hu
  refine ⟨hle, fun l rb k hl hk' hm => ?_, h'.inj, h'.ownD, fun x o' hx => ?_, ⟨h'.base.os, h'.base.tape, h'.base.output, h'.base.size, h'.base.keep, h'.base.mu.trans hle, fun x o' hx => ?_⟩⟩
  · have hb' := h'.blk l rb k hl hk' hm
    refine ⟨hb'.sz, hb'.n, hb'.fit, hb'.ph, hb'.one, fun hp => ?_⟩
    obtain ⟨cur, hc⟩ := hb'.live hp
    refine ⟨cur, hc.size, fun e => (hc.rowD e).mono hle, fun e => (hc.rowO e).mono hle (RhoLe.refl ρ), ?_⟩
    rcases hc.at_ with ⟨h1, h2, h3⟩ | ⟨h1, ty, fz, h2⟩
    · refine .inl ⟨h1, h2, ?_⟩
      have := h.own_lt hl hk' h1 hp
      show (if rb.b = b then some o else μ rb.b) = none
      rw [if_neg (by omega)]; exact h3
    · exact .inr ⟨h1, ty, fz, hle _ _ h2⟩
  · change (if x = b then some o else μ x) = some o' at hx
    split at hx
    · rename_i e; subst e; rw [hob]; exact hx
    · exact h'.imm x o' hx
  · change (if x = b then some o else μ x) = some o' at hx
    split at hx
    · rename_i e; subst e; exact .inr (.inr (Nat.le_trans h.base.size hb))
    · exact h'.base.muNew x o' hx

theorem bytes_of {sz : Nat} {xs : List (List AV)} {news : List Value} (hr : RowD μ sz xs news.toArray) (hl : news.length = xs.length * sz) (hb : xs.all isByte = true) :
    news = (xs.map fun c => avInt (cellAt c 0)).map (Value.int .u8) ∧ (xs ≠ [] → sz = 1) := by
  have hone : ∀ e ∈ xs, ∃ n, e = [.v (.int .u8 n)] := fun e he => by
    have := List.all_eq_true.1 hb e he
    unfold isByte at this
    split at this
    · exact ⟨_, rfl⟩
    · cases this
  have hsz : xs ≠ [] → sz = 1 := fun hne => by
    obtain ⟨e, xs', hx⟩ := List.exists_cons_of_ne_nil hne
    obtain ⟨n, he⟩ := hone e (by rw [hx]; simp)
    rw [← hr.1 e (by rw [hx]; simp), he]; rfl
  refine ⟨?_, hsz⟩
  by_cases hne : xs = []
  · subst hne; simp at hl; subst hl; rfl
  · have h1 := hsz hne
    subst h1
    apply List.ext_getElem?
    intro i
    by_cases hi : i < xs.length
    · have he : xs[i]? = some xs[i] := List.getElem?_eq_getElem hi
      obtain ⟨n, hn⟩ := hone xs[i] (List.getElem_mem hi)
      obtain ⟨u, h2, h3⟩ := hr.2 i xs[i] 0 (.v (.int .u8 n)) he (by rw [hn]; rfl)
      have hu : u = .int .u8 n := by cases h3; rfl
      simp only [Nat.mul_one, Nat.add_zero, List.getElem?_toArray] at h2
      rw [h2, hu]
      simp [he, hn, cellAt, avInt]
    · rw [List.getElem?_eq_none (by omega), List.getElem?_eq_none (by simp; omega)]

theorem foldl_push (ns : List Int) : ∀ (s : ByteArray), ns.foldl (fun r n => r.push (UInt8.ofNat n.toNat)) s = ⟨s.data ++ (ns.map fun n => UInt8.ofNat n.toNat).toArray⟩ := by
  induction ns with
  | nil => intro s; simp
  | cons n ns ih =>
    intro s
    simp only [List.foldl_cons, List.map_cons]
    rw [ih]
    show (⟨s.data.push _ ++ _⟩ : ByteArray) = _
    congr 1
    apply Array.ext'
    simp

theorem evConv_sound {R : Type} {K : AV → Store → Option R} {r : R} {src dst : TypeId} {a : AV} (h : evConv P σ K src dst a = some r) :
    ∃ av σ', K av σ' = some r ∧ σ.length ≤ σ'.length ∧ (∃ τ, σ' = σ ++ τ) ∧ ∀ (E : Env) (μ : Mu) (ρ : Rho) (va : Value) (w : World), VR μ ρ a va → SR E μ ρ σ w → FreshTo ρ σ.length σ'.length →
      ∃ v w' ρ', (convert src dst va).run P w = .ok v w' ∧ Grow true μ ρ σ.length w μ ρ' σ'.length w' ∧ VR μ ρ' av v ∧ SR E μ ρ' σ' w' := by
  unfold evConv at h
  split at h
  · rename_i k1 k k2 n hs hd
    refine ⟨_, σ, h, Nat.le_refl _, ⟨[], by simp⟩, fun E μ ρ va w ha hsr _ => ?_⟩
    have := ha.v_eq; subst this
    exact ⟨_, w, ρ, by simp only [convert, Sem.run_bind, run_underlying hs, run_underlying hd, Result.andThen_ok, Conv.intToInt, Sem.run_pure], .refl _ _ _ _ _, .int _ _, hsr⟩
  · rename_i s hs hd
    refine ⟨_, σ, h, Nat.le_refl _, ⟨[], by simp⟩, fun E μ ρ va w ha hsr _ => ?_⟩
    have := ha.v_eq; subst this
    exact ⟨_, w, ρ, by simp only [convert, Sem.run_bind, run_underlying hs, run_underlying hd, Result.andThen_ok, Sem.run_pure], .refl _ _ _ _ _, .str _, hsr⟩
  · rename_i e s hs hd
    split at h
    · rename_i he
      refine ⟨_, _, h, by simp, ⟨_, rfl⟩, fun E μ ρ va w ha hsr hft => ?_⟩
      have hfr : Fresh ρ σ := hft.fresh (by simp)
      have := ha.v_eq; subst this
      let C : Array Value := (s.data.map fun b => Value.int .u8 b.toNat) ++ Array.replicate (grownCap w s.size 0 e - s.size) (.int .u8 0)
      let w1 := w.drew.alloc (.cells C e)
      let w2 := w1.freeze { block := w.heap.size, off := C.size } 1
      have hw1 : w1.heap[w.heap.size]? = some (.cells C e (0, 0)) := alloc_new w.drew _
      have hw2 : w2.heap[w.heap.size]? = some (.cells C e (C.size, C.size + 1)) := by
        show ((if (1 : Nat) = 0 then w1 else _).heap)[w.heap.size]? = _
        rw [if_neg (by decide)]
        simp only [Array.getElem?_modify, hw1, if_true, Option.map_some, beq_self_eq_true]
      have hold : ∀ x, x < w.heap.size → w2.heap[x]? = w.heap[x]? := fun x hx => by
        show ((if (1 : Nat) = 0 then w1 else _).heap)[x]? = _
        rw [if_neg (by decide)]
        simp only [Array.getElem?_modify, if_neg (Nat.ne_of_gt hx)]
        exact alloc_old w.drew _ x hx
      have hsz2 : w.heap.size ≤ w2.heap.size := by
        show w.heap.size ≤ ((if (1 : Nat) = 0 then w1 else _).heap).size
        rw [if_neg (by decide)]
        simp only [Array.size_modify]
        show w.heap.size ≤ (w.drew.alloc _).heap.size
        simp
      have hrun : (convert src dst (.string s)).run P w = .ok (.slice (some ⟨w.heap.size, 0, none⟩) s.size (grownCap w s.size 0 e)) w2 := by
        simp only [convert, Sem.run_bind, run_underlying hs, run_underlying hd, run_underlying he, Result.andThen_ok, Conv.stringToBytes, run_choose, Question.forced, Bool.false_eq_true, if_false, newRow, run_newObj, Sem.run_pure, markStringish, run_shape]
        have hsh : w1.shape? w.heap.size = some (e, C.size) := by simp only [World.shape?, hw1]
        change ((match w1.shape? w.heap.size with | some (_, n) => freeze { block := w.heap.size, off := n } 1 | _ => pure () : Sem Unit).run P w1).andThen _ = _
        rw [hsh]
        rfl
      have hlen : (s.data.toList.map ofByte).length = s.size := by simp
      have hcap := grownCap_ge w s.size 0 e
      have hss : s.data.size = s.size := rfl
      have hCs : C.size = grownCap w s.size 0 e := by
        show (s.data.map _ ++ Array.replicate _ _ : Array Value).size = _
        simp only [Array.size_append, Array.size_map, Array.size_replicate]
        omega
      have hrow : RowD μ 1 (s.data.toList.map ofByte) C := by
        refine ⟨fun x hx => ?_, fun i x j c hx hc => ?_⟩
        · obtain ⟨b, _, hb⟩ := List.mem_map.1 hx
          rw [← hb]; rfl
        · simp only [List.getElem?_map, Option.map_eq_some_iff] at hx
          obtain ⟨b, hb, hx⟩ := hx
          subst hx
          have hj0 : j = 0 := by
            have := (List.getElem?_eq_some_iff.1 hc).1
            simp [ofByte] at this; exact this
          subst hj0
          simp only [ofByte, List.getElem?_cons_zero, Option.some.injEq] at hc
          subst hc
          rw [Array.getElem?_toList] at hb
          obtain ⟨h1, h2⟩ := Array.getElem?_eq_some_iff.1 hb
          refine ⟨.int .u8 (b.toNat : Int), ?_, .v rfl⟩
          rw [show i * 1 + 0 = i by omega]
          show ((s.data.map _ ++ _ : Array Value))[i]? = _
          rw [Array.getElem?_append_left (by simpa using h1)]
          simp only [Array.getElem?_map, Array.getElem?_eq_getElem h1, Option.map_some, h2]
      have hs' := hsr.newW (w' := w2) hfr ⟨1, e, 1, false, s.data.toList.map ofByte⟩ C rfl rfl (by rw [hlen, hCs, Nat.mul_one]; exact hcap) hrow hold hsz2 rfl rfl rfl ⟨_, hw2, .inr ⟨rfl, Nat.le_refl _⟩⟩
      refine ⟨_, w2, _, hrun, grow_add hfr _ _ _ (fun _ => .inr (Nat.le_refl _)) (fun _ => hold) hsz2, ?_, hs'⟩
      have : (Value.slice (some ⟨w.heap.size, 0, none⟩) s.size (grownCap w s.size 0 e)) = .slice (some ⟨w.heap.size, 0, none⟩) (s.data.toList.map ofByte).length (grownCap w s.size 0 e) := by rw [hlen]
      rw [this]
      exact .c (.sl (rhoAdd_same ρ σ.length ⟨w.heap.size, C.size, 1, (s.data.toList.map ofByte).length, false⟩) rfl (.inl (by simp)) (by simp [cutN]) (by simp) (by rw [hlen]; exact hcap) (by rw [hCs]; simp))
    · cases h
  · rename_i a0 e hs hd
    split at h
    · rename_i xs he hx
      replace h := cond_some h
      obtain ⟨hb, h⟩ := h
      refine ⟨_, σ, h, Nat.le_refl _, ⟨[], by simp⟩, fun E μ ρ va w ha hsr _ => ?_⟩
      obtain ⟨nil, sz, A, c, news, hva, hv⟩ := sl_view hx ha hsr
      subst hva
      obtain ⟨hnews, hone⟩ := bytes_of hv.row hv.len hb
      refine ⟨.string ⟨(xs.map byteOf).toArray⟩, w, ρ, ?_, .refl _ _ _ _ _, .str _, hsr⟩
      have hc : (convert src dst (.slice A xs.length c)).run P w = (Conv.bytesToString (.slice A xs.length c)).run P w := run_convert_bytes_string w src dst e A xs.length c hs he hd
      rw [hc]
      cases A with
      | none =>
        have := (hv.hA rfl).1
        subst this
        simp only [Conv.bytesToString, Sem.run_pure]
        rfl
      | some ad =>
        have hll : xs.length * sz = xs.length := by
          by_cases e : xs = []
          · subst e; simp
          · rw [hone e, Nat.mul_one]
        have hload : (loadCells ad xs.length).run P w = .ok ((xs.map fun c => avInt (cellAt c 0)).map (Value.int .u8)).toArray w := by
          have := run_loadCells_list (P := P) w ad news (hv.cell ad rfl)
          rw [hv.len, hll, hnews] at this
          exact this
        rw [run_bytesToString w ad xs.length c _ hload, foldl_push]
        congr 2
        simp only [List.map_map]
        congr 1
        apply Array.ext'
        simp only [Array.toList_append]
        rfl
    · cases h
  · cases h

theorem freeze_heap (w : World) (a : Addr) : ∃ G : Obj → Obj, w.freeze a 1 = { w with heap := w.heap.modify a.block G } ∧ ∀ c e lo hi, G (.cells c e (lo, hi)) = .cells c e (if lo == hi then (a.off, a.off + 1) else (min lo a.off, max hi (a.off + 1))) :=
  Exists.intro _ (And.intro (if_neg (by decide)) (fun _ _ _ _ => rfl))
/-- An own row's end is marked. -/
theorem SR.marked {E : Env} {μ : Mu} {ρ : Rho} {w : World} (h : SR E μ ρ σ w) {l : Nat} {rb : RB} {k : Blk} (hl : ρ l = some rb) (hk : σ[l]? = some k) (hm : k.mode = 1) (ho : k.obj = false) (hp : rb.ph = false) :
    ∃ w', (markStringish ⟨rb.b, 0, none⟩).run P w = .ok () w' ∧ SR E μ ρ σ w' ∧ w.heap.size ≤ w'.heap.size := by
  have hb := h.blk l rb k hl hk (by omega)
  obtain ⟨c0, hc0⟩ := hb.live hp
  obtain ⟨fz, hg, hfz, hmu⟩ : ∃ fz, w.heap[rb.b]? = some (.cells c0 k.ty fz) ∧ OkFz k.obj c0.size fz ∧ μ rb.b = none := by
    rcases hc0.at_ with ⟨_, ⟨fz, h1, h2⟩, h3⟩ | ⟨h3, _⟩
    · exact ⟨fz, h1, h2, h3⟩
    · omega
  let w' := w.freeze { block := rb.b, off := c0.size } 1
  have hrun : (markStringish ⟨rb.b, 0, none⟩).run P w = .ok () w' := by
    simp only [markStringish, Sem.run_bind, run_shape, Result.andThen_ok]
    have hsh : w.shape? rb.b = some (k.ty, c0.size) := by simp only [World.shape?, hg]
    rw [hsh]
    rfl
  obtain ⟨G, hw, hG⟩ := freeze_heap w { block := rb.b, off := c0.size }
  replace hw : w' = { w with heap := w.heap.modify rb.b G } := hw
  have hsz : w'.heap.size = w.heap.size := by rw [hw]; simp
  have hne : ∀ b, b ≠ rb.b → w'.heap[b]? = w.heap[b]? := fun b hb => by
    rw [hw]
    simp only [Array.getElem?_modify, if_neg (Ne.symm hb)]
  have hhas : Has w' rb.b c0 k.ty k.obj := by
    obtain ⟨lo, hi⟩ := fz
    refine ⟨if lo == hi then (c0.size, c0.size + 1) else (min lo c0.size, max hi (c0.size + 1)), ?_, .inr ⟨ho, ?_⟩⟩
    · rw [hw]
      simp only [Array.getElem?_modify, if_true, hg, Option.map_some, hG]
    · rcases hfz with h0 | ⟨_, h1⟩
      · simp only [Prod.mk.injEq] at h0
        obtain ⟨e1, e2⟩ := h0; subst e1; subst e2
        exact Nat.le_refl _
      · split
        · exact Nat.le_refl _
        · show c0.size ≤ min lo c0.size
          simp only at h1
          omega
  have h1 := h.kill l { k with mode := 0 } rfl
  have hother : ∀ m rb' k1, m ≠ l → ρ m = some rb' → (σ.set l { k with mode := 0 })[m]? = some k1 → k1.mode = 1 → rb'.ph = false → rb'.b ≠ rb.b := fun m rb' k1 hne hm' hk1 hm1 hp1 he => by
    rcases get_set hk1 with ⟨e, _⟩ | ⟨_, hk1⟩
    · exact hne e
    · exact hne (h.inj m l rb' rb k1 k hm' hl hk1 hk hm1 hm hp1 hp he)
  have h2 : SR E μ ρ (σ.set l { k with mode := 0 }) w' := by
    refine h1.moved (by rw [hw]) (by rw [hw]) (by rw [hw]) (by rw [hsz]; exact Nat.le_refl _) fun b hb => ?_
    by_cases e : b = rb.b
    · refine .inr ⟨e ▸ h.ownD l rb k hl hk hm hp, e ▸ hmu, fun m rb' k1 hm' hk1 hm1 hp1 he => ?_⟩
      rcases get_set hk1 with ⟨_, e2⟩ | ⟨hne, hk1'⟩
      · subst e2; cases hm1
      · exact hother m rb' k1 hne hm' hk1 hm1 hp1 (he.trans e)
    · exact .inl (hne b e)
  have h3 := h2.revive l k rb hl ⟨hb.sz, hb.n, hb.fit, hb.ph, hb.one, fun _ => ⟨c0, hc0.size, hc0.rowD, hc0.rowO, .inl ⟨hm, hhas, hmu⟩⟩⟩
    fun _ _ => ⟨h.ownD l rb k hl hk hm hp, hother⟩
  have hset : (σ.set l { k with mode := 0 }).set l k = σ := by
    rw [List.set_set]
    exact List.ext_getElem? fun i => by
      rw [List.getElem?_set]
      split
      · rename_i e; subst e
        split
        · exact hk.symm
        · rename_i hlt; exact absurd (List.getElem?_eq_some_iff.1 hk).1 hlt
      · rfl
  rw [hset] at h3
  exact ⟨w', hrun, h3, by rw [hsz]; exact Nat.le_refl _⟩
theorem evMark_sound {R : Type} {K : AV → Store → Option R} {r : R} {src dst : TypeId} {a : AV} (h : evMark P σ K src dst a = some r) (hsl : slsl P src dst = true) :
    ∃ av, K av σ = some r ∧ ∀ (E : Env) (μ : Mu) (ρ : Rho) (va : Value) (w : World), VR μ ρ a va → SR E μ ρ σ w →
      ∃ v w', (convert src dst va).run P w = .ok v w' ∧ VR μ ρ av v ∧ SR E μ ρ σ w' ∧ w.heap.size ≤ w'.heap.size := by
  unfold evMark at h
  split at h
  · rename_i e l off cut hd
    split at h
    · rename_i b he hb
      obtain ⟨hc, h⟩ := cond_some h
      simp only [Bool.and_eq_true, Bool.not_eq_true'] at hc
      obtain ⟨⟨⟨h1, h2⟩, h3⟩, h4⟩ := hc
      have e1 : src = dst := Nat.eq_of_beq_eq_true h1
      have e2 := Nat.eq_of_beq_eq_true h2
      have e3 : off = 0 := Nat.eq_of_beq_eq_true h4
      subst e3
      refine ⟨_, h, fun E μ ρ va w ha hsr => ?_⟩
      subst e1
      have hcr := ha.cell rfl
      cases hcr with
      | d hx => cases hx
      | @sl _ _ _ rb ad len cap hl hp hA hlen hoff hcap hcsz =>
        have hA' : ad = ⟨rb.b, 0, none⟩ := by
          rcases hA with h | h
          · rw [h]; simp
          · omega
        subst hA'
        obtain ⟨w', r1, r2, r3⟩ := hsr.marked (P := P) hl hb e2 h3 hp
        refine ⟨_, w', ?_, ha, r2, r3⟩
        simp only [convert, Sem.run_bind, run_underlying hd, run_underlying he, Result.andThen_ok, beq_self_eq_true, r1, Sem.run_pure]
    · cases h
  · cases h
end
end Go.Ev
