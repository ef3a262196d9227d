/- New blocks: variables, structs and arrays by value, rows. -/
import Derived.Test.YtokagdgcfmjlnaaEv11
set_option linter.all false
namespace Go.Ev

theorem chunks_get (sz : Nat) : ∀ (n : Nat) (cs : List AV) (i : Nat), i < n → (chunks sz n cs)[i]? = some ((cs.drop (i * sz)).take sz)
  | 0, _, i, h => absurd h (Nat.not_lt_zero i)
  | n + 1, cs, 0, _ => by simp [chunks]
  | n + 1, cs, i + 1, h => by
    simp only [chunks, List.getElem?_cons_succ]
    rw [chunks_get sz n (cs.drop sz) i (by omega), List.drop_drop, show sz + i * sz = (i + 1) * sz by rw [Nat.add_mul, Nat.one_mul, Nat.add_comm]]
theorem chunks_len (sz : Nat) : ∀ (n : Nat) (cs : List AV), (chunks sz n cs).length = n
  | 0, _ => rfl
  | n + 1, cs => by simp [chunks, chunks_len sz n]

theorem flat_get {α : Type} (z : List α) : ∀ (n i j : Nat), i < n → j < z.length → ((List.replicate n z).flatten)[i * z.length + j]? = z[j]?
  | 0, i, j, h, _ => absurd h (Nat.not_lt_zero i)
  | n + 1, 0, j, _, hj => by
    simp only [List.replicate_succ, List.flatten_cons, Nat.zero_mul, Nat.zero_add]
    rw [List.getElem?_append_left hj]
  | n + 1, i + 1, j, h, hj => by
    simp only [List.replicate_succ, List.flatten_cons]
    rw [List.getElem?_append_right (by rw [Nat.add_mul, Nat.one_mul]; omega), show (i + 1) * z.length + j - z.length = i * z.length + j by rw [Nat.add_mul, Nat.one_mul]; omega]
    exact flat_get z n i j (by omega) hj

section
variable {P : Program} {E : Env} {μ : Mu} {ρ : Rho} {σ : Store} {w : World}

theorem CRs.append {cs ds : List AV} {vs us : List Value} (h : CRs μ ρ cs vs) (k : CRs μ ρ ds us) : CRs μ ρ (cs ++ ds) (vs ++ us) := by
  refine ⟨by simp [h.1, k.1], fun q u v hu hv => ?_⟩
  rcases Nat.lt_or_ge q cs.length with hq | hq
  · rw [List.getElem?_append_left hq] at hu
    rw [List.getElem?_append_left (by rw [h.1]; exact hq)] at hv
    exact h.2 q u v hu hv
  · rw [List.getElem?_append_right hq] at hu
    rw [List.getElem?_append_right (by rw [h.1]; exact hq), h.1] at hv
    exact k.2 _ u v hu hv
theorem CRs.nil : CRs μ ρ [] [] := ⟨rfl, fun k u v hu => by simp at hu⟩
theorem CRs.flat {cs : List AV} {vs : List Value} (h : CRs μ ρ cs vs) : ∀ n, CRs μ ρ (List.replicate n cs).flatten (List.replicate n vs).flatten
  | 0 => .nil
  | n + 1 => by simp only [List.replicate_succ, List.flatten_cons]; exact h.append (CRs.flat h n)
theorem CRs.cons {c : AV} {v : Value} {cs : List AV} {vs : List Value} (h : CR μ ρ c v) (k : CRs μ ρ cs vs) : CRs μ ρ (c :: cs) (v :: vs) := by
  refine ⟨by simp [k.1], fun q u x hu hx => ?_⟩
  cases q with
  | zero => simp at hu hx; subst hu; subst hx; exact h
  | succ q => exact k.2 q u x (by simpa using hu) (by simpa using hx)
theorem CRs.one {cs : List AV} {vs : List Value} (h : CRs μ ρ cs vs) : ∀ v ∈ vs, v.oneCell' = true := by
  intro v hv
  obtain ⟨j, hj, e⟩ := List.getElem_of_mem hv
  have hj' : j < cs.length := by rw [← h.1]; exact hj
  exact e ▸ (h.2 j _ _ (List.getElem?_eq_getElem hj') (List.getElem?_eq_getElem hj)).one

theorem zeros_sound : ∀ (ks : List CK) (cs : List Value) {σ σ' : Store} {r : List AV} {ρ : Rho} {m : Nat}, zeros P ks cs σ = some (r, σ') → SR E μ ρ σ w → FreshTo ρ σ.length m → σ'.length ≤ m →
    ∃ ρ', Grow true μ ρ σ.length w μ ρ' σ'.length w ∧ CRs μ ρ' r cs ∧ SR E μ ρ' σ' w
  | [], [], σ, σ', r, ρ, m, h, hs, hf, hm => by
    simp only [zeros, Option.some.injEq, Prod.mk.injEq] at h
    obtain ⟨h1, h2⟩ := h; subst h1; subst h2
    exact ⟨ρ, .refl _ _ _ _ _, .nil, hs⟩
  | [], _ :: _, _, _, _, _, _, h, _, _, _ => by simp [zeros] at h
  | _ :: _, [], _, _, _, _, _, h, _, _, _ => by simp [zeros] at h
  | k :: ks, c :: cs, σ, σ', r, ρ, m, h, hs, hf, hm => by
    simp only [zeros] at h
    split at h
    · rename_i e sz
      split at h
      · cases h
      · rename_i r1 σ1 h1
        simp only [Option.some.injEq, Prod.mk.injEq] at h
        obtain ⟨e1, e2⟩ := h; subst e1; subst e2
        have hlen : (phantom P σ e).2.length = σ.length + 1 := by simp [phantom]
        have hmono : ∀ (ks : List CK) (cs : List Value) (σ σ' : Store) (r : List AV), zeros P ks cs σ = some (r, σ') → σ.length ≤ σ'.length := by
          intro ks
          induction ks with
          | nil => intro cs σ σ' r h; cases cs <;> simp [zeros] at h; rw [h.2]; exact Nat.le_refl _
          | cons k ks ih =>
            intro cs σ σ' r h
            cases cs with
            | nil => simp [zeros] at h
            | cons c cs =>
              simp only [zeros] at h
              split at h
              · split at h
                · cases h
                · rename_i h1
                  simp only [Option.some.injEq, Prod.mk.injEq] at h
                  have := ih _ _ _ _ h1
                  simp [phantom] at this
                  rw [← h.2]; omega
              · cases h
              · cases h
              · have h := (cond_some' h).2
                split at h
                · cases h
                · rename_i h1
                  simp only [Option.some.injEq, Prod.mk.injEq] at h
                  have := ih _ _ _ _ h1
                  rw [← h.2]; exact this
        have hle := hmono _ _ _ _ _ h1
        have hfr : Fresh ρ σ := hf.fresh (by omega)
        obtain ⟨hr, hs1⟩ := hs.phantom hfr e (P.cellsOf e)
        have g1 : Grow true μ ρ σ.length w μ (rhoAdd ρ σ.length ⟨0, 0, P.cellsOf e, 0, true⟩) (phantom P σ e).2.length w := grow_add hfr _ _ w (fun _ => .inl rfl) (fun _ _ _ => rfl) (Nat.le_refl _)
        obtain ⟨ρ', g2, hc, hs2⟩ := zeros_sound ks cs h1 hs1 (hf.grow g1) hm
        refine ⟨ρ', g1.trans g2, .cons ?_ hc, hs2⟩
        have hl := g2.rho _ _ (rhoAdd_same ρ σ.length ⟨0, 0, P.cellsOf e, 0, true⟩)
        exact .sln hl rfl rfl (fun n hn => by cases hn)
    · cases h
    · cases h
    · replace h := cond_some' h
      obtain ⟨hk, h⟩ := h
      simp only [Bool.not_eq_false'] at hk
      split at h
      · cases h
      · rename_i r1 σ1 h1
        simp only [Option.some.injEq, Prod.mk.injEq] at h
        obtain ⟨e1, e2⟩ := h; subst e1; subst e2
        obtain ⟨ρ', g2, hc, hs2⟩ := zeros_sound ks cs h1 hs hf hm
        exact ⟨ρ', g2, .cons (.d (.v hk)) hc, hs2⟩

theorem zeros_app : ∀ (ks : List CK) (cs : List Value) {σ σ' : Store} {r : List AV}, zeros P ks cs σ = some (r, σ') → ∃ τ, σ' = σ ++ τ
  | [], [], σ, σ', r, h => by simp [zeros] at h; exact ⟨[], by simp [h.2]⟩
  | [], _ :: _, _, _, _, h => by simp [zeros] at h
  | _ :: _, [], _, _, _, h => by simp [zeros] at h
  | k :: ks, c :: cs, σ, σ', r, h => by
    simp only [zeros] at h
    split at h
    · split at h
      · cases h
      · rename_i h1
        simp only [Option.some.injEq, Prod.mk.injEq] at h
        obtain ⟨τ, ht⟩ := zeros_app ks cs h1
        rw [← h.2, ht]
        exact ⟨_, by simp only [phantom, List.append_assoc]; rfl⟩
    · cases h
    · cases h
    · have h := (cond_some' h).2
      split at h
      · cases h
      · rename_i h1
        simp only [Option.some.injEq, Prod.mk.injEq] at h
        rw [← h.2]
        exact zeros_app ks cs h1

theorem zeroOf_spec {t : TypeId} {r : List AV} {σ' : Store} (h : zeroOf P t σ = some (r, σ')) : ∃ i z, P.info? t = some i ∧ i.zero = some z ∧ zeros P (cks P t) z.cells.toList σ = some (r, σ') := by
  unfold zeroOf at h
  split at h
  · cases h
  · rename_i z hz
    cases hi : P.info? t with
    | none => simp [hi] at hz
    | some i =>
      rw [hi] at hz
      exact ⟨i, z, rfl, hz, h⟩

theorem VR.cells {a : AV} {v : Value} {cs : List AV} (h : VR μ ρ a v) (hc : cells a = some cs) : CRs μ ρ cs v.cells.toList := by
  unfold Go.Ev.cells at hc
  split at hc
  · injection hc with hc; subst hc
    cases h with
    | c hx => cases hx with | d hd => cases hd
    | agg hx => exact hx
  · replace hc := cond_some hc
    obtain ⟨hk, hc⟩ := hc
    injection hc with hc; subst hc
    have hx := h.cell hk
    have : v.cells = #[v] := by have := hx.one; cases v <;> first | rfl | cases this
    rw [this]
    exact .cons hx .nil

theorem plain_row {cs : List AV} {vs : List Value} (h : CRs μ ρ cs vs) (hp : cs.all isV = true) : RowD μ 1 (cs.map fun c => [c]) vs.toArray := by
  refine ⟨fun e he => ?_, fun i e j c he hc => ?_⟩
  · obtain ⟨c, _, hc⟩ := List.mem_map.1 he; rw [← hc]; rfl
  · simp only [List.getElem?_map, Option.map_eq_some_iff] at he
    obtain ⟨c', hc', e1⟩ := he
    subst e1
    have hj : j = 0 := by have := (List.getElem?_eq_some_iff.1 hc).1; simpa using this
    subst hj
    simp at hc; subst hc
    have hlt : i < vs.length := by rw [h.1]; exact (List.getElem?_eq_some_iff.1 hc').1
    refine ⟨vs[i], by simp [hlt], ?_⟩
    have h1 := h.2 i c' _ hc' (List.getElem?_eq_getElem hlt)
    have h2 := List.all_eq_true.1 hp c' (List.mem_of_getElem? hc')
    cases c' with
    | v x => cases h1 with | d hd => exact hd
    | _ => cases h2

theorem newBox_sound {R : Type} {K : AV → Store → Option R} {r : R} {t : TypeId} {cs : List AV} (h : newBox P σ K t cs = some r) :
    ∃ av k, K av (σ ++ [k]) = some r ∧ ∀ (E : Env) (μ : Mu) (ρ : Rho) (vs : List Value) (w : World), CRs μ ρ cs vs → SR E μ ρ σ w → FreshTo ρ σ.length (σ ++ [k]).length →
      ∃ ρ', Grow true μ ρ σ.length w μ ρ' (σ ++ [k]).length (w.alloc (.cells vs.toArray t)) ∧ VR μ ρ' av (.pointer (some ⟨w.heap.size, 0, none⟩)) ∧ SR E μ ρ' (σ ++ [k]) (w.alloc (.cells vs.toArray t)) := by
  have obj : K (.ptr σ.length 0 0) (σ ++ [⟨1, t, cs.length, true, [cs]⟩]) = some r → ∃ av k, K av (σ ++ [k]) = some r ∧ ∀ (E : Env) (μ : Mu) (ρ : Rho) (vs : List Value) (w : World), CRs μ ρ cs vs → SR E μ ρ σ w → FreshTo ρ σ.length (σ ++ [k]).length →
      ∃ ρ', Grow true μ ρ σ.length w μ ρ' (σ ++ [k]).length (w.alloc (.cells vs.toArray t)) ∧ VR μ ρ' av (.pointer (some ⟨w.heap.size, 0, none⟩)) ∧ SR E μ ρ' (σ ++ [k]) (w.alloc (.cells vs.toArray t)) := fun hk => by
    refine ⟨_, _, hk, fun E μ ρ vs w hc hs hf => ?_⟩
    have hfr : Fresh ρ σ := hf.fresh (by simp)
    obtain ⟨_, hs'⟩ := hs.new hfr ⟨1, t, cs.length, true, [cs]⟩ vs.toArray rfl (by simp [hc.1]) (fun _ => ⟨rfl, by simp [hc.1]⟩) (fun e => by cases e) (fun _ => ⟨fun e he => by simp at he; rw [he], fun i e j c he hc' => by
      have hi : i = 0 := by have := (List.getElem?_eq_some_iff.1 he).1; simpa using this
      subst hi
      simp at he; subst he
      have hlt : j < vs.length := by rw [hc.1]; exact (List.getElem?_eq_some_iff.1 hc').1
      exact ⟨vs[j], by simp [hlt], hc.2 j c _ hc' (List.getElem?_eq_getElem hlt)⟩⟩)
    refine ⟨_, grow_add hfr _ _ _ (fun _ => .inr (Nat.le_refl _)) (fun _ b hb => alloc_old w _ b hb) (by simp), ?_, hs'⟩
    have := CR.ptr (μ := μ) (l := σ.length) (i := 0) (j := 0) (rhoAdd_same ρ σ.length ⟨w.heap.size, vs.toArray.size, cs.length, 1, false⟩) rfl
    simp only [Nat.zero_mul, Nat.add_zero] at this
    exact .c this
  unfold newBox at h
  split at h
  · rename_i n e hu
    cases hn : Nat.ble n 16 with
    | true => rw [hn] at h; exact obj h
    | false =>
      rw [hn] at h
      simp only [cond_false] at h
      replace h := cond_some h
      obtain ⟨hp, h⟩ := h
      simp only [Bool.and_eq_true] at hp
      refine ⟨_, _, h, fun E μ ρ vs w hc hs hf => ?_⟩
      have hfr : Fresh ρ σ := hf.fresh (by simp)
      obtain ⟨_, hs'⟩ := hs.new hfr ⟨1, t, 1, false, cs.map fun c => [c]⟩ vs.toArray rfl (by simp [hc.1]) (fun e => by cases e) (fun _ => plain_row hc hp.2) (fun e => by cases e)
      refine ⟨_, grow_add hfr _ _ _ (fun _ => .inr (Nat.le_refl _)) (fun _ b hb => alloc_old w _ b hb) (by simp), ?_, hs'⟩
      have := CR.ptr (μ := μ) (l := σ.length) (i := 0) (j := 0) (rhoAdd_same ρ σ.length ⟨w.heap.size, vs.toArray.size, 1, (cs.map fun c => [c]).length, false⟩) rfl
      simp only [Nat.zero_mul, Nat.add_zero] at this
      exact .c this
  · exact obj h

theorem evAlloc_sound {R : Type} {K : AV → Store → Option R} {r : R} {t : TypeId} (h : evAlloc P σ K t = some r) :
    ∃ av τ, K av (σ ++ τ) = some r ∧ ∀ (E : Env) (μ : Mu) (ρ : Rho) (w : World), SR E μ ρ σ w → FreshTo ρ σ.length (σ ++ τ).length →
      ∃ v w' ρ', (Instr.alloc t true (.tuple #[])).run P w = .ok v w' ∧ Grow true μ ρ σ.length w μ ρ' (σ ++ τ).length w' ∧ VR μ ρ' av v ∧ SR E μ ρ' (σ ++ τ) w' := by
  unfold evAlloc at h
  split at h
  · cases h
  · rename_i cs σ1 hz
    obtain ⟨i, z, hi, hzz, hzs⟩ := zeroOf_spec hz
    obtain ⟨τ, ht⟩ := zeros_app _ _ hzs
    obtain ⟨av, k, hk, hb⟩ := newBox_sound h
    subst ht
    rw [List.append_assoc] at hk
    refine ⟨av, τ ++ [k], hk, fun E μ ρ w hs hf => ?_⟩
    obtain ⟨ρ1, g1, hc, hs1⟩ := zeros_sound _ _ hzs hs hf (by simp)
    obtain ⟨ρ2, g2, hv, hs2⟩ := hb E μ ρ1 _ w hc hs1 (by rw [List.append_assoc]; exact hf.grow g1)
    rw [List.append_assoc] at g2 hs2
    refine ⟨_, _, ρ2, ?_, g1.trans g2, hv, hs2⟩
    simp only [Instr.alloc, Sem.run_bind, zeroValue, typeInfo, run_program, Result.andThen_ok, hi, Sem.run_pure, hzz, newVar, newRow, run_newObj]
    rfl

theorem evBox_sound {R : Type} {K : AV → Store → Option R} {r : R} {t : TypeId} {a : AV} (h : evBox P σ K t a = some r) :
    ∃ av τ, K av (σ ++ τ) = some r ∧ ∀ (E : Env) (μ : Mu) (ρ : Rho) (va : Value) (w : World), VR μ ρ a va → SR E μ ρ σ w → FreshTo ρ σ.length (σ ++ τ).length →
      ∃ v w' ρ', (Instr.box t va).run P w = .ok v w' ∧ Grow true μ ρ σ.length w μ ρ' (σ ++ τ).length w' ∧ VR μ ρ' av v ∧ SR E μ ρ' (σ ++ τ) w' := by
  unfold evBox at h
  split at h
  · cases h
  · rename_i cs hcs
    replace h := cond_some h
    obtain ⟨_, h⟩ := h
    obtain ⟨av, k, hk, hb⟩ := newBox_sound h
    refine ⟨av, [k], hk, fun E μ ρ va w ha hs hf => ?_⟩
    obtain ⟨ρ2, g2, hv, hs2⟩ := hb E μ ρ _ w (ha.cells hcs) hs hf
    refine ⟨_, _, ρ2, ?_, g2, hv, hs2⟩
    simp only [Instr.box, Sem.run_bind, newVar, newRow, run_newObj, Result.andThen_ok, Sem.run_pure]
    rfl

/-- Filling in parts. -/
theorem fill_fold (off : Nat) : ∀ (p : List Value) (k : Nat) (cells : Array Value), off + k + p.length ≤ cells.size →
    (p.zipIdx k).foldl (fun cs (x : Value × Nat) => cs.setIfInBounds (off + x.2) x.1) cells = (cells.toList.take (off + k) ++ p ++ cells.toList.drop (off + k + p.length)).toArray
  | [], k, cells, h => by simp
  | c :: p, k, cells, h => by
    simp only [List.zipIdx_cons, List.foldl_cons]
    rw [fill_fold off p (k + 1) _ (by simp at h ⊢; omega)]
    congr 1
    have e := list_seg_step cells.toList (off + k) c p (by simp at h ⊢; omega)
    simpa [Array.toList_setIfInBounds, Nat.add_assoc] using e

theorem fill_sound {place place' : Nat → Option (Nat × Nat)} (hp : ∀ i p, place i = some p → place' i = some p) : ∀ (parts : List (Nat × AV)) (vparts : List (Nat × Value)) (cs cs' : List AV) (vs : List Value),
    parts.length = vparts.length → (∀ (q i : Nat) (a : AV), parts[q]? = some (i, a) → ∃ v : Value, vparts[q]? = some (i, v) ∧ VR μ ρ a v) → CRs μ ρ cs vs → fillAV place cs parts = some cs' →
    ∃ vs', Instr.fill place' vs.toArray vparts = some vs'.toArray ∧ CRs μ ρ cs' vs'
  | [], [], cs, cs', vs, _, _, hc, h => by
    simp only [fillAV, Option.some.injEq] at h
    subst h
    exact ⟨vs, rfl, hc⟩
  | [], _ :: _, _, _, _, hl, _, _, _ => by simp at hl
  | _ :: _, [], _, _, _, hl, _, _, _ => by simp at hl
  | (i, a) :: parts, (i', v) :: vparts, cs, cs', vs, hl, hv, hc, h => by
    obtain ⟨v0, h0, hva⟩ := hv 0 i a rfl
    simp only [List.getElem?_cons_zero, Option.some.injEq, Prod.mk.injEq] at h0
    obtain ⟨e1, e2⟩ := h0; subst e1; subst e2
    simp only [fillAV] at h
    split at h
    · cases h
    · rename_i off size hpl
      split at h
      · cases h
      · rename_i p hpc
        replace h := cond_some h
        obtain ⟨hb, h⟩ := h
        simp only [Bool.and_eq_true] at hb
        have h1 := Nat.eq_of_beq_eq_true hb.1
        have h2 := Nat.le_of_ble_eq_true hb.2
        have hpv := hva.cells hpc
        have hsz : v.cells.size = size := by rw [← h1, ← hpv.1]; simp
        have hvl := hc.1
        have hnew : CRs μ ρ (cs.take off ++ p ++ cs.drop (off + size)) (vs.take off ++ v.cells.toList ++ vs.drop (off + size)) := by
          refine .append (.append ?_ hpv) ?_
          · have := hc.sub 0 off; simpa using this
          · have := hc.sub (off + size) cs.length
            rwa [List.take_of_length_le (by simp), List.take_of_length_le (by simp [hvl])] at this
        obtain ⟨vs', hf, hc'⟩ := fill_sound hp parts vparts _ cs' _ (by simpa using hl) (fun q i a hq => hv (q + 1) i a (by simpa using hq)) hnew h
        refine ⟨vs', ?_, hc'⟩
        simp only [Instr.fill, hp _ _ hpl]
        rw [if_neg (by simp only [Bool.or_eq_true, decide_eq_true_eq, not_or]; refine ⟨by simpa using hsz, ?_⟩; simp [hsz, hvl]; omega)]
        have : v.cells.zipIdx.foldl (fun cs x => cs.setIfInBounds (off + x.snd) x.fst) vs.toArray = (vs.take off ++ v.cells.toList ++ vs.drop (off + size)).toArray := by
          rw [← Array.foldl_toList, Array.toList_zipIdx]
          have := fill_fold off v.cells.toList 0 vs.toArray (by simp [hsz, hvl]; omega)
          simpa [hsz] using this
        rw [this]
        exact hf


theorem placeOf_spec {t : TypeId} {i : Nat} {p : Nat × Nat} (h : placeOf P t i = some p) :
    (∃ fs fd, P.underlying t = some (.struct fs) ∧ fs[i]? = some fd ∧ p = (fd.offset, P.cellsOf fd.type)) ∨ (∃ n e, P.underlying t = some (.array n e) ∧ p = (i * P.cellsOf e, P.cellsOf e)) := by
  unfold placeOf at h
  split at h
  · rename_i fs hu
    simp only [Option.map_eq_some_iff] at h
    obtain ⟨fd, h1, h2⟩ := h
    exact .inl ⟨fs, fd, hu, h1, h2.symm⟩
  · rename_i n e hu
    have := (cond_some h).2
    injection this with this
    exact .inr ⟨n, e, hu, this.symm⟩
  · cases h

theorem fs_places : ∀ (fs : List Field), (fs.all fun f => (P.info? f.type).isSome) = true → fs.mapM (fun f => (P.info? f.type).map fun i => (f.offset, i.size)) = some (fs.map fun f => (f.offset, P.cellsOf f.type))
  | [], _ => rfl
  | f :: fs, h => by
    simp only [List.all_cons, Bool.and_eq_true] at h
    cases hi : P.info? f.type with
    | none => rw [hi] at h; cases h.1
    | some i => simp [List.mapM_cons, hi, fs_places fs h.2, Program.cellsOf]

theorem evBuild_sound {R : Type} {K : AV → Store → Option R} {r : R} {t : TypeId} {parts : List (Nat × AV)} (h : evBuild P σ K t parts = some r) :
    ∃ av τ, K av (σ ++ τ) = some r ∧ ∀ (E : Env) (μ : Mu) (ρ : Rho) (vparts : Array (Nat × Value)) (w : World), parts.length = vparts.size → (∀ (q i : Nat) (a : AV), parts[q]? = some (i, a) → ∃ v : Value, vparts.toList[q]? = some (i, v) ∧ VR μ ρ a v) →
      SR E μ ρ σ w → FreshTo ρ σ.length (σ ++ τ).length →
      ∃ v ρ', (Instr.build t vparts).run P w = .ok v w ∧ Grow true μ ρ σ.length w μ ρ' (σ ++ τ).length w ∧ VR μ ρ' av v ∧ SR E μ ρ' (σ ++ τ) w := by
  unfold evBuild at h
  replace h := cond_some' h
  obtain ⟨hok, h⟩ := h
  simp only [Bool.not_eq_false'] at hok
  split at h
  · cases h
  · rename_i cs σ1 hz
    obtain ⟨i, z, hi, hzz, hzs⟩ := zeroOf_spec hz
    obtain ⟨τ, ht⟩ := zeros_app _ _ hzs
    subst ht
    split at h
    · cases h
    · rename_i cs' hfill
      refine ⟨_, τ, h, fun E μ ρ vparts w hlen hparts hs hf => ?_⟩
      obtain ⟨ρ1, g1, hc, hs1⟩ := zeros_sound _ _ hzs hs hf (Nat.le_refl _)
      have hparts' : ∀ (q i : Nat) (a : AV), parts[q]? = some (i, a) → ∃ v : Value, vparts.toList[q]? = some (i, v) ∧ VR μ ρ1 a v := fun q i a hq => let ⟨v, h1, h2⟩ := hparts q i a hq; ⟨v, h1, h2.mono (MuLe.refl μ) g1.rho⟩
      unfold partsOk at hok
      split at hok
      · rename_i fs hu
        have hpl := fs_places fs.toList hok
        obtain ⟨vs', h1, h2⟩ := fill_sound (place' := ((fs.toList.map fun f => (f.offset, P.cellsOf f.type)).toArray[·]?)) (fun i p hp => by
          rcases placeOf_spec hp with ⟨fs', fd, e1, e2, e3⟩ | ⟨n, e, e1, _⟩
          · rw [hu] at e1; injection e1 with e1; injection e1 with e1; subst e1
            subst e3
            have : fs.toList[i]? = some fd := by rw [Array.getElem?_toList]; exact e2
            simp [this]
          · rw [hu] at e1; cases e1) parts vparts.toList cs cs' z.cells.toList (by simpa using hlen) hparts' hc hfill
        refine ⟨_, ρ1, run_build w t vparts vs'.toArray ?_, g1, .agg h2, hs1⟩
        simp only [Program.built, hi, hu, hzz, hpl]
        simpa using h1
      · rename_i n e hu
        cases hie : P.info? e with
        | none => rw [hie] at hok; cases hok
        | some ie =>
          have hce : P.cellsOf e = ie.size := by simp [Program.cellsOf, hie]
          obtain ⟨vs', h1, h2⟩ := fill_sound (place' := fun i => some (i * ie.size, ie.size)) (fun i p hp => by
            rcases placeOf_spec hp with ⟨fs', fd, e1, e2, e3⟩ | ⟨n', e', e1, e2⟩
            · rw [hu] at e1; cases e1
            · rw [hu] at e1; injection e1 with e1; injection e1 with _ e1; subst e1; rw [e2, hce]) parts vparts.toList cs cs' z.cells.toList (by simpa using hlen) hparts' hc hfill
          refine ⟨_, ρ1, run_build w t vparts vs'.toArray ?_, g1, .agg h2, hs1⟩
          simp only [Program.built, hi, hu, hzz, hie]
          simpa using h1
      · cases hok
end
end Go.Ev
