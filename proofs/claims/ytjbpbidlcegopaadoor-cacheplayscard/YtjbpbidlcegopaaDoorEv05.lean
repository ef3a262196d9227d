/- Places of elements; conversions; new blocks. -/
import Derived.Laws.MakeOwn
import Derived.Test.YtjbpbidlcegopaaDoorEv04
set_option linter.all false
namespace Go.Ev
variable [Gl]
structure Grow (q : Bool) (μ : Mu) (ρ : Rho) (n : Nat) (w : World) (μ' : Mu) (ρ' : Rho) (n' : Nat) (w' : World) : Prop where
  mu : MuLe μ μ'
  rho : RhoLe ρ ρ'
  len : n ≤ n'
  dom : ∀ l rb, ρ' l = some rb → ρ l = some rb ∨ (n ≤ l ∧ l < n' ∧ (q = true → rb.ph = true ∨ w.heap.size ≤ rb.b))
  keep : q = true → ∀ b, b < w.heap.size → w'.heap[b]? = w.heap[b]?
  size : w.heap.size ≤ w'.heap.size
  muq : q = true → ∀ b o, μ' b = some o → μ b = some o ∨ w.heap.size ≤ b
def FreshTo (ρ : Rho) (n m : Nat) : Prop := ∀ l, n ≤ l → l < m → ρ l = none
theorem Grow.refl (q : Bool) (μ : Mu) (ρ : Rho) (n : Nat) (w : World) : Grow q μ ρ n w μ ρ n w :=
  ⟨MuLe.refl μ, RhoLe.refl ρ, Nat.le_refl n, fun _ _ h => .inl h, fun _ _ _ => rfl, Nat.le_refl _, fun _ _ _ h => .inl h⟩
theorem Grow.trans {q : Bool} {μ μ' μ'' : Mu} {ρ ρ' ρ'' : Rho} {n n' n'' : Nat} {w w' w'' : World} (h : Grow q μ ρ n w μ' ρ' n' w') (k : Grow q μ' ρ' n' w' μ'' ρ'' n'' w'') : Grow q μ ρ n w μ'' ρ'' n'' w'' := by
  refine ⟨h.mu.trans k.mu, h.rho.trans k.rho, Nat.le_trans h.len k.len, fun l rb hl => ?_, fun hq b hb => ?_, Nat.le_trans h.size k.size, fun hq b o hb => ?_⟩
  · rcases k.dom l rb hl with h1 | ⟨h1, h2, h3⟩
    · rcases h.dom l rb h1 with h4 | ⟨h4, h5, h6⟩
      · exact .inl h4
      · exact .inr ⟨h4, Nat.lt_of_lt_of_le h5 k.len, h6⟩
    · exact .inr ⟨Nat.le_trans h.len h1, h2, fun hq => (h3 hq).imp id (Nat.le_trans h.size)⟩
  · rw [k.keep hq b (Nat.lt_of_lt_of_le hb h.size), h.keep hq b hb]
  · rcases k.muq hq b o hb with h1 | h1
    · exact h.muq hq b o h1
    · exact .inr (Nat.le_trans h.size h1)
theorem Grow.loud {q : Bool} {μ μ' : Mu} {ρ ρ' : Rho} {n n' : Nat} {w w' : World} (h : Grow q μ ρ n w μ' ρ' n' w') : Grow false μ ρ n w μ' ρ' n' w' :=
  ⟨h.mu, h.rho, h.len, fun l rb hl => (h.dom l rb hl).imp id fun ⟨a, b, _⟩ => ⟨a, b, fun e => by cases e⟩, fun e => (by cases e), h.size, fun e => (by cases e)⟩
theorem FreshTo.grow {q : Bool} {μ μ' : Mu} {ρ ρ' : Rho} {n n' m : Nat} {w w' : World} (h : FreshTo ρ n m) (g : Grow q μ ρ n w μ' ρ' n' w') : FreshTo ρ' n' m := fun l h1 h2 => by
  cases e : ρ' l with
  | none => rfl
  | some rb =>
    rcases g.dom l rb e with h3 | ⟨_, h3, _⟩
    · rw [h l (Nat.le_trans g.len h1) h2] at h3; cases h3
    · omega
theorem FreshTo.fresh {ρ : Rho} {σ : Store} {m : Nat} (h : FreshTo ρ σ.length m) (hm : σ.length < m) : Fresh ρ σ := h _ (Nat.le_refl _) hm
section
variable {P : Program} {E : Env} {μ : Mu} {ρ : Rho} {σ : Store} {w : World}
theorem grow_add {q : Bool} (hf : Fresh ρ σ) (rb : RB) (k : Blk) (w' : World) (hq : q = true → rb.ph = true ∨ w.heap.size ≤ rb.b) (hk : q = true → ∀ b, b < w.heap.size → w'.heap[b]? = w.heap[b]?) (hz : w.heap.size ≤ w'.heap.size) :
    Grow q μ ρ σ.length w μ (rhoAdd ρ σ.length rb) (σ ++ [k]).length w' := by
  refine ⟨MuLe.refl μ, rhoAdd_le (fun r e => by rw [hf] at e; cases e), by simp, fun l r hl => ?_, hk, hz, fun _ _ _ h => .inl h⟩
  rcases rhoAdd_cases hl with ⟨h1, h2⟩ | ⟨_, h2⟩
  · subst h2; exact .inr ⟨by omega, by simp; omega, hq⟩
  · exact .inl h2
theorem cond_or7 {R : Type} {c : Bool} {a b : Option R} {r : R} (h : cond c a b = some r) : (c = true ∧ a = some r) ∨ (c = false ∧ b = some r) := by
  cases c
  · exact .inr ⟨rfl, h⟩
  · exact .inl ⟨rfl, h⟩
theorem evIndexAddr_sound {R : Type} {K : AV → Store → Option R} {r : R} {t : TypeId} {a i : AV} {ct : Bool} (h : evIndexAddr P σ K t a i ct = some r) :
    ∃ av, K av σ = some r ∧ ∀ (E : Env) (μ : Mu) (ρ : Rho) (va vi : Value) (w : World), VR μ ρ a va → VR μ ρ i vi → SR E μ ρ σ w → ∃ v, (Instr.indexAt t va vi).run P w = .ok v w ∧ VR μ ρ av v := by
  unfold evIndexAddr at h
  split at h
  · rename_i e k n hu
    replace h := cond_some' h
    obtain ⟨ht, h⟩ := h
    simp only [Bool.not_eq_false', Bool.and_eq_true] at ht
    have hI := (tyL_spec ht.1).2.2.2
    have hpos : 0 < P.cellsOf e := by simpa [Nat.blt_eq] using ht.2
    have hrun : ∀ (ad : Addr) (len c : Nat) (w : World), 0 ≤ n → n < (len : Int) → (Instr.indexAt t (.slice (some ad) len c) (.int k n)).run P w = .ok (.pointer (some (ad.add (n.toNat * P.cellsOf e)))) w := fun ad len c w h0 h1 => by
      simp only [Instr.indexAt, asIntOf, Sem.run_bind, Sem.run_pure, Result.andThen_ok, run_underlying hu, h0, h1, and_self, if_true, run_sizeOf' hI]
    split at h
    · rename_i nil sz xs
      replace h := cond_some h
      obtain ⟨hz, h⟩ := h
      have hsz := Nat.eq_of_beq_eq_true hz
      replace h := cond_some h
      obtain ⟨hr, h⟩ := h
      obtain ⟨h0, h1, h2⟩ := range_of hr
      refine ⟨_, h, fun E μ ρ va vi w ha hi hs => ?_⟩
      have := hi.v_eq; subst this
      cases ha with
      | c hx => cases hx with
        | d hd => cases hd with
          | @lst _ _ _ A c vals hnil hA hc hszs hcell hv =>
            cases A with
            | none => have := (hA rfl).1; subst this; simp at h2
            | some ad =>
              refine ⟨_, hrun ad _ _ w h0 h1, ?_⟩
              have hel : xs[n.toNat]? = some (lget xs n.toNat) := by simp [lget, List.getD_eq_getElem?_getD, List.getElem?_eq_getElem h2]
              have hlen : (lget xs n.toNat).length = sz := hszs _ (List.mem_of_getElem? hel)
              have hspot : ∃ b o, ad = ⟨b, o, none⟩ := by
                have := hcell ad rfl 0 0 (by omega) (by omega)
                rw [show (0 * sz + 0 : Nat) = 0 by omega] at this
                obtain ⟨b, o, s⟩ := ad
                cases s with
                | none => exact ⟨b, o, rfl⟩
                | some s =>
                  simp only [Addr.add, if_true, muCell] at this
                  split at this <;> simp at this
              obtain ⟨b, o, e⟩ := hspot
              subst e
              have hp := DR.ep (μ := μ) (cs := lget xs n.toNat) (off := 0) (b := b) (o := o + n.toNat * sz) (fun j => vals n.toNat j) (fun j hj => by
                have := hcell ⟨b, o, none⟩ rfl n.toNat j h2 (by omega)
                rw [addr_add] at this
                rw [← this]; congr 2; omega) (fun j u hu => hv _ _ _ _ hel hu)
              rw [addr_add, ← hsz]
              exact .c (.d hp)
    · rename_i nil l off cut
      split at h
      · rename_i len b hlen hb
        replace h := cond_some h
        obtain ⟨hz, h⟩ := h
        have hsz := Nat.eq_of_beq_eq_true hz
        replace h := cond_some h
        obtain ⟨hr, h⟩ := h
        obtain ⟨h0, h1, h2⟩ := range_of hr
        have hm : b.mode ≠ 0 := by
          simp only [slLen, hb] at hlen
          exact (blk_mode (cond_some' hlen).1).1
        refine ⟨_, h, fun E μ ρ va vi w ha hi hs => ?_⟩
        have := hi.v_eq; subst this
        obtain ⟨A, c, hva⟩ := slLen_view hlen ha hs
        subst hva
        cases ha with
        | c hx => cases hx with
          | d hd => cases hd
          | @sl _ _ _ rb a _ _ hl hp ha hlen' hoff hcap hcsz =>
            refine ⟨_, hrun a _ _ w h0 h1, ?_⟩
            have hbs := (hs.blk l rb b hl hb hm).sz
            rcases ha with ha | ⟨ha, _⟩
            · rw [ha, addr_add, ← hsz, ← hbs, ← Nat.add_mul]
              have := CR.ptr (μ := μ) (ρ := ρ) (l := l) (i := off + n.toNat) (j := 0) hl hp
              exact .c this
            · omega
          | sln => omega
      · cases h
    · cases h
  · rename_i len e k n hu
    replace h := cond_some' h
    obtain ⟨ht, h⟩ := h
    simp only [Bool.not_eq_false'] at ht
    have hI := (tyL_spec ht).2.2.2
    have hrun : ∀ (ad : Addr) (w : World), 0 ≤ n → n < (len : Int) → (Instr.indexAt t (.pointer (some ad)) (.int k n)).run P w = .ok (.pointer (some (ad.add (n.toNat * P.cellsOf e)))) w := fun ad w h0 h1 => by
      simp only [Instr.indexAt, asIntOf, Sem.run_bind, Sem.run_pure, Result.andThen_ok, run_underlying hu, Instr.sureAddr, h0, h1, and_self, if_true, run_sizeOf' hI]
    split at h
    · rename_i l i j
      split at h
      · cases h
      · rename_i b hb
        cases ho : b.obj with
        | true =>
          rw [ho] at h
          simp only [cond_true] at h
          cases ct with
          | true =>
            simp only [cond_true] at h
            replace h := cond_some h
            obtain ⟨hr, h⟩ := h
            obtain ⟨h0, h1, h2⟩ := range_of hr
            refine ⟨_, h, fun E μ ρ va vi w ha hi hs => ?_⟩
            have := hi.v_eq; subst this
            cases ha with
            | c hx => cases hx with
              | d hd => cases hd
              | @ptr _ _ _ rb hl hp =>
                refine ⟨_, hrun _ w h0 h1, ?_⟩
                rw [addr_add, Nat.add_assoc]
                exact .c (.ptr hl hp)
          | false =>
            simp only [cond_false] at h
            replace h := cond_some h
            obtain ⟨hc, h⟩ := h
            simp only [Bool.and_eq_true] at hc
            have hone := Nat.eq_of_beq_eq_true hc.1
            have hi0 := Nat.eq_of_beq_eq_true hc.2
            replace h := cond_some h
            obtain ⟨hr, h⟩ := h
            obtain ⟨h0, h1, h2⟩ := range_of hr
            refine ⟨_, h, fun E μ ρ va vi w ha hi hs => ?_⟩
            have := hi.v_eq; subst this
            cases ha with
            | c hx => cases hx with
              | d hd => cases hd
              | @ptr _ _ _ rb hl hp =>
                refine ⟨_, hrun _ w h0 h1, ?_⟩
                rw [addr_add, hone, Nat.mul_one, hi0, Nat.zero_mul, Nat.zero_add]
                exact .c (.px hl hp h2)
        | false =>
          rw [ho] at h
          simp only [cond_false] at h
          rcases cond_or7 h with ⟨hc, h⟩ | ⟨hc, h⟩
          case inr =>
            replace h := cond_some h
            obtain ⟨hr, h⟩ := h
            obtain ⟨h0, h1, h2⟩ := range_of hr
            refine ⟨_, h, fun E μ ρ va vi w ha hi hs => ?_⟩
            have := hi.v_eq; subst this
            cases ha with
            | c hx => cases hx with
              | d hd => cases hd
              | @ptr _ _ _ rb hl hp =>
                refine ⟨_, hrun _ w h0 h1, ?_⟩
                rw [addr_add, Nat.add_assoc]
                exact .c (.ptr hl hp)
          simp only [Bool.and_eq_true] at hc
          obtain ⟨⟨⟨⟨hm, hty⟩, hi0⟩, hj0⟩, hsz⟩ := hc
          have hm : b.mode ≠ 0 := fun e => by rw [e] at hm; cases hm
          have hi0 := Nat.eq_of_beq_eq_true hi0
          have hj0 := Nat.eq_of_beq_eq_true hj0
          have hsz := Nat.eq_of_beq_eq_true hsz
          replace h := cond_some h
          obtain ⟨hr, h⟩ := h
          obtain ⟨h0, h1, h2⟩ := range_of hr
          refine ⟨_, h, fun E μ ρ va vi w ha hi hs => ?_⟩
          have := hi.v_eq; subst this
          cases ha with
          | c hx => cases hx with
            | d hd => cases hd
            | @ptr _ _ _ rb hl hp =>
              refine ⟨_, hrun _ w h0 h1, ?_⟩
              have hbs := (hs.blk l rb b hl hb hm).sz
              rw [addr_add, hi0, hj0, Nat.zero_mul, Nat.zero_add, hsz, ← hbs]
              exact .c (.ptr (i := n.toNat) (j := 0) hl hp)
    · rename_i cs off
      replace h := cond_some h
      obtain ⟨hr, h⟩ := h
      obtain ⟨h0, h1, h2⟩ := range_of hr
      refine ⟨_, h, fun E μ ρ va vi w ha hi hs => ?_⟩
      have := hi.v_eq; subst this
      cases ha with
      | c hx => cases hx with
        | d hd => cases hd with
          | ep vals hcell hv =>
            refine ⟨_, hrun _ w h0 h1, ?_⟩
            rw [addr_add, Nat.add_assoc]
            exact .c (.d (.ep vals hcell hv))
    · cases h
  · cases h
end
end Go.Ev
namespace Go.Ev
variable [Gl]
section
variable {P : Program} {E : Env} {μ : Mu} {ρ : Rho} {σ : Store} {w : World}
theorem bytes_of {sz : Nat} {xs : List (List AV)} {news : List Value} (hr : RowD μ sz xs news.toArray) (hl : news.length = xs.length * sz) (hb : xs.all isByte = true) :
    news = (xs.map fun c => avInt (cellAt c 0)).map (Value.int .u8) ∧ (xs ≠ [] → sz = 1) := by
  have hone : ∀ e ∈ xs, ∃ n, e = [.v (.int .u8 n)] := fun e he => by
    have := List.all_eq_true.1 hb e he
    unfold isByte at this
    split at this
    · exact ⟨_, rfl⟩
    · cases this
  have hsz : xs ≠ [] → sz = 1 := fun hne => by
    obtain ⟨e, xs', hx⟩ := List.exists_cons_of_ne_nil hne
    obtain ⟨n, he⟩ := hone e (by rw [hx]; simp)
    rw [← hr.1 e (by rw [hx]; simp), he]; rfl
  refine ⟨?_, hsz⟩
  by_cases hne : xs = []
  · subst hne; simp at hl; subst hl; rfl
  · have h1 := hsz hne
    subst h1
    apply List.ext_getElem?
    intro i
    by_cases hi : i < xs.length
    · have he : xs[i]? = some xs[i] := List.getElem?_eq_getElem hi
      obtain ⟨n, hn⟩ := hone xs[i] (List.getElem_mem hi)
      obtain ⟨u, h2, h3⟩ := hr.2 i xs[i] 0 (.v (.int .u8 n)) he (by rw [hn]; rfl)
      have hu : u = .int .u8 n := by cases h3; rfl
      simp only [Nat.mul_one, Nat.add_zero, List.getElem?_toArray] at h2
      rw [h2, hu]
      simp [he, hn, cellAt, avInt]
    · rw [List.getElem?_eq_none (by omega), List.getElem?_eq_none (by simp; omega)]
theorem foldl_push (ns : List Int) : ∀ (s : ByteArray), ns.foldl (fun r n => r.push (UInt8.ofNat n.toNat)) s = ⟨s.data ++ (ns.map fun n => UInt8.ofNat n.toNat).toArray⟩ := by
  induction ns with
  | nil => intro s; simp
  | cons n ns ih =>
    intro s
    simp only [List.foldl_cons, List.map_cons]
    rw [ih]
    show (⟨s.data.push _ ++ _⟩ : ByteArray) = _
    congr 1
    apply Array.ext'
    simp
theorem evConv_sound {R : Type} {K : AV → Store → Option R} {r : R} {src dst : TypeId} {a : AV} (h : evConv P σ K src dst a = some r) :
    ∃ av σ', K av σ' = some r ∧ σ.length ≤ σ'.length ∧ (∃ τ, σ' = σ ++ τ) ∧ ∀ (E : Env) (μ : Mu) (ρ : Rho) (va : Value) (w : World), VR μ ρ a va → SR E μ ρ σ w → FreshTo ρ σ.length σ'.length →
      ∃ v w' ρ', (convert src dst va).run P w = .ok v w' ∧ Grow true μ ρ σ.length w μ ρ' σ'.length w' ∧ VR μ ρ' av v ∧ SR E μ ρ' σ' w' := by
  unfold evConv at h
  split at h
  · rename_i k1 k k2 n hs hd
    refine ⟨_, σ, h, Nat.le_refl _, ⟨[], by simp⟩, fun E μ ρ va w ha hsr _ => ?_⟩
    have := ha.v_eq; subst this
    exact ⟨_, w, ρ, by simp only [convert, Sem.run_bind, run_underlying hs, run_underlying hd, Result.andThen_ok, Conv.intToInt, Sem.run_pure], .refl _ _ _ _ _, .int _ _, hsr⟩
  · rename_i s hs hd
    refine ⟨_, σ, h, Nat.le_refl _, ⟨[], by simp⟩, fun E μ ρ va w ha hsr _ => ?_⟩
    have := ha.v_eq; subst this
    exact ⟨_, w, ρ, by simp only [convert, Sem.run_bind, run_underlying hs, run_underlying hd, Result.andThen_ok, Sem.run_pure], .refl _ _ _ _ _, .str _, hsr⟩
  · rename_i e s hs hd
    split at h
    · rename_i he
      refine ⟨_, _, h, by simp, ⟨_, rfl⟩, fun E μ ρ va w ha hsr hft => ?_⟩
      have hfr : Fresh ρ σ := hft.fresh (by simp)
      have := ha.v_eq; subst this
      let C : Array Value := (s.data.map fun b => Value.int .u8 b.toNat) ++ Array.replicate (grownCap w s.size 0 e - s.size) (.int .u8 0)
      let w1 := w.drew.alloc (.cells C e)
      let w2 := w1.freeze { block := w.heap.size, off := C.size } 1
      have hw1 : w1.heap[w.heap.size]? = some (.cells C e (0, 0)) := alloc_new w.drew _
      have hw2 : w2.heap[w.heap.size]? = some (.cells C e (C.size, C.size + 1)) := by
        show ((if (1 : Nat) = 0 then w1 else _).heap)[w.heap.size]? = _
        rw [if_neg (by decide)]
        simp only [Array.getElem?_modify, hw1, if_true, Option.map_some, beq_self_eq_true]
      have hold : ∀ x, x < w.heap.size → w2.heap[x]? = w.heap[x]? := fun x hx => by
        show ((if (1 : Nat) = 0 then w1 else _).heap)[x]? = _
        rw [if_neg (by decide)]
        simp only [Array.getElem?_modify, if_neg (Nat.ne_of_gt hx)]
        exact alloc_old w.drew _ x hx
      have hsz2 : w.heap.size ≤ w2.heap.size := by
        show w.heap.size ≤ ((if (1 : Nat) = 0 then w1 else _).heap).size
        rw [if_neg (by decide)]
        simp only [Array.size_modify]
        show w.heap.size ≤ (w.drew.alloc _).heap.size
        simp
      have hrun : (convert src dst (.string s)).run P w = .ok (.slice (some ⟨w.heap.size, 0, none⟩) s.size (grownCap w s.size 0 e)) w2 := by
        simp only [convert, Sem.run_bind, run_underlying hs, run_underlying hd, run_underlying he, Result.andThen_ok, Conv.stringToBytes, run_choose, Question.forced, Bool.false_eq_true, if_false, newRow, run_newObj, Sem.run_pure, markStringish, run_shape]
        have hsh : w1.shape? w.heap.size = some (e, C.size) := by simp only [World.shape?, hw1]
        change ((match w1.shape? w.heap.size with | some (_, n) => freeze { block := w.heap.size, off := n } 1 | _ => pure () : Sem Unit).run P w1).andThen _ = _
        rw [hsh]
        rfl
      have hlen : (s.data.toList.map ofByte).length = s.size := by simp
      have hcap := grownCap_ge w s.size 0 e
      have hss : s.data.size = s.size := rfl
      have hCs : C.size = grownCap w s.size 0 e := by
        show (s.data.map _ ++ Array.replicate _ _ : Array Value).size = _
        simp only [Array.size_append, Array.size_map, Array.size_replicate]
        omega
      have hrow : RowD μ 1 (s.data.toList.map ofByte) C := by
        refine ⟨fun x hx => ?_, fun i x j c hx hc => ?_⟩
        · obtain ⟨b, _, hb⟩ := List.mem_map.1 hx
          rw [← hb]; rfl
        · simp only [List.getElem?_map, Option.map_eq_some_iff] at hx
          obtain ⟨b, hb, hx⟩ := hx
          subst hx
          have hj0 : j = 0 := by
            have := (List.getElem?_eq_some_iff.1 hc).1
            simp [ofByte] at this; exact this
          subst hj0
          simp only [ofByte, List.getElem?_cons_zero, Option.some.injEq] at hc
          subst hc
          rw [Array.getElem?_toList] at hb
          obtain ⟨h1, h2⟩ := Array.getElem?_eq_some_iff.1 hb
          refine ⟨.int .u8 (b.toNat : Int), ?_, .v rfl⟩
          rw [show i * 1 + 0 = i by omega]
          show ((s.data.map _ ++ _ : Array Value))[i]? = _
          rw [Array.getElem?_append_left (by simpa using h1)]
          simp only [Array.getElem?_map, Array.getElem?_eq_getElem h1, Option.map_some, h2]
      have hs' := hsr.newW (w' := w2) hfr ⟨1, e, 1, false, s.data.toList.map ofByte⟩ C rfl rfl (by rw [hlen, hCs, Nat.mul_one]; exact hcap) hrow hold hsz2 rfl rfl rfl ⟨_, hw2, .inr ⟨rfl, Nat.le_refl _⟩⟩
      refine ⟨_, w2, _, hrun, grow_add hfr _ _ _ (fun _ => .inr (Nat.le_refl _)) (fun _ => hold) hsz2, ?_, hs'⟩
      have : (Value.slice (some ⟨w.heap.size, 0, none⟩) s.size (grownCap w s.size 0 e)) = .slice (some ⟨w.heap.size, 0, none⟩) (s.data.toList.map ofByte).length (grownCap w s.size 0 e) := by rw [hlen]
      rw [this]
      exact .c (.sl (rhoAdd_same ρ σ.length ⟨w.heap.size, C.size, 1, (s.data.toList.map ofByte).length, false⟩) rfl (.inl (by simp)) (by simp [cutN]) (by simp) (by rw [hlen]; exact hcap) (by rw [hCs]; simp))
    · cases h
  · rename_i a0 e hs hd
    split at h
    · rename_i xs he hx
      replace h := cond_some h
      obtain ⟨hb, h⟩ := h
      refine ⟨_, σ, h, Nat.le_refl _, ⟨[], by simp⟩, fun E μ ρ va w ha hsr _ => ?_⟩
      obtain ⟨nil, sz, A, c, news, hva, hv⟩ := sl_view hx ha hsr
      subst hva
      obtain ⟨hnews, hone⟩ := bytes_of hv.row hv.len hb
      refine ⟨.string ⟨(xs.map byteOf).toArray⟩, w, ρ, ?_, .refl _ _ _ _ _, .str _, hsr⟩
      have hc : (convert src dst (.slice A xs.length c)).run P w = (Conv.bytesToString (.slice A xs.length c)).run P w := run_convert_bytes_string w src dst e A xs.length c hs he hd
      rw [hc]
      cases A with
      | none =>
        have := (hv.hA rfl).1
        subst this
        simp only [Conv.bytesToString, Sem.run_pure]
        rfl
      | some ad =>
        have hll : xs.length * sz = xs.length := by
          by_cases e : xs = []
          · subst e; simp
          · rw [hone e, Nat.mul_one]
        have hload : (loadCells ad xs.length).run P w = .ok ((xs.map fun c => avInt (cellAt c 0)).map (Value.int .u8)).toArray w := by
          have := run_loadCells_list (P := P) w ad news (hv.cell ad rfl)
          rw [hv.len, hll, hnews] at this
          exact this
        rw [run_bytesToString w ad xs.length c _ hload, foldl_push]
        congr 2
        simp only [List.map_map]
        congr 1
        apply Array.ext'
        simp only [Array.toList_append]
        rfl
    · cases h
  · cases h
theorem freeze_heap (w : World) (a : Addr) : ∃ G : Obj → Obj, w.freeze a 1 = { w with heap := w.heap.modify a.block G } ∧ ∀ c e lo hi, G (.cells c e (lo, hi)) = .cells c e (if lo == hi then (a.off, a.off + 1) else (min lo a.off, max hi (a.off + 1))) :=
  Exists.intro _ (And.intro (if_neg (by decide)) (fun _ _ _ _ => rfl))
theorem SR.marked {E : Env} {μ : Mu} {ρ : Rho} {w : World} (h : SR E μ ρ σ w) {l : Nat} {rb : RB} {k : Blk} (hl : ρ l = some rb) (hk : σ[l]? = some k) (hm : k.mode = 1) (ho : k.obj = false) (hs1 : k.sz = 1) (hp : rb.ph = false) :
    ∃ w', (markStringish ⟨rb.b, 0, none⟩).run P w = .ok () w' ∧ SR E μ ρ σ w' ∧ w.heap.size ≤ w'.heap.size := by
  have hb := h.blk l rb k hl hk (by omega)
  obtain ⟨c0, hc0⟩ := hb.live hp
  obtain ⟨fz, hg, hfz, hmu⟩ : ∃ fz, w.heap[rb.b]? = some (.cells c0 k.ty fz) ∧ OkFz (fxB k.obj k.sz) c0.size fz ∧ μ rb.b = none := by
    rcases hc0.at_ with ⟨_, ⟨fz, h1, h2⟩, h3⟩ | ⟨h3, _⟩
    · exact ⟨fz, h1, h2, h3⟩
    · omega
  let w' := w.freeze { block := rb.b, off := c0.size } 1
  have hrun : (markStringish ⟨rb.b, 0, none⟩).run P w = .ok () w' := by
    simp only [markStringish, Sem.run_bind, run_shape, Result.andThen_ok]
    have hsh : w.shape? rb.b = some (k.ty, c0.size) := by simp only [World.shape?, hg]
    rw [hsh]
    rfl
  obtain ⟨G, hw, hG⟩ := freeze_heap w { block := rb.b, off := c0.size }
  replace hw : w' = { w with heap := w.heap.modify rb.b G } := hw
  have hsz : w'.heap.size = w.heap.size := by rw [hw]; simp
  have hne : ∀ b, b ≠ rb.b → w'.heap[b]? = w.heap[b]? := fun b hb => by
    rw [hw]
    simp only [Array.getElem?_modify, if_neg (Ne.symm hb)]
  have hhas : Has w' rb.b c0 k.ty (fxB k.obj k.sz) := by
    obtain ⟨lo, hi⟩ := fz
    refine ⟨if lo == hi then (c0.size, c0.size + 1) else (min lo c0.size, max hi (c0.size + 1)), ?_, .inr ⟨by rw [fxB, ho, hs1]; rfl, ?_⟩⟩
    · rw [hw]
      simp only [Array.getElem?_modify, if_true, hg, Option.map_some, hG]
    · rcases hfz with h0 | ⟨_, h1⟩
      · simp only [Prod.mk.injEq] at h0
        obtain ⟨e1, e2⟩ := h0; subst e1; subst e2
        exact Nat.le_refl _
      · split
        · exact Nat.le_refl _
        · show c0.size ≤ min lo c0.size
          simp only at h1
          omega
  have h1 := h.kill l { k with mode := 0 } rfl
  have hother : ∀ m rb' k1, m ≠ l → ρ m = some rb' → (σ.set l { k with mode := 0 })[m]? = some k1 → k1.mode = 1 → rb'.ph = false → rb'.b ≠ rb.b := fun m rb' k1 hne hm' hk1 hm1 hp1 he => by
    rcases get_set hk1 with ⟨e, _⟩ | ⟨_, hk1⟩
    · exact hne e
    · exact hne (h.inj m l rb' rb k1 k hm' hl hk1 hk hm1 hm hp1 hp he)
  have h2 : SR E μ ρ (σ.set l { k with mode := 0 }) w' := by
    refine h1.moved (by rw [hw]) (by rw [hw]) (by rw [hw]) (by rw [hsz]; exact Nat.le_refl _) fun b hb => ?_
    by_cases e : b = rb.b
    · refine .inr ⟨e ▸ h.ownD l rb k hl hk hm hp, e ▸ hmu, fun m rb' k1 hm' hk1 hm1 hp1 he => ?_⟩
      rcases get_set hk1 with ⟨_, e2⟩ | ⟨hne, hk1'⟩
      · subst e2; cases hm1
      · exact hother m rb' k1 hne hm' hk1 hm1 hp1 (he.trans e)
    · exact .inl (hne b e)
  have h3 := h2.revive l k rb hl ⟨hb.sz, hb.n, hb.fit, hb.ph, hb.one, fun _ => ⟨c0, hc0.size, hc0.rowD, hc0.rowO, .inl ⟨hm, hhas, hmu⟩⟩⟩
    fun _ _ => ⟨h.ownD l rb k hl hk hm hp, hother⟩
  have hset : (σ.set l { k with mode := 0 }).set l k = σ := by
    rw [List.set_set]
    exact List.ext_getElem? fun i => by
      rw [List.getElem?_set]
      split
      · rename_i e; subst e
        split
        · exact hk.symm
        · rename_i hlt; exact absurd (List.getElem?_eq_some_iff.1 hk).1 hlt
      · rfl
  rw [hset] at h3
  exact ⟨w', hrun, h3, by rw [hsz]; exact Nat.le_refl _⟩
theorem evMark_sound {R : Type} {K : AV → Store → Option R} {r : R} {src dst : TypeId} {a : AV} (h : evMark P σ K src dst a = some r) (hsl : slsl P src dst = true) :
    ∃ av, K av σ = some r ∧ ∀ (E : Env) (μ : Mu) (ρ : Rho) (va : Value) (w : World), VR μ ρ a va → SR E μ ρ σ w →
      ∃ v w', (convert src dst va).run P w = .ok v w' ∧ VR μ ρ av v ∧ SR E μ ρ σ w' ∧ w.heap.size ≤ w'.heap.size := by
  unfold evMark at h
  split at h
  · rename_i e l off cut hd
    split at h
    · rename_i b he hb
      obtain ⟨hc, h⟩ := cond_some h
      simp only [Bool.and_eq_true, Bool.not_eq_true'] at hc
      obtain ⟨⟨⟨⟨h1, h2⟩, h3⟩, h4⟩, h5⟩ := hc
      have e1 : src = dst := Nat.eq_of_beq_eq_true h1
      have e2 := Nat.eq_of_beq_eq_true h2
      have e3 : off = 0 := Nat.eq_of_beq_eq_true h4
      subst e3
      refine ⟨_, h, fun E μ ρ va w ha hsr => ?_⟩
      subst e1
      have hcr := ha.cell rfl
      cases hcr with
      | d hx => cases hx
      | @sl _ _ _ rb ad len cap hl hp hA hlen hoff hcap hcsz =>
        have hA' : ad = ⟨rb.b, 0, none⟩ := by
          rcases hA with h | h
          · rw [h]; simp
          · omega
        subst hA'
        obtain ⟨w', r1, r2, r3⟩ := hsr.marked (P := P) hl hb e2 h3 (Nat.eq_of_beq_eq_true h5) hp
        refine ⟨_, w', ?_, ha, r2, r3⟩
        simp only [convert, Sem.run_bind, run_underlying hd, run_underlying he, Result.andThen_ok, beq_self_eq_true, r1, Sem.run_pure]
    · cases h
  · cases h
end
end Go.Ev
namespace Go.Ev
variable [Gl]
theorem chunks_get (sz : Nat) : ∀ (n : Nat) (cs : List AV) (i : Nat), i < n → (chunks sz n cs)[i]? = some ((cs.drop (i * sz)).take sz)
  | 0, _, i, h => absurd h (Nat.not_lt_zero i)
  | n + 1, cs, 0, _ => by simp [chunks]
  | n + 1, cs, i + 1, h => by
    simp only [chunks, List.getElem?_cons_succ]
    rw [chunks_get sz n (cs.drop sz) i (by omega), List.drop_drop, show sz + i * sz = (i + 1) * sz by rw [Nat.add_mul, Nat.one_mul, Nat.add_comm]]
theorem chunks_len (sz : Nat) : ∀ (n : Nat) (cs : List AV), (chunks sz n cs).length = n
  | 0, _ => rfl
  | n + 1, cs => by simp [chunks, chunks_len sz n]
theorem flat_get {α : Type} (z : List α) : ∀ (n i j : Nat), i < n → j < z.length → ((List.replicate n z).flatten)[i * z.length + j]? = z[j]?
  | 0, i, j, h, _ => absurd h (Nat.not_lt_zero i)
  | n + 1, 0, j, _, hj => by
    simp only [List.replicate_succ, List.flatten_cons, Nat.zero_mul, Nat.zero_add]
    rw [List.getElem?_append_left hj]
  | n + 1, i + 1, j, h, hj => by
    simp only [List.replicate_succ, List.flatten_cons]
    rw [List.getElem?_append_right (by rw [Nat.add_mul, Nat.one_mul]; omega), show (i + 1) * z.length + j - z.length = i * z.length + j by rw [Nat.add_mul, Nat.one_mul]; omega]
    exact flat_get z n i j (by omega) hj
section
variable {P : Program} {E : Env} {μ : Mu} {ρ : Rho} {σ : Store} {w : World}
theorem CRs.append {cs ds : List AV} {vs us : List Value} (h : CRs μ ρ cs vs) (k : CRs μ ρ ds us) : CRs μ ρ (cs ++ ds) (vs ++ us) := by
  refine ⟨by simp [h.1, k.1], fun q u v hu hv => ?_⟩
  rcases Nat.lt_or_ge q cs.length with hq | hq
  · rw [List.getElem?_append_left hq] at hu
    rw [List.getElem?_append_left (by rw [h.1]; exact hq)] at hv
    exact h.2 q u v hu hv
  · rw [List.getElem?_append_right hq] at hu
    rw [List.getElem?_append_right (by rw [h.1]; exact hq), h.1] at hv
    exact k.2 _ u v hu hv
theorem CRs.nil : CRs μ ρ [] [] := ⟨rfl, fun k u v hu => by simp at hu⟩
theorem CRs.flat {cs : List AV} {vs : List Value} (h : CRs μ ρ cs vs) : ∀ n, CRs μ ρ (List.replicate n cs).flatten (List.replicate n vs).flatten
  | 0 => .nil
  | n + 1 => by simp only [List.replicate_succ, List.flatten_cons]; exact h.append (CRs.flat h n)
theorem CRs.cons {c : AV} {v : Value} {cs : List AV} {vs : List Value} (h : CR μ ρ c v) (k : CRs μ ρ cs vs) : CRs μ ρ (c :: cs) (v :: vs) := by
  refine ⟨by simp [k.1], fun q u x hu hx => ?_⟩
  cases q with
  | zero => simp at hu hx; subst hu; subst hx; exact h
  | succ q => exact k.2 q u x (by simpa using hu) (by simpa using hx)
theorem CRs.one {cs : List AV} {vs : List Value} (h : CRs μ ρ cs vs) : ∀ v ∈ vs, v.oneCell' = true := by
  intro v hv
  obtain ⟨j, hj, e⟩ := List.getElem_of_mem hv
  have hj' : j < cs.length := by rw [← h.1]; exact hj
  exact e ▸ (h.2 j _ _ (List.getElem?_eq_getElem hj') (List.getElem?_eq_getElem hj)).one
theorem zeros_sound : ∀ (ks : List CK) (cs : List Value) {σ σ' : Store} {r : List AV} {ρ : Rho} {m : Nat}, zeros P ks cs σ = some (r, σ') → SR E μ ρ σ w → FreshTo ρ σ.length m → σ'.length ≤ m →
    ∃ ρ', Grow true μ ρ σ.length w μ ρ' σ'.length w ∧ CRs μ ρ' r cs ∧ SR E μ ρ' σ' w
  | [], [], σ, σ', r, ρ, m, h, hs, hf, hm => by
    simp only [zeros, Option.some.injEq, Prod.mk.injEq] at h
    obtain ⟨h1, h2⟩ := h; subst h1; subst h2
    exact ⟨ρ, .refl _ _ _ _ _, .nil, hs⟩
  | [], _ :: _, _, _, _, _, _, h, _, _, _ => by simp [zeros] at h
  | _ :: _, [], _, _, _, _, _, h, _, _, _ => by simp [zeros] at h
  | k :: ks, c :: cs, σ, σ', r, ρ, m, h, hs, hf, hm => by
    simp only [zeros] at h
    split at h
    · rename_i e sz
      split at h
      · cases h
      · rename_i r1 σ1 h1
        simp only [Option.some.injEq, Prod.mk.injEq] at h
        obtain ⟨e1, e2⟩ := h; subst e1; subst e2
        have hlen : (phantom P σ e).2.length = σ.length + 1 := by simp [phantom]
        have hmono : ∀ (ks : List CK) (cs : List Value) (σ σ' : Store) (r : List AV), zeros P ks cs σ = some (r, σ') → σ.length ≤ σ'.length := by
          intro ks
          induction ks with
          | nil => intro cs σ σ' r h; cases cs <;> simp [zeros] at h; rw [h.2]; exact Nat.le_refl _
          | cons k ks ih =>
            intro cs σ σ' r h
            cases cs with
            | nil => simp [zeros] at h
            | cons c cs =>
              simp only [zeros] at h
              split at h
              · split at h
                · cases h
                · rename_i h1
                  simp only [Option.some.injEq, Prod.mk.injEq] at h
                  have := ih _ _ _ _ h1
                  simp [phantom] at this
                  rw [← h.2]; omega
              · cases h
              · cases h
              · have h := (cond_some' h).2
                split at h
                · cases h
                · rename_i h1
                  simp only [Option.some.injEq, Prod.mk.injEq] at h
                  have := ih _ _ _ _ h1
                  rw [← h.2]; exact this
        have hle := hmono _ _ _ _ _ h1
        have hfr : Fresh ρ σ := hf.fresh (by omega)
        obtain ⟨hr, hs1⟩ := hs.phantom hfr e (P.cellsOf e)
        have g1 : Grow true μ ρ σ.length w μ (rhoAdd ρ σ.length ⟨0, 0, P.cellsOf e, 0, true⟩) (phantom P σ e).2.length w := grow_add hfr _ _ w (fun _ => .inl rfl) (fun _ _ _ => rfl) (Nat.le_refl _)
        obtain ⟨ρ', g2, hc, hs2⟩ := zeros_sound ks cs h1 hs1 (hf.grow g1) hm
        refine ⟨ρ', g1.trans g2, .cons ?_ hc, hs2⟩
        have hl := g2.rho _ _ (rhoAdd_same ρ σ.length ⟨0, 0, P.cellsOf e, 0, true⟩)
        exact .sln hl rfl rfl (fun n hn => by cases hn)
    · cases h
    · cases h
    · replace h := cond_some' h
      obtain ⟨hk, h⟩ := h
      simp only [Bool.not_eq_false'] at hk
      split at h
      · cases h
      · rename_i r1 σ1 h1
        simp only [Option.some.injEq, Prod.mk.injEq] at h
        obtain ⟨e1, e2⟩ := h; subst e1; subst e2
        obtain ⟨ρ', g2, hc, hs2⟩ := zeros_sound ks cs h1 hs hf hm
        exact ⟨ρ', g2, .cons (.d (.v hk)) hc, hs2⟩
theorem zeros_app : ∀ (ks : List CK) (cs : List Value) {σ σ' : Store} {r : List AV}, zeros P ks cs σ = some (r, σ') → ∃ τ, σ' = σ ++ τ
  | [], [], σ, σ', r, h => by simp [zeros] at h; exact ⟨[], by simp [h.2]⟩
  | [], _ :: _, _, _, _, h => by simp [zeros] at h
  | _ :: _, [], _, _, _, h => by simp [zeros] at h
  | k :: ks, c :: cs, σ, σ', r, h => by
    simp only [zeros] at h
    split at h
    · split at h
      · cases h
      · rename_i h1
        simp only [Option.some.injEq, Prod.mk.injEq] at h
        obtain ⟨τ, ht⟩ := zeros_app ks cs h1
        rw [← h.2, ht]
        exact ⟨_, by simp only [phantom, List.append_assoc]; rfl⟩
    · cases h
    · cases h
    · have h := (cond_some' h).2
      split at h
      · cases h
      · rename_i h1
        simp only [Option.some.injEq, Prod.mk.injEq] at h
        rw [← h.2]
        exact zeros_app ks cs h1
theorem zeroOf_spec {t : TypeId} {r : List AV} {σ' : Store} (h : zeroOf P t σ = some (r, σ')) : ∃ i z, P.info? t = some i ∧ i.zero = some z ∧ zeros P (cks P t) z.cells.toList σ = some (r, σ') := by
  unfold zeroOf at h
  split at h
  · cases h
  · rename_i z hz
    cases hi : P.info? t with
    | none => simp [hi] at hz
    | some i =>
      rw [hi] at hz
      exact ⟨i, z, rfl, hz, h⟩
theorem VR.cells {a : AV} {v : Value} {cs : List AV} (h : VR μ ρ a v) (hc : cells a = some cs) : CRs μ ρ cs v.cells.toList := by
  unfold Go.Ev.cells at hc
  split at hc
  · injection hc with hc; subst hc
    cases h with
    | c hx => cases hx with | d hd => cases hd
    | agg hx => exact hx
  · replace hc := cond_some hc
    obtain ⟨hk, hc⟩ := hc
    injection hc with hc; subst hc
    have hx := h.cell hk
    have : v.cells = #[v] := by have := hx.one; cases v <;> first | rfl | cases this
    rw [this]
    exact .cons hx .nil
theorem plain_row {cs : List AV} {vs : List Value} (h : CRs μ ρ cs vs) (hp : cs.all isV = true) : RowD μ 1 (cs.map fun c => [c]) vs.toArray := by
  refine ⟨fun e he => ?_, fun i e j c he hc => ?_⟩
  · obtain ⟨c, _, hc⟩ := List.mem_map.1 he; rw [← hc]; rfl
  · simp only [List.getElem?_map, Option.map_eq_some_iff] at he
    obtain ⟨c', hc', e1⟩ := he
    subst e1
    have hj : j = 0 := by have := (List.getElem?_eq_some_iff.1 hc).1; simpa using this
    subst hj
    simp at hc; subst hc
    have hlt : i < vs.length := by rw [h.1]; exact (List.getElem?_eq_some_iff.1 hc').1
    refine ⟨vs[i], by simp [hlt], ?_⟩
    have h1 := h.2 i c' _ hc' (List.getElem?_eq_getElem hlt)
    have h2 := List.all_eq_true.1 hp c' (List.mem_of_getElem? hc')
    cases c' with
    | v x => cases h1 with | d hd => exact hd
    | _ => cases h2
theorem newBox_sound {R : Type} {K : AV → Store → Option R} {r : R} {t : TypeId} {cs : List AV} (h : newBox P σ K t cs = some r) :
    ∃ av k, K av (σ ++ [k]) = some r ∧ ∀ (E : Env) (μ : Mu) (ρ : Rho) (vs : List Value) (w : World), CRs μ ρ cs vs → SR E μ ρ σ w → FreshTo ρ σ.length (σ ++ [k]).length →
      ∃ ρ', Grow true μ ρ σ.length w μ ρ' (σ ++ [k]).length (w.alloc (.cells vs.toArray t)) ∧ VR μ ρ' av (.pointer (some ⟨w.heap.size, 0, none⟩)) ∧ SR E μ ρ' (σ ++ [k]) (w.alloc (.cells vs.toArray t)) := by
  have obj : K (.ptr σ.length 0 0) (σ ++ [⟨1, t, cs.length, true, [cs]⟩]) = some r → ∃ av k, K av (σ ++ [k]) = some r ∧ ∀ (E : Env) (μ : Mu) (ρ : Rho) (vs : List Value) (w : World), CRs μ ρ cs vs → SR E μ ρ σ w → FreshTo ρ σ.length (σ ++ [k]).length →
      ∃ ρ', Grow true μ ρ σ.length w μ ρ' (σ ++ [k]).length (w.alloc (.cells vs.toArray t)) ∧ VR μ ρ' av (.pointer (some ⟨w.heap.size, 0, none⟩)) ∧ SR E μ ρ' (σ ++ [k]) (w.alloc (.cells vs.toArray t)) := fun hk => by
    refine ⟨_, _, hk, fun E μ ρ vs w hc hs hf => ?_⟩
    have hfr : Fresh ρ σ := hf.fresh (by simp)
    obtain ⟨_, hs'⟩ := hs.new hfr ⟨1, t, cs.length, true, [cs]⟩ vs.toArray rfl (by simp [hc.1]) (fun _ => ⟨rfl, by simp [hc.1]⟩) (fun e => by cases e) (fun _ => ⟨fun e he => by simp at he; rw [he], fun i e j c he hc' => by
      have hi : i = 0 := by have := (List.getElem?_eq_some_iff.1 he).1; simpa using this
      subst hi
      simp at he; subst he
      have hlt : j < vs.length := by rw [hc.1]; exact (List.getElem?_eq_some_iff.1 hc').1
      exact ⟨vs[j], by simp [hlt], hc.2 j c _ hc' (List.getElem?_eq_getElem hlt)⟩⟩)
    refine ⟨_, grow_add hfr _ _ _ (fun _ => .inr (Nat.le_refl _)) (fun _ b hb => alloc_old w _ b hb) (by simp), ?_, hs'⟩
    have := CR.ptr (μ := μ) (l := σ.length) (i := 0) (j := 0) (rhoAdd_same ρ σ.length ⟨w.heap.size, vs.toArray.size, cs.length, 1, false⟩) rfl
    simp only [Nat.zero_mul, Nat.add_zero] at this
    exact .c this
  unfold newBox at h
  split at h
  · rename_i n e hu
    cases hn : Nat.ble n 16 with
    | true => rw [hn] at h; exact obj h
    | false =>
      rw [hn] at h
      simp only [cond_false] at h
      replace h := cond_some h
      obtain ⟨hp, h⟩ := h
      simp only [Bool.and_eq_true] at hp
      refine ⟨_, _, h, fun E μ ρ vs w hc hs hf => ?_⟩
      have hfr : Fresh ρ σ := hf.fresh (by simp)
      obtain ⟨_, hs'⟩ := hs.new hfr ⟨1, t, 1, false, cs.map fun c => [c]⟩ vs.toArray rfl (by simp [hc.1]) (fun e => by cases e) (fun _ => plain_row hc hp.2) (fun e => by cases e)
      refine ⟨_, grow_add hfr _ _ _ (fun _ => .inr (Nat.le_refl _)) (fun _ b hb => alloc_old w _ b hb) (by simp), ?_, hs'⟩
      have := CR.ptr (μ := μ) (l := σ.length) (i := 0) (j := 0) (rhoAdd_same ρ σ.length ⟨w.heap.size, vs.toArray.size, 1, (cs.map fun c => [c]).length, false⟩) rfl
      simp only [Nat.zero_mul, Nat.add_zero] at this
      exact .c this
  · exact obj h
theorem evAlloc_sound {R : Type} {K : AV → Store → Option R} {r : R} {t : TypeId} (h : evAlloc P σ K t = some r) :
    ∃ av τ, K av (σ ++ τ) = some r ∧ ∀ (E : Env) (μ : Mu) (ρ : Rho) (w : World), SR E μ ρ σ w → FreshTo ρ σ.length (σ ++ τ).length →
      ∃ v w' ρ', (Instr.alloc t true (.tuple #[])).run P w = .ok v w' ∧ Grow true μ ρ σ.length w μ ρ' (σ ++ τ).length w' ∧ VR μ ρ' av v ∧ SR E μ ρ' (σ ++ τ) w' := by
  unfold evAlloc at h
  split at h
  · cases h
  · rename_i cs σ1 hz
    obtain ⟨i, z, hi, hzz, hzs⟩ := zeroOf_spec hz
    obtain ⟨τ, ht⟩ := zeros_app _ _ hzs
    obtain ⟨av, k, hk, hb⟩ := newBox_sound h
    subst ht
    rw [List.append_assoc] at hk
    refine ⟨av, τ ++ [k], hk, fun E μ ρ w hs hf => ?_⟩
    obtain ⟨ρ1, g1, hc, hs1⟩ := zeros_sound _ _ hzs hs hf (by simp)
    obtain ⟨ρ2, g2, hv, hs2⟩ := hb E μ ρ1 _ w hc hs1 (by rw [List.append_assoc]; exact hf.grow g1)
    rw [List.append_assoc] at g2 hs2
    refine ⟨_, _, ρ2, ?_, g1.trans g2, hv, hs2⟩
    simp only [Instr.alloc, Sem.run_bind, zeroValue, typeInfo, run_program, Result.andThen_ok, hi, Sem.run_pure, hzz, newVar, newRow, run_newObj]
    rfl
theorem evBox_sound {R : Type} {K : AV → Store → Option R} {r : R} {t : TypeId} {a : AV} (h : evBox P σ K t a = some r) :
    ∃ av τ, K av (σ ++ τ) = some r ∧ ∀ (E : Env) (μ : Mu) (ρ : Rho) (va : Value) (w : World), VR μ ρ a va → SR E μ ρ σ w → FreshTo ρ σ.length (σ ++ τ).length →
      ∃ v w' ρ', (Instr.box t va).run P w = .ok v w' ∧ Grow true μ ρ σ.length w μ ρ' (σ ++ τ).length w' ∧ VR μ ρ' av v ∧ SR E μ ρ' (σ ++ τ) w' := by
  unfold evBox at h
  split at h
  · cases h
  · rename_i cs hcs
    replace h := cond_some h
    obtain ⟨_, h⟩ := h
    obtain ⟨av, k, hk, hb⟩ := newBox_sound h
    refine ⟨av, [k], hk, fun E μ ρ va w ha hs hf => ?_⟩
    obtain ⟨ρ2, g2, hv, hs2⟩ := hb E μ ρ _ w (ha.cells hcs) hs hf
    refine ⟨_, _, ρ2, ?_, g2, hv, hs2⟩
    simp only [Instr.box, Sem.run_bind, newVar, newRow, run_newObj, Result.andThen_ok, Sem.run_pure]
    rfl
theorem fill_fold (off : Nat) : ∀ (p : List Value) (k : Nat) (cells : Array Value), off + k + p.length ≤ cells.size →
    (p.zipIdx k).foldl (fun cs (x : Value × Nat) => cs.setIfInBounds (off + x.2) x.1) cells = (cells.toList.take (off + k) ++ p ++ cells.toList.drop (off + k + p.length)).toArray
  | [], k, cells, h => by simp
  | c :: p, k, cells, h => by
    simp only [List.zipIdx_cons, List.foldl_cons]
    rw [fill_fold off p (k + 1) _ (by simp at h ⊢; omega)]
    congr 1
    have e := list_seg_step cells.toList (off + k) c p (by simp at h ⊢; omega)
    simpa [Array.toList_setIfInBounds, Nat.add_assoc] using e
theorem fill_sound {place place' : Nat → Option (Nat × Nat)} (hp : ∀ i p, place i = some p → place' i = some p) : ∀ (parts : List (Nat × AV)) (vparts : List (Nat × Value)) (cs cs' : List AV) (vs : List Value),
    parts.length = vparts.length → (∀ (q i : Nat) (a : AV), parts[q]? = some (i, a) → ∃ v : Value, vparts[q]? = some (i, v) ∧ VR μ ρ a v) → CRs μ ρ cs vs → fillAV place cs parts = some cs' →
    ∃ vs', Instr.fill place' vs.toArray vparts = some vs'.toArray ∧ CRs μ ρ cs' vs'
  | [], [], cs, cs', vs, _, _, hc, h => by
    simp only [fillAV, Option.some.injEq] at h
    subst h
    exact ⟨vs, rfl, hc⟩
  | [], _ :: _, _, _, _, hl, _, _, _ => by simp at hl
  | _ :: _, [], _, _, _, hl, _, _, _ => by simp at hl
  | (i, a) :: parts, (i', v) :: vparts, cs, cs', vs, hl, hv, hc, h => by
    obtain ⟨v0, h0, hva⟩ := hv 0 i a rfl
    simp only [List.getElem?_cons_zero, Option.some.injEq, Prod.mk.injEq] at h0
    obtain ⟨e1, e2⟩ := h0; subst e1; subst e2
    simp only [fillAV] at h
    split at h
    · cases h
    · rename_i off size hpl
      split at h
      · cases h
      · rename_i p hpc
        replace h := cond_some h
        obtain ⟨hb, h⟩ := h
        simp only [Bool.and_eq_true] at hb
        have h1 := Nat.eq_of_beq_eq_true hb.1
        have h2 := Nat.le_of_ble_eq_true hb.2
        have hpv := hva.cells hpc
        have hsz : v.cells.size = size := by rw [← h1, ← hpv.1]; simp
        have hvl := hc.1
        have hnew : CRs μ ρ (cs.take off ++ p ++ cs.drop (off + size)) (vs.take off ++ v.cells.toList ++ vs.drop (off + size)) := by
          refine .append (.append ?_ hpv) ?_
          · have := hc.sub 0 off; simpa using this
          · have := hc.sub (off + size) cs.length
            rwa [List.take_of_length_le (by simp), List.take_of_length_le (by simp [hvl])] at this
        obtain ⟨vs', hf, hc'⟩ := fill_sound hp parts vparts _ cs' _ (by simpa using hl) (fun q i a hq => hv (q + 1) i a (by simpa using hq)) hnew h
        refine ⟨vs', ?_, hc'⟩
        simp only [Instr.fill, hp _ _ hpl]
        rw [if_neg (by simp only [Bool.or_eq_true, decide_eq_true_eq, not_or]; refine ⟨by simpa using hsz, ?_⟩; simp [hsz, hvl]; omega)]
        have : v.cells.zipIdx.foldl (fun cs x => cs.setIfInBounds (off + x.snd) x.fst) vs.toArray = (vs.take off ++ v.cells.toList ++ vs.drop (off + size)).toArray := by
          rw [← Array.foldl_toList, Array.toList_zipIdx]
          have := fill_fold off v.cells.toList 0 vs.toArray (by simp [hsz, hvl]; omega)
          simpa [hsz] using this
        rw [this]
        exact hf
theorem placeOf_spec {t : TypeId} {i : Nat} {p : Nat × Nat} (h : placeOf P t i = some p) :
    (∃ fs fd, P.underlying t = some (.struct fs) ∧ fs[i]? = some fd ∧ p = (fd.offset, P.cellsOf fd.type)) ∨ (∃ n e, P.underlying t = some (.array n e) ∧ p = (i * P.cellsOf e, P.cellsOf e)) := by
  unfold placeOf at h
  split at h
  · rename_i fs hu
    simp only [Option.map_eq_some_iff] at h
    obtain ⟨fd, h1, h2⟩ := h
    exact .inl ⟨fs, fd, hu, h1, h2.symm⟩
  · rename_i n e hu
    have := (cond_some h).2
    injection this with this
    exact .inr ⟨n, e, hu, this.symm⟩
  · cases h
theorem fs_places : ∀ (fs : List Field), (fs.all fun f => (P.info? f.type).isSome) = true → fs.mapM (fun f => (P.info? f.type).map fun i => (f.offset, i.size)) = some (fs.map fun f => (f.offset, P.cellsOf f.type))
  | [], _ => rfl
  | f :: fs, h => by
    simp only [List.all_cons, Bool.and_eq_true] at h
    cases hi : P.info? f.type with
    | none => rw [hi] at h; cases h.1
    | some i => simp [List.mapM_cons, hi, fs_places fs h.2, Program.cellsOf]
theorem evBuild_sound {R : Type} {K : AV → Store → Option R} {r : R} {t : TypeId} {parts : List (Nat × AV)} (h : evBuild P σ K t parts = some r) :
    ∃ av τ, K av (σ ++ τ) = some r ∧ ∀ (E : Env) (μ : Mu) (ρ : Rho) (vparts : Array (Nat × Value)) (w : World), parts.length = vparts.size → (∀ (q i : Nat) (a : AV), parts[q]? = some (i, a) → ∃ v : Value, vparts.toList[q]? = some (i, v) ∧ VR μ ρ a v) →
      SR E μ ρ σ w → FreshTo ρ σ.length (σ ++ τ).length →
      ∃ v ρ', (Instr.build t vparts).run P w = .ok v w ∧ Grow true μ ρ σ.length w μ ρ' (σ ++ τ).length w ∧ VR μ ρ' av v ∧ SR E μ ρ' (σ ++ τ) w := by
  unfold evBuild at h
  replace h := cond_some' h
  obtain ⟨hok, h⟩ := h
  simp only [Bool.not_eq_false'] at hok
  split at h
  · cases h
  · rename_i cs σ1 hz
    obtain ⟨i, z, hi, hzz, hzs⟩ := zeroOf_spec hz
    obtain ⟨τ, ht⟩ := zeros_app _ _ hzs
    subst ht
    split at h
    · cases h
    · rename_i cs' hfill
      refine ⟨_, τ, h, fun E μ ρ vparts w hlen hparts hs hf => ?_⟩
      obtain ⟨ρ1, g1, hc, hs1⟩ := zeros_sound _ _ hzs hs hf (Nat.le_refl _)
      have hparts' : ∀ (q i : Nat) (a : AV), parts[q]? = some (i, a) → ∃ v : Value, vparts.toList[q]? = some (i, v) ∧ VR μ ρ1 a v := fun q i a hq => let ⟨v, h1, h2⟩ := hparts q i a hq; ⟨v, h1, h2.mono (MuLe.refl μ) g1.rho⟩
      unfold partsOk at hok
      split at hok
      · rename_i fs hu
        have hpl := fs_places fs.toList hok
        obtain ⟨vs', h1, h2⟩ := fill_sound (place' := ((fs.toList.map fun f => (f.offset, P.cellsOf f.type)).toArray[·]?)) (fun i p hp => by
          rcases placeOf_spec hp with ⟨fs', fd, e1, e2, e3⟩ | ⟨n, e, e1, _⟩
          · rw [hu] at e1; injection e1 with e1; injection e1 with e1; subst e1
            subst e3
            have : fs.toList[i]? = some fd := by rw [Array.getElem?_toList]; exact e2
            simp [this]
          · rw [hu] at e1; cases e1) parts vparts.toList cs cs' z.cells.toList (by simpa using hlen) hparts' hc hfill
        refine ⟨_, ρ1, run_build w t vparts vs'.toArray ?_, g1, .agg h2, hs1⟩
        simp only [Program.built, hi, hu, hzz, hpl]
        simpa using h1
      · rename_i n e hu
        cases hie : P.info? e with
        | none => rw [hie] at hok; cases hok
        | some ie =>
          have hce : P.cellsOf e = ie.size := by simp [Program.cellsOf, hie]
          obtain ⟨vs', h1, h2⟩ := fill_sound (place' := fun i => some (i * ie.size, ie.size)) (fun i p hp => by
            rcases placeOf_spec hp with ⟨fs', fd, e1, e2, e3⟩ | ⟨n', e', e1, e2⟩
            · rw [hu] at e1; cases e1
            · rw [hu] at e1; injection e1 with e1; injection e1 with _ e1; subst e1; rw [e2, hce]) parts vparts.toList cs cs' z.cells.toList (by simpa using hlen) hparts' hc hfill
          refine ⟨_, ρ1, run_build w t vparts vs'.toArray ?_, g1, .agg h2, hs1⟩
          simp only [Program.built, hi, hu, hzz, hie]
          simpa using h1
      · cases hok
end
end Go.Ev
namespace Go.Ev
variable [Gl]
section
variable {P : Program} {E : Env} {μ : Mu} {ρ : Rho} {σ : Store} {w : World}
theorem plain_data {cs : List AV} {vs : List Value} (h : CRs μ ρ cs vs) (hp : cs.all isV = true) : DRs μ cs vs := by
  refine ⟨h.1, fun k u v hu hv => ?_⟩
  have h1 := h.2 k u v hu hv
  have h2 := List.all_eq_true.1 hp u (List.mem_of_getElem? hu)
  cases u with
  | v x => cases h1 with | d hd => exact hd
  | _ => cases h2
theorem frzP_sound {e : TypeId} {cs cs' : List AV} {vs : List Value} {σ' : Store} (hs : SR E μ ρ σ w) (hv : CRs μ ρ cs vs) (h : frzP P e σ cs = some (cs', σ')) :
    ∃ μ', MuLe μ μ' ∧ SR E μ' ρ σ' w ∧ DRs μ' cs' vs ∧ σ'.length = σ.length ∧ cs'.length = cs.length ∧ (plainT P e = true → μ' = μ) := by
  unfold frzP at h
  cases hp : plainT P e with
  | true =>
    rw [hp] at h
    simp only [cond_true] at h
    obtain ⟨ha, h⟩ := cond_some h
    injection h with h; injection h with h1 h2; subst h1; subst h2
    exact ⟨μ, MuLe.refl μ, hs, plain_data hv ha, rfl, rfl, fun _ => rfl⟩
  | false =>
    rw [hp] at h
    obtain ⟨μ', h1, h2, h3, h4, h5⟩ := frzL_sound hs hv h
    exact ⟨μ', h1, h2, h3, h4, h5, fun e => (by cases e)⟩
theorem frzP_plain {e : TypeId} {cs cs' : List AV} {σ' : Store} (hp : plainT P e = true) (h : frzP P e σ cs = some (cs', σ')) : σ' = σ := by
  unfold frzP at h
  rw [hp] at h
  simp only [cond_true] at h
  obtain ⟨_, h⟩ := cond_some h
  injection h with h; injection h with _ h2; exact h2.symm
theorem frzL_len : ∀ (cs : List AV) (σ σ' : Store) (cs' : List AV), frzL σ cs = some (cs', σ') → σ'.length = σ.length := by
  intro cs
  induction cs with
  | nil => intro σ σ' cs' h; simp [frzL] at h; rw [h.2]
  | cons c cs ih =>
    intro σ σ' cs' h
    simp only [frzL] at h
    split at h
    · cases h
    · rename_i h1
      split at h
      · cases h
      · rename_i h2
        simp only [Option.some.injEq, Prod.mk.injEq] at h
        rw [← h.2, ih _ _ _ h2]
        unfold frz at h1
        split at h1
        · injection h1 with h1; injection h1 with _ h1; rw [← h1]
        · injection h1 with h1; injection h1 with _ h1; rw [← h1]
        · split at h1
          · cases h1
          · have h1 := (cond_some' h1).2
            injection h1 with h1; injection h1 with _ h1; rw [← h1]; simp
        · cases h1
theorem frzP_len {e : TypeId} {cs cs' : List AV} {σ σ' : Store} (h : frzP P e σ cs = some (cs', σ')) : σ'.length = σ.length := by
  cases hp : plainT P e with
  | true => rw [frzP_plain hp h]
  | false =>
    unfold frzP at h
    rw [hp] at h
    exact frzL_len _ _ _ _ h
def rowQ (P : Program) (t : TypeId) : Bool := match P.underlying t with | some (.slice e) => plainT P e | _ => false
theorem Grow.any {μ μ' : Mu} {ρ ρ' : Rho} {n n' : Nat} {w w' : World} (h : Grow true μ ρ n w μ' ρ' n' w') (q : Bool) : Grow q μ ρ n w μ' ρ' n' w' := by
  cases q with
  | true => exact h
  | false => exact h.loud
theorem grow_mu {q : Bool} {μ' : Mu} (h : MuLe μ μ') (hq : q = true → μ' = μ) (n : Nat) : Grow q μ ρ n w μ' ρ n w :=
  ⟨h, RhoLe.refl ρ, Nat.le_refl n, fun _ _ h => .inl h, fun _ _ _ => rfl, Nat.le_refl _, fun e b o hb => .inl (by rw [hq e] at hb; exact hb)⟩
theorem madeCells_get {z : Array Value} {n i : Nat} (hi : i < n) : (madeCells z n)[i]? = some (z[i % z.size]!) := by
  simp [madeCells, hi]
theorem idx_lt {i j n sz : Nat} (hi : i < n) (hj : j < sz) : i * sz + j < n * sz ∧ (i * sz + j) % sz = j := by
  refine ⟨?_, by rw [Nat.mul_comm, Nat.mul_add_mod, Nat.mod_eq_of_lt hj]⟩
  calc i * sz + j < i * sz + sz := by omega
    _ = (i + 1) * sz := by rw [Nat.add_mul, Nat.one_mul]
    _ ≤ n * sz := Nat.mul_le_mul_right _ hi
theorem newRow_sound {e : TypeId} {sz : Nat} {xs : List (List AV)} {cur : Array Value} {cap : Nat} (hs : SR E μ ρ σ w) (hf : Fresh ρ σ) (hr : RowD μ sz xs cur) (hc : cur.size = cap * sz) (hle : xs.length ≤ cap) :
    ∃ ρ', Grow true μ ρ σ.length w μ ρ' (σ ++ [(⟨1, e, sz, false, xs⟩ : Blk)]).length (w.alloc (.cells cur e)) ∧ VR μ ρ' (.sl false σ.length 0 none) (.slice (some ⟨w.heap.size, 0, none⟩) xs.length cap) ∧
      SR E μ ρ' (σ ++ [(⟨1, e, sz, false, xs⟩ : Blk)]) (w.alloc (.cells cur e)) := by
  obtain ⟨_, hs'⟩ := hs.new hf ⟨1, e, sz, false, xs⟩ cur rfl (by rw [hc]; exact Nat.mul_le_mul_right _ hle) (fun e => by cases e) (fun _ => hr) (fun e => by cases e)
  refine ⟨_, grow_add hf _ _ _ (fun _ => .inr (Nat.le_refl _)) (fun _ b hb => alloc_old w _ b hb) (by simp), ?_, hs'⟩
  exact .c (.sl (rhoAdd_same ρ σ.length ⟨w.heap.size, cur.size, sz, xs.length, false⟩) rfl (.inl (by simp)) (by simp [cutN]) (by simp) hle (by simp [hc]))
theorem evMakeSlice_sound {R : Type} {K : AV → Store → Option R} {r : R} {t : TypeId} {a b : AV} (h : evMakeSlice P σ K t a b = some r) :
    ∃ av σ', K av σ' = some r ∧ σ.length ≤ σ'.length ∧ (rowQ P t = true → ∃ τ, σ' = σ ++ τ) ∧ ∀ (E : Env) (μ : Mu) (ρ : Rho) (va vb : Value) (w : World), VR μ ρ a va → VR μ ρ b vb → SR E μ ρ σ w → FreshTo ρ σ.length σ'.length →
      ∃ v w' μ' ρ', (Instr.makeSlice t va vb).run P w = .ok v w' ∧ Grow (rowQ P t) μ ρ σ.length w μ' ρ' σ'.length w' ∧ VR μ' ρ' av v ∧ SR E μ' ρ' σ' w' := by
  unfold evMakeSlice at h
  split at h
  · rename_i e k n k' c hu
    split at h
    · cases h
    · rename_i z σ1 hz
      obtain ⟨i, z0, hi, hzz, hzs⟩ := zeroOf_spec hz
      obtain ⟨τ, ht⟩ := zeros_app _ _ hzs
      split at h
      · cases h
      · rename_i z' σ2 hfz
        replace h := cond_some h
        obtain ⟨hl, h⟩ := h
        simp only [Bool.and_eq_true] at hl
        have hlen := Nat.eq_of_beq_eq_true hl.1
        have hpos : 0 < P.cellsOf e := by simpa [Nat.blt_eq] using hl.2
        replace h := cond_some h
        obtain ⟨hr, h⟩ := h
        simp only [Bool.and_eq_true, decide_eq_true_eq] at hr
        obtain ⟨⟨⟨h0, hnc⟩, hby⟩, hc48⟩ := hr
        refine ⟨_, _, h, (by have := frzP_len hfz; rw [ht] at this; simp at this ⊢; omega), fun hp => ?_, fun E μ ρ va vb w ha hb hs hf => ?_⟩
        · rw [rowQ, hu] at hp
          rw [frzP_plain hp hfz, ht]
          exact ⟨_, by rw [List.append_assoc]⟩
        · have hrq : rowQ P t = plainT P e := by rw [rowQ, hu]
          rw [hrq]
          have := ha.v_eq; subst this
          have := hb.v_eq; subst this
          have hlen2 : σ1.length ≤ (σ2 ++ [(⟨1, e, P.cellsOf e, false, List.replicate n.toNat z'⟩ : Blk)]).length := by
            have := frzP_len hfz
            simp; omega
          obtain ⟨ρ1, g1, hzc, hs1⟩ := zeros_sound _ _ hzs hs hf hlen2
          obtain ⟨μ2, hle2, hs2, hd2, hn2, hn3, hmq⟩ := frzP_sound hs1 hzc hfz
          have g2 : Grow (plainT P e) μ ρ1 σ1.length w μ2 ρ1 σ2.length w := by rw [hn2]; exact grow_mu hle2 hmq _
          have hfr : Fresh ρ1 σ2 := (hf.grow ((g1.any _).trans g2)).fresh (by simp)
          have hci : P.cellsOf e = i.size := by simp [Program.cellsOf, hi]
          have hbi : P.bytesOf e = i.bytes := by simp [Program.bytesOf, hi]
          have hzl : z0.cells.size = P.cellsOf e := by have := hd2.1; simp only [Array.length_toList] at this; rw [this, hlen]
          have hrow : RowD μ2 (P.cellsOf e) (List.replicate n.toNat z') (madeCells z0.cells (c.toNat * i.size)) := by
            refine ⟨fun x hx => ?_, fun p x q u hx hu' => ?_⟩
            · rw [(List.mem_replicate.1 hx).2]; exact hlen
            · have hp : p < n.toNat := by have := (List.getElem?_eq_some_iff.1 hx).1; simpa using this
              have hxz : x = z' := by simp [List.getElem?_replicate, hp] at hx; exact hx.symm
              subst hxz
              have hq : q < P.cellsOf e := by rw [← hlen]; exact (List.getElem?_eq_some_iff.1 hu').1
              obtain ⟨h1, h2⟩ := idx_lt (n := c.toNat) (show p < c.toNat by omega) hq
              rw [hci] at h1 h2
              refine ⟨z0.cells[q]!, ?_, ?_⟩
              · rw [hci, madeCells_get h1, hzl, hci, h2]
              · have hq' : q < z0.cells.size := by omega
                refine hd2.2 q u _ hu' ?_
                rw [Array.getElem?_toList]; simp [hq']
          obtain ⟨ρ3, g3, hv3, hs3⟩ := newRow_sound (e := e) (cap := c.toNat) hs2 hfr hrow (by rw [size_madeCells, hci]) (by simp; omega)
          refine ⟨_, _, μ2, ρ3, run_make w t e i z0 hu hi hzz k k' n c h0 hnc ?_ (by omega), ((g1.any _).trans g2).trans (g3.any _), ?_, hs3⟩
          · rw [← hbi, Int.mul_comm]; exact hby
          · simpa using hv3
  · cases h
theorem made_flat {z : Array Value} {n : Nat} (hz : 0 < z.size) : madeCells z (n * z.size) = (List.replicate n z.toList).flatten.toArray := by
  apply Array.ext'
  apply List.ext_getElem?
  intro q
  have hlen : (List.replicate n z.toList).flatten.length = n * z.size := by simp [List.length_flatten]
  by_cases hq : q < n * z.size
  · obtain ⟨h1, h2, h3⟩ := div_lt hq
    rw [Array.getElem?_toList, madeCells_get hq]
    have := flat_get z.toList n (q / z.size) (q % z.size) h1 (by simpa using h2)
    rw [Array.length_toList, h3] at this
    rw [this]
    simp [h2]
  · rw [Array.getElem?_toList, Array.getElem?_eq_none (by rw [size_madeCells]; omega), List.getElem?_eq_none (by rw [show ((List.replicate n z.toList).flatten.toArray.toList) = (List.replicate n z.toList).flatten from rfl, hlen]; omega)]
theorem fillAV_len {place : Nat → Option (Nat × Nat)} : ∀ (parts : List (Nat × AV)) (cs cs' : List AV), fillAV place cs parts = some cs' → cs'.length = cs.length
  | [], cs, cs', h => by simp only [fillAV, Option.some.injEq] at h; rw [h]
  | (i, a) :: parts, cs, cs', h => by
    simp only [fillAV] at h
    split at h
    · cases h
    · rename_i off size _
      split at h
      · cases h
      · rename_i p _
        obtain ⟨hb, h⟩ := cond_some h
        simp only [Bool.and_eq_true] at hb
        have h1 := Nat.eq_of_beq_eq_true hb.1
        have h2 := Nat.le_of_ble_eq_true hb.2
        rw [fillAV_len parts _ _ h]
        simp; omega
theorem chunks_row {sz n : Nat} {cs : List AV} {vs : List Value} (h : DRs μ cs vs) (hl : cs.length = n * sz) : RowD μ sz (chunks sz n cs) vs.toArray := by
  have hi : ∀ (i : Nat) (e : List AV), (chunks sz n cs)[i]? = some e → i < n ∧ e = (cs.drop (i * sz)).take sz := fun i e he => by
    have hin : i < n := by have := (List.getElem?_eq_some_iff.1 he).1; rwa [chunks_len] at this
    rw [chunks_get sz n cs i hin] at he
    injection he with he
    exact ⟨hin, he.symm⟩
  have hel : ∀ (i : Nat) (e : List AV), (chunks sz n cs)[i]? = some e → e.length = sz := fun i e he => by
    obtain ⟨h1, h2⟩ := hi i e he
    have : (i + 1) * sz ≤ n * sz := Nat.mul_le_mul_right _ h1
    rw [Nat.add_mul, Nat.one_mul] at this
    rw [h2]; simp; omega
  refine ⟨fun e he => ?_, fun i e j c he hc => ?_⟩
  · obtain ⟨i, hi', e1⟩ := List.getElem_of_mem he
    exact hel i e (by rw [List.getElem?_eq_getElem hi', e1])
  · obtain ⟨h1, h2⟩ := hi i e he
    have hj : j < sz := by rw [← hel i e he]; exact (List.getElem?_eq_some_iff.1 hc).1
    subst h2
    rw [List.getElem?_take, if_pos hj, List.getElem?_drop] at hc
    obtain ⟨h3, _⟩ := idx_lt h1 hj
    have hlt : i * sz + j < vs.length := by rw [h.1, hl]; exact h3
    exact ⟨vs[i * sz + j], by simp [hlt], h.2 _ c _ hc (List.getElem?_eq_getElem hlt)⟩
theorem evBuildSlice_sound {R : Type} {K : AV → Store → Option R} {r : R} {t : TypeId} {n : Nat} {parts : List (Nat × AV)} (h : evBuildSlice P σ K t n parts = some r) :
    ∃ av σ', K av σ' = some r ∧ σ.length ≤ σ'.length ∧ (rowQ P t = true → ∃ τ, σ' = σ ++ τ) ∧ ∀ (E : Env) (μ : Mu) (ρ : Rho) (vparts : Array (Nat × Value)) (w : World), parts.length = vparts.size →
      (∀ (q i : Nat) (a : AV), parts[q]? = some (i, a) → ∃ v : Value, vparts.toList[q]? = some (i, v) ∧ VR μ ρ a v) → SR E μ ρ σ w → FreshTo ρ σ.length σ'.length →
      ∃ v w' μ' ρ', (Instr.buildSlice t n vparts).run P w = .ok v w' ∧ Grow (rowQ P t) μ ρ σ.length w μ' ρ' σ'.length w' ∧ VR μ' ρ' av v ∧ SR E μ' ρ' σ' w' := by
  unfold evBuildSlice at h
  split at h
  · rename_i e hu
    split at h
    · cases h
    · rename_i z σ1 hz
      obtain ⟨i, z0, hi, hzz, hzs⟩ := zeroOf_spec hz
      obtain ⟨τ, ht⟩ := zeros_app _ _ hzs
      split at h
      · cases h
      · rename_i cs hfill
        split at h
        · cases h
        · rename_i cs' σ2 hfz
          replace h := cond_some h
          obtain ⟨hl, h⟩ := h
          simp only [Bool.and_eq_true] at hl
          have hlen := Nat.eq_of_beq_eq_true hl.1.1
          have h24 := Nat.le_of_ble_eq_true hl.1.2
          have hpos : 0 < P.cellsOf e := by simpa [Nat.blt_eq] using hl.2
          refine ⟨_, _, h, (by have := frzP_len hfz; rw [ht] at this; simp at this ⊢; omega), fun hp => ?_, fun E μ ρ vparts w hpl hparts hs hf => ?_⟩
          · rw [rowQ, hu] at hp
            rw [frzP_plain hp hfz, ht]
            exact ⟨_, by rw [List.append_assoc]⟩
          · have hrq : rowQ P t = plainT P e := by rw [rowQ, hu]
            rw [hrq]
            have hln := frzP_len hfz
            obtain ⟨ρ1, g1, hzc, hs1⟩ := zeros_sound _ _ hzs hs hf (by simp; omega)
            have hparts' : ∀ (q i : Nat) (a : AV), parts[q]? = some (i, a) → ∃ v : Value, vparts.toList[q]? = some (i, v) ∧ VR μ ρ1 a v := fun q i a hq => let ⟨v, h1, h2⟩ := hparts q i a hq; ⟨v, h1, h2.mono (MuLe.refl μ) g1.rho⟩
            have hci : P.cellsOf e = i.size := by simp [Program.cellsOf, hi]
            have hzl : z0.cells.size = P.cellsOf e := by have := hzc.1; simp only [Array.length_toList] at this; rw [this, hlen]
            obtain ⟨vs', hfl, hc'⟩ := fill_sound (place' := fun j => some (j * i.size, i.size)) (fun j p hp => by
              cases hb : Nat.blt j n with
              | true => rw [hb] at hp; simp only [cond_true, Option.some.injEq] at hp; rw [← hp, hci]
              | false => rw [hb] at hp; cases hp) parts vparts.toList _ cs _ (by simpa using hpl) hparts' (hzc.flat n) hfill
            obtain ⟨μ2, hle2, hs2, hd2, hn2, hn3, hmq⟩ := frzP_sound hs1 hc' hfz
            have g2 : Grow (plainT P e) μ ρ1 σ1.length w μ2 ρ1 σ2.length w := by rw [hn2]; exact grow_mu hle2 hmq _
            have hfr : Fresh ρ1 σ2 := (hf.grow ((g1.any _).trans g2)).fresh (by simp)
            have hcl : cs'.length = n * P.cellsOf e := by rw [hn3, fillAV_len _ _ _ hfill]; simp [List.length_flatten, hlen]
            obtain ⟨ρ3, g3, hv3, hs3⟩ := newRow_sound (e := e) (cap := n) hs2 hfr (chunks_row hd2 hcl) (by simp [hd2.1, hcl]) (by rw [chunks_len]; exact Nat.le_refl _)
            rw [chunks_len] at hv3
            refine ⟨_, _, μ2, ρ3, ?_, ((g1.any _).trans g2).trans (g3.any _), hv3, hs3⟩
            have h24' : ¬ (n * i.size > 2 ^ 24) := by rw [← hci]; omega
            have hmade : (Array.range (n * i.size)).map (z0.cells[· % z0.cells.size]!) = (List.replicate n z0.cells.toList).flatten.toArray := by
              have := made_flat (z := z0.cells) (n := n) (by rw [hzl]; exact hpos)
              rw [hzl, hci] at this
              exact this
            simp only [Instr.buildSlice, Sem.run_bind, run_underlying hu, Result.andThen_ok, sizeOf, typeInfo, run_program, hi, Sem.run_pure, if_neg h24']
            by_cases hn0 : n * i.size = 0
            · have hnz : n = 0 := by
                rcases Nat.mul_eq_zero.1 hn0 with h | h
                · exact h
                · omega
              subst hnz
              simp only [List.replicate_zero, List.flatten_nil] at hfl
              have hr0 : ∀ f : Nat → Value, (Array.range 0).map f = ([] : List Value).toArray := fun f => by simp
              simp only [hn0, if_true, Sem.run_bind, Sem.run_pure, Result.andThen_ok, hr0]
              simp only [hfl, Sem.run_bind, newRow, run_newObj, Result.andThen_ok, Sem.run_pure]
              rfl
            · simp only [hn0, if_false, zeroValue, typeInfo, Sem.run_bind, run_program, Result.andThen_ok, hi, Sem.run_pure, hzz, hmade, hfl, newRow, run_newObj]
              rfl
  · cases h
end
end Go.Ev
namespace Go.Ev
variable [Gl]
theorem RowD.nil {μ : Mu} {sz : Nat} {cur : Array Value} : RowD μ sz [] cur := ⟨fun e he => (by cases he), fun i e j c he => (by simp at he)⟩
theorem RowD.app {μ : Mu} {sz : Nat} {xs ys : List (List AV)} {L1 L2 L3 : List Value} (h1 : RowD μ sz xs L1.toArray) (l1 : L1.length = xs.length * sz) (h2 : RowD μ sz ys L2.toArray) : RowD μ sz (xs ++ ys) (L1 ++ L2 ++ L3).toArray := by
  refine ⟨fun e he => ?_, fun i e j c he hc => ?_⟩
  · rcases List.mem_append.1 he with h | h
    · exact h1.1 e h
    · exact h2.1 e h
  · rcases Nat.lt_or_ge i xs.length with hi | hi
    · rw [List.getElem?_append_left hi] at he
      obtain ⟨u, h3, h4⟩ := h1.2 i e j c he hc
      refine ⟨u, ?_, h4⟩
      rw [List.getElem?_toArray] at h3 ⊢
      have hlt := (List.getElem?_eq_some_iff.1 h3).1
      rw [List.append_assoc, List.getElem?_append_left hlt]
      exact h3
    · rw [List.getElem?_append_right hi] at he
      obtain ⟨u, h3, h4⟩ := h2.2 _ e j c he hc
      refine ⟨u, ?_, h4⟩
      rw [List.getElem?_toArray] at h3 ⊢
      have hlt := (List.getElem?_eq_some_iff.1 h3).1
      have hij : L1.length ≤ i * sz + j := by rw [l1]; exact Nat.le_trans (Nat.mul_le_mul_right _ hi) (Nat.le_add_right _ _)
      have e1 : i * sz + j - L1.length = (i - xs.length) * sz + j := by
        rw [l1, Nat.mul_sub_right_distrib]
        have : xs.length * sz ≤ i * sz := Nat.mul_le_mul_right _ hi
        omega
      rw [List.append_assoc, List.getElem?_append_right hij, e1, List.getElem?_append_left hlt]
      exact h3
theorem RowD.take {μ : Mu} {sz : Nat} {xs : List (List AV)} {cur : Array Value} (h : RowD μ sz xs cur) (n : Nat) : RowD μ sz (xs.take n) (cur.toList.take (n * sz)).toArray := by
  refine ⟨fun e he => h.1 e (List.mem_of_mem_take he), fun i e j c he hc => ?_⟩
  rw [List.getElem?_take] at he
  split at he
  · rename_i hi
    obtain ⟨u, h1, h2⟩ := h.2 i e j c he hc
    have hj : j < sz := by rw [← h.1 e (List.mem_of_getElem? he)]; exact (List.getElem?_eq_some_iff.1 hc).1
    refine ⟨u, ?_, h2⟩
    rw [List.getElem?_toArray, List.getElem?_take, if_pos (idx_lt hi hj).1, Array.getElem?_toList]
    exact h1
  · cases he
theorem RowD.drop {μ : Mu} {sz : Nat} {xs : List (List AV)} {cur : Array Value} (h : RowD μ sz xs cur) (n : Nat) : RowD μ sz (xs.drop n) (cur.toList.drop (n * sz)).toArray := by
  refine ⟨fun e he => h.1 e (List.mem_of_mem_drop he), fun i e j c he hc => ?_⟩
  rw [List.getElem?_drop] at he
  obtain ⟨u, h1, h2⟩ := h.2 _ e j c he hc
  refine ⟨u, ?_, h2⟩
  rw [List.getElem?_toArray, List.getElem?_drop, Array.getElem?_toList, ← Nat.add_assoc, ← Nat.add_mul]
  exact h1
theorem RowD.take' {μ : Mu} {sz : Nat} {xs : List (List AV)} {L : List Value} (h : RowD μ sz xs L.toArray) (n : Nat) : RowD μ sz (xs.take n) (L.take (n * sz)).toArray := by
  have := h.take n; simpa using this
section
variable {P : Program} {E : Env} {μ : Mu} {ρ : Rho} {σ : Store} {w : World}
theorem app_view {a : AV} {ysz : Nat} {ys : List (List AV)} {v : Value} (h : appXs σ a = some (ysz, ys)) (hv : VR μ ρ a v) (hs : SR E μ ρ σ w) :
    ∃ news : List Value, (∀ w' : World, (Builtin.lenOf v).run P w' = .ok ys.length w') ∧ news.length = ys.length * ysz ∧ RowD μ ysz ys news.toArray ∧
      ∀ (size n : Nat) (w' : World), (size = ysz ∨ ys = []) → n ≤ ys.length → w'.heap = w.heap → (Builtin.firstCells size n v).run P w' = .ok (news.take (n * size)).toArray w' := by
  have slc : ∀ (nil : Bool) (A : Option Addr) (c : Nat) (news : List Value), v = .slice A ys.length c → SV μ w nil ysz ys A c news → ∃ news : List Value, (∀ w' : World, (Builtin.lenOf v).run P w' = .ok ys.length w') ∧ news.length = ys.length * ysz ∧ RowD μ ysz ys news.toArray ∧
      ∀ (size n : Nat) (w' : World), (size = ysz ∨ ys = []) → n ≤ ys.length → w'.heap = w.heap → (Builtin.firstCells size n v).run P w' = .ok (news.take (n * size)).toArray w' := fun nil A c news hva hsv => by
    subst hva
    refine ⟨news, fun w' => rfl, hsv.len, hsv.row, fun size n w' hsz hn hw => ?_⟩
    cases A with
    | none =>
      have hx := (hsv.hA rfl).1
      have : news = [] := List.eq_nil_of_length_eq_zero (by rw [hsv.len, hx]; simp)
      subst this
      simp [Builtin.firstCells]
    | some ad =>
      simp only [Builtin.firstCells]
      have hlen : (news.take (n * size)).length = n * size := by
        rw [List.length_take, hsv.len]
        rcases hsz with e | e
        · rw [e]; have := Nat.mul_le_mul_right ysz hn; omega
        · rw [e] at hn ⊢; simp at hn; simp [hn]
      have := run_loadCells_list (P := P) w' ad (news.take (n * size)) fun j u hu => ?_
      · rw [hlen] at this; exact this
      rw [List.getElem?_take] at hu
      split at hu
      · have := hsv.cell ad rfl j u hu
        unfold World.cell? at this ⊢
        rw [hw]; exact this
      · cases hu
  unfold appXs at h
  split at h
  · rename_i s
    injection h with h; injection h with h1 h2; subst h1; subst h2
    have := hv.v_eq; subst this
    refine ⟨s.data.toList.map fun b => .int .u8 b.toNat, fun w' => by simp [Builtin.lenOf], by simp, ⟨fun e he => ?_, fun i e j c he hc => ?_⟩, fun size n w' hsz hn hw => ?_⟩
    · obtain ⟨b, _, hb⟩ := List.mem_map.1 he; rw [← hb]; rfl
    · simp only [List.getElem?_map, Option.map_eq_some_iff] at he
      obtain ⟨b, hb, e1⟩ := he
      subst e1
      have hj : j = 0 := by have := (List.getElem?_eq_some_iff.1 hc).1; simp [ofByte] at this; exact this
      subst hj
      simp only [ofByte, List.getElem?_cons_zero, Option.some.injEq] at hc
      subst hc
      refine ⟨.int .u8 b.toNat, ?_, .v rfl⟩
      simp only [Nat.mul_one, Nat.add_zero, List.getElem?_toArray, List.getElem?_map, hb, Option.map_some]
    · have hnn : n * size = n := by
        rcases hsz with e | e
        · rw [e, Nat.mul_one]
        · rw [e] at hn; simp at hn; rw [hn]; simp
      rw [hnn]
      simp only [Builtin.firstCells, Sem.run_pure]
      congr 1
      apply Array.ext'
      simp [ByteArray.data_extract, List.extract_eq_take_drop, List.map_take]
  · injection h with h; injection h with h1 h2; subst h1; subst h2
    cases hv with
    | c hx => cases hx with
      | d hd =>
        obtain ⟨A, c, news, h1, h2⟩ := hd.view hs.imm
        exact slc _ A c news h1 h2
  · split at h
    · cases h
    · rename_i b hb
      replace h := cond_some' h
      obtain ⟨hm, h⟩ := h
      obtain ⟨hm, ho⟩ := blk_mode hm
      injection h with h; injection h with h1 h2; subst h1; subst h2
      cases hv with
      | c hx =>
        obtain ⟨A, c, news, h1, h2, _⟩ := hx.slView hs hb hm ho
        exact slc _ A c news h1 h2
  · cases h
theorem isSS_spec {d : TypeDesc} (h : isSS d = true) : d = .string ∨ ∃ e, d = .slice e := by
  cases d <;> first | exact .inl rfl | exact .inr ⟨_, rfl⟩ | cases h
theorem run_app_room {t u ty e : TypeId} {d : TypeDesc} {i : TypeInfo} (ht : P.underlying t = some (.slice e)) (hu : P.underlying u = some d) (hd : isSS d = true) (hi : P.info? e = some i)
    {base : Option Addr} {sLen sCap : Nat} {x : Value} {n : Nat} {news : List Value} {w' : World} (hlen : ∀ w : World, (Builtin.lenOf x).run P w = .ok n w) (hfirst : (Builtin.firstCells i.size n x).run P w = .ok news.toArray w) (hroom : sLen + n ≤ sCap)
    (hst : ((match base with | some a => storeCells (a.add (sLen * i.size)) news | none => pure ()) : Sem Unit).run P w = .ok () w') :
    (Builtin.append_ #[t, u] ty #[.slice base sLen sCap, x]).run P w = .ok (.slice base (sLen + n) sCap) w' := by
  rcases isSS_spec hd with rfl | ⟨e', rfl⟩ <;> cases base with
  | none =>
    simp only [Sem.run_pure, Result.ok.injEq, true_and] at hst; subst hst
    simp [Builtin.append_, run_underlying ht, run_underlying hu, sizeOf, typeInfo, hi, hlen, hroom, hfirst]
  | some a =>
    simp only at hst
    simp [Builtin.append_, run_underlying ht, run_underlying hu, sizeOf, typeInfo, hi, hlen, hroom, hfirst, hst]
theorem run_app_grow {t u ty e : TypeId} {d : TypeDesc} {i : TypeInfo} {z : Value} (ht : P.underlying t = some (.slice e)) (hu : P.underlying u = some d) (hd : isSS d = true) (hi : P.info? e = some i) (hz : i.zero = some z) (hby : 0 < i.bytes)
    {base : Option Addr} {sLen sCap : Nat} {x : Value} {n : Nat} {olds news : List Value} (hlen : ∀ w : World, (Builtin.lenOf x).run P w = .ok n w) (hfirst : (Builtin.firstCells i.size n x).run P w.drew = .ok news.toArray w.drew)
    (hold : (Builtin.firstCells i.size sLen (.slice base sLen sCap)).run P w.drew = .ok olds.toArray w.drew) (hg : sCap < sLen + n) (hb : (sLen + n) * i.bytes ≤ 140737488355328) :
    (Builtin.append_ #[t, u] ty #[.slice base sLen sCap, x]).run P w =
      .ok (.slice (some ⟨w.heap.size, 0, none⟩) (sLen + n) (grownCap w (sLen + n) sCap e)) (w.drew.alloc (.cells (olds ++ news ++ (Builtin.zeroCells z.cells (grownCap w (sLen + n) sCap e - (sLen + n))).toList).toArray e)) := by
  have hn : ¬ (sLen + n ≤ sCap) := by omega
  have h1 : sLen + n ≤ (sLen + n) * i.bytes := Nat.le_mul_of_pos_right _ hby
  have h63' : ¬ (9223372036854775807 < ((sLen : Int) + (n : Int))) := by omega
  have hfit := growslice_fits hg hb
  have h48' : ¬ (281474976710656 < Builtin.nextslicecap (sLen + n) sCap * i.bytes) := by omega
  rcases isSS_spec hd with rfl | ⟨e', rfl⟩ <;> simp [Builtin.append_, run_underlying ht, run_underlying hu, sizeOf, typeInfo, zeroValue, hi, hz, hlen, hn, h63', h48', Question.forced, hfirst, hold, newRow, grownCap]
  all_goals
    congr 2
    apply Array.ext'
    simp
end
end Go.Ev
namespace Go.Ev
variable [Gl]
section
variable {P : Program} {E : Env} {μ : Mu} {ρ : Rho} {σ : Store} {w : World}
theorem grown_sound {e : TypeId} {sz : Nat} {xs ys : List (List AV)} {olds news rest : List Value} {cap : Nat} (hs : SR E μ ρ σ w) (hf : Fresh ρ σ) (h1 : RowD μ sz xs olds.toArray) (l1 : olds.length = xs.length * sz) (h2 : RowD μ sz ys news.toArray)
    (hc : (olds ++ news ++ rest).length = cap * sz) (hle : (xs ++ ys).length ≤ cap) :
    ∃ ρ', Grow true μ ρ σ.length w μ ρ' (σ ++ [(⟨1, e, sz, false, xs ++ ys⟩ : Blk)]).length (w.drew.alloc (.cells (olds ++ news ++ rest).toArray e)) ∧
      VR μ ρ' (.sl false σ.length 0 none) (.slice (some ⟨w.heap.size, 0, none⟩) (xs ++ ys).length cap) ∧ SR E μ ρ' (σ ++ [(⟨1, e, sz, false, xs ++ ys⟩ : Blk)]) (w.drew.alloc (.cells (olds ++ news ++ rest).toArray e)) := by
  obtain ⟨ρ', g, hv, hs'⟩ := newRow_sound (e := e) (cap := cap) hs.drew hf (h1.app l1 h2 (L3 := rest)) (by simpa using hc) hle
  exact ⟨ρ', ⟨g.mu, g.rho, g.len, g.dom, g.keep, g.size, g.muq⟩, hv, hs'⟩
theorem SR.inplace {l : Nat} {rb : RB} {k : Blk} (h : SR E μ ρ σ w) (hf : Fresh ρ σ) (hl : ρ l = some rb) (hk : σ[l]? = some k) (hm : k.mode = 1) (hp : rb.ph = false) (k' : Blk) (cur' : Array Value) (h1 : k'.mode = 1) (hty : k'.ty = k.ty)
    (cur : Array Value) (hg : Has w rb.b cur k.ty (fxB false k.sz)) (hzz : k'.sz = k.sz) (hsz0 : cur'.size = cur.size) (hobj : k'.obj = false) (hr : RowD μ k'.sz k'.xs cur') (hfit : k'.xs.length * k'.sz ≤ cur'.size) :
    SR E μ (rhoAdd ρ σ.length ⟨rb.b, cur'.size, k'.sz, k'.xs.length, false⟩) (σ.set l { k with mode := 0 } ++ [k']) (w.setRow rb.b cur') := by
  have hb := h.blk l rb k hl hk (by omega)
  obtain ⟨c0, hc0⟩ := hb.live hp
  have hmu : μ rb.b = none := by
    rcases hc0.at_ with ⟨_, _, h3⟩ | ⟨h3, _⟩
    · exact h3
    · omega
  have h1' := (h.kill l { k with mode := 0 } rfl)
  have hother : ∀ m rb' k1, ρ m = some rb' → (σ.set l { k with mode := 0 })[m]? = some k1 → k1.mode = 1 → rb'.ph = false → rb'.b ≠ rb.b := fun m rb' k1 hm' hk1 hm1 hp1 he => by
    rcases get_set hk1 with ⟨_, e⟩ | ⟨hne, hk1⟩
    · subst e; cases hm1
    · exact hne (h.inj m l rb' rb k1 k hm' hl hk1 hk hm1 hm hp1 hp he)
  have h2 : SR E μ ρ (σ.set l { k with mode := 0 }) (w.setRow rb.b cur') := by
    refine h1'.moved rfl rfl rfl (by simp) fun b hb => ?_
    by_cases e : b = rb.b
    · exact .inr ⟨e ▸ h.ownD l rb k hl hk hm hp, e ▸ hmu, fun m rb' k1 hm' hk1 hm1 hp1 he => hother m rb' k1 hm' hk1 hm1 hp1 (he.trans e)⟩
    · exact .inl (setRow_other w rb.b b cur' e)
  have hlen : (σ.set l { k with mode := 0 }).length = σ.length := by simp
  have hf' : Fresh ρ (σ.set l { k with mode := 0 }) := by unfold Fresh; rw [hlen]; exact hf
  have h3 := h2.add hf' k' ⟨rb.b, cur'.size, k'.sz, k'.xs.length, false⟩ ⟨rfl, rfl, hfit, fun e => (by cases e), fun e => absurd e (by simp [hobj]), fun _ => ⟨cur', rfl, fun _ => hr, fun e => absurd e (by simp [hobj]), .inl ⟨h1, hg.imp fun fz hg => ⟨hty ▸ setRow_heap w rb.b cur cur' k.ty fz hg.1, by rw [hobj, hsz0, hzz]; exact hg.2⟩, hmu⟩⟩⟩
    fun _ _ => ⟨h.ownD l rb k hl hk hm hp, hother⟩
  rw [hlen] at h3
  exact h3.2
theorem zOk_spec {e : TypeId} (h : zOk P e = true) : ∃ i z, P.info? e = some i ∧ i.zero = some z ∧ z.cells.size = i.size := by
  unfold zOk at h
  split at h
  · cases h
  · rename_i z hz
    cases hi : P.info? e with
    | none => simp [hi] at hz
    | some i =>
      rw [hi] at hz
      have := Nat.eq_of_beq_eq_true h
      exact ⟨i, z, rfl, hz, by rw [this]; simp [Program.cellsOf, hi]⟩
theorem grow_set {q : Bool} (hf : Fresh ρ σ) {l : Nat} (k0 k : Blk) (rb : RB) (w' : World) (hq : q = true → rb.ph = true ∨ w.heap.size ≤ rb.b) (hk : q = true → ∀ b, b < w.heap.size → w'.heap[b]? = w.heap[b]?) (hz : w.heap.size ≤ w'.heap.size) :
    Grow q μ ρ σ.length w μ (rhoAdd ρ σ.length rb) (σ.set l k0 ++ [k]).length w' := by
  have := grow_add (μ := μ) (q := q) hf rb k w' hq hk hz
  simpa using this
theorem evAppend_sound {R : Type} {K : AV → Store → Option R} {r : R} {t t2 : TypeId} {s x : AV} (h : evAppend P σ K t t2 s x = some r) :
    ∃ av σ', K av σ' = some r ∧ σ.length ≤ σ'.length ∧ ∀ (E : Env) (μ : Mu) (ρ : Rho) (vs vx : Value) (ty : TypeId) (w : World), VR μ ρ s vs → VR μ ρ x vx → SR E μ ρ σ w → FreshTo ρ σ.length σ'.length →
      ∃ v w' ρ', (Builtin.append_ #[t, t2] ty #[vs, vx]).run P w = .ok v w' ∧ Grow false μ ρ σ.length w μ ρ' σ'.length w' ∧ VR μ ρ' av v ∧ SR E μ ρ' σ' w' := by
  unfold evAppend at h
  split at h
  · rename_i e d hu hu2
    replace h := cond_some' h
    obtain ⟨hc, h⟩ := h
    simp only [Bool.or_eq_false_iff, Bool.not_eq_false', Bool.and_eq_true] at hc
    obtain ⟨hd, ⟨hby, hpos⟩, hzo⟩ := hc
    have hby : 0 < P.bytesOf e := by simpa [Nat.blt_eq] using hby
    have hpos : 0 < P.cellsOf e := by simpa [Nat.blt_eq] using hpos
    obtain ⟨i, z, hi, hz, hzs⟩ := zOk_spec hzo
    have hci : P.cellsOf e = i.size := by simp [Program.cellsOf, hi]
    have hbi : P.bytesOf e = i.bytes := by simp [Program.bytesOf, hi]
    split at h
    · cases h
    · rename_i ysz ys hx
      replace h := cond_some' h
      obtain ⟨hysz, h⟩ := h
      simp only [Bool.not_eq_false', Bool.or_eq_true] at hysz
      have hysz : i.size = ysz ∨ ys = [] := by
        rcases hysz with e | e
        · exact .inl (by rw [← hci]; exact (Nat.eq_of_beq_eq_true e).symm)
        · exact .inr (by simpa using e)
      have rowY : ∀ (μ : Mu) (news : List Value), RowD μ ysz ys news.toArray → RowD μ (P.cellsOf e) ys news.toArray := fun μ news hr => by
        rcases hysz with e1 | e1
        · rw [hci, e1]; exact hr
        · subst e1; exact .nil
      have lenY : ∀ (news : List Value), news.length = ys.length * ysz → news.length = ys.length * P.cellsOf e := fun news hr => by
        rcases hysz with e1 | e1
        · rw [hci, e1]; exact hr
        · subst e1; simpa using hr
      split at h
      · rename_i sz0 xs0
        replace h := cond_some h
        obtain ⟨hb, h⟩ := h
        have hb := of_decide_eq_true hb
        refine ⟨_, _, h, by simp, fun E μ ρ vs vx ty w ha hbx hs hf => ?_⟩
        have hva : vs = .slice none 0 0 := by
          cases ha with
          | c hx => cases hx with
            | d hd => cases hd with
              | @lst _ _ _ A c vals hnil hA _ _ _ _ =>
                cases A with
                | none => rw [(hA rfl).1, (hA rfl).2]; rfl
                | some a => cases hnil
        subst hva
        obtain ⟨news, hlen, hnl, hrow, hfc⟩ := app_view (P := P) hx hbx hs
        have hfr : Fresh ρ σ := hf.fresh (by simp)
        cases ys with
        | nil =>
          obtain ⟨_, hs'⟩ := hs.phantom hfr e (P.cellsOf e)
          refine ⟨.slice none 0 0, w, _, ?_, grow_add hfr _ _ w (fun _ => .inl rfl) (fun _ _ _ => rfl) (Nat.le_refl _), ?_, hs'⟩
          · have hn0 : news = [] := List.eq_nil_of_length_eq_zero (by simpa using hnl)
            subst hn0
            have := run_app_room (P := P) (w := w) (ty := ty) hu hu2 hd hi (base := none) (sLen := 0) (sCap := 0) (n := 0) (news := []) hlen (by simpa using hfc i.size 0 w hysz (Nat.le_refl _) rfl) (Nat.le_refl _) rfl
            simpa using this
          · exact .c (.sln (rhoAdd_same ρ σ.length ⟨0, 0, P.cellsOf e, 0, true⟩) rfl rfl (fun n hn => by cases hn))
        | cons y ys =>
          have hY := rowY μ news hrow
          have hL := lenY news hnl
          have hge := grownCap_ge w (0 + (y :: ys).length) 0 e
          obtain ⟨ρ', g, hv, hs'⟩ := grown_sound (e := e) (xs := []) (ys := y :: ys) (olds := []) (news := news) (rest := (Builtin.zeroCells z.cells (grownCap w (0 + (y :: ys).length) 0 e - (0 + (y :: ys).length))).toList) (cap := grownCap w (0 + (y :: ys).length) 0 e) hs hfr
            .nil (by simp) hY (by
              simp only [List.nil_append, List.length_append, hL, Array.length_toList, size_zeroCells, hzs, hci, ← Nat.add_mul]
              congr 1; omega) (by simpa using hge)
          refine ⟨_, _, ρ', run_app_grow hu hu2 hd hi hz (by rw [← hbi]; exact hby) (base := none) (sLen := 0) (sCap := 0) (olds := []) (news := news) hlen (by
              have := hfc i.size (y :: ys).length w.drew hysz (Nat.le_refl _) rfl
              rw [List.take_of_length_le (by rw [hL, hci]; exact Nat.le_refl _)] at this
              exact this) (by simp [Builtin.firstCells]) (by simp) (by rw [Nat.zero_add, ← hbi]; exact hb), g.loud, ?_, hs'⟩
          simp only [Nat.zero_add, List.nil_append] at hv ⊢
          exact hv
      · rename_i nil l off cut
        split at h
        · cases h
        · rename_i b hb
          replace h := cond_some h
          obtain ⟨hc, h⟩ := h
          simp only [Bool.and_eq_true, Bool.not_eq_true'] at hc
          obtain ⟨⟨⟨⟨hm, ho⟩, hoff⟩, hbt⟩, hbs⟩ := hc
          have hm := Nat.eq_of_beq_eq_true hm
          have hoff := Nat.eq_of_beq_eq_true hoff
          have hbt := Nat.eq_of_beq_eq_true hbt
          have hbs := Nat.eq_of_beq_eq_true hbs
          replace h := cond_some h
          obtain ⟨hb48, h⟩ := h
          have hb48 := of_decide_eq_true hb48
          refine ⟨_, _, h, by simp, fun E μ ρ vs vx ty w ha hbx hs hf => ?_⟩
          subst hoff
          obtain ⟨news, hlen, hnl, hrow, hfc⟩ := app_view (P := P) hx hbx hs
          have hY := rowY μ news hrow
          have hL := lenY news hnl
          have hfr : Fresh ρ σ := hf.fresh (by simp)
          have hfcA : ∀ w' : World, w'.heap = w.heap → (Builtin.firstCells i.size ys.length vx).run P w' = .ok news.toArray w' := fun w' hw' => by
            have := hfc i.size ys.length w' hysz (Nat.le_refl _) hw'
            rwa [List.take_of_length_le (by rw [hL, hci]; exact Nat.le_refl _)] at this
          have hkl : SR E μ ρ (σ.set l { b with mode := 0 }) w := hs.kill l _ rfl
          have hlenk : (σ.set l { b with mode := 0 }).length = σ.length := by simp
          have hfrk : Fresh ρ (σ.set l { b with mode := 0 }) := by unfold Fresh; rw [hlenk]; exact hfr
          cases ha with
          | c hx => cases hx with
            | d hd => cases hd
            | @sln _ _ _ rb hl hn _ hcut =>
              have hxs0 : b.xs = [] := List.eq_nil_of_length_eq_zero (by rw [← (hs.blk l rb b hl hb (by omega)).n]; exact hn)
              have hxs : cutA b.xs cut = [] := by rw [hxs0]; cases cut <;> simp [cutA]
              cases ys with
              | nil =>
                obtain ⟨_, hs'⟩ := hkl.phantom hfrk e (P.cellsOf e)
                rw [hlenk] at hs'
                have e1 : (cutA b.xs cut) ++ ([] : List (List AV)) = [] := by rw [hxs]; rfl
                rw [e1]
                refine ⟨.slice none 0 0, w, _, ?_, grow_set hfr _ _ _ w (fun _ => .inl rfl) (fun _ _ _ => rfl) (Nat.le_refl _), ?_, hs'⟩
                · have hn0 : news = [] := List.eq_nil_of_length_eq_zero (by simpa using hnl)
                  subst hn0
                  have := run_app_room (P := P) (w := w) (ty := ty) hu hu2 hd hi (base := none) (sLen := 0) (sCap := 0) (n := 0) (news := []) hlen (hfcA w rfl) (Nat.le_refl _) rfl
                  simpa using this
                · exact .c (.sln (rhoAdd_same ρ σ.length ⟨0, 0, P.cellsOf e, 0, true⟩) rfl rfl (fun n hn => by cases hn))
              | cons y ys =>
                have hge := grownCap_ge w (0 + (y :: ys).length) 0 e
                obtain ⟨ρ', g, hv, hs'⟩ := grown_sound (e := e) (xs := []) (ys := y :: ys) (olds := []) (news := news) (rest := (Builtin.zeroCells z.cells (grownCap w (0 + (y :: ys).length) 0 e - (0 + (y :: ys).length))).toList) (cap := grownCap w (0 + (y :: ys).length) 0 e) hkl hfrk
                  .nil (by simp) hY (by
                    simp only [List.nil_append, List.length_append, hL, Array.length_toList, size_zeroCells, hzs, hci, ← Nat.add_mul]
                    congr 1; omega) (by simpa using hge)
                rw [hlenk] at g hv
                have e1 : (cutA b.xs cut) ++ (y :: ys) = [] ++ (y :: ys) := by rw [hxs]
                rw [e1]
                refine ⟨_, _, ρ', run_app_grow hu hu2 hd hi hz (by rw [← hbi]; exact hby) (base := none) (sLen := 0) (sCap := 0) (olds := []) (news := news) hlen (hfcA w.drew rfl) (by simp [Builtin.firstCells]) (by simp) (by
                    rw [hxs] at hb48; rw [← hbi]; simpa using hb48), g.loud, ?_, hs'⟩
                simp only [Nat.zero_add, List.nil_append] at hv ⊢
                exact hv
            | @sl _ _ _ rb a len cap hl hp ha hlen' hoff' hcap hcsz =>
              have hbl := hs.blk l rb b hl hb (by omega)
              obtain ⟨cur, hc⟩ := hbl.live hp
              obtain ⟨fz, hheap⟩ : ∃ fz, (w.heap[rb.b]? = some (.cells cur b.ty fz) ∧ OkFz (fxB false b.sz) cur.size fz) := by
                rcases hc.at_ with ⟨_, h2, h3⟩ | ⟨h3, _⟩
                · rw [ho] at h2; exact h2
                · omega
              have ha' : a = ⟨rb.b, 0, none⟩ := by
                rcases ha with e1 | ⟨_, e1⟩
                · rw [e1, Nat.zero_mul]
                · omega
              subst ha'
              have hcl : len = (cutA b.xs cut).length := by
                have hbn := hbl.n
                cases cut with
                | none => rw [hlen', hbn]; simp [cutN, cutA]
                | some m => simp only [cutN] at hlen'; simp only [cutA, List.length_take]; omega
              have hct : b.xs.take (cutA b.xs cut).length = cutA b.xs cut := by
                cases cut with
                | none => simp [cutA]
                | some m => simp [cutA, List.take_eq_take_iff]
              have hln := hcl
              subst hln
              have hsz : rb.sz = P.cellsOf e := hbl.sz.trans hbs
              have hcurs : cur.size = cap * P.cellsOf e := by rw [hc.size, ← hcsz, hsz]; simp
              have hrowX : RowD μ (P.cellsOf e) (cutA b.xs cut) (cur.toList.take ((cutA b.xs cut).length * P.cellsOf e)).toArray := by
                have := (hc.rowD ho).take (cutA b.xs cut).length
                rwa [hct, hsz] at this
              have hfit : (cutA b.xs cut).length * P.cellsOf e ≤ cur.size := by rw [hcurs]; exact Nat.mul_le_mul_right _ hcap
              have hlX : (cur.toList.take ((cutA b.xs cut).length * P.cellsOf e)).length = (cutA b.xs cut).length * P.cellsOf e := by rw [List.length_take, Array.length_toList]; exact Nat.min_eq_left hfit
              by_cases hroom : (cutA b.xs cut).length + ys.length ≤ cap
              · have hfit2 : (cutA b.xs cut).length * P.cellsOf e + news.length ≤ cur.size := by
                  rw [hL, ← Nat.add_mul, hcurs]; exact Nat.mul_le_mul_right _ hroom
                have hone : ∀ u ∈ news, u.oneCell' = true := hY.list hL
                have hst := run_storeCells_fz P rb.b ((cutA b.xs cut).length * i.size) b.ty (fxB false b.sz) fz news 0 cur w hheap.1 hheap.2 (by rw [← hci]; simpa using hfit2) hone
                simp only [Nat.add_zero] at hst
                let cur' : Array Value := (cur.toList.take ((cutA b.xs cut).length * i.size) ++ news ++ cur.toList.drop ((cutA b.xs cut).length * i.size + news.length)).toArray
                have hcs' : cur'.size = cap * P.cellsOf e := by
                  simp only [cur', List.size_toArray, List.length_append, List.length_take, List.length_drop, Array.length_toList, ← hci]
                  omega
                have hs' := hs.inplace hfr hl hb hm hp ⟨1, e, P.cellsOf e, false, (cutA b.xs cut) ++ ys⟩ cur' rfl hbt.symm cur ⟨fz, hheap⟩ hbs.symm (by rw [hcs', hcurs]) rfl (by
                  have := hrowX.app hlX hY (L3 := cur.toList.drop ((cutA b.xs cut).length * i.size + news.length))
                  rw [hci] at this
                  rw [hci]; exact this) (by rw [hcs']; simp only [List.length_append]; exact Nat.mul_le_mul_right _ hroom)
                refine ⟨.slice (some ⟨rb.b, 0, none⟩) ((cutA b.xs cut).length + ys.length) cap, w.setRow rb.b cur', _, ?_, grow_set hfr _ _ _ _ (fun e => by cases e) (fun e => by cases e) (by simp), ?_, hs'⟩
                · exact run_app_room (P := P) (w := w) (ty := ty) hu hu2 hd hi hlen (hfcA w rfl) hroom (by simp only [addr_add, Nat.zero_add]; exact hst)
                · have : (ys.isEmpty && false) = false := by simp
                  rw [this]
                  exact .c (.sl (rhoAdd_same ρ σ.length ⟨rb.b, cur'.size, P.cellsOf e, ((cutA b.xs cut) ++ ys).length, false⟩) rfl (.inl (by simp)) (by simp [cutN]) (by simp) (by simpa using hroom) (by simp [hcs']))
              · have hge := grownCap_ge w ((cutA b.xs cut).length + ys.length) cap e
                obtain ⟨ρ', g, hv, hs'⟩ := grown_sound (e := e) (xs := (cutA b.xs cut)) (ys := ys) (olds := cur.toList.take ((cutA b.xs cut).length * P.cellsOf e)) (news := news) (rest := (Builtin.zeroCells z.cells (grownCap w ((cutA b.xs cut).length + ys.length) cap e - ((cutA b.xs cut).length + ys.length))).toList) (cap := grownCap w ((cutA b.xs cut).length + ys.length) cap e) hkl hfrk
                  hrowX hlX hY (by
                    simp only [List.length_append]
                    rw [hlX, hL, show ∀ n, (Builtin.zeroCells z.cells n).toList.length = n * P.cellsOf e from fun n => by rw [Array.length_toList, size_zeroCells, hzs, hci], ← Nat.add_mul, ← Nat.add_mul]
                    congr 1; omega) (by simpa using hge)
                rw [hlenk] at g hv
                have : (ys.isEmpty && false) = false := by simp
                rw [this]
                refine ⟨_, _, ρ', run_app_grow hu hu2 hd hi hz (by rw [← hbi]; exact hby) (base := some ⟨rb.b, 0, none⟩) (sLen := (cutA b.xs cut).length) (sCap := cap) (olds := cur.toList.take ((cutA b.xs cut).length * P.cellsOf e)) (news := news) hlen (hfcA w.drew rfl) ?_ (by omega) (by rw [← hbi]; exact hb48), g.loud, ?_, hs'⟩
                · simp only [Builtin.firstCells]
                  have := run_loadCells_list (P := P) w.drew ⟨rb.b, 0, none⟩ (cur.toList.take ((cutA b.xs cut).length * P.cellsOf e)) fun j u hu => ?_
                  · rw [hlX, hci] at this; rw [hci]; exact this
                  · rw [List.getElem?_take] at hu
                    split at hu
                    · rw [addr_add, Nat.zero_add, World.cell?_drew, cell_of_row w _ _ cur b.ty fz hheap.1, ← Array.getElem?_toList]
                      exact hu
                    · cases hu
                · simpa using hv
      · cases h
  · cases h
end
end Go.Ev
namespace Go.Ev
variable [Gl]
section
variable {P : Program} {E : Env} {μ : Mu} {ρ : Rho} {σ : Store} {w : World}
theorem grow_same {q : Bool} {n : Nat} {w' : World} (hk : q = true → ∀ b, b < w.heap.size → w'.heap[b]? = w.heap[b]?) (hz : w.heap.size ≤ w'.heap.size) : Grow q μ ρ n w μ ρ n w' :=
  ⟨MuLe.refl μ, RhoLe.refl ρ, Nat.le_refl n, fun _ _ h => .inl h, hk, hz, fun _ _ _ h => .inl h⟩
theorem set_self {α : Type} {σ : List α} {l : Nat} {k : α} (h : σ[l]? = some k) : σ.set l k = σ := by
  apply List.ext_getElem?
  intro m
  rw [List.getElem?_set]
  split
  · rename_i e; subst e
    rw [h]
    split
    · rfl
    · rename_i e2; rw [List.getElem?_eq_none (by omega)] at h; cases h
  · rfl
theorem cond_or {α : Type} {b : Bool} {x y : Option α} {r : α} (h : cond b x y = some r) : (b = true ∧ x = some r) ∨ (b = false ∧ y = some r) := by
  cases b with
  | true => exact .inl ⟨rfl, h⟩
  | false => exact .inr ⟨rfl, h⟩
def stAt (A : Option Addr) (vs : List Value) : Sem Unit :=
  match A with
  | some a => storeCells a vs
  | none => pure ()
theorem evCopy_sound {R : Type} {K : AV → Store → Option R} {r : R} {t t2 : TypeId} {d s : AV} (h : evCopy P σ K t d s = some r) :
    ∃ av σ', K av σ' = some r ∧ σ.length ≤ σ'.length ∧ ∀ (E : Env) (μ : Mu) (ρ : Rho) (vd vs : Value) (ty : TypeId) (w : World), VR μ ρ d vd → VR μ ρ s vs → SR E μ ρ σ w →
      ∃ v w', (Builtin.copy_ #[t, t2] ty #[vd, vs]).run P w = .ok v w' ∧ Grow false μ ρ σ.length w μ ρ σ'.length w' ∧ VR μ ρ av v ∧ SR E μ ρ σ' w' := by
  unfold evCopy at h
  split at h
  · rename_i e hu
    split at h
    · rename_i ysz ys nil l off cut hx
      split at h
      · rename_i b n hb hn
        replace h := cond_some h
        obtain ⟨hc, h⟩ := h
        simp only [Bool.and_eq_true, Bool.not_eq_true'] at hc
        obtain ⟨⟨⟨⟨hm, ho⟩, hbs⟩, hysz⟩, hpos⟩ := hc
        have hm := Nat.eq_of_beq_eq_true hm
        have hbs := Nat.eq_of_beq_eq_true hbs
        have hpos : 0 < P.cellsOf e := by simpa [Nat.blt_eq] using hpos
        simp only [Bool.or_eq_true] at hysz
        have hysz : P.cellsOf e = ysz ∨ ys = [] := by
          rcases hysz with e | e
          · exact .inl (Nat.eq_of_beq_eq_true e).symm
          · exact .inr (by simpa using e)
        have hI : (P.info? e).isSome = true := by
          cases hi : P.info? e with
          | none => simp [Program.cellsOf, hi] at hpos
          | some i => rfl
        refine ⟨_, _, h, by simp, fun E μ ρ vd vs ty w ha hbx hs => ?_⟩
        obtain ⟨news, hlen, hnl, hrow, hfc⟩ := app_view (P := P) hx hbx hs
        obtain ⟨A, c, hva⟩ := slLen_view hn ha hs
        subst hva
        have hm0 : min ys.length n ≤ ys.length := Nat.min_le_left _ _
        have hmn : min ys.length n ≤ n := Nat.min_le_right _ _
        have hY : RowD μ (P.cellsOf e) (ys.take (min ys.length n)) (news.take (min ys.length n * P.cellsOf e)).toArray := by
          rcases hysz with e1 | e1
          · rw [e1]; exact hrow.take' _
          · subst e1; simpa using RowD.nil
        have hYl : (news.take (min ys.length n * P.cellsOf e)).length = (ys.take (min ys.length n)).length * P.cellsOf e := by
          rw [List.length_take, List.length_take, hnl]
          rcases hysz with e1 | e1
          · rw [e1, Nat.min_eq_left (Nat.mul_le_mul_right _ hm0), Nat.min_eq_left hm0]
          · subst e1; simp
        have hYl' : (ys.take (min ys.length n)).length = min ys.length n := by rw [List.length_take, Nat.min_eq_left hm0]
        have hrun : ∀ w' : World, (stAt A (news.take (min ys.length n * P.cellsOf e))).run P w = .ok () w' →
            (Builtin.copy_ #[t, t2] ty #[.slice A n c, vs]).run P w = .ok (.int .i64 ((min ys.length n : Nat) : Int)) w' := fun w' hst => by
          have hf := hfc (P.cellsOf e) (min ys.length n) w hysz hm0 rfl
          cases A with
          | none =>
            simp only [stAt, Sem.run_pure, Result.ok.injEq, true_and] at hst; subst hst
            simp [Builtin.copy_, run_underlying hu, hlen, run_sizeOf' hI, hf, goInt]
          | some a =>
            simp only [stAt] at hst
            simp [Builtin.copy_, run_underlying hu, hlen, run_sizeOf' hI, hf, goInt, hst]
        by_cases hz : min ys.length n = 0
        · have hn0 : news.take (min ys.length n * P.cellsOf e) = [] := by rw [hz]; simp
          have hst : (stAt A (news.take (min ys.length n * P.cellsOf e))).run P w = .ok () w := by
            rw [hn0]; cases A <;> simp [stAt, storeCells]
          have hsame : ({ b with xs := b.xs.take off ++ ys.take (min ys.length n) ++ b.xs.drop (off + min ys.length n) } : Blk) = b := by
            rw [hz]; simp
          rw [hsame, set_self hb]
          exact ⟨_, w, hrun w hst, grow_same (fun _ _ _ => rfl) (Nat.le_refl _), .int _ _, hs⟩
        · cases ha with
          | c hx => cases hx with
            | d hd => cases hd
            | sln => omega
            | @sl _ _ _ rb a _ _ hl hp ha hlen' hoff' hcap hcsz =>
              have hbl := hs.blk l rb b hl hb (by omega)
              obtain ⟨cur, hc⟩ := hbl.live hp
              obtain ⟨fz, hheap, hfz⟩ : Has w rb.b cur b.ty (fxB b.obj b.sz) := by
                rcases hc.at_ with ⟨_, h2, _⟩ | ⟨h3, _⟩
                · exact h2
                · omega
              have ha' : a = ⟨rb.b, off * rb.sz, none⟩ := by
                rcases ha with e1 | ⟨e1, _⟩
                · exact e1
                · omega
              subst ha'
              have hsz : rb.sz = P.cellsOf e := hbl.sz.trans hbs
              have hrb := hc.rowD ho
              rw [hsz] at hrb
              have hnx : off + n ≤ b.xs.length := by rw [← hbl.n]; exact hoff'
              have hfit : b.xs.length * P.cellsOf e ≤ cur.size := by rw [hc.size, ← hsz, ← hbl.n]; exact hbl.fit
              have hfit2 : off * P.cellsOf e + min ys.length n * P.cellsOf e ≤ cur.size := by
                rw [← Nat.add_mul]; exact Nat.le_trans (Nat.mul_le_mul_right _ (by omega)) hfit
              have hYl2 : (news.take (min ys.length n * P.cellsOf e)).length = min ys.length n * P.cellsOf e := by rw [hYl, hYl']
              have hst := run_storeCells_fz P rb.b (off * P.cellsOf e) b.ty (fxB b.obj b.sz) fz (news.take (min ys.length n * P.cellsOf e)) 0 cur w hheap hfz (by rw [hYl2]; simpa using hfit2) (hY.list hYl)
              simp only [Nat.add_zero, hYl2] at hst
              have hrow' : RowD μ (P.cellsOf e) (b.xs.take off ++ ys.take (min ys.length n) ++ b.xs.drop (off + min ys.length n))
                  (cur.toList.take (off * P.cellsOf e) ++ news.take (min ys.length n * P.cellsOf e) ++ cur.toList.drop (off * P.cellsOf e + min ys.length n * P.cellsOf e)).toArray := by
                have l1 : (cur.toList.take (off * P.cellsOf e)).length = (b.xs.take off).length * P.cellsOf e := by
                  rw [List.length_take, List.length_take, Array.length_toList, Nat.min_eq_left (by omega), Nat.min_eq_left (by omega)]
                have h12 := (hrb.take off).app l1 hY (L3 := [])
                rw [List.append_nil] at h12
                have h123 := h12.app (by rw [List.length_append, List.length_append, l1, hYl, Nat.add_mul]) (hrb.drop (off + min ys.length n)) (L3 := [])
                rw [List.append_nil, Nat.add_mul] at h123
                exact h123
              have hs' := hs.write hl hb hm hp (b.xs.take off ++ ys.take (min ys.length n) ++ b.xs.drop (off + min ys.length n)) cur
                (cur.toList.take (off * P.cellsOf e) ++ news.take (min ys.length n * P.cellsOf e) ++ cur.toList.drop (off * P.cellsOf e + min ys.length n * P.cellsOf e)).toArray ⟨fz, hheap, hfz⟩ hc.size
                (by rw [← hc.size]; simp only [List.size_toArray, List.length_append, hYl2, List.length_take, List.length_drop, Array.length_toList]; omega)
                (by simp only [List.length_append, hYl', List.length_take, List.length_drop]; omega) (fun _ => by rw [hsz]; exact hrow') (fun e => absurd e (by simp [ho]))
              refine ⟨_, _, hrun _ (by simp only [stAt, hsz]; exact hst), by simp only [List.length_set]; exact grow_same (fun e => by cases e) (by simp), .int _ _, hs'⟩
      · cases h
    · cases h
  · cases h
theorem grow_len {q : Bool} {μ' : Mu} {ρ' : Rho} {n n' m m' : Nat} {w' : World} (g : Grow q μ ρ n w μ' ρ' n' w') (e : m = n) (e' : m' = n') : Grow q μ ρ m w μ' ρ' m' w' := by subst e; subst e'; exact g
theorem run_storeVar {t : TypeId} (ht : tyL P t = true) {g o : Nat} {ty : TypeId} {cur : Array Value} {v : Value} {ob : Bool} (hg : Has w g cur ty ob) (hl : v.cells.size = P.cellsOf t) (hfit : o + P.cellsOf t ≤ cur.size) (h1 : ∀ u ∈ v.cells.toList, u.oneCell' = true) :
    (Instr.storeAt t (.pointer (some ⟨g, o, none⟩)) v).run P w = .ok () (w.setRow g (cur.toList.take o ++ v.cells.toList ++ cur.toList.drop (o + P.cellsOf t)).toArray) := by
  have hI := (tyL_spec ht).2.2.2
  obtain ⟨fz, hg, hfz⟩ := hg
  have hst := run_storeCells_fz P g o ty ob fz v.cells.toList 0 cur w hg hfz (by simpa [hl] using hfit) h1
  simp only [Nat.add_zero, Array.length_toList, hl] at hst
  simp only [Instr.storeAt, Instr.sureAddr, storeVar, Sem.run_bind, Sem.run_pure, Result.andThen_ok, run_sizeOf' hI, hl, ne_eq, not_true, if_false, hst]
theorem evStore_sound {R : Type} {K : Store → Option R} {r : R} {t : TypeId} {a x : AV} (h : evStore P σ t a x K = some r) :
    ∃ σ', K σ' = some r ∧ σ.length ≤ σ'.length ∧ ∀ (E : Env) (μ : Mu) (ρ : Rho) (va vx : Value) (w : World), VR μ ρ a va → VR μ ρ x vx → SR E μ ρ σ w →
      ∃ w' μ', (Instr.storeAt t va vx).run P w = .ok () w' ∧ Grow false μ ρ σ.length w μ' ρ σ'.length w' ∧ SR E μ' ρ σ' w' := by
  unfold evStore at h
  replace h := cond_some' h
  obtain ⟨ht, h⟩ := h
  simp only [Bool.not_eq_false'] at ht
  split at h
  · rename_i l i j
    split at h
    · cases h
    · rename_i b hb
      split at h
      · cases h
      · rename_i xc hxc
        rcases cond_or h with ⟨hbig, h1⟩ | ⟨_, h1⟩
        · clear h
          simp only [Bool.and_eq_true, Bool.not_eq_true'] at hbig
          obtain ⟨hbt, ho⟩ := hbig
          obtain ⟨hm, h⟩ := cond_some h1
          have hm := Nat.eq_of_beq_eq_true hm
          obtain ⟨hg, h⟩ := cond_some h
          simp only [Bool.and_eq_true, decide_eq_true_eq] at hg
          obtain ⟨g0, hxl, hxv0⟩ := hg
          simp only [bigT, Bool.and_eq_true] at hbt
          obtain ⟨⟨⟨⟨⟨g1, g2⟩, g3⟩, g4⟩, g5⟩, g6⟩ := hbt
          have g2 := Nat.eq_of_beq_eq_true g2
          have g4 := Nat.eq_of_beq_eq_true g4
          have g5 := Nat.eq_of_beq_eq_true g5
          subst g4; subst g5
          refine ⟨_, h, by simp, fun E μ ρ va vx w ha hbx hs => ?_⟩
          cases ha with
          | c hx => cases hx with
            | d hd => cases hd
            | @ptr _ _ _ rb hl hp =>
              have hbl := hs.blk l rb b hl hb (by omega)
              obtain ⟨cur, hc⟩ := hbl.live hp
              have hheap : Has w rb.b cur b.ty (fxB b.obj b.sz) := by
                rcases hc.at_ with ⟨_, h2, _⟩ | ⟨h3, _⟩
                · exact h2
                · omega
              have hxv := hbx.cells hxc
              have hvl : vx.cells.size = P.cellsOf t := by rw [← hxl, ← hxv.1]; simp
              have hs1 : rb.sz = 1 := hbl.sz.trans g2
              have hfit : P.cellsOf t ≤ cur.size := by
                have := hbl.fit
                rw [hs1, Nat.mul_one, hbl.n, g0, ← hc.size] at this
                exact this
              have hrun := run_storeVar (P := P) (w := w) (t := t) ht (o := 0 * rb.sz + 0) hheap hvl (by omega) hxv.one
              simp only [Nat.zero_mul, Nat.add_zero, Nat.zero_add, List.take_zero, List.nil_append] at hrun
              have hs' := hs.write hl hb hm hp (xc.map fun c => [c]) cur (vx.cells.toList ++ cur.toList.drop (P.cellsOf t)).toArray hheap hc.size
                (by rw [← hc.size]; simp only [List.size_toArray, List.length_append, Array.length_toList, hvl, List.length_drop]; omega) (by rw [List.length_map, hxl, g0]) (fun _ => by
                  refine ⟨fun e he => ?_, fun p e q c he hc' => ?_⟩
                  · obtain ⟨c, _, rfl⟩ := List.mem_map.1 he
                    rw [hs1]; rfl
                  · rw [List.getElem?_map, Option.map_eq_some_iff] at he
                    obtain ⟨c0, hc0, rfl⟩ := he
                    have hq0 : q = 0 := by
                      have := (List.getElem?_eq_some_iff.1 hc').1
                      simpa using this
                    subst hq0
                    simp only [List.getElem?_cons_zero, Option.some.injEq] at hc'
                    subst hc'
                    have hplt : p < xc.length := (List.getElem?_eq_some_iff.1 hc0).1
                    have hpv : p < vx.cells.toList.length := by rw [hxv.1]; exact hplt
                    have hcr := hxv.2 p c0 _ hc0 (List.getElem?_eq_getElem hpv)
                    refine ⟨vx.cells.toList[p], ?_, ?_⟩
                    · rw [hs1, Nat.mul_one, Nat.add_zero, List.getElem?_toArray, List.getElem?_append_left hpv]
                      exact List.getElem?_eq_getElem hpv
                    · have h4 := List.all_eq_true.1 hxv0 c0 (List.mem_of_getElem? hc0)
                      unfold isV at h4
                      split at h4
                      · cases hcr with
                        | d hd => exact hd
                      · cases h4) (fun e => absurd e (by simp [ho]))
              refine ⟨_, μ, ?_, grow_len (grow_same (fun e => by cases e) (by simp)) rfl (by simp), hs'⟩
              simpa using hrun
        · clear h
          have h := h1
          clear h1
          replace h := cond_some' h
          obtain ⟨hc, h⟩ := h
          simp only [Bool.or_eq_false_iff, Bool.not_eq_false'] at hc
          have hm := Nat.eq_of_beq_eq_true hc.1
          have hxl := Nat.eq_of_beq_eq_true hc.2
          rcases cond_or h with ⟨ho, h1⟩ | ⟨ho, h1⟩
          · clear h
            obtain ⟨hle, h⟩ := cond_some h1
            simp only [Bool.and_eq_true] at hle
            have hj := Nat.le_of_ble_eq_true hle.1
            have hi := Nat.eq_of_beq_eq_true hle.2
            refine ⟨_, h, by simp, fun E μ ρ va vx w ha hbx hs => ?_⟩
            cases ha with
            | c hx => cases hx with
              | d hd => cases hd
              | @ptr _ _ _ rb hl hp =>
                obtain ⟨cur, ty, fz, h1, h2, h3, h4, h5, h6⟩ := obj_cells hs hl hp hb (by omega) ho
                obtain ⟨e1, e2, _⟩ := h4 hm
                subst e1; subst e2
                have hxv := hbx.cells hxc
                have hvl : vx.cells.size = P.cellsOf t := by rw [← hxl, ← hxv.1]; simp
                rw [hi, Nat.zero_mul, Nat.zero_add]
                have hrun := run_storeVar (P := P) (w := w) (t := t) ht (o := j) (ob := b.obj) ⟨_, h1, .inl rfl⟩ hvl (by omega) hxv.one
                have hnew : CRs μ ρ ((lget b.xs 0).take j ++ xc ++ (lget b.xs 0).drop (j + P.cellsOf t)) (cur.toList.take j ++ vx.cells.toList ++ cur.toList.drop (j + P.cellsOf t)) := by
                  refine .append (.append ?_ hxv) ?_
                  · have := h3.sub 0 j; simpa using this
                  · have := h3.sub (j + P.cellsOf t) (lget b.xs 0).length
                    rwa [List.take_of_length_le (by simp), List.take_of_length_le (by rw [List.length_drop, h3.1]; omega)] at this
                have hlen : ((lget b.xs 0).take j ++ xc ++ (lget b.xs 0).drop (j + P.cellsOf t)).length = (lget b.xs 0).length := by simp [hxl]; omega
                have hs' := hs.write hl hb hm hp [(lget b.xs 0).take j ++ xc ++ (lget b.xs 0).drop (j + P.cellsOf t)] cur (cur.toList.take j ++ vx.cells.toList ++ cur.toList.drop (j + P.cellsOf t)).toArray ⟨_, h1, .inl rfl⟩ (by rw [h5, h6, h2])
                  (by rw [h5, h6, ← hlen, ← hnew.1]; simp) (by rw [((hs.blk l rb b hl hb (by omega)).one ho).1]; rfl) (fun e => absurd e (by simp [ho])) (fun _ => by
                    refine ⟨fun e he => by simp at he; rw [he, ← List.append_assoc, hlen, h6], fun p e q c he hc => ?_⟩
                    have hp0 : p = 0 := by have := (List.getElem?_eq_some_iff.1 he).1; simpa using this
                    subst hp0
                    simp at he; subst he
                    rw [← List.append_assoc] at hc
                    have hlt : q < (cur.toList.take j ++ vx.cells.toList ++ cur.toList.drop (j + P.cellsOf t)).length := by rw [hnew.1]; exact (List.getElem?_eq_some_iff.1 hc).1
                    refine ⟨_, ?_, hnew.2 q c _ hc (List.getElem?_eq_getElem hlt)⟩
                    rw [Nat.zero_mul, Nat.zero_add, List.getElem?_toArray]
                    exact List.getElem?_eq_getElem hlt)
                exact ⟨_, μ, hrun, grow_len (grow_same (fun e => by cases e) (by simp)) rfl (by simp), hs'⟩
          · clear h
            have h := h1
            clear h1
            split at h
            · cases h
            · rename_i cs σ1 hfz
              replace h := cond_some h
              obtain ⟨hle, h⟩ := h
              simp only [Bool.and_eq_true] at hle
              have hj := of_decide_eq_true hle.1
              have hm1 : ∃ b', σ1[l]? = some b' ∧ b'.mode = 1 := by
                have := hle.2
                split at this
                · rename_i b' hb'; exact ⟨b', hb', Nat.eq_of_beq_eq_true this⟩
                · cases this
              replace h := cond_some h
              obtain ⟨hlt, h⟩ := h
              have hlt := of_decide_eq_true hlt
              have hsame : ∀ (cs : List AV) (σ σ1 : Store) (cs' : List AV) (b b' : Blk), frzL σ cs = some (cs', σ1) → σ[l]? = some b → σ1[l]? = some b' → b'.mode = 1 → b' = b := by
                intro cs
                induction cs with
                | nil => intro σ σ1 cs' b b' h h1 h2 _; simp [frzL] at h; rw [← h.2, h1] at h2; injection h2 with h2; exact h2.symm
                | cons c cs ih =>
                  intro σ σ1 cs' b b' h h1 h2 h3
                  simp only [frzL] at h
                  split at h
                  · cases h
                  · rename_i c1 σ2 hc1
                    split at h
                    · cases h
                    · rename_i cs1 σ3 hc2
                      simp only [Option.some.injEq, Prod.mk.injEq] at h
                      rw [← h.2] at h2
                      unfold frz at hc1
                      split at hc1
                      · injection hc1 with hc1; injection hc1 with _ hc1; subst hc1; exact ih _ _ _ _ _ hc2 h1 h2 h3
                      · injection hc1 with hc1; injection hc1 with _ hc1; subst hc1; exact ih _ _ _ _ _ hc2 h1 h2 h3
                      · rename_i nn ll oo cc
                        split at hc1
                        · cases hc1
                        · rename_i bb hbb
                          have hc1 := (cond_some' hc1).2
                          injection hc1 with hc1; injection hc1 with _ hc1; subst hc1
                          by_cases e : ll = l
                          · subst e
                            have hlen := (List.getElem?_eq_some_iff.1 hbb).1
                            have := ih _ _ _ { bb with mode := 2 } b' hc2 (by rw [List.getElem?_set_self hlen]) h2 h3
                            rw [this] at h3; cases h3
                          · exact ih _ _ _ _ _ hc2 (by rw [List.getElem?_set_ne e]; exact h1) h2 h3
                      · cases hc1
              obtain ⟨b', hb', hb1⟩ := hm1
              have hbb := hsame _ _ _ _ _ _ hfz hb hb' hb1
              subst hbb
              have hlen1 := frzL_len _ _ _ _ hfz
              have key : ∀ (row : List AV), K (σ1.set l { b' with xs := b'.xs.set i row }) = some r → (row = (lget b'.xs i).take j ++ cs ++ (lget b'.xs i).drop (j + P.cellsOf t) ∨ (row = cs ∧ P.cellsOf t = b'.sz)) →
                ∃ σ', K σ' = some r ∧ σ.length ≤ σ'.length ∧ ∀ (E : Env) (μ : Mu) (ρ : Rho) (va vx : Value) (w : World), VR μ ρ (.ptr l i j) va → VR μ ρ x vx → SR E μ ρ σ w →
                  ∃ w' μ', (Instr.storeAt t va vx).run P w = .ok () w' ∧ Grow false μ ρ σ.length w μ' ρ σ'.length w' ∧ SR E μ' ρ σ' w' := fun row hk hrow => by
                refine ⟨_, hk, by simp [hlen1], fun E μ ρ va vx w ha hbx hs => ?_⟩
                cases ha with
                | c hx => cases hx with
                  | d hd => cases hd
                  | @ptr _ _ _ rb hl hp =>
                    have hxv := hbx.cells hxc
                    have hvl : vx.cells.size = P.cellsOf t := by rw [← hxl, ← hxv.1]; simp
                    obtain ⟨μ1, hle1, hs1, hd1, hn1, hn2⟩ := frzL_sound hs hxv hfz
                    have hbl := hs1.blk l rb b' hl hb' (by omega)
                    obtain ⟨cur, hc⟩ := hbl.live hp
                    have hheap : Has w rb.b cur b'.ty (fxB b'.obj b'.sz) := by
                      rcases hc.at_ with ⟨_, h2, _⟩ | ⟨h3, _⟩
                      · exact h2
                      · omega
                    have hrb := hc.rowD ho
                    have hsz := hbl.sz
                    have hfit : b'.xs.length * rb.sz ≤ cur.size := by rw [hc.size, ← hbl.n]; exact hbl.fit
                    have hir : (i + 1) * rb.sz ≤ b'.xs.length * rb.sz := Nat.mul_le_mul_right _ hlt
                    rw [Nat.add_mul, Nat.one_mul] at hir
                    have hfit2 : i * rb.sz + j + P.cellsOf t ≤ cur.size := by omega
                    have hxi : b'.xs[i]? = some (lget b'.xs i) := by simp [lget, List.getD_eq_getElem?_getD, List.getElem?_eq_getElem hlt]
                    have hil : (lget b'.xs i).length = rb.sz := hrb.1 _ (List.mem_of_getElem? hxi)
                    have hrow : row = (lget b'.xs i).take j ++ cs ++ (lget b'.xs i).drop (j + P.cellsOf t) := by
                      rcases hrow with e | ⟨e1, e2⟩
                      · exact e
                      · have hj0 : j = 0 := by omega
                        subst hj0
                        rw [e1, List.drop_eq_nil_of_le (by rw [hil, hsz]; omega)]
                        simp
                    subst hrow
                    have hrun := run_storeVar (P := P) (w := w) (t := t) ht (o := i * rb.sz + j) hheap hvl hfit2 hxv.one
                    have hcl : cs.length = P.cellsOf t := by rw [hn2, hxl]
                    have hs' := hs1.write hl hb' hb1 hp (b'.xs.set i ((lget b'.xs i).take j ++ cs ++ (lget b'.xs i).drop (j + P.cellsOf t))) cur
                      (cur.toList.take (i * rb.sz + j) ++ vx.cells.toList ++ cur.toList.drop (i * rb.sz + j + P.cellsOf t)).toArray hheap hc.size
                      (by rw [← hc.size]; simp only [List.size_toArray, List.length_append, Array.length_toList, hvl, List.length_take, List.length_drop]; omega) (by simp) (fun _ => by
                        refine ⟨fun e he => ?_, fun p e q c he hc' => ?_⟩
                        · rcases List.mem_or_eq_of_mem_set he with h1 | h1
                          · exact hrb.1 e h1
                          · rw [h1]; simp [hcl, hil]; omega
                        · rw [List.getElem?_toArray]
                          by_cases hpi : p = i
                          · subst hpi
                            rw [List.getElem?_set_self hlt] at he
                            injection he with he
                            subst he
                            have hq : q < rb.sz := by have := (List.getElem?_eq_some_iff.1 hc').1; simp [hcl, hil] at this; omega
                            have htk : ((lget b'.xs p).take j).length = j := by simp [hil]; omega
                            have htk2 : (cur.toList.take (p * rb.sz + j)).length = p * rb.sz + j := by simp; omega
                            rcases Nat.lt_or_ge q j with hqj | hqj
                            · rw [List.append_assoc, List.getElem?_append_left (by omega), List.getElem?_take, if_pos hqj] at hc'
                              obtain ⟨u, h3, h4⟩ := hrb.2 p _ q c hxi hc'
                              refine ⟨u, ?_, h4⟩
                              rw [List.append_assoc, List.getElem?_append_left (by omega), List.getElem?_take, if_pos (by omega), Array.getElem?_toList]
                              exact h3
                            · rw [List.append_assoc, List.getElem?_append_right (by omega), htk] at hc'
                              rcases Nat.lt_or_ge (q - j) (P.cellsOf t) with hqt | hqt
                              · rw [List.getElem?_append_left (by omega)] at hc'
                                have hlt' : q - j < vx.cells.toList.length := by rw [Array.length_toList, hvl]; exact hqt
                                refine ⟨_, ?_, hd1.2 _ c _ hc' (List.getElem?_eq_getElem hlt')⟩
                                rw [List.append_assoc, List.getElem?_append_right (by omega), htk2, List.getElem?_append_left (by omega), show p * rb.sz + q - (p * rb.sz + j) = q - j by omega]
                                exact List.getElem?_eq_getElem hlt'
                              · rw [List.getElem?_append_right (by omega), hcl, List.getElem?_drop, show j + P.cellsOf t + (q - j - P.cellsOf t) = q by omega] at hc'
                                obtain ⟨u, h3, h4⟩ := hrb.2 p _ q c hxi hc'
                                refine ⟨u, ?_, h4⟩
                                rw [List.append_assoc, List.getElem?_append_right (by omega), htk2, List.getElem?_append_right (by rw [Array.length_toList, hvl]; omega), Array.length_toList, hvl, List.getElem?_drop,
                                  show p * rb.sz + j + P.cellsOf t + (p * rb.sz + q - (p * rb.sz + j) - P.cellsOf t) = p * rb.sz + q by omega, Array.getElem?_toList]
                                exact h3
                          · rw [List.getElem?_set_ne (fun e => hpi e.symm)] at he
                            obtain ⟨u, h3, h4⟩ := hrb.2 p e q c he hc'
                            refine ⟨u, ?_, h4⟩
                            have hq : q < rb.sz := by rw [← hrb.1 e (List.mem_of_getElem? he)]; exact (List.getElem?_eq_some_iff.1 hc').1
                            have htk2 : (cur.toList.take (i * rb.sz + j)).length = i * rb.sz + j := by simp; omega
                            rcases Nat.lt_or_ge p i with hlt' | hgt
                            · have : (p + 1) * rb.sz ≤ i * rb.sz := Nat.mul_le_mul_right _ hlt'
                              rw [Nat.add_mul, Nat.one_mul] at this
                              rw [List.append_assoc, List.getElem?_append_left (by omega), List.getElem?_take, if_pos (by omega), Array.getElem?_toList]
                              exact h3
                            · have : (i + 1) * rb.sz ≤ p * rb.sz := Nat.mul_le_mul_right _ (by omega)
                              rw [Nat.add_mul, Nat.one_mul] at this
                              rw [List.append_assoc, List.getElem?_append_right (by omega), htk2, List.getElem?_append_right (by rw [Array.length_toList, hvl]; omega), Array.length_toList, hvl, List.getElem?_drop,
                                show i * rb.sz + j + P.cellsOf t + (p * rb.sz + q - (i * rb.sz + j) - P.cellsOf t) = p * rb.sz + q by omega, Array.getElem?_toList]
                              exact h3) (fun e => absurd e (by simp [ho]))
                    exact ⟨_, μ1, hrun, ⟨hle1, RhoLe.refl ρ, by simp [hlen1], fun _ _ h => .inl h, fun e => (by cases e), by simp, fun e => (by cases e)⟩, hs'⟩
              rcases cond_or h with ⟨hfull, h1⟩ | ⟨_, h1⟩
              · exact key cs h1 (.inr ⟨rfl, Nat.eq_of_beq_eq_true hfull⟩)
              · exact key _ h1 (.inl rfl)
  · rename_i l j n i
    split at h
    · rename_i b y hb
      replace h := cond_some' h
      obtain ⟨hc, h⟩ := h
      simp only [Bool.or_eq_false_iff, Bool.not_eq_false'] at hc
      obtain ⟨⟨⟨⟨hy, hm⟩, ho⟩, hag⟩, hle⟩ := hc
      have hm := Nat.eq_of_beq_eq_true hm
      have hle := Nat.le_of_ble_eq_true hle
      have hone : P.cellsOf t = 1 := by
        rcases (tyL_spec ht).2.2.1 with e | e
        · rw [hag] at e; cases e
        · exact e
      refine ⟨_, h, by simp, fun E μ ρ va vx w ha hbx hs => ?_⟩
      have := hbx.v_eq; subst this
      cases ha with
      | c hx => cases hx with
        | d hd => cases hd
        | @px _ _ _ _ rb hl hp hi =>
          obtain ⟨cur, ty, fz, h1, h2, h3, h4, h5, h6⟩ := obj_cells hs hl hp hb (by omega) ho
          obtain ⟨e1, e2, _⟩ := h4 hm
          subst e1; subst e2
          have hcell : vx.cells = #[vx] := by have := okC_one hy; cases vx <;> first | rfl | cases this
          have hrun := run_storeVar (P := P) (w := w) (t := t) ht (o := j + i) (ob := b.obj) ⟨_, h1, .inl rfl⟩ (by rw [hcell, hone]; rfl) (by omega) (by rw [hcell]; intro u hu; simp at hu; rw [hu]; exact okC_one hy)
          rw [hcell, hone] at hrun
          have hseg : (lget b.xs 0).take j ++ avPut i (.v vx) 0 (((lget b.xs 0).drop j).take n) ++ (lget b.xs 0).drop (j + n) = (lget b.xs 0).set (j + i) (.v vx) := by
            rw [avPut_eq i _ _ 0 (Nat.zero_le _) (by simp; omega), Nat.sub_zero]
            apply List.ext_getElem?
            intro q
            have ht1 : ((lget b.xs 0).take j).length = j := by simp; omega
            have ht2 : ((((lget b.xs 0).drop j).take n).set i (AV.v vx)).length = n := by simp; omega
            rcases Nat.lt_or_ge q j with hq | hq
            · rw [List.append_assoc, List.getElem?_append_left (by omega), List.getElem?_take, if_pos hq, List.getElem?_set_ne (by omega)]
            · rw [List.append_assoc, List.getElem?_append_right (by omega), ht1]
              rcases Nat.lt_or_ge (q - j) n with hq2 | hq2
              · rw [List.getElem?_append_left (by omega)]
                by_cases e : q = j + i
                · subst e
                  rw [show j + i - j = i by omega, List.getElem?_set_self (by simp; omega), List.getElem?_set_self (by omega)]
                · rw [List.getElem?_set_ne (by omega), List.getElem?_set_ne (by omega), List.getElem?_take, if_pos hq2, List.getElem?_drop, show j + (q - j) = q by omega]
              · rw [List.getElem?_append_right (by omega), ht2, List.getElem?_drop, List.getElem?_set_ne (by omega), show j + n + (q - j - n) = q by omega]
          have hval : cur.toList.take (j + i) ++ #[vx].toList ++ cur.toList.drop (j + i + 1) = cur.toList.set (j + i) vx := by
            apply List.ext_getElem?
            intro q
            have ht1 : (cur.toList.take (j + i)).length = j + i := by simp; omega
            rcases Nat.lt_or_ge q (j + i) with hq | hq
            · rw [List.append_assoc, List.getElem?_append_left (by omega), List.getElem?_take, if_pos hq, List.getElem?_set_ne (by omega)]
            · rw [List.append_assoc, List.getElem?_append_right (by omega), ht1]
              by_cases e : q = j + i
              · subst e
                rw [Nat.sub_self, List.getElem?_set_self (by simp; omega)]; rfl
              · rw [List.getElem?_append_right (by simp; omega), List.getElem?_set_ne (by omega), List.getElem?_drop]
                congr 1; simp; omega
          have hnew : CRs μ ρ ((lget b.xs 0).set (j + i) (.v vx)) (cur.toList.set (j + i) vx) := by
            refine ⟨by simp [h2], fun q u v hu hv => ?_⟩
            by_cases e : q = j + i
            · subst e
              rw [List.getElem?_set_self (by omega)] at hu
              rw [List.getElem?_set_self (by simp; omega)] at hv
              injection hu with hu; injection hv with hv
              subst hu; subst hv
              exact .d (.v hy)
            · rw [List.getElem?_set_ne (by omega)] at hu hv
              exact h3.2 q u v hu hv
          rw [hval] at hrun
          have hs' := hs.write hl hb hm hp [(lget b.xs 0).set (j + i) (.v vx)] cur (cur.toList.set (j + i) vx).toArray ⟨_, h1, .inl rfl⟩ (by rw [h5, h6, h2])
            (by rw [h5, h6]; simp [h2]) (by rw [((hs.blk l rb b hl hb (by omega)).one ho).1]; rfl) (fun e => absurd e (by simp [ho])) (fun _ => by
              refine ⟨fun e he => by simp at he; rw [he]; simp [h6], fun p e q c he hc => ?_⟩
              have hp0 : p = 0 := by have := (List.getElem?_eq_some_iff.1 he).1; simpa using this
              subst hp0
              simp at he; subst he
              have hlt : q < (cur.toList.set (j + i) vx).length := by rw [hnew.1]; exact (List.getElem?_eq_some_iff.1 hc).1
              refine ⟨_, ?_, hnew.2 q c _ hc (List.getElem?_eq_getElem hlt)⟩
              rw [Nat.zero_mul, Nat.zero_add, List.getElem?_toArray]
              exact List.getElem?_eq_getElem hlt)
          exact ⟨_, μ, hrun, grow_len (grow_same (fun e => by cases e) (by simp)) rfl (by simp), by rw [hseg]; exact hs'⟩
    · cases h
  · cases h
theorem evView_sound {R : Type} {K : AV → Store → Option R} {r : R} {t : TypeId} {a lo : AV} {hi : Option AV} (h : evView P σ K t a lo hi = some r) :
    ∃ av σ', K av σ' = some r ∧ σ.length ≤ σ'.length ∧ ∀ (E : Env) (μ : Mu) (ρ : Rho) (va vlo : Value) (vhi : Option Value) (w : World), VR μ ρ a va → VR μ ρ lo vlo → (∀ a, hi = some a → ∃ v, vhi = some v ∧ VR μ ρ a v) → SR E μ ρ σ w →
      ∃ v μ', (Instr.sliceAt t va (some vlo) vhi none).run P w = .ok v w ∧ Grow false μ ρ σ.length w μ' ρ σ'.length w ∧ VR μ' ρ av v ∧ SR E μ' ρ σ' w := by
  unfold evView at h
  split at h
  · rename_i n e l j kx x ky y hu
    split at h
    · rename_i b hb
      obtain ⟨hc, h⟩ := cond_some h
      obtain ⟨hh, h⟩ := cond_some h
      simp only [Bool.and_eq_true, decide_eq_true_eq] at hc hh
      obtain ⟨⟨⟨⟨⟨hm, ho⟩, hbs⟩, hI⟩, hlen⟩, hall⟩ := hc
      have hm := Nat.eq_of_beq_eq_true hm
      have hbs := Nat.eq_of_beq_eq_true hbs
      have hlen := Nat.le_of_ble_eq_true hlen
      obtain ⟨⟨h0, h1⟩, h2⟩ := hh
      refine ⟨_, _, h, by simp, fun E μ ρ va vlo vhi w ha hlo hv hs => ?_⟩
      obtain ⟨v', hv1, hv2⟩ := hv _ rfl
      have hv2 := hv2.v_eq
      have hlo := hlo.v_eq
      subst hv1; subst hv2; subst hlo
      obtain ⟨X, rfl⟩ : ∃ X : Nat, x = (X : Int) := ⟨x.toNat, by omega⟩
      obtain ⟨Y, rfl⟩ : ∃ Y : Nat, y = (Y : Int) := ⟨y.toNat, by omega⟩
      simp only [Int.toNat_natCast]
      cases ha with
      | c hx => cases hx with
        | d hd => cases hd
        | @ptr _ _ _ rb hl hp =>
          obtain ⟨μ', g1, g2, g3⟩ := hs.freezeX hl hb (by omega)
          have hget : (σ.set l { b with mode := 2 })[l]? = some { b with mode := 2 } := by
            rw [List.getElem?_set, if_pos rfl, if_pos (List.getElem?_eq_some_iff.1 hb).1]
          have hbl := g2.blk l rb _ hl hget (by simp)
          obtain ⟨cur, hcu⟩ := hbl.live hp
          obtain ⟨ty, fz, hmu⟩ : ∃ ty fz, μ' rb.b = some (.cells cur ty fz) := by
            rcases hcu.at_ with ⟨e, _⟩ | ⟨_, h⟩
            · simp at e
            · exact h
          have hrow := hcu.rowO ho
          obtain ⟨x0, hx0⟩ := List.length_eq_one_iff.1 (hbl.one ho).1
          have hx0 : b.xs = [x0] := hx0
          have hl0 : lget b.xs 0 = x0 := by rw [hx0]; rfl
          rw [hl0] at hlen hall ⊢
          have hcell : ∀ k c, j ≤ k → k < j + n → x0[k]? = some c → ∃ u, c = .v u ∧ cur[k]? = some u := fun k c hk1 hk2 hkc => by
            obtain ⟨u, hu1, hu2⟩ := hrow.2 0 x0 k c (by show b.xs[0]? = _; rw [hx0]; rfl) hkc
            rw [Nat.zero_mul, Nat.zero_add] at hu1
            have hmem : c ∈ (x0.drop j).take n := List.mem_of_getElem? (i := k - j) (by
              rw [List.getElem?_take, if_pos (by omega), List.getElem?_drop, show j + (k - j) = k by omega]; exact hkc)
            have hv := List.all_eq_true.1 hall c hmem
            cases c with
            | v z =>
              cases hu2 with
              | d hd => cases hd with
                | v _ => exact ⟨_, rfl, hu1⟩
            | _ => cases hv
          have hal : P.arrayLen t = n := by simp [Program.arrayLen, hu]
          have hel : P.elem t = e := by simp [Program.elem, hu]
          have hsz : (Go.sizeOf e).run P w = .ok 1 w := by
            cases hi : P.info? e with
            | none => rw [hi] at hI; cases hI
            | some i =>
              have : i.size = 1 := by rw [← hbs]; simp [Program.cellsOf, hi]
              simp [Go.sizeOf, typeInfo, hi, this]
          have hrun := run_sliceAt_array_lh (P := P) w t ⟨rb.b, 0 * rb.sz + j, none⟩ (by rw [hal, hel]; exact hu) kx ky (X : Int) (Y : Int) h0 h1 (by rw [hal]; exact h2)
          rw [hal, hel, hsz] at hrun
          refine ⟨_, μ', hrun, by rw [List.length_set]; exact grow_mu g1 (fun e => by cases e) _, .c (.d ?_), g2⟩
          have hlist : (((x0.drop (j + X)).take (Y - X)).map fun c => [c]).length = Y - X := by
            rw [List.length_map, List.length_take, List.length_drop]; omega
          have hval : slicedAt ⟨rb.b, 0 * rb.sz + j, none⟩ (X : Int).toNat (Y : Int).toNat n 1 = .slice (some (if n = X then ⟨rb.b, 0 * rb.sz + j, none⟩ else (⟨rb.b, 0 * rb.sz + j, none⟩ : Addr).add (X * 1))) (((x0.drop (j + X)).take (Y - X)).map fun c => [c]).length (n - X) := by
            rw [hlist]; simp [slicedAt]
          rw [hval]
          refine .lst (fun k _ => cur.getD (j + X + k) undef) rfl (fun e => by cases e) (by rw [hlist]; omega) (fun e he => ?_) (fun A e k j' hk hj' => ?_) (fun k e j' u he hu' => ?_)
          · obtain ⟨c, _, rfl⟩ := List.mem_map.1 he; rfl
          · injection e with e; subst e
            rw [hlist] at hk
            have hnX : n ≠ X := by omega
            have hj0 : j' = 0 := by omega
            subst hj0
            rw [if_neg hnX, Addr.add_lit, Addr.add_lit, muCell_at hmu]
            have hkk : j + X + k < x0.length := by omega
            obtain ⟨u, _, hu2⟩ := hcell (j + X + k) _ (by omega) (by omega) (List.getElem?_eq_getElem hkk)
            rw [show 0 * rb.sz + j + X * 1 + (k * 1 + 0) = j + X + k by omega, Array.getD_eq_getD_getElem?, hu2]; rfl
          · rw [List.getElem?_map, Option.map_eq_some_iff] at he
            obtain ⟨c, hc1, rfl⟩ := he
            rw [List.getElem?_take] at hc1
            split at hc1
            · rw [List.getElem?_drop] at hc1
              obtain ⟨u2, rfl, hu2⟩ := hcell (j + X + k) c (by omega) (by omega) hc1
              cases j' with
              | succ j' => simp at hu'
              | zero =>
                simp at hu'; subst hu'
                show DR μ' _ (cur.getD (j + X + k) undef)
                rw [Array.getD_eq_getD_getElem?, hu2]
                have : okC (.v u2) = true := by
                  obtain ⟨u3, hu3, hu4⟩ := hrow.2 0 x0 (j + X + k) (.v u2) (by show b.xs[0]? = _; rw [hx0]; rfl) hc1
                  cases hu4 with
                  | d hd => cases hd with
                    | v h => exact h
                exact .v this
            · cases hc1
    · cases h
  · cases h
theorem evEat_sound {R : Type} {K : AV → Store → Option R} {r : R} {t : TypeId} {a : AV} {hi : Option AV} (h : evEat P σ K t a hi = some r) :
    ∃ av σ', K av σ' = some r ∧ σ.length ≤ σ'.length ∧ ∀ (E : Env) (μ : Mu) (ρ : Rho) (va : Value) (vhi : Option Value) (w : World), VR μ ρ a va → (∀ a, hi = some a → ∃ v, vhi = some v ∧ VR μ ρ a v) → SR E μ ρ σ w → FreshTo ρ σ.length σ'.length →
      ∃ v ρ', (Instr.sliceAt t va none vhi none).run P w = .ok v w ∧ Grow false μ ρ σ.length w μ ρ' σ'.length w ∧ VR μ ρ' av v ∧ SR E μ ρ' σ' w := by
  unfold evEat at h
  split at h
  · rename_i e nil l k h' hu
    split at h
    · rename_i b hb
      obtain ⟨hc, h⟩ := cond_some h
      obtain ⟨hh, h⟩ := cond_some h
      simp only [Bool.and_eq_true, Bool.not_eq_true', decide_eq_true_eq] at hc hh
      obtain ⟨⟨⟨hm, ho⟩, hbs⟩, hI⟩ := hc
      have hm := Nat.eq_of_beq_eq_true hm
      have hbs := Nat.eq_of_beq_eq_true hbs
      obtain ⟨h0, h1⟩ := hh
      refine ⟨_, _, h, by simp, fun E μ ρ va vhi w ha hv hs hf => ?_⟩
      have hfr : Fresh ρ σ := hf.fresh (by simp)
      obtain ⟨v', hv1, hv2⟩ := hv _ rfl
      have hv2 := hv2.v_eq
      subst hv1; subst hv2
      obtain ⟨H, rfl⟩ : ∃ H : Nat, h' = (H : Int) := ⟨h'.toNat, by omega⟩
      have hH : H ≤ b.xs.length := by omega
      simp only [Int.toNat_natCast]
      cases ha with
      | c hx => cases hx with
        | d hd => cases hd
        | @sln _ _ _ rb hl hn _ _ =>
          have hbl := hs.blk l rb b hl hb (by omega)
          have hx0 : b.xs = [] := List.eq_nil_of_length_eq_zero (by rw [← hbl.n]; exact hn)
          have hH0 : H = 0 := by rw [hx0] at hH; simpa using hH
          subst hH0
          have hkl := hs.kill l { b with mode := 0 } rfl
          have hlenk : (σ.set l { b with mode := 0 }).length = σ.length := by simp
          have hfrk : Fresh ρ (σ.set l { b with mode := 0 }) := by unfold Fresh; rw [hlenk]; exact hfr
          obtain ⟨_, hs'⟩ := hkl.phantom hfrk b.ty b.sz
          rw [hlenk] at hs'
          rw [List.take_zero]
          refine ⟨.slice none 0 0, _, ?_, grow_set hfr _ _ _ w (fun e => by cases e) (fun e => by cases e) (Nat.le_refl _), .c (.sln (rhoAdd_same ρ σ.length ⟨0, 0, b.sz, 0, true⟩) rfl rfl (fun n hn => by cases hn)), hs'⟩
          have := run_sliceAt_slice (P := P) (w := w) hu hI (A := none) (n := 0) (c := 0) (lo := none) (hi := some (0 : Int)) (vlo := none) (vhi := some (.int k (0 : Int))) (.inl ⟨rfl, rfl⟩) (.inr ⟨k, 0, rfl, rfl⟩) (Nat.le_refl _) (by simp) (by simp) (by simp)
          simpa using this
        | @sl _ _ _ rb a len cap hl hp ha hlen hoff hcap hcsz =>
          have hbl := hs.blk l rb b hl hb (by omega)
          obtain ⟨cur, hc⟩ := hbl.live hp
          obtain ⟨fz, hheap⟩ : Has w rb.b cur b.ty (fxB b.obj b.sz) := by
            rcases hc.at_ with ⟨_, h2, _⟩ | ⟨h3, _⟩
            · exact h2
            · omega
          rw [ho] at hheap
          have ha' : a = ⟨rb.b, 0, none⟩ := by
            rcases ha with e1 | ⟨_, e1⟩
            · rw [e1, Nat.zero_mul]
            · omega
          subst ha'
          have hlx : len = b.xs.length := by rw [hlen, ← hbl.n]; simp [cutN]
          subst hlx
          rw [Nat.zero_add] at hcsz
          have hrow := (hc.rowD ho).take H
          rw [hbl.sz] at hrow hcsz
          have hcur : cap * b.sz = cur.size := by rw [hcsz, hc.size]
          have hfit : (b.xs.take H).length * b.sz ≤ cur.size := by
            rw [← hcur]; exact Nat.mul_le_mul_right _ (by rw [List.length_take]; omega)
          have hrow2 : RowD μ b.sz (b.xs.take H) cur := by
            have := hrow.app (L3 := cur.toList.drop (H * b.sz)) (L2 := []) (ys := []) (by
              rw [List.length_take, List.length_take, Array.length_toList, Nat.min_eq_left hH]
              exact Nat.min_eq_left (by rw [← hcur]; exact Nat.mul_le_mul_right _ (by omega))) RowD.nil
            rw [List.append_nil, List.append_nil, List.take_append_drop] at this
            simpa using this
          have hs' := hs.inplace hfr hl hb hm hp ⟨1, b.ty, b.sz, false, b.xs.take H⟩ cur rfl rfl cur ⟨fz, hheap⟩ rfl rfl rfl hrow2 hfit
          rw [setRow_self w rb.b cur b.ty fz hheap.1] at hs'
          refine ⟨.slice (some ⟨rb.b, 0, none⟩) H cap, _, ?_, grow_set hfr _ _ _ w (fun e => by cases e) (fun e => by cases e) (Nat.le_refl _), ?_, hs'⟩
          · have := run_sliceAt_slice (P := P) (w := w) hu hI (A := some ⟨rb.b, 0, none⟩) (n := b.xs.length) (c := cap) (lo := none) (hi := some (H : Int)) (vlo := none) (vhi := some (.int k (H : Int))) (.inl ⟨rfl, rfl⟩) (.inr ⟨k, H, rfl, rfl⟩) hcap (by simp) (by simp) (by simpa using h1)
            simpa [addr_add] using this
          · exact .c (.sl (rhoAdd_same ρ σ.length ⟨rb.b, cur.size, b.sz, (b.xs.take H).length, false⟩) rfl (.inl (by simp)) (by simp [cutN]; omega) (by simp; omega) (by omega) (by simpa using hcur))
    · cases h
  · cases h
end
end Go.Ev
namespace Go.Ev
variable [Gl]
def DomR (ρ : Rho) (n : Nat) : Prop := ∀ l rb, ρ l = some rb → l < n
def OpsR (μ : Mu) (ρ : Rho) (fr : List (Nat × AV)) (a : Act) (o : Oper) : Prop := ∀ x ∈ o.op.operands, VR μ ρ (getO fr x) (a.eval x)
def isFn (C : Cfg) (o : Oper) : Bool :=
  match o.op with
  | .call c => match c.callee with | .value (.func f) => !(isMv C f) | .value _ => true | _ => false
  | _ => false
def OpSnd (P : Program) (C : Cfg) (q : Bool) (o : Oper) (fr : List (Nat × AV)) (σ : Store) (av : AV) (σ' : Store) : Prop :=
  ∀ (E : Env) (μ : Mu) (ρ : Rho) (a : Act) (w : World) (next : Act → World → Prop) (Q : Exit → Act → World → Prop), OpsR μ ρ fr a o → SR E μ ρ σ w → FreshTo ρ σ.length σ'.length → (q = false → isFn C o = true → DomR ρ σ.length) →
    (∀ (v : Value) (w' : World) (μ' : Mu) (ρ' : Rho), Grow q μ ρ σ.length w μ' ρ' σ'.length w' → VR μ' ρ' av v → SR E μ' ρ' σ' w' → next (a.put o.dst v) w') → o.wp P a w next Q
def callQ (P : Program) (C : Cfg) (f : FuncId) : Bool :=
  match P.funcs[f]? with
  | some fn => !(C.inl f || (C.rw f).any id || leaky P C f fn)
  | none => false
def PrS (P : Program) (C : Cfg) : Prop := ∀ f g, C.pr f = some g → ∀ xs, g.1 xs = true → (∀ x ∈ g.2 xs, okC (.v x) = true) ∧ ∀ w, (callFunc f xs.toArray).run P w = .ok (.value (.tuple (g.2 xs).toArray)) w
def GlS (C : Cfg) : Prop := ∀ k cs, C.gl k = some cs → ∀ μ, Gl.ok μ → DR μ (.ep cs 0) (.pointer (some ⟨k, 0, none⟩))
def CallHyp (P : Program) (C : Cfg) (call : CallT) (inl : InlT) : Prop :=
  (GlS C ∧ PrS P C) ∧ ∀ (R : Type) (σ : Store) (K : AV → Store → Option R) (r : R) (f : FuncId) (args : List AV), evCall P C call inl σ K f args = some r →
    ∃ av σ', K av σ' = some r ∧ σ.length ≤ σ'.length ∧ (callQ P C f = true → ∃ τ, σ' = σ ++ τ) ∧ (∃ fn, P.funcs[f]? = some fn ∧ fn.body.isNone = false ∧ (fn.name == "runtime.NumGoroutine") = false) ∧
      ∀ (E : Env) (μ : Mu) (ρ : Rho) (vals : List Value) (w : World), vals.length = args.length → (∀ (k : Nat) (a : AV) (v : Value), args[k]? = some a → vals[k]? = some v → VR μ ρ a v) → SR E μ ρ σ w → FreshTo ρ σ.length σ'.length → (callQ P C f = false → isMv C f = false → DomR ρ σ.length) →
        Calls P f vals.toArray w fun e w' => ∃ v μ' ρ', e = .returned v ∧ Grow (callQ P C f) μ ρ σ.length w μ' ρ' σ'.length w' ∧ VR μ' ρ' av v ∧ SR E μ' ρ' σ' w'
section
variable {P : Program} {C : Cfg} {call : CallT} {inl : InlT} {o : Oper} {fr : List (Nat × AV)} {σ : Store} {R : Type} {K : AV → Store → Option R} {r : R}
def quietB (P : Program) (C : Cfg) (o : Oper) : Bool := !(Nat.beq (opClass P C o) 2)
theorem snd_value {q : Bool} {av : AV} {σ' : Store} (h : ∀ (E : Env) (μ : Mu) (ρ : Rho) (a : Act) (w : World), OpsR μ ρ fr a o → SR E μ ρ σ w → FreshTo ρ σ.length σ'.length →
    ∃ v w' μ' ρ', (execOp a.eval o).run P w = .ok (.value v) w' ∧ Grow q μ ρ σ.length w μ' ρ' σ'.length w' ∧ VR μ' ρ' av v ∧ SR E μ' ρ' σ' w') : OpSnd P C q o fr σ av σ' := by
  intro E μ ρ a w next Q hx hs hf _ hn
  obtain ⟨v, w', μ', ρ', h1, h2, h3, h4⟩ := h E μ ρ a w hx hs hf
  unfold Oper.wp
  rw [h1]
  exact hn v w' μ' ρ' h2 h3 h4
theorem snd_skip {q : Bool} {av : AV} {σ' : Store} (h : ∀ (E : Env) (μ : Mu) (ρ : Rho) (a : Act) (w : World), OpsR μ ρ fr a o → SR E μ ρ σ w → FreshTo ρ σ.length σ'.length →
    ∃ w' μ' ρ', (execOp a.eval o).run P w = .ok .skip w' ∧ Grow q μ ρ σ.length w μ' ρ' σ'.length w' ∧ VR μ' ρ' av undef ∧ SR E μ' ρ' σ' w') : OpSnd P C q o fr σ av σ' := by
  intro E μ ρ a w next Q hx hs hf _ hn
  obtain ⟨w', μ', ρ', h1, h2, h3, h4⟩ := h E μ ρ a w hx hs hf
  unfold Oper.wp
  rw [h1]
  exact hn undef w' μ' ρ' h2 h3 h4
theorem snd_read {q : Bool} {av : AV} (h : ∀ (E : Env) (μ : Mu) (ρ : Rho) (a : Act) (w : World), OpsR μ ρ fr a o → SR E μ ρ σ w → ∃ v, (execOp a.eval o).run P w = .ok (.value v) w ∧ VR μ ρ av v) : OpSnd P C q o fr σ av σ :=
  snd_value fun E μ ρ a w hx hs _ => let ⟨v, h1, h2⟩ := h E μ ρ a w hx hs; ⟨v, w, μ, ρ, h1, .refl _ _ _ _ _, h2, hs⟩
def OpOut (P : Program) (C : Cfg) (o : Oper) (fr : List (Nat × AV)) (σ : Store) (K : AV → Store → Option R) (r : R) : Prop :=
  ∃ av σ', K av σ' = some r ∧ σ.length ≤ σ'.length ∧ (quietB P C o = true → ∃ τ, σ' = σ ++ τ) ∧ OpSnd P C (quietB P C o) o fr σ av σ'
theorem out_read {av : AV} (hk : K av σ = some r) (h : ∀ (E : Env) (μ : Mu) (ρ : Rho) (a : Act) (w : World), OpsR μ ρ fr a o → SR E μ ρ σ w → ∃ v, (execOp a.eval o).run P w = .ok (.value v) w ∧ VR μ ρ av v) : OpOut P C o fr σ K r :=
  ⟨av, σ, hk, Nat.le_refl _, fun _ => ⟨[], by simp⟩, snd_read h⟩
theorem phantom_out {e : TypeId} {x : Operand} (ho : o.op = .move x ∨ o.op = .assign x) (hn : x = .const (.slice none 0 0)) (hk : K (phantom P σ e).1 (phantom P σ e).2 = some r) : OpOut P C o fr σ K r := by
  refine ⟨_, _, hk, by simp [phantom], fun _ => ⟨_, rfl⟩, snd_value fun E μ ρ a w hxx hs hf => ?_⟩
  have hfr : Fresh ρ σ := hf.fresh (by simp [phantom])
  obtain ⟨_, hs'⟩ := hs.phantom hfr e (P.cellsOf e)
  refine ⟨.slice none 0 0, w, μ, _, ?_, grow_add hfr _ _ w (fun _ => .inl rfl) (fun _ _ _ => rfl) (Nat.le_refl _), .c (.sln (rhoAdd_same ρ σ.length ⟨0, 0, P.cellsOf e, 0, true⟩) rfl rfl (fun n hn => by cases hn)), hs'⟩
  subst hn
  rcases ho with ho | ho <;> simp [execOp, ho, Act.eval]
theorem run_skip {P : Program} {s : Sem Unit} {w w' : World} (h : s.run P w = .ok () w') : (do s; pure .skip : Sem Next).run P w = .ok .skip w' := by
  simp only [Sem.run_bind, h, Result.andThen_ok, Sem.run_pure]
theorem opsr_getElem {parts : Array (Nat × Operand)} {μ : Mu} {ρ : Rho} {a : Act} (h : ∀ x ∈ (parts.toList.map (·.2)).toArray, VR μ ρ (getO fr x) (a.eval x)) :
    (parts.toList.map fun (i, x) => (i, getO fr x)).length = (parts.map fun (i, x) => (i, a.eval x)).size ∧
      ∀ (q i : Nat) (av : AV), (parts.toList.map fun (i, x) => (i, getO fr x))[q]? = some (i, av) → ∃ v : Value, (parts.map fun (i, x) => (i, a.eval x)).toList[q]? = some (i, v) ∧ VR μ ρ av v := by
  refine ⟨by simp, fun q i av hq => ?_⟩
  simp only [List.getElem?_map, Option.map_eq_some_iff] at hq
  obtain ⟨⟨i', x⟩, h1, h2⟩ := hq
  simp only [Prod.mk.injEq] at h2
  obtain ⟨e1, e2⟩ := h2; subst e1; subst e2
  refine ⟨a.eval x, ?_, h x ?_⟩
  · simp only [Array.toList_map, List.getElem?_map, h1, Option.map_some]
  · simp only [List.mem_toArray, List.mem_map]
    exact ⟨(i', x), List.mem_of_getElem? h1, rfl⟩
theorem mem2 {x y z : Operand} (h : z = x ∨ z = y) : z ∈ (#[x, y] : Array Operand) := by
  rcases h with h | h <;> simp [h]
theorem mem1 {x : Operand} : x ∈ (#[x] : Array Operand) := by simp
theorem quiet_slice {t : TypeId} (ho : (∃ n ps, o.op = .buildSlice t n ps) ∨ (∃ x y, o.op = .makeSlice t x y)) (hq : quietB P C o = true) : rowQ P t = true := by
  rcases ho with ⟨n, ps, ho⟩ | ⟨x, y, ho⟩ <;>
  · simp only [quietB, opClass, ho] at hq
    split at hq
    · rename_i e hu
      rw [rowQ, hu]
      cases hp : plainT P e with
      | true => exact hp
      | false => rw [hp] at hq; cases hq
    · cases hq
theorem grow_q {q q' : Bool} {μ μ' : Mu} {ρ ρ' : Rho} {n n' : Nat} {w w' : World} (hq : q = true → q' = true) (h : Grow q' μ ρ n w μ' ρ' n' w') : Grow q μ ρ n w μ' ρ' n' w' := by
  cases q with
  | true => rw [hq rfl] at h; exact h
  | false =>
    cases q' with
    | true => exact h.loud
    | false => exact h
theorem plain_all : ∀ {l : List AV} {xs : List Value}, l.mapM plainV = some xs → l = xs.map .v
  | [], xs, h => by rw [List.mapM_nil] at h; cases h; rfl
  | a :: l, xs, h => by
    rw [List.mapM_cons] at h
    cases a with
    | v x =>
      simp only [plainV] at h
      cases hl : l.mapM plainV with
      | none => rw [hl] at h; cases h
      | some ys =>
        rw [hl] at h
        cases h
        rw [plain_all hl]; rfl
    | _ => cases h
theorem evPr_out (HP : PrS P C) {c : Call} {f : Operand} {fn : FuncId} {first caps : List AV} {pg : (List Value → Bool) × (List Value → List Value)} (ho : o.op = .call c) (hcal : c.callee = .value f) (hg : getO fr f = .clo fn first caps) (hpg : C.pr fn = some pg)
    (h : evPr pg σ K (first ++ c.args.toList.map (getO fr) ++ caps) = some r) : OpOut P C o fr σ K r := by
  unfold evPr at h
  split at h
  · cases h
  · rename_i xs hxs
    obtain ⟨hc, h⟩ := cond_some h
    obtain ⟨hok, hrun⟩ := HP fn pg hpg xs hc
    have hpl := plain_all hxs
    refine out_read h fun E μ ρ a w hx hsr => ?_
    rw [OpsR, ho] at hx
    have hfv := hx f (by simp [Op.operands, Call.operands, hcal])
    rw [hg] at hfv
    generalize hv : a.eval f = v at hfv
    have hclo : ∃ fs cs : List Value, v = .func (.func fn) fs.toArray cs.toArray ∧ CRs μ ρ first fs ∧ CRs μ ρ caps cs := by
      cases hfv with
      | c hx => cases hx with
        | d hd => cases hd with
          | clo h1 h2 h3 h4 => exact ⟨_, _, rfl, ⟨h1, fun k u v hu hv => .d (h3 k u v hu hv)⟩, ⟨h2, fun k u v hu hv => .d (h4 k u v hu hv)⟩⟩
        | clo h1 h2 h3 h4 => exact ⟨_, _, rfl, ⟨h1, h3⟩, ⟨h2, h4⟩⟩
    obtain ⟨fs, cs, hve, hfs, hcs⟩ := hclo
    subst hve
    have hrel : ∀ (k : Nat) (u : AV) (v : Value), (first ++ c.args.toList.map (getO fr) ++ caps)[k]? = some u → (fs ++ c.args.toList.map a.eval ++ cs)[k]? = some v → VR μ ρ u v := by
      intro k u v hu hv'
      rcases Nat.lt_or_ge k first.length with h1 | h1
      · rw [List.append_assoc, List.getElem?_append_left h1] at hu
        rw [List.append_assoc, List.getElem?_append_left (by rw [hfs.1]; exact h1)] at hv'
        exact .c (hfs.2 k u v hu hv')
      · rw [List.append_assoc, List.getElem?_append_right h1] at hu
        rw [List.append_assoc, List.getElem?_append_right (by rw [hfs.1]; exact h1), hfs.1] at hv'
        rcases Nat.lt_or_ge (k - first.length) c.args.toList.length with h2 | h2
        · rw [List.getElem?_append_left (by simpa using h2)] at hu hv'
          simp only [List.getElem?_map, Option.map_eq_some_iff] at hu hv'
          obtain ⟨x, hx1, hx2⟩ := hu
          obtain ⟨y, hy1, hy2⟩ := hv'
          rw [hx1] at hy1; injection hy1 with hy1; subst hy1; subst hx2; subst hy2
          refine hx x ?_
          simp only [Op.operands, Call.operands, hcal, Array.mem_append]
          exact .inr (Array.mem_toList_iff.1 (List.mem_of_getElem? hx1))
        · rw [List.getElem?_append_right (by simpa using h2)] at hu hv'
          simp only [List.length_map] at hu hv'
          exact .c (hcs.2 _ u v hu hv')
    have hlen : (fs ++ c.args.toList.map a.eval ++ cs).length = xs.length := by
      have := congrArg List.length hpl
      simp only [List.length_append, List.length_map] at this ⊢
      rw [hfs.1, hcs.1]; exact this
    have hvals : fs ++ c.args.toList.map a.eval ++ cs = xs := by
      refine List.ext_getElem hlen fun k h1 h2 => ?_
      have := hrel k (.v xs[k]) _ (by rw [hpl]; simp [h2]) (List.getElem?_eq_getElem h1)
      exact this.v_eq
    refine ⟨.tuple (pg.2 xs).toArray, ?_, .tup (by simp) fun k u v hu hv' => ?_⟩
    · simp only [execOp, ho, resolve, hcal, hv, Deferred.ofValue, Sem.run_bind, Sem.run_pure, Result.andThen_ok, invoke]
      refine (congrArg (fun z => (callFunc fn z).run P w) ?_).trans (hrun w)
      apply Array.ext'
      simpa using hvals
    · rw [List.getElem?_map, hv'] at hu
      simp only [Option.map_some, Option.some.injEq] at hu
      subst hu
      exact .c (.d (.v (hok v (List.mem_of_getElem? hv'))))
theorem evOp_sound (HC : CallHyp P C call inl) (h : evOp P C call inl o fr σ K = some r) : OpOut P C o fr σ K r := by
  by_cases hc : opClass P C o = 0
  · obtain ⟨av, hk, hp⟩ := evOp_pure h hc
    exact out_read hk fun E μ ρ a w hx _ => hp μ ρ a w hx
  cases ho : o.op with
  | move x =>
    simp only [evOp, ho] at h
    split at h
    · split at h
      · exact phantom_out (.inl ho) rfl h
      · cases h
    · exact out_read h fun E μ ρ a w hx _ => move_pure (.inl ho) μ ρ a w hx
  | assign x =>
    simp only [evOp, ho] at h
    split at h
    · split at h
      · exact phantom_out (.inr ho) rfl h
      · cases h
    · exact out_read h fun E μ ρ a w hx _ => move_pure (.inr ho) μ ρ a w hx
  | alloc t =>
    simp only [evOp, ho] at h
    obtain ⟨av, τ, hk, hs⟩ := evAlloc_sound h
    have hq : quietB P C o = true := by simp only [quietB, opClass, ho]; rfl
    refine ⟨av, _, hk, by simp, fun _ => ⟨τ, rfl⟩, snd_value fun E μ ρ a w _ hsr hf => ?_⟩
    obtain ⟨v, w', ρ', h1, h2, h3, h4⟩ := hs E μ ρ w hsr hf
    exact ⟨v, w', μ, ρ', by simp only [execOp, ho]; exact run_value h1, by rw [hq]; exact h2, h3, h4⟩
  | box t x =>
    simp only [evOp, ho] at h
    obtain ⟨av, τ, hk, hs⟩ := evBox_sound h
    have hq : quietB P C o = true := by simp only [quietB, opClass, ho]; rfl
    refine ⟨av, _, hk, by simp, fun _ => ⟨τ, rfl⟩, snd_value fun E μ ρ a w hx hsr hf => ?_⟩
    obtain ⟨v, w', ρ', h1, h2, h3, h4⟩ := hs E μ ρ _ w (hx x (by rw [ho]; exact mem1)) hsr hf
    exact ⟨v, w', μ, ρ', by simp only [execOp, ho]; exact run_value h1, by rw [hq]; exact h2, h3, h4⟩
  | build t parts =>
    simp only [evOp, ho] at h
    obtain ⟨av, τ, hk, hs⟩ := evBuild_sound h
    have hq : quietB P C o = true := by simp only [quietB, opClass, ho]; rfl
    refine ⟨av, _, hk, by simp, fun _ => ⟨τ, rfl⟩, snd_value fun E μ ρ a w hx hsr hf => ?_⟩
    have hx' : ∀ x ∈ (parts.toList.map (·.2)).toArray, VR μ ρ (getO fr x) (a.eval x) := fun x hm => hx x (by rw [ho]; exact hm)
    obtain ⟨v, ρ', h1, h2, h3, h4⟩ := hs E μ ρ _ w (opsr_getElem hx').1 (opsr_getElem hx').2 hsr hf
    exact ⟨v, w, μ, ρ', by simp only [execOp, ho]; exact run_value h1, by rw [hq]; exact h2, h3, h4⟩
  | buildSlice t n parts =>
    simp only [evOp, ho] at h
    obtain ⟨av, σ', hk, hln, hpre, hs⟩ := evBuildSlice_sound h
    refine ⟨av, σ', hk, hln, fun hq => hpre (quiet_slice (.inl ⟨_, _, ho⟩) hq), snd_value fun E μ ρ a w hx hsr hf => ?_⟩
    have hx' : ∀ x ∈ (parts.toList.map (·.2)).toArray, VR μ ρ (getO fr x) (a.eval x) := fun x hm => hx x (by rw [ho]; exact hm)
    obtain ⟨v, w', μ', ρ', h1, h2, h3, h4⟩ := hs E μ ρ _ w (opsr_getElem hx').1 (opsr_getElem hx').2 hsr hf
    exact ⟨v, w', μ', ρ', by simp only [execOp, ho]; exact run_value h1, grow_q (fun hq => quiet_slice (.inl ⟨_, _, ho⟩) hq) h2, h3, h4⟩
  | load t x =>
    simp only [evOp, ho] at h
    obtain ⟨av, hk, hs⟩ := evLoad_sound h
    refine out_read hk fun E μ ρ a w hx hsr => ?_
    have hva : VR μ ρ (adr C (getO fr) x) (a.eval x) := by
      cases x with
      | global k =>
        simp only [adr]
        cases hk : C.gl k with
        | none => exact .un
        | some cs => exact .c (.d (HC.1.1 k cs hk μ hsr.gl))
      | _ => exact hx _ (by rw [ho]; exact mem1)
    obtain ⟨v, h1, h2⟩ := hs E μ ρ _ w hva hsr
    exact ⟨v, by simp only [execOp, ho]; exact run_value h1, h2⟩
  | store t x y =>
    simp only [evOp, ho] at h
    obtain ⟨σ', hk, hln, hs⟩ := evStore_sound h
    have hq : quietB P C o = false := by simp only [quietB, opClass, ho]; rfl
    refine ⟨.un, σ', hk, hln, fun e => (by rw [hq] at e; cases e), snd_skip fun E μ ρ a w hx hsr _ => ?_⟩
    obtain ⟨w', μ', h1, h2, h3⟩ := hs E μ ρ _ _ w (hx x (by rw [ho]; exact mem2 (.inl rfl))) (hx y (by rw [ho]; exact mem2 (.inr rfl))) hsr
    exact ⟨w', μ', ρ, by simp only [execOp, ho]; exact run_skip h1, by rw [hq]; exact h2, .un, h3⟩
  | convert src dst x =>
    simp only [evOp, ho] at h
    rcases cond_or h with ⟨hsl, h⟩ | ⟨hsl, h⟩
    · obtain ⟨av, hk, hs⟩ := evMark_sound h hsl
      have hq : quietB P C o = false := by simp only [quietB, opClass, ho, hsl]; rfl
      refine ⟨av, σ, hk, Nat.le_refl _, fun e => (by rw [hq] at e; cases e), snd_value fun E μ ρ a w hx hsr hf => ?_⟩
      obtain ⟨v, w', h1, h2, h3, h4⟩ := hs E μ ρ _ w (hx x (by rw [ho]; exact mem1)) hsr
      refine ⟨v, w', μ, ρ, by simp only [execOp, ho]; exact run_value h1, ?_, h2, h3⟩
      rw [hq]
      exact ⟨MuLe.refl μ, RhoLe.refl ρ, Nat.le_refl _, fun _ _ h => .inl h, fun e => (by cases e), h4, fun e => (by cases e)⟩
    obtain ⟨av, σ', hk, hln, hpre, hs⟩ := evConv_sound h
    have hq : quietB P C o = true := by simp only [quietB, opClass, ho, hsl]; rfl
    refine ⟨av, σ', hk, hln, fun _ => hpre, snd_value fun E μ ρ a w hx hsr hf => ?_⟩
    obtain ⟨v, w', ρ', h1, h2, h3, h4⟩ := hs E μ ρ _ w (hx x (by rw [ho]; exact mem1)) hsr hf
    exact ⟨v, w', μ, ρ', by simp only [execOp, ho]; exact run_value h1, by rw [hq]; exact h2, h3, h4⟩
  | indexAddr t x i =>
    simp only [evOp, ho] at h
    obtain ⟨av, hk, hs⟩ := evIndexAddr_sound h
    refine out_read hk fun E μ ρ a w hx hsr => ?_
    obtain ⟨v, h1, h2⟩ := hs E μ ρ _ _ w (hx x (by rw [ho]; exact mem2 (.inl rfl))) (hx i (by rw [ho]; exact mem2 (.inr rfl))) hsr
    exact ⟨v, by simp only [execOp, ho]; exact run_value h1, h2⟩
  | slice t x lo hi mx =>
    cases mx with
    | some m => simp only [evOp, ho] at h; cases h
    | none =>
      simp only [evOp, ho] at h
      rcases cond_or h with ⟨heat, h9⟩ | ⟨heat, h9⟩
      · cases lo with
        | some y =>
          obtain ⟨av, σ', hk, hln, hs⟩ := evView_sound h9
          have hq : quietB P C o = false := by simp only [quietB, opClass, ho, heat]; rfl
          refine ⟨av, σ', hk, hln, fun e => (by rw [hq] at e; cases e), snd_value fun E μ ρ a w hx hsr hf => ?_⟩
          rw [OpsR, ho] at hx
          have hx0 := hx x (by simp [Op.operands])
          have hhi : ∀ y, hi = some y → VR μ ρ (getO fr y) (a.eval y) := fun y e => hx y (by simp [Op.operands, e])
          obtain ⟨v, μ', h1, h2, h3, h4⟩ := hs E μ ρ (a.eval x) (a.eval y) (hi.map a.eval) w hx0 (hx y (by simp [Op.operands])) (fun b hb => by
            cases hi with
            | none => cases hb
            | some z => injection hb with hb; subst hb; exact ⟨_, rfl, hhi z rfl⟩) hsr
          exact ⟨v, w, μ', ρ, by simp only [execOp, ho]; exact run_value h1, by rw [hq]; exact h2, h3, h4⟩
        | none =>
        obtain ⟨av, σ', hk, hln, hs⟩ := evEat_sound h9
        have hq : quietB P C o = false := by simp only [quietB, opClass, ho, heat]; rfl
        refine ⟨av, σ', hk, hln, fun e => (by rw [hq] at e; cases e), snd_value fun E μ ρ a w hx hsr hf => ?_⟩
        rw [OpsR, ho] at hx
        have hx0 := hx x (by simp [Op.operands])
        have hhi : ∀ y, hi = some y → VR μ ρ (getO fr y) (a.eval y) := fun y e => hx y (by simp [Op.operands, e])
        obtain ⟨v, ρ', h1, h2, h3, h4⟩ := hs E μ ρ (a.eval x) (hi.map a.eval) w hx0 (fun b hb => by
          cases hi with
          | none => cases hb
          | some y => injection hb with hb; subst hb; exact ⟨_, rfl, hhi y rfl⟩) hsr hf
        exact ⟨v, w, μ, ρ', by simp only [execOp, ho]; exact run_value h1, by rw [hq]; exact h2, h3, h4⟩
      obtain ⟨av, hk, hs⟩ := evSlice_sound h9
      refine out_read hk fun E μ ρ a w hx hsr => ?_
      rw [OpsR, ho] at hx
      have hx0 := hx x (by simp [Op.operands])
      have hlo : ∀ y, lo = some y → VR μ ρ (getO fr y) (a.eval y) := fun y e => hx y (by simp [Op.operands, e])
      have hhi : ∀ y, hi = some y → VR μ ρ (getO fr y) (a.eval y) := fun y e => hx y (by simp [Op.operands, e])
      obtain ⟨v, h1, h2⟩ := hs E μ ρ (a.eval x) (lo.map a.eval) (hi.map a.eval) w hx0 (fun b hb => by
        cases lo with
        | none => cases hb
        | some y => injection hb with hb; subst hb; exact ⟨_, rfl, hlo y rfl⟩) (fun e => by cases lo <;> first | rfl | cases e) (fun b hb => by
        cases hi with
        | none => cases hb
        | some y => injection hb with hb; subst hb; exact ⟨_, rfl, hhi y rfl⟩) (fun e => by cases hi <;> first | rfl | cases e) hsr
      exact ⟨v, by simp only [execOp, ho, Option.map_none]; exact run_value h1, h2⟩
  | makeSlice t x y =>
    simp only [evOp, ho] at h
    obtain ⟨av, σ', hk, hln, hpre, hs⟩ := evMakeSlice_sound h
    refine ⟨av, σ', hk, hln, fun hq => hpre (quiet_slice (.inr ⟨_, _, ho⟩) hq), snd_value fun E μ ρ a w hx hsr hf => ?_⟩
    obtain ⟨v, w', μ', ρ', h1, h2, h3, h4⟩ := hs E μ ρ _ _ w (hx x (by rw [ho]; exact mem2 (.inl rfl))) (hx y (by rw [ho]; exact mem2 (.inr rfl))) hsr hf
    exact ⟨v, w', μ', ρ', by simp only [execOp, ho]; exact run_value h1, grow_q (fun hq => quiet_slice (.inr ⟨_, _, ho⟩) hq) h2, h3, h4⟩
  | call c =>
    simp only [evOp, ho] at h
    have hxa : ∀ (E : Prop) {x : Operand}, x ∈ c.operands → x ∈ o.op.operands := fun _ x hm => by rw [ho]; exact hm
    split at h
    · rename_i hcal
      split at h
      · rename_i x t hargs hty
        obtain ⟨av, hk, hs⟩ := evLen_sound h
        refine out_read hk fun E μ ρ a w hx hsr => ?_
        obtain ⟨cs, hb⟩ := run_builtin (P := P) ho hcal a
        have hargs' := args_list hargs
        have hty' := args_list hty
        obtain ⟨v, h1, h2⟩ := hs E μ ρ _ o.type w (hx x (hxa True (by simp [Call.operands, hcal, hargs']))) hsr
        refine ⟨v, ?_, h2⟩
        rw [hb, hargs', hty']
        exact run_value (by simpa using h1)
      · cases h
    · rename_i hcal
      split at h
      · rename_i x y t u hargs hty
        obtain ⟨av, σ', hk, hln, hs⟩ := evAppend_sound h
        have hq : quietB P C o = false := by simp only [quietB, opClass, ho, hcal]; rfl
        refine ⟨av, σ', hk, hln, fun e => (by rw [hq] at e; cases e), snd_value fun E μ ρ a w hx hsr hf => ?_⟩
        obtain ⟨cs, hb⟩ := run_builtin (P := P) ho hcal a
        have hargs' := args_list hargs
        have hty' := args_list hty
        obtain ⟨v, w', ρ', h1, h2, h3, h4⟩ := hs E μ ρ _ _ o.type w (hx x (hxa True (by simp [Call.operands, hcal, hargs']))) (hx y (hxa True (by simp [Call.operands, hcal, hargs']))) hsr hf
        refine ⟨v, w', μ, ρ', ?_, by rw [hq]; exact h2, h3, h4⟩
        rw [hb, hargs', hty']
        exact run_value (by simpa using h1)
      · cases h
    · rename_i hcal
      split at h
      · rename_i x y t u hargs hty
        obtain ⟨av, σ', hk, hln, hs⟩ := evCopy_sound (t2 := u) h
        have hq : quietB P C o = false := by simp only [quietB, opClass, ho, hcal]; rfl
        refine ⟨av, σ', hk, hln, fun e => (by rw [hq] at e; cases e), snd_value fun E μ ρ a w hx hsr hf => ?_⟩
        obtain ⟨cs, hb⟩ := run_builtin (P := P) ho hcal a
        have hargs' := args_list hargs
        have hty' := args_list hty
        obtain ⟨v, w', h1, h2, h3, h4⟩ := hs E μ ρ _ _ o.type w (hx x (hxa True (by simp [Call.operands, hcal, hargs']))) (hx y (hxa True (by simp [Call.operands, hcal, hargs']))) hsr
        refine ⟨v, w', μ, ρ, ?_, by rw [hq]; exact h2, h3, h4⟩
        rw [hb, hargs', hty']
        exact run_value (by simpa using h1)
      · cases h
    · rename_i hcal; exact absurd (by simp only [opClass, ho, hcal]) hc
    · rename_i hcal; exact absurd (by simp only [opClass, ho, hcal]) hc
    · rename_i f hcal
      split at h
      · rename_i fn first caps hg
        split at h
        · rename_i pg hpg
          exact evPr_out HC.1.2 ho hcal hg hpg h
        rename_i h9
        replace h9 := h
        obtain ⟨av, σ', hk, hln, hpre, ⟨fd, hfd, hbody, hname⟩, hs⟩ := HC.2 _ _ _ _ _ _ h9
        have hqq : quietB P C o = true → callQ P C fn = true := fun hq => by
          cases f with
          | func f' =>
            simp only [getO, AV.clo.injEq] at hg
            obtain ⟨e, _, _⟩ := hg
            subst e
            simp only [quietB, opClass, ho, hcal, hfd] at hq
            simp only [callQ, hfd]
            cases hb : (C.inl f' || (C.rw f').any id || leaky P C f' fd) with
            | true => rw [hb] at hq; cases hq
            | false => rfl
          | _ => simp only [quietB, opClass, ho, hcal] at hq; cases hq
        refine ⟨av, σ', hk, hln, fun hq => hpre (hqq hq), ?_⟩
        intro E μ ρ a w next Q hx hsr hf hdm hn
        have hfv := hx f (hxa True (by simp [Call.operands, hcal]))
        rw [hg] at hfv
        generalize hv : a.eval f = v at hfv
        have hclo : ∃ fs cs : List Value, v = .func (.func fn) fs.toArray cs.toArray ∧ CRs μ ρ first fs ∧ CRs μ ρ caps cs := by
          cases hfv with
          | c hx => cases hx with
            | d hd => cases hd with
              | clo h1 h2 h3 h4 => exact ⟨_, _, rfl, ⟨h1, fun k u v hu hv => .d (h3 k u v hu hv)⟩, ⟨h2, fun k u v hu hv => .d (h4 k u v hu hv)⟩⟩
            | clo h1 h2 h3 h4 => exact ⟨_, _, rfl, ⟨h1, h3⟩, ⟨h2, h4⟩⟩
        obtain ⟨fs, cs, hve, hfs, hcs⟩ := hclo
        subst hve
        have hex : (execOp a.eval o).run P w = .ok (.enter fn (fs ++ c.args.toList.map a.eval ++ cs).toArray) w := by
          have hb' : fd.body.isNone = false := hbody
          simp only [execOp, ho, resolve, hcal, hv, Deferred.ofValue, Sem.run_bind, Sem.run_pure, Result.andThen_ok, invoke, callFunc, run_program, hfd, hname, hb', Bool.false_eq_true, if_false]
          congr 2
          apply Array.ext'
          simp
        unfold Oper.wp
        rw [hex, Oper.upon_enter]
        refine Calls.mono (hs E μ ρ _ w ?_ ?_ hsr hf fun e e2 => hdm (by
          cases hq : quietB P C o with
          | true => rw [hqq hq] at e; cases e
          | false => rfl) (by
            simp only [isFn, ho, hcal]
            split
            · rename_i f' hc2
              obtain rfl := Callee.value.inj hc2
              simp only [getO, AV.clo.injEq] at hg
              obtain ⟨rfl, _, _⟩ := hg
              rw [e2]; rfl
            · rfl
            · rename_i h1 h2
              exact absurd rfl (h2 _))) fun e w' he => ?_
        · simp [hfs.1, hcs.1]
        · intro k u v hu hv'
          rcases Nat.lt_or_ge k first.length with h1 | h1
          · rw [List.append_assoc, List.getElem?_append_left h1] at hu
            rw [List.append_assoc, List.getElem?_append_left (by rw [hfs.1]; exact h1)] at hv'
            exact .c (hfs.2 k u v hu hv')
          · rw [List.append_assoc, List.getElem?_append_right h1] at hu
            rw [List.append_assoc, List.getElem?_append_right (by rw [hfs.1]; exact h1), hfs.1] at hv'
            rcases Nat.lt_or_ge (k - first.length) c.args.toList.length with h2 | h2
            · rw [List.getElem?_append_left (by simpa using h2)] at hu hv'
              simp only [List.getElem?_map, Option.map_eq_some_iff] at hu hv'
              obtain ⟨x, hx1, hx2⟩ := hu
              obtain ⟨y, hy1, hy2⟩ := hv'
              rw [hx1] at hy1; injection hy1 with hy1; subst hy1; subst hx2; subst hy2
              refine hx x (hxa True ?_)
              simp only [Call.operands, hcal, Array.mem_append]
              exact .inr (Array.mem_toList_iff.1 (List.mem_of_getElem? hx1))
            · rw [List.getElem?_append_right (by simpa using h2)] at hu hv'
              simp only [List.length_map] at hu hv'
              exact .c (hcs.2 _ u v hu hv')
        · obtain ⟨v, μ', ρ', e1, e2, e3, e4⟩ := he
          subst e1
          refine hn v w' μ' ρ' ?_ e3 e4
          cases hq : quietB P C o with
          | true => rw [hqq hq] at e2; exact e2
          | false =>
            cases hcq : callQ P C fn with
            | true => rw [hcq] at e2; exact e2.loud
            | false => rw [hcq] at e2; exact e2
      · cases h
    · cases h
  | _ => first | (simp only [evOp, ho] at h; cases h; done) | (exact absurd (by simp only [opClass, ho]) hc)
end
end Go.Ev
namespace Go.Ev
variable [Gl]
abbrev pr (a : AV) (s : Store) : Option (AV × Store) := some (a, s)
theorem cond_nat {α R : Type} {c : Bool} {x y : Option R} {x' y' : Option α} {f : α → Option R} (h : x = x'.bind f) (h' : y = y'.bind f) : cond c x y = (cond c x' y').bind f := by
  cases c
  · exact h'
  · exact h
theorem cond_any {α : Type} {c : Bool} {x y z : α} (h : cond c x y = z) : (c = true ∧ x = z) ∨ (c = false ∧ y = z) := by
  cases c
  · exact .inr ⟨rfl, h⟩
  · exact .inl ⟨rfl, h⟩
theorem adr_blk (C : Cfg) (fr : List (Nat × AV)) (x : Operand) : blkOf (getO fr x) = blkOf (adr C (getO fr) x) := by
  cases x with
  | global k => simp only [adr]; cases C.gl k <;> rfl
  | _ => rfl
section nat
variable {R : Type} {P : Program} {σ : Store} {K : AV → Store → Option R}
theorem newBox_nat (t : TypeId) (cs : List AV) : newBox P σ K t cs = (newBox P σ pr t cs).bind fun p => K p.1 p.2 := by
  unfold newBox; repeat' first | rfl | apply cond_nat | split
theorem evAlloc_nat (t : TypeId) : evAlloc P σ K t = (evAlloc P σ pr t).bind fun p => K p.1 p.2 := by
  unfold evAlloc; repeat' first | rfl | exact newBox_nat _ _ | apply cond_nat | split
theorem evBox_nat (t : TypeId) (a : AV) : evBox P σ K t a = (evBox P σ pr t a).bind fun p => K p.1 p.2 := by
  unfold evBox; repeat' first | rfl | exact newBox_nat _ _ | apply cond_nat | split
theorem evBuild_nat (t : TypeId) (ps : List (Nat × AV)) : evBuild P σ K t ps = (evBuild P σ pr t ps).bind fun p => K p.1 p.2 := by
  unfold evBuild; repeat' first | rfl | apply cond_nat | split
theorem evBuildSlice_nat (t : TypeId) (m : Nat) (ps : List (Nat × AV)) : evBuildSlice P σ K t m ps = (evBuildSlice P σ pr t m ps).bind fun p => K p.1 p.2 := by
  unfold evBuildSlice; repeat' first | rfl | apply cond_nat | split
theorem evLoad_nat (t : TypeId) (a : AV) : evLoad P σ K t a = (evLoad P σ pr t a).bind fun p => K p.1 p.2 := by
  unfold evLoad; repeat' first | rfl | apply cond_nat | split
theorem evStore_nat {L : Store → Option R} (t : TypeId) (a x : AV) : evStore P σ t a x L = (evStore P σ t a x fun s => pr .un s).bind fun p => L p.2 := by
  unfold evStore; repeat' first | rfl | apply cond_nat | split
theorem evBin_nat (op : BinOp) (t : TypeId) (a b : AV) : evBin P σ K op t a b = (evBin P σ pr op t a b).bind fun p => K p.1 p.2 := by
  unfold evBin; repeat' first | rfl | apply cond_nat | split
theorem evUn_nat (op : UnOp) (a : AV) : evUn σ K op a = (evUn σ pr op a).bind fun p => K p.1 p.2 := by
  unfold evUn; repeat' first | rfl | apply cond_nat | split
theorem evMark_nat (s t : TypeId) (a : AV) : evMark P σ K s t a = (evMark P σ pr s t a).bind fun p => K p.1 p.2 := by
  unfold evMark; repeat' first | rfl | apply cond_nat | split
theorem evConv_nat (s t : TypeId) (a : AV) : evConv P σ K s t a = (evConv P σ pr s t a).bind fun p => K p.1 p.2 := by
  unfold evConv; repeat' first | rfl | apply cond_nat | split
theorem evSlice_nat (t : TypeId) (a : AV) (lo hi : Option AV) : evSlice P σ K t a lo hi = (evSlice P σ pr t a lo hi).bind fun p => K p.1 p.2 := by
  unfold evSlice; repeat' first | rfl | apply cond_nat | split
theorem evFieldAddr_nat (t : TypeId) (a : AV) (f : Nat) : evFieldAddr P σ K t a f = (evFieldAddr P σ pr t a f).bind fun p => K p.1 p.2 := by
  unfold evFieldAddr; repeat' first | rfl | apply cond_nat | split
theorem evField_nat (t : TypeId) (a : AV) (f : Nat) : evField P σ K t a f = (evField P σ pr t a f).bind fun p => K p.1 p.2 := by
  unfold evField; repeat' first | rfl | apply cond_nat | split
theorem evIndexAddr_nat (t : TypeId) (a i : AV) (c : Bool) : evIndexAddr P σ K t a i c = (evIndexAddr P σ pr t a i c).bind fun p => K p.1 p.2 := by
  unfold evIndexAddr; repeat' first | rfl | apply cond_nat | split
theorem evIndex_nat (t : TypeId) (a i : AV) (c : Bool) : evIndex P σ K t a i c = (evIndex P σ pr t a i c).bind fun p => K p.1 p.2 := by
  unfold evIndex; repeat' first | rfl | apply cond_nat | split
theorem evMakeSlice_nat (t : TypeId) (a b : AV) : evMakeSlice P σ K t a b = (evMakeSlice P σ pr t a b).bind fun p => K p.1 p.2 := by
  unfold evMakeSlice; repeat' first | rfl | apply cond_nat | split
theorem evLen_nat (t : TypeId) (a : AV) : evLen P σ K t a = (evLen P σ pr t a).bind fun p => K p.1 p.2 := by
  unfold evLen; repeat' first | rfl | apply cond_nat | split
theorem evAppend_nat (t u : TypeId) (a b : AV) : evAppend P σ K t u a b = (evAppend P σ pr t u a b).bind fun p => K p.1 p.2 := by
  unfold evAppend; repeat' first | rfl | apply cond_nat | split
theorem evCopy_nat (t : TypeId) (a b : AV) : evCopy P σ K t a b = (evCopy P σ pr t a b).bind fun p => K p.1 p.2 := by
  unfold evCopy; repeat' first | rfl | apply cond_nat | split
theorem evView_nat (t : TypeId) (a lo : AV) (hi : Option AV) : evView P σ K t a lo hi = (evView P σ pr t a lo hi).bind fun p => K p.1 p.2 := by
  unfold evView; repeat' first | rfl | apply cond_nat | split
theorem evEat_nat (t : TypeId) (a : AV) (hi : Option AV) : evEat P σ K t a hi = (evEat P σ pr t a hi).bind fun p => K p.1 p.2 := by
  unfold evEat; repeat' first | rfl | apply cond_nat | split
theorem evMv_nat (g : Nat → Nat → List (List AV) → List AV → Option (List (List AV))) (args : List AV) : evMv g σ K args = (evMv g σ pr args).bind fun p => K p.1 p.2 := by
  unfold evMv; repeat' first | rfl | apply cond_nat | split
theorem isMv_spec {C : Cfg} {f : FuncId} (h : isMv C f = true) : ∃ g, C.upd f = some (.mv g) := by
  unfold isMv at h
  split at h
  · rename_i g hg; exact ⟨g, hg⟩
  · cases h
theorem isMv_pr {C : Cfg} {f : FuncId} (h : isMv C f = true) : C.pr f = none := by
  unfold isMv at h
  split at h
  · exact Option.isNone_iff_eq_none.1 h
  · cases h
theorem evPr_nat (g : (List Value → Bool) × (List Value → List Value)) (args : List AV) : evPr g σ K args = (evPr g σ pr args).bind fun p => K p.1 p.2 := by
  unfold evPr; repeat' first | rfl | apply cond_nat | split
theorem evCall_mv {C : Cfg} {call : CallT} {inl : InlT} {f : FuncId} {g : Nat → Nat → List (List AV) → List AV → Option (List (List AV))} (hg : C.upd f = some (.mv g)) (args : List AV) : evCall P C call inl σ K f args =
    match P.funcs[f]? with
    | none => none
    | some fn => bif fn.body.isNone || fn.name == "runtime.NumGoroutine" then none else evMv g σ K args := by
  unfold evCall
  rw [hg]
  rfl
theorem evCall_nat {C : Cfg} {call : CallT} {inl : InlT} {f : FuncId} (hm : isMv C f = true) (args : List AV) : evCall P C call inl σ K f args = (evCall P C call inl σ pr f args).bind fun p => K p.1 p.2 := by
  obtain ⟨g, hg⟩ := isMv_spec hm
  rw [evCall_mv hg, evCall_mv hg]
  split
  · rfl
  · exact cond_nat rfl (evMv_nat _ _)
theorem callNat {C : Cfg} {call : CallT} {inl : InlT} {o : Oper} {fr : List (Nat × AV)} {c : Call} {x : Operand} {f : FuncId} {first caps : List AV} (hf : isFn C o = false) (ho : o.op = .call c) (hc : c.callee = .value x) (hg : getO fr x = .clo f first caps) (args : List AV) : evCall P C call inl σ K f args = (evCall P C call inl σ pr f args).bind fun p => K p.1 p.2 := by
  simp only [isFn, ho, hc] at hf
  split at hf
  · rename_i f' he
    obtain rfl := Callee.value.inj he
    simp only [getO, AV.clo.injEq] at hg
    obtain ⟨rfl, _, _⟩ := hg
    exact evCall_nat (by simpa using hf) args
  · cases hf
  · rename_i h1 h2
    exact absurd rfl (h2 _)
theorem evOp_nat {C : Cfg} {call : CallT} {inl : InlT} {o : Oper} {fr : List (Nat × AV)} (hf : isFn C o = false) : evOp P C call inl o fr σ K = (evOp P C call inl o fr σ pr).bind fun p => K p.1 p.2 := by
  unfold evOp
  dsimp only
  repeat' first
    | rfl | exact evAlloc_nat _ | exact evBox_nat _ _ | exact evBuild_nat _ _ | exact evBuildSlice_nat _ _ _ | exact evLoad_nat _ _ | exact evStore_nat _ _ _ | exact evBin_nat _ _ _ _ | exact evUn_nat _ _
    | exact evMark_nat _ _ _ | exact evConv_nat _ _ _ | exact evSlice_nat _ _ _ _ | exact evEat_nat _ _ _ | exact evView_nat _ _ _ _ | exact evFieldAddr_nat _ _ _ | exact evField_nat _ _ _ | exact evIndexAddr_nat _ _ _ _ | exact evIndex_nat _ _ _ _ | exact evMakeSlice_nat _ _ _
    | exact evLen_nat _ _ | exact evAppend_nat _ _ _ _ | exact evCopy_nat _ _ _ | apply cond_nat | split
    | exact evPr_nat _ _ | (exact callNat hf (by assumption) (by assumption) (by assumption) _)
    | (simp_all [isFn]; done)
end nat
def layL (s acc : Store) (l : Nat) : Store := match s[l]? with | some b => acc.set l b | none => acc
def mixL (τ s : Store) (W : List Nat) : Store := W.foldl (layL s) τ ++ s.drop τ.length
theorem inL_ifm {j : Nat} : ∀ (l : List Nat), inL j l = true ↔ j ∈ l
  | [] => by simp [inL]
  | m :: r => by
    rw [inL, Bool.or_eq_true, inL_ifm r, List.mem_cons]
    constructor
    · rintro (h | h)
      · exact .inl (Nat.eq_of_beq_eq_true h)
      · exact .inr h
    · rintro (h | h)
      · exact .inl (by rw [h, Nat.beq_refl])
      · exact .inr h
theorem fold_len (s : Store) : ∀ (W : List Nat) (τ : Store), (W.foldl (layL s) τ).length = τ.length
  | [], _ => rfl
  | x :: W, τ => by
    simp only [List.foldl_cons]
    rw [fold_len s W]
    unfold layL
    split <;> simp
theorem fold_get (s : Store) : ∀ (W : List Nat) (τ : Store) (l : Nat), l < τ.length → l < s.length → (W.foldl (layL s) τ)[l]? = if inL l W = true then s[l]? else τ[l]?
  | [], _, _, _, _ => rfl
  | x :: W, τ, l, h, hs => by
    simp only [List.foldl_cons]
    rw [fold_get s W _ l (by unfold layL; split <;> simpa using h) hs]
    unfold layL
    by_cases e : inL l W = true
    · rw [if_pos e, if_pos (by rw [inL, e, Bool.or_true])]
    · rw [if_neg e]
      by_cases e2 : x = l
      · subst e2
        rw [if_pos (by rw [inL, Nat.beq_refl]; rfl), List.getElem?_eq_getElem hs]
        simp [h]
      · have : inL l (x :: W) ≠ true := by
          show ¬ ((Nat.beq l x || inL l W) = true)
          rw [Bool.or_eq_true]
          rintro (h1 | h1)
          · exact e2 (Nat.eq_of_beq_eq_true h1).symm
          · exact e h1
        rw [if_neg this]
        split
        · rw [List.getElem?_set_ne e2]
        · rfl
theorem mix_len {τ s : Store} {W : List Nat} (h : τ.length ≤ s.length) : (mixL τ s W).length = s.length := by
  simp only [mixL, List.length_append, fold_len, List.length_drop]; omega
theorem mix_get {τ s : Store} {W : List Nat} {l : Nat} (hl : l < τ.length) (h : τ.length ≤ s.length) : (mixL τ s W)[l]? = if inL l W = true then s[l]? else τ[l]? := by
  unfold mixL
  rw [List.getElem?_append_left (by rw [fold_len]; exact hl)]
  exact fold_get s W τ l hl (by omega)
theorem mix_hi {τ s : Store} {W : List Nat} {l : Nat} (hl : τ.length ≤ l) : (mixL τ s W)[l]? = s[l]? := by
  unfold mixL
  rw [List.getElem?_append_right (by rw [fold_len]; exact hl), fold_len, List.getElem?_drop]
  congr 1; omega
theorem mix_setW {τ s : Store} {W : List Nat} {l : Nat} (h : τ.length ≤ s.length) (hl : τ.length ≤ l ∨ inL l W = true) (b : Blk) : mixL τ (s.set l b) W = (mixL τ s W).set l b := by
  have hs : τ.length ≤ (s.set l b).length := by simpa using h
  refine List.ext_getElem? fun i => ?_
  by_cases hi : i < τ.length
  · rw [mix_get hi hs]
    by_cases e : i = l
    · subst e
      have hw : inL i W = true := by rcases hl with h1 | h1; · omega
                                     · exact h1
      rw [if_pos hw, List.getElem?_set_self (by omega), List.getElem?_set_self (by rw [mix_len h]; omega)]
    · rw [List.getElem?_set_ne (Ne.symm e), List.getElem?_set_ne (Ne.symm e), mix_get hi h]
  · rw [mix_hi (by omega)]
    by_cases e : i = l
    · subst e
      by_cases hb : i < s.length
      · rw [List.getElem?_set_self hb, List.getElem?_set_self (by rw [mix_len h]; exact hb)]
      · rw [List.getElem?_eq_none (by simp; omega), List.getElem?_eq_none (by rw [List.length_set, mix_len h]; omega)]
    · rw [List.getElem?_set_ne (Ne.symm e), List.getElem?_set_ne (Ne.symm e), mix_hi (by omega)]
theorem mix_same {σ τ : Store} {W : List Nat} (h : τ.length = σ.length) (ν : Store) (hag : ∀ l ∈ W, τ[l]? = σ[l]?) : mixL τ (σ ++ ν) W = τ ++ ν := by
  have hs : τ.length ≤ (σ ++ ν).length := by rw [List.length_append]; omega
  refine List.ext_getElem? fun i => ?_
  by_cases hi : i < τ.length
  · rw [mix_get hi hs, List.getElem?_append_left hi, List.getElem?_append_left (by omega)]
    split
    · rename_i hw
      exact (hag i ((inL_ifm _).1 hw)).symm
    · rfl
  · rw [mix_hi (by omega), List.getElem?_append_right (by omega), List.getElem?_append_right (by omega), h]
theorem mix_one {τ s : Store} {W : List Nat} (h : τ.length ≤ s.length) (b : Blk) : mixL τ (s ++ [b]) W = mixL τ s W ++ [b] := by
  have hs : τ.length ≤ (s ++ [b]).length := by rw [List.length_append]; omega
  refine List.ext_getElem? fun i => ?_
  by_cases hi : i < τ.length
  · have e : (mixL τ s W ++ [b])[i]? = (mixL τ s W)[i]? := List.getElem?_append_left (by rw [mix_len h]; omega)
    rw [mix_get hi hs, e, mix_get hi h, List.getElem?_append_left (show i < s.length by omega)]
  · rw [mix_hi (by omega)]
    by_cases hb : i < s.length
    · rw [List.getElem?_append_left hb, List.getElem?_append_left (by rw [mix_len h]; exact hb), mix_hi (by omega)]
    · rw [List.getElem?_append_right (by omega), List.getElem?_append_right (by rw [mix_len h]; omega), mix_len h]
section mix
variable {σ τ : Store} (h : τ.length = σ.length)
include h
theorem mix_nil : mixL τ σ [] = τ := by simp [mixL, h]
theorem mix_app (ν : Store) : mixL τ (σ ++ ν) [] = τ ++ ν := by simp [mixL, h]
theorem mix_set {l : Nat} {b0 : Blk} (hl : σ[l]? = some b0) (b : Blk) : mixL τ (σ.set l b) [l] = τ.set l b := by
  have hlt : l < σ.length := (List.getElem?_eq_some_iff.1 hl).1
  simp [mixL, layL, h, hlt]
theorem mix_set_app {l : Nat} {b0 : Blk} (hl : σ[l]? = some b0) (b : Blk) (ν : Store) : mixL τ (σ.set l b ++ ν) [l] = τ.set l b ++ ν := by
  have hlt : l < σ.length := (List.getElem?_eq_some_iff.1 hl).1
  have h1 : (σ.set l b ++ ν)[l]? = some b := by rw [List.getElem?_append_left (by simpa using hlt)]; simp [hlt]
  have h2 : (σ.set l b ++ ν).drop σ.length = ν := by
    have : σ.length = (σ.set l b).length := by simp
    rw [this]; simp
  simp only [mixL, layL, List.foldl_cons, List.foldl_nil, h1, h, h2]
end mix
section frame
variable {R : Type} {P : Program} {σ τ : Store} {K : AV → Store → Option R} (h : τ.length = σ.length)
include h
theorem newBox_frame (ν : Store) (t : TypeId) (cs : List AV) : newBox P (τ ++ ν) K t cs = newBox P (σ ++ ν) (fun a s => K a (mixL τ s [])) t cs := by
  unfold newBox
  simp only [List.append_assoc, mix_app h, List.length_append, h]
theorem zeros_frame : ∀ (ks : List CK) (cs : List Value) (ν : Store), zeros P ks cs (τ ++ ν) = (zeros P ks cs (σ ++ ν)).map fun p => (p.1, mixL τ p.2 [])
  | [], [], ν => by simp [zeros, mix_app h]
  | [], _ :: _, ν => rfl
  | k :: ks, [], ν => by cases k <;> rfl
  | k :: ks, c :: cs, ν => by
    have ih := fun ν => zeros_frame ks cs ν
    have hl : (τ ++ ν).length = (σ ++ ν).length := by simp [h]
    unfold zeros
    split
    · rename_i e sz
      have := ih (ν ++ [⟨1, e, P.cellsOf e, false, []⟩])
      simp only [phantom, List.append_assoc, hl] at this ⊢
      rw [this]
      cases zeros P ks cs (σ ++ (ν ++ [⟨1, e, P.cellsOf e, false, []⟩])) <;> rfl
    · rfl
    · rfl
    · rw [ih ν]
      cases okC (.v c) with
      | false => rfl
      | true => cases zeros P ks cs (σ ++ ν) <;> rfl
theorem zeroOf_frame (t : TypeId) : zeroOf P t τ = (zeroOf P t σ).map fun p => (p.1, mixL τ p.2 []) := by
  unfold zeroOf
  split
  · rfl
  · rename_i z _
    have := zeros_frame (P := P) h (cks P t) z.cells.toList []
    simpa using this
theorem zeroOf_app {t : TypeId} {r : List AV} {s : Store} (hz : zeroOf P t σ = some (r, s)) : ∃ ν, s = σ ++ ν := by
  obtain ⟨_, _, _, _, hz⟩ := zeroOf_spec hz
  exact zeros_app _ _ hz
theorem evAlloc_frame (t : TypeId) : evAlloc P τ K t = evAlloc P σ (fun a s => K a (mixL τ s [])) t := by
  unfold evAlloc
  rw [zeroOf_frame h]
  cases hz : zeroOf P t σ with
  | none => rfl
  | some p =>
    obtain ⟨cs, s⟩ := p
    obtain ⟨ν, rfl⟩ := zeroOf_app h hz
    simp only [Option.map_some, mix_app h]
    exact newBox_frame h ν t cs
theorem evBox_frame (t : TypeId) (a : AV) : evBox P τ K t a = evBox P σ (fun a s => K a (mixL τ s [])) t a := by
  unfold evBox
  split
  · rfl
  · have := newBox_frame (P := P) (K := K) h [] t ‹List AV›
    rw [List.append_nil, List.append_nil] at this
    rw [this]
theorem evBuild_frame (t : TypeId) (ps : List (Nat × AV)) : evBuild P τ K t ps = evBuild P σ (fun a s => K a (mixL τ s [])) t ps := by
  unfold evBuild
  rw [zeroOf_frame h]
  cases hz : zeroOf P t σ with
  | none => rfl
  | some p =>
    obtain ⟨cs, s⟩ := p
    obtain ⟨ν, rfl⟩ := zeroOf_app h hz
    simp only [Option.map_some, mix_app h]
def okF (n : Nat) : AV → Prop
  | .sl _ l _ _ => n ≤ l
  | _ => True
omit h in
theorem get_hi {σ ν : Store} {l : Nat} (hl : σ.length ≤ l) : (σ ++ ν)[l]? = ν[l - σ.length]? := List.getElem?_append_right hl
omit h in
theorem set_hi {σ ν : Store} {l : Nat} (hl : σ.length ≤ l) (b : Blk) : (σ ++ ν).set l b = σ ++ ν.set (l - σ.length) b := List.set_append_right _ _ hl
theorem frz_frame (ν : Store) (c : AV) (hc : okF σ.length c) : (frz (τ ++ ν) c = none ∧ frz (σ ++ ν) c = none) ∨ ∃ r ν', frz (σ ++ ν) c = some (r, σ ++ ν') ∧ frz (τ ++ ν) c = some (r, τ ++ ν') := by
  cases c with
  | v x => exact .inr ⟨_, ν, rfl, rfl⟩
  | lst n sz xs => exact .inr ⟨_, ν, rfl, rfl⟩
  | sl n l off cut =>
    have hl : σ.length ≤ l := hc
    have hl' : τ.length ≤ l := by omega
    simp only [frz, get_hi hl, get_hi hl', set_hi hl, set_hi hl', h]
    cases ν[l - σ.length]? with
    | none => exact .inl ⟨rfl, rfl⟩
    | some b =>
      simp only
      cases (Nat.beq b.mode 0 || b.obj) with
      | true => exact .inl ⟨rfl, rfl⟩
      | false => exact .inr ⟨_, _, rfl, rfl⟩
  | _ => exact .inl ⟨rfl, rfl⟩
theorem frzL_frame : ∀ (cs : List AV) (ν : Store), (∀ c ∈ cs, okF σ.length c) → (frzL (τ ++ ν) cs = none ∧ frzL (σ ++ ν) cs = none) ∨ ∃ r ν', frzL (σ ++ ν) cs = some (r, σ ++ ν') ∧ frzL (τ ++ ν) cs = some (r, τ ++ ν')
  | [], ν, _ => .inr ⟨_, ν, rfl, rfl⟩
  | c :: cs, ν, hc => by
    simp only [frzL]
    rcases frz_frame h ν c (hc c (by simp)) with ⟨h1, h2⟩ | ⟨r, ν', h1, h2⟩
    · rw [h1, h2]; exact .inl ⟨rfl, rfl⟩
    · rw [h1, h2]
      simp only
      rcases frzL_frame cs ν' (fun x hx => hc x (by simp [hx])) with ⟨h3, h4⟩ | ⟨r', ν'', h3, h4⟩
      · rw [h3, h4]; exact .inl ⟨rfl, rfl⟩
      · rw [h3, h4]; exact .inr ⟨_, _, rfl, rfl⟩
theorem frzP_frame (e : TypeId) (cs : List AV) (ν : Store) (hc : ∀ c ∈ cs, okF σ.length c) : (frzP P e (τ ++ ν) cs = none ∧ frzP P e (σ ++ ν) cs = none) ∨ ∃ r ν', frzP P e (σ ++ ν) cs = some (r, σ ++ ν') ∧ frzP P e (τ ++ ν) cs = some (r, τ ++ ν') := by
  unfold frzP
  cases plainT P e with
  | true =>
    cases cs.all isV with
    | true => exact .inr ⟨_, _, rfl, rfl⟩
    | false => exact .inl ⟨rfl, rfl⟩
  | false => exact frzL_frame h cs ν hc
omit h in
theorem zeros_ok : ∀ (ks : List CK) (cs : List Value) (σ : Store) (n : Nat) (r : List AV) (s : Store), n ≤ σ.length → zeros P ks cs σ = some (r, s) → ∀ c ∈ r, okF n c
  | [], [], σ, n, r, s, _, hz => by simp [zeros] at hz; rw [hz.1]; simp
  | [], _ :: _, _, _, _, _, _, hz => by simp [zeros] at hz
  | k :: ks, [], σ, n, r, s, _, hz => by cases k <;> simp [zeros] at hz
  | k :: ks, c :: cs, σ, n, r, s, hn, hz => by
    unfold zeros at hz
    split at hz
    · split at hz
      · cases hz
      · rename_i r' s' hz'
        simp only [Option.some.injEq, Prod.mk.injEq] at hz
        rw [← hz.1]
        intro c hc
        rcases List.mem_cons.1 hc with hc | hc
        · subst hc; exact hn
        · exact zeros_ok ks cs _ n r' s' (by simp [phantom]; omega) hz' c hc
    · cases hz
    · cases hz
    · cases ho : okC (.v c) with
      | false => rw [ho] at hz; cases hz
      | true =>
        rw [ho] at hz
        simp only [Bool.not_true, cond_false] at hz
        split at hz
        · cases hz
        · rename_i r' s' hz'
          simp only [Option.some.injEq, Prod.mk.injEq] at hz
          rw [← hz.1]
          intro x hc
          rcases List.mem_cons.1 hc with hc | hc
          · subst hc; trivial
          · exact zeros_ok ks cs _ n r' s' hn hz' x hc
omit h in
omit h in
def okW (n : Nat) (W : List Nat) : AV → Prop
  | .sl _ l _ _ => n ≤ l ∨ inL l W = true
  | _ => True
omit h in
theorem frz_mix {s : Store} {W : List Nat} (c : AV) (hs : τ.length ≤ s.length) (hc : okW τ.length W c) : frz (mixL τ s W) c = (frz s c).map fun p => (p.1, mixL τ p.2 W) := by
  cases c with
  | sl n l off cut =>
    have e : (mixL τ s W)[l]? = s[l]? := by
      by_cases hl : l < τ.length
      · rw [mix_get hl hs, if_pos (by rcases hc with h1 | h1; · omega
                                      · exact h1)]
      · exact mix_hi (by omega)
    simp only [frz, e]
    cases s[l]? with
    | none => rfl
    | some b =>
      simp only
      cases (Nat.beq b.mode 0 || b.obj) with
      | true => rfl
      | false => simp only [cond_false, Option.map_some, mix_setW hs hc]
  | _ => rfl
omit h in
theorem frz_lenM {s s' : Store} {c r : AV} (hf : frz s c = some (r, s')) : s'.length = s.length := by
  unfold frz at hf
  split at hf
  · cases hf; rfl
  · cases hf; rfl
  · split at hf
    · cases hf
    · rcases cond_any hf with ⟨_, hf⟩ | ⟨_, hf⟩
      · cases hf
      · cases hf; simp
  · cases hf
omit h in
theorem frzL_mix {W : List Nat} : ∀ (cs : List AV) (s : Store), τ.length ≤ s.length → (∀ c ∈ cs, okW τ.length W c) → frzL (mixL τ s W) cs = (frzL s cs).map fun p => (p.1, mixL τ p.2 W)
  | [], s, _, _ => rfl
  | c :: cs, s, hs, hc => by
    simp only [frzL]
    rw [frz_mix c hs (hc c (by simp))]
    cases hf : frz s c with
    | none => rfl
    | some p =>
      obtain ⟨r, s'⟩ := p
      have hl := frz_lenM hf
      simp only [Option.map_some]
      rw [frzL_mix cs s' (by omega) (fun x hx => hc x (by simp [hx]))]
      cases frzL s' cs with
      | none => rfl
      | some q => rfl
omit h in
theorem frzL_lenM : ∀ {cs r : List AV} {s s' : Store}, frzL s cs = some (r, s') → s'.length = s.length
  | [], r, s, s', hf => by cases hf; rfl
  | c :: cs, r, s, s', hf => by
    simp only [frzL] at hf
    cases h1 : frz s c with
    | none => rw [h1] at hf; cases hf
    | some p =>
      obtain ⟨a, s1⟩ := p
      rw [h1] at hf
      simp only at hf
      cases h2 : frzL s1 cs with
      | none => rw [h2] at hf; cases hf
      | some q =>
        obtain ⟨b, s2⟩ := q
        rw [h2] at hf
        cases hf
        rw [frzL_lenM h2, frz_lenM h1]
omit h in
theorem frzP_mix {W : List Nat} (e : TypeId) (cs : List AV) (s : Store) (hs : τ.length ≤ s.length) (hc : ∀ c ∈ cs, okW τ.length W c) : frzP P e (mixL τ s W) cs = (frzP P e s cs).map fun p => (p.1, mixL τ p.2 W) := by
  unfold frzP
  cases plainT P e with
  | true => cases cs.all isV <;> rfl
  | false => exact frzL_mix cs s hs hc
omit h in
theorem frzP_lenM {e : TypeId} {cs r : List AV} {s s' : Store} (hf : frzP P e s cs = some (r, s')) : s'.length = s.length := by
  unfold frzP at hf
  rcases cond_any hf with ⟨_, hf⟩ | ⟨_, hf⟩
  · rcases cond_any hf with ⟨_, hf⟩ | ⟨_, hf⟩
    · cases hf; rfl
    · cases hf
  · exact frzL_lenM hf
omit h in
theorem fill_okW {n : Nat} {W : List Nat} {place : Nat → Option (Nat × Nat)} : ∀ (ps : List (Nat × AV)) (cs r : List AV), (∀ c ∈ cs, okW n W c) → (∀ p ∈ ps, ∀ l ∈ slOf p.2, inL l W = true) → fillAV place cs ps = some r → ∀ c ∈ r, okW n W c
  | [], cs, r, hc, _, hf => by simp [fillAV] at hf; rw [← hf]; exact hc
  | (i, a) :: ps, cs, r, hc, hp, hf => by
    simp only [fillAV] at hf
    split at hf
    · cases hf
    · split at hf
      · cases hf
      · rename_i pc hpc
        obtain ⟨_, hf⟩ := cond_some hf
        refine fill_okW ps _ r (fun c hcc => ?_) (fun p hpp => hp p (by simp [hpp])) hf
        have hno := hp (i, a) (by simp)
        simp only [slOf, hpc] at hno
        rcases List.mem_append.1 hcc with h1 | h1
        · rcases List.mem_append.1 h1 with h1 | h1
          · exact hc c (List.mem_of_mem_take h1)
          · cases c with
            | sl x l off cut => exact .inr (hno l (List.mem_flatMap.2 ⟨_, h1, by simp⟩))
            | _ => trivial
        · exact hc c (List.mem_of_mem_drop h1)
theorem evBuildSlice_frame (t : TypeId) (m : Nat) (ps : List (Nat × AV)) {W : List Nat} (hag : ∀ l ∈ W, τ[l]? = σ[l]?) (hp : ∀ p ∈ ps, ∀ l ∈ slOf p.2, inL l W = true) : evBuildSlice P τ K t m ps = evBuildSlice P σ (fun a s => K a (mixL τ s W)) t m ps := by
  unfold evBuildSlice
  split
  · rw [zeroOf_frame h]
    cases hz : zeroOf P _ σ with
    | none => rfl
    | some p =>
      obtain ⟨z, s⟩ := p
      obtain ⟨ν, rfl⟩ := zeroOf_app h hz
      have hs : τ.length ≤ (σ ++ ν).length := by rw [List.length_append]; omega
      simp only [Option.map_some]
      rw [mix_app h, ← mix_same h ν hag]
      split
      · rfl
      · rename_i cs hcs
        obtain ⟨_, _, _, _, hz'⟩ := zeroOf_spec hz
        have hzo := zeros_ok _ _ _ _ _ _ (Nat.le_refl σ.length) hz'
        have hok := fill_okW (n := τ.length) (W := W) ps _ cs (fun c hc => by
          obtain ⟨l, hl, hc⟩ := List.mem_flatten.1 hc
          rw [(List.mem_replicate.1 hl).2] at hc
          have := hzo c hc
          cases c with
          | sl x l off cut => exact .inl (by rw [h]; exact this)
          | _ => trivial) hp hcs
        rw [frzP_mix _ cs (σ ++ ν) hs hok]
        cases hf : frzP P _ (σ ++ ν) cs with
        | none => rfl
        | some q =>
          obtain ⟨r, s'⟩ := q
          have hl := frzP_lenM hf
          simp only [Option.map_some, mix_len (show τ.length ≤ s'.length by omega), mix_one (show τ.length ≤ s'.length by omega)]
  · rfl
theorem evMakeSlice_frame (t : TypeId) (a b : AV) : evMakeSlice P τ K t a b = evMakeSlice P σ (fun a s => K a (mixL τ s [])) t a b := by
  unfold evMakeSlice
  split
  · rw [zeroOf_frame h]
    cases hz : zeroOf P _ σ with
    | none => rfl
    | some p =>
      obtain ⟨z, s⟩ := p
      obtain ⟨ν, rfl⟩ := zeroOf_app h hz
      simp only [Option.map_some, mix_app h]
      obtain ⟨_, _, _, _, hz'⟩ := zeroOf_spec hz
      rcases frzP_frame (P := P) h _ z ν (zeros_ok _ _ _ _ _ _ (Nat.le_refl σ.length) hz') with ⟨h1, h2⟩ | ⟨r, ν', h1, h2⟩
      · rw [h1, h2]
      · rw [h1, h2]
        simp only [List.append_assoc, mix_app h, List.length_append, h]
  · rfl
theorem evLoad_frame (t : TypeId) (a : AV) (hag : ∀ l ∈ blkOf a, τ[l]? = σ[l]?) : evLoad P τ K t a = evLoad P σ (fun a s => K a (mixL τ s [])) t a := by
  unfold evLoad
  simp only [mix_nil h]
  cases a with
  | ptr l i j => simp only [hag l (by simp [blkOf])]
  | px l j n i => simp only [hag l (by simp [blkOf])]
  | _ => rfl
omit h in
theorem slLen_frame {a : AV} (hag : ∀ l ∈ blkOf a, τ[l]? = σ[l]?) : slLen τ a = slLen σ a := by
  cases a with
  | sl n l o c => simp only [slLen, hag l (by simp [blkOf])]
  | _ => rfl
omit h in
theorem slXs_frame {a : AV} (hag : ∀ l ∈ blkOf a, τ[l]? = σ[l]?) : slXs τ a = slXs σ a := by
  cases a with
  | sl n l o c => simp only [slXs, hag l (by simp [blkOf])]
  | _ => rfl
omit h in
theorem appXs_frame {a : AV} (hag : ∀ l ∈ blkOf a, τ[l]? = σ[l]?) : appXs τ a = appXs σ a := by
  cases a with
  | sl n l o c => simp only [appXs, hag l (by simp [blkOf])]
  | v x => cases x <;> rfl
  | _ => rfl
theorem evLen_frame (t : TypeId) (a : AV) (hag : ∀ l ∈ blkOf a, τ[l]? = σ[l]?) : evLen P τ K t a = evLen P σ (fun a s => K a (mixL τ s [])) t a := by
  have hs : slLen τ a = slLen σ a := slLen_frame hag
  unfold evLen
  simp only [mix_nil h]
  repeat' first | rfl | split | (simp only [hs] at *; done) | simp_all
theorem evIndexAddr_frame (t : TypeId) (a i : AV) (c : Bool) (hag : ∀ l ∈ blkOf a, τ[l]? = σ[l]?) : evIndexAddr P τ K t a i c = evIndexAddr P σ (fun a s => K a (mixL τ s [])) t a i c := by
  unfold evIndexAddr
  simp only [mix_nil h, slLen_frame hag]
  cases a with
  | ptr l i j => simp only [hag l (by simp [blkOf])]
  | sl n l o c => simp only [hag l (by simp [blkOf])]
  | _ => rfl
theorem evSlice_frame (t : TypeId) (a : AV) (lo hi : Option AV) (hag : ∀ l ∈ blkOf a, τ[l]? = σ[l]?) : evSlice P τ K t a lo hi = evSlice P σ (fun a s => K a (mixL τ s [])) t a lo hi := by
  unfold evSlice
  simp only [mix_nil h]
  split <;> first | rfl | simp only [slLen, hag _ (List.mem_singleton.2 rfl)]
theorem evView_frame (t : TypeId) (x lo : AV) (hi : Option AV) (hag : ∀ l ∈ blkOf x, τ[l]? = σ[l]?) : evView P τ K t x lo hi = evView P σ (fun a s => K a (mixL τ s (blkOf x))) t x lo hi := by
  unfold evView
  cases x with
  | ptr l i j =>
    have hl := hag l (by simp [blkOf])
    split
    · rename_i hu heq
      simp only [AV.ptr.injEq] at heq
      obtain ⟨rfl, rfl, rfl⟩ := heq
      cases hb : σ[l]? with
      | none => simp only [hl, hb]
      | some k => simp only [blkOf, hl, hb, mix_set h hb]
    · rfl
  | _ => split <;> first | rfl | (rename_i heq _ ; cases heq) | (rename_i heq; cases heq)
theorem evEat_frame (t : TypeId) (x : AV) (hi : Option AV) (hag : ∀ l ∈ blkOf x, τ[l]? = σ[l]?) : evEat P τ K t x hi = evEat P σ (fun a s => K a (mixL τ s (blkOf x))) t x hi := by
  unfold evEat
  cases x with
  | sl b l o c =>
    have hl := hag l (by simp [blkOf])
    split
    · rename_i hu heq
      simp only [AV.sl.injEq] at heq
      obtain ⟨rfl, rfl, rfl, rfl⟩ := heq
      cases hb : σ[l]? with
      | none => simp only [hl, hb]
      | some k => simp only [blkOf, hl, hb, h, mix_set_app h hb]
    · rfl
  | _ => split <;> first | rfl | (rename_i heq _ ; cases heq) | (rename_i heq; cases heq)
omit h in
theorem mvArgs_frame {l : Nat} : ∀ {rest : List AV}, (∀ m ∈ rest.flatMap blkOf, τ[m]? = σ[m]?) → rest.mapM (mvArg τ l) = rest.mapM (mvArg σ l)
  | [], _ => rfl
  | a :: rest, hag => by
    have h1 : mvArg τ l a = mvArg σ l a := by
      unfold mvArg
      cases a with
      | sl n m o c =>
        have e := hag m (by simp [blkOf])
        cases o <;> cases c <;> first | rfl | simp only [e]
      | _ => rfl
    rw [List.mapM_cons, List.mapM_cons, h1, mvArgs_frame fun m hm => hag m (by rw [List.flatMap_cons]; exact List.mem_append_right _ hm)]
def mvPut : List AV → List Nat
  | x :: _ => blkOf x
  | [] => []
theorem evMv_frame (g : Nat → Nat → List (List AV) → List AV → Option (List (List AV))) (args : List AV) (hag : ∀ l ∈ args.flatMap blkOf, τ[l]? = σ[l]?) :
    evMv g τ K args = evMv g σ (fun a s => K a (mixL τ s (mvPut args))) args := by
  unfold evMv
  cases args with
  | nil => rfl
  | cons x rest =>
    cases x with
    | sl b l o c =>
      have hl := hag l (by simp [blkOf])
      have hr : rest.mapM (mvArg τ l) = rest.mapM (mvArg σ l) := mvArgs_frame fun m hm => hag m (by rw [List.flatMap_cons]; exact List.mem_append_right _ hm)
      split
      · rename_i heq
        simp only [List.cons.injEq, AV.sl.injEq] at heq
        obtain ⟨⟨rfl, rfl, rfl, rfl⟩, rfl⟩ := heq
        cases hb : σ[l]? with
        | none => simp only [hl, hb]
        | some k =>
          simp only [mvPut, blkOf, hl, hb, h, hr, mix_set_app h hb]
      · rfl
    | _ => rfl
theorem evConv_frame (s t : TypeId) (a : AV) (hag : ∀ l ∈ blkOf a, τ[l]? = σ[l]?) : evConv P τ K s t a = evConv P σ (fun a s => K a (mixL τ s [])) s t a := by
  have hs : slXs τ a = slXs σ a := slXs_frame hag
  unfold evConv
  simp only [mix_nil h, mix_app h, h]
  split <;> first | rfl | simp only [hs]
theorem evMark_frame (s t : TypeId) (a : AV) (hag : ∀ l ∈ blkOf a, τ[l]? = σ[l]?) : evMark P τ K s t a = evMark P σ (fun a s => K a (mixL τ s [])) s t a := by
  unfold evMark
  simp only [mix_nil h]
  split
  · rename_i hd; rw [hag _ (by simp [blkOf])]
  · rfl
theorem evAppend_frame (t u : TypeId) (s x : AV) (hag : ∀ l ∈ blkOf s ++ blkOf x, τ[l]? = σ[l]?) : evAppend P τ K t u s x = evAppend P σ (fun a s' => K a (mixL τ s' (blkOf s))) t u s x := by
  have hx : appXs τ x = appXs σ x := appXs_frame fun l hl => hag l (by simp [hl])
  unfold evAppend
  rw [hx]
  cases s with
  | lst b sz xs => cases b <;> first | rfl | (simp only [blkOf, mix_app h, h]; done) | (simp only [blkOf, mix_app h, h]; rfl)
  | sl b l o c =>
    have hl := hag l (by simp [blkOf])
    cases hb : σ[l]? with
    | none => simp only [hl, hb]
    | some k => simp only [blkOf, hl, hb, h, mix_set_app h hb]
  | _ => rfl
theorem evCopy_frame (t : TypeId) (d x : AV) (hag : ∀ l ∈ blkOf d ++ blkOf x, τ[l]? = σ[l]?) : evCopy P τ K t d x = evCopy P σ (fun a s' => K a (mixL τ s' (blkOf d))) t d x := by
  have hx : appXs τ x = appXs σ x := appXs_frame fun l hl => hag l (by simp [hl])
  have hd : slLen τ d = slLen σ d := slLen_frame fun l hl => hag l (by simp [hl])
  unfold evCopy
  rw [hx, hd]
  cases d with
  | sl b l o c =>
    have hl := hag l (by simp [blkOf])
    split
    · cases hap : appXs σ x with
      | none => rfl
      | some p =>
        obtain ⟨ysz, ys⟩ := p
        cases hb : σ[l]? with
        | none => simp only [hl, hb]
        | some k =>
          simp only [hl, hb, blkOf]
          cases slLen σ (.sl b l o c) with
          | none => rfl
          | some n => simp only [mix_set h hb]
    · rfl
  | _ => split <;> first | rfl | (cases appXs σ x <;> rfl)
omit h in
theorem frzL_no : ∀ (cs : List AV) (σ : Store), (∀ c ∈ cs, notSl c = true) → frzL σ cs = some (cs, σ)
  | [], σ, _ => rfl
  | c :: cs, σ, hc => by
    have h1 := hc c (by simp)
    have ih := frzL_no cs σ fun x hx => hc x (by simp [hx])
    cases c with
    | v x => simp only [frzL, frz, ih]
    | lst n sz xs => simp only [frzL, frz, ih]
    | _ => cases h1
theorem evStore_frame {L : Store → Option R} (t : TypeId) (a x : AV) (hag : ∀ l ∈ blkOf a, τ[l]? = σ[l]?) (hx : noSl x = true ∨ ∃ l i j b, a = .ptr l i j ∧ σ[l]? = some b ∧ b.obj = true) :
    evStore P τ t a x L = evStore P σ t a x fun s' => L (mixL τ s' (blkOf a)) := by
  unfold evStore
  cases a with
  | ptr l i j =>
    have hl := hag l (by simp [blkOf])
    cases hb : σ[l]? with
    | none => simp only [hl, hb]
    | some b =>
      simp only [hl, hb, blkOf, mix_set h hb]
      cases hc : cells x with
      | none => rfl
      | some xc =>
        cases ho : b.obj with
        | true => simp only [Bool.not_true, Bool.and_false, cond_true, cond_false]
        | false =>
          have hno : ∀ c ∈ xc, notSl c = true := by
            rcases hx with hx | ⟨_, _, _, b', e1, e2, e3⟩
            · simp only [noSl, hc, List.all_eq_true] at hx; exact hx
            · injection e1 with e1; subst e1
              rw [hb] at e2; injection e2 with e2; subst e2
              rw [ho] at e3; cases e3
          simp only [frzL_no xc _ hno, hl, hb, mix_set h hb]
  | px l j n i =>
    have hl := hag l (by simp [blkOf])
    cases hb : σ[l]? with
    | none => simp only [hl, hb]
    | some b => simp only [hl, hb, blkOf, mix_set h hb]
  | _ => rfl
theorem evOp_frame {C : Cfg} {call : CallT} {inl : InlT} {o : Oper} {fr : List (Nat × AV)} {L W : List Nat} {m : Bool} (hft : footOf P C o fr σ = ⟨some L, some W, m⟩) (hag : ∀ l ∈ L, τ[l]? = σ[l]?) :
    evOp P C call inl o fr τ K = evOp P C call inl o fr σ (fun a s => K a (mixL τ s W)) := by
  have top : ∀ {p : Prop}, Foot.top = ⟨some L, some W, m⟩ → p := fun e => by simp [Foot.top] at e
  cases ho : o.op with
  | move x =>
    have hW : W = [] := by
      simp only [footOf, ho] at hft
      split at hft <;> simp_all [Foot.no]
    subst hW
    simp only [evOp, ho, mix_nil h, phantom, mix_app h, h]
  | assign x =>
    have hW : W = [] := by
      simp only [footOf, ho] at hft
      split at hft <;> simp_all [Foot.no]
    subst hW
    simp only [evOp, ho, mix_nil h, phantom, mix_app h, h]
  | alloc t => simp only [footOf, ho, Foot.mk.injEq, Option.some.injEq] at hft; obtain ⟨rfl, rfl, _⟩ := hft; simp only [evOp, ho]; exact evAlloc_frame h t
  | box t x => simp only [footOf, ho, Foot.mk.injEq, Option.some.injEq] at hft; obtain ⟨rfl, rfl, _⟩ := hft; simp only [evOp, ho]; exact evBox_frame h t _
  | build t ps => simp only [footOf, ho, Foot.mk.injEq, Option.some.injEq] at hft; obtain ⟨rfl, rfl, _⟩ := hft; simp only [evOp, ho]; exact evBuild_frame h t _
  | makeSlice t x y => simp only [footOf, ho, Foot.mk.injEq, Option.some.injEq] at hft; obtain ⟨rfl, rfl, _⟩ := hft; simp only [evOp, ho]; exact evMakeSlice_frame h t _ _
  | load t x => simp only [footOf, ho, Foot.mk.injEq, Option.some.injEq] at hft; obtain ⟨rfl, rfl, _⟩ := hft; simp only [evOp, ho]; exact evLoad_frame h t _ (adr_blk C fr x ▸ hag)
  | slice t x lo hi mx =>
    simp only [footOf, ho] at hft
    cases mx with
    | none =>
      simp only [evOp, ho]
      rcases cond_any hft with ⟨e, hft⟩ | ⟨e, hft⟩
      · simp only [Foot.mk.injEq, Option.some.injEq] at hft
        obtain ⟨rfl, rfl, _⟩ := hft
        rw [e]
        cases lo with
        | none => exact evEat_frame h t _ _ hag
        | some y => exact evView_frame h t _ _ _ hag
      · simp only [Foot.mk.injEq, Option.some.injEq] at hft
        obtain ⟨rfl, rfl, _⟩ := hft
        rw [e]
        exact evSlice_frame h t _ _ _ hag
    | some y => simp only [evOp, ho]
  | indexAddr t x i => simp only [footOf, ho, Foot.mk.injEq, Option.some.injEq] at hft; obtain ⟨rfl, rfl, _⟩ := hft; simp only [evOp, ho]; exact evIndexAddr_frame h t _ _ _ hag
  | convert s t x => simp only [footOf, ho, Foot.mk.injEq, Option.some.injEq] at hft; obtain ⟨rfl, rfl, _⟩ := hft; simp only [evOp, ho]; cases slsl P s t with
    | true => exact evMark_frame h s t _ hag
    | false => exact evConv_frame h s t _ hag
  | buildSlice t n ps =>
    simp only [footOf, ho, Foot.mk.injEq, Option.some.injEq] at hft
    obtain ⟨rfl, rfl, _⟩ := hft
    simp only [evOp, ho]
    refine evBuildSlice_frame h t n _ hag fun p hp l hl => ?_
    obtain ⟨q, hq, rfl⟩ := List.mem_map.1 hp
    exact (inL_ifm _).2 (List.mem_flatMap.2 ⟨q, hq, hl⟩)
  | store t x y =>
    simp only [footOf, ho] at hft
    simp only [evOp, ho]
    rcases cond_any hft with ⟨e, hft⟩ | ⟨_, hft⟩
    · simp only [Foot.mk.injEq, Option.some.injEq] at hft
      obtain ⟨rfl, rfl, _⟩ := hft
      exact evStore_frame h t _ _ hag (.inl e)
    · split at hft
      · rename_i l i j hx
        split at hft
        · rename_i b hb
          rcases cond_any hft with ⟨e, hft⟩ | ⟨_, hft⟩
          · simp only [Foot.mk.injEq, Option.some.injEq] at hft
            obtain ⟨rfl, rfl, _⟩ := hft
            rw [hx]
            exact evStore_frame h t _ _ hag (.inr ⟨l, i, j, b, rfl, hb, e⟩)
          · exact top hft
        · exact top hft
      · exact top hft
  | call c =>
    simp only [footOf, ho] at hft
    simp only [evOp, ho]
    split at hft
    · rename_i hc
      split at hft
      · rename_i x hx
        simp only [Foot.mk.injEq, Option.some.injEq] at hft
        obtain ⟨rfl, rfl, _⟩ := hft
        simp only [hc, hx]
        split
        · rename_i heq _
          injection heq with heq _
          subst heq
          exact evLen_frame h _ _ hag
        · rfl
      · exact top hft
    · rename_i hc
      split at hft
      · rename_i x y hx
        simp only [Foot.mk.injEq, Option.some.injEq] at hft
        obtain ⟨rfl, rfl, _⟩ := hft
        simp only [hc, hx]
        split
        · rename_i heq _
          injection heq with h1 heq
          injection heq with h2 _
          subst h1; subst h2
          exact evAppend_frame h _ _ _ _ hag
        · rfl
      · exact top hft
    · rename_i hc
      split at hft
      · rename_i x y hx
        simp only [Foot.mk.injEq, Option.some.injEq] at hft
        obtain ⟨rfl, rfl, _⟩ := hft
        simp only [hc, hx]
        split
        · rename_i heq _
          injection heq with h1 heq
          injection heq with h2 _
          subst h1; subst h2
          exact evCopy_frame h _ _ _ hag
        · rfl
      · exact top hft
    · rename_i hc
      simp only [Foot.no, Foot.mk.injEq, Option.some.injEq] at hft
      obtain ⟨rfl, rfl, _⟩ := hft
      simp only [hc, mix_nil h]
    · rename_i hc
      simp only [Foot.no, Foot.mk.injEq, Option.some.injEq] at hft
      obtain ⟨rfl, rfl, _⟩ := hft
      simp only [hc, mix_nil h]
    · rename_i f hc
      split at hft
      · rcases cond_any hft with ⟨e, hft⟩ | ⟨_, hft⟩
        · simp only [Foot.mk.injEq, Option.some.injEq] at hft
          obtain ⟨rfl, rfl, _⟩ := hft
          simp only [hc, getO, isMv_pr e]
          obtain ⟨g, hg⟩ := isMv_spec e
          rw [evCall_mv hg, evCall_mv hg]
          split
          · rfl
          · congr 1
            rw [List.nil_append, List.append_nil]
            have hm := evMv_frame (K := K) h g (c.args.toList.map (getO fr)) (by
              intro l hl
              refine hag l ?_
              rw [List.mem_flatMap] at hl ⊢
              obtain ⟨a, ha, hl⟩ := hl
              obtain ⟨x, hx, rfl⟩ := List.mem_map.1 ha
              exact ⟨x, hx, hl⟩)
            rw [hm]
            cases c.args.toList <;> rfl
        · rcases cond_any hft with ⟨_, hft⟩ | ⟨_, hft⟩
          · exact top hft
          · rcases cond_any hft with ⟨_, hft⟩ | ⟨_, hft⟩ <;> simp at hft
      · exact top hft
    · exact top hft
  | pick c a b => simp only [footOf, ho, Foot.no, Foot.mk.injEq, Option.some.injEq] at hft; obtain ⟨rfl, rfl, _⟩ := hft; simp only [evOp, ho, mix_nil h]
  | nilCheck x => simp only [footOf, ho, Foot.no, Foot.mk.injEq, Option.some.injEq] at hft; obtain ⟨rfl, rfl, _⟩ := hft; simp only [evOp, ho, mix_nil h]
  | binOp op t x y u => simp only [footOf, ho, Foot.no, Foot.mk.injEq, Option.some.injEq] at hft; obtain ⟨rfl, rfl, _⟩ := hft; simp only [evOp, ho, evBin, mix_nil h]
  | unOp op t x => simp only [footOf, ho, Foot.no, Foot.mk.injEq, Option.some.injEq] at hft; obtain ⟨rfl, rfl, _⟩ := hft; simp only [evOp, ho, evUn, mix_nil h]
  | fieldAddr t x f => simp only [footOf, ho, Foot.no, Foot.mk.injEq, Option.some.injEq] at hft; obtain ⟨rfl, rfl, _⟩ := hft; simp only [evOp, ho, evFieldAddr, mix_nil h]
  | field t x f => simp only [footOf, ho, Foot.no, Foot.mk.injEq, Option.some.injEq] at hft; obtain ⟨rfl, rfl, _⟩ := hft; simp only [evOp, ho, evField, mix_nil h]
  | index t x i => simp only [footOf, ho, Foot.no, Foot.mk.injEq, Option.some.injEq] at hft; obtain ⟨rfl, rfl, _⟩ := hft; simp only [evOp, ho, evIndex, mix_nil h]
  | extract x i => simp only [footOf, ho, Foot.no, Foot.mk.injEq, Option.some.injEq] at hft; obtain ⟨rfl, rfl, _⟩ := hft; simp only [evOp, ho, mix_nil h]
  | makeFunc f a b => simp only [footOf, ho, Foot.no, Foot.mk.injEq, Option.some.injEq] at hft; obtain ⟨rfl, rfl, _⟩ := hft; cases f <;> simp only [evOp, ho, mix_nil h]
  | _ => simp only [footOf, ho] at hft; exact top hft
end frame
end Go.Ev
namespace Go.Ev
variable [Gl]
def Mo (σ σ' : Store) : Prop := σ'.length = σ.length ∧ ∀ (l : Nat) (k : Blk), σ[l]? = some k → ∃ m, σ'[l]? = some { k with mode := m }
theorem Mo.refl (σ : Store) : Mo σ σ := ⟨rfl, fun _ k h => ⟨k.mode, h⟩⟩
theorem Mo.trans {a b c : Store} (h : Mo a b) (h2 : Mo b c) : Mo a c := ⟨h2.1.trans h.1, fun l k hk => by
  obtain ⟨m, h3⟩ := h.2 l k hk
  obtain ⟨m', h4⟩ := h2.2 l _ h3
  exact ⟨m', h4⟩⟩
theorem Mo.set {σ : Store} {l : Nat} {k : Blk} (h : σ[l]? = some k) (m : Nat) : Mo σ (σ.set l { k with mode := m }) := by
  refine ⟨by simp, fun l' k' h' => ?_⟩
  by_cases e : l = l'
  · subst e
    rw [h] at h'
    obtain rfl := Option.some.inj h'
    exact ⟨m, by rw [List.getElem?_set_self (List.getElem?_eq_some_iff.1 h).1]⟩
  · exact ⟨k'.mode, by rw [List.getElem?_set_ne e]; exact h'⟩
def Only (σ σ' : Store) (L : List Nat) : Prop := ∀ l, l ∉ L → σ'[l]? = σ[l]?
theorem Only.refl (σ : Store) (L : List Nat) : Only σ σ L := fun _ _ => rfl
theorem Only.trans {a b c : Store} {L : List Nat} (h : Only a b L) (h2 : Only b c L) : Only a c L := fun l hl => (h2 l hl).trans (h l hl)
theorem Only.mono {a b : Store} {L L' : List Nat} (h : Only a b L) (hs : ∀ x ∈ L, x ∈ L') : Only a b L' := fun l hl => h l fun hm => hl (hs l hm)
theorem Only.set {σ : Store} {l : Nat} (k : Blk) {L : List Nat} (hl : l ∈ L) : Only σ (σ.set l k) L := fun l' h' => List.getElem?_set_ne fun e => h' (by rw [← e]; exact hl)
theorem refs_mo {σ σ' : Store} (h : Mo σ σ') : ∀ (n : Nat) (a : AV), refsN σ' n a = refsN σ n a
  | 0, _ => rfl
  | n + 1, a => by
    have ih := refs_mo h n
    have fm : ∀ cs : List AV, cs.flatMap (refsN σ' n) = cs.flatMap (refsN σ n) := fun cs => by
      rw [show refsN σ' n = refsN σ n from funext ih]
    cases a with
    | ptr l i j =>
      simp only [refsN]
      cases hk : σ[l]? with
      | none =>
        have : σ'[l]? = none := by rw [List.getElem?_eq_none_iff] at hk ⊢; rw [h.1]; exact hk
        rw [this]
      | some k =>
        obtain ⟨m, hm⟩ := h.2 l k hk
        rw [hm]
        simp only
        rw [fm]
    | clo f a b => simp only [refsN, fm]
    | agg cs => simp only [refsN, fm]
    | tup cs => simp only [refsN, fm]
    | _ => rfl
theorem expC_only {σ σ' : Store} {c a : AV} (n : Nat) (h : expC σ c = some (a, σ')) : Mo σ σ' ∧ Only σ σ' (refsN σ (n + 1) c) := by
  cases c with
  | v x =>
    simp only [expC] at h
    cases hx : okC (.v x) with
    | false => rw [hx] at h; cases h
    | true => rw [hx] at h; simp only [cond_true, Option.some.injEq, Prod.mk.injEq] at h; obtain ⟨_, rfl⟩ := h; exact ⟨Mo.refl _, Only.refl _ _⟩
  | lst b sz xs => simp only [expC, Option.some.injEq, Prod.mk.injEq] at h; obtain ⟨_, rfl⟩ := h; exact ⟨Mo.refl _, Only.refl _ _⟩
  | sl b l off cut =>
    simp only [expC] at h
    split at h
    · cases h
    · rename_i k hk
      rcases cond_any h with ⟨_, h⟩ | ⟨_, h⟩
      · simp only [Option.some.injEq, Prod.mk.injEq] at h
        obtain ⟨_, rfl⟩ := h
        exact ⟨Mo.set hk 0, Only.set _ (by simp [refsN])⟩
      · cases h
  | _ => cases h
theorem expCs_only : ∀ {cs as : List AV} {σ σ' : Store} (n : Nat), expCs σ cs = some (as, σ') → Mo σ σ' ∧ Only σ σ' (cs.flatMap (refsN σ (n + 1)))
  | [], as, σ, σ', n, h => by simp only [expCs, Option.some.injEq, Prod.mk.injEq] at h; obtain ⟨_, rfl⟩ := h; exact ⟨Mo.refl _, Only.refl _ _⟩
  | c :: cs, as, σ, σ', n, h => by
    simp only [expCs] at h
    split at h
    · cases h
    · rename_i c' σ1 h1
      split at h
      · cases h
      · rename_i cs' σ2 h2
        simp only [Option.some.injEq, Prod.mk.injEq] at h
        obtain ⟨_, rfl⟩ := h
        obtain ⟨m1, o1⟩ := expC_only n h1
        obtain ⟨m2, o2⟩ := expCs_only n h2
        refine ⟨m1.trans m2, (o1.mono fun x hx => ?_).trans (o2.mono fun x hx => ?_)⟩
        · rw [List.flatMap_cons]; exact List.mem_append.2 (.inl hx)
        · rw [List.flatMap_cons]
          rw [show refsN σ1 (n + 1) = refsN σ (n + 1) from funext (refs_mo m1 (n + 1))] at hx
          exact List.mem_append.2 (.inr hx)
theorem expOb_only {σ σ' : Store} {l : Nat} {b : AV} (n : Nat) (h : expOb σ l = some (b, σ')) : Mo σ σ' ∧ Only σ σ' (refsN σ (n + 2) (.ptr l 0 0)) ∧ l ∈ refsN σ (n + 2) (.ptr l 0 0) := by
  simp only [expOb] at h
  split at h
  · cases h
  · rename_i k hk
    rcases cond_any h with ⟨hc, h⟩ | ⟨_, h⟩
    · simp only [Bool.and_eq_true] at hc
      split at h
      · cases h
      · rename_i cs σ1 h1
        simp only [Option.some.injEq, Prod.mk.injEq] at h
        obtain ⟨_, rfl⟩ := h
        obtain ⟨m1, o1⟩ := expCs_only n h1
        have m0 := Mo.set hk 0
        have e : refsN σ (n + 2) (.ptr l 0 0) = l :: (lget k.xs 0).flatMap (refsN σ (n + 1)) := by simp only [refsN, hk, hc.2, cond_true]
        rw [e]
        refine ⟨m0.trans m1, (Only.set _ (List.mem_cons_self ..)).trans (o1.mono fun x hx => ?_), List.mem_cons_self ..⟩
        rw [show refsN (σ.set l { k with mode := 0 }) (n + 1) = refsN σ (n + 1) from funext (refs_mo m0 (n + 1))] at hx
        exact List.mem_cons_of_mem _ hx
    · cases h
theorem expO1_only {σ σ' : Store} {a b : AV} {r : List Nat} (n : Nat) (h : expO1 σ a = some (b, σ', r)) : Mo σ σ' ∧ Only σ σ' (refsN σ (n + 2) a) ∧ ∀ x ∈ r, x ∈ refsN σ (n + 2) a := by
  have fin : ∀ {a : AV} {σ1 : Store} {b' : AV}, expC σ a = some (b', σ1) → Mo σ σ1 ∧ Only σ σ1 (refsN σ (n + 2) a) ∧ ∀ x ∈ ([] : List Nat), x ∈ refsN σ (n + 2) a := fun h1 => by
    obtain ⟨m1, o1⟩ := expC_only (n + 1) h1
    exact ⟨m1, o1, fun x hx => by cases hx⟩
  have go : ∀ {a : AV}, (expO1 σ a = match expC σ a with | none => none | some (b, σ') => some (b, σ', [])) → expO1 σ a = some (b, σ', r) → Mo σ σ' ∧ Only σ σ' (refsN σ (n + 2) a) ∧ ∀ x ∈ r, x ∈ refsN σ (n + 2) a := fun {a} e h => by
    rw [e] at h
    cases h1 : expC σ a with
    | none => rw [h1] at h; cases h
    | some q =>
      obtain ⟨b', σ1⟩ := q
      rw [h1] at h
      simp only [Option.some.injEq, Prod.mk.injEq] at h
      obtain ⟨_, rfl, rfl⟩ := h
      exact fin h1
  cases a with
  | ptr l i j =>
    simp only [expO1] at h
    rcases cond_any h with ⟨hc, h⟩ | ⟨_, h⟩
    · simp only [Bool.and_eq_true] at hc
      have hi := Nat.eq_of_beq_eq_true hc.1
      have hj := Nat.eq_of_beq_eq_true hc.2
      subst hi hj
      cases h1 : expOb σ l with
      | none => rw [h1] at h; cases h
      | some q =>
        obtain ⟨b', σ1⟩ := q
        rw [h1] at h
        simp only [Option.some.injEq, Prod.mk.injEq] at h
        obtain ⟨_, rfl, rfl⟩ := h
        obtain ⟨m1, o1, hl⟩ := expOb_only n h1
        exact ⟨m1, o1, fun x hx => by rw [List.mem_singleton.1 hx]; exact hl⟩
    · cases h
  | _ => exact go rfl h
theorem expOs_only : ∀ {cs as : List AV} {σ σ' : Store} {r : List Nat} (n : Nat), expOs σ cs = some (as, σ', r) → Mo σ σ' ∧ Only σ σ' (cs.flatMap (refsN σ (n + 2))) ∧ ∀ x ∈ r, x ∈ cs.flatMap (refsN σ (n + 2))
  | [], as, σ, σ', r, n, h => by simp only [expOs, Option.some.injEq, Prod.mk.injEq] at h; obtain ⟨_, rfl, rfl⟩ := h; exact ⟨Mo.refl _, Only.refl _ _, fun x hx => by cases hx⟩
  | c :: cs, as, σ, σ', r, n, h => by
    simp only [expOs] at h
    split at h
    · cases h
    · rename_i c' σ1 r1 h1
      split at h
      · cases h
      · rename_i cs' σ2 r2 h2
        simp only [Option.some.injEq, Prod.mk.injEq] at h
        obtain ⟨_, rfl, rfl⟩ := h
        obtain ⟨m1, o1, g1⟩ := expO1_only n h1
        obtain ⟨m2, o2, g2⟩ := expOs_only n h2
        rw [show refsN σ1 (n + 2) = refsN σ (n + 2) from funext (refs_mo m1 (n + 2))] at o2 g2
        rw [List.flatMap_cons]
        refine ⟨m1.trans m2, (o1.mono fun x hx => List.mem_append.2 (.inl hx)).trans (o2.mono fun x hx => List.mem_append.2 (.inr hx)), fun x hx => ?_⟩
        rcases List.mem_append.1 hx with hx | hx
        · exact List.mem_append.2 (.inl (g1 x hx))
        · exact List.mem_append.2 (.inr (g2 x hx))
theorem expO_only {σ σ' : Store} {a b : AV} {r : List Nat} (n : Nat) (h : expO σ a = some (b, σ', r)) : Mo σ σ' ∧ Only σ σ' (refsN σ (n + 3) a) ∧ ∀ x ∈ r, x ∈ refsN σ (n + 3) a := by
  cases a with
  | agg cs =>
    simp only [expO] at h
    split at h
    · cases h
    · rename_i bs σ1 r1 h1
      simp only [Option.some.injEq, Prod.mk.injEq] at h
      obtain ⟨_, rfl, rfl⟩ := h
      exact expOs_only n h1
  | clo f first caps =>
    simp only [expO] at h
    rcases cond_any h with ⟨_, h⟩ | ⟨_, h⟩
    · cases h
    · split at h
      · cases h
      · rename_i bs σ1 r1 h1
        simp only [Option.some.injEq, Prod.mk.injEq] at h
        obtain ⟨_, rfl, rfl⟩ := h
        obtain ⟨m, o, g⟩ := expOs_only n h1
        exact ⟨m, o.mono fun x hx => List.mem_append.2 (.inr hx), fun x hx => List.mem_append.2 (.inr (g x hx))⟩
  | _ => exact expO1_only (n + 1) h
theorem expRow_inv {σ σ' : Store} {a b : AV} {r : List Nat} (h : expRow σ a = some (b, σ', r)) : ∃ c l k, a = .sl c l 0 none ∧ σ[l]? = some k ∧ k.mode = 1 ∧ k.obj = false ∧ b = .tup [.ow false k.ty k.sz k.xs] ∧ σ' = σ.set l { k with mode := 0 } ∧ r = [l] := by
  unfold expRow at h
  split at h
  · rename_i c0 l
    split at h
    · cases h
    · rename_i k hk
      rcases cond_any h with ⟨c, h⟩ | ⟨_, h⟩
      · simp only [Option.some.injEq, Prod.mk.injEq] at h
        obtain ⟨e1, e2, e3⟩ := h
        simp only [Bool.and_eq_true, Bool.not_eq_true'] at c
        exact ⟨c0, l, k, rfl, hk, Nat.eq_of_beq_eq_true c.1, c.2, e1.symm, e2.symm, e3.symm⟩
      · cases h
  · cases h
theorem expRow_only {σ σ' : Store} {a b : AV} {r : List Nat} (n : Nat) (h : expRow σ a = some (b, σ', r)) : Mo σ σ' ∧ Only σ σ' (refsN σ (n + 1) a) ∧ ∀ x ∈ r, x ∈ refsN σ (n + 1) a := by
  obtain ⟨_, l, k, rfl, hk, _, _, rfl, rfl, rfl⟩ := expRow_inv h
  exact ⟨Mo.set hk 0, Only.set _ (by simp [refsN]), fun x hx => by simpa [refsN] using hx⟩
theorem expArgs_only : ∀ {as bs : List AV} {σ σ' : Store} {m q : List Bool} {r : List Nat}, expArgs σ m q as = some (bs, σ', r) → Mo σ σ' ∧ Only σ σ' (as.flatMap (refs σ)) ∧ ∀ x ∈ r, x ∈ as.flatMap (refs σ)
  | [], bs, σ, σ', m, q, r, h => by simp only [expArgs, Option.some.injEq, Prod.mk.injEq] at h; obtain ⟨_, rfl, rfl⟩ := h; exact ⟨Mo.refl _, Only.refl _ _, fun x hx => by cases hx⟩
  | a :: as, bs, σ, σ', m, q, r, h => by
    simp only [expArgs] at h
    split at h
    · cases h
    · rename_i b σ1 r1 h1
      split at h
      · cases h
      · rename_i bs' σ2 r2 h2
        simp only [Option.some.injEq, Prod.mk.injEq] at h
        obtain ⟨_, rfl, rfl⟩ := h
        have key : Mo σ σ1 ∧ Only σ σ1 (refs σ a) ∧ ∀ x ∈ r1, x ∈ refs σ a := by
          split at h1
          · split at h1
            · exact expRow_only 4 h1
            · exact expO_only 2 h1
          · split at h1
            · cases h1
            · simp only [Option.some.injEq, Prod.mk.injEq] at h1
              obtain ⟨_, rfl, rfl⟩ := h1
              exact ⟨Mo.refl _, Only.refl _ _, fun x hx => by cases hx⟩
        obtain ⟨m1, o1, g1⟩ := key
        obtain ⟨m2, o2, g2⟩ := expArgs_only h2
        rw [show refs σ1 = refs σ from funext (refs_mo m1 5)] at o2 g2
        rw [List.flatMap_cons]
        refine ⟨m1.trans m2, (o1.mono fun x hx => List.mem_append.2 (.inl hx)).trans (o2.mono fun x hx => List.mem_append.2 (.inr hx)), fun x hx => ?_⟩
        rcases List.mem_append.1 hx with hx | hx
        · exact List.mem_append.2 (.inl (g1 x hx))
        · exact List.mem_append.2 (.inr (g2 x hx))
theorem lent_sub (σ : Store) : ∀ (as : List AV) (m : List Bool) (x : Nat), x ∈ lentRefs σ m as → x ∈ as.flatMap (refs σ)
  | [], _, _, h => by cases h
  | a :: as, m, x, h => by
    rw [List.flatMap_cons]
    simp only [lentRefs] at h
    rcases List.mem_append.1 h with h | h
    · refine List.mem_append.2 (.inl ?_)
      cases hm : m.headD false with
      | true => rw [hm] at h; cases h
      | false => rw [hm] at h; exact h
    · exact List.mem_append.2 (.inr (lent_sub σ as m.tail x h))
theorem freezeAll_only : ∀ (L : List Nat) (σ : Store), (freezeAll σ L).length = σ.length ∧ Only σ (freezeAll σ L) L
  | [], σ => ⟨rfl, Only.refl _ _⟩
  | l :: L, σ => by
    simp only [freezeAll]
    split
    · rename_i k hk
      cases Nat.beq k.mode 0 with
      | true =>
        obtain ⟨h1, h2⟩ := freezeAll_only L σ
        exact ⟨h1, h2.mono fun x hx => List.mem_cons_of_mem _ hx⟩
      | false =>
        obtain ⟨h1, h2⟩ := freezeAll_only L (σ.set l { k with mode := 2 })
        exact ⟨h1.trans (by simp), (Only.set _ (List.mem_cons_self ..)).trans (h2.mono fun x hx => List.mem_cons_of_mem _ hx)⟩
    · obtain ⟨h1, h2⟩ := freezeAll_only L σ
      exact ⟨h1, h2.mono fun x hx => List.mem_cons_of_mem _ hx⟩
def Kept (σ σ' : Store) (L : List Nat) : Prop := σ.length ≤ σ'.length ∧ ∀ l, l < σ.length → l ∉ L → σ'[l]? = σ[l]?
theorem Kept.refl (σ : Store) (L : List Nat) : Kept σ σ L := ⟨Nat.le_refl _, fun _ _ _ => rfl⟩
theorem Kept.trans {a b c : Store} {L : List Nat} (h : Kept a b L) (h2 : Kept b c L) : Kept a c L := ⟨Nat.le_trans h.1 h2.1, fun l hl hn => (h2.2 l (Nat.lt_of_lt_of_le hl h.1) hn).trans (h.2 l hl hn)⟩
theorem Kept.app (σ τ : Store) (L : List Nat) : Kept σ (σ ++ τ) L := ⟨by simp, fun l hl _ => List.getElem?_append_left hl⟩
theorem Only.kept {σ σ' : Store} {L : List Nat} (h : Only σ σ' L) (hl : σ'.length = σ.length) : Kept σ σ' L := ⟨Nat.le_of_eq hl.symm, fun l _ hn => h l hn⟩
theorem impC_kept {σ σ' : Store} {c a : AV} {L : List Nat} (h : impC σ c = some (a, σ')) : Kept σ σ' L := by
  cases c with
  | ow b ty sz xs => simp only [impC, Option.some.injEq, Prod.mk.injEq] at h; obtain ⟨_, rfl⟩ := h; exact Kept.app _ _ _
  | v x => simp only [impC, Option.some.injEq, Prod.mk.injEq] at h; obtain ⟨_, rfl⟩ := h; exact Kept.refl _ _
  | lst b sz xs => simp only [impC, Option.some.injEq, Prod.mk.injEq] at h; obtain ⟨_, rfl⟩ := h; exact Kept.refl _ _
  | ep cs off => simp only [impC, Option.some.injEq, Prod.mk.injEq] at h; obtain ⟨_, rfl⟩ := h; exact Kept.refl _ _
  | _ => cases h
theorem impCs_kept : ∀ {cs as : List AV} {σ σ' : Store} {L : List Nat}, impCs σ cs = some (as, σ') → Kept σ σ' L
  | [], as, σ, σ', L, h => by simp only [impCs, Option.some.injEq, Prod.mk.injEq] at h; obtain ⟨_, rfl⟩ := h; exact Kept.refl _ _
  | c :: cs, as, σ, σ', L, h => by
    simp only [impCs] at h
    split at h
    · cases h
    · rename_i c' σ1 h1
      split at h
      · cases h
      · rename_i cs' σ2 h2
        simp only [Option.some.injEq, Prod.mk.injEq] at h
        obtain ⟨_, rfl⟩ := h
        exact (impC_kept h1).trans (impCs_kept h2)
theorem imp1_kept {σ σ' : Store} {a b : AV} {r : List AV} {L : List Nat} (h : imp1 σ a = some (b, σ', r)) : Kept σ σ' L := by
  have go : ∀ {a : AV}, (imp1 σ a = match impC σ a with | none => none | some (b, σ') => some (b, σ', [])) → imp1 σ a = some (b, σ', r) → Kept σ σ' L := fun {a} e h => by
    rw [e] at h
    cases h1 : impC σ a with
    | none => rw [h1] at h; cases h
    | some q =>
      obtain ⟨b', σ1⟩ := q
      rw [h1] at h
      simp only [Option.some.injEq, Prod.mk.injEq] at h
      obtain ⟨_, rfl, rfl⟩ := h
      exact impC_kept h1
  cases a with
  | ob ty cs =>
    simp only [imp1] at h
    cases h1 : impCs σ cs with
    | none => rw [h1] at h; cases h
    | some q =>
      obtain ⟨cs', σ1⟩ := q
      rw [h1] at h
      simp only [Option.some.injEq, Prod.mk.injEq] at h
      obtain ⟨_, rfl, rfl⟩ := h
      exact (impCs_kept h1).trans (Kept.app _ _ _)
  | tup cs =>
    match cs, h with
    | [], h => exact go rfl h
    | [c], h =>
      simp only [imp1] at h
      cases h1 : impC σ c with
      | none => rw [h1] at h; cases h
      | some q =>
        obtain ⟨b', σ1⟩ := q
        rw [h1] at h
        simp only [Option.some.injEq, Prod.mk.injEq] at h
        obtain ⟨_, rfl, rfl⟩ := h
        exact impC_kept h1
    | _ :: _ :: _, h => exact go rfl h
  | _ => exact go rfl h
theorem imps_kept : ∀ {cs as : List AV} {σ σ' : Store} {r : List AV} {L : List Nat}, imps σ cs = some (as, σ', r) → Kept σ σ' L
  | [], as, σ, σ', r, L, h => by simp only [imps, Option.some.injEq, Prod.mk.injEq] at h; obtain ⟨_, rfl, rfl⟩ := h; exact Kept.refl _ _
  | c :: cs, as, σ, σ', r, L, h => by
    simp only [imps] at h
    split at h
    · cases h
    · rename_i c' σ1 r1 h1
      split at h
      · cases h
      · rename_i cs' σ2 r2 h2
        simp only [Option.some.injEq, Prod.mk.injEq] at h
        obtain ⟨_, rfl, rfl⟩ := h
        exact (imp1_kept h1).trans (imps_kept h2)
theorem imp_kept {σ σ' : Store} {a b : AV} {r : List AV} {L : List Nat} (h : imp σ a = some (b, σ', r)) : Kept σ σ' L := by
  have other : ∀ {a : AV}, imp1 σ a = some (b, σ', r) → Kept σ σ' L := fun h => imp1_kept h
  cases a with
  | agg cs =>
    simp only [imp] at h
    split at h
    · cases h
    · rename_i bs σ1 r1 h1
      simp only [Option.some.injEq, Prod.mk.injEq] at h
      obtain ⟨_, rfl, rfl⟩ := h
      exact imps_kept h1
  | clo f first caps =>
    simp only [imp] at h
    split at h
    · cases h
    · rename_i bs σ1 r1 h1
      simp only [Option.some.injEq, Prod.mk.injEq] at h
      obtain ⟨_, rfl, rfl⟩ := h
      exact imps_kept h1
  | _ => simp only [imp] at h; exact other h
theorem impArgs_kept : ∀ {cs as : List AV} {σ σ' : Store} {r : List AV} {L : List Nat}, impArgs σ cs = some (as, σ', r) → Kept σ σ' L
  | [], as, σ, σ', r, L, h => by simp only [impArgs, Option.some.injEq, Prod.mk.injEq] at h; obtain ⟨_, rfl, rfl⟩ := h; exact Kept.refl _ _
  | c :: cs, as, σ, σ', r, L, h => by
    simp only [impArgs] at h
    split at h
    · cases h
    · rename_i c' σ1 r1 h1
      split at h
      · cases h
      · rename_i cs' σ2 r2 h2
        simp only [Option.some.injEq, Prod.mk.injEq] at h
        obtain ⟨_, rfl, rfl⟩ := h
        exact (imp_kept h1).trans (impArgs_kept h2)
theorem backs_kept : ∀ {ls : List Nat} {os : List (List AV)} {σ σ' : Store} {L : List Nat}, (∀ x ∈ ls, x ∈ L) → backs σ ls os = some σ' → Kept σ σ' L
  | [], [], σ, σ', L, _, h => by simp only [backs, Option.some.injEq] at h; subst h; exact Kept.refl _ _
  | [], _ :: _, σ, σ', L, _, h => by simp [backs] at h
  | _ :: _, [], σ, σ', L, _, h => by simp [backs] at h
  | l :: ls, cs :: os, σ, σ', L, hs, h => by
    simp only [backs] at h
    split at h
    · cases h
    · rename_i k hk
      rcases cond_any h with ⟨_, h⟩ | ⟨_, h⟩
      · split at h
        · rename_i cs' σ1 h1
          have h2 : Kept σ1 (σ1.set l { k with mode := 1, xs := [cs'] }) L := (Only.set _ (hs l (List.mem_cons_self ..))).kept (by simp)
          exact ((impCs_kept h1).trans h2).trans (backs_kept (fun x hx => hs x (List.mem_cons_of_mem _ hx)) h)
        · cases h
      · split at h
        · rename_i ty sz xs _
          have h2 : Kept σ (σ.set l { k with mode := 1, xs := xs }) L := (Only.set _ (hs l (List.mem_cons_self ..))).kept (by simp)
          exact h2.trans (backs_kept (fun x hx => hs x (List.mem_cons_of_mem _ hx)) h)
        · cases h
section
variable {R : Type} {P : Program} {C : Cfg} {call : CallT} {inl : InlT}
theorem shR_nat (dat : Bool) (t : TypeId) (r : AV) (K : AV → Option R) : shR P dat t r K = (shR P dat t r some).bind K := by
  unfold shR
  refine cond_nat (cond_nat (cond_nat rfl rfl) (cond_nat rfl rfl)) ?_
  split
  · exact cond_nat (cond_nat rfl rfl) (cond_nat rfl rfl)
  · exact cond_nat rfl (cond_nat rfl rfl)
  · exact cond_nat rfl rfl
  · exact cond_nat rfl rfl
  · exact cond_nat rfl rfl
  · rfl
theorem shRs_nat (dat : Bool) : ∀ {R : Type} (ts : List TypeId) (j : Nat) (rs : List AV) (K : List AV → Option R), shRs P dat ts j rs K = (shRs P dat ts j rs some).bind K
  | _, [], _, _, _ => rfl
  | _, t :: ts, j, rs, K => by
    simp only [shRs]
    rw [shR_nat (K := fun a => shRs P dat ts (j + 1) rs fun as => K (a :: as)), shR_nat (K := fun a => shRs P dat ts (j + 1) rs fun as => some (a :: as))]
    cases shR P dat t (cellAt rs j) some with
    | none => rfl
    | some a =>
      simp only [Option.bind_some]
      rw [shRs_nat dat ts (j + 1) rs (fun as => K (a :: as)), shRs_nat dat ts (j + 1) rs (fun as => some (a :: as))]
      cases shRs P dat ts (j + 1) rs some <;> rfl
theorem shOuts_nat : ∀ {R : Type} (ts : List (Nat × List AV)) (j : Nat) (rs : List AV) (K : List (List AV) → Option R), shOuts ts j rs K = (shOuts ts j rs some).bind K
  | _, [], _, _, _ => rfl
  | _, (ty, tcs) :: ts, j, rs, K => by
    simp only [shOuts]
    split
    · rename_i t z _
      refine cond_nat ?_ rfl
      rw [shOuts_nat ts (j + 1) rs (fun os => K ([.tup [.ow false t z (avXs (rowC (cellAt rs j)))]] :: os)), shOuts_nat ts (j + 1) rs (fun os => some ([.tup [.ow false t z (avXs (rowC (cellAt rs j)))]] :: os))]
      cases shOuts ts (j + 1) rs some <;> rfl
    refine cond_nat ?_ rfl
    rw [shOuts_nat ts (j + 1) rs (fun os => K (likeV tcs 0 (obCells (cellAt rs j)) :: os)), shOuts_nat ts (j + 1) rs (fun os => some (likeV tcs 0 (obCells (cellAt rs j)) :: os))]
    cases shOuts ts (j + 1) rs some <;> rfl
theorem nrm1_refs (σ : Store) (t : TypeId) (a : AV) : refs σ (nrm1 P t a) = refs σ a := by
  cases a with
  | lst b s xs =>
    show refs σ (bif Nat.beq s 0 then _ else _) = _
    cases Nat.beq s 0 with
    | false => rfl
    | true =>
      simp only [cond_true]
      split
      · split <;> rfl
      · rfl
  | _ => rfl
theorem nrmA_refs (σ : Store) : ∀ (ts : List TypeId) (as : List AV), (nrmA P ts as).flatMap (refs σ) = as.flatMap (refs σ)
  | [], [] => rfl
  | [], _ :: _ => rfl
  | _ :: _, [] => rfl
  | t :: ts, a :: as => by
    show refs σ (nrm1 P t a) ++ (nrmA P ts as).flatMap (refs σ) = refs σ a ++ as.flatMap (refs σ)
    rw [nrm1_refs, nrmA_refs σ ts as]
theorem evCall_kept {σ : Store} {K : AV → Store → Option R} {f : FuncId} {args : List AV} {r : R} (hu : C.upd f = none) (hi : C.inl f = false) (h : evCall P C call inl σ K f args = some r) :
    ∃ av σ', evCall P C call inl σ pr f args = some (av, σ') ∧ K av σ' = some r ∧ Kept σ σ' (args.flatMap (refs σ)) := by
  unfold evCall at h ⊢
  cases hfn : P.funcs[f]? with
  | none => rw [hfn] at h; cases h
  | some fn =>
    rw [hfn] at h
    simp only [hu, hi] at h ⊢
    cases hb : (fn.body.isNone || fn.name == "runtime.NumGoroutine") with
    | true => rw [hb] at h; cases h
    | false =>
      rw [hb] at h
      simp only [cond_false] at h ⊢
      have hnr := nrmA_refs (P := P) σ fn.params.toList args
      rw [← hnr]
      generalize nrmA P fn.params.toList args = args at h ⊢
      rcases cond_any h with ⟨c0, h⟩ | ⟨_, h⟩
      rotate_left
      · cases h
      rw [c0]
      simp only [cond_true]
      cases he : expArgs σ (C.rw f) (C.bk f) args with
      | none => rw [he] at h; cases h
      | some q =>
        obtain ⟨bs, σ1, roots⟩ := q
        rw [he] at h
        simp only at h ⊢
        obtain ⟨m1, o1, g1⟩ := expArgs_only he
        rcases cond_any h with ⟨_, h⟩ | ⟨c1, h⟩
        · cases h
        rw [c1]
        simp only [cond_false]
        rcases cond_any h with ⟨_, h⟩ | ⟨c2, h⟩
        · cases h
        rw [c2]
        simp only [cond_false]
        obtain ⟨rs, hrs, h⟩ := Option.bind_eq_some_iff.1 h
        rw [hrs]
        simp only [Option.bind_some]
        rw [shRs_nat] at h ⊢
        obtain ⟨as, has, h⟩ := Option.bind_eq_some_iff.1 h
        rw [has]
        simp only [Option.bind_some]
        rw [shOuts_nat] at h ⊢
        obtain ⟨os, hos, h⟩ := Option.bind_eq_some_iff.1 h
        rw [hos]
        simp only [Option.bind_some]
        rcases cond_any h with ⟨c3, h⟩ | ⟨_, h⟩
        · rw [c3]
          simp only [cond_true]
          have k1 : Kept σ σ1 (args.flatMap (refs σ)) := o1.kept m1.1
          have k2 : ∀ b : Bool, Kept σ1 (bif b then freezeAll σ1 (lentRefs σ (C.rw f) args) else σ1) (args.flatMap (refs σ)) := fun b => by
            cases b with
            | true =>
              obtain ⟨z1, z2⟩ := freezeAll_only (lentRefs σ (C.rw f) args) σ1
              exact (z2.mono (lent_sub σ args (C.rw f))).kept z1
            | false => exact Kept.refl _ _
          split at h
          · cases h
          · rename_i σ2 hbk
            cases him : impArgs σ2 as with
            | none => rw [him] at h; cases h
            | some q3 =>
              obtain ⟨vs, σ3, r3⟩ := q3
              rw [him] at h
              exact ⟨_, _, rfl, h, ((k1.trans (k2 _)).trans (backs_kept g1 hbk)).trans (impArgs_kept him)⟩
        · cases h
end
end Go.Ev
