/- What the evaluator's values and store have to do with the model's values and worlds. -/
import Derived.Test.YtokagdgcfmjlnaaEv03
set_option linter.all false
namespace Go.Ev

structure RB where
  b : Nat
  csz : Nat
  sz : Nat
  n : Nat
  ph : Bool
abbrev Rho := Nat → Option RB
abbrev Mu := Nat → Option Obj

def muCell (μ : Mu) (a : Addr) : Option Value :=
  match μ a.block with
  | some (.cells c _ _) => if a.spot.isSome then none else c[a.off]?
  | _ => none

/-- The length of what is cut from a row of n elements. -/
def cutN (n off : Nat) : Option Nat → Nat
  | none => n - off
  | some m => m

/-- Immutable data. -/
inductive DR (μ : Mu) : AV → Value → Prop
  | v {x : Value} (h : okC (.v x) = true) : DR μ (.v x) x
  | lst {nil : Bool} {sz : Nat} {xs : List (List AV)} {A : Option Addr} {c : Nat} (vals : Nat → Nat → Value)
      (hnil : nil = A.isNone) (hA : A = none → xs = [] ∧ c = 0) (hc : xs.length ≤ c) (hsz : ∀ e ∈ xs, e.length = sz)
      (hcell : ∀ a, A = some a → ∀ k j, k < xs.length → j < sz → muCell μ (a.add (k * sz + j)) = some (vals k j))
      (hv : ∀ k e j u, xs[k]? = some e → e[j]? = some u → DR μ u (vals k j)) : DR μ (.lst nil sz xs) (.slice A xs.length c)
  | ep {cs : List AV} {off b o : Nat} (vals : Nat → Value) (hcell : ∀ j, j < cs.length → muCell μ ⟨b, o + j, none⟩ = some (vals j))
      (hv : ∀ j u, cs[j]? = some u → DR μ u (vals j)) : DR μ (.ep cs off) (.pointer (some ⟨b, o + off, none⟩))
  | clo {f : FuncId} {first caps : List AV} {fs cs : List Value} (h1 : fs.length = first.length) (h2 : cs.length = caps.length)
      (hv1 : ∀ (k : Nat) (u : AV) (v : Value), first[k]? = some u → fs[k]? = some v → DR μ u v) (hv2 : ∀ (k : Nat) (u : AV) (v : Value), caps[k]? = some u → cs[k]? = some v → DR μ u v) :
      DR μ (.clo f first caps) (.func (.func f) fs.toArray cs.toArray)

/-- One cell. -/
inductive CR (μ : Mu) (ρ : Rho) : AV → Value → Prop
  | d {a : AV} {v : Value} (h : DR μ a v) : CR μ ρ a v
  | ptr {l i j : Nat} {rb : RB} (h : ρ l = some rb) (hp : rb.ph = false) : CR μ ρ (.ptr l i j) (.pointer (some ⟨rb.b, i * rb.sz + j, none⟩))
  | px {l j n i : Nat} {rb : RB} (h : ρ l = some rb) (hp : rb.ph = false) (hi : i < n) : CR μ ρ (.px l j n i) (.pointer (some ⟨rb.b, j + i, none⟩))
  | sl {l off : Nat} {cut : Option Nat} {rb : RB} {a : Addr} {len cap : Nat} (h : ρ l = some rb) (hp : rb.ph = false)
      (ha : a = ⟨rb.b, off * rb.sz, none⟩ ∨ (cap = 0 ∧ 0 < off)) (hlen : len = cutN rb.n off cut)
      (hoff : off + len ≤ rb.n) (hcap : len ≤ cap) (hcsz : (off + cap) * rb.sz = rb.csz) : CR μ ρ (.sl false l off cut) (.slice (some a) len cap)
  | sln {l off : Nat} {cut : Option Nat} {rb : RB} (h : ρ l = some rb) (hn : rb.n = 0) (ho : off = 0) (hcut : ∀ n, cut = some n → n = 0) :
      CR μ ρ (.sl true l off cut) (.slice none 0 0)
  | clo {f : FuncId} {first caps : List AV} {fs cs : List Value} (h1 : fs.length = first.length) (h2 : cs.length = caps.length)
      (hv1 : ∀ (k : Nat) (u : AV) (v : Value), first[k]? = some u → fs[k]? = some v → CR μ ρ u v) (hv2 : ∀ (k : Nat) (u : AV) (v : Value), caps[k]? = some u → cs[k]? = some v → CR μ ρ u v) :
      CR μ ρ (.clo f first caps) (.func (.func f) fs.toArray cs.toArray)
  | un {v : Value} (h : v.oneCell' = true) : CR μ ρ .un v

/-- Cells beside one another. -/
def CRs (μ : Mu) (ρ : Rho) (cs : List AV) (vs : List Value) : Prop := vs.length = cs.length ∧ ∀ (k : Nat) (u : AV) (v : Value), cs[k]? = some u → vs[k]? = some v → CR μ ρ u v
def DRs (μ : Mu) (cs : List AV) (vs : List Value) : Prop := vs.length = cs.length ∧ ∀ (k : Nat) (u : AV) (v : Value), cs[k]? = some u → vs[k]? = some v → DR μ u v

/-- What a slot holds. -/
inductive VR (μ : Mu) (ρ : Rho) : AV → Value → Prop
  | c {a : AV} {v : Value} (h : CR μ ρ a v) : VR μ ρ a v
  | agg {cs : List AV} {vs : List Value} (h : CRs μ ρ cs vs) : VR μ ρ (.agg cs) (.agg vs.toArray)
  | tup {cs : List AV} {vs : List Value} (hl : vs.length = cs.length) (h : ∀ (k : Nat) (u : AV) (v : Value), cs[k]? = some u → vs[k]? = some v → VR μ ρ u v) : VR μ ρ (.tup cs) (.tuple vs.toArray)
  | un {v : Value} : VR μ ρ .un v
  | sk : VR μ ρ (.v (.tuple #[])) (.tuple #[])

def MuLe (μ μ' : Mu) : Prop := ∀ b o, μ b = some o → μ' b = some o
def RhoLe (ρ ρ' : Rho) : Prop := ∀ l rb, ρ l = some rb → ρ' l = some rb
theorem MuLe.refl (μ : Mu) : MuLe μ μ := fun _ _ h => h
theorem RhoLe.refl (ρ : Rho) : RhoLe ρ ρ := fun _ _ h => h
theorem MuLe.trans {a b c : Mu} (h : MuLe a b) (k : MuLe b c) : MuLe a c := fun x o e => k x o (h x o e)
theorem RhoLe.trans {a b c : Rho} (h : RhoLe a b) (k : RhoLe b c) : RhoLe a c := fun x o e => k x o (h x o e)

theorem muCell_mono {μ μ' : Mu} (h : MuLe μ μ') {a : Addr} {v : Value} (hc : muCell μ a = some v) : muCell μ' a = some v := by
  unfold muCell at *
  split at hc
  · rename_i c t f hm
    rw [h _ _ hm]
    exact hc
  · cases hc
theorem DR.mono {μ μ' : Mu} (h : MuLe μ μ') {a : AV} {v : Value} (hd : DR μ a v) : DR μ' a v := by
  induction hd with
  | v hx => exact .v hx
  | lst vals hnil hA hc hsz hcell hv ih => exact .lst vals hnil hA hc hsz (fun a ha k j hk hj => muCell_mono h (hcell a ha k j hk hj)) ih
  | ep vals hcell hv ih => exact .ep vals (fun j hj => muCell_mono h (hcell j hj)) ih
  | clo h1 h2 _ _ ih1 ih2 => exact .clo h1 h2 ih1 ih2
theorem CR.mono {μ μ' : Mu} {ρ ρ' : Rho} (h : MuLe μ μ') (hr : RhoLe ρ ρ') {a : AV} {v : Value} (hd : CR μ ρ a v) : CR μ' ρ' a v := by
  induction hd with
  | d hx => exact .d (hx.mono h)
  | ptr hl hp => exact .ptr (hr _ _ hl) hp
  | px hl hp hi => exact .px (hr _ _ hl) hp hi
  | sl hl hp ha hlen hoff hcap hcsz => exact .sl (hr _ _ hl) hp ha hlen hoff hcap hcsz
  | sln hl hn ho hcut => exact .sln (hr _ _ hl) hn ho hcut
  | clo h1 h2 _ _ ih1 ih2 => exact .clo h1 h2 ih1 ih2
  | un h => exact .un h
theorem CRs.mono {μ μ' : Mu} {ρ ρ' : Rho} (h : MuLe μ μ') (hr : RhoLe ρ ρ') {cs : List AV} {vs : List Value} (hd : CRs μ ρ cs vs) : CRs μ' ρ' cs vs :=
  ⟨hd.1, fun k u v hu hv => (hd.2 k u v hu hv).mono h hr⟩
theorem DRs.mono {μ μ' : Mu} (h : MuLe μ μ') {cs : List AV} {vs : List Value} (hd : DRs μ cs vs) : DRs μ' cs vs :=
  ⟨hd.1, fun k u v hu hv => (hd.2 k u v hu hv).mono h⟩
theorem VR.mono {μ μ' : Mu} {ρ ρ' : Rho} (h : MuLe μ μ') (hr : RhoLe ρ ρ') {a : AV} {v : Value} (hd : VR μ ρ a v) : VR μ' ρ' a v := by
  induction hd with
  | c hx => exact .c (hx.mono h hr)
  | agg hx => exact .agg (hx.mono h hr)
  | tup hl _ ih => exact .tup hl ih
  | un => exact .un
  | sk => exact .sk

theorem okC_one {x : Value} (h : okC (.v x) = true) : x.oneCell' = true := by
  cases x <;> simp_all [okC, Value.oneCell']
theorem DR.one {μ : Mu} {a : AV} {v : Value} (h : DR μ a v) : v.oneCell' = true := by
  cases h with
  | v hx => exact okC_one hx
  | lst => rfl
  | ep => rfl
  | clo => rfl
theorem CR.one {μ : Mu} {ρ : Rho} {a : AV} {v : Value} (h : CR μ ρ a v) : v.oneCell' = true := by
  cases h with
  | d hx => exact hx.one
  | ptr => rfl
  | px => rfl
  | sl => rfl
  | sln => rfl
  | clo => rfl
  | un h => exact h
/-- A value that can stand in one cell. -/
theorem VR.cell {μ : Mu} {ρ : Rho} {a : AV} {v : Value} (h : VR μ ρ a v) (hk : okC a = true) : CR μ ρ a v := by
  cases h with
  | c hx => exact hx
  | agg => cases hk
  | tup => cases hk
  | un => cases hk
  | sk => cases hk

def RowD (μ : Mu) (sz : Nat) (xs : List (List AV)) (cur : Array Value) : Prop :=
  (∀ e ∈ xs, e.length = sz) ∧ ∀ i e j c, xs[i]? = some e → e[j]? = some c → ∃ u, cur[i * sz + j]? = some u ∧ DR μ c u
def RowO (μ : Mu) (ρ : Rho) (sz : Nat) (xs : List (List AV)) (cur : Array Value) : Prop :=
  (∀ e ∈ xs, e.length = sz) ∧ ∀ i e j c, xs[i]? = some e → e[j]? = some c → ∃ u, cur[i * sz + j]? = some u ∧ CR μ ρ c u

/-- The cells lie there, and none of them is frozen: a stretch that is lies behind them. -/
def OkFz (obj : Bool) (n : Nat) (fz : Nat × Nat) : Prop := fz = (0, 0) ∨ (obj = false ∧ n ≤ fz.1)
def Has (w : World) (b : Nat) (cur : Array Value) (ty : Nat) (obj : Bool) : Prop := ∃ fz, w.heap[b]? = some (.cells cur ty fz) ∧ OkFz obj cur.size fz
/-- A block of the store, alive, that is there. -/
structure Live (μ : Mu) (ρ : Rho) (w : World) (k : Blk) (rb : RB) (cur : Array Value) : Prop where
  size : cur.size = rb.csz
  rowD : k.obj = false → RowD μ rb.sz k.xs cur
  rowO : k.obj = true → RowO μ ρ rb.sz k.xs cur
  at_ : (k.mode = 1 ∧ Has w rb.b cur k.ty k.obj ∧ μ rb.b = none) ∨ (k.mode = 2 ∧ ∃ ty fz, μ rb.b = some (.cells cur ty fz))
structure BlkR (μ : Mu) (ρ : Rho) (w : World) (k : Blk) (rb : RB) : Prop where
  sz : rb.sz = k.sz
  n : rb.n = k.xs.length
  fit : rb.n * rb.sz ≤ rb.csz
  ph : rb.ph = true → k.xs = [] ∧ k.obj = false
  one : k.obj = true → k.xs.length = 1 ∧ rb.csz = rb.sz
  live : rb.ph = false → ∃ cur, Live μ ρ w k rb cur

/-- What a stretch of code starts from: its world, the blocks that it may change, the immutable data. -/
structure Env where
  w0 : World
  D : Nat → Prop
  m0 : Mu

structure Frm (E : Env) (μ : Mu) (w : World) : Prop where
  os : w.os = E.w0.os
  tape : w.tape = E.w0.tape
  output : w.output = E.w0.output
  size : E.w0.heap.size ≤ w.heap.size
  keep : ∀ b, b < E.w0.heap.size → ¬ E.D b → w.heap[b]? = E.w0.heap[b]?
  mu : MuLe E.m0 μ
  muNew : ∀ b o, μ b = some o → E.m0 b = some o ∨ E.D b ∨ E.w0.heap.size ≤ b

structure SR (E : Env) (μ : Mu) (ρ : Rho) (σ : Store) (w : World) : Prop where
  blk : ∀ l rb k, ρ l = some rb → σ[l]? = some k → k.mode ≠ 0 → BlkR μ ρ w k rb
  inj : ∀ l l' rb rb' k k', ρ l = some rb → ρ l' = some rb' → σ[l]? = some k → σ[l']? = some k' → k.mode = 1 → k'.mode = 1 → rb.ph = false → rb'.ph = false → rb.b = rb'.b → l = l'
  ownD : ∀ l rb k, ρ l = some rb → σ[l]? = some k → k.mode = 1 → rb.ph = false → E.D rb.b ∨ E.w0.heap.size ≤ rb.b
  imm : ∀ b o, μ b = some o → w.heap[b]? = some o
  base : Frm E μ w

/-- The world goes on, and what the store and the immutable data rest on stays. -/
theorem SR.world {E : Env} {μ : Mu} {ρ : Rho} {σ : Store} {w w' : World} (h : SR E μ ρ σ w)
    (hk : ∀ b, b < w.heap.size → w'.heap[b]? = w.heap[b]?) (hz : w.heap.size ≤ w'.heap.size) (ho : w'.os = w.os) (ht : w'.tape = w.tape) (hu : w'.output = w.output) : SR E μ ρ σ w' := by
  have hlt : ∀ b (o : Obj), w.heap[b]? = some o → w'.heap[b]? = some o := fun b o hb => by
    rw [hk b (Array.getElem?_eq_some_iff.1 hb).1]; exact hb
  refine ⟨fun l rb k hl hk' hm => ?_, h.inj, h.ownD, fun b o hb => hlt b o (h.imm b o hb), ⟨ho.trans h.base.os, ht.trans h.base.tape, hu.trans h.base.output, Nat.le_trans h.base.size hz, fun b hb hD => ?_, h.base.mu, h.base.muNew⟩⟩
  · have hb := h.blk l rb k hl hk' hm
    refine ⟨hb.sz, hb.n, hb.fit, hb.ph, hb.one, fun hp => ?_⟩
    obtain ⟨cur, hc⟩ := hb.live hp
    refine ⟨cur, hc.size, hc.rowD, hc.rowO, ?_⟩
    rcases hc.at_ with ⟨h1, h2, h3⟩ | h2
    · exact .inl ⟨h1, h2.imp fun fz h => ⟨hlt _ _ h.1, h.2⟩, h3⟩
    · exact .inr h2
  · rw [hk b (Nat.lt_of_lt_of_le hb h.base.size)]
    exact h.base.keep b hb hD
theorem SR.drew {E : Env} {μ : Mu} {ρ : Rho} {σ : Store} {w : World} (h : SR E μ ρ σ w) : SR E μ ρ σ w.drew :=
  h.world (fun _ _ => rfl) (Nat.le_refl _) rfl rfl rfl
theorem alloc_old (w : World) (o : Obj) (b : Nat) (h : b < w.heap.size) : (w.alloc o).heap[b]? = w.heap[b]? := by
  show (w.heap.push o)[b]? = _
  rw [Array.getElem?_push, if_neg (Nat.ne_of_lt h)]
theorem alloc_new (w : World) (o : Obj) : (w.alloc o).heap[w.heap.size]? = some o := by
  show (w.heap.push o)[w.heap.size]? = _
  simp
theorem SR.alloc {E : Env} {μ : Mu} {ρ : Rho} {σ : Store} {w : World} (h : SR E μ ρ σ w) (o : Obj) : SR E μ ρ σ (w.alloc o) :=
  h.world (fun b hb => alloc_old w o b hb) (by simp) rfl rfl rfl

def rhoAdd (ρ : Rho) (l : Nat) (rb : RB) : Rho := fun m => if m = l then some rb else ρ m
theorem rhoAdd_same (ρ : Rho) (l : Nat) (rb : RB) : rhoAdd ρ l rb l = some rb := by simp [rhoAdd]
theorem rhoAdd_le {ρ : Rho} {l : Nat} {rb : RB} (h : ∀ r, ρ l ≠ some r) : RhoLe ρ (rhoAdd ρ l rb) := fun m r hm => by
  unfold rhoAdd
  split
  · rename_i e; subst e; exact absurd hm (h r)
  · exact hm
/-- Nothing lies at the place of the next block. -/
def Fresh (ρ : Rho) (σ : Store) : Prop := ρ σ.length = none

theorem RowO.mono {μ μ' : Mu} {ρ ρ' : Rho} (h : MuLe μ μ') (hr : RhoLe ρ ρ') {sz : Nat} {xs : List (List AV)} {cur : Array Value} (hd : RowO μ ρ sz xs cur) : RowO μ' ρ' sz xs cur :=
  ⟨hd.1, fun i e j c he hc => let ⟨u, h1, h2⟩ := hd.2 i e j c he hc; ⟨u, h1, h2.mono h hr⟩⟩
theorem RowD.mono {μ μ' : Mu} (h : MuLe μ μ') {sz : Nat} {xs : List (List AV)} {cur : Array Value} (hd : RowD μ sz xs cur) : RowD μ' sz xs cur :=
  ⟨hd.1, fun i e j c he hc => let ⟨u, h1, h2⟩ := hd.2 i e j c he hc; ⟨u, h1, h2.mono h⟩⟩
theorem BlkR.rho {μ : Mu} {ρ ρ' : Rho} {w : World} {k : Blk} {rb : RB} (h : BlkR μ ρ w k rb) (hr : RhoLe ρ ρ') : BlkR μ ρ' w k rb :=
  ⟨h.sz, h.n, h.fit, h.ph, h.one, fun hp => let ⟨cur, hc⟩ := h.live hp; ⟨cur, hc.size, hc.rowD, fun ho => (hc.rowO ho).mono (MuLe.refl μ) hr, hc.at_⟩⟩

theorem get_app {α : Type} {σ : List α} {k kk : α} {l : Nat} (h : (σ ++ [k])[l]? = some kk) : (l < σ.length ∧ σ[l]? = some kk) ∨ (l = σ.length ∧ kk = k) := by
  rcases Nat.lt_or_ge l σ.length with hlt | hge
  · rw [List.getElem?_append_left hlt] at h; exact .inl ⟨hlt, h⟩
  · rw [List.getElem?_append_right hge] at h
    rcases Nat.eq_zero_or_pos (l - σ.length) with h0 | h0
    · rw [h0] at h
      exact .inr ⟨by omega, by simpa using h.symm⟩
    · rw [List.getElem?_eq_none (by simp; omega)] at h; cases h
theorem rhoAdd_cases {ρ : Rho} {l m : Nat} {r rb : RB} (h : rhoAdd ρ l r m = some rb) : (m = l ∧ rb = r) ∨ (m ≠ l ∧ ρ m = some rb) := by
  unfold rhoAdd at h
  split at h
  · rename_i e; exact .inl ⟨e, by injection h with h; exact h.symm⟩
  · rename_i e; exact .inr ⟨e, h⟩
theorem SR.own_lt {E : Env} {μ : Mu} {ρ : Rho} {σ : Store} {w : World} (h : SR E μ ρ σ w) {l : Nat} {rb : RB} {k : Blk} (h1 : ρ l = some rb) (h2 : σ[l]? = some k) (h3 : k.mode = 1) (h4 : rb.ph = false) : rb.b < w.heap.size := by
  obtain ⟨c, hc⟩ := (h.blk l rb k h1 h2 (by omega)).live h4
  rcases hc.at_ with ⟨_, ⟨_, h6, _⟩, _⟩ | ⟨h5, _⟩
  · exact (Array.getElem?_eq_some_iff.1 h6).1
  · omega

/-- One more block. -/
theorem SR.add {E : Env} {μ : Mu} {ρ : Rho} {σ : Store} {w : World} (h : SR E μ ρ σ w) (hf : Fresh ρ σ) (k : Blk) (rb : RB)
    (hb : BlkR μ (rhoAdd ρ σ.length rb) w k rb) (hnew : k.mode = 1 → rb.ph = false → (E.D rb.b ∨ E.w0.heap.size ≤ rb.b) ∧ ∀ l rb' k', ρ l = some rb' → σ[l]? = some k' → k'.mode = 1 → rb'.ph = false → rb'.b ≠ rb.b) :
    RhoLe ρ (rhoAdd ρ σ.length rb) ∧ SR E μ (rhoAdd ρ σ.length rb) (σ ++ [k]) w := by
  have hle : RhoLe ρ (rhoAdd ρ σ.length rb) := rhoAdd_le (fun r e => by rw [hf] at e; cases e)
  refine ⟨hle, fun l r kk hl hk hmm => ?_, fun l l' r r' kk kk' hl hl' hk hk' hm1 hm2 hp hp' he => ?_, fun l r kk hl hk hm1 hp => ?_, h.imm, h.base⟩
  · rcases get_app hk with ⟨h1, h2⟩ | ⟨h1, h2⟩
    · rcases rhoAdd_cases hl with ⟨h3, _⟩ | ⟨_, h4⟩
      · omega
      · exact (h.blk l r kk h4 h2 hmm).rho hle
    · rcases rhoAdd_cases hl with ⟨_, h4⟩ | ⟨h3, _⟩
      · rw [h2, h4]; exact hb
      · exact absurd h1 h3
  · rcases get_app hk with ⟨h1, h2⟩ | ⟨h1, h2⟩ <;> rcases get_app hk' with ⟨h1', h2'⟩ | ⟨h1', h2'⟩
    · rcases rhoAdd_cases hl with ⟨h3, _⟩ | ⟨_, h4⟩
      · omega
      rcases rhoAdd_cases hl' with ⟨h3, _⟩ | ⟨_, h4'⟩
      · omega
      exact h.inj l l' r r' kk kk' h4 h4' h2 h2' hm1 hm2 hp hp' he
    · rcases rhoAdd_cases hl with ⟨h3, _⟩ | ⟨_, h4⟩
      · omega
      rcases rhoAdd_cases hl' with ⟨_, h4'⟩ | ⟨h3, _⟩
      · subst h4'
        exact absurd he ((hnew (h2' ▸ hm2) hp').2 l r kk h4 h2 hm1 hp)
      · exact absurd h1' h3
    · rcases rhoAdd_cases hl' with ⟨h3, _⟩ | ⟨_, h4⟩
      · omega
      rcases rhoAdd_cases hl with ⟨_, h4'⟩ | ⟨h3, _⟩
      · subst h4'
        exact absurd he.symm ((hnew (h2 ▸ hm1) hp).2 l' r' kk' h4 h2' hm2 hp')
      · exact absurd h1 h3
    · omega
  · rcases get_app hk with ⟨h1, h2⟩ | ⟨h1, h2⟩
    · rcases rhoAdd_cases hl with ⟨h3, _⟩ | ⟨_, h4⟩
      · omega
      · exact h.ownD l r kk h4 h2 hm1 hp
    · rcases rhoAdd_cases hl with ⟨_, h4⟩ | ⟨h3, _⟩
      · subst h4
        exact (hnew (h2 ▸ hm1) hp).1
      · exact absurd h1 h3

/-- A new block of the call's own. -/
theorem SR.new {E : Env} {μ : Mu} {ρ : Rho} {σ : Store} {w : World} (h : SR E μ ρ σ w) (hf : Fresh ρ σ) (k : Blk) (cur : Array Value)
    (hm : k.mode = 1) (hfit : k.xs.length * k.sz ≤ cur.size) (hone : k.obj = true → k.xs.length = 1 ∧ cur.size = k.sz)
    (hD : k.obj = false → RowD μ k.sz k.xs cur) (hO : k.obj = true → RowO μ ρ k.sz k.xs cur) :
    RhoLe ρ (rhoAdd ρ σ.length ⟨w.heap.size, cur.size, k.sz, k.xs.length, false⟩) ∧
      SR E μ (rhoAdd ρ σ.length ⟨w.heap.size, cur.size, k.sz, k.xs.length, false⟩) (σ ++ [k]) (w.alloc (.cells cur k.ty)) := by
  have hle : RhoLe ρ (rhoAdd ρ σ.length ⟨w.heap.size, cur.size, k.sz, k.xs.length, false⟩) := rhoAdd_le (fun r e => by rw [hf] at e; cases e)
  have ha := h.alloc (.cells cur k.ty)
  have hmu : μ w.heap.size = none := by
    cases e : μ w.heap.size with
    | none => rfl
    | some o =>
      have := h.imm _ _ e
      simp at this
  refine ha.add hf k _ ⟨rfl, rfl, hfit, fun hp => (by cases hp), hone, fun _ => ⟨cur, rfl, hD, fun ho => (hO ho).mono (MuLe.refl μ) hle, .inl ⟨hm, ⟨_, alloc_new w _, .inl rfl⟩, hmu⟩⟩⟩ fun _ _ => ⟨.inr h.base.size, fun l r kk h1 h2 h3 h4 => ?_⟩
  exact Nat.ne_of_lt (h.own_lt h1 h2 h3 h4)

/-- A new row of the call's own, in whatever world has it. -/
theorem SR.newW {E : Env} {μ : Mu} {ρ : Rho} {σ : Store} {w w' : World} (h : SR E μ ρ σ w) (hf : Fresh ρ σ) (k : Blk) (cur : Array Value)
    (hm : k.mode = 1) (hobj : k.obj = false) (hfit : k.xs.length * k.sz ≤ cur.size) (hD : RowD μ k.sz k.xs cur)
    (hk : ∀ b, b < w.heap.size → w'.heap[b]? = w.heap[b]?) (hz : w.heap.size ≤ w'.heap.size) (ho : w'.os = w.os) (ht : w'.tape = w.tape) (hu : w'.output = w.output) (hat : Has w' w.heap.size cur k.ty k.obj) :
      SR E μ (rhoAdd ρ σ.length ⟨w.heap.size, cur.size, k.sz, k.xs.length, false⟩) (σ ++ [k]) w' := by
  have ha := h.world hk hz ho ht hu
  have hmu : μ w.heap.size = none := by
    cases e : μ w.heap.size with
    | none => rfl
    | some o =>
      have := h.imm _ _ e
      simp at this
  refine (ha.add hf k _ ⟨rfl, rfl, hfit, fun hp => (by cases hp), fun e => (by rw [hobj] at e; cases e), fun _ => ⟨cur, rfl, fun _ => hD, fun e => (by rw [hobj] at e; cases e), .inl ⟨hm, hat, hmu⟩⟩⟩ fun _ _ => ⟨.inr h.base.size, fun l r kk h1 h2 h3 h4 => ?_⟩).2
  exact Nat.ne_of_lt (h.own_lt h1 h2 h3 h4)

/-- A nil slice of the call's own: a row without memory. -/
theorem SR.phantom {E : Env} {μ : Mu} {ρ : Rho} {σ : Store} {w : World} (h : SR E μ ρ σ w) (hf : Fresh ρ σ) (ty sz : Nat) :
    RhoLe ρ (rhoAdd ρ σ.length ⟨0, 0, sz, 0, true⟩) ∧ SR E μ (rhoAdd ρ σ.length ⟨0, 0, sz, 0, true⟩) (σ ++ [⟨1, ty, sz, false, []⟩]) w :=
  h.add hf _ _ ⟨rfl, rfl, by simp, fun _ => ⟨rfl, rfl⟩, fun ho => (by cases ho), fun hp => (by cases hp)⟩ fun _ hp => (by cases hp)
end Go.Ev
