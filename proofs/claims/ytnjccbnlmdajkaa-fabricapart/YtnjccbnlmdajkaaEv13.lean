/- Objects by name,with what is frozen: for walks by hand. -/
import Derived.RegionTactic
import Derived.Test.YtnjccbnlmdajkaaEv12
set_option linter.all false
namespace Go.Ev
open Go Go.Proofs
section
variable {ι : Type}
structure Kst (w : World) (μ : Mu) (I : ι → Option ItemO) (W : World) : Prop where
 kept : KeptW [] w W
 imm : MuLe μ (hf W)
 ok : ∀ i x,I i = some x → B1 μ (hf W) x.F [x.p] x.a x.p
 nd : ∀ i x,I i = some x → x.F.Nodup
 new : ∀ i x,I i = some x → ∀ b ∈ x.F,w.heap.size ≤ b
 dj : ∀ i j x y,I i = some x → I j = some y → i ≠ j → ∀ b ∈ x.F,b ∉ y.F
variable {w W W' : World} {μ μ' : Mu} {I J : ι → Option ItemO}
theorem Kst.start (w : World) : Kst w (hf w) (fun _ : ι => none) w := ⟨KeptW.refl _ _,MuLe.refl _,fun i x (h : none = some x) => (by cases h),fun i x (h : none = some x) => (by cases h),fun i x (h : none = some x) => (by cases h),fun i j x y (h : none = some x) => (by cases h)⟩
theorem Kst.own (h : Kst w μ I W) {i : ι} {x : ItemO} (hi : I i = some x) : ∀ b ∈ x.F,μ b = none∧b < W.heap.size := fun b hb => by
 obtain ⟨h1,o,h2⟩ := (h.ok i x hi).ownd b hb
 exact ⟨h1,(Array.getElem?_eq_some_iff.1 h2).1⟩
theorem Kst.keep1 (h : Kst w μ I W) {D : List Nat} (k : KeptW D W W') (hm : MuLe μ μ') (hnew : ∀ b o,μ' b = some o → μ b = some o ∨ b ∈ D ∨ W.heap.size ≤ b) {i : ι} {x : ItemO} (hi : I i = some x) (hd : ∀ b ∈ x.F,b ∉ D) : B1 μ' (hf W') x.F [x.p] x.a x.p := by
 refine ((h.ok i x hi).mono hm fun b hb => ?_).heap fun b hb => k.keep b (h.own hi b hb).2 (hd b hb)
 obtain ⟨h1,h2⟩ := h.own hi b hb
 cases e : μ' b with
 | none => rfl
 | some o =>
  rcases hnew b o e with h3 | h3 | h3
  ·rw [h1] at h3; cases h3
  ·exact absurd h3 (hd b hb)
  ·omega
theorem Kst.step (h : Kst w μ I W) {D : List Nat} (k : KeptW D W W') (hm : MuLe μ μ') (him : MuLe μ' (hf W')) (hnew : ∀ b o,μ' b = some o → μ b = some o ∨ b ∈ D ∨ W.heap.size ≤ b) (hD : ∀ b ∈ D,w.heap.size ≤ b) (N : ι → Prop)
  (hold : ∀ i x,J i = some x → ¬ N i → I i = some x∧∀ b ∈ x.F,b ∉ D)
  (hN : ∀ i x,J i = some x → N i → B1 μ' (hf W') x.F [x.p] x.a x.p∧x.F.Nodup∧∀ b ∈ x.F,b ∈ D ∨ W.heap.size ≤ b)
  (hNN : ∀ i j x y,J i = some x → J j = some y → N i → N j → i ≠ j → ∀ b ∈ x.F,b ∉ y.F) : Kst w μ' J W' := by
 have hs := h.kept.size
 refine ⟨h.kept.trans k fun x hx => .inr (hD x hx),him,fun i x hi => ?_,fun i x hi => ?_,fun i x hi b hb => ?_,fun i j x y hi hj hij b hb => ?_⟩
 ·by_cases n : N i
  ·exact (hN i x hi n).1
  ·exact h.keep1 k hm hnew (hold i x hi n).1 (hold i x hi n).2
 ·by_cases n : N i
  ·exact (hN i x hi n).2.1
  ·exact h.nd i x (hold i x hi n).1
 ·by_cases n : N i
  ·rcases (hN i x hi n).2.2 b hb with g | g
   ·exact hD b g
   ·omega
  ·exact h.new i x (hold i x hi n).1 b hb
 ·by_cases n : N i <;> by_cases n' : N j
  ·exact hNN i j x y hi hj n n' hij b hb
  ·intro hc
   obtain ⟨g1,g2⟩ := hold j y hj n'
   rcases (hN i x hi n).2.2 b hb with g | g
   ·exact g2 b hc g
   ·have := (h.own g1 b hc).2; omega
  ·intro hc
   obtain ⟨g1,g2⟩ := hold i x hi n
   rcases (hN j y hj n').2.2 b hc with g | g
   ·exact g2 b hb g
   ·have := (h.own g1 b hb).2; omega
  ·exact h.dj i j x y (hold i x hi n).1 (hold j y hj n').1 hij b hb
theorem Kst.kept0 (h : Kst w μ I W) (k : KeptW [] W W') : Kst w μ I W' :=
 h.step k (MuLe.refl _) (fun b o hb => k.get (h.imm b o hb) List.not_mem_nil) (fun b o hb => .inl hb) (fun b hb => by cases hb) (fun _ => False) (fun i x hi _ => ⟨hi,fun _ _ h => by cases h⟩) (fun _ _ _ n => n.elim) (fun _ _ _ _ _ _ n => n.elim)
theorem Kst.drew (h : Kst w μ I W) : Kst w μ I W.drew := h.kept0 ⟨rfl,rfl,rfl,Nat.le_refl _,fun _ _ _ => rfl⟩
theorem Kst.ren {κ : Type} {J : κ → Option ItemO} (h : Kst w μ I W) (g : κ → ι) (hg : ∀ k x,J k = some x → I (g k) = some x) (hinj : ∀ k l x y,J k = some x → J l = some y → g k = g l → k = l) : Kst w μ J W :=
 ⟨h.kept,h.imm,fun i x hi => h.ok _ x (hg i x hi),fun i x hi => h.nd _ x (hg i x hi),fun i x hi => h.new _ x (hg i x hi),fun i j x y hi hj hij => h.dj _ _ x y (hg i x hi) (hg j y hj) fun e => hij (hinj i j x y hi hj e)⟩
variable [DecidableEq ι]
def put (I : ι → Option ItemO) (k : ι) (x : Option ItemO) : ι → Option ItemO := fun i => if i = k then x else I i
theorem put_same (I : ι → Option ItemO) (k : ι) (x : Option ItemO) : put I k x k = x := if_pos rfl
theorem put_ne (I : ι → Option ItemO) {k i : ι} (x : Option ItemO) (h : i ≠ k) : put I k x i = I i := if_neg h
theorem put_some {I : ι → Option ItemO} {k i : ι} {x : Option ItemO} {y : ItemO} (h : put I k x i = some y) : (i = k∧x = some y) ∨ (i ≠ k∧I i = some y) := by
 unfold put at h
 by_cases e : i = k
 ·rw [if_pos e] at h; exact .inl ⟨e,h⟩
 ·rw [if_neg e] at h; exact .inr ⟨e,h⟩
theorem Kst.drop (h : Kst w μ I W) (k : ι) : Kst w μ (put I k none) W :=
 h.ren id (fun i x hi => by rcases put_some hi with ⟨_, e⟩ | ⟨_, e⟩
                            · cases e
                            · exact e) (fun _ _ _ _ _ _ e => e)
theorem Kst.put1 (h : Kst w μ I W) {D : List Nat} (k : KeptW D W W') (hm : MuLe μ μ') (him : MuLe μ' (hf W')) (hnew : ∀ b o,μ' b = some o → μ b = some o ∨ b ∈ D ∨ W.heap.size ≤ b) (hD : ∀ b ∈ D,w.heap.size ≤ b) {n : ι} {y : ItemO}
  (hd : ∀ i x,I i = some x → i ≠ n → ∀ b ∈ x.F,b ∉ D) (hb : B1 μ' (hf W') y.F [y.p] y.a y.p) (hn : y.F.Nodup) (hF : ∀ b ∈ y.F,b ∈ D ∨ W.heap.size ≤ b) : Kst w μ' (put I n (some y)) W' :=
 h.step k hm him hnew hD (fun i => i = n) (fun i x hi ne => by
   rcases put_some hi with ⟨e,_⟩ | ⟨_,e⟩
   ·exact absurd e ne
   ·exact ⟨e,hd i x e ne⟩) (fun i x hi e => by
   subst e; rw [put_same] at hi; cases hi; exact ⟨hb,hn,hF⟩) (fun i j x y hi hj e e' ne => absurd (e.trans e'.symm) ne)
abbrev obI (b : Nat) (F : List Nat) (ty : Nat) (cs : List AV) : ItemO := ⟨.pointer (some ⟨b,0,none⟩),F,.ob ty cs⟩
theorem b1_ob {hp : HF} {F : List Nat} {G : List Value} {b ty : Nat} {cs : List AV} (h : B1 μ hp F G (.ob ty cs) (.pointer (some ⟨b,0,none⟩))) : ∃ (F' : List Nat) (cur : Array Value),F = b :: F'∧hp b = some (.cells cur ty (0,0))∧μ b = none∧B0s μ hp F' cs cur.toList := by
 cases h with
 | c h => cases h with | d h => cases h
 | ob h1 h2 h3 => exact ⟨_,_,rfl,h1,h2,h3⟩
theorem Kst.ob (h : Kst w μ I W) {i : ι} {b ty : Nat} {F : List Nat} {cs : List AV} (hi : I i = some (obI b F ty cs)) : ∃ (F' : List Nat) (cur : Array Value),F = b :: F'∧W.heap[b]? = some (.cells cur ty (0,0))∧μ b = none∧B0s μ (hf W) F' cs cur.toList := b1_ob (h.ok i _ hi)
theorem Kst.frozen (h : Kst w μ I W) {i : ι} {b ty : Nat} {F : List Nat} {cs : List AV} (hi : I i = some (obI b F ty cs)) (j : Nat) : W.frozen? ⟨b,j,none⟩ = false := by
 obtain ⟨_,cur,_,h2,_⟩ := h.ob hi
 exact frozen_of h2 j
theorem Kst.at (h : Kst w μ I W) {i : ι} {b ty : Nat} {F : List Nat} {cs : List AV} (hi : I i = some (obI b F ty cs)) {j : Nat} {a : AV} (hj : cs[j]? = some a) : ∃ (F' : List Nat) (v : Value),W.cell? ⟨b,j,none⟩ = some v∧B0 μ (hf W) F' a v := by
 obtain ⟨_,cur,_,h2,_,h4⟩ := h.ob hi
 obtain ⟨F',v,g1,g2⟩ := h4.at j a hj
 rw [Array.getElem?_toList] at g1
 exact ⟨F',v,cell_of h2 g1,g2⟩
theorem b0_v {hp : HF} {F : List Nat} {x v : Value} (h : B0 μ hp F (.v x) v) : v = x∧F = [] := by
 cases h with | d h => cases h; exact ⟨rfl,rfl⟩
theorem b0_lst {hp : HF} {F : List Nat} {n : Bool} {sz : Nat} {xs : List (List AV)} {v : Value} (h : B0 μ hp F (.lst n sz xs) v) : DR μ (.lst n sz xs) v∧F = [] := by
 cases h with | d h => exact ⟨h,rfl⟩
theorem Kst.cell (h : Kst w μ I W) {i : ι} {b ty : Nat} {F : List Nat} {cs : List AV} (hi : I i = some (obI b F ty cs)) {j : Nat} {x : Value} (hj : cs[j]? = some (.v x)) : W.cell? ⟨b,j,none⟩ = some x := by
 obtain ⟨_,v,h1,h2⟩ := h.at hi hj
 obtain ⟨rfl,_⟩ := b0_v h2
 exact h1
theorem Kst.cellL (h : Kst w μ I W) {i : ι} {b ty : Nat} {F : List Nat} {cs : List AV} (hi : I i = some (obI b F ty cs)) {j : Nat} {n : Bool} {sz : Nat} {xs : List (List AV)} (hj : cs[j]? = some (.lst n sz xs)) : ∃ v,W.cell? ⟨b,j,none⟩ = some v∧DR μ (.lst n sz xs) v := by
 obtain ⟨_,v,h1,h2⟩ := h.at hi hj
 exact ⟨v,h1,(b0_lst h2).1⟩
theorem b0s_set {hp : HF} {F Fa : List Nat} {cs : List AV} {vs : List Value} (h : B0s μ hp F cs vs) {a : AV} {v : Value} (ha : B0 μ hp Fa a v) : ∀ j,∃ F',B0s μ hp F' (cs.set j a) (vs.set j v)∧(∀ b ∈ F',b ∈ F ∨ b ∈ Fa)∧(F.Nodup → Fa.Nodup → (∀ b ∈ Fa,b ∉ F) → F'.Nodup) := by
 induction h with
 | nil => exact fun j => ⟨[],.nil,fun b hb => .inl hb,fun h _ _ => h⟩
 | @cons F1 F2 a0 cs0 v0 vs0 h k ih =>
  intro j
  cases j with
  | zero =>
   refine ⟨Fa ++ F2,.cons ha k,fun b hb => (List.mem_append.1 hb).elim .inr fun h => .inl (List.mem_append_right _ h),fun h1 h2 h3 => ?_⟩
   obtain ⟨_,n2,_⟩ := List.nodup_append.1 h1
   exact List.nodup_append.2 ⟨h2,n2,fun x hx y hy e => h3 x hx (List.mem_append_right _ (e ▸ hy))⟩
  | succ j =>
   obtain ⟨F',g1,g2,g3⟩ := ih j
   refine ⟨F1 ++ F',.cons h g1,fun b hb => ?_,fun h1 h2 h3 => ?_⟩
   ·rcases List.mem_append.1 hb with hb | hb
    ·exact .inl (List.mem_append_left _ hb)
    ·exact (g2 b hb).imp (List.mem_append_right _) id
   ·obtain ⟨n1,n2,n3⟩ := List.nodup_append.1 h1
    refine List.nodup_append.2 ⟨n1,g3 n2 h2 fun b hb hc => h3 b hb (List.mem_append_right _ hc),fun x hx y hy e => ?_⟩
    subst e
    rcases g2 x hy with g | g
    ·exact n3 x hx x g rfl
    ·exact h3 x g (List.mem_append_left _ hx)
theorem Kst.mod (h : Kst w μ I W) {n : ι} {x y : ItemO} (hx : I n = some x) (k : KeptW x.F W W') (hm : MuLe μ μ') (him : MuLe μ' (hf W')) (hnew : ∀ b o,μ' b = some o → μ b = some o ∨ b ∈ x.F ∨ W.heap.size ≤ b)
  (hb : B1 μ' (hf W') y.F [y.p] y.a y.p) (hn : y.F.Nodup) (hF : ∀ b ∈ y.F,b ∈ x.F ∨ W.heap.size ≤ b) : Kst w μ' (put I n (some y)) W' :=
 h.put1 k hm him hnew (h.new n x hx) (fun i z hi ne b hb => h.dj i n z x hi hx ne b hb) hb hn hF
theorem Kst.set (h : Kst w μ I W) {i : ι} {b ty : Nat} {F : List Nat} {cs : List AV} (hi : I i = some (obI b F ty cs)) (j : Nat) {a : AV} {v : Value} (ha : DR μ a v) :
  ∃ F',(∀ x ∈ F',x ∈ F)∧Kst w μ (put I i (some (obI b F' ty (cs.set j a)))) (W.setCell ⟨b,j,none⟩ v) := by
 obtain ⟨F0,cur,rfl,h2,h3,h4⟩ := h.ob hi
 obtain ⟨k,hb⟩ := KeptW.set (j := j) (v := v) h2
 have hnd := h.nd i _ hi
 simp only [List.nodup_cons] at hnd
 obtain ⟨F',g1,g2,g3⟩ := b0s_set h4 (B0.d (hp := hf W) ha) j
 have hFsub : ∀ x ∈ F',x ∈ F0 := fun x hx => (g2 x hx).resolve_right List.not_mem_nil
 have himm : MuLe μ (hf (W.setCell ⟨b,j,none⟩ v)) := fun x o hx => by
  have hne : x ≠ b := fun e => by subst e; rw [h3] at hx; cases hx
  exact k.get (h.imm x o hx) (by simpa using hne)
 have hB : B1 μ (hf (W.setCell ⟨b,j,none⟩ v)) (b :: F') [.pointer (some ⟨b,0,none⟩)] (.ob ty (cs.set j a)) (.pointer (some ⟨b,0,none⟩)) := by
  refine .ob hb h3 ?_
  rw [Array.toList_setIfInBounds]
  refine g1.heap fun x hx => k.keep x (h.own hi x (List.mem_cons_of_mem _ (hFsub x hx))).2 fun hm => ?_
  simp at hm
  exact hnd.1 (hm ▸ hFsub x hx)
 have hn' : (b :: F').Nodup := List.nodup_cons.2 ⟨fun hm => hnd.1 (hFsub b hm),g3 hnd.2 List.nodup_nil (fun _ hb => by cases hb)⟩
 have hsub : ∀ x ∈ b :: F',x ∈ b :: F0 := fun x hx => by
  rcases List.mem_cons.1 hx with rfl | hx
  ·exact List.mem_cons_self
  ·exact List.mem_cons_of_mem _ (hFsub x hx)
 exact ⟨b :: F',hsub,h.mod (y := obI b (b :: F') ty (cs.set j a)) hi (k.mono fun x hx => by simp at hx; subst hx; exact .inl List.mem_cons_self) (MuLe.refl _) himm (fun b o hb => .inl hb) hB hn' fun x hx => .inl (hsub x hx)⟩
theorem Kst.alloc (h : Kst w μ I W) (i : ι) {cs : List AV} {cur : Array Value} {ty : Nat} (hc : B0s μ (hf W) [] cs cur.toList) : Kst w μ (put I i (some (obI W.heap.size [W.heap.size] ty cs))) (W.alloc (.cells cur ty (0,0))) := by
 have k : KeptW [] W (W.alloc (.cells cur ty (0,0))) := KeptW.alloc W _
 have hn : μ W.heap.size = none := by
  cases e : μ W.heap.size with
  | none => rfl
  | some o => have := (Array.getElem?_eq_some_iff.1 (h.imm _ _ e)).1; omega
 refine h.put1 k (MuLe.refl _) (fun b o hb => k.get (h.imm b o hb) List.not_mem_nil) (fun b o hb => .inl hb) (fun b hb => by cases hb) (fun _ _ _ _ _ _ hb => by cases hb) ?_ (by simp) fun b hb => .inr (by simp at hb; omega)
 exact .ob (F := []) (Ev.alloc_new W _) hn (hc.heap fun b hb => by cases hb)
theorem b0s_vals {μ : Mu} {hp : HF} : ∀ vs : List Value,(∀ v ∈ vs,okC (.v v) = true) → B0s μ hp [] (vs.map AV.v) vs
 | [],_ => .nil
 | v :: vs,h => .cons (F := []) (F' := []) (.d (.v (h v (by simp)))) (b0s_vals vs fun x hx => h x (List.mem_cons_of_mem _ hx))
theorem Kst.keepRow (h : Kst w μ I W) {F : List Nat} {n : Bool} {T sz : Nat} {xs : List (List AV)} {v : Value} (hb : B0 μ (hf W) F (.ow n T sz xs) v) (hd : ∀ i x,I i = some x → ∀ b ∈ F,b ∉ x.F) (hn : ∀ b ∈ F,w.heap.size ≤ b) :
  ∃ μ',MuLe μ μ'∧Kst w μ' I W∧DR μ' (.lst n sz xs) v∧∀ b o,μ' b = some o → μ b = some o ∨ b ∈ F := by
 cases hb with
 | d h => cases h
 | own => exact ⟨μ,MuLe.refl _,h,dr_nil,fun b o h => .inl h⟩
 | @ow B cap _ _ _ cr hB hmB hcB hsB hrB =>
  obtain ⟨fz,hcell,_⟩ := hB
  let μ' : Mu := fun x => if x = B then some (.cells cr T fz) else μ x
  have hle : MuLe μ μ' := fun x o hx => by
   show (if x = B then _ else μ x) = _
   by_cases e : x = B
   ·subst e; rw [hmB] at hx; cases hx
   ·rw [if_neg e]; exact hx
  have hnew : ∀ b o,μ' b = some o → μ b = some o ∨ b ∈ [B] := fun x o hx => by
   have hx : (if x = B then some (.cells cr T fz) else μ x) = some o := hx
   by_cases e : x = B
   ·exact .inr (by simp [e])
   ·rw [if_neg e] at hx; exact .inl hx
  refine ⟨μ',hle,?_,dr_row hle (if_pos rfl) hcB hrB,hnew⟩
  refine h.step (D := [B]) ((KeptW.refl [] W).mono fun x hx => by cases hx) hle (fun x o hx => ?_) (fun b o hx => (hnew b o hx).imp id .inl) hn (fun _ => False) (fun n x hx _ => ⟨hx,fun b hb hm => hd n x hx b hm hb⟩) (fun _ _ _ n => n.elim) (fun _ _ _ _ _ _ n => n.elim)
  have hx : (if x = B then some (.cells cr T fz) else μ x) = some o := hx
  by_cases e : x = B
  ·rw [if_pos e] at hx; cases hx; subst e; exact hcell
  ·rw [if_neg e] at hx; exact h.imm x o hx
theorem Kst.adopt (h : Kst w μ I W) (i : ι) {y : ItemO} (hb : B1 μ (hf W) y.F [y.p] y.a y.p) (hn : y.F.Nodup) (hd : ∀ j x,I j = some x → j ≠ i → ∀ b ∈ x.F,b ∉ y.F) (hw : ∀ b ∈ y.F,w.heap.size ≤ b) : Kst w μ (put I i (some y)) W :=
 h.put1 (D := y.F) ((KeptW.refl [] W).mono fun x hx => by cases hx) (MuLe.refl _) h.imm (fun b o hb => .inl hb) hw hd hb hn fun b hb => .inl hb
end
section
variable {ι : Type} [DecidableEq ι]
def puts (I : ι → Option ItemO) : List ι → List ItemO → ι → Option ItemO
 | k :: ks,x :: xs => put (puts I ks xs) k (some x)
 | _,_ => I
theorem puts_some {I : ι → Option ItemO} {i : ι} {y : ItemO} : ∀ {ks : List ι} {xs : List ItemO},puts I ks xs i = some y → ks.length = xs.length → (∃ n : Nat,ks[n]? = some i∧xs[n]? = some y) ∨ (i ∉ ks∧I i = some y)
 | [],[],h,_ => .inr ⟨List.not_mem_nil,h⟩
 | [],_ :: _,_,e => by cases e
 | _ :: _,[],_,e => by cases e
 | k :: ks,x :: xs,h,e => by
  rcases put_some h with ⟨h1,h2⟩ | ⟨h1,h2⟩
  ·exact .inl ⟨0,by rw [h1]; rfl,h2⟩
  ·rcases puts_some h2 (by simpa using e) with ⟨n,g1,g2⟩ | ⟨g1,g2⟩
   ·exact .inl ⟨n + 1,g1,g2⟩
   ·exact .inr ⟨fun hm => (List.mem_cons.1 hm).elim h1 g1,g2⟩
def gets (I : ι → Option ItemO) (ks : List ι) (xs : List ItemO) : Prop := List.map I ks = List.map some xs
theorem gets_len {I : ι → Option ItemO} {ks : List ι} {xs : List ItemO} (h : gets I ks xs) : ks.length = xs.length := by
 have := congrArg List.length h
 simpa using this
theorem gets_at {I : ι → Option ItemO} {ks : List ι} {xs : List ItemO} (h : gets I ks xs) {n : Nat} {k : ι} (hk : ks[n]? = some k) : ∃ x,xs[n]? = some x∧I k = some x := by
 have h1 : (List.map I ks)[n]? = (List.map some xs)[n]? := by rw [h]
 rw [List.getElem?_map,List.getElem?_map,hk] at h1
 cases e : xs[n]? with
 | none => rw [e] at h1; cases h1
 | some x => rw [e] at h1; exact ⟨x,rfl,by simpa using h1⟩
theorem foot_at {xs : List ItemO} {b : Nat} (h : b ∈ foot xs) : ∃ (n : Nat) (x : ItemO),xs[n]? = some x∧b ∈ x.F := by
 obtain ⟨x,hx,hb⟩ := List.mem_flatMap.1 h
 obtain ⟨n,hn⟩ := List.mem_iff_getElem?.1 hx
 exact ⟨n,x,hn,hb⟩
theorem foot_nd : ∀ {xs : List ItemO},(∀ x ∈ xs,x.F.Nodup) → (∀ (n m : Nat) (x y : ItemO),xs[n]? = some x → xs[m]? = some y → n ≠ m → ∀ b ∈ x.F,b ∉ y.F) → (foot xs).Nodup
 | [],_,_ => List.nodup_nil
 | x :: xs,h,hd => by
  rw [foot_cons]
  refine List.nodup_append.2 ⟨h x (by simp),foot_nd (fun y hy => h y (List.mem_cons_of_mem _ hy)) fun n m a b ha hb ne => hd (n + 1) (m + 1) a b ha hb (by omega),fun a ha b hb e => ?_⟩
  subst e
  obtain ⟨m,y,hy,hb⟩ := foot_at hb
  exact hd 0 (m + 1) x y rfl hy (by omega) a ha hb
theorem foot_sep : ∀ {xs : List ItemO},(foot xs).Nodup → ∀ (n m : Nat) (x y : ItemO),xs[n]? = some x → xs[m]? = some y → n ≠ m → ∀ b ∈ x.F,b ∉ y.F
 | [],_,n,m,x,y,hx,_,_,_,_,_ => by simp at hx
 | z :: xs,h,n,m,x,y,hx,hy,ne,b,hb,hc => by
  rw [foot_cons] at h
  obtain ⟨_,h2,h3⟩ := List.nodup_append.1 h
  cases n with
  | zero =>
   cases m with
   | zero => exact ne rfl
   | succ m => cases hx; exact h3 b hb b (List.mem_flatMap.2 ⟨y,List.mem_of_getElem? hy,hc⟩) rfl
  | succ n =>
   cases m with
   | zero => cases hy; exact h3 b hc b (List.mem_flatMap.2 ⟨x,List.mem_of_getElem? hx,hb⟩) rfl
   | succ m => exact foot_sep h2 n m x y hx hy (by omega) b hb hc
theorem nodup_at {α : Type} : ∀ {l : List α},l.Nodup → ∀ {n m : Nat} {a : α},l[n]? = some a → l[m]? = some a → n = m
 | [],_,n,m,a,h,_ => by simp at h
 | x :: l,h,n,m,a,h1,h2 => by
  obtain ⟨g1,g2⟩ := List.nodup_cons.1 h
  cases n with
  | zero =>
   cases m with
   | zero => rfl
   | succ m => cases h1; exact absurd (List.mem_of_getElem? (l := l) h2) g1
  | succ n =>
   cases m with
   | zero => cases h2; exact absurd (List.mem_of_getElem? (l := l) h1) g1
   | succ m => rw [nodup_at g2 (n := n) (m := m) h1 h2]
variable {P : Program} {C : Cfg} {w W : World} {μ : Mu} {I : ι → Option ItemO}
theorem Kst.call (h : Kst w μ I W) (hmix : P.follows .mixedOrders = true) (hx : ExtS P C) (ks : List ι) (hks : ks.Nodup) {xs : List ItemO} (hg : gets I ks xs) {f : FuncId} {fn : Func} {bs ra ro : List AV} {vals : List Value}
  (hev : evL P C f bs = some (ra ++ ro)) (hfn : P.funcs[f]? = some fn) (hsz : fn.resultTypes.size = ra.length) (hB : B2s μ (hf W) (foot xs) (xs.map ItemO.p) bs vals) (hro : ∀ a ∈ ro,∃ ty cs,a = .ob ty cs) :
  Calls P f vals.toArray W fun e w' => ∃ (vs : List Value) (μ' : Mu) (F1 : List Nat) (G1 : List Value) (xs' : List ItemO),e = .returned (retV vs)∧B2s μ' (hf w') F1 G1 ra vs∧MuLe μ μ'∧xs'.map ItemO.p = xs.map ItemO.p∧xs'.map ItemO.a = ro∧Kst w μ' (puts I ks xs') w' ∧
   F1.Nodup∧(∀ b ∈ F1,(b ∈ foot xs ∨ W.heap.size ≤ b)∧w.heap.size ≤ b∧∀ i x,puts I ks xs' i = some x → b ∉ x.F)∧KeptW (foot xs) W w' := by
 have hlen := gets_len hg
 have hat : ∀ (n : Nat) (x : ItemO),xs[n]? = some x → ∃ k,ks[n]? = some k∧I k = some x := fun n x hn => by
  have hlt : n < ks.length := by rw [hlen]; exact (List.getElem?_eq_some_iff.1 hn).1
  obtain ⟨y,h1,h2⟩ := gets_at hg (List.getElem?_eq_getElem hlt)
  rw [hn] at h1
  cases h1
  exact ⟨_,List.getElem?_eq_getElem hlt,h2⟩
 have hsep : ∀ (n m : Nat) (x y : ItemO),xs[n]? = some x → xs[m]? = some y → n ≠ m → ∀ b ∈ x.F,b ∉ y.F := fun n m x y hx hy ne => by
  obtain ⟨k,k1,k2⟩ := hat n x hx
  obtain ⟨l,l1,l2⟩ := hat m y hy
  exact h.dj k l x y k2 l2 fun e => ne (nodup_at hks k1 (e ▸ l1))
 have nd1 : (foot xs).Nodup := foot_nd (fun x hx => by
  obtain ⟨n,hn⟩ := List.mem_iff_getElem?.1 hx
  obtain ⟨k,_,hk⟩ := hat n x hn
  exact h.nd k x hk) hsep
 refine (call_rest hmix hx hev hfn h.imm hB nd1 (Owns.nil μ W) (fun b _ hb => by cases hb)).mono fun e w' he => ?_
 obtain ⟨ra',ro',vs,μ',F1,F2,G1,hrs,hra,he,hk,hmu,hi,hb1,hb2,hnd',hnew,_,_,hmn⟩ := he
 obtain ⟨e1,e2⟩ := List.append_inj hrs (by omega)
 subst e1 e2
 obtain ⟨xs',q1,q2,q3,q5,q4⟩ := b1s_obs hb2 hro
 obtain ⟨nF1,nF2,nF3⟩ := List.nodup_append.1 hnd'
 have hlen' : ks.length = xs'.length := by
  have := congrArg List.length q1
  rw [List.length_map,List.length_map] at this
  omega
 have hW : ∀ b ∈ foot xs,w.heap.size ≤ b := fun b hb => by
  obtain ⟨n,x,hn,hb⟩ := foot_at hb
  obtain ⟨k,_,hk⟩ := hat n x hn
  exact h.new k x hk b hb
 have hksz := h.kept.size
 have hsep' := foot_sep (xs := xs') (q3 ▸ nF2)
 have hK : Kst w μ' (puts I ks xs') w' := by
  refine h.step hk hmu hi hmn hW (fun i => i ∈ ks) (fun i x hi n => ?_) (fun i x hi n => ?_) fun i j x y hi hj n n' ne => ?_
  ·rcases puts_some hi hlen' with ⟨m,g1,_⟩ | ⟨_,g⟩
   ·exact absurd (List.mem_of_getElem? g1) n
   ·refine ⟨g,fun b hb hm => ?_⟩
    obtain ⟨m,y,hm,hy⟩ := foot_at hm
    obtain ⟨k,hk1,hk⟩ := hat m y hm
    exact h.dj i k x y g hk (fun e => n (e ▸ List.mem_of_getElem? hk1)) b hb hy
  ·rcases puts_some hi hlen' with ⟨m,g1,g2⟩ | ⟨g,_⟩
   ·have hmem := List.mem_of_getElem? g2
    have hsub : ∀ b ∈ x.F,b ∈ F2 := fun b hb => q3 ▸ List.mem_flatMap.2 ⟨x,hmem,hb⟩
    refine ⟨q4 x hmem,?_,fun b hb => hnew b (List.mem_append_right _ (hsub b hb))⟩
    have h2 := q3 ▸ nF2
    obtain ⟨l1,l2,e⟩ := List.append_of_mem hmem
    rw [e,foot_app,foot_cons] at h2
    exact (List.nodup_append.1 (List.nodup_append.1 h2).2.1).1
   ·exact absurd n g
  ·rcases puts_some hi hlen' with ⟨m,g1,g2⟩ | ⟨g,_⟩
   ·rcases puts_some hj hlen' with ⟨m',g1',g2'⟩ | ⟨g',_⟩
    ·exact hsep' m m' x y g2 g2' fun e => ne (Option.some.inj (g1.symm.trans (e ▸ g1')))
    ·exact absurd n' g'
   ·exact absurd n g
 refine ⟨vs,μ',F1,G1,xs',he,hb1,hmu,q1,q2,hK,nF1,fun b hb => ⟨hnew b (List.mem_append_left _ hb),?_,fun i x hi hm => ?_⟩,hk⟩
 ·rcases hnew b (List.mem_append_left _ hb) with g | g
  ·exact hW b g
  ·omega
 ·rcases puts_some hi hlen' with ⟨m,g1,g2⟩ | ⟨g,gi⟩
  ·exact nF3 b hb b (q3 ▸ List.mem_flatMap.2 ⟨x,List.mem_of_getElem? g2,hm⟩) rfl
  ·rcases hnew b (List.mem_append_left _ hb) with g' | g'
   ·obtain ⟨m,y,hm',hy⟩ := foot_at g'
    obtain ⟨k,hk1,hk⟩ := hat m y hm'
    exact h.dj i k x y gi hk (fun e => g (e ▸ List.mem_of_getElem? hk1)) b hm hy
   ·have := (h.own gi b hm).2; omega
theorem Kst.lent (h : Kst w μ I W) (hmix : P.follows .mixedOrders = true) (hx : ExtS P C) {f : FuncId} {bs rs : List AV} (hev : evL P C f bs = some rs) {fn : Func} (hfn : P.funcs[f]? = some fn) {vals : List Value}
  (hB : B2s (hf W) (hf W) [] [] bs vals) : Calls P f vals.toArray W fun e w' => ∃ (vs : List Value) (μ' : Mu) (F1 : List Nat) (G1 : List Value),e = .returned (retV vs)∧Kst w μ I w'∧KeptW [] W w'∧MuLe μ' (hf w')∧B2s μ' (hf w') F1 G1 rs vs∧∀ b ∈ F1,W.heap.size ≤ b :=
 (call_lentN hmix hx hev hfn hB).mono fun e w' he => by
  obtain ⟨vs,μ',F1,G1,rfl,hk,hi,hb,hn⟩ := he
  exact ⟨vs,μ',F1,G1,rfl,h.kept0 hk,hk,hi,hb,hn⟩
end
end Go.Ev
namespace Go.Ev
open Go Go.Proofs
section
variable {P : Program}
open Go.Shelf Go.Lib Go.RowKit
theorem app_fz {t ety sz : Nat} {ob : Bool} {fz : Nat × Nat} {z : Value} {I : TypeInfo} (ht : P.underlying t = some (.slice ety)) (hI : P.info? ety = some I) (hz : I.zero = some z) (hs : I.size = sz) (hb1 : 0 < I.bytes) (hb2 : I.bytes ≤ 1000) (hzs : z.cells.size = sz)
  {W : World} {A : Option Addr} {l c E : Nat} {cur els : Array Value} (hl : l ≤ 100000) (hA : (A = none∧l = 0∧c = 0) ∨ ∃ b,A = some ⟨b,0,none⟩∧l ≤ c∧W.heap[b]? = some (.cells cur ety fz)∧OkFz ob cur.size fz∧cur.size = c * sz)
  (hE : W.heap[E]? = some (.cells els ety (0,0))) (hEs : els.size = sz) (hone : ∀ v ∈ els.toList,v.oneCell' = true) :
  ∃ (b c' : Nat) (W2 : World) (cur' : Array Value) (fz' : Nat × Nat),(∀ ty,(Builtin.append_ #[t,t] ty #[.slice A l c,.slice (some ⟨E,0,none⟩) 1 1]).run P W = .ok (.slice (some ⟨b,0,none⟩) (l + 1) c') W2)∧KeptW [b] W W2∧W2.heap[b]? = some (.cells cur' ety fz')∧OkFz ob cur'.size fz' ∧
   cur'.size = c' * sz∧l + 1 ≤ c'∧(A = some ⟨b,0,none⟩ ∨ W.heap.size ≤ b)∧(∀ j,j < l * sz → cur'[j]? = cur[j]?)∧∀ j,j < sz → cur'[l * sz + j]? = els[j]? := by
 have hlen : ∀ w : World,(Builtin.lenOf (.slice (some ⟨E,0,none⟩) 1 1)).run P w = .ok 1 w := fun _ => rfl
 have hfirst : ∀ W' : World,W'.heap = W.heap → (Builtin.firstCells I.size 1 (.slice (some ⟨E,0,none⟩) 1 1)).run P W' = .ok els.toList.toArray W' := fun W' hW' => by
  refine run_firstCells_some _ I.size 1 ⟨E,0,none⟩ 1 1 els.toList (by rw [hs,Array.length_toList,hEs]; omega) fun j v hj => ?_
  rw [Addr.add_lit,Nat.zero_add]
  simp only [World.cell?,hW',hE]
  simpa using hj
 by_cases hroom : l + 1 ≤ c
 ·rcases hA with ⟨_,_,hc⟩ | ⟨b,rfl,hlc,hcur,hfz,hcs⟩
  ·omega
  ·have hm : (l + 1) * sz ≤ c * sz := Nat.mul_le_mul_right _ hroom
   rw [Nat.succ_mul] at hm
   have hst := run_storeCells_fz P b (l * sz) ety ob fz els.toList 0 cur W hcur hfz (by rw [Array.length_toList,hEs,hcs]; omega) hone
   obtain ⟨cur',hcur'⟩ : ∃ cur',(cur.toList.take (l * sz + 0) ++ els.toList ++ cur.toList.drop (l * sz + 0 + els.toList.length)).toArray = cur' := ⟨_,rfl⟩
   rw [hcur'] at hst
   have ltake : (cur.toList.take (l * sz + 0)).length = l * sz := by rw [List.length_take,Array.length_toList]; omega
   have hsz : cur'.size = cur.size := by
    rw [← hcur']
    show (_ : List Value).length = _
    rw [List.length_append,List.length_append,ltake,List.length_drop,Array.length_toList,Array.length_toList]; omega
   refine ⟨b,c,W.setRow b cur',cur',fz,fun ty => ?_,⟨rfl,rfl,rfl,by rw [setRow_size]; exact Nat.le_refl _,fun x hx hn => setRow_other _ _ _ _ (by simpa using hn)⟩,setRow_heap _ _ _ _ _ _ hcur,by rw [hsz]; exact hfz,by rw [hsz,hcs],hroom,.inl rfl,fun j hj => ?_,fun j hj => ?_⟩
   ·refine run_app_room ht ht rfl hI hlen (by rw [hfirst W rfl]) hroom ?_
    show (storeCells _ _).run P W = _
    rw [Addr.add_lit,hs,Nat.zero_add]
    exact hst
   ·rw [← hcur',List.getElem?_toArray,List.append_assoc,List.getElem?_append_left (by omega),List.getElem?_take,if_pos (by omega)]; simp
   ·rw [← hcur',List.getElem?_toArray,List.getElem?_append_left (by rw [List.length_append,ltake,Array.length_toList,hEs]; omega),List.getElem?_append_right (by omega),ltake,show l * sz + j - l * sz = j by omega]; simp
 ·have hold : ∃ olds : List Value,olds.length = l * sz∧(∀ j,j < l * sz → olds[j]? = cur[j]?)∧(Builtin.firstCells I.size l (.slice A l c)).run P W.drew = .ok olds.toArray W.drew := by
   rcases hA with ⟨rfl,rfl,rfl⟩ | ⟨b,rfl,hlc,hcur,hfz,hcs⟩
   ·exact ⟨[],by simp,fun j hj => by omega,rfl⟩
   ·have hm : l * sz ≤ c * sz := Nat.mul_le_mul_right _ hlc
    refine ⟨cur.toList.take (l * sz),by rw [List.length_take,Array.length_toList]; omega,fun j hj => by rw [List.getElem?_take,if_pos hj]; simp,?_⟩
    refine run_firstCells_some _ I.size l ⟨b,0,none⟩ l c (cur.toList.take (l * sz)) (by rw [List.length_take,Array.length_toList,hs]; omega) fun j v hj => ?_
    rw [Addr.add_lit,Nat.zero_add]
    rw [List.getElem?_take] at hj
    split at hj
    ·show W.cell? _ = _
     simp only [World.cell?,hcur]
     simpa using hj
    ·cases hj
  obtain ⟨olds,ho1,ho2,ho3⟩ := hold
  have hm : (l + 1) * I.bytes ≤ 100001 * 1000 := Nat.mul_le_mul (by omega) hb2
  have hrun := fun ty => run_app_grow (P := P) (ty := ty) ht ht rfl hI hz hb1 (base := A) (sLen := l) (sCap := c) (olds := olds) (news := els.toList) hlen (hfirst W.drew rfl) ho3 (by omega) (by omega)
  have hge : l + 1 ≤ grownCap W (l + 1) c ety := grownCap_ge _ _ _ _
  obtain ⟨G,hG⟩ : ∃ G,grownCap W (l + 1) c ety = G := ⟨_,rfl⟩
  rw [hG] at hrun hge
  obtain ⟨R,hR⟩ : ∃ R,(olds ++ els.toList ++ (Builtin.zeroCells z.cells (G - (l + 1))).toList).toArray = R := ⟨_,rfl⟩
  rw [hR] at hrun
  have hRs : R.size = G * sz := by
   rw [← hR]
   rw [List.size_toArray,List.length_append,List.length_append,ho1,Array.length_toList,Array.length_toList,size_zeroCells,hEs,hzs,← Nat.succ_mul,← Nat.add_mul,show l.succ + (G - (l + 1)) = G by omega]
  refine ⟨W.heap.size,G,_,R,(0,0),hrun,⟨rfl,rfl,rfl,?_,fun b hb _ => Ev.alloc_old W.drew _ b hb⟩,Ev.alloc_new W.drew _,.inl rfl,hRs,hge,.inr (Nat.le_refl _),fun j hj => ?_,fun j hj => ?_⟩
  ·show W.heap.size ≤ (W.heap.push _).size
   rw [Array.size_push]; omega
  ·rw [← hR,List.getElem?_toArray,List.append_assoc,List.getElem?_append_left (by omega),ho2 j hj]
  ·rw [← hR,List.getElem?_toArray,List.getElem?_append_left (by rw [List.length_append,ho1,Array.length_toList,hEs]; omega),List.getElem?_append_right (by omega),ho1,show l * sz + j - l * sz = j by omega]; simp
end
section
variable {ι : Type} {w W W' : World} {μ μ' : Mu} {I J : ι → Option ItemO}
theorem b0_row {F : List Nat} {n : Bool} {T sz : Nat} {xs : List (List AV)} {v : Value} (h : B0 μ (hf W) F (.ow n T sz xs) v) : ∃ (A : Option Addr) (c : Nat),v = .slice A xs.length c∧n = A.isNone∧(A = none → xs = []∧c = 0∧F = [])∧xs.length ≤ c ∧
  ∀ a,A = some a → ∃ (vb : Nat) (cur : Array Value) (fz : Nat × Nat),a = ⟨vb,0,none⟩∧F = [vb]∧W.heap[vb]? = some (.cells cur T fz)∧OkFz (fxB false sz) cur.size fz∧cur.size = c * sz∧RowD μ sz xs cur := by
 cases h with
 | d h => cases h
 | own => exact ⟨none,0,rfl,rfl,fun _ => ⟨rfl,rfl,rfl⟩,Nat.le_refl _,fun a h => (by cases h)⟩
 | @ow b cap _ _ _ cur hb hm hc hs hr =>
  obtain ⟨fz,h1,h2⟩ := hb
  exact ⟨some ⟨b,0,none⟩,cap,rfl,rfl,fun h => (by cases h),hc,fun a h => by cases h; exact ⟨b,cur,fz,rfl,rfl,h1,h2,hs.symm,hr⟩⟩
variable [DecidableEq ι]
theorem Kst.rowAt (h : Kst w μ I W) {i : ι} {b ty : Nat} {F : List Nat} {cs : List AV} (hi : I i = some (obI b F ty cs)) {j : Nat} {n : Bool} {T sz : Nat} {xs : List (List AV)} (hj : cs[j]? = some (.ow n T sz xs)) :
  ∃ (A : Option Addr) (c : Nat),W.cell? ⟨b,j,none⟩ = some (.slice A xs.length c)∧n = A.isNone∧(A = none → xs = []∧c = 0)∧xs.length ≤ c ∧
   ∀ a,A = some a → ∃ vb,a = ⟨vb,0,none⟩∧∀ (k jj : Nat) (e : List AV) (u : AV),xs[k]? = some e → e[jj]? = some u → ∃ x,W.cell? ⟨vb,k * sz + jj,none⟩ = some x∧DR μ u x := by
 obtain ⟨F',v,h1,h2⟩ := h.at hi hj
 obtain ⟨A,c,rfl,g1,g2,g3,g4⟩ := b0_row h2
 refine ⟨A,c,h1,g1,fun e => ⟨(g2 e).1,(g2 e).2.1⟩,g3,fun a ha => ?_⟩
 obtain ⟨vb,cur,fz,rfl,_,k1,_,_,k2⟩ := g4 a ha
 refine ⟨vb,rfl,fun k jj e u he hu => ?_⟩
 obtain ⟨x,x1,x2⟩ := k2.2 k e jj u he hu
 exact ⟨x,cell_of k1 x1,x2⟩
theorem rowD_app {sz : Nat} {xs : List (List AV)} {es : List AV} {cur cur' els : Array Value} (h : RowD μ sz xs cur) (hes : es.length = sz) (hd : ∀ (jj : Nat) (u : AV) (x : Value),es[jj]? = some u → els[jj]? = some x → DR μ u x) (hs : els.size = sz)
  (h1 : ∀ j,j < xs.length * sz → cur'[j]? = cur[j]?) (h2 : ∀ j,j < sz → cur'[xs.length * sz + j]? = els[j]?) : RowD μ sz (xs ++ [es]) cur' := by
 refine ⟨fun e he => ?_,fun i e j c he hc => ?_⟩
 ·rcases List.mem_append.1 he with he | he
  ·exact h.1 e he
  ·simp at he; rw [he]; exact hes
 ·rcases app1_cases he with he | ⟨rfl,rfl⟩
  ·obtain ⟨u,g1,g2⟩ := h.2 i e j c he hc
   have hi := (List.getElem?_eq_some_iff.1 he).1
   have hj := (List.getElem?_eq_some_iff.1 hc).1
   rw [h.1 e (List.mem_of_getElem? he)] at hj
   have : (i + 1) * sz ≤ xs.length * sz := Nat.mul_le_mul_right _ hi
   rw [Nat.succ_mul] at this
   exact ⟨u,by rw [h1 _ (by omega)]; exact g1,g2⟩
  ·have hj := (List.getElem?_eq_some_iff.1 hc).1
   rw [hes] at hj
   have hx : els[j]? = some els[j] := Array.getElem?_eq_getElem (by omega)
   exact ⟨els[j],by rw [h2 j hj,hx],hd j c _ hc hx⟩
end
end Go.Ev
namespace Go.Ev
open Go Go.Proofs
theorem info_parts {P : Program} {t : Nat} {z : Value} {s b : Nat} (h : (P.info? t).map (fun i => (i.zero,i.size,i.bytes)) = some (some z,s,b)) : ∃ I : TypeInfo,P.info? t = some I∧I.zero = some z∧I.size = s∧I.bytes = b := by
 cases hi : P.info? t with
 | none => rw [hi] at h; cases h
 | some I =>
  rw [hi] at h
  simp only [Option.map_some,Option.some.injEq,Prod.mk.injEq] at h
  exact ⟨I,rfl,h.1,h.2.1,h.2.2⟩
theorem cell_heap {w w' : World} {b : Nat} (h : w'.heap[b]? = w.heap[b]?) (j : Nat) : w'.cell? ⟨b,j,none⟩ = w.cell? ⟨b,j,none⟩ := by
 simp only [World.cell?,h]
theorem alloc_cell {W : World} {o : Obj} {b j : Nat} {v : Value} (h : W.cell? ⟨b,j,none⟩ = some v) : (W.alloc o).cell? ⟨b,j,none⟩ = some v := by
 have hb : b < W.heap.size := by
  unfold World.cell? at h
  split at h
  ·rename_i h1; exact (Array.getElem?_eq_some_iff.1 h1).1
  ·cases h
 rw [← h]; exact cell_heap (Ev.alloc_old W o b hb) j
theorem setCell_other (w : World) (b j : Nat) (v : Value) (x : Nat) (h : x ≠ b) : (w.setCell ⟨b,j,none⟩ v).heap[x]? = w.heap[x]? := by
 unfold World.setCell
 simp only
 rw [Array.getElem?_modify,if_neg (fun e => h e.symm)]
section
variable {μ : Mu} {hp : HF}
theorem b2_ow {F : List Nat} {G : List Value} {n : Bool} {T sz : Nat} {xs : List (List AV)} {v : Value} (h : B2 μ hp F G (.ow n T sz xs) v) : B0 μ hp F (.ow n T sz xs) v := by
 cases h with | o h => cases h with | c h => exact h
theorem b2_ob {F : List Nat} {G : List Value} {ty : Nat} {cs : List AV} {v : Value} (h : B2 μ hp F G (.ob ty cs) v) : ∃ b,v = .pointer (some ⟨b,0,none⟩)∧G = [.pointer (some ⟨b,0,none⟩)]∧B1 μ hp F [.pointer (some ⟨b,0,none⟩)] (.ob ty cs) (.pointer (some ⟨b,0,none⟩)) := by
 cases h with
 | o h => cases h with
  | c h => cases h with | d h => cases h
  | ob h1 h2 h3 => exact ⟨_,rfl,rfl,.ob h1 h2 h3⟩
theorem dr_slice {n : Bool} {sz : Nat} {xs : List (List AV)} {v : Value} (h : DR μ (.lst n sz xs) v) : ∃ (A : Option Addr) (c : Nat),v = .slice A xs.length c∧n = A.isNone := by
 cases h with | lst vals h1 => exact ⟨_,_,rfl,h1⟩
theorem dr_v {x v : Value} (h : DR μ (.v x) v) : v = x := by cases h; rfl
def isD : AV → Bool
 | .v x => okC (.v x)
 | .lst _ _ _ => true
 | _ => false
theorem b0_isD {F : List Nat} {a : AV} {v : Value} (h : B0 μ hp F a v) (hd : isD a = true) : DR μ a v∧F = [] := by
 cases h with
 | d h => exact ⟨h,rfl⟩
 | ow => cases hd
 | own => cases hd
theorem b1_isD {F : List Nat} {G : List Value} {a : AV} {v : Value} (h : B1 μ hp F G a v) (hd : isD a = true) : DR μ a v∧F = []∧G = [] := by
 cases h with
 | c h => obtain ⟨h1,h2⟩ := b0_isD h hd; exact ⟨h1,h2,rfl⟩
 | ob => cases hd
 | row => cases hd
theorem b1s_isD {F : List Nat} {G : List Value} {cs : List AV} {vs : List Value} (h : B1s μ hp F G cs vs) : cs.all isD = true → F = []∧G = []∧vs.length = cs.length∧∀ (j : Nat) (a : AV) (v : Value),cs[j]? = some a → vs[j]? = some v → DR μ a v := by
 induction h with
 | nil => exact fun _ => ⟨rfl,rfl,rfl,fun j a v h => by simp at h⟩
 | cons h _ ih =>
  intro hd
  rw [List.all_cons,Bool.and_eq_true] at hd
  obtain ⟨g1,rfl,rfl⟩ := b1_isD h hd.1
  obtain ⟨rfl,rfl,g2,g3⟩ := ih hd.2
  refine ⟨rfl,rfl,by simp [g2],fun j a v ha hv => ?_⟩
  cases j with
  | zero => simp at ha hv; subst ha; subst hv; exact g1
  | succ j => exact g3 j a v (by simpa using ha) (by simpa using hv)
theorem b2_aggD {F : List Nat} {G : List Value} {cs : List AV} {v : Value} (h : B2 μ hp F G (.agg cs) v) (hd : cs.all isD = true) : ∃ vs : List Value,v = .agg vs.toArray∧F = []∧vs.length = cs.length∧∀ (j : Nat) (a : AV) (x : Value),cs[j]? = some a → vs[j]? = some x → DR μ a x := by
 cases h with
 | o h => cases h with | c h => cases h with | d h => cases h
 | agg h =>
  obtain ⟨h1,_,h2,h3⟩ := b1s_isD h hd
  exact ⟨_,rfl,h1,h2,h3⟩
theorem b1s_drs : ∀ {cs : List AV} {vs : List Value},vs.length = cs.length → (∀ (j : Nat) (a : AV) (v : Value),cs[j]? = some a → vs[j]? = some v → DR μ a v) → B1s μ hp [] [] cs vs
 | [],[],_,_ => .nil
 | [],_ :: _,h,_ => by simp at h
 | _ :: _,[],h,_ => by simp at h
 | a :: cs,v :: vs,h,hd => .cons (F := []) (G := []) (.c (.d (hd 0 a v rfl rfl))) (b1s_drs (by simpa using h) fun j a v ha hv => hd (j + 1) a v (by simpa using ha) (by simpa using hv))
theorem b0_flat {μ' : Mu} {F : List Nat} {a : AV} {v : Value} (h : B0 μ hp F a v) (hf : flatC a = true) (hn : ∀ b ∈ F,μ' b = none) : B0 μ' hp F a v :=
 (flatC_b0 hf h).mono (fun b o h => by cases h) hn
end
section
variable {ι : Type} {w W W' : World} {μ μ' : Mu} {I J : ι → Option ItemO} [DecidableEq ι]
theorem put_put (I : ι → Option ItemO) (k : ι) (x y : Option ItemO) : put (put I k x) k y = put I k y := by
 funext i
 by_cases e : i = k
 ·rw [e,put_same,put_same]
 ·rw [put_ne _ _ e,put_ne _ _ e,put_ne _ _ e]
theorem Kst.noMu (h : Kst w μ I W) {b : Nat} (hb : W.heap.size ≤ b) : μ b = none := by
 cases e : μ b with
 | none => rfl
 | some o => have := (Array.getElem?_eq_some_iff.1 (h.imm _ _ e)).1; omega
theorem Kst.lt (h : Kst w μ I W) {i : ι} {x : ItemO} (hi : I i = some x) {b : Nat} (hb : b ∈ x.F) : b < W.heap.size := (h.own hi b hb).2
variable {P : Program} {C : Cfg}
theorem Kst.mkOb (h : Kst w μ I W) (hmix : P.follows .mixedOrders = true) (hx : ExtS P C) (k' : ι) {f : FuncId} {bs : List AV} {ty : Nat} {cs : List AV} {xs : List Value} (hev : evL P C f bs = some (.ob ty cs :: xs.map AV.v)) (hfl : flatO (.ob ty cs) = true) {fn : Func} (hfn : P.funcs[f]? = some fn) {vals : List Value}
  (hB : B2s (hf W) (hf W) [] [] bs vals) : Calls P f vals.toArray W fun e w' => ∃ (b : Nat) (F : List Nat),e = .returned (retV (.pointer (some ⟨b,0,none⟩) :: xs))∧Kst w μ (put I k' (some (obI b F ty cs))) w'∧KeptW [] W w'∧∀ x ∈ F,W.heap.size ≤ x := by
 refine (call_rest hmix hx hev hfn (fun b o hb => hb) hB List.nodup_nil (Owns.nil _ _) (fun b hb => by cases hb)).mono fun e w' he => ?_
 obtain ⟨ra,ro,vs,μ',F1,F2,G1,hrs,_,rfl,hk,_,hi,hb,h2,hnd,hnew,_⟩ := he
 obtain ⟨rfl,rfl⟩ := b1s_nil h2 rfl
 rw [List.append_nil] at hrs hnd hnew
 subst hrs
 have hK := h.kept0 hk
 have hn : ∀ b ∈ F1,W.heap.size ≤ b := fun b hb => (hnew b hb).resolve_left List.not_mem_nil
 cases hb with
 | @cons Fa Fb Ga Gb _ _ v vs' hb hr =>
 obtain ⟨rfl,rfl⟩ := b2s_vals_inv (F := Fb) (G := Gb) xs hr
 obtain ⟨b,rfl,rfl,hbo⟩ := b2_ob hb
 rw [List.append_nil] at hn hnd
 have hb0 := flatO_b1 hfl hbo
 have hmu : ∀ x ∈ Fa,μ x = none := fun x hx => h.noMu (hn x hx)
 have hb1 : B1 μ (hf w') Fa [.pointer (some ⟨b,0,none⟩)] (.ob ty cs) (.pointer (some ⟨b,0,none⟩)) := hb0.mono (fun b o h => by cases h) hmu
 refine ⟨b,Fa,rfl,hK.adopt (y := obI b Fa ty cs) k' hb1 hnd (fun j x hj ne y hy hm => ?_) (fun x hx => ?_),hk,hn⟩
 ·have := (h.own hj y hy).2
  have := hn y hm
  omega
 ·have := hn x hx
  have := h.kept.size
  omega
theorem put_get {I : ι → Option ItemO} {k i : ι} {x : Option ItemO} {y : ItemO} (h : I i = some y) (hne : i ≠ k) : put I k x i = some y := (put_ne _ _ hne).trans h
theorem item_eq {x : ItemO} {b ty : Nat} {cs : List AV} (hp : x.p = .pointer (some ⟨b,0,none⟩)) (ha : x.a = .ob ty cs) : x = obI b x.F ty cs := by
 cases x; simp only at hp ha; subst hp; subst ha; rfl
theorem Kst.call1 (h : Kst w μ I W) (hmix : P.follows .mixedOrders = true) (hx : ExtS P C) {k : ι} {b ty ty' : Nat} {F : List Nat} {cs cs' : List AV} (hk : I k = some (obI b F ty cs)) {bs : List AV} {vs : List Value} (hB : B2s μ (hf W) [] [] bs vs) {f : FuncId} {ra : List AV}
  (hev : evL P C f (.ob ty cs :: bs) = some (ra ++ [.ob ty' cs'])) {fn : Func} (hfn : P.funcs[f]? = some fn) (hsz : fn.resultTypes.size = ra.length) :
  Calls P f (.pointer (some ⟨b,0,none⟩) :: vs).toArray W fun e w' => ∃ (us : List Value) (μ' : Mu) (F1 : List Nat) (G1 : List Value) (F' : List Nat),e = .returned (retV us)∧B2s μ' (hf w') F1 G1 ra us∧MuLe μ μ'∧Kst w μ' (put I k (some (obI b F' ty' cs'))) w'∧F1.Nodup ∧
   (∀ x ∈ F1,(x ∈ F ∨ W.heap.size ≤ x)∧w.heap.size ≤ x∧∀ i y,put I k (some (obI b F' ty' cs')) i = some y → x ∉ y.F)∧KeptW F W w' := by
 have hB' : B2s μ (hf W) (foot [obI b F ty cs]) ([obI b F ty cs].map ItemO.p) (.ob ty cs :: bs) (.pointer (some ⟨b,0,none⟩) :: vs) := by
  have := B2s.cons (.o (h.ok k _ hk)) hB
  simpa [foot] using this
 refine (h.call hmix hx [k] (by simp) (xs := [obI b F ty cs]) (by unfold gets; simp [hk]) hev hfn hsz hB' (fun a ha => by simp at ha; exact ⟨_,_,ha⟩)).mono fun e w' he => ?_
 obtain ⟨us,μ',F1,G1,xs',rfl,hb,hm,hp,ha,hK,hn,hF,hk'⟩ := he
 obtain ⟨x,rfl⟩ := List.length_eq_one_iff.1 (show xs'.length = 1 by simpa using congrArg List.length hp)
 have hx := item_eq (List.cons.inj hp).1 (List.cons.inj ha).1
 rw [hx] at hK hF
 refine ⟨us,μ',F1,G1,x.F,rfl,hb,hm,hK,hn,fun y hy => ?_,hk'.mono fun z hz => .inl (by simpa [foot] using hz)⟩
 obtain ⟨q1,q2,q3⟩ := hF y hy
 exact ⟨q1.imp (fun q => by simpa [foot] using q) id,q2,q3⟩
theorem Kst.call2 (h : Kst w μ I W) (hmix : P.follows .mixedOrders = true) (hx : ExtS P C) {k l : ι} (hkl : k ≠ l) {b ty ty' c tz tz' : Nat} {F E : List Nat} {cs cs' ds ds' : List AV} (hk : I k = some (obI b F ty cs)) (hl : I l = some (obI c E tz ds)) {bs : List AV} {vs : List Value} (hB : B2s μ (hf W) [] [] bs vs) {f : FuncId} {ra : List AV}
  (hev : evL P C f (.ob ty cs :: .ob tz ds :: bs) = some (ra ++ [.ob ty' cs',.ob tz' ds'])) {fn : Func} (hfn : P.funcs[f]? = some fn) (hsz : fn.resultTypes.size = ra.length) :
  Calls P f (.pointer (some ⟨b,0,none⟩) :: .pointer (some ⟨c,0,none⟩) :: vs).toArray W fun e w' => ∃ (us : List Value) (μ' : Mu) (F1 : List Nat) (G1 : List Value) (F' E' : List Nat),e = .returned (retV us)∧B2s μ' (hf w') F1 G1 ra us∧MuLe μ μ'∧Kst w μ' (put (put I l (some (obI c E' tz' ds'))) k (some (obI b F' ty' cs'))) w'∧F1.Nodup ∧
   (∀ x ∈ F1,(x ∈ F ∨ x ∈ E ∨ W.heap.size ≤ x)∧w.heap.size ≤ x∧∀ i y,put (put I l (some (obI c E' tz' ds'))) k (some (obI b F' ty' cs')) i = some y → x ∉ y.F)∧KeptW (F ++ E) W w' := by
 have hB' : B2s μ (hf W) (foot [obI b F ty cs,obI c E tz ds]) ([obI b F ty cs,obI c E tz ds].map ItemO.p) (.ob ty cs :: .ob tz ds :: bs) (.pointer (some ⟨b,0,none⟩) :: .pointer (some ⟨c,0,none⟩) :: vs) := by
  have := B2s.cons (.o (h.ok k _ hk)) (B2s.cons (.o (h.ok l _ hl)) hB)
  simpa [foot] using this
 refine (h.call hmix hx [k,l] (by simp [hkl]) (xs := [obI b F ty cs,obI c E tz ds]) (by unfold gets; simp [hk,hl]) hev hfn hsz hB' (fun a ha => by simp at ha; rcases ha with ha | ha <;> exact ⟨_,_,ha⟩)).mono fun e w' he => ?_
 obtain ⟨us,μ',F1,G1,xs',rfl,hb,hm,hp,ha,hK,hn,hF,hk'⟩ := he
 have h2 : ∃ x y,xs' = [x,y] := by
  have hl : xs'.length = 2 := by simpa using congrArg List.length hp
  match xs',hl with
  | [x,y],_ => exact ⟨x,y,rfl⟩
 obtain ⟨x,y,rfl⟩ := h2
 have hx := item_eq (List.cons.inj hp).1 (List.cons.inj ha).1
 have hy := item_eq (List.cons.inj (List.cons.inj hp).2).1 (List.cons.inj (List.cons.inj ha).2).1
 rw [hx,hy] at hK hF
 refine ⟨us,μ',F1,G1,x.F,y.F,rfl,hb,hm,hK,hn,fun z hz => ?_,hk'.mono fun z hz => .inl (by simpa [foot] using hz)⟩
 obtain ⟨q1,q2,q3⟩ := hF z hz
 refine ⟨?_,q2,q3⟩
 rcases q1 with q1 | q1
 ·have : z ∈ F ∨ z ∈ E := by simpa [foot] using q1
  exact this.imp id .inl
 ·exact .inr (.inr q1)
theorem Kst.recast (h : Kst w μ I W) {i : ι} {x : ItemO} {a : AV} (hi : I i = some x) (hb : B1 μ (hf W) x.F [x.p] a x.p) : Kst w μ (put I i (some ⟨x.p,x.F,a⟩)) W :=
 h.adopt (y := ⟨x.p,x.F,a⟩) i hb (h.nd i x hi) (fun j y hj ne b hb hm => h.dj j i y x hj hi ne b hb hm) (h.new i x hi)
end
end Go.Ev
namespace Go.Ev
open Go Go.Proofs
section
variable {P : Program} {ops : Array Oper} {Q : Exit → Act → World → Prop} {md : Region.Mode}
end
end Go.Ev
namespace Go.Ev
open Go Go.Proofs
section
open Go.Shelf Go.Lib Go.RowKit
end
end Go.Ev
namespace Go.Ev
open Go Go.Proofs
abbrev rowI (b c T sz : Nat) (xs : List (List AV)) : ItemO := ⟨.slice (some ⟨b,0,none⟩) xs.length c,[b],.tup [.ow false T sz xs]⟩
section
variable {ι : Type} {w W W' : World} {μ μ' : Mu} {I J : ι → Option ItemO}
theorem b1_tup {hp : HF} {F : List Nat} {G : List Value} {T sz : Nat} {xs : List (List AV)} {v : Value} (h : B1 μ hp F G (.tup [.ow false T sz xs]) v) : B0 μ hp F (.ow false T sz xs) v := by
 cases h with
 | c h => cases h with | d h => cases h
 | row h => exact h
theorem Kst.row (h : Kst w μ I W) {k : ι} {b c T sz : Nat} {xs : List (List AV)} (hk : I k = some (rowI b c T sz xs)) : ∃ (cur : Array Value) (fz : Nat × Nat),W.heap[b]? = some (.cells cur T fz)∧OkFz (fxB false sz) cur.size fz∧cur.size = c * sz∧RowD μ sz xs cur∧xs.length ≤ c∧μ b = none := by
 have hb := b1_tup (h.ok k _ hk)
 simp only at hb
 have hm := (h.own hk b (by simp)).1
 obtain ⟨A,c',e,_,_,g3,g4⟩ := b0_row hb
 cases e
 obtain ⟨vb,cur,fz,e,_,k1,k2,k3,k4⟩ := g4 _ rfl
 cases e
 exact ⟨cur,fz,k1,k2,k3,k4,g3,hm⟩
theorem Kst.rcellD (h : Kst w μ I W) {k : ι} {b c T sz : Nat} {xs : List (List AV)} (hk : I k = some (rowI b c T sz xs)) {i j : Nat} {e : List AV} {u : AV} (he : xs[i]? = some e) (hu : e[j]? = some u) : ∃ x,W.cell? ⟨b,i * sz + j,none⟩ = some x∧DR μ u x := by
 obtain ⟨cur,fz,h1,_,_,h4,_⟩ := h.row hk
 obtain ⟨x,g1,g2⟩ := h4.2 i e j u he hu
 exact ⟨x,cell_of h1 g1,g2⟩
theorem Kst.rcell (h : Kst w μ I W) {k : ι} {b c T sz : Nat} {xs : List (List AV)} (hk : I k = some (rowI b c T sz xs)) {i j : Nat} {e : List AV} {x : Value} (he : xs[i]? = some e) (hu : e[j]? = some (.v x)) : W.cell? ⟨b,i * sz + j,none⟩ = some x := by
 obtain ⟨y,h1,h2⟩ := h.rcellD hk he hu
 rw [h1,dr_v h2]
theorem okfz_false {ob : Bool} {n j : Nat} {fz : Nat × Nat} {w : World} {b t : Nat} {cur : Array Value} (h : OkFz ob n fz) (hj : j < n) (hb : w.heap[b]? = some (.cells cur t fz)) : w.frozen? ⟨b,j,none⟩ = false := by
 obtain ⟨lo,hi⟩ := fz
 rcases h with h | ⟨_,h⟩
 ·cases h; simp [World.frozen?,hb]
 ·simp only at h
  simp [World.frozen?,hb]
  omega
theorem row_lt {sz i j n : Nat} (hi : i < n) (hj : j < sz) : i * sz + j < n * sz := by
 have : (i + 1) * sz ≤ n * sz := Nat.mul_le_mul_right _ hi
 rw [Nat.succ_mul] at this
 omega
theorem Kst.rfrozen (h : Kst w μ I W) {k : ι} {b c T sz : Nat} {xs : List (List AV)} (hk : I k = some (rowI b c T sz xs)) {i j : Nat} (hi : i < xs.length) (hj : j < sz) : W.frozen? ⟨b,i * sz + j,none⟩ = false := by
 obtain ⟨cur,fz,h1,h2,h3,_,h5,_⟩ := h.row hk
 exact okfz_false h2 (by rw [h3]; exact row_lt (by omega) hj) h1
theorem setCell_heap (w : World) (b j : Nat) (v : Value) {cur : Array Value} {t : Nat} {fz : Nat × Nat} (h : w.heap[b]? = some (.cells cur t fz)) : (w.setCell ⟨b,j,none⟩ v).heap[b]? = some (.cells (cur.setIfInBounds j v) t fz) := by
 unfold World.setCell
 simp only
 rw [Array.getElem?_modify,if_pos rfl,h]
 simp
theorem KeptW.setC {w : World} {b j : Nat} {v : Value} : KeptW [b] w (w.setCell ⟨b,j,none⟩ v) :=
 ⟨rfl,rfl,rfl,by unfold World.setCell; simp,fun x _ hn => setCell_other w b j v x (by simpa using hn)⟩
theorem mul_inj {sz i i' j j' : Nat} (hj : j < sz) (hj' : j' < sz) (h : i * sz + j = i' * sz + j') : i = i'∧j = j' := by
 rcases Nat.lt_trichotomy i i' with g | g | g
 ·have : (i + 1) * sz ≤ i' * sz := Nat.mul_le_mul_right _ g
  rw [Nat.succ_mul] at this; omega
 ·subst g; exact ⟨rfl,by omega⟩
 ·have : (i' + 1) * sz ≤ i * sz := Nat.mul_le_mul_right _ g
  rw [Nat.succ_mul] at this; omega
theorem rowD_set {sz i j : Nat} {xs : List (List AV)} {cur : Array Value} {e : List AV} {a : AV} {v : Value} (h : RowD μ sz xs cur) (he : xs[i]? = some e) (hj : j < sz) (hs : xs.length * sz ≤ cur.size) (ha : DR μ a v) : RowD μ sz (xs.set i (e.set j a)) (cur.setIfInBounds (i * sz + j) v) := by
 have hi := (List.getElem?_eq_some_iff.1 he).1
 have hel := h.1 e (List.mem_of_getElem? he)
 have hlt := row_lt hi hj
 refine ⟨fun x hx => ?_,fun i' e' j' c he' hc => ?_⟩
 ·rcases List.mem_or_eq_of_mem_set hx with hx | rfl
  ·exact h.1 x hx
  ·rw [List.length_set]; exact hel
 ·rw [List.getElem?_set] at he'
  rw [Array.getElem?_setIfInBounds]
  by_cases ei : i = i'
  ·subst ei
   rw [if_pos rfl,if_pos hi] at he'
   cases he'
   rw [List.getElem?_set] at hc
   by_cases ej : j = j'
   ·subst ej
    rw [if_pos rfl,if_pos (by omega)] at hc
    cases hc
    rw [if_pos rfl,if_pos (by omega)]
    exact ⟨v,rfl,ha⟩
   ·rw [if_neg ej] at hc
    rw [if_neg (by omega)]
    exact h.2 i e j' c he hc
  ·rw [if_neg ei] at he'
   have hj' := (List.getElem?_eq_some_iff.1 hc).1
   rw [h.1 e' (List.mem_of_getElem? he')] at hj'
   rw [if_neg fun q => ei (mul_inj hj hj' q).1]
   exact h.2 i' e' j' c he' hc
variable [DecidableEq ι]
theorem Kst.rset (h : Kst w μ I W) {k : ι} {b c T sz : Nat} {xs : List (List AV)} (hk : I k = some (rowI b c T sz xs)) {i j : Nat} {e : List AV} {a : AV} {v : Value} (he : xs[i]? = some e) (hj : j < sz) (ha : DR μ a v) : Kst w μ (put I k (some (rowI b c T sz (xs.set i (e.set j a))))) (W.setCell ⟨b,i * sz + j,none⟩ v) := by
 obtain ⟨cur,fz,h1,h2,h3,h4,h5,h6⟩ := h.row hk
 have hb := setCell_heap W b (i * sz + j) v h1
 have hm : xs.length * sz ≤ c * sz := Nat.mul_le_mul_right _ h5
 have hl : (xs.set i (e.set j a)).length = xs.length := List.length_set ..
 refine h.mod (x := rowI b c T sz xs) (y := rowI b c T sz (xs.set i (e.set j a))) hk KeptW.setC (MuLe.refl _) (fun x o hx => ?_) (fun b o hb => .inl hb) ?_ (by simp) (fun x hx => .inl hx)
 ·have hne : x ≠ b := fun e => by subst e; rw [h6] at hx; cases hx
  exact KeptW.setC.get (h.imm x o hx) (by simpa using hne)
 ·refine .row (.ow ⟨fz,hb,by rw [Array.size_setIfInBounds]; exact h2⟩ h6 (by omega) (by rw [Array.size_setIfInBounds]; exact h3.symm) (rowD_set h4 he hj (by omega) ha)) ?_
  intro e; cases e
def Row (I : ι → Option ItemO) (k : ι) (v : Value) (T sz : Nat) (xs : List (List AV)) : Prop := (v = .slice none 0 0∧xs = []) ∨ ∃ b c,v = .slice (some ⟨b,0,none⟩) xs.length c∧I k = some (rowI b c T sz xs)
theorem Row.ne {I : ι → Option ItemO} {k : ι} {v : Value} {T sz : Nat} {xs : List (List AV)} (h : Row I k v T sz xs) (hx : xs ≠ []) : ∃ b c,v = .slice (some ⟨b,0,none⟩) xs.length c∧I k = some (rowI b c T sz xs) := h.resolve_left fun h => hx h.2
theorem Row.put {I : ι → Option ItemO} {k l : ι} {v : Value} {T sz : Nat} {xs : List (List AV)} {x : Option ItemO} (h : Row I k v T sz xs) (hne : k ≠ l) : Row (Go.Ev.put I l x) k v T sz xs := by
 rcases h with h | ⟨b,c,h1,h2⟩
 ·exact .inl h
 ·exact .inr ⟨b,c,h1,put_get h2 hne⟩
theorem Row.same {I J : ι → Option ItemO} {k : ι} {v : Value} {T sz : Nat} {xs : List (List AV)} (h : Row I k v T sz xs) (hJ : J k = I k) : Row J k v T sz xs := by
 rcases h with h | ⟨b,c,h1,h2⟩
 ·exact .inl h
 ·exact .inr ⟨b,c,h1,hJ.trans h2⟩
theorem Row.val {I : ι → Option ItemO} {k : ι} {v : Value} {T sz : Nat} {xs : List (List AV)} (h : Row I k v T sz xs) : ∃ A c,v = .slice A xs.length c∧(A = none → xs = []∧c = 0) := by
 rcases h with ⟨rfl,rfl⟩ | ⟨b,c,rfl,_⟩
 ·exact ⟨none,0,rfl,fun _ => ⟨rfl,rfl⟩⟩
 ·exact ⟨_,c,rfl,fun h => by cases h⟩
theorem Kst.rapp {P : Program} (h : Kst w μ I W) {k : ι} {v : Value} {T sz t E : Nat} {xs : List (List AV)} (hr : Row I k v T sz xs) {z : Value} {Inf : TypeInfo} {els : Array Value} {es : List AV} (ht : P.underlying t = some (.slice T)) (hI : P.info? T = some Inf) (hz : Inf.zero = some z) (hs : Inf.size = sz) (hb1 : 0 < Inf.bytes) (hb2 : Inf.bytes ≤ 1000) (hzs : z.cells.size = sz) (hl : xs.length ≤ 100000)
  (hE : W.heap[E]? = some (.cells els T (0,0))) (hEs : els.size = sz) (hone : ∀ v ∈ els.toList,v.oneCell' = true) (hes : es.length = sz) (hd : ∀ (jj : Nat) (u : AV) (x : Value),es[jj]? = some u → els[jj]? = some x → DR μ u x) :
  ∃ (b' c' : Nat) (W2 : World),(∀ tt,(Builtin.append_ #[t,t] tt #[v,.slice (some ⟨E,0,none⟩) 1 1]).run P W = .ok (.slice (some ⟨b',0,none⟩) (xs.length + 1) c') W2)∧Kst w μ (put I k (some (rowI b' c' T sz (xs ++ [es])))) W2∧((I k).isSome = true ∨ W.heap.size ≤ b')∧∀ x,x < W.heap.size → (∀ y,I k = some y → x ∉ y.F) → W2.heap[x]? = W.heap[x]? := by
 rcases hr with ⟨rfl,rfl⟩ | ⟨b,c,rfl,hk⟩
 ·obtain ⟨b',c',W2,cur',fz',a1,a2,a3,a3',a4,a5,a6,a7,a8⟩ := app_fz (P := P) (ob := fxB false sz) (fz := (0,0)) (cur := #[]) (A := none) (l := 0) (c := 0) ht hI hz hs hb1 hb2 hzs (by omega) (.inl ⟨rfl,rfl,rfl⟩) hE hEs hone
  have hb' : W.heap.size ≤ b' := a6.resolve_left fun e => by cases e
  have k0 : KeptW [] W W2 := a2.mono fun x hx => by simp at hx; subst hx; exact .inr hb'
  refine ⟨b',c',W2,a1,?_,.inr hb',fun x hx _ => k0.keep x hx List.not_mem_nil⟩
  refine h.put1 (D := []) (n := k) (y := rowI b' c' T sz ([] ++ [es])) k0 (MuLe.refl _) (fun x o hx => k0.get (h.imm x o hx) List.not_mem_nil) (fun b o hb => .inl hb) (fun b hb => by cases hb) (fun _ _ _ _ _ _ hb => by cases hb) ?_ (by simp) fun x hx => .inr (by simp at hx; subst hx; exact hb')
  refine .row (.ow ⟨fz',a3,a3'⟩ (h.noMu hb') a5 a4.symm (rowD_app (cur := #[]) ⟨fun e he => (by cases he),fun i e j c he => (by simp at he)⟩ hes hd hEs (fun j hj => by simp at hj) a8)) (fun e => by cases e)
 ·obtain ⟨cur,fz,h1,h2,h3,h4,h5,h6⟩ := h.row hk
  obtain ⟨b',c',W2,cur',fz',a1,a2,a3,a3',a4,a5,a6,a7,a8⟩ := app_fz (P := P) (ob := fxB false sz) (fz := fz) (cur := cur) ht hI hz hs hb1 hb2 hzs hl (.inr ⟨b,rfl,h5,h1,h2,h3⟩) hE hEs hone
  have hb' : b' = b ∨ W.heap.size ≤ b' := a6.imp (fun e => by cases e; rfl) id
  have hbs : b < W.heap.size := (Array.getElem?_eq_some_iff.1 h1).1
  have k0 : KeptW [b] W W2 := a2.mono fun x hx => by
   simp at hx; subst hx
   exact hb'.imp (fun e => by simp [e]) id
  have hmb : μ b' = none := by
   rcases hb' with e | e
   ·rw [e]; exact h6
   ·exact h.noMu e
  refine ⟨b',c',W2,a1,?_,.inl (by rw [hk]; rfl),fun x hx hn => k0.keep x hx (by simpa using fun e => hn _ hk (by simp [e]))⟩
  refine h.mod (x := rowI b c T sz xs) (y := rowI b' c' T sz (xs ++ [es])) hk k0 (MuLe.refl _) (fun x o hx => ?_) (fun b o hb => .inl hb) ?_ (by simp) fun x hx => ?_
  ·have hne : x ≠ b := fun e => by subst e; rw [h6] at hx; cases hx
   exact k0.get (h.imm x o hx) (by simpa using hne)
  ·refine .row (.ow ⟨fz',a3,a3'⟩ hmb (by rw [List.length_append]; exact a5) a4.symm (rowD_app h4 hes hd hEs a7 a8)) (fun e => by cases e)
  ·simp at hx; subst hx
   exact hb'.imp (fun e => by simp [e]) id
end
theorem dr_cells {μ : Mu} {W : World} {n : Bool} {sz : Nat} {xs : List (List AV)} {v : Value} (h : DR μ (.lst n sz xs) v) (him : MuLe μ (hf W)) (hs : 0 < sz) (hx : xs ≠ []) :
  ∃ vb vo c,v = .slice (some ⟨vb,vo,none⟩) xs.length c∧∀ (k j : Nat) (e : List AV) (u : AV),xs[k]? = some e → e[j]? = some u → ∃ x,W.cell? ⟨vb,vo + k * sz + j,none⟩ = some x∧DR μ u x := by
 cases h with
 | @lst _ _ _ A c vals hnil hA hc hsz hcell hv =>
  cases A with
  | none => exact absurd (hA rfl).1 hx
  | some a =>
   obtain ⟨vb,vo,s⟩ := a
   have h0 := hcell _ rfl 0 0 (List.length_pos_iff.2 hx) hs
   cases s with
   | some s =>
    unfold muCell at h0
    split at h0
    ·rw [if_pos (by unfold Addr.add; rw [if_pos (by omega)]; rfl)] at h0; cases h0
    ·cases h0
   | none =>
    refine ⟨vb,vo,c,rfl,fun k j e u he hu => ?_⟩
    have hk := (List.getElem?_eq_some_iff.1 he).1
    have hj := (List.getElem?_eq_some_iff.1 hu).1
    rw [hsz e (List.mem_of_getElem? he)] at hj
    have h1 := hcell _ rfl k j hk hj
    rw [Addr.add_lit] at h1
    unfold muCell at h1
    simp only at h1
    split at h1
    ·rename_i cc ty fz hm
     refine ⟨vals k j,cell_of (him _ _ hm) ?_,hv k e j u he hu⟩
     rw [show vo + k * sz + j = vo + (k * sz + j) by omega]
     simpa using h1
    ·cases h1
section
variable {ι : Type} {w W : World} {μ : Mu} {I : ι → Option ItemO} [DecidableEq ι] {P : Program} {C : Cfg}
theorem Kst.vals (h : Kst w μ I W) (hmix : P.follows .mixedOrders = true) (hx : ExtS P C) {f : FuncId} {bs : List AV} {xs : List Value} (hev : evL P C f bs = some (xs.map AV.v)) {fn : Func} (hfn : P.funcs[f]? = some fn) {vals : List Value}
  (hB : B2s μ (hf W) [] [] bs vals) : Calls P f vals.toArray W fun e w' => e = .returned (retV xs)∧Kst w μ I w'∧KeptW [] W w' :=
 (h.lent hmix hx hev hfn (hB.mono h.imm fun b hb => by cases hb)).mono fun e w' he => by
  obtain ⟨vs,μ',F1,G1,rfl,hK,hk,_,hb,_⟩ := he
  obtain ⟨rfl,_⟩ := b2s_vals_inv (F := F1) (G := G1) xs hb
  exact ⟨rfl,hK,hk⟩
theorem KeptW.cell {w w' : World} {D : List Nat} (k : KeptW D w w') {b j : Nat} {v : Value} (h : w.cell? ⟨b,j,none⟩ = some v) (hd : b ∉ D) : w'.cell? ⟨b,j,none⟩ = some v := by
 have hb : b < w.heap.size := by
  unfold World.cell? at h
  split at h
  ·rename_i h1; exact (Array.getElem?_eq_some_iff.1 h1).1
  ·cases h
 rw [cell_heap (k.keep b hb hd)]; exact h
theorem Kst.allocR (h : Kst w μ I W) (k : ι) {cur : Array Value} {T c sz : Nat} {xs : List (List AV)} (hs : cur.size = c * sz) (hl : xs.length ≤ c) (hr : RowD μ sz xs cur) : Kst w μ (put I k (some (rowI W.heap.size c T sz xs))) (W.alloc (.cells cur T (0,0))) := by
 have k0 : KeptW [] W (W.alloc (.cells cur T (0,0))) := KeptW.alloc W _
 refine h.put1 (y := rowI W.heap.size c T sz xs) k0 (MuLe.refl _) (fun b o hb => k0.get (h.imm b o hb) List.not_mem_nil) (fun b o hb => .inl hb) (fun b hb => by cases hb) (fun _ _ _ _ _ _ hb => by cases hb) ?_ (by simp) fun b hb => .inr (by simp at hb; omega)
 exact .row (.ow ⟨(0,0),Ev.alloc_new W _,.inl rfl⟩ (h.noMu (Nat.le_refl _)) hl hs.symm hr) (fun e => by cases e)
theorem Kst.adoptR (h : Kst w μ I W) (k : ι) {F : List Nat} {n : Bool} {T sz : Nat} {xs : List (List AV)} {v : Value} (hb : B0 μ (hf W) F (.ow n T sz xs) v) (hnew : ∀ b ∈ F,w.heap.size ≤ b) (hd : ∀ j x,I j = some x → ∀ b ∈ x.F,b ∉ F) :
  ∃ y,Kst w μ (put I k y) W∧Row (put I k y) k v T sz xs := by
 cases hb with
 | d h => cases h
 | own => exact ⟨none,h.drop k,.inl ⟨rfl,rfl⟩⟩
 | @ow b cap _ _ _ cur hb hm hc hs hr =>
  refine ⟨some (rowI b cap T sz xs),h.adopt (y := rowI b cap T sz xs) k (.row (.ow hb hm hc hs hr) (fun e => by cases e)) (by simp) (fun j x hj _ b hb => hd j x hj b hb) hnew,.inr ⟨b,cap,rfl,put_same _ _ _⟩⟩
theorem Kst.rfrz (h : Kst w μ I W) {k : ι} {v : Value} {T sz : Nat} {xs : List (List AV)} (hr : Row I k v T sz xs) : ∃ (μ' : Mu) (n : Bool),MuLe μ μ'∧Kst w μ' (put I k none) W∧DR μ' (.lst n sz xs) v∧(n = true → xs = []) := by
 rcases hr with ⟨rfl,rfl⟩ | ⟨b,c,rfl,hk⟩
 ·exact ⟨μ,true,MuLe.refl _,h.drop k,dr_nil,fun _ => rfl⟩
 ·have hb := b1_tup (h.ok k _ hk)
  simp only at hb
  obtain ⟨μ',hm,hK,hd,_⟩ := (h.drop k).keepRow hb (fun i x hi y hy hx => by
   rcases put_some hi with ⟨_,e⟩ | ⟨ne,e⟩
   ·cases e
   ·exact h.dj i k x _ e hk ne y hx hy) (h.new k _ hk)
  exact ⟨μ',false,hm,hK,hd,fun e => by cases e⟩
end
end Go.Ev
