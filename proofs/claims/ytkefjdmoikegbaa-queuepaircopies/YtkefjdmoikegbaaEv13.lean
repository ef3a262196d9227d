/- Objects by name,with what is frozen: for walks by hand. -/
import Derived.RegionTactic
import Derived.Test.YtkefjdmoikegbaaEv12
set_option linter.all false
namespace Go.Ev
open Go Go.Proofs
section
variable {ι : Type}
structure Kst (w : World) (μ : Mu) (I : ι → Option ItemO) (W : World) : Prop where
 kept : KeptW [] w W
 imm : MuLe μ (hf W)
 ok : ∀ i x,I i = some x → B1 μ (hf W) x.F [x.p] x.a x.p
 nd : ∀ i x,I i = some x → x.F.Nodup
 new : ∀ i x,I i = some x → ∀ b ∈ x.F,w.heap.size ≤ b
 dj : ∀ i j x y,I i = some x → I j = some y → i ≠ j → ∀ b ∈ x.F,b ∉ y.F
variable {w W W' : World} {μ μ' : Mu} {I J : ι → Option ItemO}
theorem Kst.start (w : World) : Kst w (hf w) (fun _ : ι => none) w := ⟨KeptW.refl _ _,MuLe.refl _,fun i x (h : none = some x) => (by cases h),fun i x (h : none = some x) => (by cases h),fun i x (h : none = some x) => (by cases h),fun i j x y (h : none = some x) => (by cases h)⟩
theorem Kst.own (h : Kst w μ I W) {i : ι} {x : ItemO} (hi : I i = some x) : ∀ b ∈ x.F,μ b = none∧b < W.heap.size := fun b hb => by
 obtain ⟨h1,o,h2⟩ := (h.ok i x hi).ownd b hb
 exact ⟨h1,(Array.getElem?_eq_some_iff.1 h2).1⟩
theorem Kst.keep1 (h : Kst w μ I W) {D : List Nat} (k : KeptW D W W') (hm : MuLe μ μ') (hnew : ∀ b o,μ' b = some o → μ b = some o ∨ b ∈ D ∨ W.heap.size ≤ b) {i : ι} {x : ItemO} (hi : I i = some x) (hd : ∀ b ∈ x.F,b ∉ D) : B1 μ' (hf W') x.F [x.p] x.a x.p := by
 refine ((h.ok i x hi).mono hm fun b hb => ?_).heap fun b hb => k.keep b (h.own hi b hb).2 (hd b hb)
 obtain ⟨h1,h2⟩ := h.own hi b hb
 cases e : μ' b with
 | none => rfl
 | some o =>
  rcases hnew b o e with h3 | h3 | h3
  ·rw [h1] at h3; cases h3
  ·exact absurd h3 (hd b hb)
  ·omega
theorem Kst.step (h : Kst w μ I W) {D : List Nat} (k : KeptW D W W') (hm : MuLe μ μ') (him : MuLe μ' (hf W')) (hnew : ∀ b o,μ' b = some o → μ b = some o ∨ b ∈ D ∨ W.heap.size ≤ b) (hD : ∀ b ∈ D,w.heap.size ≤ b) (N : ι → Prop)
  (hold : ∀ i x,J i = some x → ¬ N i → I i = some x∧∀ b ∈ x.F,b ∉ D)
  (hN : ∀ i x,J i = some x → N i → B1 μ' (hf W') x.F [x.p] x.a x.p∧x.F.Nodup∧∀ b ∈ x.F,b ∈ D ∨ W.heap.size ≤ b)
  (hNN : ∀ i j x y,J i = some x → J j = some y → N i → N j → i ≠ j → ∀ b ∈ x.F,b ∉ y.F) : Kst w μ' J W' := by
 have hs := h.kept.size
 refine ⟨h.kept.trans k fun x hx => .inr (hD x hx),him,fun i x hi => ?_,fun i x hi => ?_,fun i x hi b hb => ?_,fun i j x y hi hj hij b hb => ?_⟩
 ·by_cases n : N i
  ·exact (hN i x hi n).1
  ·exact h.keep1 k hm hnew (hold i x hi n).1 (hold i x hi n).2
 ·by_cases n : N i
  ·exact (hN i x hi n).2.1
  ·exact h.nd i x (hold i x hi n).1
 ·by_cases n : N i
  ·rcases (hN i x hi n).2.2 b hb with g | g
   ·exact hD b g
   ·omega
  ·exact h.new i x (hold i x hi n).1 b hb
 ·by_cases n : N i <;> by_cases n' : N j
  ·exact hNN i j x y hi hj n n' hij b hb
  ·intro hc
   obtain ⟨g1,g2⟩ := hold j y hj n'
   rcases (hN i x hi n).2.2 b hb with g | g
   ·exact g2 b hc g
   ·have := (h.own g1 b hc).2; omega
  ·intro hc
   obtain ⟨g1,g2⟩ := hold i x hi n
   rcases (hN j y hj n').2.2 b hc with g | g
   ·exact g2 b hb g
   ·have := (h.own g1 b hb).2; omega
  ·exact h.dj i j x y (hold i x hi n).1 (hold j y hj n').1 hij b hb
theorem Kst.kept0 (h : Kst w μ I W) (k : KeptW [] W W') : Kst w μ I W' :=
 h.step k (MuLe.refl _) (fun b o hb => k.get (h.imm b o hb) List.not_mem_nil) (fun b o hb => .inl hb) (fun b hb => by cases hb) (fun _ => False) (fun i x hi _ => ⟨hi,fun _ _ h => by cases h⟩) (fun _ _ _ n => n.elim) (fun _ _ _ _ _ _ n => n.elim)
theorem Kst.drew (h : Kst w μ I W) : Kst w μ I W.drew := h.kept0 ⟨rfl,rfl,rfl,Nat.le_refl _,fun _ _ _ => rfl⟩
theorem Kst.ren {κ : Type} {J : κ → Option ItemO} (h : Kst w μ I W) (g : κ → ι) (hg : ∀ k x,J k = some x → I (g k) = some x) (hinj : ∀ k l x y,J k = some x → J l = some y → g k = g l → k = l) : Kst w μ J W :=
 ⟨h.kept,h.imm,fun i x hi => h.ok _ x (hg i x hi),fun i x hi => h.nd _ x (hg i x hi),fun i x hi => h.new _ x (hg i x hi),fun i j x y hi hj hij => h.dj _ _ x y (hg i x hi) (hg j y hj) fun e => hij (hinj i j x y hi hj e)⟩
variable [DecidableEq ι]
def put (I : ι → Option ItemO) (k : ι) (x : Option ItemO) : ι → Option ItemO := fun i => if i = k then x else I i
theorem put_same (I : ι → Option ItemO) (k : ι) (x : Option ItemO) : put I k x k = x := if_pos rfl
theorem put_ne (I : ι → Option ItemO) {k i : ι} (x : Option ItemO) (h : i ≠ k) : put I k x i = I i := if_neg h
theorem put_some {I : ι → Option ItemO} {k i : ι} {x : Option ItemO} {y : ItemO} (h : put I k x i = some y) : (i = k∧x = some y) ∨ (i ≠ k∧I i = some y) := by
 unfold put at h
 by_cases e : i = k
 ·rw [if_pos e] at h; exact .inl ⟨e,h⟩
 ·rw [if_neg e] at h; exact .inr ⟨e,h⟩
theorem Kst.drop (h : Kst w μ I W) (k : ι) : Kst w μ (put I k none) W :=
 h.ren id (fun i x hi => by rcases put_some hi with ⟨_, e⟩ | ⟨_, e⟩
                            · cases e
                            · exact e) (fun _ _ _ _ _ _ e => e)
theorem Kst.put1 (h : Kst w μ I W) {D : List Nat} (k : KeptW D W W') (hm : MuLe μ μ') (him : MuLe μ' (hf W')) (hnew : ∀ b o,μ' b = some o → μ b = some o ∨ b ∈ D ∨ W.heap.size ≤ b) (hD : ∀ b ∈ D,w.heap.size ≤ b) {n : ι} {y : ItemO}
  (hd : ∀ i x,I i = some x → i ≠ n → ∀ b ∈ x.F,b ∉ D) (hb : B1 μ' (hf W') y.F [y.p] y.a y.p) (hn : y.F.Nodup) (hF : ∀ b ∈ y.F,b ∈ D ∨ W.heap.size ≤ b) : Kst w μ' (put I n (some y)) W' :=
 h.step k hm him hnew hD (fun i => i = n) (fun i x hi ne => by
   rcases put_some hi with ⟨e,_⟩ | ⟨_,e⟩
   ·exact absurd e ne
   ·exact ⟨e,hd i x e ne⟩) (fun i x hi e => by
   subst e; rw [put_same] at hi; cases hi; exact ⟨hb,hn,hF⟩) (fun i j x y hi hj e e' ne => absurd (e.trans e'.symm) ne)
abbrev obI (b : Nat) (F : List Nat) (ty : Nat) (cs : List AV) : ItemO := ⟨.pointer (some ⟨b,0,none⟩),F,.ob ty cs⟩
theorem b1_ob {hp : HF} {F : List Nat} {G : List Value} {b ty : Nat} {cs : List AV} (h : B1 μ hp F G (.ob ty cs) (.pointer (some ⟨b,0,none⟩))) : ∃ (F' : List Nat) (cur : Array Value),F = b :: F'∧hp b = some (.cells cur ty (0,0))∧μ b = none∧B0s μ hp F' cs cur.toList := by
 cases h with
 | c h => cases h with | d h => cases h
 | ob h1 h2 h3 => exact ⟨_,_,rfl,h1,h2,h3⟩
theorem Kst.ob (h : Kst w μ I W) {i : ι} {b ty : Nat} {F : List Nat} {cs : List AV} (hi : I i = some (obI b F ty cs)) : ∃ (F' : List Nat) (cur : Array Value),F = b :: F'∧W.heap[b]? = some (.cells cur ty (0,0))∧μ b = none∧B0s μ (hf W) F' cs cur.toList := b1_ob (h.ok i _ hi)
theorem Kst.frozen (h : Kst w μ I W) {i : ι} {b ty : Nat} {F : List Nat} {cs : List AV} (hi : I i = some (obI b F ty cs)) (j : Nat) : W.frozen? ⟨b,j,none⟩ = false := by
 obtain ⟨_,cur,_,h2,_⟩ := h.ob hi
 exact frozen_of h2 j
theorem Kst.at (h : Kst w μ I W) {i : ι} {b ty : Nat} {F : List Nat} {cs : List AV} (hi : I i = some (obI b F ty cs)) {j : Nat} {a : AV} (hj : cs[j]? = some a) : ∃ (F' : List Nat) (v : Value),W.cell? ⟨b,j,none⟩ = some v∧B0 μ (hf W) F' a v := by
 obtain ⟨_,cur,_,h2,_,h4⟩ := h.ob hi
 obtain ⟨F',v,g1,g2⟩ := h4.at j a hj
 rw [Array.getElem?_toList] at g1
 exact ⟨F',v,cell_of h2 g1,g2⟩
theorem b0_v {hp : HF} {F : List Nat} {x v : Value} (h : B0 μ hp F (.v x) v) : v = x∧F = [] := by
 cases h with | d h => cases h; exact ⟨rfl,rfl⟩
theorem b0_lst {hp : HF} {F : List Nat} {n : Bool} {sz : Nat} {xs : List (List AV)} {v : Value} (h : B0 μ hp F (.lst n sz xs) v) : DR μ (.lst n sz xs) v∧F = [] := by
 cases h with | d h => exact ⟨h,rfl⟩
theorem Kst.cell (h : Kst w μ I W) {i : ι} {b ty : Nat} {F : List Nat} {cs : List AV} (hi : I i = some (obI b F ty cs)) {j : Nat} {x : Value} (hj : cs[j]? = some (.v x)) : W.cell? ⟨b,j,none⟩ = some x := by
 obtain ⟨_,v,h1,h2⟩ := h.at hi hj
 obtain ⟨rfl,_⟩ := b0_v h2
 exact h1
theorem Kst.cellL (h : Kst w μ I W) {i : ι} {b ty : Nat} {F : List Nat} {cs : List AV} (hi : I i = some (obI b F ty cs)) {j : Nat} {n : Bool} {sz : Nat} {xs : List (List AV)} (hj : cs[j]? = some (.lst n sz xs)) : ∃ v,W.cell? ⟨b,j,none⟩ = some v∧DR μ (.lst n sz xs) v := by
 obtain ⟨_,v,h1,h2⟩ := h.at hi hj
 exact ⟨v,h1,(b0_lst h2).1⟩
theorem b0s_set {hp : HF} {F Fa : List Nat} {cs : List AV} {vs : List Value} (h : B0s μ hp F cs vs) {a : AV} {v : Value} (ha : B0 μ hp Fa a v) : ∀ j,∃ F',B0s μ hp F' (cs.set j a) (vs.set j v)∧(∀ b ∈ F',b ∈ F ∨ b ∈ Fa)∧(F.Nodup → Fa.Nodup → (∀ b ∈ Fa,b ∉ F) → F'.Nodup) := by
 induction h with
 | nil => exact fun j => ⟨[],.nil,fun b hb => .inl hb,fun h _ _ => h⟩
 | @cons F1 F2 a0 cs0 v0 vs0 h k ih =>
  intro j
  cases j with
  | zero =>
   refine ⟨Fa ++ F2,.cons ha k,fun b hb => (List.mem_append.1 hb).elim .inr fun h => .inl (List.mem_append_right _ h),fun h1 h2 h3 => ?_⟩
   obtain ⟨_,n2,_⟩ := List.nodup_append.1 h1
   exact List.nodup_append.2 ⟨h2,n2,fun x hx y hy e => h3 x hx (List.mem_append_right _ (e ▸ hy))⟩
  | succ j =>
   obtain ⟨F',g1,g2,g3⟩ := ih j
   refine ⟨F1 ++ F',.cons h g1,fun b hb => ?_,fun h1 h2 h3 => ?_⟩
   ·rcases List.mem_append.1 hb with hb | hb
    ·exact .inl (List.mem_append_left _ hb)
    ·exact (g2 b hb).imp (List.mem_append_right _) id
   ·obtain ⟨n1,n2,n3⟩ := List.nodup_append.1 h1
    refine List.nodup_append.2 ⟨n1,g3 n2 h2 fun b hb hc => h3 b hb (List.mem_append_right _ hc),fun x hx y hy e => ?_⟩
    subst e
    rcases g2 x hy with g | g
    ·exact n3 x hx x g rfl
    ·exact h3 x g (List.mem_append_left _ hx)
theorem Kst.mod (h : Kst w μ I W) {n : ι} {x y : ItemO} (hx : I n = some x) (k : KeptW x.F W W') (hm : MuLe μ μ') (him : MuLe μ' (hf W')) (hnew : ∀ b o,μ' b = some o → μ b = some o ∨ b ∈ x.F ∨ W.heap.size ≤ b)
  (hb : B1 μ' (hf W') y.F [y.p] y.a y.p) (hn : y.F.Nodup) (hF : ∀ b ∈ y.F,b ∈ x.F ∨ W.heap.size ≤ b) : Kst w μ' (put I n (some y)) W' :=
 h.put1 k hm him hnew (h.new n x hx) (fun i z hi ne b hb => h.dj i n z x hi hx ne b hb) hb hn hF
theorem Kst.set (h : Kst w μ I W) {i : ι} {b ty : Nat} {F : List Nat} {cs : List AV} (hi : I i = some (obI b F ty cs)) (j : Nat) {a : AV} {v : Value} (ha : DR μ a v) :
  ∃ F',(∀ x ∈ F',x ∈ F)∧Kst w μ (put I i (some (obI b F' ty (cs.set j a)))) (W.setCell ⟨b,j,none⟩ v) := by
 obtain ⟨F0,cur,rfl,h2,h3,h4⟩ := h.ob hi
 obtain ⟨k,hb⟩ := KeptW.set (j := j) (v := v) h2
 have hnd := h.nd i _ hi
 simp only [List.nodup_cons] at hnd
 obtain ⟨F',g1,g2,g3⟩ := b0s_set h4 (B0.d (hp := hf W) ha) j
 have hFsub : ∀ x ∈ F',x ∈ F0 := fun x hx => (g2 x hx).resolve_right List.not_mem_nil
 have himm : MuLe μ (hf (W.setCell ⟨b,j,none⟩ v)) := fun x o hx => by
  have hne : x ≠ b := fun e => by subst e; rw [h3] at hx; cases hx
  exact k.get (h.imm x o hx) (by simpa using hne)
 have hB : B1 μ (hf (W.setCell ⟨b,j,none⟩ v)) (b :: F') [.pointer (some ⟨b,0,none⟩)] (.ob ty (cs.set j a)) (.pointer (some ⟨b,0,none⟩)) := by
  refine .ob hb h3 ?_
  rw [Array.toList_setIfInBounds]
  refine g1.heap fun x hx => k.keep x (h.own hi x (List.mem_cons_of_mem _ (hFsub x hx))).2 fun hm => ?_
  simp at hm
  exact hnd.1 (hm ▸ hFsub x hx)
 have hn' : (b :: F').Nodup := List.nodup_cons.2 ⟨fun hm => hnd.1 (hFsub b hm),g3 hnd.2 List.nodup_nil (fun _ hb => by cases hb)⟩
 have hsub : ∀ x ∈ b :: F',x ∈ b :: F0 := fun x hx => by
  rcases List.mem_cons.1 hx with rfl | hx
  ·exact List.mem_cons_self
  ·exact List.mem_cons_of_mem _ (hFsub x hx)
 exact ⟨b :: F',hsub,h.mod (y := obI b (b :: F') ty (cs.set j a)) hi (k.mono fun x hx => by simp at hx; subst hx; exact .inl List.mem_cons_self) (MuLe.refl _) himm (fun b o hb => .inl hb) hB hn' fun x hx => .inl (hsub x hx)⟩
theorem Kst.alloc (h : Kst w μ I W) (i : ι) {cs : List AV} {cur : Array Value} {ty : Nat} (hc : B0s μ (hf W) [] cs cur.toList) : Kst w μ (put I i (some (obI W.heap.size [W.heap.size] ty cs))) (W.alloc (.cells cur ty (0,0))) := by
 have k : KeptW [] W (W.alloc (.cells cur ty (0,0))) := KeptW.alloc W _
 have hn : μ W.heap.size = none := by
  cases e : μ W.heap.size with
  | none => rfl
  | some o => have := (Array.getElem?_eq_some_iff.1 (h.imm _ _ e)).1; omega
 refine h.put1 k (MuLe.refl _) (fun b o hb => k.get (h.imm b o hb) List.not_mem_nil) (fun b o hb => .inl hb) (fun b hb => by cases hb) (fun _ _ _ _ _ _ hb => by cases hb) ?_ (by simp) fun b hb => .inr (by simp at hb; omega)
 exact .ob (F := []) (Ev.alloc_new W _) hn (hc.heap fun b hb => by cases hb)
theorem b0s_vals {μ : Mu} {hp : HF} : ∀ vs : List Value,(∀ v ∈ vs,okC (.v v) = true) → B0s μ hp [] (vs.map AV.v) vs
 | [],_ => .nil
 | v :: vs,h => .cons (F := []) (F' := []) (.d (.v (h v (by simp)))) (b0s_vals vs fun x hx => h x (List.mem_cons_of_mem _ hx))
theorem Kst.frz (h : Kst w μ I W) {i : ι} {b ty : Nat} {F : List Nat} {cs : List AV} (hi : I i = some (obI b F ty cs)) : ∃ (μ' : Mu) (cur : Array Value),MuLe μ μ'∧μ' b = some (.cells cur ty (0,0))∧Kst w μ' (put I i none) W∧∀ (j : Nat) (x : Value),cs[j]? = some (.v x) → cur[j]? = some x := by
 obtain ⟨F0,cur,rfl,h2,h3,h4⟩ := h.ob hi
 let μ' : Mu := fun x => if x = b then some (.cells cur ty (0,0)) else μ x
 have hle : MuLe μ μ' := fun x o hx => by
  show (if x = b then _ else μ x) = _
  by_cases e : x = b
  ·subst e; rw [h3] at hx; cases hx
  ·rw [if_neg e]; exact hx
 refine ⟨μ',cur,hle,if_pos rfl,?_,fun j x hj => ?_⟩
 ·have hd := h.drop i
  refine h.step (D := b :: F0) ((KeptW.refl [] W).mono fun x hx => by cases hx) hle (fun x o hx => ?_) (fun x o hx => ?_) (h.new i _ hi) (fun _ => False) (fun n x hx _ => ?_) (fun _ _ _ n => n.elim) (fun _ _ _ _ _ _ n => n.elim)
  ·have hx : (if x = b then some (.cells cur ty (0,0)) else μ x) = some o := hx
   by_cases e : x = b
   ·rw [if_pos e] at hx; cases hx; subst e; exact h2
   ·rw [if_neg e] at hx; exact h.imm x o hx
  ·have hx : (if x = b then some (.cells cur ty (0,0)) else μ x) = some o := hx
   by_cases e : x = b
   ·exact .inr (.inl (by simp [e]))
   ·rw [if_neg e] at hx; exact .inl hx
  ·rcases put_some hx with ⟨_,e⟩ | ⟨ne,e⟩
   ·cases e
   ·exact ⟨e,h.dj n i x _ e hi ne⟩
 ·obtain ⟨_,v,g1,g2⟩ := h4.at j _ hj
  rw [Array.getElem?_toList] at g1
  rw [g1,(b0_v g2).1]
theorem Kst.adopt (h : Kst w μ I W) (i : ι) {y : ItemO} (hb : B1 μ (hf W) y.F [y.p] y.a y.p) (hn : y.F.Nodup) (hd : ∀ j x,I j = some x → j ≠ i → ∀ b ∈ x.F,b ∉ y.F) (hw : ∀ b ∈ y.F,w.heap.size ≤ b) : Kst w μ (put I i (some y)) W :=
 h.put1 (D := y.F) ((KeptW.refl [] W).mono fun x hx => by cases hx) (MuLe.refl _) h.imm (fun b o hb => .inl hb) hw hd hb hn fun b hb => .inl hb
end
section
variable {ι : Type} [DecidableEq ι]
def puts (I : ι → Option ItemO) : List ι → List ItemO → ι → Option ItemO
 | k :: ks,x :: xs => put (puts I ks xs) k (some x)
 | _,_ => I
theorem puts_some {I : ι → Option ItemO} {i : ι} {y : ItemO} : ∀ {ks : List ι} {xs : List ItemO},puts I ks xs i = some y → ks.length = xs.length → (∃ n : Nat,ks[n]? = some i∧xs[n]? = some y) ∨ (i ∉ ks∧I i = some y)
 | [],[],h,_ => .inr ⟨List.not_mem_nil,h⟩
 | [],_ :: _,_,e => by cases e
 | _ :: _,[],_,e => by cases e
 | k :: ks,x :: xs,h,e => by
  rcases put_some h with ⟨h1,h2⟩ | ⟨h1,h2⟩
  ·exact .inl ⟨0,by rw [h1]; rfl,h2⟩
  ·rcases puts_some h2 (by simpa using e) with ⟨n,g1,g2⟩ | ⟨g1,g2⟩
   ·exact .inl ⟨n + 1,g1,g2⟩
   ·exact .inr ⟨fun hm => (List.mem_cons.1 hm).elim h1 g1,g2⟩
def gets (I : ι → Option ItemO) (ks : List ι) (xs : List ItemO) : Prop := List.map I ks = List.map some xs
theorem gets_len {I : ι → Option ItemO} {ks : List ι} {xs : List ItemO} (h : gets I ks xs) : ks.length = xs.length := by
 have := congrArg List.length h
 simpa using this
theorem gets_at {I : ι → Option ItemO} {ks : List ι} {xs : List ItemO} (h : gets I ks xs) {n : Nat} {k : ι} (hk : ks[n]? = some k) : ∃ x,xs[n]? = some x∧I k = some x := by
 have h1 : (List.map I ks)[n]? = (List.map some xs)[n]? := by rw [h]
 rw [List.getElem?_map,List.getElem?_map,hk] at h1
 cases e : xs[n]? with
 | none => rw [e] at h1; cases h1
 | some x => rw [e] at h1; exact ⟨x,rfl,by simpa using h1⟩
theorem foot_at {xs : List ItemO} {b : Nat} (h : b ∈ foot xs) : ∃ (n : Nat) (x : ItemO),xs[n]? = some x∧b ∈ x.F := by
 obtain ⟨x,hx,hb⟩ := List.mem_flatMap.1 h
 obtain ⟨n,hn⟩ := List.mem_iff_getElem?.1 hx
 exact ⟨n,x,hn,hb⟩
theorem foot_nd : ∀ {xs : List ItemO},(∀ x ∈ xs,x.F.Nodup) → (∀ (n m : Nat) (x y : ItemO),xs[n]? = some x → xs[m]? = some y → n ≠ m → ∀ b ∈ x.F,b ∉ y.F) → (foot xs).Nodup
 | [],_,_ => List.nodup_nil
 | x :: xs,h,hd => by
  rw [foot_cons]
  refine List.nodup_append.2 ⟨h x (by simp),foot_nd (fun y hy => h y (List.mem_cons_of_mem _ hy)) fun n m a b ha hb ne => hd (n + 1) (m + 1) a b ha hb (by omega),fun a ha b hb e => ?_⟩
  subst e
  obtain ⟨m,y,hy,hb⟩ := foot_at hb
  exact hd 0 (m + 1) x y rfl hy (by omega) a ha hb
theorem foot_sep : ∀ {xs : List ItemO},(foot xs).Nodup → ∀ (n m : Nat) (x y : ItemO),xs[n]? = some x → xs[m]? = some y → n ≠ m → ∀ b ∈ x.F,b ∉ y.F
 | [],_,n,m,x,y,hx,_,_,_,_,_ => by simp at hx
 | z :: xs,h,n,m,x,y,hx,hy,ne,b,hb,hc => by
  rw [foot_cons] at h
  obtain ⟨_,h2,h3⟩ := List.nodup_append.1 h
  cases n with
  | zero =>
   cases m with
   | zero => exact ne rfl
   | succ m => cases hx; exact h3 b hb b (List.mem_flatMap.2 ⟨y,List.mem_of_getElem? hy,hc⟩) rfl
  | succ n =>
   cases m with
   | zero => cases hy; exact h3 b hc b (List.mem_flatMap.2 ⟨x,List.mem_of_getElem? hx,hb⟩) rfl
   | succ m => exact foot_sep h2 n m x y hx hy (by omega) b hb hc
theorem nodup_at {α : Type} : ∀ {l : List α},l.Nodup → ∀ {n m : Nat} {a : α},l[n]? = some a → l[m]? = some a → n = m
 | [],_,n,m,a,h,_ => by simp at h
 | x :: l,h,n,m,a,h1,h2 => by
  obtain ⟨g1,g2⟩ := List.nodup_cons.1 h
  cases n with
  | zero =>
   cases m with
   | zero => rfl
   | succ m => cases h1; exact absurd (List.mem_of_getElem? (l := l) h2) g1
  | succ n =>
   cases m with
   | zero => cases h2; exact absurd (List.mem_of_getElem? (l := l) h1) g1
   | succ m => rw [nodup_at g2 (n := n) (m := m) h1 h2]
variable {P : Program} {C : Cfg} {w W : World} {μ : Mu} {I : ι → Option ItemO}
theorem Kst.call (h : Kst w μ I W) (hmix : P.follows .mixedOrders = true) (hx : ExtS P C) (ks : List ι) (hks : ks.Nodup) {xs : List ItemO} (hg : gets I ks xs) {f : FuncId} {fn : Func} {bs ra ro : List AV} {vals : List Value}
  (hev : evL P C f bs = some (ra ++ ro)) (hfn : P.funcs[f]? = some fn) (hsz : fn.resultTypes.size = ra.length) (hB : B2s μ (hf W) (foot xs) (xs.map ItemO.p) bs vals) (hro : ∀ a ∈ ro,∃ ty cs,a = .ob ty cs) :
  Calls P f vals.toArray W fun e w' => ∃ (vs : List Value) (μ' : Mu) (F1 : List Nat) (G1 : List Value) (xs' : List ItemO),e = .returned (retV vs)∧B2s μ' (hf w') F1 G1 ra vs∧MuLe μ μ'∧xs'.map ItemO.p = xs.map ItemO.p∧xs'.map ItemO.a = ro∧Kst w μ' (puts I ks xs') w' ∧
   F1.Nodup∧(∀ b ∈ F1,(b ∈ foot xs ∨ W.heap.size ≤ b)∧w.heap.size ≤ b∧∀ i x,puts I ks xs' i = some x → b ∉ x.F)∧KeptW (foot xs) W w' := by
 have hlen := gets_len hg
 have hat : ∀ (n : Nat) (x : ItemO),xs[n]? = some x → ∃ k,ks[n]? = some k∧I k = some x := fun n x hn => by
  have hlt : n < ks.length := by rw [hlen]; exact (List.getElem?_eq_some_iff.1 hn).1
  obtain ⟨y,h1,h2⟩ := gets_at hg (List.getElem?_eq_getElem hlt)
  rw [hn] at h1
  cases h1
  exact ⟨_,List.getElem?_eq_getElem hlt,h2⟩
 have hsep : ∀ (n m : Nat) (x y : ItemO),xs[n]? = some x → xs[m]? = some y → n ≠ m → ∀ b ∈ x.F,b ∉ y.F := fun n m x y hx hy ne => by
  obtain ⟨k,k1,k2⟩ := hat n x hx
  obtain ⟨l,l1,l2⟩ := hat m y hy
  exact h.dj k l x y k2 l2 fun e => ne (nodup_at hks k1 (e ▸ l1))
 have nd1 : (foot xs).Nodup := foot_nd (fun x hx => by
  obtain ⟨n,hn⟩ := List.mem_iff_getElem?.1 hx
  obtain ⟨k,_,hk⟩ := hat n x hn
  exact h.nd k x hk) hsep
 refine (call_rest hmix hx hev hfn h.imm hB nd1 (Owns.nil μ W) (fun b _ hb => by cases hb)).mono fun e w' he => ?_
 obtain ⟨ra',ro',vs,μ',F1,F2,G1,hrs,hra,he,hk,hmu,hi,hb1,hb2,hnd',hnew,_,_,hmn⟩ := he
 obtain ⟨e1,e2⟩ := List.append_inj hrs (by omega)
 subst e1 e2
 obtain ⟨xs',q1,q2,q3,q5,q4⟩ := b1s_obs hb2 hro
 obtain ⟨nF1,nF2,nF3⟩ := List.nodup_append.1 hnd'
 have hlen' : ks.length = xs'.length := by
  have := congrArg List.length q1
  rw [List.length_map,List.length_map] at this
  omega
 have hW : ∀ b ∈ foot xs,w.heap.size ≤ b := fun b hb => by
  obtain ⟨n,x,hn,hb⟩ := foot_at hb
  obtain ⟨k,_,hk⟩ := hat n x hn
  exact h.new k x hk b hb
 have hksz := h.kept.size
 have hsep' := foot_sep (xs := xs') (q3 ▸ nF2)
 have hK : Kst w μ' (puts I ks xs') w' := by
  refine h.step hk hmu hi hmn hW (fun i => i ∈ ks) (fun i x hi n => ?_) (fun i x hi n => ?_) fun i j x y hi hj n n' ne => ?_
  ·rcases puts_some hi hlen' with ⟨m,g1,_⟩ | ⟨_,g⟩
   ·exact absurd (List.mem_of_getElem? g1) n
   ·refine ⟨g,fun b hb hm => ?_⟩
    obtain ⟨m,y,hm,hy⟩ := foot_at hm
    obtain ⟨k,hk1,hk⟩ := hat m y hm
    exact h.dj i k x y g hk (fun e => n (e ▸ List.mem_of_getElem? hk1)) b hb hy
  ·rcases puts_some hi hlen' with ⟨m,g1,g2⟩ | ⟨g,_⟩
   ·have hmem := List.mem_of_getElem? g2
    have hsub : ∀ b ∈ x.F,b ∈ F2 := fun b hb => q3 ▸ List.mem_flatMap.2 ⟨x,hmem,hb⟩
    refine ⟨q4 x hmem,?_,fun b hb => hnew b (List.mem_append_right _ (hsub b hb))⟩
    have h2 := q3 ▸ nF2
    obtain ⟨l1,l2,e⟩ := List.append_of_mem hmem
    rw [e,foot_app,foot_cons] at h2
    exact (List.nodup_append.1 (List.nodup_append.1 h2).2.1).1
   ·exact absurd n g
  ·rcases puts_some hi hlen' with ⟨m,g1,g2⟩ | ⟨g,_⟩
   ·rcases puts_some hj hlen' with ⟨m',g1',g2'⟩ | ⟨g',_⟩
    ·exact hsep' m m' x y g2 g2' fun e => ne (Option.some.inj (g1.symm.trans (e ▸ g1')))
    ·exact absurd n' g'
   ·exact absurd n g
 refine ⟨vs,μ',F1,G1,xs',he,hb1,hmu,q1,q2,hK,nF1,fun b hb => ⟨hnew b (List.mem_append_left _ hb),?_,fun i x hi hm => ?_⟩,hk⟩
 ·rcases hnew b (List.mem_append_left _ hb) with g | g
  ·exact hW b g
  ·omega
 ·rcases puts_some hi hlen' with ⟨m,g1,g2⟩ | ⟨g,gi⟩
  ·exact nF3 b hb b (q3 ▸ List.mem_flatMap.2 ⟨x,List.mem_of_getElem? g2,hm⟩) rfl
  ·rcases hnew b (List.mem_append_left _ hb) with g' | g'
   ·obtain ⟨m,y,hm',hy⟩ := foot_at g'
    obtain ⟨k,hk1,hk⟩ := hat m y hm'
    exact h.dj i k x y gi hk (fun e => g (e ▸ List.mem_of_getElem? hk1)) b hm hy
   ·have := (h.own gi b hm).2; omega
theorem Kst.lent (h : Kst w μ I W) (hmix : P.follows .mixedOrders = true) (hx : ExtS P C) {f : FuncId} {bs rs : List AV} (hev : evL P C f bs = some rs) {fn : Func} (hfn : P.funcs[f]? = some fn) {vals : List Value}
  (hB : B2s (hf W) (hf W) [] [] bs vals) : Calls P f vals.toArray W fun e w' => ∃ (vs : List Value) (μ' : Mu) (F1 : List Nat) (G1 : List Value),e = .returned (retV vs)∧Kst w μ I w'∧KeptW [] W w'∧MuLe μ' (hf w')∧B2s μ' (hf w') F1 G1 rs vs∧∀ b ∈ F1,W.heap.size ≤ b :=
 (call_lentN hmix hx hev hfn hB).mono fun e w' he => by
  obtain ⟨vs,μ',F1,G1,rfl,hk,hi,hb,hn⟩ := he
  exact ⟨vs,μ',F1,G1,rfl,h.kept0 hk,hk,hi,hb,hn⟩
theorem Kst.data (h : Kst w μ I W) (hmix : P.follows .mixedOrders = true) (hx : ExtS P C) {f : FuncId} {bs rs : List AV} (hev : evL P C f bs = some rs) {fn : Func} (hfn : P.funcs[f]? = some fn) (hsz : fn.resultTypes.size = rs.length) {vals : List Value}
  (hB : B2s μ (hf W) [] [] bs vals) : Calls P f vals.toArray W fun e w' => ∃ (vs : List Value) (μ' : Mu) (F1 : List Nat) (G1 : List Value),e = .returned (retV vs)∧MuLe μ μ'∧Kst w μ' I w'∧KeptW [] W w'∧B2s μ' (hf w') F1 G1 rs vs∧F1.Nodup∧(∀ b ∈ F1,W.heap.size ≤ b) ∧
   ∀ b ∈ F1,∀ i x,I i = some x → b ∉ x.F := by
 refine (h.call hmix hx [] List.nodup_nil (xs := []) rfl (ra := rs) (ro := []) (by rw [List.append_nil]; exact hev) hfn hsz hB (fun a ha => by cases ha)).mono fun e w' he => ?_
 obtain ⟨vs,μ',F1,G1,xs',rfl,hb,hm,hp,_,hK,hn,hd,hk⟩ := he
 obtain rfl : xs' = [] := List.map_eq_nil_iff.1 hp
 refine ⟨vs,μ',F1,G1,rfl,hm,hK,hk,hb,hn,fun b hb' => (hd b hb').1.resolve_left fun h => (by cases h),fun b hb' i x hi => (hd b hb').2.2 i x hi⟩
end
end Go.Ev
namespace Go.Ev
open Go Go.Proofs
section
variable {P : Program}
open Go.Shelf Go.Lib Go.RowKit
theorem app_fz {t ety sz : Nat} {ob : Bool} {fz : Nat × Nat} {z : Value} {I : TypeInfo} (ht : P.underlying t = some (.slice ety)) (hI : P.info? ety = some I) (hz : I.zero = some z) (hs : I.size = sz) (hb1 : 0 < I.bytes) (hb2 : I.bytes ≤ 1000) (hzs : z.cells.size = sz)
  {W : World} {A : Option Addr} {l c E : Nat} {cur els : Array Value} (hl : l ≤ 100000) (hA : (A = none∧l = 0∧c = 0) ∨ ∃ b,A = some ⟨b,0,none⟩∧l ≤ c∧W.heap[b]? = some (.cells cur ety fz)∧OkFz ob cur.size fz∧cur.size = c * sz)
  (hE : W.heap[E]? = some (.cells els ety (0,0))) (hEs : els.size = sz) (hone : ∀ v ∈ els.toList,v.oneCell' = true) :
  ∃ (b c' : Nat) (W2 : World) (cur' : Array Value) (fz' : Nat × Nat),(∀ ty,(Builtin.append_ #[t,t] ty #[.slice A l c,.slice (some ⟨E,0,none⟩) 1 1]).run P W = .ok (.slice (some ⟨b,0,none⟩) (l + 1) c') W2)∧KeptW [b] W W2∧W2.heap[b]? = some (.cells cur' ety fz')∧OkFz ob cur'.size fz' ∧
   cur'.size = c' * sz∧l + 1 ≤ c'∧(A = some ⟨b,0,none⟩ ∨ W.heap.size ≤ b)∧(∀ j,j < l * sz → cur'[j]? = cur[j]?)∧∀ j,j < sz → cur'[l * sz + j]? = els[j]? := by
 have hlen : ∀ w : World,(Builtin.lenOf (.slice (some ⟨E,0,none⟩) 1 1)).run P w = .ok 1 w := fun _ => rfl
 have hfirst : ∀ W' : World,W'.heap = W.heap → (Builtin.firstCells I.size 1 (.slice (some ⟨E,0,none⟩) 1 1)).run P W' = .ok els.toList.toArray W' := fun W' hW' => by
  refine run_firstCells_some _ I.size 1 ⟨E,0,none⟩ 1 1 els.toList (by rw [hs,Array.length_toList,hEs]; omega) fun j v hj => ?_
  rw [Addr.add_lit,Nat.zero_add]
  simp only [World.cell?,hW',hE]
  simpa using hj
 by_cases hroom : l + 1 ≤ c
 ·rcases hA with ⟨_,_,hc⟩ | ⟨b,rfl,hlc,hcur,hfz,hcs⟩
  ·omega
  ·have hm : (l + 1) * sz ≤ c * sz := Nat.mul_le_mul_right _ hroom
   rw [Nat.succ_mul] at hm
   have hst := run_storeCells_fz P b (l * sz) ety ob fz els.toList 0 cur W hcur hfz (by rw [Array.length_toList,hEs,hcs]; omega) hone
   obtain ⟨cur',hcur'⟩ : ∃ cur',(cur.toList.take (l * sz + 0) ++ els.toList ++ cur.toList.drop (l * sz + 0 + els.toList.length)).toArray = cur' := ⟨_,rfl⟩
   rw [hcur'] at hst
   have ltake : (cur.toList.take (l * sz + 0)).length = l * sz := by rw [List.length_take,Array.length_toList]; omega
   have hsz : cur'.size = cur.size := by
    rw [← hcur']
    show (_ : List Value).length = _
    rw [List.length_append,List.length_append,ltake,List.length_drop,Array.length_toList,Array.length_toList]; omega
   refine ⟨b,c,W.setRow b cur',cur',fz,fun ty => ?_,⟨rfl,rfl,rfl,by rw [setRow_size]; exact Nat.le_refl _,fun x hx hn => setRow_other _ _ _ _ (by simpa using hn)⟩,setRow_heap _ _ _ _ _ _ hcur,by rw [hsz]; exact hfz,by rw [hsz,hcs],hroom,.inl rfl,fun j hj => ?_,fun j hj => ?_⟩
   ·refine run_app_room ht ht rfl hI hlen (by rw [hfirst W rfl]) hroom ?_
    show (storeCells _ _).run P W = _
    rw [Addr.add_lit,hs,Nat.zero_add]
    exact hst
   ·rw [← hcur',List.getElem?_toArray,List.append_assoc,List.getElem?_append_left (by omega),List.getElem?_take,if_pos (by omega)]; simp
   ·rw [← hcur',List.getElem?_toArray,List.getElem?_append_left (by rw [List.length_append,ltake,Array.length_toList,hEs]; omega),List.getElem?_append_right (by omega),ltake,show l * sz + j - l * sz = j by omega]; simp
 ·have hold : ∃ olds : List Value,olds.length = l * sz∧(∀ j,j < l * sz → olds[j]? = cur[j]?)∧(Builtin.firstCells I.size l (.slice A l c)).run P W.drew = .ok olds.toArray W.drew := by
   rcases hA with ⟨rfl,rfl,rfl⟩ | ⟨b,rfl,hlc,hcur,hfz,hcs⟩
   ·exact ⟨[],by simp,fun j hj => by omega,rfl⟩
   ·have hm : l * sz ≤ c * sz := Nat.mul_le_mul_right _ hlc
    refine ⟨cur.toList.take (l * sz),by rw [List.length_take,Array.length_toList]; omega,fun j hj => by rw [List.getElem?_take,if_pos hj]; simp,?_⟩
    refine run_firstCells_some _ I.size l ⟨b,0,none⟩ l c (cur.toList.take (l * sz)) (by rw [List.length_take,Array.length_toList,hs]; omega) fun j v hj => ?_
    rw [Addr.add_lit,Nat.zero_add]
    rw [List.getElem?_take] at hj
    split at hj
    ·show W.cell? _ = _
     simp only [World.cell?,hcur]
     simpa using hj
    ·cases hj
  obtain ⟨olds,ho1,ho2,ho3⟩ := hold
  have hm : (l + 1) * I.bytes ≤ 100001 * 1000 := Nat.mul_le_mul (by omega) hb2
  have hrun := fun ty => run_app_grow (P := P) (ty := ty) ht ht rfl hI hz hb1 (base := A) (sLen := l) (sCap := c) (olds := olds) (news := els.toList) hlen (hfirst W.drew rfl) ho3 (by omega) (by omega)
  have hge : l + 1 ≤ grownCap W (l + 1) c ety := grownCap_ge _ _ _ _
  obtain ⟨G,hG⟩ : ∃ G,grownCap W (l + 1) c ety = G := ⟨_,rfl⟩
  rw [hG] at hrun hge
  obtain ⟨R,hR⟩ : ∃ R,(olds ++ els.toList ++ (Builtin.zeroCells z.cells (G - (l + 1))).toList).toArray = R := ⟨_,rfl⟩
  rw [hR] at hrun
  have hRs : R.size = G * sz := by
   rw [← hR]
   rw [List.size_toArray,List.length_append,List.length_append,ho1,Array.length_toList,Array.length_toList,size_zeroCells,hEs,hzs,← Nat.succ_mul,← Nat.add_mul,show l.succ + (G - (l + 1)) = G by omega]
  refine ⟨W.heap.size,G,_,R,(0,0),hrun,⟨rfl,rfl,rfl,?_,fun b hb _ => Ev.alloc_old W.drew _ b hb⟩,Ev.alloc_new W.drew _,.inl rfl,hRs,hge,.inr (Nat.le_refl _),fun j hj => ?_,fun j hj => ?_⟩
  ·show W.heap.size ≤ (W.heap.push _).size
   rw [Array.size_push]; omega
  ·rw [← hR,List.getElem?_toArray,List.append_assoc,List.getElem?_append_left (by omega),ho2 j hj]
  ·rw [← hR,List.getElem?_toArray,List.getElem?_append_left (by rw [List.length_append,ho1,Array.length_toList,hEs]; omega),List.getElem?_append_right (by omega),ho1,show l * sz + j - l * sz = j by omega]; simp
end
section
variable {ι : Type} {w W W' : World} {μ μ' : Mu} {I J : ι → Option ItemO}
theorem b0_row {F : List Nat} {n : Bool} {T sz : Nat} {xs : List (List AV)} {v : Value} (h : B0 μ (hf W) F (.ow n T sz xs) v) : ∃ (A : Option Addr) (c : Nat),v = .slice A xs.length c∧n = A.isNone∧(A = none → xs = []∧c = 0∧F = [])∧xs.length ≤ c ∧
  ∀ a,A = some a → ∃ (vb : Nat) (cur : Array Value) (fz : Nat × Nat),a = ⟨vb,0,none⟩∧F = [vb]∧W.heap[vb]? = some (.cells cur T fz)∧OkFz (fxB false sz) cur.size fz∧cur.size = c * sz∧RowD μ sz xs cur := by
 cases h with
 | d h => cases h
 | own => exact ⟨none,0,rfl,rfl,fun _ => ⟨rfl,rfl,rfl⟩,Nat.le_refl _,fun a h => (by cases h)⟩
 | @ow b cap _ _ _ cur hb hm hc hs hr =>
  obtain ⟨fz,h1,h2⟩ := hb
  exact ⟨some ⟨b,0,none⟩,cap,rfl,rfl,fun h => (by cases h),hc,fun a h => by cases h; exact ⟨b,cur,fz,rfl,rfl,h1,h2,hs.symm,hr⟩⟩
variable [DecidableEq ι]
theorem rowD_app {sz : Nat} {xs : List (List AV)} {es : List AV} {cur cur' els : Array Value} (h : RowD μ sz xs cur) (hes : es.length = sz) (hd : ∀ (jj : Nat) (u : AV) (x : Value),es[jj]? = some u → els[jj]? = some x → DR μ u x) (hs : els.size = sz)
  (h1 : ∀ j,j < xs.length * sz → cur'[j]? = cur[j]?) (h2 : ∀ j,j < sz → cur'[xs.length * sz + j]? = els[j]?) : RowD μ sz (xs ++ [es]) cur' := by
 refine ⟨fun e he => ?_,fun i e j c he hc => ?_⟩
 ·rcases List.mem_append.1 he with he | he
  ·exact h.1 e he
  ·simp at he; rw [he]; exact hes
 ·rcases app1_cases he with he | ⟨rfl,rfl⟩
  ·obtain ⟨u,g1,g2⟩ := h.2 i e j c he hc
   have hi := (List.getElem?_eq_some_iff.1 he).1
   have hj := (List.getElem?_eq_some_iff.1 hc).1
   rw [h.1 e (List.mem_of_getElem? he)] at hj
   have : (i + 1) * sz ≤ xs.length * sz := Nat.mul_le_mul_right _ hi
   rw [Nat.succ_mul] at this
   exact ⟨u,by rw [h1 _ (by omega)]; exact g1,g2⟩
  ·have hj := (List.getElem?_eq_some_iff.1 hc).1
   rw [hes] at hj
   have hx : els[j]? = some els[j] := Array.getElem?_eq_getElem (by omega)
   exact ⟨els[j],by rw [h2 j hj,hx],hd j c _ hc hx⟩
theorem Kst.appIn {P : Program} (h : Kst w μ I W) {i : ι} {b ty : Nat} {F : List Nat} {c1 c2 : List AV} {n : Bool} {T sz : Nat} {xs : List (List AV)} (hi : I i = some (obI b F ty (c1 ++ .ow n T sz xs :: c2))) {t E : Nat} {z : Value} {Inf : TypeInfo} {els : Array Value} {es : List AV}
  (ht : P.underlying t = some (.slice T)) (hI : P.info? T = some Inf) (hz : Inf.zero = some z) (hs : Inf.size = sz) (hb1 : 0 < Inf.bytes) (hb2 : Inf.bytes ≤ 1000) (hzs : z.cells.size = sz) (hl : xs.length ≤ 100000)
  (hE : W.heap[E]? = some (.cells els T (0,0))) (hEs : els.size = sz) (hone : ∀ v ∈ els.toList,v.oneCell' = true) (hes : es.length = sz) (hd : ∀ (jj : Nat) (u : AV) (x : Value),es[jj]? = some u → els[jj]? = some x → DR μ u x) :
  ∃ (A : Option Addr) (c b' c' : Nat) (W2 : World) (F' : List Nat),W.cell? ⟨b,c1.length,none⟩ = some (.slice A xs.length c) ∧
   (∀ tt,(Builtin.append_ #[t,t] tt #[.slice A xs.length c,.slice (some ⟨E,0,none⟩) 1 1]).run P W = .ok (.slice (some ⟨b',0,none⟩) (xs.length + 1) c') W2)∧W2.frozen? ⟨b,c1.length,none⟩ = false∧W2.cell? ⟨b,c1.length,none⟩ = some (.slice A xs.length c) ∧
   Kst w μ (put I i (some (obI b F' ty (c1 ++ .ow false T sz (xs ++ [es]) :: c2)))) (W2.setCell ⟨b,c1.length,none⟩ (.slice (some ⟨b',0,none⟩) (xs.length + 1) c'))∧KeptW F W W2 := by
 obtain ⟨F0,cur0,rfl,q1,q2,q3⟩ := h.ob hi
 have hnd := h.nd i _ hi
 simp only at hnd
 obtain ⟨Fa,Fb,v1,v2,rfl,ecur,r1,r2⟩ := b0s_app q3
 cases r2 with
 | @cons Fc Fd _ _ v _ r2 r3 =>
 obtain ⟨A,c,rfl,g1,g2,g3,g4⟩ := b0_row r2
 have hv1 : v1.length = c1.length := r1.len
 have hcell : cur0[c1.length]? = some (.slice A xs.length c) := by
  rw [← Array.getElem?_toList,ecur,List.getElem?_append_right (by omega),hv1,Nat.sub_self]; rfl
 have hA : ∃ fz cur,(A = none∧xs.length = 0∧c = 0) ∨ ∃ b,A = some ⟨b,0,none⟩∧xs.length ≤ c∧W.heap[b]? = some (.cells cur T fz)∧OkFz (fxB false sz) cur.size fz∧cur.size = c * sz := by
  cases A with
  | none => obtain ⟨e1,e2,_⟩ := g2 rfl; exact ⟨(0,0),#[],.inl ⟨rfl,by rw [e1]; rfl,e2⟩⟩
  | some a =>
   obtain ⟨vb,cur,fz,rfl,_,k1,k2,k3,_⟩ := g4 a rfl
   exact ⟨fz,cur,.inr ⟨vb,rfl,g3,k1,k2,k3⟩⟩
 obtain ⟨fz,cur,hA⟩ := hA
 obtain ⟨b',c',W2,cur',fz',a1,a2,a3,a3',a4,a5,a6,a7,a8⟩ := app_fz (P := P) (ob := fxB false sz) (fz := fz) (cur := cur) ht hI hz hs hb1 hb2 hzs hl hA hE hEs hone
 have hb'F : b' ∈ Fc ∨ W.heap.size ≤ b' := by
  rcases a6 with e | e
  ·obtain ⟨vb,_,_,e1,e2,_⟩ := g4 _ e
   cases e1
   rw [e2]; exact .inl (by simp)
  ·exact .inr e
 rw [List.nodup_cons,List.nodup_append] at hnd
 obtain ⟨n0,n1,n2,n3⟩ := hnd
 rw [List.nodup_append] at n2
 obtain ⟨n4,n5,n6⟩ := n2
 have hbs : b < W.heap.size := (Array.getElem?_eq_some_iff.1 q1).1
 have hFlt : ∀ x ∈ b :: (Fa ++ (Fc ++ Fd)),x < W.heap.size := fun x hx => (h.own hi x hx).2
 have hbb : b ≠ b' := fun e => by
  rcases hb'F with g | g
  ·exact n0 (e ▸ List.mem_append_right _ (List.mem_append_left _ g))
  ·omega
 have hW2b : W2.heap[b]? = some (.cells cur0 ty (0,0)) := a2.get q1 (by simpa using hbb)
 obtain ⟨k2,hset⟩ := KeptW.set (j := c1.length) (v := .slice (some ⟨b',0,none⟩) (xs.length + 1) c') hW2b
 have hW3b' : (W2.setCell ⟨b,c1.length,none⟩ (.slice (some ⟨b',0,none⟩) (xs.length + 1) c')).heap[b']? = some (.cells cur' T fz') := k2.get a3 (by simpa using Ne.symm hbb)
 have hmuN : ∀ x,(x ∈ b :: (Fa ++ (Fc ++ Fd)) ∨ W.heap.size ≤ x) → μ x = none := fun x hx => by
  rcases hx with hx | hx
  ·exact (h.own hi x hx).1
  ·cases e : μ x with
   | none => rfl
   | some o => have := (Array.getElem?_eq_some_iff.1 (h.imm _ _ e)).1; omega
 have hb'all : b' ∈ b :: (Fa ++ (Fc ++ Fd)) ∨ W.heap.size ≤ b' := hb'F.imp (fun g => List.mem_cons_of_mem _ (List.mem_append_right _ (List.mem_append_left _ g))) id
 have hkk : KeptW [b,b'] W (W2.setCell ⟨b,c1.length,none⟩ (.slice (some ⟨b',0,none⟩) (xs.length + 1) c')) := (a2.mono (D' := [b,b']) (fun x hx => by simp at hx; exact .inl (by simp [hx]))).trans (k2.mono (D' := [b,b']) fun x hx => by simp at hx; exact .inl (by simp [hx])) fun x hx => .inl hx
 have hk : KeptW (b :: (Fa ++ (Fc ++ Fd))) W (W2.setCell ⟨b,c1.length,none⟩ (.slice (some ⟨b',0,none⟩) (xs.length + 1) c')) := hkk.mono fun x hx => by
  simp only [List.mem_cons,List.not_mem_nil,or_false] at hx
  rcases hx with rfl | rfl
  ·exact .inl List.mem_cons_self
  ·exact hb'all
 have hoth : ∀ x,x < W.heap.size → x ≠ b → x ≠ b' → hf (W2.setCell ⟨b,c1.length,none⟩ (.slice (some ⟨b',0,none⟩) (xs.length + 1) c')) x = hf W x := fun x hx h1 h2 => hkk.keep x hx (by simp [h1,h2])
 have hRow : RowD μ sz (xs ++ [es]) cur' := by
  cases A with
  | none =>
   obtain ⟨e1,_,_⟩ := g2 rfl
   subst e1
   exact rowD_app (cur := #[]) ⟨fun e he => (by cases he),fun i e j c he => (by simp at he)⟩ hes hd hEs (fun j hj => by simp at hj) a8
  | some a =>
   obtain ⟨vb,cu,f1,e1,_,k1,_,_,k4⟩ := g4 a rfl
   rcases hA with ⟨h0,_⟩ | ⟨b0,h0,_,h1,_⟩
   ·cases h0
   ·cases h0
    cases e1
    rw [k1] at h1
    cases h1
    exact rowD_app k4 hes hd hEs a7 a8
 have hnFa : b' ∉ Fa := fun hm => by
  rcases hb'F with g | g
  ·exact n3 b' hm b' (List.mem_append_left _ g) rfl
  ·have := hFlt b' (List.mem_cons_of_mem _ (List.mem_append_left _ hm)); omega
 have hnFd : b' ∉ Fd := fun hm => by
  rcases hb'F with g | g
  ·exact n6 b' g b' hm rfl
  ·have := hFlt b' (List.mem_cons_of_mem _ (List.mem_append_right _ (List.mem_append_right _ hm))); omega
 have hnb : b ∉ Fa ++ Fd := fun hm => n0 (by
  rw [List.mem_append] at hm ⊢
  exact hm.imp id (List.mem_append_right _))
 refine ⟨A,c,b',c',W2,b :: (Fa ++ ([b'] ++ Fd)),cell_of q1 hcell,a1,frozen_of hW2b _,cell_of hW2b hcell,?_,a2.mono fun x hx => by simp at hx; subst hx; exact hb'all⟩
 refine h.mod (x := obI b (b :: (Fa ++ (Fc ++ Fd))) ty (c1 ++ .ow n T sz xs :: c2)) (y := obI b (b :: (Fa ++ ([b'] ++ Fd))) ty (c1 ++ .ow false T sz (xs ++ [es]) :: c2)) hi hk (MuLe.refl _) (fun x o hx => ?_) (fun b o hb => .inl hb) ?_ ?_ fun x hx => ?_
 ·have h1 : x < W.heap.size := (Array.getElem?_eq_some_iff.1 (h.imm _ _ hx)).1
  have h2 := hoth x h1 (fun e => by subst e; rw [q2] at hx; cases hx) (fun e => by subst e; rw [hmuN x hb'all] at hx; cases hx)
  rw [h2]; exact h.imm x o hx
 ·refine .ob hset q2 ?_
  rw [Array.toList_setIfInBounds,ecur,List.set_append_right _ _ (by omega),hv1,Nat.sub_self]
  refine b0s_join (r1.heap fun x hx => hoth x (hFlt x (List.mem_cons_of_mem _ (List.mem_append_left _ hx))) (fun e => n0 (e ▸ List.mem_append_left _ hx)) fun e => hnFa (e ▸ hx)) (.cons ?_ (r3.heap fun x hx => hoth x (hFlt x (List.mem_cons_of_mem _ (List.mem_append_right _ (List.mem_append_right _ hx)))) (fun e => n0 (e ▸ List.mem_append_right _ (List.mem_append_right _ hx))) fun e => hnFd (e ▸ hx)))
  have := B0.ow (μ := μ) (hp := hf (W2.setCell ⟨b,c1.length,none⟩ (.slice (some ⟨b',0,none⟩) (xs.length + 1) c'))) (b := b') (cap := c') (ty := T) (sz := sz) (xs := xs ++ [es]) (cur := cur') ⟨fz',hW3b',a3'⟩ (hmuN b' hb'all) (by rw [List.length_append]; simpa using a5) a4.symm hRow
  rw [List.length_append] at this
  exact this
 ·rw [List.nodup_cons,List.nodup_append,List.nodup_append]
  refine ⟨fun hm => ?_,n1,⟨by simp,n5,fun x hx y hy e => ?_⟩,fun x hx y hy e => ?_⟩
  ·simp only [List.mem_append,List.mem_cons,List.not_mem_nil,or_false] at hm
   rcases hm with hm | hm | hm
   ·exact hnb (List.mem_append_left _ hm)
   ·exact hbb hm
   ·exact hnb (List.mem_append_right _ hm)
  ·simp at hx; subst hx; subst e; exact hnFd hy
  ·subst e
   simp only [List.mem_append,List.mem_cons,List.not_mem_nil,or_false] at hy
   rcases hy with hy | hy
   ·subst hy; exact hnFa hx
   ·exact n3 x hx x (List.mem_append_right _ hy) rfl
 ·simp only [List.mem_append,List.mem_cons,List.not_mem_nil,or_false] at hx ⊢
  rcases hx with hx | hx | hx | hx
  ·exact .inl (.inl hx)
  ·exact .inl (.inr (.inl hx))
  ·subst hx
   rcases hb'F with g | g
   ·exact .inl (.inr (.inr (.inl g)))
   ·exact .inr g
  ·exact .inl (.inr (.inr (.inr hx)))
theorem Kst.setB (h : Kst w μ I W) {i : ι} {b ty : Nat} {F Fa : List Nat} {cs : List AV} (hi : I i = some (obI b F ty cs)) (j : Nat) {a : AV} {v : Value} (ha : B0 μ (hf W) Fa a v) (hn : Fa.Nodup) (hw : ∀ x ∈ Fa,w.heap.size ≤ x) (hd : ∀ n x,I n = some x → ∀ y ∈ Fa,y ∉ x.F) :
  ∃ F',(∀ x ∈ F',x ∈ F ∨ x ∈ Fa)∧Kst w μ (put I i (some (obI b F' ty (cs.set j a)))) (W.setCell ⟨b,j,none⟩ v) := by
 obtain ⟨F0,cur,rfl,h2,h3,h4⟩ := h.ob hi
 obtain ⟨k,hb⟩ := KeptW.set (j := j) (v := v) h2
 have hnd := h.nd i _ hi
 simp only [List.nodup_cons] at hnd
 have hdi := hd i _ hi
 obtain ⟨F',g1,g2,g3⟩ := b0s_set h4 ha j
 have himm : MuLe μ (hf (W.setCell ⟨b,j,none⟩ v)) := fun x o hx => by
  have hne : x ≠ b := fun e => by subst e; rw [h3] at hx; cases hx
  exact k.get (h.imm x o hx) (by simpa using hne)
 have hlt : ∀ x ∈ F',x < W.heap.size∧x ≠ b := fun x hx => by
  rcases g2 x hx with g | g
  ·exact ⟨(h.own hi x (List.mem_cons_of_mem _ g)).2,fun e => hnd.1 (e ▸ g)⟩
  ·obtain ⟨_,o,g2⟩ := ha.ownd x g
   exact ⟨(Array.getElem?_eq_some_iff.1 g2).1,fun e => hdi x g (by simp [e])⟩
 have hB : B1 μ (hf (W.setCell ⟨b,j,none⟩ v)) (b :: F') [.pointer (some ⟨b,0,none⟩)] (.ob ty (cs.set j a)) (.pointer (some ⟨b,0,none⟩)) := by
  refine .ob hb h3 ?_
  rw [Array.toList_setIfInBounds]
  exact g1.heap fun x hx => k.keep x (hlt x hx).1 (by simpa using (hlt x hx).2)
 have hn' : (b :: F').Nodup := List.nodup_cons.2 ⟨fun hm => (hlt b hm).2 rfl,g3 hnd.2 hn fun x hx hm => hdi x hx (List.mem_cons_of_mem _ hm)⟩
 have hsub : ∀ x ∈ b :: F',x ∈ b :: F0 ∨ x ∈ Fa := fun x hx => by
  rcases List.mem_cons.1 hx with rfl | hx
  ·exact .inl List.mem_cons_self
  ·exact (g2 x hx).imp (List.mem_cons_of_mem _) id
 refine ⟨b :: F',hsub,h.put1 (D := b :: F0 ++ Fa) (k.mono fun x hx => by simp at hx; subst hx; exact .inl (by simp)) (MuLe.refl _) himm (fun b o hb => .inl hb) (fun x hx => ?_) (fun n x hx ne y hy hm => ?_) hB hn' fun x hx => ?_⟩
 ·exact (List.mem_append.1 hx).elim (h.new i _ hi x) (hw x)
 ·exact (List.mem_append.1 hm).elim (h.dj n i x _ hx hi ne y hy) fun g => hd n x hx y g hy
 ·exact .inl (List.mem_append.2 (hsub x hx))
end
end Go.Ev
namespace Go.Ev
open Go Go.Proofs
theorem info_parts {P : Program} {t : Nat} {z : Value} {s b : Nat} (h : (P.info? t).map (fun i => (i.zero,i.size,i.bytes)) = some (some z,s,b)) : ∃ I : TypeInfo,P.info? t = some I∧I.zero = some z∧I.size = s∧I.bytes = b := by
 cases hi : P.info? t with
 | none => rw [hi] at h; cases h
 | some I =>
  rw [hi] at h
  simp only [Option.map_some,Option.some.injEq,Prod.mk.injEq] at h
  exact ⟨I,rfl,h.1,h.2.1,h.2.2⟩
theorem cell_heap {w w' : World} {b : Nat} (h : w'.heap[b]? = w.heap[b]?) (j : Nat) : w'.cell? ⟨b,j,none⟩ = w.cell? ⟨b,j,none⟩ := by
 simp only [World.cell?,h]
theorem alloc_cell {W : World} {o : Obj} {b j : Nat} {v : Value} (h : W.cell? ⟨b,j,none⟩ = some v) : (W.alloc o).cell? ⟨b,j,none⟩ = some v := by
 have hb : b < W.heap.size := by
  unfold World.cell? at h
  split at h
  ·rename_i h1; exact (Array.getElem?_eq_some_iff.1 h1).1
  ·cases h
 rw [← h]; exact cell_heap (Ev.alloc_old W o b hb) j
theorem setCell_other (w : World) (b j : Nat) (v : Value) (x : Nat) (h : x ≠ b) : (w.setCell ⟨b,j,none⟩ v).heap[x]? = w.heap[x]? := by
 unfold World.setCell
 simp only
 rw [Array.getElem?_modify,if_neg (fun e => h e.symm)]
section
variable {μ : Mu} {hp : HF}
theorem B0s.atF {F : List Nat} {cs : List AV} {vs : List Value} (h : B0s μ hp F cs vs) : ∀ (j : Nat) (a : AV),cs[j]? = some a → ∃ (F' : List Nat) (v : Value),vs[j]? = some v∧B0 μ hp F' a v∧∀ b ∈ F',b ∈ F := by
 induction h with
 | nil => exact fun j a h => by simp at h
 | cons h _ ih =>
  intro j a hj
  cases j with
  | zero => simp at hj; subst hj; exact ⟨_,_,rfl,h,fun b hb => List.mem_append_left _ hb⟩
  | succ j =>
   obtain ⟨F',v,h1,h2,h3⟩ := ih j a hj
   exact ⟨F',v,h1,h2,fun b hb => List.mem_append_right _ (h3 b hb)⟩
theorem B0.nodup {F : List Nat} {a : AV} {v : Value} (h : B0 μ hp F a v) : F.Nodup := by cases h <;> simp
theorem b2_ow {F : List Nat} {G : List Value} {n : Bool} {T sz : Nat} {xs : List (List AV)} {v : Value} (h : B2 μ hp F G (.ow n T sz xs) v) : B0 μ hp F (.ow n T sz xs) v := by
 cases h with | o h => cases h with | c h => exact h
theorem b2_ob {F : List Nat} {G : List Value} {ty : Nat} {cs : List AV} {v : Value} (h : B2 μ hp F G (.ob ty cs) v) : ∃ b,v = .pointer (some ⟨b,0,none⟩)∧G = [.pointer (some ⟨b,0,none⟩)]∧B1 μ hp F [.pointer (some ⟨b,0,none⟩)] (.ob ty cs) (.pointer (some ⟨b,0,none⟩)) := by
 cases h with
 | o h => cases h with
  | c h => cases h with | d h => cases h
  | ob h1 h2 h3 => exact ⟨_,rfl,rfl,.ob h1 h2 h3⟩
theorem dr_slice {n : Bool} {sz : Nat} {xs : List (List AV)} {v : Value} (h : DR μ (.lst n sz xs) v) : ∃ (A : Option Addr) (c : Nat),v = .slice A xs.length c∧n = A.isNone := by
 cases h with | lst vals h1 => exact ⟨_,_,rfl,h1⟩
theorem dr_v {x v : Value} (h : DR μ (.v x) v) : v = x := by cases h; rfl
def isD : AV → Bool
 | .v x => okC (.v x)
 | .lst _ _ _ => true
 | _ => false
theorem b0_isD {F : List Nat} {a : AV} {v : Value} (h : B0 μ hp F a v) (hd : isD a = true) : DR μ a v∧F = [] := by
 cases h with
 | d h => exact ⟨h,rfl⟩
 | ow => cases hd
 | own => cases hd
theorem b1_isD {F : List Nat} {G : List Value} {a : AV} {v : Value} (h : B1 μ hp F G a v) (hd : isD a = true) : DR μ a v∧F = []∧G = [] := by
 cases h with
 | c h => obtain ⟨h1,h2⟩ := b0_isD h hd; exact ⟨h1,h2,rfl⟩
 | ob => cases hd
 | row => cases hd
theorem b1s_isD {F : List Nat} {G : List Value} {cs : List AV} {vs : List Value} (h : B1s μ hp F G cs vs) : cs.all isD = true → F = []∧G = []∧vs.length = cs.length∧∀ (j : Nat) (a : AV) (v : Value),cs[j]? = some a → vs[j]? = some v → DR μ a v := by
 induction h with
 | nil => exact fun _ => ⟨rfl,rfl,rfl,fun j a v h => by simp at h⟩
 | cons h _ ih =>
  intro hd
  rw [List.all_cons,Bool.and_eq_true] at hd
  obtain ⟨g1,rfl,rfl⟩ := b1_isD h hd.1
  obtain ⟨rfl,rfl,g2,g3⟩ := ih hd.2
  refine ⟨rfl,rfl,by simp [g2],fun j a v ha hv => ?_⟩
  cases j with
  | zero => simp at ha hv; subst ha; subst hv; exact g1
  | succ j => exact g3 j a v (by simpa using ha) (by simpa using hv)
theorem b2_aggD {F : List Nat} {G : List Value} {cs : List AV} {v : Value} (h : B2 μ hp F G (.agg cs) v) (hd : cs.all isD = true) : ∃ vs : List Value,v = .agg vs.toArray∧F = []∧vs.length = cs.length∧∀ (j : Nat) (a : AV) (x : Value),cs[j]? = some a → vs[j]? = some x → DR μ a x := by
 cases h with
 | o h => cases h with | c h => cases h with | d h => cases h
 | agg h =>
  obtain ⟨h1,_,h2,h3⟩ := b1s_isD h hd
  exact ⟨_,rfl,h1,h2,h3⟩
theorem b1s_drs : ∀ {cs : List AV} {vs : List Value},vs.length = cs.length → (∀ (j : Nat) (a : AV) (v : Value),cs[j]? = some a → vs[j]? = some v → DR μ a v) → B1s μ hp [] [] cs vs
 | [],[],_,_ => .nil
 | [],_ :: _,h,_ => by simp at h
 | _ :: _,[],h,_ => by simp at h
 | a :: cs,v :: vs,h,hd => .cons (F := []) (G := []) (.c (.d (hd 0 a v rfl rfl))) (b1s_drs (by simpa using h) fun j a v ha hv => hd (j + 1) a v (by simpa using ha) (by simpa using hv))
theorem b0_flat {μ' : Mu} {F : List Nat} {a : AV} {v : Value} (h : B0 μ hp F a v) (hf : flatC a = true) (hn : ∀ b ∈ F,μ' b = none) : B0 μ' hp F a v :=
 (flatC_b0 hf h).mono (fun b o h => by cases h) hn
end
section
variable {ι : Type} {w W W' : World} {μ μ' : Mu} {I J : ι → Option ItemO} [DecidableEq ι]
theorem put_put (I : ι → Option ItemO) (k : ι) (x y : Option ItemO) : put (put I k x) k y = put I k y := by
 funext i
 by_cases e : i = k
 ·rw [e,put_same,put_same]
 ·rw [put_ne _ _ e,put_ne _ _ e,put_ne _ _ e]
theorem Kst.noMu (h : Kst w μ I W) {b : Nat} (hb : W.heap.size ≤ b) : μ b = none := by
 cases e : μ b with
 | none => rfl
 | some o => have := (Array.getElem?_eq_some_iff.1 (h.imm _ _ e)).1; omega
theorem Kst.lt (h : Kst w μ I W) {i : ι} {x : ItemO} (hi : I i = some x) {b : Nat} (hb : b ∈ x.F) : b < W.heap.size := (h.own hi b hb).2
theorem Kst.atF (h : Kst w μ I W) {i : ι} {b ty : Nat} {F : List Nat} {cs : List AV} (hi : I i = some (obI b F ty cs)) {j : Nat} {a : AV} (hj : cs[j]? = some a) : ∃ (F' : List Nat) (v : Value),W.cell? ⟨b,j,none⟩ = some v∧B0 μ (hf W) F' a v∧∀ x ∈ F',x ∈ F := by
 obtain ⟨F0,cur,rfl,h2,_,h4⟩ := h.ob hi
 obtain ⟨F',v,g1,g2,g3⟩ := h4.atF j a hj
 rw [Array.getElem?_toList] at g1
 exact ⟨F',v,cell_of h2 g1,g2,fun x hx => List.mem_cons_of_mem _ (g3 x hx)⟩
theorem Kst.rowF (h : Kst w μ I W) {i : ι} {b ty : Nat} {F : List Nat} {cs : List AV} (hi : I i = some (obI b F ty cs)) {j : Nat} {n : Bool} {T sz : Nat} {xs : List (List AV)} (hj : cs[j]? = some (.ow n T sz xs)) :
  ∃ (A : Option Addr) (c : Nat),W.cell? ⟨b,j,none⟩ = some (.slice A xs.length c)∧n = A.isNone∧(A = none → xs = []∧c = 0)∧xs.length ≤ c ∧
   ∀ a,A = some a → ∃ vb,a = ⟨vb,0,none⟩∧vb ∈ F∧∀ (k jj : Nat) (e : List AV) (u : AV),xs[k]? = some e → e[jj]? = some u → ∃ x,W.cell? ⟨vb,k * sz + jj,none⟩ = some x∧DR μ u x := by
 obtain ⟨F',v,h1,h2,h3⟩ := h.atF hi hj
 obtain ⟨A,c,rfl,g1,g2,g3,g4⟩ := b0_row h2
 refine ⟨A,c,h1,g1,fun e => ⟨(g2 e).1,(g2 e).2.1⟩,g3,fun a ha => ?_⟩
 obtain ⟨vb,cur,fz,rfl,hF,k1,_,_,k2⟩ := g4 a ha
 refine ⟨vb,rfl,h3 vb (by rw [hF]; simp),fun k jj e u he hu => ?_⟩
 obtain ⟨x,x1,x2⟩ := k2.2 k e jj u he hu
 exact ⟨x,cell_of k1 x1,x2⟩
theorem Kst.sink (h : Kst w μ I W) {i r : ι} (hir : i ≠ r) {b ty : Nat} {F : List Nat} {cs : List AV} (hi : I i = some (obI b F ty cs)) {j ab cap T sz : Nat} {Fr : List Nat} {rc : List AV} {xs : List (List AV)} (hj : cs[j]? = some (.v (.slice (some ⟨ab,0,none⟩) xs.length cap)))
  (hr : I r = some (obI ab Fr T rc)) (hl : ∀ e ∈ xs,e.length = sz) (hrc : rc.length = cap * sz) (hcap : xs.length ≤ cap) (hc : ∀ (k jj : Nat) (e : List AV) (u : AV),xs[k]? = some e → e[jj]? = some u → rc[k * sz + jj]? = some u∧isD u = true) :
  ∃ F',Kst w μ (put (put I r none) i (some (obI b F' ty (cs.set j (.ow false T sz xs))))) W := by
 obtain ⟨F0,cur,rfl,h2,h3,h4⟩ := h.ob hi
 obtain ⟨F1,cr,rfl,g2,g3,g4⟩ := h.ob hr
 have hcr : cr.size = rc.length := by have := g4.len; rwa [Array.length_toList] at this
 have hRow : RowD μ sz xs cr := ⟨hl,fun k e jj u he hu => by
  obtain ⟨q1,q2⟩ := hc k jj e u he hu
  obtain ⟨F',v,q3,q4⟩ := g4.at _ _ q1
  rw [Array.getElem?_toList] at q3
  exact ⟨v,q3,(b0_isD q4 q2).1⟩⟩
 have hB : B0 μ (hf W) [ab] (.ow false T sz xs) (.slice (some ⟨ab,0,none⟩) xs.length cap) := .ow ⟨(0,0),g2,.inl rfl⟩ g3 hcap (by rw [hcr,hrc]) hRow
 have hnd := h.nd i _ hi
 simp only [List.nodup_cons] at hnd
 have hsep := h.dj i r _ _ hi hr hir
 have hab : ab ∉ b :: F0 := fun hm => hsep ab hm (by simp)
 obtain ⟨F',q1,q2,q3⟩ := b0s_set h4 hB j
 have hv : cur.toList.set j (.slice (some ⟨ab,0,none⟩) xs.length cap) = cur.toList := by
  obtain ⟨_,v,w1,w2⟩ := h4.at j _ hj
  obtain ⟨rfl,_⟩ := b0_v w2
  exact List.ext_getElem? fun n => by
   rw [List.getElem?_set]
   by_cases e : j = n
   ·subst e; rw [if_pos rfl,w1,if_pos (List.getElem?_eq_some_iff.1 w1).1]
   ·rw [if_neg e]
 rw [hv] at q1
 have hsub : ∀ x ∈ b :: F',x ∈ b :: F0 ∨ x = ab := fun x hx => by
  rcases List.mem_cons.1 hx with rfl | hx
  ·exact .inl List.mem_cons_self
  ·rcases q2 x hx with g | g
   ·exact .inl (List.mem_cons_of_mem _ g)
   ·exact .inr (by simpa using g)
 refine ⟨b :: F',(h.drop r).adopt (y := obI b (b :: F') ty (cs.set j (.ow false T sz xs))) i (.ob h2 h3 q1) (List.nodup_cons.2 ⟨fun hm => ?_,q3 hnd.2 (by simp) fun x hx hm => hab (by simp at hx; subst hx; exact List.mem_cons_of_mem _ hm)⟩) (fun n x hx ne y hy hm => ?_) fun x hx => ?_⟩
 ·rcases q2 b hm with g | g
  ·exact hnd.1 g
  ·exact hab (by simp at g; rw [← g]; simp)
 ·rcases put_some hx with ⟨_,e⟩ | ⟨nr,e⟩
  ·cases e
  ·rcases hsub y hm with g | g
   ·exact h.dj n i x _ e hi ne y hy g
   ·subst g; exact h.dj n r x _ e hr nr y hy (by simp)
 ·rcases hsub x hx with g | g
  ·exact h.new i _ hi x g
  ·subst g; exact h.new r _ hr x (by simp)
variable {P : Program} {C : Cfg}
theorem Kst.mkOb (h : Kst w μ I W) (hmix : P.follows .mixedOrders = true) (hx : ExtS P C) (k' : ι) {f : FuncId} {bs : List AV} {ty : Nat} {cs : List AV} {xs : List Value} (hev : evL P C f bs = some (.ob ty cs :: xs.map AV.v)) (hfl : flatO (.ob ty cs) = true) {fn : Func} (hfn : P.funcs[f]? = some fn) {vals : List Value}
  (hB : B2s (hf W) (hf W) [] [] bs vals) : Calls P f vals.toArray W fun e w' => ∃ (b : Nat) (F : List Nat),e = .returned (retV (.pointer (some ⟨b,0,none⟩) :: xs))∧Kst w μ (put I k' (some (obI b F ty cs))) w'∧KeptW [] W w'∧∀ x ∈ F,W.heap.size ≤ x := by
 refine (call_rest hmix hx hev hfn (fun b o hb => hb) hB List.nodup_nil (Owns.nil _ _) (fun b hb => by cases hb)).mono fun e w' he => ?_
 obtain ⟨ra,ro,vs,μ',F1,F2,G1,hrs,_,rfl,hk,_,hi,hb,h2,hnd,hnew,_⟩ := he
 obtain ⟨rfl,rfl⟩ := b1s_nil h2 rfl
 rw [List.append_nil] at hrs hnd hnew
 subst hrs
 have hK := h.kept0 hk
 have hn : ∀ b ∈ F1,W.heap.size ≤ b := fun b hb => (hnew b hb).resolve_left List.not_mem_nil
 cases hb with
 | @cons Fa Fb Ga Gb _ _ v vs' hb hr =>
 obtain ⟨rfl,rfl⟩ := b2s_vals_inv (F := Fb) (G := Gb) xs hr
 obtain ⟨b,rfl,rfl,hbo⟩ := b2_ob hb
 rw [List.append_nil] at hn hnd
 have hb0 := flatO_b1 hfl hbo
 have hmu : ∀ x ∈ Fa,μ x = none := fun x hx => h.noMu (hn x hx)
 have hb1 : B1 μ (hf w') Fa [.pointer (some ⟨b,0,none⟩)] (.ob ty cs) (.pointer (some ⟨b,0,none⟩)) := hb0.mono (fun b o h => by cases h) hmu
 refine ⟨b,Fa,rfl,hK.adopt (y := obI b Fa ty cs) k' hb1 hnd (fun j x hj ne y hy hm => ?_) (fun x hx => ?_),hk,hn⟩
 ·have := (h.own hj y hy).2
  have := hn y hm
  omega
 ·have := hn x hx
  have := h.kept.size
  omega
theorem put_get {I : ι → Option ItemO} {k i : ι} {x : Option ItemO} {y : ItemO} (h : I i = some y) (hne : i ≠ k) : put I k x i = some y := (put_ne _ _ hne).trans h
theorem item_eq {x : ItemO} {b ty : Nat} {cs : List AV} (hp : x.p = .pointer (some ⟨b,0,none⟩)) (ha : x.a = .ob ty cs) : x = obI b x.F ty cs := by
 cases x; simp only at hp ha; subst hp; subst ha; rfl
theorem Kst.call1 (h : Kst w μ I W) (hmix : P.follows .mixedOrders = true) (hx : ExtS P C) {k : ι} {b ty ty' : Nat} {F : List Nat} {cs cs' : List AV} (hk : I k = some (obI b F ty cs)) {bs : List AV} {vs : List Value} (hB : B2s μ (hf W) [] [] bs vs) {f : FuncId} {ra : List AV}
  (hev : evL P C f (.ob ty cs :: bs) = some (ra ++ [.ob ty' cs'])) {fn : Func} (hfn : P.funcs[f]? = some fn) (hsz : fn.resultTypes.size = ra.length) :
  Calls P f (.pointer (some ⟨b,0,none⟩) :: vs).toArray W fun e w' => ∃ (us : List Value) (μ' : Mu) (F1 : List Nat) (G1 : List Value) (F' : List Nat),e = .returned (retV us)∧B2s μ' (hf w') F1 G1 ra us∧MuLe μ μ'∧Kst w μ' (put I k (some (obI b F' ty' cs'))) w'∧F1.Nodup ∧
   (∀ x ∈ F1,(x ∈ F ∨ W.heap.size ≤ x)∧w.heap.size ≤ x∧∀ i y,put I k (some (obI b F' ty' cs')) i = some y → x ∉ y.F)∧KeptW F W w' := by
 have hB' : B2s μ (hf W) (foot [obI b F ty cs]) ([obI b F ty cs].map ItemO.p) (.ob ty cs :: bs) (.pointer (some ⟨b,0,none⟩) :: vs) := by
  have := B2s.cons (.o (h.ok k _ hk)) hB
  simpa [foot] using this
 refine (h.call hmix hx [k] (by simp) (xs := [obI b F ty cs]) (by unfold gets; simp [hk]) hev hfn hsz hB' (fun a ha => by simp at ha; exact ⟨_,_,ha⟩)).mono fun e w' he => ?_
 obtain ⟨us,μ',F1,G1,xs',rfl,hb,hm,hp,ha,hK,hn,hF,hk'⟩ := he
 obtain ⟨x,rfl⟩ := List.length_eq_one_iff.1 (show xs'.length = 1 by simpa using congrArg List.length hp)
 have hx := item_eq (List.cons.inj hp).1 (List.cons.inj ha).1
 rw [hx] at hK hF
 refine ⟨us,μ',F1,G1,x.F,rfl,hb,hm,hK,hn,fun y hy => ?_,hk'.mono fun z hz => .inl (by simpa [foot] using hz)⟩
 obtain ⟨q1,q2,q3⟩ := hF y hy
 exact ⟨q1.imp (fun q => by simpa [foot] using q) id,q2,q3⟩
theorem Kst.recast (h : Kst w μ I W) {i : ι} {x : ItemO} {a : AV} (hi : I i = some x) (hb : B1 μ (hf W) x.F [x.p] a x.p) : Kst w μ (put I i (some ⟨x.p,x.F,a⟩)) W :=
 h.adopt (y := ⟨x.p,x.F,a⟩) i hb (h.nd i x hi) (fun j y hj ne b hb hm => h.dj j i y x hj hi ne b hb hm) (h.new i x hi)
theorem dr_nilsz {n m : Nat} {v : Value} (h : DR μ (.lst true n []) v) : DR μ (.lst true m []) v := by
 cases h with
 | lst vals hnil hA hc hsz hcell hv => exact .lst (xs := []) vals hnil hA hc (fun e he => by cases he) (fun a ha k j hk => absurd hk (Nat.not_lt_zero _)) (fun k e j u hk => by simp at hk)
theorem puts_get {I : ι → Option ItemO} : ∀ {ks : List ι} {xs : List ItemO} {n : Nat} {k : ι} {x : ItemO},ks.Nodup → ks[n]? = some k → xs[n]? = some x → puts I ks xs k = some x
 | [],_,n,_,_,_,h,_ => by simp at h
 | _ :: _,[],n,_,_,_,_,h => by simp at h
 | k0 :: ks,x0 :: xs,0,k,x,hn,h1,h2 => by
  cases h1; cases h2; exact put_same _ _ _
 | k0 :: ks,x0 :: xs,n + 1,k,x,hn,h1,h2 => by
  obtain ⟨q1,q2⟩ := List.nodup_cons.1 hn
  exact put_get (puts_get q2 h1 h2) fun e => q1 (e ▸ List.mem_of_getElem? (l := ks) h1)
theorem puts_other {I : ι → Option ItemO} : ∀ {ks : List ι} {xs : List ItemO} {i : ι},i ∉ ks → puts I ks xs i = I i
 | [],_,i,_ => by rfl
 | _ :: _,[],i,_ => rfl
 | k0 :: ks,x0 :: xs,i,h => by
  rw [List.mem_cons,not_or] at h
  exact (put_ne _ _ h.1).trans (puts_other h.2)
end
end Go.Ev
namespace Go.Ev
open Go Go.Proofs
section
variable {P : Program} {ops : Array Oper} {Q : Exit → Act → World → Prop} {md : Region.Mode}
def unlR (n : Nat) (listed : Array Bool) : Nat := (List.range n).countP fun i => !listed.getD i true
theorem ready_in {i : Nat} {listed : Array Bool} (h : i ∈ Region.ready md ops listed) : i < ops.size∧listed.getD i true = false∧∀ o,ops[i]? = some o → ∀ e ∈ o.after.toList,Region.binds md e = true → listed.getD e.on false = true := by
 unfold Region.ready at h
 rw [List.mem_filter,Bool.and_eq_true] at h
 obtain ⟨h1,h2,h3⟩ := h
 refine ⟨List.mem_range.1 h1,by simpa using h2,fun o ho e he hb => ?_⟩
 rw [ho,Option.map_some,Option.getD_some,Array.all_eq_true'] at h3
 have := h3 e (by simpa using he)
 rw [hb] at this
 simpa using this
theorem countP_lt {p q : Nat → Bool} : ∀ {l : List Nat} {i : Nat},(∀ x,q x = true → p x = true) → i ∈ l → p i = true → q i = false → l.countP q + 1 ≤ l.countP p
 | [],i,_,h,_,_ => by cases h
 | x :: l,i,hq,h,h1,h2 => by
  rw [List.countP_cons,List.countP_cons]
  have hle : l.countP q ≤ l.countP p := List.countP_mono_left fun x _ hx => hq x hx
  rcases List.mem_cons.1 h with rfl | h
  ·rw [if_pos h1,if_neg (by rw [h2]; simp)]; omega
  ·have := countP_lt hq h h1 h2
   by_cases hx : q x = true
   ·rw [if_pos hx,if_pos (hq x hx)]; omega
   ·rw [if_neg hx]; split <;> omega
theorem getD_set {l : Array Bool} {i j : Nat} (d : Bool) : (l.setIfInBounds i true).getD j d = if i = j∧j < l.size then true else l.getD j d := by
 simp only [Array.getD_eq_getD_getElem?,Array.getElem?_setIfInBounds]
 by_cases e : i = j
 ·subst e
  by_cases h : i < l.size
  ·simp [h]
  ·simp [h]
 ·simp [e]
theorem wpAny_inv {Inv : Array Bool → Act → World → Prop} (hstep : ∀ listed a w i,listed.size = ops.size → Inv listed a w → i ∈ Region.ready md ops listed → wpOp P ops Q i (fun a' w' => Inv (listed.setIfInBounds i true) a' w') a w)
  (hdone : ∀ listed a w,listed.size = ops.size → Inv listed a w → Region.ready md ops listed = [] → Q .normal a w) : ∀ (fuel : Nat) (listed : Array Bool) (a : Act) (w : World),listed.size = ops.size → unlR ops.size listed ≤ fuel → Inv listed a w → wpAny P md ops Q fuel listed a w
 | 0,listed,a,w,hs,hf,hI => by
  have hr : Region.ready md ops listed = [] := by
   rw [List.eq_nil_iff_forall_not_mem]
   intro i hi
   obtain ⟨h1,h2,_⟩ := ready_in hi
   have : 0 < unlR ops.size listed := List.countP_pos_iff.2 ⟨i,List.mem_range.2 h1,by rw [h2]; rfl⟩
   omega
  exact ⟨hr,hdone listed a w hs hI hr⟩
 | fuel + 1,listed,a,w,hs,hf,hI => by
  refine ⟨hdone listed a w hs hI,fun i hi => wpOp_mono (fun a' w' h => ?_) (hstep listed a w i hs hI hi)⟩
  obtain ⟨h1,h2,_⟩ := ready_in hi
  have : unlR ops.size (listed.setIfInBounds i true) + 1 ≤ unlR ops.size listed := countP_lt (i := i) (fun x hx => by
   rw [getD_set] at hx
   split at hx
   ·cases hx
   ·exact hx) (List.mem_range.2 h1) (by rw [h2]; rfl) (by rw [getD_set,if_pos ⟨rfl,by omega⟩]; rfl)
  exact wpAny_inv hstep hdone fuel _ a' w' (by simpa using hs) (by omega) h
theorem all_listed (hback : ∀ (i : Nat) (o : Oper),ops[i]? = some o → ∀ e ∈ o.after.toList,e.on < i) {listed : Array Bool} (hs : listed.size = ops.size) (hr : Region.ready md ops listed = []) : ∀ i,i < ops.size → listed.getD i false = true := by
 intro i
 induction i using Nat.strongRecOn with
 | ind i ih =>
  intro hi
  have hin : i ∉ Region.ready md ops listed := by rw [hr]; exact List.not_mem_nil
  unfold Region.ready at hin
  rw [List.mem_filter] at hin
  have ho : ops[i]? = some ops[i] := Array.getElem?_eq_getElem hi
  have hafter : ((ops[i]?).map (·.after.all fun e => !Region.binds md e || listed.getD e.on false)).getD false = true := by
   rw [ho,Option.map_some,Option.getD_some,Array.all_eq_true']
   intro e he
   have := hback i _ ho e (by simpa using he)
   rw [ih e.on this (by omega)]
   simp
  rw [hafter] at hin
  have hl : listed[i]? = some listed[i] := Array.getElem?_eq_getElem (by omega)
  rw [Array.getD_eq_getD_getElem?,hl] at hin ⊢
  simp only [Option.getD_some,Bool.and_true,Bool.not_eq_true',not_and,List.mem_range] at hin ⊢
  simpa using hin hi
def actL (a0 : Act) (L : Nat → Bool) (vs : Nat → Value) : List (Nat × Option Tmp) → Act
 | [] => a0
 | (i,d) :: r => actL (if L i then a0.put d (vs i) else a0) L vs r
theorem actL_other {L : Nat → Bool} {vs : Nat → Value} {s : Tmp} : ∀ {ds : List (Nat × Option Tmp)} {a0 : Act},(∀ p ∈ ds,p.2 ≠ some s) → (actL a0 L vs ds).eval (.tmp s) = a0.eval (.tmp s)
 | [],_,_ => rfl
 | (i,d) :: r,a0,h => by
  unfold actL
  rw [actL_other fun p hp => h p (List.mem_cons_of_mem _ hp)]
  split
  ·exact Act.eval_put fun t ht e => h (i,d) (by simp) (by rw [ht]; cases e; rfl)
  ·rfl
theorem actL_size {L : Nat → Bool} {vs : Nat → Value} : ∀ {ds : List (Nat × Option Tmp)} {a0 : Act},(actL a0 L vs ds).tmps.size = a0.tmps.size
 | [],_ => rfl
 | (i,d) :: r,a0 => by
  unfold actL
  rw [actL_size]
  split
  ·cases d with
   | none => rfl
   | some d => exact Array.size_setIfInBounds ..
  ·rfl
theorem eval_put_same {a : Act} {s : Tmp} {v : Value} (h : s < a.tmps.size) : (a.put (some s) v).eval (.tmp s) = v := by
 show (a.tmps.setIfInBounds s v).getD s undef = v
 rw [Array.getD_eq_getD_getElem?,Array.getElem?_setIfInBounds]
 simp [h]
theorem actL_at {L : Nat → Bool} {vs : Nat → Value} {s : Tmp} {i : Nat} (hi : L i = true) : ∀ {ds : List (Nat × Option Tmp)} {a0 : Act},s < a0.tmps.size → (i,some s) ∈ ds → (∀ p ∈ ds,p.2 = some s → p.1 = i) → (actL a0 L vs ds).eval (.tmp s) = vs i
 | [],_,_,h,_ => by cases h
 | (j,d) :: r,a0,hs,h,hd => by
  unfold actL
  by_cases hr : (i,some s) ∈ r
  ·refine actL_at hi ?_ hr fun p hp => hd p (List.mem_cons_of_mem _ hp)
   split
   ·cases d with
    | none => exact hs
    | some d => show s < (a0.tmps.setIfInBounds _ _).size; rw [Array.size_setIfInBounds]; exact hs
   ·exact hs
  ·rcases List.mem_cons.1 h with e | h
   ·cases e
    rw [if_pos hi,actL_other fun p hp e => hr ?_]
    ·exact eval_put_same hs
    ·have := hd p (List.mem_cons_of_mem _ hp) e
     obtain ⟨p1,p2⟩ := p
     simp only at this e
     subst this; subst e; exact hp
   ·exact absurd h hr
theorem actL_defers {L : Nat → Bool} {vs : Nat → Value} : ∀ {ds : List (Nat × Option Tmp)} {a0 : Act},(actL a0 L vs ds).defers = a0.defers
 | [],_ => rfl
 | (i,d) :: r,a0 => by
  unfold actL
  rw [actL_defers]
  split
  ·cases d <;> rfl
  ·rfl
theorem act_ext {a b : Act} (hd : a.defers = b.defers) (hs : a.tmps.size = b.tmps.size) (h : ∀ s,s < a.tmps.size → a.eval (.tmp s) = b.eval (.tmp s)) : a = b := by
 cases a; cases b
 simp only at hd hs
 subst hd
 congr 1
 apply Array.ext hs
 intro i h1 h2
 have := h i h1
 simpa [Act.eval,h1,h2] using this
theorem put_eval_other {a : Act} {d : Option Tmp} {v : Value} {s : Tmp} (h : d ≠ some s) : (a.put d v).eval (.tmp s) = a.eval (.tmp s) :=
 Act.eval_put fun t ht e => h (by rw [ht]; cases e; rfl)
def updL (L : Nat → Bool) (i : Nat) : Nat → Bool := fun j => if j = i then true else L j
def updV (vs : Nat → Value) (i : Nat) (v : Value) : Nat → Value := fun j => if j = i then v else vs j
theorem actL_all {L : Nat → Bool} {vs : Nat → Value} : ∀ {ds : List (Nat × Option Tmp)} {a0 : Act},(∀ p ∈ ds,L p.1 = true) → actL a0 L vs ds = ds.foldl (fun a p => a.put p.2 (vs p.1)) a0
 | [],_,_ => rfl
 | (i,d) :: r,a0,h => by
  unfold actL
  rw [if_pos (h (i,d) (by simp)),actL_all fun p hp => h p (List.mem_cons_of_mem _ hp)]
  rfl
theorem actL_put {L : Nat → Bool} {vs : Nat → Value} {i : Nat} {d : Option Tmp} {v : Value} {ds : List (Nat × Option Tmp)} {a0 : Act} (hi : L i = false) (hm : (i,d) ∈ ds) (hd : ∀ p ∈ ds,∀ q ∈ ds,∀ s,p.2 = some s → q.2 = some s → p.1 = q.1) (hi1 : ∀ p ∈ ds,p.1 = i → p.2 = d) :
  (actL a0 L vs ds).put d v = actL a0 (updL L i) (updV vs i v) ds := by
 refine act_ext ?_ ?_ fun s hs => ?_
 ·rw [actL_defers]
  cases d with
  | none => exact actL_defers
  | some d => exact actL_defers
 ·rw [actL_size]
  cases d with
  | none => exact actL_size
  | some d => show (Array.setIfInBounds _ _ _).size = _; rw [Array.size_setIfInBounds]; exact actL_size
 ·have hs0 : s < a0.tmps.size := by
   cases d with
   | none => exact actL_size ▸ hs
   | some d => have hs : s < (Array.setIfInBounds _ _ _).size := hs; rw [Array.size_setIfInBounds,actL_size] at hs; exact hs
  by_cases hds : d = some s
  ·subst hds
   rw [eval_put_same (by rw [actL_size]; exact hs0),actL_at (i := i) (by unfold updL; rw [if_pos rfl]) hs0 hm fun p hp e => hd p hp _ hm s e rfl]
   unfold updV; rw [if_pos rfl]
  ·rw [put_eval_other hds]
   by_cases hex : ∃ p ∈ ds,p.2 = some s
   ·obtain ⟨⟨j,d'⟩,hp,e⟩ := hex
    simp only at e
    subst e
    have hj : j ≠ i := fun e => hds (hi1 _ hp e).symm
    by_cases hL : L j = true
    ·rw [actL_at (i := j) hL hs0 hp fun p hp' e => hd p hp' _ hp s e rfl,actL_at (i := j) (by unfold updL; rw [if_neg hj]; exact hL) hs0 hp fun p hp' e => hd p hp' _ hp s e rfl]
     unfold updV; rw [if_neg hj]
    ·have key : ∀ (M : Nat → Bool) (us : Nat → Value),M j = false → ∀ {l : List (Nat × Option Tmp)} {a1 : Act},(∀ p ∈ l,p ∈ ds) → (actL a1 M us l).eval (.tmp s) = a1.eval (.tmp s) := by
      intro M us hM l
      induction l with
      | nil => exact fun _ => rfl
      | cons p l ih =>
       intro a1 hl
       obtain ⟨p1,p2⟩ := p
       unfold actL
       rw [ih fun q hq => hl q (List.mem_cons_of_mem _ hq)]
       split
       ·rename_i hp1
        refine put_eval_other fun e => ?_
        have := hd _ (hl _ List.mem_cons_self) _ hp s e rfl
        simp only at this
        subst this
        rw [hM] at hp1; cases hp1
       ·rfl
     rw [key L vs (by simpa using hL) fun p hp => hp,key (updL L i) (updV vs i v) (by unfold updL; rw [if_neg hj]; simpa using hL) fun p hp => hp]
   ·have hex : ∀ p ∈ ds,p.2 ≠ some s := fun p hp e => hex ⟨p,hp,e⟩
    rw [actL_other hex,actL_other hex]
theorem region_inv {id : Nat} {a0 : Act} {w0 : World} (ds : List (Nat × Option Tmp)) (G : (Nat → Bool) → (Nat → Value) → World → Prop) (hmix : P.follows .mixedOrders = true) (hops : ∀ (i : Nat) (o : Oper),ops[i]? = some o → o.guard = none∧(i,o.dst) ∈ ds) (hd : ∀ p ∈ ds,∀ q ∈ ds,∀ s,p.2 = some s → q.2 = some s → p.1 = q.1) (hd1 : ∀ p ∈ ds,∀ q ∈ ds,p.1 = q.1 → p.2 = q.2)
  (h0 : ∃ vs,G (fun _ => false) vs w0.drew)
  (hstep : ∀ (L : Nat → Bool) (vs : Nat → Value) (w : World) (i : Nat) (o : Oper),ops[i]? = some o → L i = false → (∀ e ∈ o.after.toList,Region.binds .any e = true → L e.on = true) → G L vs w →
   Oper.wp P o (actL a0 L vs ds) w (fun a' w' => ∃ v,a' = (actL a0 L vs ds).put o.dst v∧G (updL L i) (updV vs i v) w') Q)
  (hdone : ∀ L vs w,(∀ i,i < ops.size → L i = true) → G L vs w → Q .normal (actL a0 L vs ds) w) (hback : ∀ (i : Nat) (o : Oper),ops[i]? = some o → ∀ e ∈ o.after.toList,e.on < i) : (Code.region id ops true).wp P Q a0 w0 := by
 refine wp_region_any hmix (wpAny_inv (Inv := fun listed a w => ∃ vs,a = actL a0 (fun i => listed.getD i false) vs ds∧G (fun i => listed.getD i false) vs w) (fun listed a w i hs hI hi => ?_) (fun listed a w hs hI hr => ?_) _ _ _ _ (by simp) ?_ ?_)
 ·obtain ⟨vs,rfl,hG⟩ := hI
  obtain ⟨h1,h2,h3⟩ := ready_in hi
  have ho : ops[i]? = some ops[i] := Array.getElem?_eq_getElem h1
  obtain ⟨g1,g2⟩ := hops i _ ho
  have hLi : listed.getD i false = false := by
   rw [Array.getD_eq_getD_getElem?] at h2 ⊢
   cases e : listed[i]? with
   | none => rw [e] at h2; cases h2
   | some b => rw [e] at h2; exact h2
  have hup : (fun j => (listed.setIfInBounds i true).getD j false) = updL (fun j => listed.getD j false) i := by
   funext j
   rw [getD_set]
   unfold updL
   by_cases e : i = j
   ·rw [if_pos ⟨e,by omega⟩,if_pos e.symm]
   ·rw [if_neg fun h => e h.1,if_neg fun h => e h.symm]
  refine wpOp_step ho fun K' hK' => ?_
  have hw : Region.wanted ops[i] (yielded ops (actL a0 (fun i => listed.getD i false) vs ds).tmps) = true := by simp [Region.wanted,g1]
  rw [if_pos hw]
  refine Oper.wp_mono (fun a' w' hh => hK' a' w' ?_) (hstep _ vs w i _ ho hLi (h3 _ ho) hG)
  obtain ⟨v,rfl,hG'⟩ := hh
  refine ⟨updV vs i v,?_,by rw [hup]; exact hG'⟩
  rw [hup]
  exact actL_put hLi g2 hd fun p hp e => hd1 p hp _ g2 e
 ·obtain ⟨vs,rfl,hG⟩ := hI
  exact hdone _ vs w (all_listed hback hs hr) hG
 ·unfold unlR
  exact Nat.le_trans List.countP_le_length (by simp)
 ·obtain ⟨vs,h0⟩ := h0
  have hf : (fun i => (Array.replicate ops.size false).getD i false) = fun _ : Nat => false := by
   funext i
   rw [Array.getD_eq_getD_getElem?,Array.getElem?_replicate]
   split <;> rfl
  refine ⟨vs,?_,by rw [hf]; exact h0⟩
  rw [hf]
  clear h0 hstep hdone hback hops hd hd1
  induction ds with
  | nil => rfl
  | cons p l ih => obtain ⟨i,d⟩ := p; unfold actL; exact ih
end
end Go.Ev
namespace Go.Ev
open Go Go.Proofs
section
open Go.Shelf Go.Lib Go.RowKit
theorem app_all {P : Program} {μ : Mu} {t ety : Nat} {z : Value} {I : TypeInfo} (ht : P.underlying t = some (.slice ety)) (hI : P.info? ety = some I) (hz : I.zero = some z) (hs : I.size = 1) (hb1 : 0 < I.bytes) (hb2 : I.bytes ≤ 1000) (hzs : z.cells.size = 1)
  {W : World} {F : List Nat} {n : Bool} {T : Nat} {xs : List (List AV)} {A : Option Addr} {l c : Nat} (hb : B0 μ (hf W) F (.ow n T 1 xs) (.slice A l c)) (hl : 0 < l∧l ≤ 100000) (hfl : flatC (.ow n T 1 xs) = true) (hmu : ∀ b o,μ b = some o → b < W.heap.size) :
  ∃ (G : Nat) (W2 : World),(∀ ty,(Builtin.append_ #[t,t] ty #[.slice none 0 0,.slice A l c]).run P W = .ok (.slice (some ⟨W.heap.size,0,none⟩) l G) W2)∧KeptW [] W W2∧B0 μ (hf W2) [W.heap.size] (.ow false ety 1 xs) (.slice (some ⟨W.heap.size,0,none⟩) l G) := by
 obtain ⟨A',c',e,g1,g2,g3,g4⟩ := b0_row hb
 cases e
 cases A with
 | none => obtain ⟨h1,_⟩ := g2 rfl; rw [h1] at hl; simp at hl
 | some a =>
  obtain ⟨vb,cur,fz,rfl,rfl,k1,_,k3,k4⟩ := g4 a rfl
  have hcl : cur.toList.length = cur.size := Array.length_toList
  have hlen : ∀ w : World,(Builtin.lenOf (.slice (some ⟨vb,0,none⟩) xs.length c)).run P w = .ok xs.length w := fun _ => rfl
  have hfirst : (Builtin.firstCells I.size xs.length (.slice (some ⟨vb,0,none⟩) xs.length c)).run P W.drew = .ok (cur.toList.take xs.length).toArray W.drew := by
   refine run_firstCells_some _ I.size xs.length ⟨vb,0,none⟩ xs.length c (cur.toList.take xs.length) (by rw [List.length_take,hcl,hs,Nat.mul_one]; omega) fun j v hj => ?_
   rw [Addr.add_lit,Nat.zero_add]
   rw [List.getElem?_take] at hj
   split at hj
   ·show W.cell? _ = _
    simp only [World.cell?,k1]
    simpa using hj
   ·cases hj
  have hold : (Builtin.firstCells I.size 0 (.slice none 0 0)).run P W.drew = .ok (#[] : Array Value) W.drew := rfl
  have hm : (0 + xs.length) * I.bytes ≤ 100000 * 1000 := Nat.mul_le_mul (by omega) hb2
  have hrun := fun ty => run_app_grow (P := P) (ty := ty) ht ht rfl hI hz hb1 (base := none) (sLen := 0) (sCap := 0) (olds := []) (news := cur.toList.take xs.length) hlen hfirst hold (by omega) (by omega)
  have hge : 0 + xs.length ≤ grownCap W (0 + xs.length) 0 ety := grownCap_ge _ _ _ _
  rw [Nat.zero_add] at hrun hge
  obtain ⟨G,hG⟩ : ∃ G,grownCap W xs.length 0 ety = G := ⟨_,rfl⟩
  rw [hG] at hrun hge
  obtain ⟨R,hR⟩ : ∃ R,([] ++ cur.toList.take xs.length ++ (Builtin.zeroCells z.cells (G - xs.length)).toList).toArray = R := ⟨_,rfl⟩
  rw [hR] at hrun
  have ltk : (cur.toList.take xs.length).length = xs.length := by rw [List.length_take,hcl]; omega
  have hRs : R.size = G := by
   have hz2 : (Builtin.zeroCells z.cells (G - xs.length)).toList.length = G - xs.length := by rw [Array.length_toList,size_zeroCells,hzs,Nat.mul_one]
   rw [← hR,List.size_toArray,List.length_append,List.length_append,ltk,hz2,List.length_nil]
   omega
  refine ⟨G,_,hrun,⟨rfl,rfl,rfl,?_,fun b hb _ => Ev.alloc_old W.drew _ b hb⟩,.ow ⟨(0,0),Ev.alloc_new W.drew _,.inl rfl⟩ ?_ hge (by rw [hRs]; omega) ⟨k4.1,fun i e j u he hu => ?_⟩⟩
  ·show W.heap.size ≤ (W.heap.push _).size
   rw [Array.size_push]; omega
  ·cases e : μ W.heap.size with
   | none => rfl
   | some o => have := hmu _ _ e; omega
  ·obtain ⟨x,x1,x2⟩ := k4.2 i e j u he hu
   have hi := (List.getElem?_eq_some_iff.1 he).1
   have hj := (List.getElem?_eq_some_iff.1 hu).1
   rw [k4.1 e (List.mem_of_getElem? he)] at hj
   refine ⟨x,?_,x2⟩
   rw [← hR,List.getElem?_toArray,List.nil_append,List.getElem?_append_left (by rw [ltk]; omega),List.getElem?_take,if_pos (by omega),Array.getElem?_toList]
   exact x1
end
end Go.Ev
