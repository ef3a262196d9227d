/- What an operation looks at and what it changes: elsewhere the store does not matter to it. -/
import Derived.Test.YtokagdgcfmjlnaaEv17
set_option linter.all false
namespace Go.Ev

abbrev pr (a : AV) (s : Store) : Option (AV × Store) := some (a, s)
theorem cond_nat {α R : Type} {c : Bool} {x y : Option R} {x' y' : Option α} {f : α → Option R} (h : x = x'.bind f) (h' : y = y'.bind f) : cond c x y = (cond c x' y').bind f := by
  cases c
  · exact h'
  · exact h

theorem cond_any {α : Type} {c : Bool} {x y z : α} (h : cond c x y = z) : (c = true ∧ x = z) ∨ (c = false ∧ y = z) := by
  cases c
  · exact .inr ⟨rfl, h⟩
  · exact .inl ⟨rfl, h⟩

section nat
variable {R : Type} {P : Program} {σ : Store} {K : AV → Store → Option R}
theorem newBox_nat (t : TypeId) (cs : List AV) : newBox P σ K t cs = (newBox P σ pr t cs).bind fun p => K p.1 p.2 := by
  unfold newBox; repeat' first | rfl | apply cond_nat | split
theorem evAlloc_nat (t : TypeId) : evAlloc P σ K t = (evAlloc P σ pr t).bind fun p => K p.1 p.2 := by
  unfold evAlloc; repeat' first | rfl | exact newBox_nat _ _ | apply cond_nat | split
theorem evBox_nat (t : TypeId) (a : AV) : evBox P σ K t a = (evBox P σ pr t a).bind fun p => K p.1 p.2 := by
  unfold evBox; repeat' first | rfl | exact newBox_nat _ _ | apply cond_nat | split
theorem evBuild_nat (t : TypeId) (ps : List (Nat × AV)) : evBuild P σ K t ps = (evBuild P σ pr t ps).bind fun p => K p.1 p.2 := by
  unfold evBuild; repeat' first | rfl | apply cond_nat | split
theorem evBuildSlice_nat (t : TypeId) (m : Nat) (ps : List (Nat × AV)) : evBuildSlice P σ K t m ps = (evBuildSlice P σ pr t m ps).bind fun p => K p.1 p.2 := by
  unfold evBuildSlice; repeat' first | rfl | apply cond_nat | split
theorem evLoad_nat (t : TypeId) (a : AV) : evLoad P σ K t a = (evLoad P σ pr t a).bind fun p => K p.1 p.2 := by
  unfold evLoad; repeat' first | rfl | apply cond_nat | split
theorem evStore_nat {L : Store → Option R} (t : TypeId) (a x : AV) : evStore P σ t a x L = (evStore P σ t a x fun s => pr .un s).bind fun p => L p.2 := by
  unfold evStore; repeat' first | rfl | apply cond_nat | split
theorem evBin_nat (op : BinOp) (t : TypeId) (a b : AV) : evBin P σ K op t a b = (evBin P σ pr op t a b).bind fun p => K p.1 p.2 := by
  unfold evBin; repeat' first | rfl | apply cond_nat | split
theorem evUn_nat (op : UnOp) (a : AV) : evUn σ K op a = (evUn σ pr op a).bind fun p => K p.1 p.2 := by
  unfold evUn; repeat' first | rfl | apply cond_nat | split
theorem evMark_nat (s t : TypeId) (a : AV) : evMark P σ K s t a = (evMark P σ pr s t a).bind fun p => K p.1 p.2 := by
  unfold evMark; repeat' first | rfl | apply cond_nat | split
theorem evConv_nat (s t : TypeId) (a : AV) : evConv P σ K s t a = (evConv P σ pr s t a).bind fun p => K p.1 p.2 := by
  unfold evConv; repeat' first | rfl | apply cond_nat | split
theorem evSlice_nat (t : TypeId) (a : AV) (lo hi : Option AV) : evSlice P σ K t a lo hi = (evSlice P σ pr t a lo hi).bind fun p => K p.1 p.2 := by
  unfold evSlice; repeat' first | rfl | apply cond_nat | split
theorem evFieldAddr_nat (t : TypeId) (a : AV) (f : Nat) : evFieldAddr P σ K t a f = (evFieldAddr P σ pr t a f).bind fun p => K p.1 p.2 := by
  unfold evFieldAddr; repeat' first | rfl | apply cond_nat | split
theorem evField_nat (t : TypeId) (a : AV) (f : Nat) : evField P σ K t a f = (evField P σ pr t a f).bind fun p => K p.1 p.2 := by
  unfold evField; repeat' first | rfl | apply cond_nat | split
theorem evIndexAddr_nat (t : TypeId) (a i : AV) (c : Bool) : evIndexAddr P σ K t a i c = (evIndexAddr P σ pr t a i c).bind fun p => K p.1 p.2 := by
  unfold evIndexAddr; repeat' first | rfl | apply cond_nat | split
theorem evIndex_nat (t : TypeId) (a i : AV) (c : Bool) : evIndex P σ K t a i c = (evIndex P σ pr t a i c).bind fun p => K p.1 p.2 := by
  unfold evIndex; repeat' first | rfl | apply cond_nat | split
theorem evMakeSlice_nat (t : TypeId) (a b : AV) : evMakeSlice P σ K t a b = (evMakeSlice P σ pr t a b).bind fun p => K p.1 p.2 := by
  unfold evMakeSlice; repeat' first | rfl | apply cond_nat | split
theorem evLen_nat (t : TypeId) (a : AV) : evLen P σ K t a = (evLen P σ pr t a).bind fun p => K p.1 p.2 := by
  unfold evLen; repeat' first | rfl | apply cond_nat | split
theorem evAppend_nat (t u : TypeId) (a b : AV) : evAppend P σ K t u a b = (evAppend P σ pr t u a b).bind fun p => K p.1 p.2 := by
  unfold evAppend; repeat' first | rfl | apply cond_nat | split
theorem evCopy_nat (t : TypeId) (a b : AV) : evCopy P σ K t a b = (evCopy P σ pr t a b).bind fun p => K p.1 p.2 := by
  unfold evCopy; repeat' first | rfl | apply cond_nat | split
theorem evOp_nat {C : Cfg} {call : CallT} {inl : InlT} {o : Oper} {fr : List (Nat × AV)} (hf : isFn o = false) : evOp P C call inl o fr σ K = (evOp P C call inl o fr σ pr).bind fun p => K p.1 p.2 := by
  unfold evOp
  dsimp only
  repeat' first
    | rfl | exact evAlloc_nat _ | exact evBox_nat _ _ | exact evBuild_nat _ _ | exact evBuildSlice_nat _ _ _ | exact evLoad_nat _ _ | exact evStore_nat _ _ _ | exact evBin_nat _ _ _ _ | exact evUn_nat _ _
    | exact evMark_nat _ _ _ | exact evConv_nat _ _ _ | exact evSlice_nat _ _ _ _ | exact evFieldAddr_nat _ _ _ | exact evField_nat _ _ _ | exact evIndexAddr_nat _ _ _ _ | exact evIndex_nat _ _ _ _ | exact evMakeSlice_nat _ _ _
    | exact evLen_nat _ _ | exact evAppend_nat _ _ _ _ | exact evCopy_nat _ _ _ | apply cond_nat | split
    | (simp_all [isFn]; done)
end nat

/-- Of the store s, which came of another one: what was changed and what is new, laid over τ. -/
def layL (s acc : Store) (l : Nat) : Store := match s[l]? with | some b => acc.set l b | none => acc
def mixL (τ s : Store) (W : List Nat) : Store := W.foldl (layL s) τ ++ s.drop τ.length

section mix
variable {σ τ : Store} (h : τ.length = σ.length)
include h
theorem mix_nil : mixL τ σ [] = τ := by simp [mixL, h]
theorem mix_app (ν : Store) : mixL τ (σ ++ ν) [] = τ ++ ν := by simp [mixL, h]
theorem mix_set {l : Nat} {b0 : Blk} (hl : σ[l]? = some b0) (b : Blk) : mixL τ (σ.set l b) [l] = τ.set l b := by
  have hlt : l < σ.length := (List.getElem?_eq_some_iff.1 hl).1
  simp [mixL, layL, h, hlt]
theorem mix_set_app {l : Nat} {b0 : Blk} (hl : σ[l]? = some b0) (b : Blk) (ν : Store) : mixL τ (σ.set l b ++ ν) [l] = τ.set l b ++ ν := by
  have hlt : l < σ.length := (List.getElem?_eq_some_iff.1 hl).1
  have h1 : (σ.set l b ++ ν)[l]? = some b := by rw [List.getElem?_append_left (by simpa using hlt)]; simp [hlt]
  have h2 : (σ.set l b ++ ν).drop σ.length = ν := by
    have : σ.length = (σ.set l b).length := by simp
    rw [this]; simp
  simp only [mixL, layL, List.foldl_cons, List.foldl_nil, h1, h, h2]
end mix

section frame
variable {R : Type} {P : Program} {σ τ : Store} {K : AV → Store → Option R} (h : τ.length = σ.length)
include h

theorem newBox_frame (ν : Store) (t : TypeId) (cs : List AV) : newBox P (τ ++ ν) K t cs = newBox P (σ ++ ν) (fun a s => K a (mixL τ s [])) t cs := by
  unfold newBox
  simp only [List.append_assoc, mix_app h, List.length_append, h]
theorem zeros_frame : ∀ (ks : List CK) (cs : List Value) (ν : Store), zeros P ks cs (τ ++ ν) = (zeros P ks cs (σ ++ ν)).map fun p => (p.1, mixL τ p.2 [])
  | [], [], ν => by simp [zeros, mix_app h]
  | [], _ :: _, ν => rfl
  | k :: ks, [], ν => by cases k <;> rfl
  | k :: ks, c :: cs, ν => by
    have ih := fun ν => zeros_frame ks cs ν
    have hl : (τ ++ ν).length = (σ ++ ν).length := by simp [h]
    unfold zeros
    split
    · rename_i e sz
      have := ih (ν ++ [⟨1, e, P.cellsOf e, false, []⟩])
      simp only [phantom, List.append_assoc, hl] at this ⊢
      rw [this]
      cases zeros P ks cs (σ ++ (ν ++ [⟨1, e, P.cellsOf e, false, []⟩])) <;> rfl
    · rfl
    · rfl
    · rw [ih ν]
      cases okC (.v c) with
      | false => rfl
      | true => cases zeros P ks cs (σ ++ ν) <;> rfl
theorem zeroOf_frame (t : TypeId) : zeroOf P t τ = (zeroOf P t σ).map fun p => (p.1, mixL τ p.2 []) := by
  unfold zeroOf
  split
  · rfl
  · rename_i z _
    have := zeros_frame (P := P) h (cks P t) z.cells.toList []
    simpa using this
theorem zeroOf_app {t : TypeId} {r : List AV} {s : Store} (hz : zeroOf P t σ = some (r, s)) : ∃ ν, s = σ ++ ν := by
  obtain ⟨_, _, _, _, hz⟩ := zeroOf_spec hz
  exact zeros_app _ _ hz
theorem evAlloc_frame (t : TypeId) : evAlloc P τ K t = evAlloc P σ (fun a s => K a (mixL τ s [])) t := by
  unfold evAlloc
  rw [zeroOf_frame h]
  cases hz : zeroOf P t σ with
  | none => rfl
  | some p =>
    obtain ⟨cs, s⟩ := p
    obtain ⟨ν, rfl⟩ := zeroOf_app h hz
    simp only [Option.map_some, mix_app h]
    exact newBox_frame h ν t cs
theorem evBox_frame (t : TypeId) (a : AV) : evBox P τ K t a = evBox P σ (fun a s => K a (mixL τ s [])) t a := by
  unfold evBox
  split
  · rfl
  · have := newBox_frame (P := P) (K := K) h [] t ‹List AV›
    rw [List.append_nil, List.append_nil] at this
    rw [this]
theorem evBuild_frame (t : TypeId) (ps : List (Nat × AV)) : evBuild P τ K t ps = evBuild P σ (fun a s => K a (mixL τ s [])) t ps := by
  unfold evBuild
  rw [zeroOf_frame h]
  cases hz : zeroOf P t σ with
  | none => rfl
  | some p =>
    obtain ⟨cs, s⟩ := p
    obtain ⟨ν, rfl⟩ := zeroOf_app h hz
    simp only [Option.map_some, mix_app h]

/-- A slice of the call's own lies from n on. -/
def okF (n : Nat) : AV → Prop
  | .sl _ l _ _ => n ≤ l
  | _ => True
omit h in
theorem get_hi {σ ν : Store} {l : Nat} (hl : σ.length ≤ l) : (σ ++ ν)[l]? = ν[l - σ.length]? := List.getElem?_append_right hl
omit h in
theorem set_hi {σ ν : Store} {l : Nat} (hl : σ.length ≤ l) (b : Blk) : (σ ++ ν).set l b = σ ++ ν.set (l - σ.length) b := List.set_append_right _ _ hl
theorem frz_frame (ν : Store) (c : AV) (hc : okF σ.length c) : (frz (τ ++ ν) c = none ∧ frz (σ ++ ν) c = none) ∨ ∃ r ν', frz (σ ++ ν) c = some (r, σ ++ ν') ∧ frz (τ ++ ν) c = some (r, τ ++ ν') := by
  cases c with
  | v x => exact .inr ⟨_, ν, rfl, rfl⟩
  | lst n sz xs => exact .inr ⟨_, ν, rfl, rfl⟩
  | sl n l off cut =>
    have hl : σ.length ≤ l := hc
    have hl' : τ.length ≤ l := by omega
    simp only [frz, get_hi hl, get_hi hl', set_hi hl, set_hi hl', h]
    cases ν[l - σ.length]? with
    | none => exact .inl ⟨rfl, rfl⟩
    | some b =>
      simp only
      cases (Nat.beq b.mode 0 || b.obj) with
      | true => exact .inl ⟨rfl, rfl⟩
      | false => exact .inr ⟨_, _, rfl, rfl⟩
  | _ => exact .inl ⟨rfl, rfl⟩
theorem frzL_frame : ∀ (cs : List AV) (ν : Store), (∀ c ∈ cs, okF σ.length c) → (frzL (τ ++ ν) cs = none ∧ frzL (σ ++ ν) cs = none) ∨ ∃ r ν', frzL (σ ++ ν) cs = some (r, σ ++ ν') ∧ frzL (τ ++ ν) cs = some (r, τ ++ ν')
  | [], ν, _ => .inr ⟨_, ν, rfl, rfl⟩
  | c :: cs, ν, hc => by
    simp only [frzL]
    rcases frz_frame h ν c (hc c (by simp)) with ⟨h1, h2⟩ | ⟨r, ν', h1, h2⟩
    · rw [h1, h2]; exact .inl ⟨rfl, rfl⟩
    · rw [h1, h2]
      simp only
      rcases frzL_frame cs ν' (fun x hx => hc x (by simp [hx])) with ⟨h3, h4⟩ | ⟨r', ν'', h3, h4⟩
      · rw [h3, h4]; exact .inl ⟨rfl, rfl⟩
      · rw [h3, h4]; exact .inr ⟨_, _, rfl, rfl⟩
theorem frzP_frame (e : TypeId) (cs : List AV) (ν : Store) (hc : ∀ c ∈ cs, okF σ.length c) : (frzP P e (τ ++ ν) cs = none ∧ frzP P e (σ ++ ν) cs = none) ∨ ∃ r ν', frzP P e (σ ++ ν) cs = some (r, σ ++ ν') ∧ frzP P e (τ ++ ν) cs = some (r, τ ++ ν') := by
  unfold frzP
  cases plainT P e with
  | true =>
    cases cs.all isV with
    | true => exact .inr ⟨_, _, rfl, rfl⟩
    | false => exact .inl ⟨rfl, rfl⟩
  | false => exact frzL_frame h cs ν hc
omit h in
theorem zeros_ok : ∀ (ks : List CK) (cs : List Value) (σ : Store) (n : Nat) (r : List AV) (s : Store), n ≤ σ.length → zeros P ks cs σ = some (r, s) → ∀ c ∈ r, okF n c
  | [], [], σ, n, r, s, _, hz => by simp [zeros] at hz; rw [hz.1]; simp
  | [], _ :: _, _, _, _, _, _, hz => by simp [zeros] at hz
  | k :: ks, [], σ, n, r, s, _, hz => by cases k <;> simp [zeros] at hz
  | k :: ks, c :: cs, σ, n, r, s, hn, hz => by
    unfold zeros at hz
    split at hz
    · split at hz
      · cases hz
      · rename_i r' s' hz'
        simp only [Option.some.injEq, Prod.mk.injEq] at hz
        rw [← hz.1]
        intro c hc
        rcases List.mem_cons.1 hc with hc | hc
        · subst hc; exact hn
        · exact zeros_ok ks cs _ n r' s' (by simp [phantom]; omega) hz' c hc
    · cases hz
    · cases hz
    · cases ho : okC (.v c) with
      | false => rw [ho] at hz; cases hz
      | true =>
        rw [ho] at hz
        simp only [Bool.not_true, cond_false] at hz
        split at hz
        · cases hz
        · rename_i r' s' hz'
          simp only [Option.some.injEq, Prod.mk.injEq] at hz
          rw [← hz.1]
          intro x hc
          rcases List.mem_cons.1 hc with hc | hc
          · subst hc; trivial
          · exact zeros_ok ks cs _ n r' s' hn hz' x hc
omit h in
theorem notSl_ok {n : Nat} {c : AV} (hc : notSl c = true) : okF n c := by
  cases c with
  | sl => cases hc
  | _ => trivial
omit h in
theorem fill_ok {n : Nat} {place : Nat → Option (Nat × Nat)} : ∀ (ps : List (Nat × AV)) (cs r : List AV), (∀ c ∈ cs, okF n c) → (∀ p ∈ ps, noSl p.2 = true) → fillAV place cs ps = some r → ∀ c ∈ r, okF n c
  | [], cs, r, hc, _, hf => by simp [fillAV] at hf; rw [← hf]; exact hc
  | (i, a) :: ps, cs, r, hc, hp, hf => by
    simp only [fillAV] at hf
    split at hf
    · cases hf
    · split at hf
      · cases hf
      · rename_i pc hpc
        obtain ⟨_, hf⟩ := cond_some hf
        refine fill_ok ps _ r (fun c hcc => ?_) (fun p hpp => hp p (by simp [hpp])) hf
        have hno := hp (i, a) (by simp)
        simp only [noSl, hpc, List.all_eq_true] at hno
        rcases List.mem_append.1 hcc with h1 | h1
        · rcases List.mem_append.1 h1 with h1 | h1
          · exact hc c (List.mem_of_mem_take h1)
          · exact notSl_ok (hno c h1)
        · exact hc c (List.mem_of_mem_drop h1)
theorem evBuildSlice_frame (t : TypeId) (m : Nat) (ps : List (Nat × AV)) (hp : ∀ p ∈ ps, noSl p.2 = true) : evBuildSlice P τ K t m ps = evBuildSlice P σ (fun a s => K a (mixL τ s [])) t m ps := by
  unfold evBuildSlice
  split
  · rw [zeroOf_frame h]
    cases hz : zeroOf P _ σ with
    | none => rfl
    | some p =>
      obtain ⟨z, s⟩ := p
      obtain ⟨ν, rfl⟩ := zeroOf_app h hz
      simp only [Option.map_some, mix_app h]
      split
      · rfl
      · rename_i cs hcs
        obtain ⟨_, _, _, _, hz'⟩ := zeroOf_spec hz
        have hzo := zeros_ok _ _ _ _ _ _ (Nat.le_refl σ.length) hz'
        have hok := fill_ok (n := σ.length) ps _ cs (fun c hc => by
          obtain ⟨l, hl, hc⟩ := List.mem_flatten.1 hc
          rw [(List.mem_replicate.1 hl).2] at hc
          exact hzo c hc) hp hcs
        rcases frzP_frame (P := P) h _ cs ν hok with ⟨h1, h2⟩ | ⟨r, ν', h1, h2⟩
        · rw [h1, h2]
        · rw [h1, h2]
          simp only [List.append_assoc, mix_app h, List.length_append, h]
  · rfl
theorem evMakeSlice_frame (t : TypeId) (a b : AV) : evMakeSlice P τ K t a b = evMakeSlice P σ (fun a s => K a (mixL τ s [])) t a b := by
  unfold evMakeSlice
  split
  · rw [zeroOf_frame h]
    cases hz : zeroOf P _ σ with
    | none => rfl
    | some p =>
      obtain ⟨z, s⟩ := p
      obtain ⟨ν, rfl⟩ := zeroOf_app h hz
      simp only [Option.map_some, mix_app h]
      obtain ⟨_, _, _, _, hz'⟩ := zeroOf_spec hz
      rcases frzP_frame (P := P) h _ z ν (zeros_ok _ _ _ _ _ _ (Nat.le_refl σ.length) hz') with ⟨h1, h2⟩ | ⟨r, ν', h1, h2⟩
      · rw [h1, h2]
      · rw [h1, h2]
        simp only [List.append_assoc, mix_app h, List.length_append, h]
  · rfl
theorem evLoad_frame (t : TypeId) (a : AV) (hag : ∀ l ∈ blkOf a, τ[l]? = σ[l]?) : evLoad P τ K t a = evLoad P σ (fun a s => K a (mixL τ s [])) t a := by
  unfold evLoad
  simp only [mix_nil h]
  cases a with
  | ptr l i j => simp only [hag l (by simp [blkOf])]
  | px l j n i => simp only [hag l (by simp [blkOf])]
  | _ => rfl
omit h in
theorem slLen_frame {a : AV} (hag : ∀ l ∈ blkOf a, τ[l]? = σ[l]?) : slLen τ a = slLen σ a := by
  cases a with
  | sl n l o c => simp only [slLen, hag l (by simp [blkOf])]
  | _ => rfl
omit h in
theorem slXs_frame {a : AV} (hag : ∀ l ∈ blkOf a, τ[l]? = σ[l]?) : slXs τ a = slXs σ a := by
  cases a with
  | sl n l o c => simp only [slXs, hag l (by simp [blkOf])]
  | _ => rfl
omit h in
theorem appXs_frame {a : AV} (hag : ∀ l ∈ blkOf a, τ[l]? = σ[l]?) : appXs τ a = appXs σ a := by
  cases a with
  | sl n l o c => simp only [appXs, hag l (by simp [blkOf])]
  | v x => cases x <;> rfl
  | _ => rfl
theorem evLen_frame (t : TypeId) (a : AV) (hag : ∀ l ∈ blkOf a, τ[l]? = σ[l]?) : evLen P τ K t a = evLen P σ (fun a s => K a (mixL τ s [])) t a := by
  have hs : slLen τ a = slLen σ a := slLen_frame hag
  unfold evLen
  simp only [mix_nil h]
  repeat' first | rfl | split | (simp only [hs] at *; done) | simp_all
theorem evIndexAddr_frame (t : TypeId) (a i : AV) (c : Bool) (hag : ∀ l ∈ blkOf a, τ[l]? = σ[l]?) : evIndexAddr P τ K t a i c = evIndexAddr P σ (fun a s => K a (mixL τ s [])) t a i c := by
  unfold evIndexAddr
  simp only [mix_nil h, slLen_frame hag]
  cases a with
  | ptr l i j => simp only [hag l (by simp [blkOf])]
  | sl n l o c => simp only [hag l (by simp [blkOf])]
  | _ => rfl
theorem evSlice_frame (t : TypeId) (a : AV) (lo hi : Option AV) (hag : ∀ l ∈ blkOf a, τ[l]? = σ[l]?) : evSlice P τ K t a lo hi = evSlice P σ (fun a s => K a (mixL τ s [])) t a lo hi := by
  unfold evSlice
  simp only [mix_nil h]
  split <;> first | rfl | simp only [slLen, hag _ (List.mem_singleton.2 rfl)]
theorem evConv_frame (s t : TypeId) (a : AV) (hag : ∀ l ∈ blkOf a, τ[l]? = σ[l]?) : evConv P τ K s t a = evConv P σ (fun a s => K a (mixL τ s [])) s t a := by
  have hs : slXs τ a = slXs σ a := slXs_frame hag
  unfold evConv
  simp only [mix_nil h, mix_app h, h]
  split <;> first | rfl | simp only [hs]
theorem evMark_frame (s t : TypeId) (a : AV) (hag : ∀ l ∈ blkOf a, τ[l]? = σ[l]?) : evMark P τ K s t a = evMark P σ (fun a s => K a (mixL τ s [])) s t a := by
  unfold evMark
  simp only [mix_nil h]
  split
  · rename_i hd; rw [hag _ (by simp [blkOf])]
  · rfl
theorem evAppend_frame (t u : TypeId) (s x : AV) (hag : ∀ l ∈ blkOf s ++ blkOf x, τ[l]? = σ[l]?) : evAppend P τ K t u s x = evAppend P σ (fun a s' => K a (mixL τ s' (blkOf s))) t u s x := by
  have hx : appXs τ x = appXs σ x := appXs_frame fun l hl => hag l (by simp [hl])
  unfold evAppend
  rw [hx]
  cases s with
  | lst b sz xs => cases b <;> first | rfl | (simp only [blkOf, mix_app h, h]; done) | (simp only [blkOf, mix_app h, h]; rfl)
  | sl b l o c =>
    have hl := hag l (by simp [blkOf])
    cases hb : σ[l]? with
    | none => simp only [hl, hb]
    | some k => simp only [blkOf, hl, hb, h, mix_set_app h hb]
  | _ => rfl
theorem evCopy_frame (t : TypeId) (d x : AV) (hag : ∀ l ∈ blkOf d ++ blkOf x, τ[l]? = σ[l]?) : evCopy P τ K t d x = evCopy P σ (fun a s' => K a (mixL τ s' (blkOf d))) t d x := by
  have hx : appXs τ x = appXs σ x := appXs_frame fun l hl => hag l (by simp [hl])
  have hd : slLen τ d = slLen σ d := slLen_frame fun l hl => hag l (by simp [hl])
  unfold evCopy
  rw [hx, hd]
  cases d with
  | sl b l o c =>
    have hl := hag l (by simp [blkOf])
    split
    · cases hap : appXs σ x with
      | none => rfl
      | some p =>
        obtain ⟨ysz, ys⟩ := p
        cases hb : σ[l]? with
        | none => simp only [hl, hb]
        | some k =>
          simp only [hl, hb, blkOf]
          cases slLen σ (.sl b l o c) with
          | none => rfl
          | some n => simp only [mix_set h hb]
    · rfl
  | _ => split <;> first | rfl | (cases appXs σ x <;> rfl)
omit h in
theorem frzL_no : ∀ (cs : List AV) (σ : Store), (∀ c ∈ cs, notSl c = true) → frzL σ cs = some (cs, σ)
  | [], σ, _ => rfl
  | c :: cs, σ, hc => by
    have h1 := hc c (by simp)
    have ih := frzL_no cs σ fun x hx => hc x (by simp [hx])
    cases c with
    | v x => simp only [frzL, frz, ih]
    | lst n sz xs => simp only [frzL, frz, ih]
    | _ => cases h1
theorem evStore_frame {L : Store → Option R} (t : TypeId) (a x : AV) (hag : ∀ l ∈ blkOf a, τ[l]? = σ[l]?) (hx : noSl x = true ∨ ∃ l i j b, a = .ptr l i j ∧ σ[l]? = some b ∧ b.obj = true) :
    evStore P τ t a x L = evStore P σ t a x fun s' => L (mixL τ s' (blkOf a)) := by
  unfold evStore
  cases a with
  | ptr l i j =>
    have hl := hag l (by simp [blkOf])
    cases hb : σ[l]? with
    | none => simp only [hl, hb]
    | some b =>
      simp only [hl, hb, blkOf, mix_set h hb]
      cases hc : cells x with
      | none => rfl
      | some xc =>
        cases ho : b.obj with
        | true => simp only [Bool.not_true, Bool.and_false, cond_true, cond_false]
        | false =>
          have hno : ∀ c ∈ xc, notSl c = true := by
            rcases hx with hx | ⟨_, _, _, b', e1, e2, e3⟩
            · simp only [noSl, hc, List.all_eq_true] at hx; exact hx
            · injection e1 with e1; subst e1
              rw [hb] at e2; injection e2 with e2; subst e2
              rw [ho] at e3; cases e3
          simp only [frzL_no xc _ hno, hl, hb, mix_set h hb]
  | px l j n i =>
    have hl := hag l (by simp [blkOf])
    cases hb : σ[l]? with
    | none => simp only [hl, hb]
    | some b => simp only [hl, hb, blkOf, mix_set h hb]
  | _ => rfl
theorem evOp_frame {C : Cfg} {call : CallT} {inl : InlT} {o : Oper} {fr : List (Nat × AV)} {L W : List Nat} {m : Bool} (hft : footOf P C o fr σ = ⟨some L, some W, m⟩) (hag : ∀ l ∈ L, τ[l]? = σ[l]?) :
    evOp P C call inl o fr τ K = evOp P C call inl o fr σ (fun a s => K a (mixL τ s W)) := by
  have top : ∀ {p : Prop}, Foot.top = ⟨some L, some W, m⟩ → p := fun e => by simp [Foot.top] at e
  cases ho : o.op with
  | move x =>
    have hW : W = [] := by
      simp only [footOf, ho] at hft
      split at hft <;> simp_all [Foot.no]
    subst hW
    simp only [evOp, ho, mix_nil h, phantom, mix_app h, h]
  | assign x =>
    have hW : W = [] := by
      simp only [footOf, ho] at hft
      split at hft <;> simp_all [Foot.no]
    subst hW
    simp only [evOp, ho, mix_nil h, phantom, mix_app h, h]
  | alloc t => simp only [footOf, ho, Foot.mk.injEq, Option.some.injEq] at hft; obtain ⟨rfl, rfl, _⟩ := hft; simp only [evOp, ho]; exact evAlloc_frame h t
  | box t x => simp only [footOf, ho, Foot.mk.injEq, Option.some.injEq] at hft; obtain ⟨rfl, rfl, _⟩ := hft; simp only [evOp, ho]; exact evBox_frame h t _
  | build t ps => simp only [footOf, ho, Foot.mk.injEq, Option.some.injEq] at hft; obtain ⟨rfl, rfl, _⟩ := hft; simp only [evOp, ho]; exact evBuild_frame h t _
  | makeSlice t x y => simp only [footOf, ho, Foot.mk.injEq, Option.some.injEq] at hft; obtain ⟨rfl, rfl, _⟩ := hft; simp only [evOp, ho]; exact evMakeSlice_frame h t _ _
  | load t x => simp only [footOf, ho, Foot.mk.injEq, Option.some.injEq] at hft; obtain ⟨rfl, rfl, _⟩ := hft; simp only [evOp, ho]; exact evLoad_frame h t _ hag
  | slice t x lo hi mx =>
    simp only [footOf, ho, Foot.mk.injEq, Option.some.injEq] at hft
    obtain ⟨rfl, rfl, _⟩ := hft
    cases mx with
    | none => simp only [evOp, ho]; exact evSlice_frame h t _ _ _ hag
    | some y => simp only [evOp, ho]
  | indexAddr t x i => simp only [footOf, ho, Foot.mk.injEq, Option.some.injEq] at hft; obtain ⟨rfl, rfl, _⟩ := hft; simp only [evOp, ho]; exact evIndexAddr_frame h t _ _ _ hag
  | convert s t x => simp only [footOf, ho, Foot.mk.injEq, Option.some.injEq] at hft; obtain ⟨rfl, rfl, _⟩ := hft; simp only [evOp, ho]; cases slsl P s t with
    | true => exact evMark_frame h s t _ hag
    | false => exact evConv_frame h s t _ hag
  | buildSlice t n ps =>
    simp only [footOf, ho] at hft
    rcases cond_any hft with ⟨e, hft⟩ | ⟨_, hft⟩
    · simp only [Foot.mk.injEq, Option.some.injEq] at hft
      obtain ⟨rfl, rfl, _⟩ := hft
      simp only [evOp, ho]
      refine evBuildSlice_frame h t n _ fun p hp => ?_
      obtain ⟨q, hq, rfl⟩ := List.mem_map.1 hp
      exact List.all_eq_true.1 e q hq
    · exact top hft
  | store t x y =>
    simp only [footOf, ho] at hft
    simp only [evOp, ho]
    rcases cond_any hft with ⟨e, hft⟩ | ⟨_, hft⟩
    · simp only [Foot.mk.injEq, Option.some.injEq] at hft
      obtain ⟨rfl, rfl, _⟩ := hft
      exact evStore_frame h t _ _ hag (.inl e)
    · split at hft
      · rename_i l i j hx
        split at hft
        · rename_i b hb
          rcases cond_any hft with ⟨e, hft⟩ | ⟨_, hft⟩
          · simp only [Foot.mk.injEq, Option.some.injEq] at hft
            obtain ⟨rfl, rfl, _⟩ := hft
            rw [hx]
            exact evStore_frame h t _ _ hag (.inr ⟨l, i, j, b, rfl, hb, e⟩)
          · exact top hft
        · exact top hft
      · exact top hft
  | call c =>
    simp only [footOf, ho] at hft
    simp only [evOp, ho]
    split at hft
    · rename_i hc
      split at hft
      · rename_i x hx
        simp only [Foot.mk.injEq, Option.some.injEq] at hft
        obtain ⟨rfl, rfl, _⟩ := hft
        simp only [hc, hx]
        split
        · rename_i heq _
          injection heq with heq _
          subst heq
          exact evLen_frame h _ _ hag
        · rfl
      · exact top hft
    · rename_i hc
      split at hft
      · rename_i x y hx
        simp only [Foot.mk.injEq, Option.some.injEq] at hft
        obtain ⟨rfl, rfl, _⟩ := hft
        simp only [hc, hx]
        split
        · rename_i heq _
          injection heq with h1 heq
          injection heq with h2 _
          subst h1; subst h2
          exact evAppend_frame h _ _ _ _ hag
        · rfl
      · exact top hft
    · rename_i hc
      split at hft
      · rename_i x y hx
        simp only [Foot.mk.injEq, Option.some.injEq] at hft
        obtain ⟨rfl, rfl, _⟩ := hft
        simp only [hc, hx]
        split
        · rename_i heq _
          injection heq with h1 heq
          injection heq with h2 _
          subst h1; subst h2
          exact evCopy_frame h _ _ _ hag
        · rfl
      · exact top hft
    · rename_i hc
      simp only [Foot.no, Foot.mk.injEq, Option.some.injEq] at hft
      obtain ⟨rfl, rfl, _⟩ := hft
      simp only [hc, mix_nil h]
    · rename_i hc
      simp only [Foot.no, Foot.mk.injEq, Option.some.injEq] at hft
      obtain ⟨rfl, rfl, _⟩ := hft
      simp only [hc, mix_nil h]
    · split at hft
      · rcases cond_any hft with ⟨_, hft⟩ | ⟨_, hft⟩
        · exact top hft
        · simp at hft
      · exact top hft
    · exact top hft
  | pick c a b => simp only [footOf, ho, Foot.no, Foot.mk.injEq, Option.some.injEq] at hft; obtain ⟨rfl, rfl, _⟩ := hft; simp only [evOp, ho, mix_nil h]
  | nilCheck x => simp only [footOf, ho, Foot.no, Foot.mk.injEq, Option.some.injEq] at hft; obtain ⟨rfl, rfl, _⟩ := hft; simp only [evOp, ho, mix_nil h]
  | binOp op t x y u => simp only [footOf, ho, Foot.no, Foot.mk.injEq, Option.some.injEq] at hft; obtain ⟨rfl, rfl, _⟩ := hft; simp only [evOp, ho, evBin, mix_nil h]
  | unOp op t x => simp only [footOf, ho, Foot.no, Foot.mk.injEq, Option.some.injEq] at hft; obtain ⟨rfl, rfl, _⟩ := hft; simp only [evOp, ho, evUn, mix_nil h]
  | fieldAddr t x f => simp only [footOf, ho, Foot.no, Foot.mk.injEq, Option.some.injEq] at hft; obtain ⟨rfl, rfl, _⟩ := hft; simp only [evOp, ho, evFieldAddr, mix_nil h]
  | field t x f => simp only [footOf, ho, Foot.no, Foot.mk.injEq, Option.some.injEq] at hft; obtain ⟨rfl, rfl, _⟩ := hft; simp only [evOp, ho, evField, mix_nil h]
  | index t x i => simp only [footOf, ho, Foot.no, Foot.mk.injEq, Option.some.injEq] at hft; obtain ⟨rfl, rfl, _⟩ := hft; simp only [evOp, ho, evIndex, mix_nil h]
  | extract x i => simp only [footOf, ho, Foot.no, Foot.mk.injEq, Option.some.injEq] at hft; obtain ⟨rfl, rfl, _⟩ := hft; simp only [evOp, ho, mix_nil h]
  | makeFunc f a b => simp only [footOf, ho, Foot.no, Foot.mk.injEq, Option.some.injEq] at hft; obtain ⟨rfl, rfl, _⟩ := hft; cases f <;> simp only [evOp, ho, mix_nil h]
  | _ => simp only [footOf, ho] at hft; exact top hft
end frame
end Go.Ev
