/- Forms: what a form says of the cells that have it; the state behind a loop. -/
import Derived.Test.YtokagdgcfmjlnaaEv25
set_option linter.all false
namespace Go.Ev

section gen
variable {T : Type} (f : T → AV → Bool × AV)
def genG : List T → Nat → List AV → Bool
  | [], _, _ => true
  | [t], j, cs => (f t (cellAt cs j)).1
  | t :: ts, j, cs => (f t (cellAt cs j)).1 && genG ts (j + 1) cs
def genV : List T → Nat → List AV → List AV
  | [], _, _ => []
  | t :: ts, j, cs => (f t (cellAt cs j)).2 :: genV ts (j + 1) cs
variable {f}
theorem genG_spec : ∀ (ts : List T) (j : Nat) (cs : List AV), genG f ts j cs = true → ∀ q t, ts[q]? = some t → (f t (cellAt cs (j + q))).1 = true
  | [], _, _, _, q, k, hq => by simp at hq
  | [t0], j, cs, h, q, t, hq => by
    cases q with
    | zero => simp at hq; subst hq; exact h
    | succ q => simp at hq
  | t0 :: t1 :: ts, j, cs, h, q, t, hq => by
    simp only [genG, Bool.and_eq_true] at h
    cases q with
    | zero => simp at hq; subst hq; exact h.1
    | succ q =>
      have := genG_spec (t1 :: ts) (j + 1) cs h.2 q t (by simpa using hq)
      rwa [show j + 1 + q = j + (q + 1) by omega] at this
theorem genV_spec : ∀ (ts : List T) (j : Nat) (cs : List AV), (genV f ts j cs).length = ts.length ∧ ∀ q, (genV f ts j cs)[q]? = (ts[q]?).map fun t => (f t (cellAt cs (j + q))).2
  | [], _, _ => ⟨rfl, fun q => by simp [genV]⟩
  | t :: ts, j, cs => by
    have ih := genV_spec ts (j + 1) cs
    refine ⟨by simp [genV, ih.1], fun q => ?_⟩
    cases q with
    | zero => simp [genV]
    | succ q =>
      simp only [genV, List.getElem?_cons_succ, ih.2]
      rw [show j + 1 + q = j + (q + 1) by omega]
/-- Each cell of the outcome, with the cell that it was. -/
theorem gen_cell (hun : ∀ t, (f t .un).1 = false) {ts : List T} {j : Nat} {cs : List AV} (h : genG f ts j cs = true) {q : Nat} {u : AV} (hu : (genV f ts j cs)[q]? = some u) :
    ∃ t c, ts[q]? = some t ∧ cs[j + q]? = some c ∧ (f t c).1 = true ∧ u = (f t c).2 := by
  rw [(genV_spec ts j cs).2, Option.map_eq_some_iff] at hu
  obtain ⟨t, ht, e⟩ := hu
  have h1 := genG_spec ts j cs h q t ht
  refine ⟨t, cellAt cs (j + q), ht, cellAt_some fun e => ?_, h1, e.symm⟩
  rw [e, hun] at h1; cases h1
end gen

/-- A list of another element size where it is nil; else the same. -/
def Sim (c c' : AV) : Prop := c' = c ∨ ∃ s s' xs, c = .lst true s xs ∧ c' = .lst true s' xs
theorem Sim.dr {μ : Mu} {c c' : AV} {v : Value} (h : Sim c c') (hd : DR μ c v) : DR μ c' v := by
  rcases h with h | ⟨s, s', xs, h1, h2⟩
  · subst h; exact hd
  · subst h1; subst h2
    cases hd with
    | @lst _ _ _ A c vals hnil hA hc hsz hcell hv =>
      have hn : A = none := by cases A with | none => rfl | some a => cases hnil
      have hx := (hA hn).1
      subst hx
      exact .lst vals hnil hA hc (fun e he => by cases he) (fun a ha => by rw [hn] at ha; cases ha) (fun i e j u he => by simp at he)
theorem Sim.cr {μ : Mu} {ρ : Rho} {c c' : AV} {v : Value} (h : Sim c c') (hd : CR μ ρ c v) : CR μ ρ c' v := by
  rcases h with h | ⟨s, s', xs, h1, h2⟩
  · subst h; exact hd
  · subst h1
    cases hd with
    | d hx => exact .d (Sim.dr (.inr ⟨s, s', xs, rfl, h2⟩) hx)

theorem isI_eq {k : IntKind} {c : AV} (h : isI k c = true) : c = .v (.int k (avInt c)) := by
  cases c with
  | v x => cases x <;> simp_all [isI, avInt]
  | _ => simp [isI] at h
theorem isB_eq {c : AV} (h : isB c = true) : c = .v (.bool (avBool c)) := by
  cases c with
  | v x => cases x <;> simp_all [isB, avBool]
  | _ => simp [isB] at h
theorem isS_eq {c : AV} (h : isS c = true) : c = .v (.string (avStr c)) := by
  cases c with
  | v x => cases x <;> simp_all [isS, avStr]
  | _ => simp [isS] at h
theorem isL_sim {sz : Nat} {c : AV} (h : isL sz c = true) : Sim c (.lst (avNil c) sz (avXs c)) := by
  cases c with
  | lst n s xs =>
    simp only [isL, Bool.or_eq_true] at h
    simp only [avNil, avXs]
    rcases h with h | h
    · have := Nat.eq_of_beq_eq_true h
      subst this
      exact .inl rfl
    · subst h; exact .inr ⟨s, sz, xs, rfl, rfl⟩
  | _ => simp [isL] at h
theorem isNP_eq {c : AV} (h : isNP c = true) : c = .v (.pointer none) := by
  unfold isNP at h
  split at h
  · rfl
  · cases h

theorem likeS_sim {t c : AV} (h : (likeS t c).1 = true) : Sim c (likeS t c).2 := by
  unfold likeS at h ⊢
  split at h
  · exact .inl (isI_eq h).symm
  · exact .inl (isB_eq h).symm
  · exact .inl (isS_eq h).symm
  · exact .inl (isNP_eq h).symm
  · exact isL_sim h
  · simp only [Bool.and_eq_true] at h
    obtain ⟨h1, h2⟩ := h
    unfold isSl at h1
    split at h1
    · simp only [Bool.and_eq_true] at h1
      obtain ⟨h3, h4⟩ := h1
      have e1 := Nat.eq_of_beq_eq_true h3
      have e2 := Nat.eq_of_beq_eq_true h2
      split at h4
      · simp only [avOff] at e2
        subst e1; subst e2
        exact .inl rfl
      · cases h4
    · cases h1
  · simp only [Bool.and_eq_true] at h
    obtain ⟨h1, h2⟩ := h
    unfold isSl at h1
    split at h1
    · simp only [Bool.and_eq_true] at h1
      obtain ⟨h3, h4⟩ := h1
      have e1 := Nat.eq_of_beq_eq_true h3
      have e2 := Nat.eq_of_beq_eq_true h2
      split at h4
      · cases h4
      · simp only [avOff] at e2
        subst e1; subst e2
        exact .inl rfl
    · cases h1
  · unfold isPtr at h
    split at h
    · simp only [Bool.and_eq_true] at h
      obtain ⟨⟨h1, h2⟩, h3⟩ := h
      have e1 := Nat.eq_of_beq_eq_true h1
      have e2 := Nat.eq_of_beq_eq_true h2
      have e3 := Nat.eq_of_beq_eq_true h3
      subst e1; subst e2; subst e3
      exact .inl rfl
    · cases h
  · cases h
theorem likeS_un (t : AV) : (likeS t .un).1 = false := by
  unfold likeS
  split <;> rfl
theorem likeSG_gen : ∀ (ts : List AV) (j : Nat) (cs : List AV), likeSG ts j cs = genG likeS ts j cs
  | [], _, _ => rfl
  | [_], _, _ => rfl
  | t :: t' :: ts, j, cs => by simp only [likeSG, genG, likeSG_gen (t' :: ts)]
theorem likeSV_gen : ∀ (ts : List AV) (j : Nat) (cs : List AV), likeSV ts j cs = genV likeS ts j cs
  | [], _, _ => rfl
  | t :: ts, j, cs => by simp only [likeSV, genV, likeSV_gen ts]

theorem likeT_vr {μ : Mu} {ρ : Rho} {t c : AV} {v : Value} (h : (likeT t c).1 = true) (hv : VR μ ρ c v) : VR μ ρ (likeT t c).2 v := by
  unfold likeT at h ⊢
  split at h
  · rename_i ts o
    simp only [Bool.and_eq_true] at h
    obtain ⟨h1, h2⟩ := h
    cases c with
    | ep cs o' =>
      simp only [isEp, Bool.and_eq_true] at h1
      have hlen := Nat.eq_of_beq_eq_true h1.1
      have ho := Nat.eq_of_beq_eq_true h1.2
      subst ho
      simp only [epCells] at h2 ⊢
      rw [likeSG_gen] at h2
      rw [likeSV_gen]
      cases hv with
      | c hx =>
        cases hx with
        | d hd =>
          cases hd with
          | ep vals hcell hvs =>
            refine .c (.d (.ep vals (fun j hj => hcell j (by rw [(genV_spec ts 0 cs).1] at hj; omega)) fun j u hu => ?_))
            obtain ⟨t, c, _, h3, h4, e⟩ := gen_cell likeS_un h2 hu
            subst e
            rw [Nat.zero_add] at h3
            exact (likeS_sim h4).dr (hvs j c h3)
    | _ => cases h1
  · rename_i ts
    simp only [Bool.and_eq_true] at h
    obtain ⟨h1, h2⟩ := h
    cases c with
    | agg cs =>
      have hlen := Nat.eq_of_beq_eq_true h1
      simp only [obCells] at h2 ⊢
      cases hv with
      | c hx => cases hx with | d hd => cases hd
      | agg hx =>
        rw [likeSG_gen] at h2
        rw [likeSV_gen]
        refine .agg ⟨by rw [(genV_spec ts 0 cs).1, hx.1, hlen], fun q u v hu hvq => ?_⟩
        obtain ⟨t, c, _, h3, h4, e⟩ := gen_cell likeS_un h2 hu
        subst e
        rw [Nat.zero_add] at h3
        exact (likeS_sim h4).cr (hx.2 q c v h3 hvq)
    | _ => cases h1
  · have hs := likeS_sim h
    rcases hs with e | ⟨s, s', xs, e1, e2⟩
    · rw [e]; exact hv
    · rw [e2]
      rw [e1] at hv
      cases hv with
      | c hx => exact .c (Sim.cr (.inr ⟨s, s', xs, rfl, rfl⟩) hx)

theorem likeT_un (t : AV) : (likeT t .un).1 = false := by
  unfold likeT
  split
  · rfl
  · rfl
  · exact likeS_un _

theorem lookF_cons_drop {fr : List (Nat × AV)} {j : Nat} (h : j < fr.length) (t : Nat) : lookF (fr.drop j) t = bif Nat.beq (frAt fr j).1 t then (frAt fr j).2 else lookF (fr.drop (j + 1)) t := by
  rw [List.drop_eq_getElem_cons h]
  have : frAt fr j = fr[j] := by simp [frAt, List.getD_eq_getElem?_getD, h]
  rw [this]
  rfl
theorem like_fr {μ : Mu} {ρ : Rho} {t : Nat} {v : Value} : ∀ (T : List (Nat × AV)) (j : Nat) (fr : List (Nat × AV)), likeFG T j fr = true → T.length + j = fr.length → VR μ ρ (lookF (fr.drop j) t) v → VR μ ρ (lookF (likeFV T j fr) t) v
  | [], _, _, _, _, _ => .un
  | (i, a) :: r, j, fr, h, hl, hv => by
    simp only [likeFG, Bool.and_eq_true] at h
    obtain ⟨⟨h1, h2⟩, h3⟩ := h
    have e := Nat.eq_of_beq_eq_true h1
    rw [lookF_cons_drop (by simp at hl; omega), ← e] at hv
    simp only [likeFV, lookF]
    cases hb : Nat.beq i t with
    | true =>
      rw [hb] at hv
      exact likeT_vr h2 hv
    | false =>
      rw [hb] at hv
      exact like_fr r (j + 1) fr h3 (by simp at hl; omega) hv

theorem like_bl : ∀ (T : Store) (j : Nat) (bl : Store), likeBG T j bl = true → ∀ i k', (likeBV T j bl)[i]? = some k' → ∃ k, T[i]? = some k ∧
    k.mode = (blAt bl (j + i)).mode ∧ k.ty = (blAt bl (j + i)).ty ∧ k.sz = (blAt bl (j + i)).sz ∧ k.obj = (blAt bl (j + i)).obj ∧
    k' = { k with xs := match k.obj with | true => [likeSV (lget k.xs 0) 0 (lget (blAt bl (j + i)).xs 0)] | false => (blAt bl (j + i)).xs } ∧
    (k.obj = true → (blAt bl (j + i)).xs.length = 1 ∧ (lget (blAt bl (j + i)).xs 0).length = (lget k.xs 0).length ∧ likeSG (lget k.xs 0) 0 (lget (blAt bl (j + i)).xs 0) = true)
  | [], _, _, _, i, k', hk => by simp [likeBV] at hk
  | k0 :: r, j, bl, h, i, k', hk => by
    simp only [likeBG, Bool.and_eq_true] at h
    obtain ⟨⟨⟨⟨⟨h1, h2⟩, h3⟩, h4⟩, h5⟩, h6⟩ := h
    cases i with
    | zero =>
      simp only [likeBV, List.getElem?_cons_zero, Option.some.injEq] at hk
      refine ⟨k0, rfl, Nat.eq_of_beq_eq_true h1, Nat.eq_of_beq_eq_true h2, Nat.eq_of_beq_eq_true h3, by simpa using h4, hk.symm, fun ho => ?_⟩
      rw [ho] at h5
      simp only [Bool.and_eq_true] at h5
      exact ⟨Nat.eq_of_beq_eq_true h5.1.1, Nat.eq_of_beq_eq_true h5.1.2, h5.2⟩
    | succ i =>
      simp only [likeBV, List.getElem?_cons_succ] at hk
      have := like_bl r (j + 1) bl h6 i k' hk
      rw [show j + 1 + i = j + (i + 1) by omega] at this
      obtain ⟨k, hk, rest⟩ := this
      exact ⟨k, by simpa using hk, rest⟩
theorem likeBV_len : ∀ (T : Store) (j : Nat) (bl : Store), (likeBV T j bl).length = T.length
  | [], _, _ => rfl
  | _ :: r, j, bl => by simp [likeBV, likeBV_len r]

/-- The state in the form that is looked for stands for the same. -/
theorem like_sound {E : Env} {B : Base} {G : Nat → Value} {n : Nat} {T s : St} {a : Act} {w : World} (hl : likeStG T s = true) (h : Rel E B G n (lookF s.fr) s.bl a w) : Rel E B G n (lookF (likeStV T s).fr) (likeStV T s).bl a w := by
  simp only [likeStG, Bool.and_eq_true] at hl
  obtain ⟨⟨h1, h2⟩, h3, h4⟩ := hl
  obtain ⟨⟨μ, ρ, hf, hs, hd, hsin⟩, hb, hsz, hdf⟩ := h
  have hlen : T.bl.length = s.bl.length := Nat.eq_of_beq_eq_true h3
  have hget : ∀ (i : Nat) (k' : Blk), (likeStV T s).bl[i]? = some k' → ∃ k0 : Blk, s.bl[i]? = some k0 ∧ k'.mode = k0.mode ∧ k'.ty = k0.ty ∧ k'.sz = k0.sz ∧ k'.obj = k0.obj ∧
      (k0.obj = false → k'.xs = k0.xs) ∧ (k0.obj = true → ∃ x x' : List AV, k0.xs = [x] ∧ k'.xs = [x'] ∧ x'.length = x.length ∧ ∀ (q : Nat) (u : AV), x'[q]? = some u → ∃ c, x[q]? = some c ∧ Sim c u) := fun i k' hk => by
    obtain ⟨k, e0, e1, e2, e3, e4, e5, e6⟩ := like_bl T.bl 0 s.bl h4 i k' hk
    rw [Nat.zero_add] at e1 e2 e3 e4 e5 e6
    have hi : i < s.bl.length := by rw [← hlen]; exact (List.getElem?_eq_some_iff.1 e0).1
    have hat : blAt s.bl i = s.bl[i] := by simp [blAt, List.getD_eq_getElem?_getD, hi]
    rw [hat] at e1 e2 e3 e4 e5 e6
    subst e5
    refine ⟨s.bl[i], List.getElem?_eq_getElem hi, e1, e2, e3, e4, fun ho => ?_, fun ho => ?_⟩
    · rw [← e4] at ho
      rw [ho]
    · rw [← e4] at ho
      obtain ⟨f1, f2, f3⟩ := e6 ho
      obtain ⟨x, hx⟩ := List.length_eq_one_iff.1 f1
      have hlx : lget s.bl[i].xs 0 = x := by rw [hx]; rfl
      rw [hlx] at f2 f3
      rw [likeSG_gen] at f3
      refine ⟨x, _, hx, by rw [ho], ?_, fun q u hu => ?_⟩
      · rw [hlx, likeSV_gen, (genV_spec _ _ _).1, f2]
      · rw [hlx, likeSV_gen] at hu
        obtain ⟨t, c, _, g2, g3, g4⟩ := gen_cell likeS_un f3 hu
        rw [Nat.zero_add] at g2
        exact ⟨c, g2, g4 ▸ likeS_sim g3⟩
  refine ⟨⟨μ, ρ, fun t => ?_, ⟨fun l rb k' hl hk hm => ?_, fun l l' rb rb' k k' hl hl' hk hk' hm hm' hp hp' he => ?_, fun l rb k hl hk hm hp => ?_, hs.imm, hs.base⟩, fun l rb hl => ?_, hsin⟩, ?_, hsz, hdf⟩
  · exact like_fr T.fr 0 s.fr h2 (Nat.eq_of_beq_eq_true h1) (hf t)
  · obtain ⟨k0, g0, g1, g2, g3, g4, g5, g6⟩ := hget l k' hk
    have hb0 := hs.blk l rb k0 hl g0 (by omega)
    have hxl : k'.xs.length = k0.xs.length := by
      cases ho : k0.obj with
      | false => rw [g5 ho]
      | true => obtain ⟨x, x', f1, f2, _⟩ := g6 ho; rw [f1, f2]; rfl
    refine ⟨hb0.sz.trans g3.symm, hb0.n.trans hxl.symm, hb0.fit, fun hp => ?_, fun ho => ?_, fun hp => ?_⟩
    · obtain ⟨f1, f2⟩ := hb0.ph hp
      exact ⟨by rw [g5 f2]; exact f1, by rw [g4]; exact f2⟩
    · rw [g4] at ho
      rw [hxl]; exact hb0.one ho
    · obtain ⟨cur, hc⟩ := hb0.live hp
      refine ⟨cur, hc.size, fun ho => ?_, fun ho => ?_, ?_⟩
      · rw [g4] at ho; rw [g5 ho]; exact hc.rowD ho
      · rw [g4] at ho
        obtain ⟨x, x', f1, f2, f3, f4⟩ := g6 ho
        have hr := hc.rowO ho
        rw [f1] at hr
        rw [f2]
        refine ⟨fun e he => ?_, fun i e j c he hc' => ?_⟩
        · simp only [List.mem_singleton] at he; subst he; rw [f3]; exact hr.1 x (by simp)
        · cases i with
          | succ i => simp at he
          | zero =>
            simp at he; subst he
            obtain ⟨c0, q1, q2⟩ := f4 j c hc'
            obtain ⟨u, q3, q4⟩ := hr.2 0 x j c0 rfl q1
            exact ⟨u, q3, q2.cr q4⟩
      · rw [g1, g2, g4]; exact hc.at_
  · obtain ⟨k0, g0, g1, _⟩ := hget l k hk
    obtain ⟨k0', g0', g1', _⟩ := hget l' k' hk'
    exact hs.inj l l' rb rb' k0 k0' hl hl' g0 g0' (by omega) (by omega) hp hp' he
  · obtain ⟨k0, g0, g1, _⟩ := hget l k hk
    exact hs.ownD l rb k0 hl g0 (by omega) hp
  · show l < (likeBV T.bl 0 s.bl).length
    rw [likeBV_len, hlen]; exact hd l rb hl
  · show B.n ≤ (likeBV T.bl 0 s.bl).length
    rw [likeBV_len, hlen]; exact hb
end Go.Ev
