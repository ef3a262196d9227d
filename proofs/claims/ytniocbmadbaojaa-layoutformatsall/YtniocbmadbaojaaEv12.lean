/- Calls of Go's library that are told to the evaluator: what the shelf's contracts say, in the evaluator's words. -/
import Derived.Shelf.Strings.OnBuilder
import Derived.Shelf.Strings.IndexAnyAll
import Derived.Shelf.Spec.SlicesGrow
import Derived.Shelf.SlicesE.Reverse
import Derived.Test.YtniocbmadbaojaaEv11
set_option linter.all false
namespace Go.Ev
open Go Go.Proofs Go.Shelf Go.RowKit
def bs (l : List UInt8) : ByteArray := ⟨l.toArray⟩
theorem b1_v {μ : Mu} {hp : HF} {F : List Nat} {G : List Value} {x v : Value} (h : B1 μ hp F G (.v x) v) : F = [] ∧ G = [] ∧ v = x := by
  cases h with
  | c h => cases h with
    | d h => cases h with
      | v _ => exact ⟨rfl, rfl, rfl⟩
theorem b1_lst {μ : Mu} {hp : HF} {F : List Nat} {G : List Value} {nil : Bool} {sz : Nat} {xs : List (List AV)} {v : Value} (h : B1 μ hp F G (.lst nil sz xs) v) : F = [] ∧ G = [] ∧ DR μ (.lst nil sz xs) v := by
  cases h with
  | c h => cases h with
    | d h => exact ⟨rfl, rfl, h⟩
theorem b2_v {μ : Mu} {hp : HF} {F : List Nat} {G : List Value} {x v : Value} (h : B2 μ hp F G (.v x) v) : F = [] ∧ G = [] ∧ v = x := by
  cases h with
  | o h => exact b1_v h
theorem b2s_cons {μ : Mu} {hp : HF} {F : List Nat} {G : List Value} {a : AV} {cs : List AV} {vs : List Value} (h : B2s μ hp F G (a :: cs) vs) : ∃ F1 F2 G1 G2 v vs', F = F1 ++ F2 ∧ G = G1 ++ G2 ∧ vs = v :: vs' ∧ B2 μ hp F1 G1 a v ∧ B2s μ hp F2 G2 cs vs' := by
  cases h with
  | cons h k => exact ⟨_, _, _, _, _, _, rfl, rfl, rfl, h, k⟩
theorem b2s_nil {μ : Mu} {hp : HF} {F : List Nat} {G : List Value} {vs : List Value} (h : B2s μ hp F G [] vs) : F = [] ∧ G = [] ∧ vs = [] := by
  cases h; exact ⟨rfl, rfl, rfl⟩
def TellS (P : Program) (f : FuncId) (g : List AV → Option (List AV)) : Prop := ∀ bs rs, g bs = some rs → ∃ fn, P.funcs[f]? = some fn ∧
    ∀ (w : World) (μ : Mu) (F : List Nat) (G vals : List Value), (∀ b o, μ b = some o → w.heap[b]? = some o) → B2s μ (hf w) F G bs vals → F.Nodup →
      Calls P f vals.toArray w fun e w' => ∃ (ra ro : List AV) (vs : List Value) (μ' : Mu) (F1 F2 : List Nat) (G1 : List Value), rs = ra ++ ro ∧ ra.length = fn.resultTypes.size ∧ e = .returned (retV vs) ∧ Frm ⟨w, (· ∈ F), μ⟩ μ' w' ∧
        (∀ b o, μ' b = some o → w'.heap[b]? = some o) ∧ B2s μ' (hf w') F1 G1 ra vs ∧ B1s μ' (hf w') F2 G ro G ∧ (F1 ++ F2).Nodup ∧ ∀ b ∈ F1 ++ F2, b ∈ F ∨ w.heap.size ≤ b
section
variable {P : Program}
end
end Go.Ev
namespace Go.Ev
open Go
abbrev B := List UInt8
end Go.Ev
namespace Go.Ev
open Go Go.Proofs
section
variable {μ μ' : Mu} {hp hp' : HF} {F : List Nat} {G : List Value}
theorem B0.heap {a : AV} {v : Value} (h : B0 μ hp F a v) (hh : ∀ b ∈ F, hp' b = hp b) : B0 μ hp' F a v := by
  cases h with
  | d hd => exact .d hd
  | ow h1 h2 h3 h4 h5 => obtain ⟨fz, e, ok⟩ := h1; exact .ow ⟨fz, (hh _ (by simp)).trans e, ok⟩ h2 h3 h4 h5
  | own => exact .own
theorem B0s.heap {cs : List AV} {vs : List Value} (h : B0s μ hp F cs vs) (hh : ∀ b ∈ F, hp' b = hp b) : B0s μ hp' F cs vs := by
  induction h with
  | nil => exact .nil
  | cons h _ ih => exact .cons (h.heap fun b hb => hh b (List.mem_append_left _ hb)) (ih fun b hb => hh b (List.mem_append_right _ hb))
theorem B1.heap {a : AV} {v : Value} (h : B1 μ hp F G a v) (hh : ∀ b ∈ F, hp' b = hp b) : B1 μ hp' F G a v := by
  cases h with
  | c h => exact .c (h.heap hh)
  | ob h hm hc => exact .ob ((hh _ (by simp)).trans h) hm (hc.heap fun b hb => hh b (List.mem_cons_of_mem _ hb))
  | row h hn => exact .row (h.heap hh) hn
theorem B0.ownd {a : AV} {v : Value} (h : B0 μ hp F a v) : ∀ b ∈ F, μ b = none ∧ ∃ o, hp b = some o := fun b hb => by
  cases h with
  | d hd => cases hb
  | ow h1 h2 => obtain ⟨fz, e, _⟩ := h1; simp at hb; subst hb; exact ⟨h2, _, e⟩
  | own => cases hb
theorem B0s.ownd {cs : List AV} {vs : List Value} (h : B0s μ hp F cs vs) : ∀ b ∈ F, μ b = none ∧ ∃ o, hp b = some o := by
  induction h with
  | nil => exact fun b hb => by cases hb
  | cons h _ ih => exact fun b hb => (List.mem_append.1 hb).elim (h.ownd b) (ih b)
theorem B1.ownd {a : AV} {v : Value} (h : B1 μ hp F G a v) : ∀ b ∈ F, μ b = none ∧ ∃ o, hp b = some o := fun b hb => by
  cases h with
  | c h => exact h.ownd b hb
  | ob h hm hc =>
    rcases List.mem_cons.1 hb with rfl | hb
    · exact ⟨hm, _, h⟩
    · exact hc.ownd b hb
  | row h hn => exact h.ownd b hb
end
structure ItemO where
  p : Value
  F : List Nat
  a : AV
def foot (l : List ItemO) : List Nat := l.flatMap ItemO.F
structure Owns (μ : Mu) (w : World) (l : List ItemO) : Prop where
  ok : ∀ x ∈ l, B1 μ (hf w) x.F [x.p] x.a x.p
  nd : (foot l).Nodup
theorem foot_cons (x : ItemO) (l : List ItemO) : foot (x :: l) = x.F ++ foot l := rfl
theorem foot_app (a b : List ItemO) : foot (a ++ b) = foot a ++ foot b := by simp [foot]
theorem Owns.nil (μ : Mu) (w : World) : Owns μ w [] := ⟨fun x h => (by cases h), List.nodup_nil⟩
theorem Owns.own {μ : Mu} {w : World} {l : List ItemO} (h : Owns μ w l) : ∀ b ∈ foot l, μ b = none ∧ b < w.heap.size := fun b hb => by
  obtain ⟨x, hx, hb⟩ := List.mem_flatMap.1 hb
  obtain ⟨h1, o, h2⟩ := (h.ok x hx).ownd b hb
  exact ⟨h1, (Array.getElem?_eq_some_iff.1 h2).1⟩
theorem Owns.perm {μ : Mu} {w : World} {l l' : List ItemO} (h : Owns μ w l) (hp : l.Perm l') : Owns μ w l' :=
  ⟨fun x hx => h.ok x (hp.mem_iff.2 hx), (List.Perm.flatMap_right ItemO.F hp).nodup_iff.1 h.nd⟩
theorem Owns.cons {μ : Mu} {w : World} {x : ItemO} {l : List ItemO} (hx : B1 μ (hf w) x.F [x.p] x.a x.p) (hn : x.F.Nodup) (h : Owns μ w l) (hd : ∀ b ∈ x.F, b ∉ foot l) : Owns μ w (x :: l) :=
  ⟨fun y hy => (List.mem_cons.1 hy).elim (fun e => by subst e; exact hx) (h.ok y), by
    rw [foot_cons]; exact List.nodup_append.2 ⟨hn, h.nd, fun a ha b hb e => hd a ha (e ▸ hb)⟩⟩
theorem Owns.head {μ : Mu} {w : World} {x : ItemO} {l : List ItemO} (h : Owns μ w (x :: l)) : B1 μ (hf w) x.F [x.p] x.a x.p ∧ x.F.Nodup ∧ Owns μ w l ∧ ∀ b ∈ x.F, b ∉ foot l := by
  have hn := h.nd
  rw [foot_cons] at hn
  obtain ⟨h1, h2, h3⟩ := List.nodup_append.1 hn
  exact ⟨h.ok x (by simp), h1, ⟨fun y hy => h.ok y (List.mem_cons_of_mem _ hy), h2⟩, fun b hb hc => h3 b hb b hc rfl⟩
structure KeptW (D : List Nat) (w w' : World) : Prop where
  os : w'.os = w.os
  tape : w'.tape = w.tape
  output : w'.output = w.output
  size : w.heap.size ≤ w'.heap.size
  keep : ∀ b, b < w.heap.size → b ∉ D → w'.heap[b]? = w.heap[b]?
theorem KeptW.refl (D : List Nat) (w : World) : KeptW D w w := ⟨rfl, rfl, rfl, Nat.le_refl _, fun _ _ _ => rfl⟩
theorem Owns.kept {μ μ' : Mu} {w w' : World} {D : List Nat} {l : List ItemO} (h : Owns μ w l) (k : KeptW D w w') (hm : MuLe μ μ') (hnew : ∀ b o, μ' b = some o → μ b = some o ∨ b ∈ D ∨ w.heap.size ≤ b) (hd : ∀ b ∈ D, b ∉ foot l) : Owns μ' w' l :=
  ⟨fun x hx => by
    have hF : ∀ b ∈ x.F, b ∈ foot l := fun b hb => List.mem_flatMap.2 ⟨x, hx, hb⟩
    refine ((h.ok x hx).mono hm fun b hb => ?_).heap fun b hb => ?_
    · obtain ⟨h1, h2⟩ := h.own b (hF b hb)
      cases e : μ' b with
      | none => rfl
      | some o =>
        rcases hnew b o e with h3 | h3 | h3
        · rw [h1] at h3; cases h3
        · exact absurd (hF b hb) (hd b h3)
        · omega
    · exact k.keep b (h.own b (hF b hb)).2 fun hb2 => hd b hb2 (hF b hb), h.nd⟩
section
variable {P : Program} {C : Cfg}
theorem call_rest (hmix : P.follows .mixedOrders = true) (hx : ExtS P C) {f : FuncId} {bs rs : List AV} (h : evL P C f bs = some rs) {fn : Func} (hfn : P.funcs[f]? = some fn) {w : World} {μ : Mu} {F : List Nat} {G vals : List Value}
    (himm : ∀ b o, μ b = some o → w.heap[b]? = some o) (hB : B2s μ (hf w) F G bs vals) (hnd : F.Nodup) {l : List ItemO} (hl : Owns μ w l) (hd : ∀ b ∈ F, b ∉ foot l) :
    Calls P f vals.toArray w fun e w' => ∃ (ra ro : List AV) (vs : List Value) (μ' : Mu) (F1 F2 : List Nat) (G1 : List Value), rs = ra ++ ro ∧ ra.length = fn.resultTypes.size ∧ e = .returned (retV vs) ∧ KeptW F w w' ∧ MuLe μ μ' ∧
      (∀ b o, μ' b = some o → w'.heap[b]? = some o) ∧ B2s μ' (hf w') F1 G1 ra vs ∧ B1s μ' (hf w') F2 G ro G ∧ (F1 ++ F2).Nodup ∧ (∀ b ∈ F1 ++ F2, b ∈ F ∨ w.heap.size ≤ b) ∧ Owns μ' w' l ∧ (∀ b ∈ F1 ++ F2, b ∉ foot l) ∧
      (∀ b o, μ' b = some o → μ b = some o ∨ b ∈ F ∨ w.heap.size ≤ b) := by
  obtain ⟨n, hn⟩ := evF_of_evL h
  obtain ⟨fn', h1, h2⟩ := evF_sound hmix hx n f bs rs hn
  rw [hfn] at h1
  obtain rfl := Option.some.inj h1
  refine (h2 w μ F G vals himm hB hnd).mono fun e w' he => ?_
  obtain ⟨ra, ro, vs, μ', F1, F2, G1, hrs, hsz, he, hfr, hi, hb1, hb2, hnd2, hnew⟩ := he
  have hk : KeptW F w w' := ⟨hfr.os, hfr.tape, hfr.output, hfr.size, fun b hb hn => hfr.keep b hb hn⟩
  refine ⟨ra, ro, vs, μ', F1, F2, G1, hrs, hsz, he, hk, hfr.mu, hi, hb1, hb2, hnd2, hnew, hl.kept hk hfr.mu hfr.muNew hd, fun b hb hc => ?_, hfr.muNew⟩
  rcases hnew b hb with h | h
  · exact hd b h hc
  · have := (hl.own b hc).2; omega
end
section
variable {P : Program}
open Go.Shelf Go.Lib Go.RowKit
theorem app_raw {t ety sz : Nat} {z : Value} {I : TypeInfo} (ht : P.underlying t = some (.slice ety)) (hI : P.info? ety = some I) (hz : I.zero = some z) (hs : I.size = sz) (hb1 : 0 < I.bytes) (hb2 : I.bytes ≤ 1000) (hzs : z.cells.size = sz)
    {W : World} {A : Option Addr} {l c E : Nat} {cur els : Array Value} (hl : l ≤ 100000) (hA : (A = none ∧ l = 0 ∧ c = 0) ∨ ∃ b, A = some ⟨b, 0, none⟩ ∧ l ≤ c ∧ W.heap[b]? = some (.cells cur ety (0, 0)) ∧ cur.size = c * sz)
    (hE : W.heap[E]? = some (.cells els ety (0, 0))) (hEs : els.size = sz) (hone : ∀ v ∈ els.toList, v.oneCell' = true) :
    ∃ (b c' : Nat) (W2 : World) (cur' : Array Value), (∀ ty, (Builtin.append_ #[t, t] ty #[.slice A l c, .slice (some ⟨E, 0, none⟩) 1 1]).run P W = .ok (.slice (some ⟨b, 0, none⟩) (l + 1) c') W2) ∧ KeptW [b] W W2 ∧ W2.heap[b]? = some (.cells cur' ety (0, 0)) ∧
      cur'.size = c' * sz ∧ l + 1 ≤ c' ∧ (A = some ⟨b, 0, none⟩ ∨ W.heap.size ≤ b) ∧ (∀ j, j < l * sz → cur'[j]? = cur[j]?) ∧ ∀ j, j < sz → cur'[l * sz + j]? = els[j]? := by
  have hlen : ∀ w : World, (Builtin.lenOf (.slice (some ⟨E, 0, none⟩) 1 1)).run P w = .ok 1 w := fun _ => rfl
  have hfirst : ∀ W' : World, W'.heap = W.heap → (Builtin.firstCells I.size 1 (.slice (some ⟨E, 0, none⟩) 1 1)).run P W' = .ok els.toList.toArray W' := fun W' hW' => by
    refine run_firstCells_some _ I.size 1 ⟨E, 0, none⟩ 1 1 els.toList (by rw [hs, Array.length_toList, hEs]; omega) fun j v hj => ?_
    rw [Addr.add_lit, Nat.zero_add]
    simp only [World.cell?, hW', hE]
    simpa using hj
  by_cases hroom : l + 1 ≤ c
  · rcases hA with ⟨_, _, hc⟩ | ⟨b, rfl, hlc, hcur, hcs⟩
    · omega
    · have hm : (l + 1) * sz ≤ c * sz := Nat.mul_le_mul_right _ hroom
      rw [Nat.succ_mul] at hm
      have hst := run_storeCells_fz P b (l * sz) ety false (0, 0) els.toList 0 cur W hcur (.inl rfl) (by rw [Array.length_toList, hEs, hcs]; omega) hone
      obtain ⟨cur', hcur'⟩ : ∃ cur', (cur.toList.take (l * sz + 0) ++ els.toList ++ cur.toList.drop (l * sz + 0 + els.toList.length)).toArray = cur' := ⟨_, rfl⟩
      rw [hcur'] at hst
      have ltake : (cur.toList.take (l * sz + 0)).length = l * sz := by rw [List.length_take, Array.length_toList]; omega
      have hsz : cur'.size = cur.size := by
        rw [← hcur']
        show (_ : List Value).length = _
        rw [List.length_append, List.length_append, ltake, List.length_drop, Array.length_toList, Array.length_toList]; omega
      refine ⟨b, c, W.setRow b cur', cur', fun ty => ?_, ⟨rfl, rfl, rfl, by rw [setRow_size]; exact Nat.le_refl _, fun x hx hn => setRow_other _ _ _ _ (by simpa using hn)⟩, setRow_heap _ _ _ _ _ _ hcur, by rw [hsz, hcs], hroom, .inl rfl, fun j hj => ?_, fun j hj => ?_⟩
      · refine run_app_room ht ht rfl hI hlen (by rw [hfirst W rfl]) hroom ?_
        show (storeCells _ _).run P W = _
        rw [Addr.add_lit, hs, Nat.zero_add]
        exact hst
      · rw [← hcur', List.getElem?_toArray, List.append_assoc, List.getElem?_append_left (by omega), List.getElem?_take, if_pos (by omega)]; simp
      · rw [← hcur', List.getElem?_toArray, List.getElem?_append_left (by rw [List.length_append, ltake, Array.length_toList, hEs]; omega), List.getElem?_append_right (by omega), ltake, show l * sz + j - l * sz = j by omega]; simp
  · have hold : ∃ olds : List Value, olds.length = l * sz ∧ (∀ j, j < l * sz → olds[j]? = cur[j]?) ∧ (Builtin.firstCells I.size l (.slice A l c)).run P W.drew = .ok olds.toArray W.drew := by
      rcases hA with ⟨rfl, rfl, rfl⟩ | ⟨b, rfl, hlc, hcur, hcs⟩
      · exact ⟨[], by simp, fun j hj => by omega, rfl⟩
      · have hm : l * sz ≤ c * sz := Nat.mul_le_mul_right _ hlc
        refine ⟨cur.toList.take (l * sz), by rw [List.length_take, Array.length_toList]; omega, fun j hj => by rw [List.getElem?_take, if_pos hj]; simp, ?_⟩
        refine run_firstCells_some _ I.size l ⟨b, 0, none⟩ l c (cur.toList.take (l * sz)) (by rw [List.length_take, Array.length_toList, hs]; omega) fun j v hj => ?_
        rw [Addr.add_lit, Nat.zero_add]
        rw [List.getElem?_take] at hj
        split at hj
        · show W.cell? _ = _
          simp only [World.cell?, hcur]
          simpa using hj
        · cases hj
    obtain ⟨olds, ho1, ho2, ho3⟩ := hold
    have hm : (l + 1) * I.bytes ≤ 100001 * 1000 := Nat.mul_le_mul (by omega) hb2
    have hrun := fun ty => run_app_grow (P := P) (ty := ty) ht ht rfl hI hz hb1 (base := A) (sLen := l) (sCap := c) (olds := olds) (news := els.toList) hlen (hfirst W.drew rfl) ho3 (by omega) (by omega)
    have hge : l + 1 ≤ grownCap W (l + 1) c ety := grownCap_ge _ _ _ _
    obtain ⟨G, hG⟩ : ∃ G, grownCap W (l + 1) c ety = G := ⟨_, rfl⟩
    rw [hG] at hrun hge
    obtain ⟨R, hR⟩ : ∃ R, (olds ++ els.toList ++ (Builtin.zeroCells z.cells (G - (l + 1))).toList).toArray = R := ⟨_, rfl⟩
    rw [hR] at hrun
    have hRs : R.size = G * sz := by
      rw [← hR]
      rw [List.size_toArray, List.length_append, List.length_append, ho1, Array.length_toList, Array.length_toList, size_zeroCells, hEs, hzs, ← Nat.succ_mul, ← Nat.add_mul, show l.succ + (G - (l + 1)) = G by omega]
    refine ⟨W.heap.size, G, _, R, hrun, ⟨rfl, rfl, rfl, ?_, fun b hb _ => Ev.alloc_old W.drew _ b hb⟩, Ev.alloc_new W.drew _, hRs, hge, .inr (Nat.le_refl _), fun j hj => ?_, fun j hj => ?_⟩
    · show W.heap.size ≤ (W.heap.push _).size
      rw [Array.size_push]; omega
    · rw [← hR, List.getElem?_toArray, List.append_assoc, List.getElem?_append_left (by omega), ho2 j hj]
    · rw [← hR, List.getElem?_toArray, List.getElem?_append_left (by rw [List.length_append, ho1, Array.length_toList, hEs]; omega), List.getElem?_append_right (by omega), ho1, show l * sz + j - l * sz = j by omega]; simp
end
def flatC : AV → Bool
  | .v _ => true
  | .ow _ _ _ xs => xs.all fun e => e.all isVal
  | _ => false
where isVal : AV → Bool | .v _ => true | _ => false
def flatO : AV → Bool
  | .ob _ cs => cs.all flatC
  | _ => false
abbrev mu0 : Mu := fun _ => none
theorem mu0_imm (w : World) : ∀ b o, mu0 b = some o → w.heap[b]? = some o := fun b o h => by cases h
theorem flatC_b0 {μ : Mu} {hp : HF} {F : List Nat} {a : AV} {v : Value} (h : flatC a = true) (hb : B0 μ hp F a v) : B0 mu0 hp F a v := by
  cases hb with
  | d hd => cases hd with
    | v hx => exact .d (.v hx)
    | _ => cases h
  | own => exact .own
  | ow h1 h2 h3 h4 h5 =>
    refine .ow h1 rfl h3 h4 ⟨h5.1, fun i e j c he hc => ?_⟩
    obtain ⟨u, g1, g2⟩ := h5.2 i e j c he hc
    have := List.all_eq_true.1 (List.all_eq_true.1 h e (List.mem_of_getElem? he)) c (List.mem_of_getElem? hc)
    cases g2 with
    | v hx => exact ⟨u, g1, .v hx⟩
    | _ => cases this
theorem flatC_b0s {μ : Mu} {hp : HF} {F : List Nat} {cs : List AV} {vs : List Value} (hb : B0s μ hp F cs vs) : cs.all flatC = true → B0s mu0 hp F cs vs := by
  induction hb with
  | nil => exact fun _ => .nil
  | cons h _ ih =>
    intro h2
    rw [List.all_cons, Bool.and_eq_true] at h2
    exact .cons (flatC_b0 h2.1 h) (ih h2.2)
theorem flatO_b1 {μ : Mu} {hp : HF} {F : List Nat} {G : List Value} {a : AV} {v : Value} (h : flatO a = true) (hb : B1 μ hp F G a v) : B1 mu0 hp F G a v := by
  cases hb with
  | c h0 => cases h0 with
    | d hd => cases hd <;> cases h
    | ow => cases h
    | own => cases h
  | ob h1 h2 h3 => exact .ob h1 rfl (flatC_b0s h3 h)
  | row => cases h
theorem KeptW.trans {D D' : List Nat} {a b c : World} (h : KeptW D a b) (k : KeptW D' b c) (hd : ∀ x ∈ D', x ∈ D ∨ a.heap.size ≤ x) : KeptW D a c :=
  ⟨k.os.trans h.os, k.tape.trans h.tape, k.output.trans h.output, Nat.le_trans h.size k.size, fun x hx hn => (k.keep x (Nat.lt_of_lt_of_le hx h.size) fun hm => (hd x hm).elim hn (by omega)).trans (h.keep x hx hn)⟩
theorem KeptW.mono {D D' : List Nat} {a b : World} (h : KeptW D a b) (hd : ∀ x ∈ D, x ∈ D' ∨ a.heap.size ≤ x) : KeptW D' a b :=
  ⟨h.os, h.tape, h.output, h.size, fun x hx hn => h.keep x hx fun hm => (hd x hm).elim hn (by omega)⟩
theorem KeptW.hf {a b : World} (h : KeptW [] a b) : MuLe (Ev.hf a) (Ev.hf b) := fun x o hx => by
  have h0 : a.heap[x]? = some o := hx
  exact (h.keep x (Array.getElem?_eq_some_iff.1 h0).1 (List.not_mem_nil)).trans h0
theorem KeptW.get {D : List Nat} {a b : World} (h : KeptW D a b) {x : Nat} {o : Obj} (hx : a.heap[x]? = some o) (hd : x ∉ D) : b.heap[x]? = some o :=
  (h.keep x (Array.getElem?_eq_some_iff.1 hx).1 hd).trans hx
theorem KeptW.alloc (w : World) (o : Obj) : KeptW [] w (w.alloc o) :=
  ⟨rfl, rfl, rfl, by show _ ≤ (w.heap.push _).size; rw [Array.size_push]; omega, fun b hb _ => Ev.alloc_old w _ b hb⟩
theorem KeptW.set {w : World} {b j t : Nat} {cur : Array Value} {v : Value} (h : w.heap[b]? = some (.cells cur t (0, 0))) : KeptW [b] w (w.setCell ⟨b, j, none⟩ v) ∧ (w.setCell ⟨b, j, none⟩ v).heap[b]? = some (.cells (cur.setIfInBounds j v) t (0, 0)) := by
  rw [setCell_eq_setRow w b j cur t _ v h]
  exact ⟨⟨rfl, rfl, rfl, by rw [setRow_size]; exact Nat.le_refl _, fun x hx hn => setRow_other _ _ _ _ (by simpa using hn)⟩, setRow_heap _ _ _ _ _ _ h⟩
theorem cell_of {w : World} {b j t : Nat} {cur : Array Value} {fz : Nat × Nat} {v : Value} (h : w.heap[b]? = some (.cells cur t fz)) (hj : cur[j]? = some v) : w.cell? ⟨b, j, none⟩ = some v := by
  simp only [World.cell?, h, Option.isSome_none, Bool.false_eq_true, if_false]; exact hj
theorem frozen_of {w : World} {b t : Nat} {cur : Array Value} (h : w.heap[b]? = some (.cells cur t (0, 0))) (j : Nat) : w.frozen? ⟨b, j, none⟩ = false := by
  simp [World.frozen?, h]
theorem b1s_one {μ : Mu} {hp : HF} {F : List Nat} {G : List Value} {a : AV} {vs : List Value} (h : B1s μ hp F G [a] vs) : ∃ v, vs = [v] ∧ B1 μ hp F G a v := by
  cases h with
  | cons h k => cases k; rw [List.append_nil, List.append_nil]; exact ⟨_, rfl, h⟩
theorem b2s_one {μ : Mu} {hp : HF} {F : List Nat} {G : List Value} {a : AV} {vs : List Value} (h : B2s μ hp F G [a] vs) : ∃ v, vs = [v] ∧ B2 μ hp F G a v := by
  cases h with
  | cons h k => cases k; rw [List.append_nil, List.append_nil]; exact ⟨_, rfl, h⟩
theorem b1s_nil {μ : Mu} {hp : HF} {F : List Nat} {G : List Value} {cs : List AV} {vs : List Value} (h : B1s μ hp F G cs vs) (e : vs = []) : cs = [] ∧ F = [] := by
  cases h with
  | nil => exact ⟨rfl, rfl⟩
  | cons _ _ => cases e
theorem b2s_vals {μ : Mu} {hp : HF} : ∀ vs : List Value, (∀ v ∈ vs, okC (.v v) = true) → B2s μ hp [] [] (vs.map AV.v) vs
  | [], _ => .nil
  | v :: vs, h => .cons (F := []) (F' := []) (G := []) (G' := []) (.o (.c (.d (.v (h v (by simp)))))) (b2s_vals vs fun x hx => h x (List.mem_cons_of_mem _ hx))
theorem b2s_vals_inv {μ : Mu} {hp : HF} {F : List Nat} {G : List Value} : ∀ (xs : List Value) {vs : List Value} {F : List Nat} {G : List Value}, B2s μ hp F G (xs.map AV.v) vs → vs = xs ∧ F = []
  | [], vs, F, G, h => by cases h; exact ⟨rfl, rfl⟩
  | x :: xs, vs, F, G, h => by
    obtain ⟨F1, F2, G1, G2, v, vs', rfl, rfl, rfl, h1, h2⟩ := b2s_cons h
    obtain ⟨rfl, rfl, rfl⟩ := b2_v h1
    obtain ⟨rfl, rfl⟩ := b2s_vals_inv (F := F2) (G := G2) xs h2
    exact ⟨rfl, rfl⟩
section
variable {P : Program} {C : Cfg}
theorem call_lent (hmix : P.follows .mixedOrders = true) (hx : ExtS P C) {f : FuncId} {bs rs : List AV} (h : evL P C f bs = some rs) {fn : Func} (hfn : P.funcs[f]? = some fn) {w : World} {vals : List Value}
    (hB : B2s (hf w) (hf w) [] [] bs vals) : Calls P f vals.toArray w fun e w' => ∃ (vs : List Value) (μ' : Mu) (F1 : List Nat) (G1 : List Value), e = .returned (retV vs) ∧ KeptW [] w w' ∧ MuLe μ' (hf w') ∧ B2s μ' (hf w') F1 G1 rs vs := by
  refine (call_rest hmix hx h hfn (fun b o hb => hb) hB List.nodup_nil (Owns.nil _ _) (fun b hb => by cases hb)).mono fun e w' he => ?_
  obtain ⟨ra, ro, vs, μ', F1, F2, G1, rfl, _, rfl, hk, _, hi, h1, h2, _⟩ := he
  obtain ⟨rfl, _⟩ := b1s_nil h2 rfl
  rw [List.append_nil]
  exact ⟨vs, μ', F1, G1, rfl, hk, hi, h1⟩
end
theorem dr_ow {μ : Mu} {w : World} {F : List Nat} {G : List Value} {fr : Bool} {ty sz : Nat} {xs : List (List AV)} {v : Value} (hle : MuLe μ (hf w)) (h : B2 μ (hf w) F G (.ow fr ty sz xs) v) : ∃ (A : Option Addr) (n c : Nat) (b : Bool), v = .slice A n c ∧ DR (hf w) (.lst b sz xs) v := by
  cases h with
  | o h => cases h with
    | c h => cases h with
      | d h => cases h
      | own => exact ⟨none, 0, 0, true, rfl, DR.lst (A := none) (c := 0) (xs := []) (fun _ _ => undef) rfl (fun _ => ⟨rfl, rfl⟩) (Nat.le_refl _) (fun e he => by cases he) (fun a ha => by cases ha) (fun k e j u hk => by simp at hk)⟩
      | @ow b cap _ _ _ cur hb hm hc hs hr =>
        obtain ⟨fz, hcell, _⟩ := hb
        refine ⟨_, _, _, false, rfl, .lst (fun k j => (cur[k * sz + j]?).getD undef) rfl (fun x => by cases x) hc hr.1 (fun a ha k j hk hj => ?_) (fun k e j u hk hj => ?_)⟩
        · cases ha
          have hek := List.getElem?_eq_getElem hk
          obtain ⟨y, hy, _⟩ := hr.2 k _ j _ hek (List.getElem?_eq_getElem (by rw [hr.1 _ (List.getElem_mem hk)]; exact hj))
          rw [Addr.add_lit]
          unfold muCell
          simp [hcell, hy]
        · obtain ⟨y, hy, hdy⟩ := hr.2 k e j u hk hj
          simp only [hy, Option.getD_some]
          exact hdy.mono hle
end Go.Ev
