/- Calls of Go's library that are told to the evaluator: what the shelf's contracts say,in the evaluator's words. -/
import Derived.Shelf.Strings.OnBuilder
import Derived.Shelf.Strings.IndexAnyAll
import Derived.Shelf.Spec.SlicesGrow
import Derived.Shelf.SlicesE.Reverse
import Derived.Test.YtnjccbnlmdajkaaEv11
set_option linter.all false
namespace Go.Ev
open Go Go.Proofs Go.Shelf Go.RowKit
def bs (l : List UInt8) : ByteArray := ⟨l.toArray⟩
theorem b1_v {μ : Mu} {hp : HF} {F : List Nat} {G : List Value} {x v : Value} (h : B1 μ hp F G (.v x) v) : F = []∧G = []∧v = x := by
 cases h with
 | c h => cases h with
  | d h => cases h with
   | v _ => exact ⟨rfl,rfl,rfl⟩
theorem b1_lst {μ : Mu} {hp : HF} {F : List Nat} {G : List Value} {nil : Bool} {sz : Nat} {xs : List (List AV)} {v : Value} (h : B1 μ hp F G (.lst nil sz xs) v) : F = []∧G = []∧DR μ (.lst nil sz xs) v := by
 cases h with
 | c h => cases h with
  | d h => exact ⟨rfl,rfl,h⟩
theorem b2_v {μ : Mu} {hp : HF} {F : List Nat} {G : List Value} {x v : Value} (h : B2 μ hp F G (.v x) v) : F = []∧G = []∧v = x := by
 cases h with
 | o h => exact b1_v h
theorem b2_lst {μ : Mu} {hp : HF} {F : List Nat} {G : List Value} {nil : Bool} {sz : Nat} {xs : List (List AV)} {v : Value} (h : B2 μ hp F G (.lst nil sz xs) v) : F = []∧G = []∧DR μ (.lst nil sz xs) v := by
 cases h with
 | o h => exact b1_lst h
theorem b2s_cons {μ : Mu} {hp : HF} {F : List Nat} {G : List Value} {a : AV} {cs : List AV} {vs : List Value} (h : B2s μ hp F G (a :: cs) vs) : ∃ F1 F2 G1 G2 v vs',F = F1 ++ F2∧G = G1 ++ G2∧vs = v :: vs'∧B2 μ hp F1 G1 a v∧B2s μ hp F2 G2 cs vs' := by
 cases h with
 | cons h k => exact ⟨_,_,_,_,_,_,rfl,rfl,rfl,h,k⟩
theorem b2s_nil {μ : Mu} {hp : HF} {F : List Nat} {G : List Value} {vs : List Value} (h : B2s μ hp F G [] vs) : F = []∧G = []∧vs = [] := by
 cases h; exact ⟨rfl,rfl,rfl⟩
def TellS (P : Program) (f : FuncId) (g : List AV → Option (List AV)) : Prop := ∀ bs rs,g bs = some rs → ∃ fn,P.funcs[f]? = some fn ∧
  ∀ (w : World) (μ : Mu) (F : List Nat) (G vals : List Value),(∀ b o,μ b = some o → w.heap[b]? = some o) → B2s μ (hf w) F G bs vals → F.Nodup →
   Calls P f vals.toArray w fun e w' => ∃ (ra ro : List AV) (vs : List Value) (μ' : Mu) (F1 F2 : List Nat) (G1 : List Value),rs = ra ++ ro∧ra.length = fn.resultTypes.size∧e = .returned (retV vs)∧Frm ⟨w,(· ∈ F),μ⟩ μ' w' ∧
    (∀ b o,μ' b = some o → w'.heap[b]? = some o)∧B2s μ' (hf w') F1 G1 ra vs∧B1s μ' (hf w') F2 G ro G∧(F1 ++ F2).Nodup∧∀ b ∈ F1 ++ F2,b ∈ F ∨ w.heap.size ≤ b
section
variable {P : Program}
end
end Go.Ev
namespace Go.Ev
open Go
abbrev B := List UInt8
end Go.Ev
namespace Go.Ev
open Go Go.Proofs
section
variable {μ μ' : Mu} {hp hp' : HF} {F : List Nat} {G : List Value}
theorem B0.heap {a : AV} {v : Value} (h : B0 μ hp F a v) (hh : ∀ b ∈ F,hp' b = hp b) : B0 μ hp' F a v := by
 cases h with
 | d hd => exact .d hd
 | ow h1 h2 h3 h4 h5 => obtain ⟨fz,e,ok⟩ := h1; exact .ow ⟨fz,(hh _ (by simp)).trans e,ok⟩ h2 h3 h4 h5
 | own => exact .own
theorem B0s.heap {cs : List AV} {vs : List Value} (h : B0s μ hp F cs vs) (hh : ∀ b ∈ F,hp' b = hp b) : B0s μ hp' F cs vs := by
 induction h with
 | nil => exact .nil
 | cons h _ ih => exact .cons (h.heap fun b hb => hh b (List.mem_append_left _ hb)) (ih fun b hb => hh b (List.mem_append_right _ hb))
theorem B1.heap {a : AV} {v : Value} (h : B1 μ hp F G a v) (hh : ∀ b ∈ F,hp' b = hp b) : B1 μ hp' F G a v := by
 cases h with
 | c h => exact .c (h.heap hh)
 | ob h hm hc => exact .ob ((hh _ (by simp)).trans h) hm (hc.heap fun b hb => hh b (List.mem_cons_of_mem _ hb))
 | row h hn => exact .row (h.heap hh) hn
theorem B0.ownd {a : AV} {v : Value} (h : B0 μ hp F a v) : ∀ b ∈ F,μ b = none∧∃ o,hp b = some o := fun b hb => by
 cases h with
 | d hd => cases hb
 | ow h1 h2 => obtain ⟨fz,e,_⟩ := h1; simp at hb; subst hb; exact ⟨h2,_,e⟩
 | own => cases hb
theorem B0s.ownd {cs : List AV} {vs : List Value} (h : B0s μ hp F cs vs) : ∀ b ∈ F,μ b = none∧∃ o,hp b = some o := by
 induction h with
 | nil => exact fun b hb => by cases hb
 | cons h _ ih => exact fun b hb => (List.mem_append.1 hb).elim (h.ownd b) (ih b)
theorem B1.ownd {a : AV} {v : Value} (h : B1 μ hp F G a v) : ∀ b ∈ F,μ b = none∧∃ o,hp b = some o := fun b hb => by
 cases h with
 | c h => exact h.ownd b hb
 | ob h hm hc =>
  rcases List.mem_cons.1 hb with rfl | hb
  ·exact ⟨hm,_,h⟩
  ·exact hc.ownd b hb
 | row h hn => exact h.ownd b hb
end
theorem B1s.own {μ : Mu} {hp : HF} {F : List Nat} {G : List Value} {cs : List AV} {vs : List Value} (h : B1s μ hp F G cs vs) : ∀ b ∈ F,μ b = none∧∃ o,hp b = some o := by
 induction h with
 | nil => exact fun b hb => by cases hb
 | cons h _ ih => exact fun b hb => (List.mem_append.1 hb).elim (h.ownd b) (ih b)
structure ItemO where
 p : Value
 F : List Nat
 a : AV
def foot (l : List ItemO) : List Nat := l.flatMap ItemO.F
structure Owns (μ : Mu) (w : World) (l : List ItemO) : Prop where
 ok : ∀ x ∈ l,B1 μ (hf w) x.F [x.p] x.a x.p
 nd : (foot l).Nodup
theorem foot_cons (x : ItemO) (l : List ItemO) : foot (x :: l) = x.F ++ foot l := rfl
theorem foot_app (a b : List ItemO) : foot (a ++ b) = foot a ++ foot b := by simp [foot]
theorem Owns.nil (μ : Mu) (w : World) : Owns μ w [] := ⟨fun x h => (by cases h),List.nodup_nil⟩
theorem Owns.own {μ : Mu} {w : World} {l : List ItemO} (h : Owns μ w l) : ∀ b ∈ foot l,μ b = none∧b < w.heap.size := fun b hb => by
 obtain ⟨x,hx,hb⟩ := List.mem_flatMap.1 hb
 obtain ⟨h1,o,h2⟩ := (h.ok x hx).ownd b hb
 exact ⟨h1,(Array.getElem?_eq_some_iff.1 h2).1⟩
theorem Owns.perm {μ : Mu} {w : World} {l l' : List ItemO} (h : Owns μ w l) (hp : l.Perm l') : Owns μ w l' :=
 ⟨fun x hx => h.ok x (hp.mem_iff.2 hx),(List.Perm.flatMap_right ItemO.F hp).nodup_iff.1 h.nd⟩
theorem Owns.cons {μ : Mu} {w : World} {x : ItemO} {l : List ItemO} (hx : B1 μ (hf w) x.F [x.p] x.a x.p) (hn : x.F.Nodup) (h : Owns μ w l) (hd : ∀ b ∈ x.F,b ∉ foot l) : Owns μ w (x :: l) :=
 ⟨fun y hy => (List.mem_cons.1 hy).elim (fun e => by subst e; exact hx) (h.ok y),by
  rw [foot_cons]; exact List.nodup_append.2 ⟨hn,h.nd,fun a ha b hb e => hd a ha (e ▸ hb)⟩⟩
theorem Owns.head {μ : Mu} {w : World} {x : ItemO} {l : List ItemO} (h : Owns μ w (x :: l)) : B1 μ (hf w) x.F [x.p] x.a x.p∧x.F.Nodup∧Owns μ w l∧∀ b ∈ x.F,b ∉ foot l := by
 have hn := h.nd
 rw [foot_cons] at hn
 obtain ⟨h1,h2,h3⟩ := List.nodup_append.1 hn
 exact ⟨h.ok x (by simp),h1,⟨fun y hy => h.ok y (List.mem_cons_of_mem _ hy),h2⟩,fun b hb hc => h3 b hb b hc rfl⟩
structure KeptW (D : List Nat) (w w' : World) : Prop where
 os : w'.os = w.os
 tape : w'.tape = w.tape
 output : w'.output = w.output
 size : w.heap.size ≤ w'.heap.size
 keep : ∀ b,b < w.heap.size → b ∉ D → w'.heap[b]? = w.heap[b]?
theorem KeptW.refl (D : List Nat) (w : World) : KeptW D w w := ⟨rfl,rfl,rfl,Nat.le_refl _,fun _ _ _ => rfl⟩
theorem Owns.kept {μ μ' : Mu} {w w' : World} {D : List Nat} {l : List ItemO} (h : Owns μ w l) (k : KeptW D w w') (hm : MuLe μ μ') (hnew : ∀ b o,μ' b = some o → μ b = some o ∨ b ∈ D ∨ w.heap.size ≤ b) (hd : ∀ b ∈ D,b ∉ foot l) : Owns μ' w' l :=
 ⟨fun x hx => by
  have hF : ∀ b ∈ x.F,b ∈ foot l := fun b hb => List.mem_flatMap.2 ⟨x,hx,hb⟩
  refine ((h.ok x hx).mono hm fun b hb => ?_).heap fun b hb => ?_
  ·obtain ⟨h1,h2⟩ := h.own b (hF b hb)
   cases e : μ' b with
   | none => rfl
   | some o =>
    rcases hnew b o e with h3 | h3 | h3
    ·rw [h1] at h3; cases h3
    ·exact absurd (hF b hb) (hd b h3)
    ·omega
  ·exact k.keep b (h.own b (hF b hb)).2 fun hb2 => hd b hb2 (hF b hb),h.nd⟩
section
variable {P : Program} {C : Cfg}
theorem call_rest (hmix : P.follows .mixedOrders = true) (hx : ExtS P C) {f : FuncId} {bs rs : List AV} (h : evL P C f bs = some rs) {fn : Func} (hfn : P.funcs[f]? = some fn) {w : World} {μ : Mu} {F : List Nat} {G vals : List Value}
  (himm : ∀ b o,μ b = some o → w.heap[b]? = some o) (hB : B2s μ (hf w) F G bs vals) (hnd : F.Nodup) {l : List ItemO} (hl : Owns μ w l) (hd : ∀ b ∈ F,b ∉ foot l) :
  Calls P f vals.toArray w fun e w' => ∃ (ra ro : List AV) (vs : List Value) (μ' : Mu) (F1 F2 : List Nat) (G1 : List Value),rs = ra ++ ro∧ra.length = fn.resultTypes.size∧e = .returned (retV vs)∧KeptW F w w'∧MuLe μ μ' ∧
   (∀ b o,μ' b = some o → w'.heap[b]? = some o)∧B2s μ' (hf w') F1 G1 ra vs∧B1s μ' (hf w') F2 G ro G∧(F1 ++ F2).Nodup∧(∀ b ∈ F1 ++ F2,b ∈ F ∨ w.heap.size ≤ b)∧Owns μ' w' l∧(∀ b ∈ F1 ++ F2,b ∉ foot l) ∧
   (∀ b o,μ' b = some o → μ b = some o ∨ b ∈ F ∨ w.heap.size ≤ b) := by
 obtain ⟨n,hn⟩ := evF_of_evL h
 obtain ⟨fn',h1,h2⟩ := evF_sound hmix hx n f bs rs hn
 rw [hfn] at h1
 obtain rfl := Option.some.inj h1
 refine (h2 w μ F G vals himm hB hnd).mono fun e w' he => ?_
 obtain ⟨ra,ro,vs,μ',F1,F2,G1,hrs,hsz,he,hfr,hi,hb1,hb2,hnd2,hnew⟩ := he
 have hk : KeptW F w w' := ⟨hfr.os,hfr.tape,hfr.output,hfr.size,fun b hb hn => hfr.keep b hb hn⟩
 refine ⟨ra,ro,vs,μ',F1,F2,G1,hrs,hsz,he,hk,hfr.mu,hi,hb1,hb2,hnd2,hnew,hl.kept hk hfr.mu hfr.muNew hd,fun b hb hc => ?_,hfr.muNew⟩
 rcases hnew b hb with h | h
 ·exact hd b h hc
 ·have := (hl.own b hc).2; omega
end
section
variable {P : Program}
open Go.Shelf Go.Lib Go.RowKit
theorem app_raw {t ety sz : Nat} {z : Value} {I : TypeInfo} (ht : P.underlying t = some (.slice ety)) (hI : P.info? ety = some I) (hz : I.zero = some z) (hs : I.size = sz) (hb1 : 0 < I.bytes) (hb2 : I.bytes ≤ 1000) (hzs : z.cells.size = sz)
  {W : World} {A : Option Addr} {l c E : Nat} {cur els : Array Value} (hl : l ≤ 100000) (hA : (A = none∧l = 0∧c = 0) ∨ ∃ b,A = some ⟨b,0,none⟩∧l ≤ c∧W.heap[b]? = some (.cells cur ety (0,0))∧cur.size = c * sz)
  (hE : W.heap[E]? = some (.cells els ety (0,0))) (hEs : els.size = sz) (hone : ∀ v ∈ els.toList,v.oneCell' = true) :
  ∃ (b c' : Nat) (W2 : World) (cur' : Array Value),(∀ ty,(Builtin.append_ #[t,t] ty #[.slice A l c,.slice (some ⟨E,0,none⟩) 1 1]).run P W = .ok (.slice (some ⟨b,0,none⟩) (l + 1) c') W2)∧KeptW [b] W W2∧W2.heap[b]? = some (.cells cur' ety (0,0)) ∧
   cur'.size = c' * sz∧l + 1 ≤ c'∧(A = some ⟨b,0,none⟩ ∨ W.heap.size ≤ b)∧(∀ j,j < l * sz → cur'[j]? = cur[j]?)∧∀ j,j < sz → cur'[l * sz + j]? = els[j]? := by
 have hlen : ∀ w : World,(Builtin.lenOf (.slice (some ⟨E,0,none⟩) 1 1)).run P w = .ok 1 w := fun _ => rfl
 have hfirst : ∀ W' : World,W'.heap = W.heap → (Builtin.firstCells I.size 1 (.slice (some ⟨E,0,none⟩) 1 1)).run P W' = .ok els.toList.toArray W' := fun W' hW' => by
  refine run_firstCells_some _ I.size 1 ⟨E,0,none⟩ 1 1 els.toList (by rw [hs,Array.length_toList,hEs]; omega) fun j v hj => ?_
  rw [Addr.add_lit,Nat.zero_add]
  simp only [World.cell?,hW',hE]
  simpa using hj
 by_cases hroom : l + 1 ≤ c
 ·rcases hA with ⟨_,_,hc⟩ | ⟨b,rfl,hlc,hcur,hcs⟩
  ·omega
  ·have hm : (l + 1) * sz ≤ c * sz := Nat.mul_le_mul_right _ hroom
   rw [Nat.succ_mul] at hm
   have hst := run_storeCells_fz P b (l * sz) ety false (0,0) els.toList 0 cur W hcur (.inl rfl) (by rw [Array.length_toList,hEs,hcs]; omega) hone
   obtain ⟨cur',hcur'⟩ : ∃ cur',(cur.toList.take (l * sz + 0) ++ els.toList ++ cur.toList.drop (l * sz + 0 + els.toList.length)).toArray = cur' := ⟨_,rfl⟩
   rw [hcur'] at hst
   have ltake : (cur.toList.take (l * sz + 0)).length = l * sz := by rw [List.length_take,Array.length_toList]; omega
   have hsz : cur'.size = cur.size := by
    rw [← hcur']
    show (_ : List Value).length = _
    rw [List.length_append,List.length_append,ltake,List.length_drop,Array.length_toList,Array.length_toList]; omega
   refine ⟨b,c,W.setRow b cur',cur',fun ty => ?_,⟨rfl,rfl,rfl,by rw [setRow_size]; exact Nat.le_refl _,fun x hx hn => setRow_other _ _ _ _ (by simpa using hn)⟩,setRow_heap _ _ _ _ _ _ hcur,by rw [hsz,hcs],hroom,.inl rfl,fun j hj => ?_,fun j hj => ?_⟩
   ·refine run_app_room ht ht rfl hI hlen (by rw [hfirst W rfl]) hroom ?_
    show (storeCells _ _).run P W = _
    rw [Addr.add_lit,hs,Nat.zero_add]
    exact hst
   ·rw [← hcur',List.getElem?_toArray,List.append_assoc,List.getElem?_append_left (by omega),List.getElem?_take,if_pos (by omega)]; simp
   ·rw [← hcur',List.getElem?_toArray,List.getElem?_append_left (by rw [List.length_append,ltake,Array.length_toList,hEs]; omega),List.getElem?_append_right (by omega),ltake,show l * sz + j - l * sz = j by omega]; simp
 ·have hold : ∃ olds : List Value,olds.length = l * sz∧(∀ j,j < l * sz → olds[j]? = cur[j]?)∧(Builtin.firstCells I.size l (.slice A l c)).run P W.drew = .ok olds.toArray W.drew := by
   rcases hA with ⟨rfl,rfl,rfl⟩ | ⟨b,rfl,hlc,hcur,hcs⟩
   ·exact ⟨[],by simp,fun j hj => by omega,rfl⟩
   ·have hm : l * sz ≤ c * sz := Nat.mul_le_mul_right _ hlc
    refine ⟨cur.toList.take (l * sz),by rw [List.length_take,Array.length_toList]; omega,fun j hj => by rw [List.getElem?_take,if_pos hj]; simp,?_⟩
    refine run_firstCells_some _ I.size l ⟨b,0,none⟩ l c (cur.toList.take (l * sz)) (by rw [List.length_take,Array.length_toList,hs]; omega) fun j v hj => ?_
    rw [Addr.add_lit,Nat.zero_add]
    rw [List.getElem?_take] at hj
    split at hj
    ·show W.cell? _ = _
     simp only [World.cell?,hcur]
     simpa using hj
    ·cases hj
  obtain ⟨olds,ho1,ho2,ho3⟩ := hold
  have hm : (l + 1) * I.bytes ≤ 100001 * 1000 := Nat.mul_le_mul (by omega) hb2
  have hrun := fun ty => run_app_grow (P := P) (ty := ty) ht ht rfl hI hz hb1 (base := A) (sLen := l) (sCap := c) (olds := olds) (news := els.toList) hlen (hfirst W.drew rfl) ho3 (by omega) (by omega)
  have hge : l + 1 ≤ grownCap W (l + 1) c ety := grownCap_ge _ _ _ _
  obtain ⟨G,hG⟩ : ∃ G,grownCap W (l + 1) c ety = G := ⟨_,rfl⟩
  rw [hG] at hrun hge
  obtain ⟨R,hR⟩ : ∃ R,(olds ++ els.toList ++ (Builtin.zeroCells z.cells (G - (l + 1))).toList).toArray = R := ⟨_,rfl⟩
  rw [hR] at hrun
  have hRs : R.size = G * sz := by
   rw [← hR]
   rw [List.size_toArray,List.length_append,List.length_append,ho1,Array.length_toList,Array.length_toList,size_zeroCells,hEs,hzs,← Nat.succ_mul,← Nat.add_mul,show l.succ + (G - (l + 1)) = G by omega]
  refine ⟨W.heap.size,G,_,R,hrun,⟨rfl,rfl,rfl,?_,fun b hb _ => Ev.alloc_old W.drew _ b hb⟩,Ev.alloc_new W.drew _,hRs,hge,.inr (Nat.le_refl _),fun j hj => ?_,fun j hj => ?_⟩
  ·show W.heap.size ≤ (W.heap.push _).size
   rw [Array.size_push]; omega
  ·rw [← hR,List.getElem?_toArray,List.append_assoc,List.getElem?_append_left (by omega),ho2 j hj]
  ·rw [← hR,List.getElem?_toArray,List.getElem?_append_left (by rw [List.length_append,ho1,Array.length_toList,hEs]; omega),List.getElem?_append_right (by omega),ho1,show l * sz + j - l * sz = j by omega]; simp
end
def flatV : AV → Bool
 | .v _ => true
 | .lst true _ [] => true
 | _ => false
def flatC : AV → Bool
 | .ow _ _ _ xs => xs.all fun e => e.all flatV
 | a => flatV a
def flatO : AV → Bool
 | .ob _ cs => cs.all flatC
 | _ => false
abbrev mu0 : Mu := fun _ => none
theorem mu0_imm (w : World) : ∀ b o,mu0 b = some o → w.heap[b]? = some o := fun b o h => by cases h
theorem dr_flat {μ : Mu} {a : AV} {v : Value} (h : flatV a = true) (hd : DR μ a v) : DR mu0 a v := by
 cases hd with
 | v hx => exact .v hx
 | @lst nil sz xs A c vals hnil hA hc hsz hcell hv =>
  unfold flatV at h
  split at h
  ·rename_i e; cases e
  ·rename_i e
   cases e
   cases A with
   | none => exact .lst vals hnil hA hc hsz (fun a ha => by cases ha) (fun k e j u hk => by simp at hk)
   | some a => cases hnil
  ·cases h
 | ep => cases h
 | clo => cases h
theorem flatC_b0 {μ : Mu} {hp : HF} {F : List Nat} {a : AV} {v : Value} (h : flatC a = true) (hb : B0 μ hp F a v) : B0 mu0 hp F a v := by
 cases hb with
 | d hd => cases hd with
  | v hx => exact .d (.v hx)
  | lst vals a1 a2 a3 a4 a5 a6 => exact .d (dr_flat h (.lst vals a1 a2 a3 a4 a5 a6))
  | ep => cases h
  | clo => cases h
 | own => exact .own
 | ow h1 h2 h3 h4 h5 =>
  refine .ow h1 rfl h3 h4 ⟨h5.1,fun i e j c he hc => ?_⟩
  obtain ⟨u,g1,g2⟩ := h5.2 i e j c he hc
  have := List.all_eq_true.1 (List.all_eq_true.1 h e (List.mem_of_getElem? he)) c (List.mem_of_getElem? hc)
  exact ⟨u,g1,dr_flat this g2⟩
theorem flatC_b0s {μ : Mu} {hp : HF} {F : List Nat} {cs : List AV} {vs : List Value} (hb : B0s μ hp F cs vs) : cs.all flatC = true → B0s mu0 hp F cs vs := by
 induction hb with
 | nil => exact fun _ => .nil
 | cons h _ ih =>
  intro h2
  rw [List.all_cons,Bool.and_eq_true] at h2
  exact .cons (flatC_b0 h2.1 h) (ih h2.2)
theorem flatO_b1 {μ : Mu} {hp : HF} {F : List Nat} {G : List Value} {a : AV} {v : Value} (h : flatO a = true) (hb : B1 μ hp F G a v) : B1 mu0 hp F G a v := by
 cases hb with
 | c h0 => cases h0 with
  | d hd => cases hd <;> cases h
  | ow => cases h
  | own => cases h
 | ob h1 h2 h3 => exact .ob h1 rfl (flatC_b0s h3 h)
 | row => cases h
theorem KeptW.trans {D D' : List Nat} {a b c : World} (h : KeptW D a b) (k : KeptW D' b c) (hd : ∀ x ∈ D',x ∈ D ∨ a.heap.size ≤ x) : KeptW D a c :=
 ⟨k.os.trans h.os,k.tape.trans h.tape,k.output.trans h.output,Nat.le_trans h.size k.size,fun x hx hn => (k.keep x (Nat.lt_of_lt_of_le hx h.size) fun hm => (hd x hm).elim hn (by omega)).trans (h.keep x hx hn)⟩
theorem KeptW.mono {D D' : List Nat} {a b : World} (h : KeptW D a b) (hd : ∀ x ∈ D,x ∈ D' ∨ a.heap.size ≤ x) : KeptW D' a b :=
 ⟨h.os,h.tape,h.output,h.size,fun x hx hn => h.keep x hx fun hm => (hd x hm).elim hn (by omega)⟩
theorem KeptW.hf {a b : World} (h : KeptW [] a b) : MuLe (Ev.hf a) (Ev.hf b) := fun x o hx => by
 have h0 : a.heap[x]? = some o := hx
 exact (h.keep x (Array.getElem?_eq_some_iff.1 h0).1 (List.not_mem_nil)).trans h0
theorem KeptW.get {D : List Nat} {a b : World} (h : KeptW D a b) {x : Nat} {o : Obj} (hx : a.heap[x]? = some o) (hd : x ∉ D) : b.heap[x]? = some o :=
 (h.keep x (Array.getElem?_eq_some_iff.1 hx).1 hd).trans hx
theorem KeptW.alloc (w : World) (o : Obj) : KeptW [] w (w.alloc o) :=
 ⟨rfl,rfl,rfl,by show _ ≤ (w.heap.push _).size; rw [Array.size_push]; omega,fun b hb _ => Ev.alloc_old w _ b hb⟩
theorem KeptW.set {w : World} {b j t : Nat} {cur : Array Value} {v : Value} (h : w.heap[b]? = some (.cells cur t (0,0))) : KeptW [b] w (w.setCell ⟨b,j,none⟩ v)∧(w.setCell ⟨b,j,none⟩ v).heap[b]? = some (.cells (cur.setIfInBounds j v) t (0,0)) := by
 rw [setCell_eq_setRow w b j cur t _ v h]
 exact ⟨⟨rfl,rfl,rfl,by rw [setRow_size]; exact Nat.le_refl _,fun x hx hn => setRow_other _ _ _ _ (by simpa using hn)⟩,setRow_heap _ _ _ _ _ _ h⟩
theorem cell_of {w : World} {b j t : Nat} {cur : Array Value} {fz : Nat × Nat} {v : Value} (h : w.heap[b]? = some (.cells cur t fz)) (hj : cur[j]? = some v) : w.cell? ⟨b,j,none⟩ = some v := by
 simp only [World.cell?,h,Option.isSome_none,Bool.false_eq_true,if_false]; exact hj
theorem frozen_of {w : World} {b t : Nat} {cur : Array Value} (h : w.heap[b]? = some (.cells cur t (0,0))) (j : Nat) : w.frozen? ⟨b,j,none⟩ = false := by
 simp [World.frozen?,h]
theorem b1s_one {μ : Mu} {hp : HF} {F : List Nat} {G : List Value} {a : AV} {vs : List Value} (h : B1s μ hp F G [a] vs) : ∃ v,vs = [v]∧B1 μ hp F G a v := by
 cases h with
 | cons h k => cases k; rw [List.append_nil,List.append_nil]; exact ⟨_,rfl,h⟩
theorem b2s_one {μ : Mu} {hp : HF} {F : List Nat} {G : List Value} {a : AV} {vs : List Value} (h : B2s μ hp F G [a] vs) : ∃ v,vs = [v]∧B2 μ hp F G a v := by
 cases h with
 | cons h k => cases k; rw [List.append_nil,List.append_nil]; exact ⟨_,rfl,h⟩
theorem b1s_nil {μ : Mu} {hp : HF} {F : List Nat} {G : List Value} {cs : List AV} {vs : List Value} (h : B1s μ hp F G cs vs) (e : vs = []) : cs = []∧F = [] := by
 cases h with
 | nil => exact ⟨rfl,rfl⟩
 | cons _ _ => cases e
theorem b2s_vals {μ : Mu} {hp : HF} : ∀ vs : List Value,(∀ v ∈ vs,okC (.v v) = true) → B2s μ hp [] [] (vs.map AV.v) vs
 | [],_ => .nil
 | v :: vs,h => .cons (F := []) (F' := []) (G := []) (G' := []) (.o (.c (.d (.v (h v (by simp)))))) (b2s_vals vs fun x hx => h x (List.mem_cons_of_mem _ hx))
theorem b2s_vals_inv {μ : Mu} {hp : HF} {F : List Nat} {G : List Value} : ∀ (xs : List Value) {vs : List Value} {F : List Nat} {G : List Value},B2s μ hp F G (xs.map AV.v) vs → vs = xs∧F = []
 | [],vs,F,G,h => by cases h; exact ⟨rfl,rfl⟩
 | x :: xs,vs,F,G,h => by
  obtain ⟨F1,F2,G1,G2,v,vs',rfl,rfl,rfl,h1,h2⟩ := b2s_cons h
  obtain ⟨rfl,rfl,rfl⟩ := b2_v h1
  obtain ⟨rfl,rfl⟩ := b2s_vals_inv (F := F2) (G := G2) xs h2
  exact ⟨rfl,rfl⟩
section
variable {P : Program} {C : Cfg}
theorem call_lent (hmix : P.follows .mixedOrders = true) (hx : ExtS P C) {f : FuncId} {bs rs : List AV} (h : evL P C f bs = some rs) {fn : Func} (hfn : P.funcs[f]? = some fn) {w : World} {vals : List Value}
  (hB : B2s (hf w) (hf w) [] [] bs vals) : Calls P f vals.toArray w fun e w' => ∃ (vs : List Value) (μ' : Mu) (F1 : List Nat) (G1 : List Value),e = .returned (retV vs)∧KeptW [] w w'∧MuLe μ' (hf w')∧B2s μ' (hf w') F1 G1 rs vs := by
 refine (call_rest hmix hx h hfn (fun b o hb => hb) hB List.nodup_nil (Owns.nil _ _) (fun b hb => by cases hb)).mono fun e w' he => ?_
 obtain ⟨ra,ro,vs,μ',F1,F2,G1,rfl,_,rfl,hk,_,hi,h1,h2,_⟩ := he
 obtain ⟨rfl,_⟩ := b1s_nil h2 rfl
 rw [List.append_nil]
 exact ⟨vs,μ',F1,G1,rfl,hk,hi,h1⟩
end
structure RawB where
 b : Nat
 o : Obj
abbrev rawC (b : Nat) (cur : Array Value) (t : TypeId) : RawB := ⟨b,.cells cur t (0,0)⟩
structure Wst (w : World) (its : List ItemO) (raw : List RawB) (W : World) : Prop where
 kept : KeptW [] w W
 own : Owns mu0 W its
 blk : ∀ (i : Nat) (r : RawB),raw[i]? = some r → W.heap[r.b]? = some r.o∧r.b ∉ foot its∧w.heap.size ≤ r.b
 nd : ∀ (i j : Nat) (r s : RawB),raw[i]? = some r → raw[j]? = some s → r.b = s.b → i = j
 new : ∀ b ∈ foot its,w.heap.size ≤ b
theorem Wst.keptW {w W W' : World} {its : List ItemO} {raw : List RawB} {D : List Nat} (h : Wst w its raw W) (k : KeptW D W W') (hf : ∀ b ∈ D,b ∉ foot its) (hr : ∀ b ∈ D,∀ (i : Nat) (r : RawB),raw[i]? = some r → r.b ≠ b) (hn : ∀ b ∈ D,w.heap.size ≤ b) : Wst w its raw W' :=
 ⟨h.kept.trans k fun x hx => .inr (hn x hx),h.own.kept k (MuLe.refl _) (fun b o h => by cases h) hf,fun i r hi => ⟨k.get (h.blk i r hi).1 fun hm => hr _ hm i r hi rfl,(h.blk i r hi).2⟩,h.nd,h.new⟩
theorem Wst.kept0 {w W W' : World} {its : List ItemO} {raw : List RawB} (h : Wst w its raw W) (k : KeptW [] W W') : Wst w its raw W' := h.keptW k (fun b hb => by cases hb) (fun b hb => by cases hb) (fun b hb => by cases hb)
theorem Wst.drew {w W : World} {its : List ItemO} {raw : List RawB} (h : Wst w its raw W) : Wst w its raw W.drew := h.kept0 ⟨rfl,rfl,rfl,Nat.le_refl _,fun _ _ _ => rfl⟩
theorem Wst.lt {w W : World} {its : List ItemO} {raw : List RawB} (h : Wst w its raw W) {i : Nat} {r : RawB} (hi : raw[i]? = some r) : r.b < W.heap.size := (Array.getElem?_eq_some_iff.1 (h.blk i r hi).1).1
theorem Wst.cell {w W : World} {its : List ItemO} {raw : List RawB} (h : Wst w its raw W) {i j b : Nat} {cur : Array Value} {t : TypeId} {fz : Nat × Nat} {v : Value} (hi : raw[i]? = some ⟨b,.cells cur t fz⟩) (hj : cur[j]? = some v) : W.cell? ⟨b,j,none⟩ = some v := cell_of (h.blk i _ hi).1 hj
theorem Wst.frozen {w W : World} {its : List ItemO} {raw : List RawB} (h : Wst w its raw W) {i b : Nat} {cur : Array Value} {t : TypeId} (hi : raw[i]? = some (rawC b cur t)) (j : Nat) : W.frozen? ⟨b,j,none⟩ = false := frozen_of (h.blk i _ hi).1 j
theorem Wst.alloc {w W : World} {its : List ItemO} {raw : List RawB} (h : Wst w its raw W) (cur : Array Value) (t : TypeId) : Wst w its (raw ++ [rawC W.heap.size cur t]) (W.alloc (.cells cur t)) := by
 have h1 := h.kept0 (KeptW.alloc W (.cells cur t))
 have hs := h.kept.size
 have hget : ∀ (i : Nat) (r : RawB),(raw ++ [rawC W.heap.size cur t])[i]? = some r → raw[i]? = some r ∨ (i = raw.length∧r = rawC W.heap.size cur t) := fun i r hi => by
  by_cases hl : i < raw.length
  ·rw [List.getElem?_append_left hl] at hi; exact .inl hi
  ·rw [List.getElem?_append_right (by omega)] at hi
   have hl2 := (List.getElem?_eq_some_iff.1 hi).1
   simp at hl2
   have e : i = raw.length := by omega
   subst e
   rw [Nat.sub_self] at hi
   simp at hi
   exact .inr ⟨rfl,hi.symm⟩
 refine ⟨h1.kept,h1.own,fun i r hi => ?_,fun i j r s hi hj e => ?_,h1.new⟩
 ·rcases hget i r hi with hi | ⟨_,rfl⟩
  ·exact h1.blk i r hi
  ·exact ⟨Ev.alloc_new W _,fun hm => by have := (h.own.own _ hm).2; simp at this,hs⟩
 ·rcases hget i r hi with hi | ⟨rfl,rfl⟩ <;> rcases hget j s hj with hj | ⟨rfl,rfl⟩
  ·exact h.nd i j r s hi hj e
  ·have := h.lt hi; simp at e; omega
  ·have := h.lt hj; simp at e; omega
  ·rfl
theorem getElem?_set_cases {α : Type} {l : List α} {i j : Nat} {x y : α} (h : (l.set i x)[j]? = some y) : (j = i∧y = x∧i < l.length) ∨ (j ≠ i∧l[j]? = some y) := by
 rw [List.getElem?_set] at h
 by_cases e : i = j
 ·subst e
  rw [if_pos rfl] at h
  by_cases hl : i < l.length
  ·rw [if_pos hl] at h; exact .inl ⟨rfl,(Option.some.inj h).symm,hl⟩
  ·rw [if_neg hl] at h; cases h
 ·rw [if_neg e] at h; exact .inr ⟨fun h => e h.symm,h⟩
theorem Wst.repl {w W W' : World} {its : List ItemO} {raw : List RawB} {i : Nat} {r r' : RawB} (h : Wst w its raw W) (hi : raw[i]? = some r) (k : KeptW [r'.b] W W') (hb : W'.heap[r'.b]? = some r'.o) (hr : r'.b = r.b ∨ W.heap.size ≤ r'.b) : Wst w its (raw.set i r') W' := by
 have hnew : w.heap.size ≤ r'.b∧r'.b ∉ foot its := by
  rcases hr with e | hr
  ·rw [e]; exact ⟨(h.blk i r hi).2.2,(h.blk i r hi).2.1⟩
  ·exact ⟨by have := h.kept.size; omega,fun hm => by have := (h.own.own _ hm).2; omega⟩
 have hoth : ∀ (j : Nat) (s : RawB),j ≠ i → raw[j]? = some s → s.b ≠ r'.b := fun j s hj hs e => by
  rcases hr with e2 | hr
  ·exact hj (h.nd j i s r hs hi (e.trans e2))
  ·have := h.lt hs; omega
 refine ⟨h.kept.trans k fun x hx => .inr (by simp at hx; subst hx; exact hnew.1),h.own.kept k (MuLe.refl _) (fun b o h => by cases h) (fun b hb => by simp at hb; subst hb; exact hnew.2),fun j s hj => ?_,fun j j' s s' hj hj' e => ?_,h.new⟩
 ·rcases getElem?_set_cases hj with ⟨_,rfl,_⟩ | ⟨hne,hj⟩
  ·exact ⟨hb,hnew.2,hnew.1⟩
  ·exact ⟨k.get (h.blk j s hj).1 (by simp; exact hoth j s hne hj),(h.blk j s hj).2⟩
 ·rcases getElem?_set_cases hj with ⟨e1,e2,_⟩ | ⟨hne,g1⟩ <;> rcases getElem?_set_cases hj' with ⟨e3,e4,_⟩ | ⟨hne',g2⟩
  ·rw [e1,e3]
  ·exact absurd (e2 ▸ e).symm (hoth j' s' hne' g2)
  ·exact absurd (e4 ▸ e) (hoth j s hne g1)
  ·exact h.nd j j' s s' g1 g2 e
theorem Wst.set {w W : World} {its : List ItemO} {raw : List RawB} {i b : Nat} {cur : Array Value} {t : TypeId} (h : Wst w its raw W) (hi : raw[i]? = some (rawC b cur t)) (j : Nat) (v : Value) : Wst w its (raw.set i (rawC b (cur.setIfInBounds j v) t)) (W.setCell ⟨b,j,none⟩ v) := by
 obtain ⟨k,hb⟩ := KeptW.set (j := j) (v := v) (h.blk i _ hi).1
 exact h.repl (r' := rawC b (cur.setIfInBounds j v) t) hi k hb (.inl rfl)
theorem Wst.drop {w W : World} {its : List ItemO} {raw raw' : List RawB} (h : Wst w its (raw ++ raw') W) : Wst w its raw W := by
 have hg : ∀ (i : Nat) (r : RawB),raw[i]? = some r → (raw ++ raw')[i]? = some r := fun i r hi => by rw [List.getElem?_append_left (List.getElem?_eq_some_iff.1 hi).1]; exact hi
 exact ⟨h.kept,h.own,fun i r hi => h.blk i r (hg i r hi),fun i j r s hi hj e => h.nd i j r s (hg i r hi) (hg j s hj) e,h.new⟩
theorem b1s_items {μ : Mu} {hp : HF} : ∀ {ro : List AV} {F : List Nat} {G vs : List Value},B1s μ hp F G ro vs → ro.all flatO = true → ∃ xs : List ItemO,xs.map ItemO.p = vs∧xs.map ItemO.a = ro∧foot xs = F∧∀ x ∈ xs,B1 mu0 hp x.F [x.p] x.a x.p
 | [],F,G,vs,h,_ => by
  cases h; exact ⟨[],rfl,rfl,rfl,fun x hx => by cases hx⟩
 | a :: ro,F,G,vs,h,hfl => by
  rw [List.all_cons,Bool.and_eq_true] at hfl
  cases h with
  | @cons F1 F2 G1 G2 _ _ v vs' h k =>
   obtain ⟨xs,e1,e2,e3,e4⟩ := b1s_items k hfl.2
   have hb := flatO_b1 hfl.1 h
   have hG : G1 = [v] := by
    cases h with
    | c h0 => cases h0 with
     | d hd => cases hd <;> cases hfl.1
     | ow => cases hfl.1
     | own => cases hfl.1
    | ob => rfl
    | row => cases hfl.1
   subst hG
   exact ⟨⟨v,F1,a⟩ :: xs,by rw [List.map_cons,e1],by rw [List.map_cons,e2],by rw [foot_cons,e3],fun x hx => (List.mem_cons.1 hx).elim (fun e => by subst e; exact hb) (e4 x)⟩
section
variable {P : Program} {C : Cfg}
theorem Wst.call {w W : World} {its : List ItemO} {raw : List RawB} (hmix : P.follows .mixedOrders = true) (hx : ExtS P C) (h : Wst w its raw W) (xs rest : List ItemO) (hperm : its.Perm (xs ++ rest)) {f : FuncId} {fn : Func} {bs ra ro : List AV} {vals : List Value}
  (hev : evL P C f bs = some (ra ++ ro)) (hfn : P.funcs[f]? = some fn) (hsz : fn.resultTypes.size = ra.length) (hB : B2s mu0 (hf W) (foot xs) (xs.map ItemO.p) bs vals) (hfl : ro.all flatO = true) :
  Calls P f vals.toArray W fun e w' => ∃ (vs : List Value) (μ' : Mu) (F1 : List Nat) (G1 : List Value) (xs' : List ItemO),e = .returned (retV vs)∧B2s μ' (hf w') F1 G1 ra vs∧MuLe μ' (hf w')∧xs'.map ItemO.p = xs.map ItemO.p∧xs'.map ItemO.a = ro∧Wst w (xs' ++ rest) raw w' ∧
   (∀ b,(b ∈ F1 ∨ ∃ o,μ' b = some o) → b ∉ foot (xs' ++ rest)∧(∀ (i : Nat) (r : RawB),raw[i]? = some r → r.b ≠ b)∧w.heap.size ≤ b)∧KeptW (foot xs) W w' := by
 have hO := h.own.perm hperm
 have hnd := hO.nd
 rw [foot_app] at hnd
 obtain ⟨nd1,nd2,nd3⟩ := List.nodup_append.1 hnd
 have hrest : Owns mu0 W rest := ⟨fun x hx => hO.ok x (List.mem_append_right _ hx),nd2⟩
 have hmem : ∀ b,b ∈ foot its ↔ b ∈ foot xs ∨ b ∈ foot rest := fun b => by
  have := (List.Perm.flatMap_right ItemO.F hperm).mem_iff (a := b)
  show b ∈ its.flatMap ItemO.F ↔ _
  rw [this]
  show b ∈ foot (xs ++ rest) ↔ _
  rw [foot_app,List.mem_append]
 refine (call_rest hmix hx hev hfn (mu0_imm W) hB nd1 hrest fun b hb hc => nd3 b hb b hc rfl).mono fun e w' he => ?_
 obtain ⟨ra',ro',vs,μ',F1,F2,G1,hrs,hra,he,hk,_,hi,hb1,hb2,hnd',hnew,hown',hap,hmu⟩ := he
 obtain ⟨e1,e2⟩ := List.append_inj hrs (by omega)
 subst e1 e2
 obtain ⟨xs',q1,q2,q3,q4⟩ := b1s_items hb2 hfl
 obtain ⟨nF1,nF2,nF3⟩ := List.nodup_append.1 hnd'
 have hrest' : Owns mu0 w' rest := hrest.kept hk (MuLe.refl _) (fun b o h => by cases h) fun b hb hc => nd3 b hb b hc rfl
 have hownx : Owns mu0 w' (xs' ++ rest) := ⟨fun x hx => (List.mem_append.1 hx).elim (q4 x) (hrest'.ok x),by
  rw [foot_app,q3]
  exact List.nodup_append.2 ⟨nF2,nd2,fun a ha b hb e => hap a (List.mem_append_right _ ha) (e ▸ hb)⟩⟩
 have hfoot : ∀ b,b ∈ foot (xs' ++ rest) ↔ b ∈ F2 ∨ b ∈ foot rest := fun b => by rw [foot_app,List.mem_append,q3]
 have hold : ∀ b,b ∈ foot xs → ∀ (i : Nat) (r : RawB),raw[i]? = some r → r.b ≠ b := fun b hb i r hi e => (h.blk i r hi).2.1 ((hmem _).2 (.inl (e ▸ hb)))
 have hxsz := h.kept.size
 have hraw : ∀ b,(b ∈ foot xs ∨ W.heap.size ≤ b) → (∀ (i : Nat) (r : RawB),raw[i]? = some r → r.b ≠ b)∧w.heap.size ≤ b := fun b hb => by
  rcases hb with hb | hb
  ·exact ⟨hold b hb,h.new b ((hmem b).2 (.inl hb))⟩
  ·exact ⟨fun i r hi e => by have := h.lt hi; omega,by omega⟩
 refine ⟨vs,μ',F1,G1,xs',he,hb1,hi,q1,q2,⟨h.kept.trans hk fun x hx => .inr (h.new x ((hmem x).2 (.inl hx))),hownx,fun i r hi' => ⟨hk.get (h.blk i r hi').1 fun hm => hold _ hm i r hi' rfl,fun hm => ?_,(h.blk i r hi').2.2⟩,h.nd,fun b hb => ?_⟩,fun b hb => ?_,hk⟩
 ·rcases (hfoot _).1 hm with hm | hm
  ·exact (hraw _ (hnew _ (List.mem_append_right _ hm))).1 i r hi' rfl
  ·exact (h.blk i r hi').2.1 ((hmem _).2 (.inr hm))
 ·rcases (hfoot _).1 hb with hb | hb
  ·exact (hraw _ (hnew _ (List.mem_append_right _ hb))).2
  ·exact h.new b ((hmem b).2 (.inr hb))
 ·have hb' : (b ∈ foot xs ∨ W.heap.size ≤ b)∧b ∉ F2∧b ∉ foot rest := by
   rcases hb with hb | ⟨o,hb⟩
   ·exact ⟨hnew b (List.mem_append_left _ hb),fun hm => nF3 b hb b hm rfl,hap b (List.mem_append_left _ hb)⟩
   ·have h1 : b ∈ foot xs ∨ W.heap.size ≤ b := (hmu b o hb).resolve_left fun h => by cases h
    refine ⟨h1,fun hm => ?_,fun hm => ?_⟩
    ·obtain ⟨y,hy,hyb⟩ := List.mem_flatMap.1 (show b ∈ foot xs' from q3 ▸ hm)
     have := (hb2.own b hm).1
     rw [this] at hb; cases hb
    ·rcases h1 with h1 | h1
     ·exact nd3 b h1 b hm rfl
     ·have := (hrest.own b hm).2; omega
  refine ⟨fun hm => ?_,hraw b hb'.1⟩
  rcases (hfoot b).1 hm with hm | hm
  ·exact hb'.2.1 hm
  ·exact hb'.2.2 hm
end
theorem app1_cases {α : Type} {l : List α} {x r : α} {i : Nat} (hi : (l ++ [x])[i]? = some r) : l[i]? = some r ∨ (i = l.length∧r = x) := by
 by_cases hl : i < l.length
 ·rw [List.getElem?_append_left hl] at hi; exact .inl hi
 ·rw [List.getElem?_append_right (by omega)] at hi
  have hl2 := (List.getElem?_eq_some_iff.1 hi).1
  simp at hl2
  have e : i = l.length := by omega
  subst e
  rw [Nat.sub_self] at hi
  simp at hi
  exact .inr ⟨rfl,hi.symm⟩
theorem Wst.addOld {w W : World} {its : List ItemO} {raw : List RawB} {b : Nat} {o : Obj} (h : Wst w its raw W) (hb : W.heap[b]? = some o) (h1 : b ∉ foot its) (h2 : ∀ (i : Nat) (r : RawB),raw[i]? = some r → r.b ≠ b) (h3 : w.heap.size ≤ b) : Wst w its (raw ++ [⟨b,o⟩]) W := by
 refine ⟨h.kept,h.own,fun i r hi => ?_,fun i j r s hi hj e => ?_,h.new⟩
 ·rcases app1_cases hi with hi | ⟨_,rfl⟩
  ·exact h.blk i r hi
  ·exact ⟨hb,h1,h3⟩
 ·rcases app1_cases hi with hi | ⟨e1,e2⟩ <;> rcases app1_cases hj with hj | ⟨e3,e4⟩
  ·exact h.nd i j r s hi hj e
  ·exact absurd (e.trans (by rw [e4])) (h2 i r hi)
  ·exact absurd (e.symm.trans (by rw [e2])) (h2 j s hj)
  ·rw [e1,e3]
theorem Wst.add {w W W' : World} {its : List ItemO} {raw : List RawB} {b : Nat} {o : Obj} (h : Wst w its raw W) (k : KeptW [b] W W') (hb : W'.heap[b]? = some o) (hn : W.heap.size ≤ b) : Wst w its (raw ++ [⟨b,o⟩]) W' := by
 have hs := h.kept.size
 refine (h.kept0 (k.mono fun x hx => .inr (by simp at hx; omega))).addOld hb (fun hm => by have := (h.own.own b hm).2; omega) (fun i r hi e => by have := h.lt hi; omega) (by omega)
theorem foot_perm {a b : List ItemO} (h : a.Perm b) (x : Nat) : x ∈ foot a ↔ x ∈ foot b := (List.Perm.flatMap_right ItemO.F h).mem_iff
theorem Wst.perm {w W : World} {its its' : List ItemO} {raw : List RawB} (h : Wst w its raw W) (hp : its.Perm its') : Wst w its' raw W :=
 ⟨h.kept,h.own.perm hp,fun i r hi => ⟨(h.blk i r hi).1,fun hm => (h.blk i r hi).2.1 ((foot_perm hp _).2 hm),(h.blk i r hi).2.2⟩,h.nd,fun b hb => h.new b ((foot_perm hp b).2 hb)⟩
theorem Wst.app {P : Program} {w W : World} {its : List ItemO} {raw : List RawB} {t ety sz i b l c E : Nat} {z : Value} {I : TypeInfo} {cur els : Array Value} (h : Wst w its raw W) (hi : raw[i]? = some (rawC b cur ety)) (ht : P.underlying t = some (.slice ety)) (hI : P.info? ety = some I) (hz : I.zero = some z) (hs : I.size = sz) (hb1 : 0 < I.bytes) (hb2 : I.bytes ≤ 1000) (hzs : z.cells.size = sz)
  (hl : l ≤ 100000) (hlc : l ≤ c) (hcs : cur.size = c * sz) (hE : W.heap[E]? = some (.cells els ety (0,0))) (hEs : els.size = sz) (hone : ∀ v ∈ els.toList,v.oneCell' = true) :
  ∃ (b' c' : Nat) (W2 : World) (cur' : Array Value),(∀ ty,(Builtin.append_ #[t,t] ty #[.slice (some ⟨b,0,none⟩) l c,.slice (some ⟨E,0,none⟩) 1 1]).run P W = .ok (.slice (some ⟨b',0,none⟩) (l + 1) c') W2)∧Wst w its (raw.set i (rawC b' cur' ety)) W2 ∧
   cur'.size = c' * sz∧l + 1 ≤ c'∧(∀ j,j < l * sz → cur'[j]? = cur[j]?)∧∀ j,j < sz → cur'[l * sz + j]? = els[j]? := by
 obtain ⟨b',c',W2,cur',h1,h2,h3,h4,h5,h6,h7,h8⟩ := app_raw (P := P) ht hI hz hs hb1 hb2 hzs hl (.inr ⟨b,rfl,hlc,(h.blk i _ hi).1,hcs⟩) hE hEs hone
 exact ⟨b',c',W2,cur',h1,h.repl (r' := rawC b' cur' ety) hi h2 h3 (h6.imp (fun e => by cases e; rfl) id),h4,h5,h7,h8⟩
theorem Wst.app0 {P : Program} {w W : World} {its : List ItemO} {raw : List RawB} {t ety sz E : Nat} {z : Value} {I : TypeInfo} {els : Array Value} (h : Wst w its raw W) (ht : P.underlying t = some (.slice ety)) (hI : P.info? ety = some I) (hz : I.zero = some z) (hs : I.size = sz) (hb1 : 0 < I.bytes) (hb2 : I.bytes ≤ 1000) (hzs : z.cells.size = sz)
  (hE : W.heap[E]? = some (.cells els ety (0,0))) (hEs : els.size = sz) (hone : ∀ v ∈ els.toList,v.oneCell' = true) :
  ∃ (b' c' : Nat) (W2 : World) (cur' : Array Value),(∀ ty,(Builtin.append_ #[t,t] ty #[.slice none 0 0,.slice (some ⟨E,0,none⟩) 1 1]).run P W = .ok (.slice (some ⟨b',0,none⟩) 1 c') W2)∧Wst w its (raw ++ [rawC b' cur' ety]) W2 ∧
   cur'.size = c' * sz∧1 ≤ c'∧∀ j,j < sz → cur'[j]? = els[j]? := by
 obtain ⟨b',c',W2,cur',h1,h2,h3,h4,h5,h6,h7,h8⟩ := app_raw (P := P) (l := 0) (c := 0) (A := none) (cur := #[]) ht hI hz hs hb1 hb2 hzs (by decide) (.inl ⟨rfl,rfl,rfl⟩) hE hEs hone
 exact ⟨b',c',W2,cur',h1,h.add h2 h3 (h6.resolve_left fun e => by cases e),h4,h5,fun j hj => by have := h8 j hj; rwa [Nat.zero_mul,Nat.zero_add] at this⟩
section
variable {P : Program} {C : Cfg}
theorem call_lentN (hmix : P.follows .mixedOrders = true) (hx : ExtS P C) {f : FuncId} {bs rs : List AV} (h : evL P C f bs = some rs) {fn : Func} (hfn : P.funcs[f]? = some fn) {w : World} {vals : List Value}
  (hB : B2s (hf w) (hf w) [] [] bs vals) : Calls P f vals.toArray w fun e w' => ∃ (vs : List Value) (μ' : Mu) (F1 : List Nat) (G1 : List Value),e = .returned (retV vs)∧KeptW [] w w'∧MuLe μ' (hf w')∧B2s μ' (hf w') F1 G1 rs vs∧∀ b ∈ F1,w.heap.size ≤ b := by
 refine (call_rest hmix hx h hfn (fun b o hb => hb) hB List.nodup_nil (Owns.nil _ _) (fun b hb => by cases hb)).mono fun e w' he => ?_
 obtain ⟨ra,ro,vs,μ',F1,F2,G1,rfl,_,rfl,hk,_,hi,h1,h2,_,hnew,_⟩ := he
 obtain ⟨rfl,_⟩ := b1s_nil h2 rfl
 rw [List.append_nil]
 exact ⟨vs,μ',F1,G1,rfl,hk,hi,h1,fun b hb => (hnew b (List.mem_append_left _ hb)).resolve_left List.not_mem_nil⟩
end
theorem ow_new {μ : Mu} {w : World} {F : List Nat} {G : List Value} {ty sz : Nat} {xs : List (List AV)} {v : Value} (h : B2 μ (hf w) F G (.ow false ty sz xs) v) : ∃ (b c : Nat) (cur : Array Value) (fz : Nat × Nat),v = .slice (some ⟨b,0,none⟩) xs.length c∧F = [b]∧w.heap[b]? = some (.cells cur ty fz)∧xs.length ≤ c ∧
  ∀ (k j : Nat) (e : List AV) (x : Value),xs[k]? = some e → e[j]? = some (.v x) → cur[k * sz + j]? = some x := by
 cases h with
 | o h => cases h with
  | c h => cases h with
   | d h => cases h
   | @ow b cap _ _ _ cur hb hm hc hs hr =>
    obtain ⟨fz,hcell,_⟩ := hb
    refine ⟨b,cap,cur,fz,rfl,rfl,hcell,hc,fun k j e x he hx => ?_⟩
    obtain ⟨u,h1,h2⟩ := hr.2 k e j _ he hx
    cases h2
    exact h1
end Go.Ev
namespace Go.Ev
open Go Go.Proofs
def lentA : AV → AV
 | .ow n _ sz xs => .lst n sz xs
 | a => a
theorem dr_row {μ hp : Mu} {b cap sz : Nat} {xs : List (List AV)} {cur : Array Value} {t : TypeId} {fz : Nat × Nat} (hle : MuLe μ hp) (hcell : hp b = some (.cells cur t fz)) (hc : xs.length ≤ cap) (hr : RowD μ sz xs cur) : DR hp (.lst false sz xs) (.slice (some ⟨b,0,none⟩) xs.length cap) := by
 refine .lst (fun k j => (cur[k * sz + j]?).getD undef) rfl (fun x => by cases x) hc hr.1 (fun a ha k j hk hj => ?_) (fun k e j u hk hj => ?_)
 ·cases ha
  have hek := List.getElem?_eq_getElem hk
  obtain ⟨y,hy,_⟩ := hr.2 k _ j _ hek (List.getElem?_eq_getElem (by rw [hr.1 _ (List.getElem_mem hk)]; exact hj))
  rw [Addr.add_lit]
  unfold muCell
  simp [hcell,hy]
 ·obtain ⟨y,hy,hdy⟩ := hr.2 k e j u hk hj
  simp only [hy,Option.getD_some]
  exact hdy.mono hle
theorem dr_nil {μ : Mu} {sz : Nat} : DR μ (.lst true sz []) (.slice none 0 0) :=
 DR.lst (A := none) (c := 0) (xs := []) (fun _ _ => undef) rfl (fun _ => ⟨rfl,rfl⟩) (Nat.le_refl _) (fun e he => by cases he) (fun a ha => by cases ha) (fun k e j u hk => by simp at hk)
theorem B0.lent {μ : Mu} {hp : HF} {F : List Nat} {a : AV} {v : Value} (hle : MuLe μ hp) (h : B0 μ hp F a v) : DR hp (lentA a) v := by
 cases h with
 | d h =>
  have : lentA a = a := by cases h <;> rfl
  rw [this]; exact h.mono hle
 | own => exact dr_nil
 | ow hb hm hc hs hr =>
  obtain ⟨fz,hcell,_⟩ := hb
  exact dr_row hle hcell hc hr
theorem B0s.at {μ : Mu} {hp : HF} {F : List Nat} {cs : List AV} {vs : List Value} (h : B0s μ hp F cs vs) : ∀ (j : Nat) (a : AV),cs[j]? = some a → ∃ (F' : List Nat) (v : Value),vs[j]? = some v∧B0 μ hp F' a v := by
 induction h with
 | nil => exact fun j a h => by simp at h
 | cons h _ ih =>
  intro j a hj
  cases j with
  | zero => simp at hj; subst hj; exact ⟨_,_,rfl,h⟩
  | succ j => exact ih j a hj
theorem B1.lent {μ : Mu} {hp : HF} {F : List Nat} {G : List Value} {ty : Nat} {cs : List AV} {v : Value} (hle : MuLe μ hp) (h : B1 μ hp F G (.ob ty cs) v) : DR hp (.ep (cs.map lentA) 0) v := by
 cases h with
 | c h => cases h with | d h => cases h
 | @ob b _ F _ cur hb hm hc =>
  refine .ep (o := 0) (fun j => (cur[j]?).getD undef) (fun j hj => ?_) (fun j u hj => ?_)
  ·rw [List.length_map] at hj
   obtain ⟨_,v,hv,_⟩ := hc.at j _ (List.getElem?_eq_getElem hj)
   rw [Array.getElem?_toList] at hv
   unfold muCell
   simp [hb,hv]
  ·rw [List.getElem?_map] at hj
   cases e : cs[j]? with
   | none => rw [e] at hj; cases hj
   | some a =>
    rw [e] at hj
    cases hj
    obtain ⟨_,v,hv,hb0⟩ := hc.at j _ e
    rw [Array.getElem?_toList] at hv
    simp only [hv,Option.getD_some]
    exact hb0.lent hle
theorem b0s_app {μ : Mu} {hp : HF} : ∀ {c1 c2 : List AV} {F : List Nat} {vs : List Value},B0s μ hp F (c1 ++ c2) vs → ∃ F1 F2 v1 v2,F = F1 ++ F2∧vs = v1 ++ v2∧B0s μ hp F1 c1 v1∧B0s μ hp F2 c2 v2
 | [],c2,F,vs,h => ⟨[],F,[],vs,rfl,rfl,.nil,h⟩
 | a :: c1,c2,F,vs,h => by
  cases h with
  | cons h k =>
   obtain ⟨F1,F2,v1,v2,rfl,rfl,h1,h2⟩ := b0s_app k
   exact ⟨_,F2,_,v2,(List.append_assoc _ _ _).symm,rfl,.cons h h1,h2⟩
theorem b0s_join {μ : Mu} {hp : HF} {c1 c2 : List AV} {F1 F2 : List Nat} {v1 v2 : List Value} (h1 : B0s μ hp F1 c1 v1) (h2 : B0s μ hp F2 c2 v2) : B0s μ hp (F1 ++ F2) (c1 ++ c2) (v1 ++ v2) := by
 induction h1 with
 | nil => exact h2
 | cons h _ ih => rw [List.append_assoc]; exact .cons h ih
structure Qst (w : World) (μ : Mu) (its : List ItemO) (W : World) : Prop where
 kept : KeptW [] w W
 imm : MuLe μ (hf W)
 own : Owns μ W its
 new : ∀ b ∈ foot its,w.heap.size ≤ b
theorem Qst.kept0 {w W W' : World} {μ : Mu} {its : List ItemO} (h : Qst w μ its W) (k : KeptW [] W W') : Qst w μ its W' :=
 ⟨h.kept.trans k (fun x hx => by cases hx),fun b o hb => k.get (h.imm b o hb) List.not_mem_nil,h.own.kept k (MuLe.refl _) (fun b o h => .inl h) (fun b hb => by cases hb),h.new⟩
theorem Qst.perm {w W : World} {μ : Mu} {its its' : List ItemO} (h : Qst w μ its W) (hp : its.Perm its') : Qst w μ its' W :=
 ⟨h.kept,h.imm,h.own.perm hp,fun b hb => h.new b ((foot_perm hp b).2 hb)⟩
theorem Qst.start (w : World) : Qst w (hf w) [] w := ⟨KeptW.refl _ _,MuLe.refl _,Owns.nil _ _,fun b hb => by cases hb⟩
theorem b1s_obs {μ : Mu} {hp : HF} : ∀ {ro : List AV} {F : List Nat} {G vs : List Value},B1s μ hp F G ro vs → (∀ a ∈ ro,∃ ty cs,a = .ob ty cs) → ∃ xs : List ItemO,xs.map ItemO.p = vs∧xs.map ItemO.a = ro∧foot xs = F∧G = vs∧∀ x ∈ xs,B1 μ hp x.F [x.p] x.a x.p
 | [],F,G,vs,h,_ => by
  cases h; exact ⟨[],rfl,rfl,rfl,rfl,fun x hx => by cases hx⟩
 | a :: ro,F,G,vs,h,hfl => by
  obtain ⟨ty,cs,rfl⟩ := hfl a (by simp)
  cases h with
  | @cons F1 F2 G1 G2 _ _ v vs' h k =>
   obtain ⟨xs,e1,e2,e3,e5,e4⟩ := b1s_obs k fun a ha => hfl a (List.mem_cons_of_mem _ ha)
   have hG : G1 = [v] := by
    cases h with
    | c h0 => cases h0 with | d hd => cases hd
    | ob => rfl
   subst hG
   exact ⟨⟨v,F1,.ob ty cs⟩ :: xs,by rw [List.map_cons,e1],by rw [List.map_cons,e2],by rw [foot_cons,e3],by rw [e5]; rfl,fun x hx => (List.mem_cons.1 hx).elim (fun e => by subst e; exact h) (e4 x)⟩
section
variable {P : Program} {C : Cfg}
theorem Qst.lent {w W : World} {μ : Mu} {its : List ItemO} (h : Qst w μ its W) (hmix : P.follows .mixedOrders = true) (hx : ExtS P C) {f : FuncId} {bs rs : List AV} (hev : evL P C f bs = some rs) {fn : Func} (hfn : P.funcs[f]? = some fn) {vals : List Value}
  (hB : B2s (hf W) (hf W) [] [] bs vals) : Calls P f vals.toArray W fun e w' => ∃ (vs : List Value) (μ' : Mu) (F1 : List Nat) (G1 : List Value),e = .returned (retV vs)∧Qst w μ its w'∧KeptW [] W w'∧MuLe μ' (hf w')∧B2s μ' (hf w') F1 G1 rs vs :=
 (call_lent hmix hx hev hfn hB).mono fun e w' he => by
  obtain ⟨vs,μ',F1,G1,rfl,hk,hi,hb⟩ := he
  exact ⟨vs,μ',F1,G1,rfl,h.kept0 hk,hk,hi,hb⟩
theorem Qst.call {w W : World} {μ : Mu} {its : List ItemO} (h : Qst w μ its W) (hmix : P.follows .mixedOrders = true) (hx : ExtS P C) (xs rest : List ItemO) (hperm : its.Perm (xs ++ rest)) {f : FuncId} {fn : Func} {bs ra ro : List AV} {vals : List Value}
  (hev : evL P C f bs = some (ra ++ ro)) (hfn : P.funcs[f]? = some fn) (hsz : fn.resultTypes.size = ra.length) (hB : B2s μ (hf W) (foot xs) (xs.map ItemO.p) bs vals) (hro : ∀ a ∈ ro,∃ ty cs,a = .ob ty cs) :
  Calls P f vals.toArray W fun e w' => ∃ (vs : List Value) (μ' : Mu) (F1 : List Nat) (G1 : List Value) (xs' : List ItemO),e = .returned (retV vs)∧B2s μ' (hf w') F1 G1 ra vs∧MuLe μ μ'∧xs'.map ItemO.p = xs.map ItemO.p∧xs'.map ItemO.a = ro∧Qst w μ' (xs' ++ rest) w' ∧
   F1.Nodup∧(∀ b ∈ F1,b ∉ foot (xs' ++ rest)∧w.heap.size ≤ b)∧KeptW (foot xs) W w' := by
 have hO := h.own.perm hperm
 have hnd := hO.nd
 rw [foot_app] at hnd
 obtain ⟨nd1,nd2,nd3⟩ := List.nodup_append.1 hnd
 have hrest : Owns μ W rest := ⟨fun x hx => hO.ok x (List.mem_append_right _ hx),nd2⟩
 have hmem : ∀ b,b ∈ foot its ↔ b ∈ foot xs ∨ b ∈ foot rest := fun b => by rw [foot_perm hperm b,foot_app,List.mem_append]
 refine (call_rest hmix hx hev hfn h.imm hB nd1 hrest fun b hb hc => nd3 b hb b hc rfl).mono fun e w' he => ?_
 obtain ⟨ra',ro',vs,μ',F1,F2,G1,hrs,hra,he,hk,hmu,hi,hb1,hb2,hnd',hnew,hown',hap,hmn⟩ := he
 obtain ⟨e1,e2⟩ := List.append_inj hrs (by omega)
 subst e1 e2
 obtain ⟨xs',q1,q2,q3,q5,q4⟩ := b1s_obs hb2 hro
 obtain ⟨nF1,nF2,nF3⟩ := List.nodup_append.1 hnd'
 have hksz := h.kept.size
 have hnw : ∀ b ∈ F1 ++ F2,w.heap.size ≤ b := fun b hb => by
  rcases hnew b hb with h1 | h1
  ·exact h.new b ((hmem b).2 (.inl h1))
  ·omega
 refine ⟨vs,μ',F1,G1,xs',he,hb1,hmu,q1,q2,⟨h.kept.trans hk fun x hx => .inr (h.new x ((hmem x).2 (.inl hx))),hi,⟨fun x hx => (List.mem_append.1 hx).elim (q4 x) (hown'.ok x),?_⟩,fun b hb => ?_⟩,nF1,fun b hb => ⟨fun hm => ?_,hnw b (List.mem_append_left _ hb)⟩,hk⟩
 ·rw [foot_app,q3]
  exact List.nodup_append.2 ⟨nF2,nd2,fun a ha b hb e => hap a (List.mem_append_right _ ha) (e ▸ hb)⟩
 ·rw [foot_app,List.mem_append,q3] at hb
  rcases hb with hb | hb
  ·exact hnw b (List.mem_append_right _ hb)
  ·exact h.new b ((hmem b).2 (.inr hb))
 ·rw [foot_app,List.mem_append,q3] at hm
  rcases hm with hm | hm
  ·exact nF3 b hb b hm rfl
  ·exact hap b (List.mem_append_left _ hb) hm
end
end Go.Ev
