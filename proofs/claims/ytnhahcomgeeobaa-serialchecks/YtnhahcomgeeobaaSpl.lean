/- spoil: what is told of it. -/
import Derived.Test.YtnhahcomgeeobaaEv12
import Derived.Test.YtnhahcomgeeobaaSplW
set_option linter.all false
namespace Go.Proofs.Ytnhahcomgeeobaa
open Go.RowKit Go.Shelf Go.Lib Go.Ev
def spA (s : Int) (x : List AV) : List AV :=
 if pick s 18 = 0 then
  bif Nat.beq (avXs (cellAt x 6)).length 0 then x else x.set 6 (.lst false 2 ((avXs (cellAt x 6)).set 0 ((lget (avXs (cellAt x 6)) 0).set 1 (.v (.int .i64 (IntKind.i64.wrap (avInt (cellAt (lget (avXs (cellAt x 6)) 0) 1) + 1)))))))
 else if pick s 18 = 1 then x.set 4 (.v (.int .i64 16))
 else if pick s 18 = 2 then x.set 5 (.v (.int .i64 (IntKind.i64.wrap (avInt (cellAt x 5) + 1))))
 else if pick s 18 = 3 then x.set 0 (.v (.int .i64 (IntKind.i64.wrap (avInt (cellAt x 0) + 30))))
 else if pick s 18 = 4 then x.set 1 (.v (.int .i64 (IntKind.i64.wrap (avInt (cellAt x 1) - 30))))
 else if pick s 18 = 5 then x.set 3 (.v (.int .i64 (pick (IntKind.i64.wrap (s.tdiv 18)) 5)))
 else if pick s 18 = 6 then x.set 6 (.lst true 0 [])
 else x
def spL : List (List AV) → List (List AV) → List (List AV)
 | x :: xs,m :: ms => spA (avInt (cellAt m 3)) x :: spL xs ms
 | xs,_ => xs
def okE (e : List AV) : Bool := Nat.beq e.length 2 && isI .i64 (cellAt e 1)
def okR : AV → Bool
 | .lst _ 2 es => es.all okE && decide (es.length ≤ 1000)
 | .lst _ _ [] => true
 | _ => false
def okX (x : List AV) : Bool := Nat.beq x.length 7 && (isI .i64 (cellAt x 0) && (isI .i64 (cellAt x 1) && (isI .i64 (cellAt x 3) && (isI .i64 (cellAt x 4) && (isI .i64 (cellAt x 5) && okR (cellAt x 6))))))
def okM (m : List AV) : Bool := isI .i64 (cellAt m 3)
def spoilG (bs : List AV) : Option (List AV) :=
 match bs with
 | [.lst _ 7 xs,.lst _ 5 ms] => bif decide (xs.length ≤ 100) && (decide (xs.length ≤ ms.length) && (xs.all okX && ms.all okM)) then some [.ow xs.isEmpty 56 7 (spL xs ms)] else none
 | _ => none
theorem spL_len : ∀ xs ms : List (List AV),(spL xs ms).length = xs.length
 | [],_ => rfl
 | _ :: _,[] => rfl
 | _ :: xs,_ :: ms => congrArg (· + 1) (spL_len xs ms)
theorem spL_get : ∀ (xs ms : List (List AV)) (i : Nat) (x m : List AV),xs[i]? = some x → ms[i]? = some m → (spL xs ms)[i]? = some (spA (avInt (cellAt m 3)) x)
 | [],_,i,x,m,h,_ => by simp at h
 | _ :: _,[],i,x,m,_,h => by simp at h
 | x0 :: xs,m0 :: ms,0,x,m,h1,h2 => by simp at h1 h2; subst h1; subst h2; rfl
 | x0 :: xs,m0 :: ms,i + 1,x,m,h1,h2 => spL_get xs ms i x m (by simpa using h1) (by simpa using h2)
def mixL (i : Nat) (xs ys : List (List AV)) : List (List AV) := ys.take i ++ xs.drop i
theorem mixL_get {i : Nat} {xs ys : List (List AV)} (h : ys.length = xs.length) (hi : i < xs.length) : (mixL i xs ys)[i]? = xs[i]? := by
 unfold mixL
 rw [List.getElem?_append_right (by simp; omega),List.getElem?_drop]
 congr 1
 simp; omega
theorem mixL_len {i : Nat} {xs ys : List (List AV)} (h : ys.length = xs.length) (hi : i ≤ xs.length) : (mixL i xs ys).length = xs.length := by
 unfold mixL; simp; omega
theorem mixL_step {i : Nat} {xs ys : List (List AV)} {y : List AV} (h : ys.length = xs.length) (hi : i < xs.length) (hy : ys[i]? = some y) : mixL (i + 1) xs ys = (mixL i xs ys).set i y := by
 unfold mixL
 obtain ⟨hyi,hy'⟩ := List.getElem?_eq_some_iff.1 hy
 rw [List.take_succ_eq_append_getElem hyi,hy',List.append_assoc,List.set_append_right _ _ (by simp; omega)]
 congr 1
 have e : i - (ys.take i).length = 0 := by simp; omega
 rw [e,List.drop_eq_getElem_cons hi]
 rfl
theorem RowD_set {μ : Mu} {sz : Nat} {L : List (List AV)} {cur : Array Value} {i j : Nat} {e : List AV} {a : AV} {v : Value} (h : RowD μ sz L cur) (he : L[i]? = some e) (hj : j < sz) (hd : DR μ a v) : RowD μ sz (L.set i (e.set j a)) (cur.setIfInBounds (i * sz + j) v) := by
 have hel : e.length = sz := h.1 e (List.mem_of_getElem? he)
 have hi := (List.getElem?_eq_some_iff.1 he).1
 refine ⟨fun x hx => ?_,fun i' e' j' c h1 h2 => ?_⟩
 ·rcases List.mem_or_eq_of_mem_set hx with hx | hx
  ·exact h.1 x hx
  ·rw [hx,List.length_set]; exact hel
 ·have hcj : ∀ (i' j' : Nat) (e' : List AV) (c : AV),L[i']? = some e' → e'[j']? = some c → i' * sz + j' < cur.size∧j' < sz := fun i' j' e' c h1 h2 => by
   obtain ⟨u,hu,_⟩ := h.2 i' e' j' c h1 h2
   have := h.1 e' (List.mem_of_getElem? h1)
   have := (List.getElem?_eq_some_iff.1 h2).1
   exact ⟨(Array.getElem?_eq_some_iff.1 hu).1,by omega⟩
  have hin : i * sz + j < cur.size := (hcj i j e _ he (List.getElem?_eq_getElem (by omega : j < e.length))).1
  rw [List.getElem?_set] at h1
  by_cases hii : i = i'
  ·subst hii
   rw [if_pos rfl,if_pos hi] at h1
   obtain rfl := Option.some.inj h1
   rw [List.getElem?_set] at h2
   by_cases hjj : j = j'
   ·subst hjj
    rw [if_pos rfl,if_pos (by omega)] at h2
    obtain rfl := Option.some.inj h2
    exact ⟨v,by rw [Array.getElem?_setIfInBounds,if_pos rfl,if_pos hin],hd⟩
   ·rw [if_neg hjj] at h2
    obtain ⟨u,hu,hd'⟩ := h.2 i e j' c he h2
    refine ⟨u,?_,hd'⟩
    rw [Array.getElem?_setIfInBounds,if_neg (by omega)]; exact hu
  ·rw [if_neg hii] at h1
   obtain ⟨u,hu,hd'⟩ := h.2 i' e' j' c h1 h2
   refine ⟨u,?_,hd'⟩
   have hj2 := (hcj i' j' e' c h1 h2).2
   have hne : i * sz + j ≠ i' * sz + j' := by
    intro heq
    rcases Nat.lt_trichotomy i i' with h3 | h3 | h3
    ·have := Nat.mul_le_mul_right sz (show i + 1 ≤ i' by omega)
     rw [Nat.succ_mul] at this; omega
    ·exact hii h3
    ·have := Nat.mul_le_mul_right sz (show i' + 1 ≤ i by omega)
     rw [Nat.succ_mul] at this; omega
   rw [Array.getElem?_setIfInBounds,if_neg hne]; exact hu
structure SI (μ : Mu) (w : World) (G : Nat) (L : List (List AV)) (W : World) : Prop where
 os : W.os = w.os
 tape : W.tape = w.tape
 output : W.output = w.output
 size : w.heap.size < W.heap.size
 keep : ∀ b,b < w.heap.size → W.heap[b]? = w.heap[b]?
 ex : ∃ (cur : Array Value) (μ' : Mu),W.heap[w.heap.size]? = some (.cells cur 56 (0,0))∧cur.size = G * 7∧RowD μ' 7 L cur∧MuLe μ μ'∧(∀ b o,μ' b = some o → W.heap[b]? = some o)∧(∀ b o,μ' b = some o → μ b = some o ∨ w.heap.size ≤ b)∧μ' w.heap.size = none
theorem cell_at {W : World} {B j : Nat} {cur : Array Value} {ty : Nat} {v : Value} (h : W.heap[B]? = some (.cells cur ty (0,0))) (hv : cur[j]? = some v) : W.cell? ⟨B,j,none⟩ = some v := by
 simp [World.cell?,h,hv]
theorem fro_at {W : World} {B : Nat} {cur : Array Value} {ty : Nat} (h : W.heap[B]? = some (.cells cur ty (0,0))) (j : Nat) : W.frozen? ⟨B,j,none⟩ = false := by
 simp [World.frozen?,h]
theorem SI.set {μ : Mu} {w W : World} {G : Nat} {L : List (List AV)} (h : SI μ w G L W) {i j : Nat} {e : List AV} {a : AV} {v : Value} (he : L[i]? = some e) (hj : j < 7) (hd : ∀ μ',DR μ' a v) : SI μ w G (L.set i (e.set j a)) (W.setCell ⟨w.heap.size,i * 7 + j,none⟩ v) := by
 obtain ⟨cur,μ',h1,h2,h3,h4,h5,h6,h7⟩ := h.ex
 rw [setCell_eq_setRow W _ _ cur 56 _ v h1]
 refine ⟨h.os,h.tape,h.output,by rw [setRow_size]; exact h.size,fun b hb => by rw [setRow_other _ _ _ _ (by omega)]; exact h.keep b hb,
  cur.setIfInBounds (i * 7 + j) v,μ',setRow_heap _ _ _ _ _ _ h1,by rw [Array.size_setIfInBounds]; exact h2,RowD_set h3 he hj (hd μ'),h4,fun b o hb => ?_,h6,h7⟩
 rw [setRow_other _ _ _ _ (fun e => by rw [e,h7] at hb; cases hb)]
 exact h5 b o hb
theorem isI_get {e : List AV} {j : Nat} (h : isI .i64 (cellAt e j) = true) : ∃ n,e[j]? = some (.v (.int .i64 n))∧avInt (cellAt e j) = n := by
 have hc : cellAt e j ≠ .un := fun x => by rw [x] at h; cases h
 have hs := cellAt_some hc
 have := isI_eq h
 exact ⟨avInt (cellAt e j),hs.trans (congrArg some this),rfl⟩
theorem infoCl2 : ∃ I : TypeInfo,Try.prog.info? 56 = some I∧I.zero = some (.agg #[.int .i64 0,.int .i64 0,.slice none 0 0,.int .i64 0,.int .i64 0,.int .i64 0,.slice none 0 0])∧I.size = 7∧I.bytes = 88 := info_parts infoCl
theorem infoRs2 : ∃ I : TypeInfo,Try.prog.info? 68 = some I∧I.zero = some (.agg #[.slice none 0 0,.int .i64 0])∧I.size = 2∧I.bytes = 32 := info_parts infoRs
theorem app_new {μ : Mu} {W : World} {t ety sz bytes : Nat} {z : Value} {I : TypeInfo} (ht : Try.prog.underlying t = some (.slice ety)) (hI : Try.prog.info? ety = some I) (hz : I.zero = some z) (hs : I.size = sz) (hb : I.bytes = bytes) (hb1 : 0 < bytes) (hb2 : bytes ≤ 100)
  {nl : Bool} {es : List (List AV)} {u : Value} (hd : DR μ (.lst nl sz es) u) (himm : ∀ b o,μ b = some o → W.heap[b]? = some o) (h0 : 0 < es.length) (hbig : es.length ≤ 1000) :
  ∃ (A : Option Addr) (c : Nat) (news : List Value),u = .slice A es.length c∧news.length = es.length * sz∧RowD μ sz es news.toArray ∧
   ∀ ty,(Builtin.append_ #[t,t] ty #[.slice none 0 0,u]).run Try.prog W = .ok (.slice (some ⟨W.heap.size,0,none⟩) es.length (grownCap W es.length 0 ety)) (W.drew.alloc (.cells (news ++ (Builtin.zeroCells z.cells (grownCap W es.length 0 ety - es.length)).toList).toArray ety)) := by
 obtain ⟨A,c,_,hu,_⟩ := hd.view himm
 obtain ⟨news,hlen,hnl,hrow,hfirst⟩ := app_view (P := Try.prog) (E := ⟨W,fun _ => False,μ⟩) (ρ := fun _ => none) (σ := []) (a := .lst nl sz es) rfl (.c (.d hd)) (SR.start himm _)
 refine ⟨A,c,news,hu,hnl,hrow,fun ty => ?_⟩
 have hf := hfirst I.size es.length W.drew (.inl hs) (Nat.le_refl _) rfl
 rw [hs,List.take_of_length_le (by omega)] at hf
 have hm : es.length * bytes ≤ 1000 * 100 := Nat.mul_le_mul hbig hb2
 have := run_app_grow (P := Try.prog) (ty := ty) ht ht rfl hI hz (by omega) (base := none) (sLen := 0) (sCap := 0) (olds := []) (news := news) hlen (by rw [hs]; exact hf) (by simp [Builtin.firstCells]) (by omega) (by rw [hb,Nat.zero_add]; omega)
 simpa only [Nat.zero_add,List.nil_append] using this
theorem zsz (z : Array Value) (n k : Nat) (h : z.size = n) : (Builtin.zeroCells z k).toList.length = k * n := by
 rw [Array.length_toList,size_zeroCells,h]
theorem SI.res {μ : Mu} {w W : World} {G : Nat} {L : List (List AV)} (h : SI μ w G L W) {i : Nat} {e : List AV} {nl : Bool} {es : List (List AV)} {e0 : List AV} (he : L[i]? = some e) (h6 : e[6]? = some (.lst nl 2 es)) (h0 : es[0]? = some e0) (hok : okE e0 = true) (hbig : es.length ≤ 1000) :
  ∃ (RA : Option Addr) (rc C G2 : Nat) (W2 : World) (num : Int),W.cell? ⟨w.heap.size,i * 7 + 6,none⟩ = some (.slice RA es.length rc)∧avInt (cellAt e0 1) = num∧(∀ ty,(Builtin.append_ #[54,54] ty #[.slice none 0 0,.slice RA es.length rc]).run Try.prog W = .ok (.slice (some ⟨C,0,none⟩) es.length G2) W2) ∧
   W2.frozen? ⟨w.heap.size,i * 7 + 6,none⟩ = false∧(∃ x,W2.cell? ⟨w.heap.size,i * 7 + 6,none⟩ = some x) ∧
   (W2.setCell ⟨w.heap.size,i * 7 + 6,none⟩ (.slice (some ⟨C,0,none⟩) es.length G2)).cell? ⟨w.heap.size,i * 7 + 6,none⟩ = some (.slice (some ⟨C,0,none⟩) es.length G2) ∧
   (W2.setCell ⟨w.heap.size,i * 7 + 6,none⟩ (.slice (some ⟨C,0,none⟩) es.length G2)).cell? ⟨C,1,none⟩ = some (.int .i64 num) ∧
   (W2.setCell ⟨w.heap.size,i * 7 + 6,none⟩ (.slice (some ⟨C,0,none⟩) es.length G2)).frozen? ⟨C,1,none⟩ = false ∧
   SI μ w G (L.set i (e.set 6 (.lst false 2 (es.set 0 (e0.set 1 (.v (.int .i64 (IntKind.i64.wrap (num + 1))))))))) ((W2.setCell ⟨w.heap.size,i * 7 + 6,none⟩ (.slice (some ⟨C,0,none⟩) es.length G2)).setCell ⟨C,1,none⟩ (.int .i64 (wrap64 (num + 1)))) := by
 obtain ⟨cur,μ',h1,h2,h3,h4,h5,hnew,h7⟩ := h.ex
 have hes := (List.getElem?_eq_some_iff.1 h0).1
 obtain ⟨u,hu,hd⟩ := h3.2 i e 6 _ he h6
 obtain ⟨I,hI,hIz,hIs,hIb⟩ := infoRs2
 obtain ⟨A,c,news,rfl,hnl,hrow,hap⟩ := app_new (W := W) und54 hI hIz hIs hIb (by decide) (by decide) hd h5 (by omega) hbig
 have hge := grownCap_ge W es.length 0 68
 obtain ⟨G2,hG2⟩ : ∃ G2,grownCap W es.length 0 68 = G2 := ⟨_,rfl⟩
 rw [hG2] at hap hge
 obtain ⟨R,hR⟩ : ∃ R,(news ++ (Builtin.zeroCells (Value.agg #[.slice none 0 0,.int .i64 0]).cells (G2 - es.length)).toList).toArray = R := ⟨_,rfl⟩
 rw [hR] at hap
 have hRd : RowD μ' 2 es R := by
  have := hrow.app (L3 := (Builtin.zeroCells (Value.agg #[.slice none 0 0,.int .i64 0]).cells (G2 - es.length)).toList) (L2 := []) (ys := []) hnl RowD.nil
  rw [List.append_nil,List.append_nil,hR] at this
  exact this
 simp only [okE,Bool.and_eq_true] at hok
 obtain ⟨num,hnum,hnum2⟩ := isI_get hok.2
 have he0 := Nat.eq_of_beq_eq_true hok.1
 obtain ⟨x1,hx1,hdx⟩ := hRd.2 0 e0 1 _ h0 hnum
 have hx1' : x1 = .int .i64 num := by cases hdx; rfl
 subst hx1'
 rw [show 0 * 2 + 1 = 1 by omega] at hx1
 have h1s := (Array.getElem?_eq_some_iff.1 hx1).1
 have hBC := h.size
 have hw1 := alloc_new W.drew (.cells R 68)
 have hw2 : ∀ k,k < W.heap.size → (W.drew.alloc (.cells R 68)).heap[k]? = W.heap[k]? := fun k hk => Ev.alloc_old W.drew _ k hk
 have hsz2 : (W.drew.alloc (.cells R 68)).heap.size = W.heap.size + 1 := by show (W.heap.push _).size = _; rw [Array.size_push]
 have hin := (Array.getElem?_eq_some_iff.1 hu).1
 have hB2 : (W.drew.alloc (.cells R 68)).heap[w.heap.size]? = some (.cells cur 56 (0,0)) := (hw2 _ hBC).trans h1
 obtain ⟨W2,hW2⟩ : ∃ W2,W.drew.alloc (.cells R 68) = W2 := ⟨_,rfl⟩
 have hos : W2.os = W.os∧W2.tape = W.tape∧W2.output = W.output := by rw [← hW2]; exact ⟨rfl,rfl,rfl⟩
 rw [hW2] at hap hw1 hw2 hsz2 hB2
 have hw1 : W2.heap[W.heap.size]? = some (.cells R 68 (0,0)) := hw1
 have e3 := setCell_eq_setRow W2 w.heap.size (i * 7 + 6) cur 56 (0,0) (.slice (some ⟨W.heap.size,0,none⟩) es.length G2) hB2
 obtain ⟨cur3,hcur3⟩ : ∃ cur3,cur.setIfInBounds (i * 7 + 6) (.slice (some ⟨W.heap.size,0,none⟩) es.length G2) = cur3 := ⟨_,rfl⟩
 rw [hcur3] at e3
 have hB3 : (W2.setRow w.heap.size cur3).heap[w.heap.size]? = some (.cells cur3 56 (0,0)) := setRow_heap _ _ cur _ _ _ hB2
 have hC3 : (W2.setRow w.heap.size cur3).heap[W.heap.size]? = some (.cells R 68 (0,0)) := by rw [setRow_other _ _ _ _ (by omega)]; exact hw1
 have e4 := setCell_eq_setRow (W2.setRow w.heap.size cur3) W.heap.size 1 R 68 (0,0) (.int .i64 (wrap64 (num + 1))) hC3
 obtain ⟨R4,hR4⟩ : ∃ R4,R.setIfInBounds 1 (.int .i64 (wrap64 (num + 1))) = R4 := ⟨_,rfl⟩
 rw [hR4] at e4
 have hC4 : ((W2.setRow w.heap.size cur3).setRow W.heap.size R4).heap[W.heap.size]? = some (.cells R4 68 (0,0)) := setRow_heap _ _ R _ _ _ hC3
 refine ⟨A,c,W.heap.size,G2,W2,num,cell_at h1 hu,hnum2,hap,fro_at hB2 _,⟨_,cell_at hB2 hu⟩,?_,?_,?_,?_⟩
 ·rw [e3]
  exact cell_at hB3 (by rw [← hcur3,Array.getElem?_setIfInBounds,if_pos rfl,if_pos hin])
 ·rw [e3]; exact cell_at hC3 hx1
 ·rw [e3]; exact fro_at hC3 _
 ·rw [e3,e4]
  have hCn : μ' W.heap.size = none := by
   cases hx : μ' W.heap.size with
   | none => rfl
   | some o => have := (Array.getElem?_eq_some_iff.1 (h5 _ o hx)).1; omega
  let μ2 : Mu := fun b => if b = W.heap.size then some (.cells R4 68 (0,0)) else μ' b
  have hle : MuLe μ' μ2 := fun b o hb => by
   show (if b = W.heap.size then _ else _) = _
   rw [if_neg (fun x => by rw [x,hCn] at hb; cases hb)]; exact hb
  have hRd4 : RowD μ2 2 (es.set 0 (e0.set 1 (.v (.int .i64 (IntKind.i64.wrap (num + 1)))))) R4 := by
   have := RowD_set (hRd.mono hle) h0 (show 1 < 2 by decide) (DR.v (μ := μ2) (x := .int .i64 (wrap64 (num + 1))) rfl)
   rw [show 0 * 2 + 1 = 1 by omega,hR4,w64] at this
   exact this
  have hdl : DR μ2 (.lst false 2 (es.set 0 (e0.set 1 (.v (.int .i64 (IntKind.i64.wrap (num + 1))))))) (.slice (some ⟨W.heap.size,0,none⟩) es.length G2) := by
   have : DR μ2 (.lst false 2 (es.set 0 (e0.set 1 (.v (.int .i64 (IntKind.i64.wrap (num + 1))))))) (.slice (some ⟨W.heap.size,0,none⟩) (es.set 0 (e0.set 1 (.v (.int .i64 (IntKind.i64.wrap (num + 1)))))).length G2) := by
    refine .lst (fun k j => (R4[k * 2 + j]?).getD undef) rfl (fun x => by cases x) (by rw [List.length_set]; exact hge) hRd4.1 (fun a ha k j hk hj => ?_) (fun k e j u hk hj => ?_)
    ·cases ha
     have hkj : k * 2 + j < R4.size := by
      have hek := List.getElem?_eq_getElem hk
      obtain ⟨y,hy,_⟩ := hRd4.2 k _ j _ hek (List.getElem?_eq_getElem (by rw [hRd4.1 _ (List.getElem_mem hk)]; exact hj))
      exact (Array.getElem?_eq_some_iff.1 hy).1
     rw [Addr.add_lit]
     show (match μ2 W.heap.size with | some (.cells c _ _) => if (none : Option Nat).isSome then none else c[0 + (k * 2 + j)]? | _ => none) = _
     have : μ2 W.heap.size = some (.cells R4 68 (0,0)) := if_pos rfl
     rw [this,Nat.zero_add]
     simp [hkj]
    ·obtain ⟨y,hy,hdy⟩ := hRd4.2 k e j u hk hj
     simp only [hy,Option.getD_some]
     exact hdy
   rw [List.length_set] at this
   exact this
  refine ⟨hos.1.trans h.os,hos.2.1.trans h.tape,hos.2.2.trans h.output,by rw [setRow_size,setRow_size,hsz2]; omega,fun b hb => ?_,cur3,μ2,?_,?_,?_,h4.trans hle,fun b o hb => ?_,fun b o hb => ?_,?_⟩
  ·rw [setRow_other _ _ _ _ (by omega),setRow_other _ _ _ _ (by omega),hw2 b (by omega)]; exact h.keep b hb
  ·rw [setRow_other _ _ _ _ (by omega)]; exact hB3
  ·rw [← hcur3,Array.size_setIfInBounds]; exact h2
  ·have := RowD_set (h3.mono hle) he (show 6 < 7 by decide) hdl
   rw [hcur3] at this; exact this
  ·by_cases hbC : b = W.heap.size
   ·subst hbC
    have hb' : some (Obj.cells R4 68 (0,0)) = some o := by rw [← hb]; exact (if_pos rfl).symm
    rw [hC4]; exact hb'
   ·have hb' : μ' b = some o := by rw [← hb]; exact (if_neg hbC).symm
    have hbl := (Array.getElem?_eq_some_iff.1 (h5 b o hb')).1
    rw [setRow_other _ _ _ _ hbC,setRow_other _ _ _ _ (fun x => by rw [x,h7] at hb'; cases hb'),hw2 b hbl]
    exact h5 b o hb'
  ·by_cases hbC : b = W.heap.size
   ·exact .inr (by omega)
   ·exact hnew b o (by rw [← hb]; exact (if_neg hbC).symm)
  ·show (if w.heap.size = W.heap.size then _ else _) = _
   rw [if_neg (by omega)]; exact h7
theorem dr_lit {μ : Mu} {w : World} {nl : Bool} {sz : Nat} {ms : List (List AV)} {A : Option Addr} {c n : Nat} (hd : DR μ (.lst nl sz ms) (.slice A n c)) (himm : ∀ b o,μ b = some o → w.heap[b]? = some o) (h0 : 0 < ms.length) (hsz : 0 < sz) :
  n = ms.length∧∃ mb mo,A = some ⟨mb,mo,none⟩∧∀ (k : Nat) (m : List AV) (j : Nat) (x : Value),ms[k]? = some m → m[j]? = some (.v x) → w.cell? ⟨mb,mo + k * sz + j,none⟩ = some x∧mb < w.heap.size := by
 cases hd with
 | @lst _ _ _ A c vals hnil hA hc hszs hcell hv =>
  refine ⟨rfl,?_⟩
  cases A with
  | none => have := (hA rfl).1; subst this; simp at h0
  | some ad =>
   have hspot : ∃ b o,ad = ⟨b,o,none⟩ := by
    have := hcell ad rfl 0 0 h0 hsz
    rw [show (0 * sz + 0 : Nat) = 0 by omega] at this
    obtain ⟨b,o,s⟩ := ad
    cases s with
    | none => exact ⟨b,o,rfl⟩
    | some s =>
     simp only [Addr.add,if_true,muCell] at this
     split at this <;> simp at this
   obtain ⟨b,o,e⟩ := hspot
   subst e
   refine ⟨b,o,rfl,fun k m j x hk hj => ?_⟩
   have hkl := (List.getElem?_eq_some_iff.1 hk).1
   have hjl := (List.getElem?_eq_some_iff.1 hj).1
   rw [hszs m (List.mem_of_getElem? hk)] at hjl
   have h3 := hcell _ rfl k j hkl hjl
   have h4 := hv k m j _ hk hj
   have h5 := muCell_cell himm h3
   generalize vals k j = y at h4 h5
   cases h4
   rw [Addr.add_lit] at h5
   have h6 : w.cell? ⟨b,o + k * sz + j,none⟩ = some x := by rw [Nat.add_assoc]; exact h5
   refine ⟨h6,?_⟩
   unfold World.cell? at h6
   cases hb : w.heap[b]? with
   | none => simp [hb] at h6
   | some ob => exact (Array.getElem?_eq_some_iff.1 hb).1
theorem SI.step {μ : Mu} {w W : World} {G : Nat} {xs ms : List (List AV)} {i mb mo : Nat} {x m : List AV} (h : SI μ w G (mixL i xs (spL xs ms)) W) (hx : xs[i]? = some x) (hm : ms[i]? = some m) (hokx : okX x = true) (hokm : okM m = true)
  (hmc : ∀ (k : Nat) (m : List AV) (j : Nat) (x : Value),ms[k]? = some m → m[j]? = some (.v x) → w.cell? ⟨mb,mo + k * 5 + j,none⟩ = some x∧mb < w.heap.size) :
  StpOk (SI μ w G (mixL (i + 1) xs (spL xs ms))) w.heap.size mb mo i W := by
 have hyl := spL_len xs ms
 have hi := (List.getElem?_eq_some_iff.1 hx).1
 have hLi : (mixL i xs (spL xs ms))[i]? = some x := (mixL_get hyl hi).trans hx
 have hstep := mixL_step hyl hi (spL_get xs ms i x m hx hm)
 have hLl := mixL_len (i := i) hyl (by omega)
 rw [hstep]
 obtain ⟨sp,hsp,hsp2⟩ := isI_get hokm
 obtain ⟨hspc,hmb⟩ := hmc i m 3 _ hm hsp
 rw [hsp2]
 have hspW : W.cell? ⟨mb,mo + i * 5 + 3,none⟩ = some (.int .i64 sp) := by
  have hk := h.keep mb hmb
  unfold World.cell? at hspc ⊢
  rw [hk]; exact hspc
 simp only [okX,Bool.and_eq_true] at hokx
 obtain ⟨o7,o0,o1,o3,o4,o5,o6⟩ := hokx
 have o7 := Nat.eq_of_beq_eq_true o7
 obtain ⟨v0,g0,a0⟩ := isI_get o0
 obtain ⟨v1,g1,a1⟩ := isI_get o1
 obtain ⟨v3,g3,a3⟩ := isI_get o3
 obtain ⟨v4,g4,a4⟩ := isI_get o4
 obtain ⟨v5,g5,a5⟩ := isI_get o5
 obtain ⟨cur,μ',h1,h2,h3,h4,h5,h6,h7⟩ := h.ex
 have cellI : ∀ (j : Nat) (n : Int),x[j]? = some (.v (.int .i64 n)) → W.cell? ⟨w.heap.size,i * 7 + j,none⟩ = some (.int .i64 n) := fun j n hj => by
  obtain ⟨u,hu,hd⟩ := h3.2 i x j _ hLi hj
  have : u = .int .i64 n := by cases hd; rfl
  subst this
  exact cell_at h1 hu
 have hsame : ∀ y,y = x → SI μ w G ((mixL i xs (spL xs ms)).set i y) W := fun y hy => by
  rw [hy,show (mixL i xs (spL xs ms)).set i x = mixL i xs (spL xs ms) by
   have hil : i < (mixL i xs (spL xs ms)).length := by omega
   rw [List.getElem?_eq_getElem hil] at hLi
   rw [← Option.some.inj hLi]
   exact List.set_getElem_self hil]
  exact h
 have h6c : ∃ c6,x[6]? = some c6∧cellAt x 6 = c6 := by
  have : 6 < x.length := by omega
  exact ⟨x[6],List.getElem?_eq_getElem this,by simp [cellAt,this]⟩
 obtain ⟨c6,g6,a6⟩ := h6c
 rw [a6] at o6
 obtain ⟨u6,hu6,hd6⟩ := h3.2 i x 6 _ hLi g6
 have hc6 : ∃ (nl : Bool) (sz : Nat) (es : List (List AV)),c6 = .lst nl sz es∧((sz = 2∧es.all okE = true∧es.length ≤ 1000) ∨ es = []) := by
  unfold okR at o6
  split at o6
  ·rename_i nl es
   simp only [Bool.and_eq_true,decide_eq_true_eq] at o6
   exact ⟨_,_,_,rfl,.inl ⟨rfl,o6.1,o6.2⟩⟩
  ·exact ⟨_,_,_,rfl,.inr rfl⟩
  ·cases o6
 obtain ⟨nl,sz,es,rfl,hes⟩ := hc6
 obtain ⟨RA,rc,news,rfl,_⟩ := hd6.view h5
 have hru : ∀ (a : AV) (v : Value) (j : Nat),j < 7 → (∀ μ',DR μ' a v) → spA sp x = x.set j a → SI μ w G ((mixL i xs (spL xs ms)).set i (spA sp x)) (W.setCell ⟨w.heap.size,i * 7 + j,none⟩ v) := fun a v j hj hd e => by
  rw [e]; exact h.set hLi hj hd
 refine ⟨sp,v0,v1,v3,v4,v5,RA,es.length,rc,hspW,cellI 0 v0 g0,cellI 1 v1 g1,cellI 3 v3 g3,cellI 4 v4 g4,cellI 5 v5 g5,cell_at h1 hu6,fro_at h1,fun hr => ?_,fun hr => ?_,fun hr => ?_,fun hr => ?_,fun hr => ?_,fun hr => ?_,fun hr => ?_,fun hr hz => ?_,fun hr hpos => ?_⟩
 ·refine hru (.v (.int .i64 16)) _ 4 (by decide) (fun _ => .v rfl) ?_
  unfold spA; rw [hr]; rfl
 ·rw [w64]
  refine hru (.v (.int .i64 (IntKind.i64.wrap (v5 + 1)))) _ 5 (by decide) (fun _ => .v rfl) ?_
  unfold spA; rw [hr,a5]; rfl
 ·rw [w64]
  refine hru (.v (.int .i64 (IntKind.i64.wrap (v0 + 30)))) _ 0 (by decide) (fun _ => .v rfl) ?_
  unfold spA; rw [hr,a0]; rfl
 ·rw [w64]
  refine hru (.v (.int .i64 (IntKind.i64.wrap (v1 - 30)))) _ 1 (by decide) (fun _ => .v rfl) ?_
  unfold spA; rw [hr,a1]; rfl
 ·rw [w64]
  refine hru (.v (.int .i64 (pick (IntKind.i64.wrap (sp.tdiv 18)) 5))) _ 3 (by decide) (fun _ => .v rfl) ?_
  unfold spA; rw [hr]; rfl
 ·refine hru (.lst true 0 []) (.slice none 0 0) 6 (by decide) (fun μ' => ?_) ?_
  ·exact DR.lst (A := none) (c := 0) (xs := []) (fun _ _ => undef) rfl (fun _ => ⟨rfl,rfl⟩) (Nat.le_refl _) (fun e he => by cases he) (fun a ha => by cases ha) (fun k e j u hk => by simp at hk)
  ·unfold spA; rw [hr]; rfl
 ·refine hsame _ ?_
  unfold spA
  rw [if_neg (by omega),if_neg (by omega),if_neg (by omega),if_neg (by omega),if_neg (by omega),if_neg (by omega),if_neg (by omega)]
 ·refine hsame _ ?_
  unfold spA
  rw [if_pos hr,a6]
  show (bif Nat.beq es.length 0 then x else _) = x
  rw [hz]; rfl
 ·rcases hes with ⟨rfl,hall,hbig⟩ | rfl
  ·rw [List.all_eq_true] at hall
   have h00 : es[0]? = some es[0] := List.getElem?_eq_getElem hpos
   obtain ⟨RA',rc',C,G2,W2,num,p1,p2,p3,p4,p5,p6,p7,p8,p9⟩ := h.res hLi g6 h00 (hall _ (List.getElem_mem hpos)) hbig
   have heq : some (Value.slice RA es.length rc) = some (.slice RA' es.length rc') := (cell_at h1 hu6).symm.trans p1
   simp only [Option.some.injEq,Value.slice.injEq] at heq
   obtain ⟨rfl,_,rfl⟩ := heq
   refine ⟨C,G2,W2,num,p3,p4,p5,p6,p7,p8,?_⟩
   have e : spA sp x = x.set 6 (.lst false 2 (es.set 0 (es[0].set 1 (.v (.int .i64 (IntKind.i64.wrap (num + 1))))))) := by
    unfold spA
    rw [if_pos hr,a6]
    show (bif Nat.beq es.length 0 then x else x.set 6 (.lst false 2 (es.set 0 ((lget es 0).set 1 (.v (.int .i64 (IntKind.i64.wrap (avInt (cellAt (lget es 0) 1) + 1)))))))) = _
    have hl0 : lget es 0 = es[0] := by simp [lget,List.getD_eq_getElem?_getD,h00]
    rw [nbeq_false (by omega),cond_false,hl0,p2]
   rw [e]; exact p9
  ·simp at hpos
set_option maxHeartbeats 4000000 in
set_option maxRecDepth 1000000 in
theorem sp_nil (A : Option Addr) (M : Option Addr) (c mn mc : Nat) (w : World)
 (hap : ∀ ty,(Builtin.append_ #[27,27] ty #[.slice none 0 0,.slice A 0 c]).run Try.prog w = .ok (.slice none 0 0) w) :
  Calls Try.prog 14 #[.slice A 0 c,.slice M mn mc] w fun e w' => e = .returned (.slice none 0 0)∧w' = w := by
 go_enter Try.func14,Try.ntmps14
 go_wp2_with (at_builtin; refine Lib.wpList_append_run _ rfl _ _ _ _ rfl _ _ rfl rfl _ _ (hap _) ?_)
 go_loopg [5] 0 (fun g s5 wr => s5 = .int .i64 0∧wr = w)
 case atStart => exact ⟨rfl,rfl⟩
 case round =>
  obtain ⟨rfl,rfl⟩ := hrel
  go_wp2
  go_ret
  exact ⟨rfl,rfl⟩
theorem spoil_told : TellS Try.prog 14 spoilG := by
 intro bs rs h
 refine ⟨Try.f14,Try.func14,fun w μ F G vals himm hb hnd => ?_⟩
 unfold spoilG at h
 split at h
 ·rename_i an xs bn ms
  obtain ⟨hc,h⟩ := cond_some h
  obtain rfl := Option.some.inj h
  simp only [Bool.and_eq_true,decide_eq_true_eq,List.all_eq_true] at hc
  obtain ⟨hbig,hlen,hX,hM⟩ := hc
  obtain ⟨F1,F2,G1,G2,v,vs,rfl,rfl,rfl,b1,b2⟩ := b2s_cons hb
  obtain ⟨F3,F4,G3,G4,v',vs',rfl,rfl,rfl,b3,b4⟩ := b2s_cons b2
  obtain ⟨rfl,rfl,rfl⟩ := b2s_nil b4
  obtain ⟨rfl,rfl,hd⟩ := b2_lst b1
  obtain ⟨rfl,rfl,hd2⟩ := b2_lst b3
  obtain ⟨A,c,news0,rfl,hsv⟩ := hd.view himm
  obtain ⟨M,mc,_,rfl,_⟩ := hd2.view himm
  have hsz : (1 : Nat) = Try.f14.resultTypes.size := by kernel_rfl
  obtain ⟨I,hI,hIz,hIs,hIb⟩ := infoCl2
  rcases Nat.eq_zero_or_pos xs.length with hx0 | hx0
  ·have hxe : xs = [] := List.eq_nil_of_length_eq_zero hx0
   subst hxe
   have hap : ∀ ty,(Builtin.append_ #[27,27] ty #[.slice none 0 0,.slice A 0 c]).run Try.prog w = .ok (.slice none 0 0) w := fun ty => by
    obtain ⟨news,hlen,hnl,hrow,hfirst⟩ := app_view (P := Try.prog) (E := ⟨w,fun _ => False,μ⟩) (ρ := fun _ => none) (σ := []) (a := .lst an 7 []) rfl (.c (.d hd)) (SR.start himm _)
    exact run_app_room (base := none) (sLen := 0) (sCap := 0) (n := 0) und27 und27 rfl hI hlen (hfirst I.size 0 w (.inl hIs) (Nat.le_refl _) rfl) (Nat.le_refl _) rfl
   refine (sp_nil A M c ms.length mc w hap).mono fun e w' he => ?_
   obtain ⟨rfl,rfl⟩ := he
   refine ⟨[.ow true 56 7 []],[],[_],μ,[],[],[],rfl,hsz,rfl,⟨rfl,rfl,rfl,Nat.le_refl _,fun _ _ _ => rfl,MuLe.refl μ,fun _ _ h => .inl h⟩,himm,?_,.nil,by simp,fun b hb => by simp at hb⟩
   exact .cons (F := []) (F' := []) (G := []) (G' := []) (.o (.c .own)) .nil
  ·obtain ⟨A',c',news,hAe,hnl,hrow,hap⟩ := app_new (W := w) und27 hI hIz hIs hIb (by decide) (by decide) hd himm hx0 (by omega)
   simp only [Value.slice.injEq] at hAe
   obtain ⟨rfl,_,rfl⟩ := hAe
   obtain ⟨_,mb,mo,rfl,hmc⟩ := dr_lit hd2 himm (by omega) (by decide)
   obtain ⟨a,rfl⟩ : ∃ a,A = some a := by
    cases A with
    | none => have := (hsv.hA rfl).1; rw [this] at hx0; simp at hx0
    | some a => exact ⟨a,rfl⟩
   have hge := grownCap_ge w xs.length 0 56
   obtain ⟨Gc,hGc⟩ : ∃ Gc,grownCap w xs.length 0 56 = Gc := ⟨_,rfl⟩
   rw [hGc] at hap hge
   have hzl := zsz (Value.agg #[.int .i64 0,.int .i64 0,.slice none 0 0,.int .i64 0,.int .i64 0,.int .i64 0,.slice none 0 0]).cells 7 (Gc - xs.length) rfl
   have hst : SI μ w Gc (mixL 0 xs (spL xs ms)) (w.drew.alloc (.cells (news ++ (Builtin.zeroCells (Value.agg #[.int .i64 0,.int .i64 0,.slice none 0 0,.int .i64 0,.int .i64 0,.int .i64 0,.slice none 0 0]).cells (Gc - xs.length)).toList).toArray 56)) := by
    refine ⟨rfl,rfl,rfl,by show w.heap.size < (w.heap.push _).size; rw [Array.size_push]; omega,fun b hb => Ev.alloc_old w.drew _ b hb,_,μ,Ev.alloc_new w.drew _,?_,?_,MuLe.refl μ,fun b o hb => ?_,fun b o hb => .inl hb,?_⟩
    ·rw [List.size_toArray,List.length_append,hzl,hnl]; omega
    ·have := hrow.app (L3 := (Builtin.zeroCells (Value.agg #[.int .i64 0,.int .i64 0,.slice none 0 0,.int .i64 0,.int .i64 0,.int .i64 0,.slice none 0 0]).cells (Gc - xs.length)).toList) (L2 := []) (ys := []) hnl RowD.nil
     rw [List.append_nil,List.append_nil] at this
     exact this
    ·have hb0 := himm b o hb
     exact (Ev.alloc_old w.drew _ b (Array.getElem?_eq_some_iff.1 hb0).1).trans hb0
    ·cases hm : μ w.heap.size with
     | none => rfl
     | some o => have := (Array.getElem?_eq_some_iff.1 (himm _ o hm)).1; omega
   refine (sp_walk a mb mo xs.length c ms.length mc w _ Gc hx0 hlen (by omega) hap (fun i W => SI μ w Gc (mixL i xs (spL xs ms)) W) hst (fun i W hi hJ => ?_)).mono fun e w' he => ?_
   ·exact SI.step hJ (List.getElem?_eq_getElem hi) (List.getElem?_eq_getElem (by omega)) (hX _ (List.getElem_mem hi)) (hM _ (List.getElem_mem (by omega))) hmc
   ·obtain ⟨rfl,hJ⟩ := he
    have hmix : mixL xs.length xs (spL xs ms) = spL xs ms := by
     unfold mixL
     rw [List.drop_length,List.append_nil,List.take_of_length_le (by rw [spL_len]; exact Nat.le_refl _)]
    rw [hmix] at hJ
    obtain ⟨cur,μ',h1,h2,h3,h4,h5,h6,h7⟩ := hJ.ex
    have hem : xs.isEmpty = false := by cases xs with
     | nil => simp at hx0
     | cons => rfl
    rw [hem]
    refine ⟨[.ow false 56 7 (spL xs ms)],[],[_],μ',[w.heap.size],[],[],rfl,hsz,rfl,⟨hJ.os,hJ.tape,hJ.output,Nat.le_of_lt hJ.size,fun b hb _ => hJ.keep b hb,h4,fun b o hb => (h6 b o hb).imp id fun h => .inr h⟩,h5,?_,.nil,by simp,fun b hb => .inr (by simp at hb; omega)⟩
    have hb0 : B0 μ' (hf w') [w.heap.size] (.ow false 56 7 (spL xs ms)) (.slice (some ⟨w.heap.size,0,none⟩) (spL xs ms).length Gc) :=
     .ow ⟨(0,0),h1,.inl rfl⟩ h7 (by rw [spL_len]; exact hge) h2.symm h3
    rw [spL_len] at hb0
    exact .cons (F := [w.heap.size]) (F' := []) (G := []) (G' := []) (.o (.c hb0)) .nil
 ·cases h
end Go.Proofs.Ytnhahcomgeeobaa
