/- The blocks that QuerySame makes for its third list. -/
import Derived.Test.YtcinngpelbdopaaSmp
set_option linter.all false
namespace Go.Proofs.Ytcinngpelbdopaa
open Go.RowKit Go.Shelf Go.Lib Go.Ev
abbrev tR : Nat := 66
abbrev tS : Nat := 76
def okRc (j : Nat) (v : Value) : Prop := if j % 4 = 0 then ∃ x, v = .int .u32 x else ∃ x, v = .int .i64 x
def Bl (n0 : Nat) (W : World) (b t m : Nat) : Prop := n0 ≤ b ∧ ∃ cur, W.heap[b]? = some (.cells cur t (0, 0)) ∧ cur.size = m
def OkSl (n0 mx : Nat) (W : World) (A : Option Addr) (l c : Nat) : Prop := (A = none ∧ l = 0 ∧ c = 0) ∨ ∃ b, A = some ⟨b, 0, none⟩ ∧ l ≤ c ∧ l ≤ mx ∧ Bl n0 W b tR (c * 4)
def Cok (n0 mx : Nat) (W : World) (t j : Nat) (v : Value) : Prop :=
  (t = tR ∧ okRc j v) ∨ (t = tS ∧ (if j % 2 = 0 then ∃ A l c, v = .slice A l c ∧ OkSl n0 mx W A l c else ∃ x, v = .int .i64 x))
structure NB (n0 mx : Nat) (w W : World) : Prop where
  os : W.os = w.os
  tape : W.tape = w.tape
  output : W.output = w.output
  size : n0 ≤ W.heap.size
  keep : ∀ b, b < n0 → W.heap[b]? = w.heap[b]?
  nb : ∀ b o, n0 ≤ b → W.heap[b]? = some o → ∃ cur t, o = .cells cur t (0, 0) ∧ ∀ j v, cur[j]? = some v → Cok n0 mx W t j v
def Kp (n0 : Nat) (W W' : World) : Prop := ∀ b t m, Bl n0 W b t m → Bl n0 W' b t m
theorem Kp.refl {n0 : Nat} (W : World) : Kp n0 W W := fun _ _ _ h => h
theorem Kp.trans {n0 : Nat} {a b c : World} (h : Kp n0 a b) (k : Kp n0 b c) : Kp n0 a c := fun x t m y => k x t m (h x t m y)
theorem OkSl.kp {n0 mx : Nat} {W W' : World} {A : Option Addr} {l c : Nat} (k : Kp n0 W W') (h : OkSl n0 mx W A l c) : OkSl n0 mx W' A l c := by
  rcases h with h | ⟨b, h1, h2, h3, h4⟩
  · exact .inl h
  · exact .inr ⟨b, h1, h2, h3, k _ _ _ h4⟩
theorem OkSl.le {n0 mx mx' : Nat} {W : World} {A : Option Addr} {l c : Nat} (k : mx ≤ mx') (h : OkSl n0 mx W A l c) : OkSl n0 mx' W A l c := by
  rcases h with h | ⟨b, h1, h2, h3, h4⟩
  · exact .inl h
  · exact .inr ⟨b, h1, h2, by omega, h4⟩
theorem Cok.kp {n0 mx : Nat} {W W' : World} {t j : Nat} {v : Value} (k : Kp n0 W W') (h : Cok n0 mx W t j v) : Cok n0 mx W' t j v := by
  rcases h with h | ⟨h1, h2⟩
  · exact .inl h
  · refine .inr ⟨h1, ?_⟩
    by_cases hj : j % 2 = 0
    · rw [if_pos hj] at h2 ⊢
      obtain ⟨A, l, c, h3, h4⟩ := h2
      exact ⟨A, l, c, h3, h4.kp k⟩
    · rw [if_neg hj] at h2 ⊢
      exact h2
theorem Cok.le {n0 mx mx' : Nat} {W : World} {t j : Nat} {v : Value} (k : mx ≤ mx') (h : Cok n0 mx W t j v) : Cok n0 mx' W t j v := by
  rcases h with h | ⟨h1, h2⟩
  · exact .inl h
  · refine .inr ⟨h1, ?_⟩
    by_cases hj : j % 2 = 0
    · rw [if_pos hj] at h2 ⊢
      obtain ⟨A, l, c, h3, h4⟩ := h2
      exact ⟨A, l, c, h3, h4.le k⟩
    · rw [if_neg hj] at h2 ⊢
      exact h2
theorem NB.le {n0 mx mx' : Nat} {w W : World} (k : mx ≤ mx') (h : NB n0 mx w W) : NB n0 mx' w W :=
  ⟨h.os, h.tape, h.output, h.size, h.keep, fun b o hb ho => by
    obtain ⟨cur, t, h1, h2⟩ := h.nb b o hb ho
    exact ⟨cur, t, h1, fun j v hj => (h2 j v hj).le k⟩⟩
theorem NB.start (mx : Nat) (w : World) : NB w.heap.size mx w w := ⟨rfl, rfl, rfl, Nat.le_refl _, fun _ _ => rfl, fun b o hb ho => by
  have := (Array.getElem?_eq_some_iff.1 ho).1; omega⟩
theorem NB.drew {n0 mx : Nat} {w W : World} (h : NB n0 mx w W) : NB n0 mx w W.drew := ⟨h.os, h.tape, h.output, h.size, h.keep, h.nb⟩
theorem NB.alloc {n0 mx : Nat} {w W : World} {cur : Array Value} {t : Nat} (h : NB n0 mx w W) (hc : ∀ j v, cur[j]? = some v → Cok n0 mx W t j v) :
    NB n0 mx w (W.alloc (.cells cur t)) ∧ Kp n0 W (W.alloc (.cells cur t)) ∧ Bl n0 (W.alloc (.cells cur t)) W.heap.size t cur.size := by
  have hs : (W.alloc (.cells cur t)).heap.size = W.heap.size + 1 := by show (W.heap.push _).size = _; rw [Array.size_push]
  have hk : Kp n0 W (W.alloc (.cells cur t)) := fun b ty m ⟨h1, c, h2, h3⟩ => ⟨h1, c, (Ev.alloc_old W _ b (Array.getElem?_eq_some_iff.1 h2).1).trans h2, h3⟩
  refine ⟨⟨h.os, h.tape, h.output, by rw [hs]; have := h.size; omega, fun b hb => (Ev.alloc_old W _ b (by have := h.size; omega)).trans (h.keep b hb), fun b o hb ho => ?_⟩, hk, h.size, cur, alloc_new W _, rfl⟩
  by_cases e : b = W.heap.size
  · subst e
    rw [alloc_new W] at ho
    obtain rfl := Option.some.inj ho
    exact ⟨cur, t, rfl, fun j v hj => (hc j v hj).kp hk⟩
  · have hl := (Array.getElem?_eq_some_iff.1 ho).1
    rw [Ev.alloc_old W _ b (by omega)] at ho
    obtain ⟨c, ty, h1, h2⟩ := h.nb b o hb ho
    exact ⟨c, ty, h1, fun j v hj => (h2 j v hj).kp hk⟩
theorem NB.row {n0 mx : Nat} {w W : World} {b t : Nat} {cur cur' : Array Value} (h : NB n0 mx w W) (hb : n0 ≤ b) (hc : W.heap[b]? = some (.cells cur t (0, 0))) (hs : cur'.size = cur.size) (hv : ∀ j v, cur'[j]? = some v → Cok n0 mx W t j v) :
    NB n0 mx w (W.setRow b cur') ∧ Kp n0 W (W.setRow b cur') := by
  have hk : Kp n0 W (W.setRow b cur') := fun b' ty m ⟨h1, c, h2, h3⟩ => by
    by_cases e : b' = b
    · subst e
      have := h2.symm.trans hc
      simp only [Option.some.injEq, Obj.cells.injEq] at this
      obtain ⟨rfl, rfl, _⟩ := this
      exact ⟨h1, cur', setRow_heap _ _ _ _ _ _ hc, hs.trans h3⟩
    · exact ⟨h1, c, (setRow_other _ _ _ _ e).trans h2, h3⟩
  refine ⟨⟨h.os, h.tape, h.output, by rw [setRow_size]; exact h.size, fun b' hb' => (setRow_other _ _ _ _ (by omega)).trans (h.keep b' hb'), fun b' o hb' ho => ?_⟩, hk⟩
  by_cases e : b' = b
  · subst e
    rw [setRow_heap _ _ _ _ _ _ hc] at ho
    obtain rfl := Option.some.inj ho
    exact ⟨cur', t, rfl, fun j v hj => (hv j v hj).kp hk⟩
  · rw [setRow_other _ _ _ _ e] at ho
    obtain ⟨c, ty, h1, h2⟩ := h.nb b' o hb' ho
    exact ⟨c, ty, h1, fun j v hj => (h2 j v hj).kp hk⟩
theorem NB.set {n0 mx : Nat} {w W : World} {b t m j : Nat} {v : Value} (h : NB n0 mx w W) (hb : Bl n0 W b t m) (hv : Cok n0 mx W t j v) :
    NB n0 mx w (W.setCell ⟨b, j, none⟩ v) ∧ Kp n0 W (W.setCell ⟨b, j, none⟩ v) := by
  obtain ⟨hn, cur, hc, hm⟩ := hb
  rw [setCell_eq_setRow W b j cur t _ v hc]
  refine h.row hn hc (by rw [Array.size_setIfInBounds]) fun j' v' hj' => ?_
  obtain ⟨c, ty, h1, h2⟩ := h.nb b _ hn hc
  simp only [Obj.cells.injEq] at h1
  obtain ⟨rfl, rfl, _⟩ := h1
  rw [Array.getElem?_setIfInBounds] at hj'
  by_cases e : j = j'
  · subst e
    rw [if_pos rfl] at hj'
    split at hj'
    · obtain rfl := Option.some.inj hj'; exact hv
    · cases hj'
  · rw [if_neg e] at hj'
    exact h2 _ _ hj'
theorem NB.get {n0 mx : Nat} {w W : World} {b t m j : Nat} (h : NB n0 mx w W) (hb : Bl n0 W b t m) (hj : j < m) :
    W.frozen? ⟨b, j, none⟩ = false ∧ ∃ v, W.cell? ⟨b, j, none⟩ = some v ∧ Cok n0 mx W t j v := by
  obtain ⟨hn, cur, hc, hm⟩ := hb
  obtain ⟨c, ty, h1, h2⟩ := h.nb b _ hn hc
  simp only [Obj.cells.injEq] at h1
  obtain ⟨rfl, rfl, _⟩ := h1
  have hj' : cur[j]? = some cur[j] := Array.getElem?_eq_getElem (by omega)
  exact ⟨by simp [World.frozen?, hc], cur[j], by simp only [World.cell?, hc, Option.isSome_none, Bool.false_eq_true, if_false]; exact hj', h2 _ _ hj'⟩
theorem Cok.num {n0 mx : Nat} {W : World} {j : Nat} {v : Value} (h : Cok n0 mx W tS j v) (hj : j % 2 = 1) : ∃ x, v = .int .i64 x := by
  rcases h with ⟨h, _⟩ | ⟨_, h⟩
  · cases h
  · rwa [if_neg (by omega)] at h
theorem Cok.sl {n0 mx : Nat} {W : World} {j : Nat} {v : Value} (h : Cok n0 mx W tS j v) (hj : j % 2 = 0) : ∃ A l c, v = .slice A l c ∧ OkSl n0 mx W A l c := by
  rcases h with ⟨h, _⟩ | ⟨_, h⟩
  · cases h
  · rwa [if_pos hj] at h
theorem Cok.key {n0 mx : Nat} {W : World} {j : Nat} {v : Value} (h : Cok n0 mx W tR j v) (hj : j % 4 = 0) : ∃ x, v = .int .u32 x := by
  rcases h with ⟨_, h⟩ | ⟨h, _⟩
  · rwa [okRc, if_pos hj] at h
  · cases h
theorem Cok.col {n0 mx : Nat} {W : World} {j : Nat} {v : Value} (h : Cok n0 mx W tR j v) (hj : j % 4 ≠ 0) : ∃ x, v = .int .i64 x := by
  rcases h with ⟨_, h⟩ | ⟨h, _⟩
  · rwa [okRc, if_neg hj] at h
  · cases h
structure Sz (n0 mx t sz : Nat) (z : Array Value) : Prop where
  pos : 0 < sz
  zsz : z.size = sz
  zok : ∀ W j v, z[j]? = some v → Cok n0 mx W t j v
  sh : ∀ W k j v, Cok n0 mx W t j v → Cok n0 mx W t (k * sz + j) v
theorem szR (n0 mx : Nat) : Sz n0 mx tR 4 #[.int .u32 0, .int .i64 0, .int .i64 0, .int .i64 0] where
  pos := by decide
  zsz := rfl
  zok W j v h := by
    refine .inl ⟨rfl, ?_⟩
    unfold okRc
    match j, h with
    | 0, h => cases h; exact ⟨0, rfl⟩
    | 1, h => cases h; exact ⟨0, rfl⟩
    | 2, h => cases h; exact ⟨0, rfl⟩
    | 3, h => cases h; exact ⟨0, rfl⟩
    | j + 4, h => simp at h
  sh W k j v h := by
    rcases h with ⟨_, h⟩ | ⟨h, _⟩
    · refine .inl ⟨rfl, ?_⟩
      unfold okRc at h ⊢
      rwa [show (k * 4 + j) % 4 = j % 4 by omega]
    · cases h
theorem szS (n0 mx : Nat) : Sz n0 mx tS 2 #[.slice none 0 0, .int .i64 0] where
  pos := by decide
  zsz := rfl
  zok W j v h := by
    refine .inr ⟨rfl, ?_⟩
    match j, h with
    | 0, h => cases h; exact ⟨none, 0, 0, rfl, .inl ⟨rfl, rfl, rfl⟩⟩
    | 1, h => cases h; exact ⟨0, rfl⟩
    | j + 2, h => simp at h
  sh W k j v h := by
    rcases h with ⟨h, _⟩ | ⟨_, h⟩
    · cases h
    · refine .inr ⟨rfl, ?_⟩
      rwa [show (k * 2 + j) % 2 = j % 2 by omega]
theorem zeros_get {z : Array Value} {n sz i : Nat} {v : Value} (hz : z.size = sz) (hp : 0 < sz) (h : (Builtin.zeroCells z n)[i]? = some v) : z[i % sz]? = some v := by
  unfold Builtin.zeroCells at h
  rw [hz] at h
  simp only [Array.getElem?_map] at h
  cases e : (Array.range (n * sz))[i]? with
  | none => rw [e] at h; cases h
  | some k =>
    rw [e] at h
    have : k = i := by
      have := Array.getElem?_eq_some_iff.1 e
      obtain ⟨h1, h2⟩ := this
      rw [Array.getElem_range] at h2
      exact h2.symm
    subst this
    have hlt : k % sz < z.size := by rw [hz]; exact Nat.mod_lt _ hp
    simp only [Option.map_some, Option.some.injEq] at h
    rw [Array.getElem?_eq_getElem hlt, ← h, getElem!_pos z (k % sz) hlt]
theorem list_app_get {α : Type} {a b : List α} {i : Nat} {v : α} (h : (a ++ b)[i]? = some v) : a[i]? = some v ∨ (a.length ≤ i ∧ b[i - a.length]? = some v) := by
  by_cases hi : i < a.length
  · rw [List.getElem?_append_left hi] at h; exact .inl h
  · rw [List.getElem?_append_right (by omega)] at h; exact .inr ⟨by omega, h⟩
theorem app_one {n0 mx t ety sz l c E : Nat} {z : Array Value} {I : TypeInfo} {w W : World} {A : Option Addr} (hZ : Sz n0 mx ety sz z) (ht : Try.prog.underlying t = some (.slice ety)) (hI : Try.prog.info? ety = some I) (hz : I.zero = some (.agg z)) (hs : I.size = sz) (hb1 : 0 < I.bytes) (hb2 : I.bytes ≤ 100)
    (hone : ∀ v j W, Cok n0 mx W ety j v → v.oneCell' = true) (h : NB n0 mx w W) (hl : l ≤ 1000) (hA : (A = none ∧ l = 0 ∧ c = 0) ∨ ∃ b, A = some ⟨b, 0, none⟩ ∧ l ≤ c ∧ Bl n0 W b ety (c * sz)) (hE : Bl n0 W E ety sz) :
    ∃ (b c' : Nat) (W2 : World), (∀ ty, (Builtin.append_ #[t, t] ty #[.slice A l c, .slice (some ⟨E, 0, none⟩) 1 1]).run Try.prog W = .ok (.slice (some ⟨b, 0, none⟩) (l + 1) c') W2) ∧ NB n0 mx w W2 ∧ Kp n0 W W2 ∧ l + 1 ≤ c' ∧ Bl n0 W2 b ety (c' * sz) := by
  obtain ⟨hEn, els, hEc, hEs⟩ := hE
  have hEok : ∀ j v, els[j]? = some v → Cok n0 mx W ety j v := fun j v hj => by
    obtain ⟨c, ty, h1, h2⟩ := h.nb E _ hEn hEc
    simp only [Obj.cells.injEq] at h1
    obtain ⟨rfl, rfl, _⟩ := h1
    exact h2 j v hj
  have hlen : ∀ w : World, (Builtin.lenOf (.slice (some ⟨E, 0, none⟩) 1 1)).run Try.prog w = .ok 1 w := fun _ => rfl
  have hfirst : ∀ W' : World, W'.heap = W.heap → (Builtin.firstCells I.size 1 (.slice (some ⟨E, 0, none⟩) 1 1)).run Try.prog W' = .ok els.toList.toArray W' := fun W' hW' => by
    refine run_firstCells_some _ I.size 1 ⟨E, 0, none⟩ 1 1 els.toList (by rw [hs, Array.length_toList, hEs]; omega) fun j v hj => ?_
    rw [Addr.add_lit, Nat.zero_add]
    simp only [World.cell?, hW', hEc]
    simpa using hj
  by_cases hroom : l + 1 ≤ c
  · rcases hA with ⟨_, _, hc⟩ | ⟨b, rfl, hlc, hB⟩
    · omega
    · obtain ⟨hbn, cur, hcur, hcs⟩ := hB
      have hm : (l + 1) * sz ≤ c * sz := Nat.mul_le_mul_right _ hroom
      rw [Nat.succ_mul] at hm
      have hst := run_storeCells_fz Try.prog b (l * sz) ety false (0, 0) els.toList 0 cur W hcur (.inl rfl) (by rw [Array.length_toList, hEs, hcs]; omega) (fun v hv => by
        obtain ⟨i, hi⟩ := List.getElem?_of_mem hv
        exact hone v i W (hEok i v (by simpa using hi)))
      have hcok : ∀ j v, cur[j]? = some v → Cok n0 mx W ety j v := fun j v hj => by
        obtain ⟨c, ty, h1, h2⟩ := h.nb b _ hbn hcur
        simp only [Obj.cells.injEq] at h1
        obtain ⟨rfl, rfl, _⟩ := h1
        exact h2 j v hj
      obtain ⟨cur', hcur'⟩ : ∃ cur', (cur.toList.take (l * sz + 0) ++ els.toList ++ cur.toList.drop (l * sz + 0 + els.toList.length)).toArray = cur' := ⟨_, rfl⟩
      rw [hcur'] at hst
      have ltake : (cur.toList.take (l * sz + 0)).length = l * sz := by rw [List.length_take, Array.length_toList]; omega
      have hsz : cur'.size = cur.size := by
        rw [← hcur']
        show (_ : List Value).length = _
        rw [List.length_append, List.length_append, ltake, List.length_drop, Array.length_toList, Array.length_toList]; omega
      obtain ⟨k1, k2⟩ := h.row (cur' := cur') hbn hcur hsz fun j v hj => by
        rw [← hcur'] at hj
        simp only [List.getElem?_toArray] at hj
        rcases list_app_get hj with hj | ⟨h1, hj⟩
        · rcases list_app_get hj with hj | ⟨h1, hj⟩
          · rw [List.getElem?_take] at hj
            split at hj
            · exact hcok j v (by simpa using hj)
            · cases hj
          · rw [ltake] at h1 hj
            have := hZ.sh W l _ _ (hEok _ v (by simpa using hj))
            rwa [show l * sz + (j - l * sz) = j by omega] at this
        · have e : (cur.toList.take (l * sz + 0) ++ els.toList).length = l * sz + sz := by rw [List.length_append, ltake, Array.length_toList, hEs]
          rw [e] at h1 hj
          rw [List.getElem?_drop, Array.length_toList, hEs, show l * sz + 0 + sz + (j - (l * sz + sz)) = j by omega] at hj
          exact hcok j v (by simpa using hj)
      refine ⟨b, c, W.setRow b cur', fun ty => ?_, k1, k2, hroom, k2 _ _ _ ⟨hbn, cur, hcur, hcs⟩⟩
      refine run_app_room ht ht rfl hI hlen (by rw [hfirst W rfl]) hroom ?_
      show (storeCells _ _).run Try.prog W = _
      rw [Addr.add_lit, hs, Nat.zero_add]
      exact hst
  · have hold : ∃ olds : List Value, olds.length = l * sz ∧ (∀ j v, olds[j]? = some v → Cok n0 mx W ety j v) ∧ (Builtin.firstCells I.size l (.slice A l c)).run Try.prog W.drew = .ok olds.toArray W.drew := by
      rcases hA with ⟨rfl, rfl, rfl⟩ | ⟨b, rfl, hlc, hB⟩
      · exact ⟨[], by simp, fun j v hj => by simp at hj, rfl⟩
      · obtain ⟨hbn, cur, hcur, hcs⟩ := hB
        have hm : l * sz ≤ c * sz := Nat.mul_le_mul_right _ hlc
        refine ⟨cur.toList.take (l * sz), by rw [List.length_take, Array.length_toList]; omega, fun j v hj => ?_, ?_⟩
        · rw [List.getElem?_take] at hj
          split at hj
          · obtain ⟨c, ty, h1, h2⟩ := h.nb b _ hbn hcur
            simp only [Obj.cells.injEq] at h1
            obtain ⟨rfl, rfl, _⟩ := h1
            exact h2 j v (by simpa using hj)
          · cases hj
        · refine run_firstCells_some _ I.size l ⟨b, 0, none⟩ l c (cur.toList.take (l * sz)) (by rw [List.length_take, Array.length_toList, hs]; omega) fun j v hj => ?_
          rw [Addr.add_lit, Nat.zero_add]
          rw [List.getElem?_take] at hj
          split at hj
          · show W.cell? _ = _
            simp only [World.cell?, hcur]
            simpa using hj
          · cases hj
    obtain ⟨olds, ho1, ho2, ho3⟩ := hold
    have hm : (l + 1) * I.bytes ≤ 1001 * 100 := Nat.mul_le_mul (by omega) hb2
    have hlc : c ≤ l := by omega
    have hrun := fun ty => run_app_grow (P := Try.prog) (ty := ty) ht ht rfl hI hz hb1 (base := A) (sLen := l) (sCap := c) (olds := olds) (news := els.toList) hlen (hfirst W.drew rfl) ho3 (by omega) (by omega)
    have hge : l + 1 ≤ grownCap W (l + 1) c ety := grownCap_ge _ _ _ _
    obtain ⟨G, hG⟩ : ∃ G, grownCap W (l + 1) c ety = G := ⟨_, rfl⟩
    rw [hG] at hrun hge
    have hzc : (Value.agg z).cells = z := rfl
    obtain ⟨R, hR⟩ : ∃ R, (olds ++ els.toList ++ (Builtin.zeroCells (Value.agg z).cells (G - (l + 1))).toList).toArray = R := ⟨_, rfl⟩
    rw [hR] at hrun
    have hRs : R.size = G * sz := by
      rw [← hR]
      rw [List.size_toArray, List.length_append, List.length_append, ho1, Array.length_toList, Array.length_toList, size_zeroCells, hEs, hzc, hZ.zsz, ← Nat.succ_mul, ← Nat.add_mul, show l.succ + (G - (l + 1)) = G by omega]
    have hRok : ∀ j v, R[j]? = some v → Cok n0 mx W.drew ety j v := fun j v hj => by
      rw [← hR] at hj
      simp only [List.getElem?_toArray] at hj
      rcases list_app_get hj with hj | ⟨h1, hj⟩
      · rcases list_app_get hj with hj | ⟨h1, hj⟩
        · exact ho2 j v hj
        · rw [ho1] at h1 hj
          have := hZ.sh W l _ _ (hEok _ v (by simpa using hj))
          rwa [show l * sz + (j - l * sz) = j by omega] at this
      · have e : (olds ++ els.toList).length = (l + 1) * sz := by simp [ho1, hEs, Nat.succ_mul]
        rw [e] at h1 hj
        have hj' : (Builtin.zeroCells z (G - (l + 1)))[j - (l + 1) * sz]? = some v := by rw [hzc] at hj; simpa using hj
        have h3 := hZ.sh W (l + 1 + (j - (l + 1) * sz) / sz) _ _ (hZ.zok W _ _ (zeros_get hZ.zsz hZ.pos hj'))
        have e2 : (l + 1 + (j - (l + 1) * sz) / sz) * sz + (j - (l + 1) * sz) % sz = j := by
          have := Nat.div_add_mod (j - (l + 1) * sz) sz
          rw [Nat.add_mul, Nat.mul_comm ((j - (l + 1) * sz) / sz) sz]; omega
        rw [e2] at h3
        exact h3
    obtain ⟨k1, k2, k3⟩ := h.drew.alloc hRok
    rw [hRs] at k3
    exact ⟨W.heap.size, G, _, hrun, k1, k2, hge, k3⟩
theorem list_choice {α : Type} (Q : Nat → α → Prop) : ∀ n, (∀ i, i < n → ∃ p, Q i p) → ∃ cs : List α, cs.length = n ∧ ∀ i p, cs[i]? = some p → Q i p
  | 0, _ => ⟨[], rfl, fun i p h => by simp at h⟩
  | n + 1, h => by
    obtain ⟨cs, h1, h2⟩ := list_choice Q n fun i hi => h i (by omega)
    obtain ⟨p, hp⟩ := h n (by omega)
    refine ⟨cs ++ [p], by simp [h1], fun i q hq => ?_⟩
    rcases list_app_get hq with hq | ⟨h3, hq⟩
    · exact h2 i q hq
    · have hi := (List.getElem?_eq_some_iff.1 hq).1
      simp at hi
      have : i = n := by omega
      subst this
      rw [h1, Nat.sub_self] at hq
      cases hq
      exact hp
theorem dr_block {μ : Mu} {b t sz l c : Nat} {cur : Array Value} {fz : Nat × Nat} {es : List (List AV)} (hb : μ b = some (.cells cur t fz)) (hl : es.length = l) (hc : l ≤ c) (hr : RowD μ sz es cur) : DR μ (.lst false sz es) (.slice (some ⟨b, 0, none⟩) l c) := by
  subst hl
  refine .lst (fun k j => (cur[k * sz + j]?).getD undef) rfl (fun x => by cases x) hc hr.1 (fun a ha k j hk hj => ?_) (fun k e j u hk hj => ?_)
  · cases ha
    have hek := List.getElem?_eq_getElem hk
    obtain ⟨y, hy, _⟩ := hr.2 k _ j _ hek (List.getElem?_eq_getElem (by rw [hr.1 _ (List.getElem_mem hk)]; exact hj))
    rw [Addr.add_lit]
    unfold muCell
    simp [hb, hy]
  · obtain ⟨y, hy, hdy⟩ := hr.2 k e j u hk hj
    simp only [hy, Option.getD_some]
    exact hdy
theorem dr_nil (μ : Mu) (sz : Nat) : DR μ (.lst true sz []) (.slice none 0 0) :=
  DR.lst (A := none) (c := 0) (xs := []) (fun _ _ => undef) rfl (fun _ => ⟨rfl, rfl⟩) (Nat.le_refl _) (fun e he => by cases he) (fun a ha => by cases ha) (fun k e j u hk => by simp at hk)
def muAll (n0 : Nat) (μ : Mu) (W : World) : Mu := fun b => if n0 ≤ b then W.heap[b]? else μ b
theorem muAll_new {n0 b : Nat} {μ : Mu} {W : World} (h : n0 ≤ b) : muAll n0 μ W b = W.heap[b]? := if_pos h
theorem NB.mu {mx : Nat} {w W : World} {μ : Mu} (h : NB w.heap.size mx w W) (himm : ∀ b o, μ b = some o → w.heap[b]? = some o) :
    MuLe μ (muAll w.heap.size μ W) ∧ (∀ b o, muAll w.heap.size μ W b = some o → W.heap[b]? = some o) := by
  refine ⟨fun b o hb => ?_, fun b o hb => ?_⟩
  · have h1 := (Array.getElem?_eq_some_iff.1 (himm b o hb)).1
    unfold muAll
    rw [if_neg (by omega)]; exact hb
  · unfold muAll at hb
    split at hb
    · exact hb
    · have h1 := himm b o hb
      rw [h.keep b (Array.getElem?_eq_some_iff.1 h1).1]; exact h1
theorem okSl_data {n0 mx : Nat} {w W : World} {μ : Mu} {A : Option Addr} {l c : Nat} (h : NB n0 mx w W) (hA : OkSl n0 mx W A l c) :
    ∃ (b : Bool) (rows : List Rw), rows.length ≤ mx ∧ DR (muAll n0 μ W) (.lst b 4 (rows.map Rw.row)) (.slice A l c) := by
  rcases hA with ⟨rfl, rfl, rfl⟩ | ⟨b, rfl, hlc, hlm, hn, cur, hcur, hcs⟩
  · exact ⟨true, [], Nat.zero_le _, dr_nil _ _⟩
  · have hok : ∀ j v, cur[j]? = some v → Cok n0 mx W tR j v := fun j v hj => by
      obtain ⟨c, ty, h1, h2⟩ := h.nb b _ hn hcur
      simp only [Obj.cells.injEq] at h1
      obtain ⟨rfl, rfl, _⟩ := h1
      exact h2 j v hj
    obtain ⟨rows, hr1, hr2⟩ := list_choice (fun i (r : Rw) => cur[i * 4]? = some (.int .u32 r.k) ∧ cur[i * 4 + 1]? = some (.int .i64 r.a) ∧ cur[i * 4 + 2]? = some (.int .i64 r.b) ∧ cur[i * 4 + 3]? = some (.int .i64 r.c)) l fun i hi => by
      have g : ∀ j (_ : j < 4), cur[i * 4 + j]? = some (cur[i * 4 + j]'(by omega)) := fun j hj => Array.getElem?_eq_getElem (by omega)
      obtain ⟨k, hk⟩ := (hok _ _ (g 0 (by omega))).key (by omega)
      obtain ⟨x1, h1⟩ := (hok _ _ (g 1 (by omega))).col (by omega)
      obtain ⟨x2, h2⟩ := (hok _ _ (g 2 (by omega))).col (by omega)
      obtain ⟨x3, h3⟩ := (hok _ _ (g 3 (by omega))).col (by omega)
      exact ⟨⟨k, x1, x2, x3⟩, (g 0 (by omega)).trans (congrArg some hk), (g 1 (by omega)).trans (congrArg some h1), (g 2 (by omega)).trans (congrArg some h2), (g 3 (by omega)).trans (congrArg some h3)⟩
    refine ⟨false, rows, by omega, dr_block ((muAll_new hn).trans hcur) ((List.length_map _).trans hr1) hlc ⟨fun e he => ?_, fun i e j a he ha => ?_⟩⟩
    · obtain ⟨r, _, rfl⟩ := List.mem_map.1 he
      rfl
    · rw [List.getElem?_map] at he
      cases hri : rows[i]? with
      | none => rw [hri] at he; cases he
      | some r =>
        rw [hri] at he
        simp only [Option.map_some, Option.some.injEq] at he
        subst he
        obtain ⟨q0, q1, q2, q3⟩ := hr2 i r hri
        match j, ha with
        | 0, ha => cases ha; exact ⟨_, q0, .v rfl⟩
        | 1, ha => cases ha; exact ⟨_, q1, .v rfl⟩
        | 2, ha => cases ha; exact ⟨_, q2, .v rfl⟩
        | 3, ha => cases ha; exact ⟨_, q3, .v rfl⟩
        | j + 4, ha => simp [Rw.row] at ha
def OkC (n0 : Nat) (W : World) (A : Option Addr) (l c : Nat) : Prop := (A = none ∧ l = 0 ∧ c = 0) ∨ ∃ b, A = some ⟨b, 0, none⟩ ∧ l ≤ c ∧ Bl n0 W b tS (c * 2)
theorem OkC.kp {n0 : Nat} {W W' : World} {A : Option Addr} {l c : Nat} (k : Kp n0 W W') (h : OkC n0 W A l c) : OkC n0 W' A l c := by
  rcases h with h | ⟨b, h1, h2, h4⟩
  · exact .inl h
  · exact .inr ⟨b, h1, h2, k _ _ _ h4⟩
theorem okC_data {n0 mx : Nat} {w W : World} {μ : Mu} {A : Option Addr} {l c : Nat} (h : NB n0 mx w W) (hA : OkC n0 W A l c) :
    ∃ (b : Bool) (cs : List (Bool × Res)), cs.length = l ∧ (∀ p ∈ cs, p.2.rows.length ≤ mx) ∧ DR (muAll n0 μ W) (.lst b 2 (outB cs)) (.slice A l c) := by
  rcases hA with ⟨rfl, rfl, rfl⟩ | ⟨b, rfl, hlc, hn, cur, hcur, hcs⟩
  · exact ⟨true, [], rfl, (fun p hp => by cases hp), dr_nil _ _⟩
  · have hok : ∀ j v, cur[j]? = some v → Cok n0 mx W tS j v := fun j v hj => by
      obtain ⟨c, ty, h1, h2⟩ := h.nb b _ hn hcur
      simp only [Obj.cells.injEq] at h1
      obtain ⟨rfl, rfl, _⟩ := h1
      exact h2 j v hj
    obtain ⟨cs, hr1, hr2⟩ := list_choice (fun i (p : Bool × Res) => p.2.rows.length ≤ mx ∧ (∃ v, cur[i * 2]? = some v ∧ DR (muAll n0 μ W) (.lst p.1 4 (p.2.rows.map Rw.row)) v) ∧ cur[i * 2 + 1]? = some (.int .i64 p.2.num)) l fun i hi => by
      have g : ∀ j (_ : j < 2), cur[i * 2 + j]? = some (cur[i * 2 + j]'(by omega)) := fun j hj => Array.getElem?_eq_getElem (by omega)
      obtain ⟨RA, rl, rc, hs, hsl⟩ := (hok _ _ (g 0 (by omega))).sl (by omega)
      obtain ⟨x1, h1⟩ := (hok _ _ (g 1 (by omega))).num (by omega)
      obtain ⟨nb, rows, hrm, hdr⟩ := okSl_data (μ := μ) h hsl
      exact ⟨(nb, ⟨rows, x1⟩), hrm, ⟨_, (g 0 (by omega)).trans (congrArg some hs), hdr⟩, (g 1 (by omega)).trans (congrArg some h1)⟩
    refine ⟨false, cs, hr1, fun p hp => ?_, dr_block ((muAll_new hn).trans hcur) (by rw [outB_len, hr1]) hlc ⟨fun e he => ?_, fun i e j a he ha => ?_⟩⟩
    · obtain ⟨i, hi⟩ := List.getElem?_of_mem hp
      exact (hr2 i p hi).1
    · obtain ⟨r, _, rfl⟩ := List.mem_map.1 he
      rfl
    · unfold outB at he
      rw [List.getElem?_map] at he
      cases hri : cs[i]? with
      | none => rw [hri] at he; cases he
      | some r =>
        rw [hri] at he
        simp only [Option.map_some, Option.some.injEq] at he
        subst he
        obtain ⟨_, ⟨v, q0, hv⟩, q1⟩ := hr2 i r hri
        match j, ha with
        | 0, ha => cases ha; exact ⟨_, q0, hv⟩
        | 1, ha => cases ha; exact ⟨_, q1, .v rfl⟩
        | j + 2, ha => simp [Res.cells] at ha
end Go.Proofs.Ytcinngpelbdopaa
