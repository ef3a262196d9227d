/- slices.Delete of a row of pointers: the walk. -/
import Derived.Test.YtnjccbnlmdajkaaDieW
import Derived.Sort.WalkB12
import Derived.Test.YtnjccbnlmdajkaaVld
set_option linter.all false
namespace Go.Proofs.Ytnjccbnlmdajkaa
open Go.RowKit Go.Shelf Go.Lib Go.Ev
attribute [local go_sem] Oper.semAt_some
section
variable {P : Program}
theorem firstCells_row {w : World} {b ty : Nat} {cur : Array Value} {fz : Nat × Nat} (hH : w.heap[b]? = some (.cells cur ty fz)) (o m sz n c : Nat) (h : o + m * sz ≤ cur.size) :
    (Builtin.firstCells sz m (.slice (some ⟨b, o, none⟩) n c)).run P w = .ok ((cur.toList.drop o).take (m * sz)).toArray w := by
  refine run_firstCells_some w sz m _ n c _ (by simp; omega) fun j v hj => ?_
  rw [Addr.add_lit]
  rw [List.getElem?_take] at hj
  split at hj
  · rw [List.getElem?_drop] at hj
    simp only [World.cell?, hH]
    simpa using hj
  · cases hj
def wrL (cur : Array Value) (o : Nat) (vs : List Value) : Array Value := (cur.toList.take o ++ vs ++ cur.toList.drop (o + vs.length)).toArray
theorem wrL_size {cur : Array Value} {o : Nat} {vs : List Value} (h : o + vs.length ≤ cur.size) : (wrL cur o vs).size = cur.size := by
  simp [wrL]; omega
theorem storeCells_row {w : World} {b ty : Nat} {cur : Array Value} {fz : Nat × Nat} {ob : Bool} (hfz : OkFz ob cur.size fz) (hH : w.heap[b]? = some (.cells cur ty fz)) (o : Nat) (vs : List Value) (h : o + vs.length ≤ cur.size) (h1 : ∀ v ∈ vs, v.oneCell' = true) :
    (storeCells ⟨b, o, none⟩ vs).run P w = .ok () (w.setRow b (wrL cur o vs)) := by
  have := run_storeCells_fz P b o ty ob fz vs 0 cur w hH hfz (by simpa using h) h1
  simpa [wrL] using this
theorem clear_row {w : World} {b ty : Nat} {cur : Array Value} {fz : Nat × Nat} {ob : Bool} (hfz : OkFz ob cur.size fz) (hH : w.heap[b]? = some (.cells cur ty fz)) (t e ty2 : TypeId) (z : Value) (ht : P.underlying t = some (.slice e)) (hv : ∀ w, (zeroValue e).run P w = .ok z w) (o n c : Nat) (hn : 0 < n)
    (h : o + n * z.cells.size ≤ cur.size) (h1 : ∀ v ∈ z.cells.toList, v.oneCell' = true) :
    (Builtin.clear_ #[t] ty2 #[.slice (some ⟨b, o, none⟩) n c]).run P w = .ok (.tuple #[]) (w.setRow b (wrL cur o (Builtin.zeroCells z.cells n).toList)) := by
  have hst := storeCells_row (P := P) hfz hH o (Builtin.zeroCells z.cells n).toList (by simpa [Builtin.zeroCells] using h) (fun v hv => by
    simp only [Builtin.zeroCells, Array.toList_map, List.mem_map, Array.toList_range, List.mem_range] at hv
    obtain ⟨k, hk, rfl⟩ := hv
    have hp : 0 < z.cells.size := by
      rcases Nat.eq_zero_or_pos z.cells.size with e | e
      · rw [e] at hk; omega
      · exact e
    have := Nat.mod_lt k hp
    rw [getElem!_pos z.cells _ this]
    exact h1 _ (by simp))
  obtain ⟨m, rfl⟩ : ∃ m, n = m + 1 := ⟨n - 1, by omega⟩
  simp [Builtin.clear_, run_underlying ht, hv, hst]
theorem wr_up {cur : Array Value} {p : Nat} {vs B : List Value} (h : p + vs.length + B.length ≤ cur.size) :
    (wrL (wrL cur p vs) (p + vs.length) B).toList = cur.toList.take p ++ vs ++ (B ++ cur.toList.drop (p + vs.length + B.length)) := by
  have l1 : (cur.toList.take p).length = p := by simp; omega
  have l2 : (cur.toList.take p ++ vs).length = p + vs.length := by simp [l1]
  simp only [wrL]
  rw [List.take_left' l2, List.append_assoc _ B]
  congr 2
  rw [← List.drop_drop, List.drop_left' l2, List.drop_drop]
end
def zc : Array Value := #[.pointer none]
theorem infoE : (Try.prog.info? 80).map (fun i => (i.zero, i.size, i.bytes)) = some (some (.pointer none), 1, 8) := by kernel_rfl
theorem undE : Try.prog.underlying 60 = some (.slice 80) := by kernel_rfl
theorem zeroE (w : World) : (zeroValue 80).run Try.prog w = .ok (.pointer none) w := by
  have h := infoE
  cases hi : Try.prog.info? 80 with
  | none => rw [hi] at h; cases h
  | some i =>
    rw [hi] at h
    simp only [Option.map_some, Option.some.injEq, Prod.mk.injEq] at h
    simp [zeroValue, typeInfo, hi, h.1]
set_option maxHeartbeats 4000000 in
set_option maxRecDepth 1000000 in
theorem del_walk (b cap i j n ty : Nat) (cur : Array Value) (w : World) {fz : Nat × Nat} {ob : Bool} (hfz : OkFz ob cur.size fz) (hH : w.heap[b]? = some (.cells cur ty fz)) (hc : n ≤ cap) (hs : cap * 1 = cur.size) (h1 : ∀ v ∈ cur.toList.take (n * 1), v.oneCell' = true) (hij : i < j) (hj : j ≤ n) :
    Calls Try.prog 44 #[.slice (some ⟨b, 0, none⟩) n cap, .int .i64 i, .int .i64 j] w fun e w' => e = .returned (.slice (some ⟨b, 0, none⟩) (n - (j - i)) cap) ∧
      ∃ cur2, cur2.toList = cur.toList.take (i * 1) ++ (cur.toList.drop (j * 1)).take ((n - j) * 1) ++ ((Builtin.zeroCells zc (j - i)).toList ++ cur.toList.drop (n * 1)) ∧ w' = w.drew.setRow b cur2 := by
  obtain ⟨I, hI, hIz, hIs, hIb⟩ := info_parts infoE
  have hz : (Value.pointer none).cells = zc := rfl
  have hzs : zc.size = 1 := rfl
  have hz1 : ∀ v ∈ zc.toList, v.oneCell' = true := by decide
  obtain ⟨news, hnews⟩ : ∃ news, news = (cur.toList.drop (j * 1)).take ((n - j) * 1) := ⟨_, rfl⟩
  have hnl : news.length = (n - j) * 1 := by rw [hnews]; simp; omega
  have hn1 : ∀ v ∈ news, v.oneCell' = true := fun v hv => h1 v (by
    rw [hnews, List.take_drop] at hv
    have := List.mem_of_mem_drop hv
    rwa [show j * 1 + (n - j) * 1 = n * 1 by omega] at this)
  have hHd : w.drew.heap[b]? = some (.cells cur ty fz) := hH
  obtain ⟨A, hA, hfc⟩ : ∃ A : Addr, (if cap = j then some (⟨b, 0, none⟩ : Addr) else some ⟨b, j * 1, none⟩) = some A ∧ Hid ((Builtin.firstCells I.size (n - j) (.slice (some A) (n - j) (cap - j))).run Try.prog w.drew = .ok news.toArray w.drew) := by
    by_cases h : cap = j
    · refine ⟨⟨b, 0, none⟩, by simp [h], ?_⟩
      have h0 : n - j = 0 := by omega
      rw [hnews, h0]
      have := firstCells_row (P := Try.prog) hHd 0 0 I.size 0 (cap - j) (by omega)
      show _ = _
      simpa using this
    · refine ⟨⟨b, j * 1, none⟩, by simp [h], ?_⟩
      rw [hnews, hIs]
      exact firstCells_row hHd (j * 1) (n - j) 1 _ _ (by omega)
  have hst := storeCells_row (P := Try.prog) hfz hHd (i * 1) news (by rw [hnl]; omega) hn1
  obtain ⟨W1, hW1⟩ : ∃ W1, W1 = w.drew.setRow b (wrL cur (i * 1) news) := ⟨_, rfl⟩
  have hs1 : (wrL cur (i * 1) news).size = cur.size := wrL_size (by rw [hnl]; omega)
  have hH1 : W1.heap[b]? = some (.cells (wrL cur (i * 1) news) ty fz) := by rw [hW1]; exact setRow_heap _ _ cur _ ty _ hHd
  have hcl : ∀ ty, (Builtin.clear_ #[60] ty #[.slice (some ⟨b, (i + (n - j)) * 1, none⟩) (n - (i + (n - j))) (cap - (i + (n - j)))]).run Try.prog W1 = .ok (.tuple #[]) (W1.setRow b (wrL (wrL cur (i * 1) news) ((i + (n - j)) * 1) (Builtin.zeroCells zc (n - (i + (n - j)))).toList)) :=
    fun ty => clear_row (by rw [hs1]; exact hfz) hH1 60 80 ty (.pointer none) undE zeroE _ _ _ (by omega) (by rw [hs1, hz, hzs]; omega) hz1
  have hap : Hid (∀ ty, (Builtin.append_ #[60, 60] ty #[.slice (some ⟨b, 0, none⟩) i cap, .slice (some A) (n - j) (cap - j)]).run Try.prog w.drew = .ok (.slice (some ⟨b, 0, none⟩) (i + (n - j)) cap) W1) := fun ty =>
    run_app_room undE undE rfl hI (fun w => by simp [Builtin.lenOf]) hfc (by omega) (by
      show (storeCells ((⟨b, 0, none⟩ : Addr).add (i * I.size)) news).run Try.prog w.drew = _
      rw [Addr.add_lit, hIs, Nat.zero_add, hW1]; exact hst)
  have hfin : Hid (W1.setRow b (wrL (wrL cur (i * 1) news) ((i + (n - j)) * 1) (Builtin.zeroCells zc (n - (i + (n - j)))).toList) = w.drew.setRow b (wrL (wrL cur (i * 1) news) ((i + (n - j)) * 1) (Builtin.zeroCells zc (n - (i + (n - j)))).toList)) := by rw [hW1]; exact setRow_setRow _ _ _ _
  have hlist : Hid ((wrL (wrL cur (i * 1) news) ((i + (n - j)) * 1) (Builtin.zeroCells zc (n - (i + (n - j)))).toList).toList = cur.toList.take (i * 1) ++ news ++ ((Builtin.zeroCells zc (j - i)).toList ++ cur.toList.drop (n * 1))) := by
    have hzl : (Builtin.zeroCells zc (n - (i + (n - j)))).toList.length = (j - i) * 1 := by simp [Builtin.zeroCells, hzs]; omega
    have := wr_up (cur := cur) (p := i * 1) (vs := news) (B := (Builtin.zeroCells zc (n - (i + (n - j)))).toList) (by rw [hnl, hzl]; omega)
    rw [hzl, hnl, show i * 1 + (n - j) * 1 = (i + (n - j)) * 1 by omega, show (i + (n - j)) * 1 + (j - i) * 1 = n * 1 by omega] at this
    show _ = _
    rw [this, show n - (i + (n - j)) = j - i by omega]
  have hic : i ≤ cap := by omega
  have hjc : j ≤ cap := by omega
  rw [← hnews]
  clear hnews hW1 hH1 hHd hH hst hs1 h1 hfc hs hn1 hnl hI hIz hIs hIb hz hzs hz1
  have mixed : Try.prog.follows .mixedOrders = true := by kernel_rfl
  simp only [Nat.mul_one] at hA hcl hap hlist hfin ⊢
  go_enter Try.func44, Try.ntmps44
  go_wp2_with fail
  go_region_law_o (refine step_append_runE rfl (.tmp 22) (.tmp 25) 60 60 rfl (.slice (some ⟨b, 0, none⟩) i cap) (.slice (some A) (n - j) (cap - j)) (by simp [Act.eval, Act.put]) (by simp [Act.eval, Act.put]) (hap.out _) ?_)
  go_wp2
  go_ret
  refine ⟨by rw [show n - (j - i) = i + (n - j) by omega]; rfl, _, hlist.out, hfin.out⟩
end Go.Proofs.Ytnjccbnlmdajkaa
namespace Go.Proofs.Ytnjccbnlmdajkaa
open Go.RowKit Go.Shelf Go.Lib Go.Ev
attribute [local go_sem] Oper.semAt_some
set_option maxRecDepth 100000
variable {w0 W : World} {μ : Mu} {I : Ky → Option ItemO} {t fb : Nat} {s : FbC}
theorem erase_get {α : Type} {l : List α} {i k : Nat} : (l.eraseIdx i)[k]? = l[if k < i then k else k + 1]? := by
  rw [List.getElem?_eraseIdx]
  by_cases h : k < i
  · rw [if_pos h, if_pos h]
  · rw [if_neg h, if_neg h]
theorem map_erase {α β : Type} (f : α → β) (l : List α) (i : Nat) : (l.eraseIdx i).map f = (l.map f).eraseIdx i := List.ext_getElem? fun k => by
  rw [List.getElem?_map, erase_get, erase_get, List.getElem?_map]
theorem del_get {L Z : List Value} {i n k : Nat} (hn : n ≤ L.length) (hi : i < n) (hk : k < n - 1) : (L.take i ++ (L.drop (i + 1)).take (n - (i + 1)) ++ Z)[k]? = L[if k < i then k else k + 1]? := by
  have l1 : (L.take i).length = i := by rw [List.length_take]; omega
  have l2 : ((L.drop (i + 1)).take (n - (i + 1))).length = n - (i + 1) := by rw [List.length_take, List.length_drop]; omega
  rw [List.getElem?_append_left (by rw [List.length_append, l1, l2]; omega)]
  by_cases h : k < i
  · rw [if_pos h, List.getElem?_append_left (by omega), List.getElem?_take, if_pos h]
  · rw [if_neg h, List.getElem?_append_right (by omega), l1, List.getElem?_take, if_pos (by omega), List.getElem?_drop]
    congr 1; omega
theorem del_call (hK : Kst w0 μ I W) {k : Ky} {b c : Nat} {l : List OrC} (hI : I k = some (rowI b c 80 1 (l.map OrC.row))) {i : Nat} (hi : i < l.length) :
    Calls Try.prog 44 #[.slice (some ⟨b, 0, none⟩) l.length c, .int .i64 i, .int .i64 (i + 1 : Nat)] W fun e w' => e = .returned (.slice (some ⟨b, 0, none⟩) (l.length - 1) c) ∧ Kst w0 μ (put I k (some (rowI b c 80 1 ((l.eraseIdx i).map OrC.row)))) w' := by
  obtain ⟨cur, fz, h1, h2, h3, h4, h5, h6⟩ := hK.row hI
  rw [List.length_map] at h5
  have hval : ∀ (k : Nat) (o : OrC), l[k]? = some o → cur[k]? = some (ptr o.b) := fun k o ho => by
    obtain ⟨x, g1, g2⟩ := h4.2 k _ 0 _ (get_map (f := OrC.row) ho) rfl
    rw [Nat.mul_one] at g1
    rw [← dr_v g2]; exact g1
  have hone : ∀ v ∈ cur.toList.take (l.length * 1), v.oneCell' = true := fun v hv => by
    obtain ⟨k, hk⟩ := List.mem_iff_getElem?.1 hv
    rw [List.getElem?_take] at hk
    split at hk
    · rename_i hlt
      rw [Nat.mul_one] at hlt
      have := hval k _ (List.getElem?_eq_getElem hlt)
      rw [← Array.getElem?_toList, hk] at this
      cases this; rfl
    · cases hk
  have hsz : l.length ≤ cur.toList.length := by
    have := Array.length_toList (xs := cur)
    omega
  refine (del_walk b c i (i + 1) l.length 80 cur W h2 h1 h5 h3.symm hone (by omega) hi).mono fun e w' he => ?_
  obtain ⟨rfl, cur2, hc2, rfl⟩ := he
  refine ⟨by rw [show l.length - (i + 1 - i) = l.length - 1 by omega], ?_⟩
  have hh : (W.drew.setRow b cur2).heap[b]? = some (.cells cur2 80 fz) := setRow_heap _ _ cur _ _ _ h1
  have hkp : KeptW [b] W (W.drew.setRow b cur2) := ⟨rfl, rfl, rfl, by show W.heap.size ≤ (W.heap.modify b _).size; rw [Array.size_modify]; exact Nat.le_refl _, fun x _ hn => setRow_other _ _ _ _ (by simpa using hn)⟩
  have hs2 : cur2.size = cur.size := by
    rw [← Array.length_toList, hc2]
    simp only [List.length_append, List.length_take, List.length_drop, Array.length_toList, Nat.mul_one]
    have : (Builtin.zeroCells zc (i + 1 - i)).size = 1 := by rw [show i + 1 - i = 1 by omega]; simp [Builtin.zeroCells, zc]
    rw [this]
    have := Array.length_toList (xs := cur)
    omega
  have hrow : RowD μ 1 ((l.eraseIdx i).map OrC.row) cur2 := by
    refine ⟨fun e he => ?_, fun k e j u he hu => ?_⟩
    · obtain ⟨o, _, rfl⟩ := List.mem_map.1 he; rfl
    · rw [List.getElem?_map] at he
      cases ho : (l.eraseIdx i)[k]? with
      | none => rw [ho] at he; cases he
      | some o =>
        rw [ho] at he
        cases he
        cases j with
        | succ j => simp [OrC.row] at hu
        | zero =>
          cases hu
          have hlt := lt_of ho
          rw [List.length_eraseIdx, if_pos hi] at hlt
          rw [erase_get] at ho
          refine ⟨ptr o.b, ?_, .v rfl⟩
          rw [← Array.getElem?_toList, hc2]
          simp only [Nat.mul_one, Nat.add_zero]
          rw [del_get hsz hi hlt, Array.getElem?_toList]
          exact hval _ _ ho
  refine hK.mod (x := rowI b c 80 1 (l.map OrC.row)) (y := rowI b c 80 1 ((l.eraseIdx i).map OrC.row)) hI hkp (MuLe.refl _) (fun x o hx => ?_) (fun b o hb => .inl hb) ?_ (by simp) (fun x hx => .inl hx)
  · have hne : x ≠ b := fun e => by subst e; rw [h6] at hx; cases hx
    exact hkp.get (hK.imm x o hx) (by simpa using hne)
  · have hle : (l.eraseIdx i).length = l.length - 1 := by rw [List.length_eraseIdx, if_pos hi]
    refine .row (.ow ⟨fz, hh, by rw [hs2]; exact h2⟩ h6 (by rw [List.length_map, hle]; omega) (by rw [hs2]; exact h3.symm) hrow) (fun e => by cases e)
set_option maxHeartbeats 800000 in
set_option maxRecDepth 1000000 in
theorem drop_walk (bf i on oc : Nat) (OA : Option Addr) (W : World) (K : World → Prop) (hi : i < on) (h3 : W.cell? ⟨bf, 3, none⟩ = some (.slice OA on oc)) (hon : on ≤ 100000)
    (hD : Calls Try.prog 44 #[.slice OA on oc, .int .i64 i, .int .i64 (i + 1 : Nat)] W fun e w' => ∃ (A : Option Addr) (l c : Nat), e = .returned (.slice A l c) ∧ w'.frozen? ⟨bf, 3, none⟩ = false ∧ (∃ y, w'.cell? ⟨bf, 3, none⟩ = some y) ∧ K (w'.setCell ⟨bf, 3, none⟩ (.slice A l c))) :
    Calls Try.prog 25 #[.pointer (some ⟨bf, 0, none⟩), .int .i64 i] W fun e w' => e = .returned (.bool true) ∧ K w' := by
  have hiI : (i : Int) < (on : Int) := by omega
  have hw : ((i + 1 : Nat) : Int) = (i : Int) + 1 := by omega
  have hd1 : ¬ (on ≤ i) := by omega
  have hd2 : ¬ ((on : Int) ≤ (i : Int)) := by omega
  have hd3 : ¬ ((i : Int) < 0) := by omega
  rw [hw] at hD
  clear hw
  go_enter Try.func25, Try.ntmps25
  go_wp2_with (go_at_call 44; refine Calls.mono hD ?_; clear hD; rintro e w' ⟨A, l, c, rfl, k1, ⟨y, k2⟩, hK⟩)
  go_ret
  exact ⟨rfl, hK⟩
def dropK (t i : Nat) : Ky → Ky
  | (u, .orp k) => if u = t ∧ i ≤ k then (u, .orp (k + 1)) else (u, .orp k)
  | x => x
theorem dropK_orp {t i k : Nat} : dropK t i (t, .orp k) = (t, .orp (if k < i then k else k + 1)) := by
  unfold dropK
  by_cases h : k < i
  · have h2 : ¬ i ≤ k := by omega
    simp [h, h2]
  · have h2 : i ≤ k := by omega
    simp [h, h2]
theorem dropK_ne {t i : Nat} {k : Ky} (h : ∀ n, k ≠ (t, .orp n)) : dropK t i k = k := by
  obtain ⟨u, f⟩ := k
  unfold dropK
  split
  · rename_i u' n e
    cases e
    rw [if_neg (fun e => h n (by rw [e.1]))]
  · rfl
theorem dropK_inj {t i : Nat} {k l : Ky} (h : dropK t i k = dropK t i l) : k = l := by
  by_cases hk : ∃ n, k = (t, .orp n)
  · obtain ⟨n, rfl⟩ := hk
    by_cases hl : ∃ m, l = (t, .orp m)
    · obtain ⟨m, rfl⟩ := hl
      rw [dropK_orp, dropK_orp] at h
      have h := FK.orp.inj (Prod.mk.inj h).2
      have : n = m := by split at h <;> split at h <;> omega
      rw [this]
    · rw [dropK_orp, dropK_ne (fun m e => hl ⟨m, e⟩)] at h
      exact absurd ⟨_, h.symm⟩ hl
  · rw [dropK_ne (fun n e => hk ⟨n, e⟩)] at h
    by_cases hl : ∃ m, l = (t, .orp m)
    · obtain ⟨m, rfl⟩ := hl
      rw [dropK_orp] at h
      exact absurd ⟨_, h⟩ hk
    · rw [dropK_ne (fun m e => hl ⟨m, e⟩)] at h; exact h
theorem drop_ok (hK : Kst w0 μ I W) (hR : FbR t I fb s) {i : Nat} (hi : i < s.os.length) (hon : s.os.length ≤ 100000) :
    Calls Try.prog 25 #[ptr fb, .int .i64 i] W fun e w' => e = .returned (.bool true) ∧ FSt t w0 μ I fb { s.a with os := s.a.os.eraseIdx i } w' := by
  obtain ⟨bo, co, hov, hIo, _⟩ := hR.orAt hK (List.getElem?_eq_getElem hi)
  have h3 := hR.c3 hK
  rw [hov] at h3
  obtain ⟨F, hfab⟩ := hR.fab
  refine drop_walk fb i s.os.length co (some ⟨bo, 0, none⟩) W _ hi h3 hon ?_
  refine (del_call hK hIo hi).mono fun e w' he => ?_
  obtain ⟨rfl, hK1⟩ := he
  have hfab1 := put_get (k := (t, .ors)) (x := some (rowI bo co 80 1 ((s.os.eraseIdx i).map OrC.row))) hfab (key_ne fun e => by cases e)
  obtain ⟨F2, _, hK2⟩ := hK1.set hfab1 3 (a := .v (.slice (some ⟨bo, 0, none⟩) (s.os.length - 1) co)) (v := .slice (some ⟨bo, 0, none⟩) (s.os.length - 1) co) (.v rfl)
  refine ⟨_, _, _, rfl, hK1.frozen hfab1 3, ⟨_, hK1.cell hfab1 (j := 3) rfl⟩, ?_⟩
  obtain ⟨J, hJ⟩ : ∃ J, J = put (put I (t, .ors) (some (rowI bo co 80 1 ((s.os.eraseIdx i).map OrC.row)))) (t, .fab) (some (obI fb F2 62 (s.cells.set 3 (.v (.slice (some ⟨bo, 0, none⟩) (s.os.length - 1) co))))) := ⟨_, rfl⟩
  rw [← hJ] at hK2
  have hK3 := hK2.ren (J := fun k => J (dropK t i k)) (dropK t i) (fun k x h => h) (fun k l x y _ _ e => dropK_inj e)
  have hJo : ∀ k, k ≠ .ors → k ≠ .fab → J (t, k) = I (t, k) := fun k h1 h2 => by rw [hJ, put_ne _ _ (key_ne h2), put_ne _ _ (key_ne h1)]
  have hne : ∀ k : FK, (∀ n, k ≠ .orp n) → J (dropK t i (t, k)) = J (t, k) := fun k h => by rw [dropK_ne (fun n e => h n (Prod.mk.inj e).2)]
  have hle : (s.os.eraseIdx i).length = s.os.length - 1 := by rw [List.length_eraseIdx, if_pos hi]
  refine ⟨μ, _, { s with ov := .slice (some ⟨bo, 0, none⟩) (s.os.length - 1) co, os := s.os.eraseIdx i }, MuLe.refl _, hK3, ⟨?_, ?_, fun j n hn => ?_, ?_, fun c x hc => ?_, ?_, fun k o ho => ?_⟩, ?_, fun k hk => ?_⟩
  · exact ⟨F2, by rw [hne _ (fun n e => by cases e), hJ, put_same]; rfl⟩
  · exact hR.nds.same (by rw [hne _ (fun n e => by cases e)]; exact hJo _ (fun e => by cases e) fun e => by cases e)
  · rw [hne _ (fun n e => by cases e), hJo _ (fun e => by cases e) fun e => by cases e]; exact hR.nod j n hn
  · exact hR.cls.same (by rw [hne _ (fun n e => by cases e)]; exact hJo _ (fun e => by cases e) fun e => by cases e)
  · exact (hR.cl c x hc).of fun k hk => by
      rw [hne k (fun n e => by subst e; simp [FK.ofC] at hk)]
      exact hJo k (fun e => by subst e; simp [FK.ofC] at hk) fun e => by subst e; simp [FK.ofC] at hk
  · refine .inr ⟨bo, co, ?_, ?_⟩
    · show _ = Value.slice _ ((s.os.eraseIdx i).map OrC.row).length co
      rw [List.length_map, hle]
    · show J (dropK t i (t, .ors)) = _
      rw [hne _ (fun n e => by cases e), hJ, put_ne _ _ (key_ne fun e => by cases e), put_same]
  · rw [dropK_orp, hJo _ (fun e => by cases e) fun e => by cases e]
    rw [show ({ s with ov := .slice (some ⟨bo, 0, none⟩) (s.os.length - 1) co, os := s.os.eraseIdx i } : FbC).os = s.os.eraseIdx i from rfl, erase_get] at ho
    exact hR.os _ o ho
  · unfold FbC.a
    simp only [map_erase]
  · show J (dropK t i k) = I k
    rw [dropK_ne (fun n e => hk (by rw [e])), hJ]
    exact put_frame (put_frame fun _ _ => rfl) k hk
end Go.Proofs.Ytnjccbnlmdajkaa
namespace Go.Proofs.Ytnjccbnlmdajkaa
open Go.RowKit Go.Shelf Go.Lib Go.Ev
set_option maxRecDepth 100000
variable {w0 W : World} {μ : Mu} {I : Ky → Option ItemO}
def Pr.step (p : Pr) (n : NdA) : DnA × Bool × Pr × NdA :=
  match p.q with
  | [] => (⟨0, true, []⟩, false, p, n)
  | v :: _ =>
    if refu p.c p.inc v n.ws n.dn ≠ 0 then (⟨refu p.c p.inc v n.ws n.dn, true, []⟩, true, p.pop, n)
    else if p.ex.toNat + 1 < (pcs v.at_ v.cnt).length then
      (⟨0, true, []⟩, false, { p with ex := p.ex + 1, wn := (v.out ((pcs v.at_ v.cnt).getD p.ex.toNat (0, 0)) n.ws).isEmpty && p.wn, w := p.w ++ v.out ((pcs v.at_ v.cnt).getD p.ex.toNat (0, 0)) n.ws }, ⟨v.mem ((pcs v.at_ v.cnt).getD p.ex.toNat (0, 0)) n.ws, n.dn⟩)
    else (⟨0, (v.out ((pcs v.at_ v.cnt).getD p.ex.toNat (0, 0)) n.ws).isEmpty && p.wn, p.w ++ v.out ((pcs v.at_ v.cnt).getD p.ex.toNat (0, 0)) n.ws⟩, true, p.pop, ⟨v.mem ((pcs v.at_ v.cnt).getD p.ex.toNat (0, 0)) n.ws, n.dn⟩)
structure Pr.Ok (p : Pr) : Prop where
  c : 0 ≤ p.c ∧ p.c ≤ 1000
  inc : 0 ≤ p.inc ∧ p.inc ≤ 1000
  qn : p.q ≠ [] → p.qn = false
  ql : p.q.length ≤ 1024
  w : p.w.length ≤ 100000
  ex0 : 0 ≤ p.ex
  ex : ∀ v r, p.q = v :: r → 1 ≤ v.cnt → p.ex.toNat < (pcs v.at_ v.cnt).length
theorem f39_at : Try.prog.funcs[39]? = some Try.f39 := by kernel_rfl
theorem pz_rec (hK : Kst w0 μ I W) {k : Ky} {pb : Nat} {F : List Nat} {p : Pr} (hw : p.w = [] ∧ p.wn = true) (hI : I k = some (obI pb F 99 (pzC p))) : Kst w0 μ (put I k (some (obI pb F 99 (prC p)))) W := by
  refine hK.recast hI ?_
  obtain ⟨F0, cur, rfl, h2, h3, h4⟩ := hK.ob hI
  refine .ob h2 h3 ?_
  rw [show pzC p = [.v (.int .i64 p.c), .v (.int .i64 p.inc), .v (.int .i64 p.node), .ow p.qn 50 9 (p.q.map Vb.row), .v (.int .i64 p.ex)] ++ [.lst true 0 []] from rfl] at h4
  rw [show prC p = [.v (.int .i64 p.c), .v (.int .i64 p.inc), .v (.int .i64 p.node), .ow p.qn 50 9 (p.q.map Vb.row), .v (.int .i64 p.ex)] ++ [.ow p.wn 47 1 (p.w.map wr)] from rfl]
  obtain ⟨Fa, Fb, v1, v2, rfl, ecur, r1, r2⟩ := b0s_app h4
  rw [ecur]
  refine b0s_join r1 ?_
  cases r2 with
  | @cons Fc Fd _ _ v _ r2 r3 =>
  cases r3
  obtain ⟨hd, rfl⟩ := b0_lst r2
  rw [hw.1, hw.2]
  refine .cons (F := []) (F' := []) ?_ .nil
  cases hd with
  | @lst _ _ _ A c vals hnil hA hc hsz hcell hv =>
  cases A with
  | none => obtain ⟨_, rfl⟩ := hA rfl; exact .own
  | some a => cases hnil
theorem step_call (hK : Kst w0 μ I W) {k l : Ky} (hkl : k ≠ l) {pb nb : Nat} {F E : List Nat} {p : Pr} {n : NdA} (hk : I k = some (obI pb F 99 (prC p))) (hl : I l = some (obI nb E 69 (ndC n))) (hp : p.Ok) (hn : n.ws.length ≤ 100000) :
    Calls Try.prog 39 #[ptr pb, ptr nb] W fun e w' => ∃ (μ' : Mu) (A : Option Addr) (c : Nat) (F' E' : List Nat), e = .returned (.tuple #[.agg #[.int .i64 (p.step n).1.code, .slice A (p.step n).1.w.length c], .bool (p.step n).2.1]) ∧ MuLe μ μ' ∧
      Kst w0 μ' (put (put I l (some (obI nb E' 69 (ndC (p.step n).2.2.2)))) k (some (obI pb F' 99 (prC (p.step n).2.2.1)))) w' ∧ DR μ' (.lst (p.step n).1.wn 1 ((p.step n).1.w.map wr)) (.slice A (p.step n).1.w.length c) := by
  have hans : ∃ z : Bool, (z = true → (p.step n).2.2.1.w = [] ∧ (p.step n).2.2.1.wn = true) ∧ ev 39 [pO p, ndO n.ws n.dn] = some ([dA (p.step n).1.code (p.step n).1.wn (p.step n).1.w, .v (.bool (p.step n).2.1)] ++ [.ob 99 (if z then pzC (p.step n).2.2.1 else prC (p.step n).2.2.1), .ob 69 (ndC (p.step n).2.2.2)]) := by
    cases hq : p.q with
    | nil =>
      have e : p.step n = (⟨0, true, []⟩, false, p, n) := by unfold Pr.step; rw [hq]
      rw [e]
      exact ⟨false, (fun h => by cases h), s_Step_nil p n.ws n.dn hq⟩
    | cons v r =>
      have hqn := hp.qn (by rw [hq]; simp)
      by_cases hr : refu p.c p.inc v n.ws n.dn = 0
      · obtain ⟨_, hg⟩ := refu_zero hr
        have hlt := hp.ex v r hq hg.pos
        have h0 := hp.ex0
        have hex : p.ex = (p.ex.toNat : Int) := by omega
        have hgo := s_Step_go p n.ws n.dn hq hqn hp.ql hn hp.c hp.inc hr hex hlt hp.w
        by_cases hl : p.ex.toNat + 1 < (pcs v.at_ v.cnt).length
        · have e : p.step n = (⟨0, true, []⟩, false, { p with ex := p.ex + 1, wn := (v.out ((pcs v.at_ v.cnt).getD p.ex.toNat (0, 0)) n.ws).isEmpty && p.wn, w := p.w ++ v.out ((pcs v.at_ v.cnt).getD p.ex.toNat (0, 0)) n.ws }, ⟨v.mem ((pcs v.at_ v.cnt).getD p.ex.toNat (0, 0)) n.ws, n.dn⟩) := by
            unfold Pr.step; rw [hq]; simp only [hr, ne_eq, not_true_eq_false, if_false, if_pos hl]
          rw [if_pos hl, ← hex] at hgo
          rw [e]
          exact ⟨false, (fun h => by cases h), hgo⟩
        · have e : p.step n = (⟨0, (v.out ((pcs v.at_ v.cnt).getD p.ex.toNat (0, 0)) n.ws).isEmpty && p.wn, p.w ++ v.out ((pcs v.at_ v.cnt).getD p.ex.toNat (0, 0)) n.ws⟩, true, p.pop, ⟨v.mem ((pcs v.at_ v.cnt).getD p.ex.toNat (0, 0)) n.ws, n.dn⟩) := by
            unfold Pr.step; rw [hq]; simp only [hr, ne_eq, not_true_eq_false, if_false, if_neg hl]
          rw [if_neg hl] at hgo
          rw [e]
          exact ⟨true, (fun _ => ⟨rfl, rfl⟩), hgo⟩
      · have e : p.step n = (⟨refu p.c p.inc v n.ws n.dn, true, []⟩, true, p.pop, n) := by
          unfold Pr.step; rw [hq]; simp only [ne_eq, hr, not_false_eq_true, if_true]
        rw [e]
        exact ⟨true, (fun _ => ⟨rfl, rfl⟩), s_Step_ref p n.ws n.dn hq hqn hp.ql hn hp.c hp.inc hr⟩
  obtain ⟨z, hz, hev⟩ := hans
  generalize p.step n = st at hz hev ⊢
  obtain ⟨d, cm, p', n'⟩ := st
  refine (hK.call2 mix extOk hkl hk hl (bs := []) (vs := []) .nil (ra := [dA d.code d.wn d.w, .v (.bool cm)]) hev f39_at rfl).mono fun e w' he => ?_
  obtain ⟨us, μ', F1, G1, F', E', rfl, hb, hm, hK', _, _, _⟩ := he
  cases hb with
  | @cons Fa Fb Ga Gb _ _ v vs' hb1 hb2 =>
  obtain ⟨rfl, _⟩ := b2s_vals_inv (F := Fb) (G := Gb) [.bool cm] hb2
  obtain ⟨xs, rfl, rfl, hl2, hdr⟩ := b2_aggD hb1 rfl
  match xs, hl2 with
  | [x0, x1], _ =>
  obtain rfl := dr_v (hdr 0 _ x0 rfl rfl)
  have h1 := hdr 1 _ x1 rfl rfl
  obtain ⟨A, c, rfl, _⟩ := dr_slice h1
  rw [List.length_map] at h1 ⊢
  cases z with
  | false => exact ⟨μ', A, c, F', E', rfl, hm, hK', h1⟩
  | true =>
    have hK2 := pz_rec hK' (hz rfl) (put_same _ _ _)
    rw [put_put] at hK2
    exact ⟨μ', A, c, F', E', rfl, hm, hK2, h1⟩
end Go.Proofs.Ytnjccbnlmdajkaa
namespace Go.Proofs.Ytnjccbnlmdajkaa
open Go.RowKit Go.Shelf Go.Lib Go.Ev
set_option maxRecDepth 100000
variable {w0 W : World} {μ : Mu} {I : Ky → Option ItemO} {t fb : Nat} {s : FbC}
theorem s_CloneI (xs : List Int) (h : xs.length ≤ 100000) : ev 40 [.lst false 1 (xs.map irow)] = some [.ow false 3 1 (xs.map irow)] := by
  rw [ev40]
  simp only [cond_false, Bool.and_false, List.nil_append]
  rw [leN_t (by rw [List.length_map]; omega)]
  rfl
theorem f40_at : Try.prog.funcs[40]? = some Try.f40 := by kernel_rfl
theorem irow_flat (xs : List Int) (n : Bool) : flatC (.ow n 3 1 (xs.map irow)) = true := by
  show (xs.map irow).all (fun e => e.all flatV) = true
  rw [List.all_eq_true]
  intro e he
  obtain ⟨x, _, rfl⟩ := List.mem_map.1 he
  rfl
theorem rest_dr {pp pc : Nat} {ix : Int} {rest : List Int} (hK : Kst w0 μ I W) {k : Ky} (hI : I k = some (rowI pp pc 3 1 ((ix :: rest).map irow))) (q : Value) (hq : (q = .slice (some ⟨pp, 0 + 1, none⟩) (rest.length + 1 - 1) (pc - 1) ∧ pc ≠ 1) ∨ (q = .slice (some ⟨pp, 0, none⟩) (rest.length + 1 - 1) 0 ∧ pc = 1)) :
    DR (hf W) (.lst false 1 (rest.map irow)) q := by
  obtain ⟨cur, fz, h1, _, _, _, h5, _⟩ := hK.row hI
  rw [List.length_map, List.length_cons] at h5
  have hl : (rest.map irow).length = rest.length := List.length_map ..
  rcases hq with ⟨rfl, hpc⟩ | ⟨rfl, hpc⟩
  · rw [show rest.length + 1 - 1 = (rest.map irow).length by rw [hl]; rfl]
    refine .lst (fun k _ => .int .i64 (rest.getD k 0)) rfl (fun e => by cases e) (by omega) (fun e he => ?_) (fun a ha k j hk hj => ?_) fun k e j u he hu => ?_
    · obtain ⟨x, _, rfl⟩ := List.mem_map.1 he; rfl
    · cases ha
      obtain rfl : j = 0 := by omega
      rw [hl] at hk
      rw [muCell_world, Addr.add_lit]
      have : ((ix :: rest).map irow)[k + 1]? = some (irow (rest.getD k 0)) := by
        rw [List.getElem?_map, List.getElem?_cons_succ, List.getElem?_eq_getElem hk]
        simp [List.getD, List.getElem?_eq_getElem hk]
      have := hK.rcell hI this (j := 0) rfl
      rw [show 0 + 1 + (k * 1 + 0) = (k + 1) * 1 + 0 by omega]; exact this
    · rw [List.getElem?_map] at he
      cases hr : rest[k]? with
      | none => rw [hr] at he; cases he
      | some y =>
        rw [hr] at he
        cases he
        cases j with
        | zero => cases hu; show DR _ _ (.int .i64 (rest.getD k 0)); rw [List.getD, hr]; exact .v rfl
        | succ j => simp [irow] at hu
  · obtain rfl : rest = [] := List.eq_nil_of_length_eq_zero (by omega)
    exact .lst (A := some ⟨pp, 0, none⟩) (c := 0) (xs := []) (fun _ _ => undef) rfl (fun e => by cases e) (Nat.le_refl _) (fun e he => by cases he) (fun a ha k j hk => absurd hk (Nat.not_lt_zero _)) (fun k e j u hk => by simp at hk)
theorem clonei_call (hK : Kst w0 μ I W) (k : Ky) {rest : List Int} (hl : rest.length ≤ 100000) {q : Value} (hq : DR (hf W) (.lst false 1 (rest.map irow)) q) :
    Calls Try.prog 40 #[q] W fun e w' => ∃ (PA : Option Addr) (c' : Nat) (y : Option ItemO), e = .returned (.slice PA rest.length c') ∧ Kst w0 μ (put I k y) w' ∧ Row (put I k y) k (.slice PA rest.length c') 3 1 (rest.map irow) := by
  refine (hK.lent mix extOk (s_CloneI rest hl) f40_at (vals := [q]) (.cons (F := []) (F' := []) (G := []) (G' := []) (.o (.c (.d hq))) .nil)).mono fun e w' he => ?_
  obtain ⟨vs, μ', F1, G1, rfl, hK', hk, _, hb, hn⟩ := he
  obtain ⟨x, rfl, hb2⟩ := Go.Ev.b2s_one hb
  have hb3 := b0_flat (b2_ow hb2) (irow_flat _ _) fun b hb' => hK.noMu (hn b hb')
  have hsz := hK.kept.size
  obtain ⟨y, hK2, hr⟩ := hK'.adoptR k hb3 (fun b hb' => by have := hn b hb'; omega) (fun j x hj b hb' hm => by
    have := hn b hm
    have := hK.lt hj hb'
    omega)
  obtain ⟨A, c, rfl, _⟩ := b0_row hb3
  rw [List.length_map] at hr ⊢
  exact ⟨A, c, y, rfl, hK2, hr⟩
end Go.Proofs.Ytnjccbnlmdajkaa
namespace Go.Proofs.Ytnjccbnlmdajkaa
open Go.RowKit Go.Shelf Go.Lib Go.Ev
set_option maxRecDepth 100000
variable {w0 W : World} {μ : Mu} {I : Ky → Option ItemO} {t fb : Nat} {s : FbC}
theorem stp_fin {μ0 : Mu} {I0 : Ky → Option ItemO} (hm0 : MuLe μ0 μ) (hf0 : ∀ k : Ky, k.1 ≠ t → I k = I0 k) (hK : Kst w0 μ I W) (hR : FbR t I fb s) {c nd : Nat} {x : ClC} {l : LnC} (hc : s.cl[c]? = some x) (hl : x.ln[nd]? = some l) {ix : Nat} {rest : List Int} (hpl : l.a.pl = (ix : Int) :: rest)
    (hix : ix < x.ba.length) (hple : rest.length ≤ 100000) {bc cc bl ll b7 : Nat} (hcv : s.cv = .slice (some ⟨bc, 0, none⟩) s.cl.length cc) (hlv : x.lv = .slice (some ⟨bl, 0, none⟩) x.ln.length ll) {d : DnA} {F7 : List Nat} (hI7 : I (t, .tmp 1) = some (obI b7 F7 67 d.row)) {A : Option Addr} {cA : Nat}
    (g0 : W.cell? ⟨b7, 0, none⟩ = some (.int .i64 d.code)) (g1 : W.cell? ⟨b7, 1, none⟩ = some (.slice A d.w.length cA)) (hdw : DR μ (.lst d.wn 1 (d.w.map wr)) (.slice A d.w.length cA)) :
    StpFin bc c bl nd b7 d.code A d.w.length cA W (FSt t w0 μ0 I0 fb { s.a with cl := s.a.cl.set c { x.a with ln := x.a.ln.set nd ⟨l.a.p, rest⟩, ba := x.ba.set ix d, wt := wrap64 (x.wt - 1) } }) := by
  obtain ⟨bc', cc', e1, hIc, hAt⟩ := hR.clsAt hK hc
  rw [hcv] at e1
  injection e1 with q1 q2 q3
  injection q1 with q1
  injection q1 with q1
  subst q1 q3
  have hCl := hR.cl c x hc
  obtain ⟨bl', ll', e2, hIl, hp0, hp1⟩ := hCl.lnAt hK hl
  rw [hlv] at e2
  injection e2 with q1 q2 q3
  injection q1 with q1
  injection q1 with q1
  subst q1 q3
  have hb0 : x.ba[ix]? = some x.ba[ix] := List.getElem?_eq_getElem hix
  obtain ⟨bb, bcap, hbv, hIb⟩ := Row.at hCl.bs hb0
  have hcb := hAt.bv
  rw [hbv] at hcb
  have hrp := hCl.pls nd l hl
  rw [hpl] at hrp
  obtain ⟨pp, pc, hlvv, hIp⟩ := Row.at (n := 0) (x := (ix : Int)) hrp rfl
  rw [hlvv] at hp1
  have hpc := hK.rcell hIp (get_map (f := irow) (n := 0) (x := (ix : Int)) rfl) (j := 0) rfl
  have hbF : bb ≠ b7 := fun e => by
    obtain ⟨F', _, rfl, _⟩ := hK.ob hI7
    exact hK.dj (t, .bat c) (t, .tmp 1) _ _ hIb hI7 (key_ne fun e => by cases e) bb (by simp) (by simp [e])
  have f0 := hK.rfrozen hIb (i := ix) (j := 0) (by rw [List.length_map]; exact hix) (by omega)
  have y0 : ∃ y, W.cell? ⟨bb, ix * 2, none⟩ = some y := ⟨_, hK.rcell hIb (get_map (f := DnA.row) hb0) (j := 0) rfl⟩
  have hKa := hK.rset hIb (get_map (f := DnA.row) hb0) (j := 0) (by omega) (a := .v (.int .i64 d.code)) (v := .int .i64 d.code) (.v rfl)
  obtain ⟨Wa, hWa⟩ : ∃ Wa, W.setCell ⟨bb, ix * 2, none⟩ (.int .i64 d.code) = Wa := ⟨_, rfl⟩
  rw [show W.setCell ⟨bb, ix * 2 + 0, none⟩ (.int .i64 d.code) = Wa from hWa] at hKa
  have hIa := put_same I (t, .bat c) (some (rowI bb bcap 67 2 ((x.ba.map DnA.row).set ix (x.ba[ix].row.set 0 (.v (.int .i64 d.code))))))
  have hra := set_at (y := x.ba[ix].row.set 0 (.v (.int .i64 d.code))) (get_map (f := DnA.row) hb0)
  have f1 := hKa.rfrozen hIa (i := ix) (j := 1) (by rw [List.length_set, List.length_map]; exact hix) (by omega)
  obtain ⟨y1v, hy1, _⟩ := hKa.rcellD hIa hra (j := 1) rfl
  have hKb := hKa.rset hIa hra (j := 1) (by omega) (a := .lst d.wn 1 (d.w.map wr)) (v := .slice A d.w.length cA) hdw
  rw [put_put, set_set'] at hKb
  have hb2 : (x.ba.map DnA.row).set ix ((x.ba[ix].row.set 0 (.v (.int .i64 d.code))).set 1 (.lst d.wn 1 (d.w.map wr))) = (x.ba.set ix d).map DnA.row := by rw [map_set']; rfl
  rw [hb2] at hKb
  obtain ⟨Wb, hWb⟩ : ∃ Wb, Wa.setCell ⟨bb, ix * 2 + 1, none⟩ (.slice A d.w.length cA) = Wb := ⟨_, rfl⟩
  rw [hWb] at hKb
  have hIbb := put_same I (t, .bat c) (some (rowI bb bcap 67 2 ((x.ba.set ix d).map DnA.row)))
  have hIc2 : put I (t, .bat c) (some (rowI bb bcap 67 2 ((x.ba.set ix d).map DnA.row))) (t, .cls) = _ := put_get hIc (key_ne fun e => by cases e)
  have hIl2 : put I (t, .bat c) (some (rowI bb bcap 67 2 ((x.ba.set ix d).map DnA.row))) (t, .lan c) = _ := put_get hIl (key_ne fun e => by cases e)
  have hIp2 : put I (t, .bat c) (some (rowI bb bcap 67 2 ((x.ba.set ix d).map DnA.row))) (t, .plc c nd) = _ := put_get hIp (key_ne fun e => by cases e)
  have h7 : ∀ j, Wb.cell? ⟨b7, j, none⟩ = W.cell? ⟨b7, j, none⟩ := fun j => by
    refine cell_heap ?_ j
    rw [← hWb, setCell_other _ _ _ _ _ (Ne.symm hbF), ← hWa, setCell_other _ _ _ _ _ (Ne.symm hbF)]
  have cb := (clAt hKb hIc2 hc).bv
  rw [hbv] at cb
  have cl := hKb.rcell hIl2 (get_map (f := LnC.row) hl) (j := 1) rfl
  rw [hlvv] at cl
  have cp := hKb.rcell hIp2 (get_map (f := irow) (n := 0) (x := (ix : Int)) rfl) (j := 0) rfl
  refine ⟨bb, x.ba.length, bcap, pp, 0, rest.length + 1, pc, ix, x.wt, hix, by omega, ⟨hcb, hp1, hpc, g0, g1⟩, f0, y0, by rw [hWa]; exact f1, by rw [hWa]; exact ⟨_, hy1⟩, by rw [hWa, hWb]; exact ⟨cb, cl, cp, (h7 0).trans g0, (h7 1).trans g1⟩, fun q hq => ?_⟩
  rw [hWa, hWb]
  have hdr := rest_dr hKb.drew hIp2 q hq
  refine (clonei_call hKb.drew (t, .plc c nd) hple hdr).mono fun e w' he => ?_
  obtain ⟨PA, c', y, rfl, hK3, hr3⟩ := he
  have hIl3 : put (put I (t, .bat c) (some (rowI bb bcap 67 2 ((x.ba.set ix d).map DnA.row)))) (t, .plc c nd) y (t, .lan c) = _ := put_get hIl2 (key_ne fun e => by cases e)
  have hln : nd < (x.ln.map LnC.row).length := by rw [List.length_map]; exact lt_of hl
  have f3 := hK3.rfrozen hIl3 hln (j := 1) (by omega)
  have c3 := hK3.rcell hIl3 (get_map (f := LnC.row) hl) (j := 1) rfl
  have hK4 := hK3.rset hIl3 (get_map (f := LnC.row) hl) (j := 1) (by omega) (a := .v (.slice PA rest.length c')) (v := .slice PA rest.length c') (.v rfl)
  obtain ⟨w2, hw2⟩ : ∃ w2, w'.setCell ⟨bl, nd * 2 + 1, none⟩ (.slice PA rest.length c') = w2 := ⟨_, rfl⟩
  rw [hw2] at hK4
  have hIc4 : put (put (put I (t, .bat c) (some (rowI bb bcap 67 2 ((x.ba.set ix d).map DnA.row)))) (t, .plc c nd) y) (t, .lan c) (some (rowI bl ll 82 2 ((x.ln.map LnC.row).set nd (l.row.set 1 (.v (.slice PA rest.length c')))))) (t, .cls) = _ := put_get (put_get hIc2 (key_ne fun e => by cases e)) (key_ne fun e => by cases e)
  have hcl : c < (s.cl.map ClC.row).length := by rw [List.length_map]; exact lt_of hc
  have f4 := hK4.rfrozen hIc4 hcl (j := 4) (by omega)
  have c4 := hK4.rcell hIc4 (get_map (f := ClC.row) hc) (j := 4) rfl
  have hK5 := hK4.rset hIc4 (get_map (f := ClC.row) hc) (j := 4) (by omega) (a := .v (.int .i64 (wrap64 (x.wt - 1)))) (v := .int .i64 (wrap64 (x.wt - 1))) (.v rfl)
  refine ⟨PA, rest.length, c', w2, rfl, f3, ⟨_, c3⟩, hw2, f4, c4, μ, _, { s with cl := s.cl.set c { x with ln := x.ln.set nd ⟨l.b, .slice PA rest.length c', ⟨l.a.p, rest⟩⟩, ba := x.ba.set ix d, wt := wrap64 (x.wt - 1) } }, hm0, hK5, ?_, ?_, put_frame (put_frame (put_frame (put_frame hf0)))⟩
  · refine hR.client (fun k h1 h2 _ => ?_) ?_ ⟨?_, ?_, fun e => ?_, fun i m hm => ?_, fun i m hm => ?_⟩
    · rw [put_ne _ _ (key_ne h1), put_ne _ _ (key_ne fun e => by subst e; simp [FK.ofC] at h2), put_ne _ _ (key_ne fun e => by subst e; simp [FK.ofC] at h2), put_ne _ _ (key_ne fun e => by subst e; simp [FK.ofC] at h2)]
    · rw [hcv]
      exact Row.put_same (by rw [List.length_set, List.length_map])
    · refine .inr ⟨bl, ll, ?_, ?_⟩
      · show x.lv = Value.slice _ ((x.ln.set nd _).map LnC.row).length ll
        rw [List.length_map, List.length_set]; exact hlv
      · refine (put_ne _ _ (key_ne fun e => by cases e)).trans ((put_same _ _ _).trans ?_)
        show _ = some (rowI bl ll 82 2 ((x.ln.set nd _).map LnC.row))
        rw [map_set']; rfl
    · refine .inr ⟨bb, bcap, ?_, put_get (put_get (put_get hIbb (key_ne fun e => by cases e)) (key_ne fun e => by cases e)) (key_ne fun e => by cases e)⟩
      show x.bv = Value.slice _ ((x.ba.set ix d).map DnA.row).length bcap
      rw [List.length_map, List.length_set]; exact hbv
    · have : (x.ba.set ix d).length = 0 := by rw [show x.ba.set ix d = [] from e]; rfl
      rw [List.length_set] at this; omega
    · rw [put_ne _ _ (key_ne fun e => by cases e), put_ne _ _ (key_ne fun e => by cases e), put_ne _ _ (key_ne fun e => by cases e), put_ne _ _ (key_ne fun e => by cases e)]
      rcases set_get hm with ⟨rfl, rfl⟩ | ⟨ne, hm⟩
      · exact hCl.ps i l hl
      · exact hCl.ps i m hm
    · rcases set_get hm with ⟨rfl, rfl⟩ | ⟨ne, hm⟩
      · exact (hr3.put (key_ne fun e => by cases e)).put (key_ne fun e => by cases e)
      · exact (hCl.pls i m hm).same (by
          rw [put_ne _ _ (key_ne fun e => by cases e), put_ne _ _ (key_ne fun e => by cases e), put_ne _ _ (key_ne fun e => by cases e; exact ne rfl), put_ne _ _ (key_ne fun e => by cases e)])
  · rw [set_a]
    show _ = _
    unfold ClC.a
    simp only [map_set']
end Go.Proofs.Ytnjccbnlmdajkaa
