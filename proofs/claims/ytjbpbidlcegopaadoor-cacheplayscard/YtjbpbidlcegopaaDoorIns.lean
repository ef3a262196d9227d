/- slices.Delete and slices.Insert at rows of several cells: the walks of both, and what is told of them. -/
import Derived.Test.YtjbpbidlcegopaaDoorGl
import Derived.Test.YtjbpbidlcegopaaDoorProg
import Derived.Shelf.Spec.SlicesInsertGrow
import Derived.Shelf.RegionOpenPlain
import Derived.WalkKit
import Derived.Deep.LoopGhost
import Derived.Deep.RegionLaw
import Derived.Deep.WholeRow
import Derived.Lib.Walk
import Derived.Sort.WalkB12
import Derived.Lib.SliceRun
set_option linter.all false
namespace Go.Proofs.YtjbpbidlcegopaaDoor
open Go.RowKit Go.Shelf Go.Lib Go.Ev
attribute [local go_sem] Oper.semAt_some
theorem step_append_runE {P : Program} {ops : Array Oper} {o : Oper} {a : Act} {w : World} {K : Act → World → Prop} {Q : Exit → Act → World → Prop} {E : Prop}
    (hg : o.guard = none) (d x : Operand) (dT sT : TypeId) (hop : o.op = Op.call { callee := Callee.builtin Builtin.append, args := #[d, x], argTypes := #[dT, sT] })
    (v u : Value) (hd : a.eval d = v) (hx : a.eval x = u) {v' : Value} {w' : World} (hr : (Builtin.append_ #[dT, sT] o.type #[v, u]).run P w = .ok v' w') (hK : K (a.put o.dst v') w') :
    if Region.wanted o (yielded ops a.tmps) = true then Oper.wp P o a w K Q else E := by
  have hw : Region.wanted o (yielded ops a.tmps) = true := by simp [Region.wanted, hg]
  rw [if_pos hw]
  unfold Oper.wp
  simp [execOp, hop, resolve, invoke, builtin, hd, hx, hr, Result.andThen]
  exact hK
section
variable {P : Program}
theorem firstCells_row {w : World} {b ty : Nat} {cur : Array Value} (hH : w.heap[b]? = some (.cells cur ty (0, 0))) (o m sz n c : Nat) (h : o + m * sz ≤ cur.size) :
    (Builtin.firstCells sz m (.slice (some ⟨b, o, none⟩) n c)).run P w = .ok ((cur.toList.drop o).take (m * sz)).toArray w := by
  refine run_firstCells_some w sz m _ n c _ (by simp; omega) fun j v hj => ?_
  rw [Addr.add_lit]
  rw [List.getElem?_take] at hj
  split at hj
  · rw [List.getElem?_drop] at hj
    simp only [World.cell?, hH]
    simpa using hj
  · cases hj
def wrL (cur : Array Value) (o : Nat) (vs : List Value) : Array Value := (cur.toList.take o ++ vs ++ cur.toList.drop (o + vs.length)).toArray
theorem wrL_size {cur : Array Value} {o : Nat} {vs : List Value} (h : o + vs.length ≤ cur.size) : (wrL cur o vs).size = cur.size := by
  simp [wrL]; omega
theorem storeCells_row {w : World} {b ty : Nat} {cur : Array Value} (hH : w.heap[b]? = some (.cells cur ty (0, 0))) (o : Nat) (vs : List Value) (h : o + vs.length ≤ cur.size) (h1 : ∀ v ∈ vs, v.oneCell' = true) :
    (storeCells ⟨b, o, none⟩ vs).run P w = .ok () (w.setRow b (wrL cur o vs)) := by
  have := run_storeCells_fz P b o ty true (0, 0) vs 0 cur w hH (.inl rfl) (by simpa using h) h1
  simpa [wrL] using this
theorem clear_row {w : World} {b ty : Nat} {cur : Array Value} (hH : w.heap[b]? = some (.cells cur ty (0, 0))) (t e ty2 : TypeId) (z : Value) (ht : P.underlying t = some (.slice e)) (hv : ∀ w, (zeroValue e).run P w = .ok z w) (o n c : Nat) (hn : 0 < n)
    (h : o + n * z.cells.size ≤ cur.size) (h1 : ∀ v ∈ z.cells.toList, v.oneCell' = true) :
    (Builtin.clear_ #[t] ty2 #[.slice (some ⟨b, o, none⟩) n c]).run P w = .ok (.tuple #[]) (w.setRow b (wrL cur o (Builtin.zeroCells z.cells n).toList)) := by
  have hst := storeCells_row (P := P) hH o (Builtin.zeroCells z.cells n).toList (by simpa [Builtin.zeroCells] using h) (fun v hv => by
    simp only [Builtin.zeroCells, Array.toList_map, List.mem_map, Array.toList_range, List.mem_range] at hv
    obtain ⟨k, hk, rfl⟩ := hv
    have hp : 0 < z.cells.size := by
      rcases Nat.eq_zero_or_pos z.cells.size with e | e
      · rw [e] at hk; omega
      · exact e
    have := Nat.mod_lt k hp
    rw [getElem!_pos z.cells _ this]
    exact h1 _ (by simp))
  obtain ⟨m, rfl⟩ : ∃ m, n = m + 1 := ⟨n - 1, by omega⟩
  simp [Builtin.clear_, run_underlying ht, hv, hst]
theorem wr_up {cur : Array Value} {p : Nat} {vs B : List Value} (h : p + vs.length + B.length ≤ cur.size) :
    (wrL (wrL cur p vs) (p + vs.length) B).toList = cur.toList.take p ++ vs ++ (B ++ cur.toList.drop (p + vs.length + B.length)) := by
  have l1 : (cur.toList.take p).length = p := by simp; omega
  have l2 : (cur.toList.take p ++ vs).length = p + vs.length := by simp [l1]
  simp only [wrL]
  rw [List.take_left' l2, List.append_assoc _ B]
  congr 2
  rw [← List.drop_drop, List.drop_left' l2, List.drop_drop]
theorem wr_down {cur : Array Value} {p : Nat} {vs B : List Value} (h : p + vs.length + B.length ≤ cur.size) :
    (wrL (wrL cur (p + vs.length) B) p vs).toList = cur.toList.take p ++ vs ++ (B ++ cur.toList.drop (p + vs.length + B.length)) := by
  have l1 : (cur.toList.take (p + vs.length)).length = p + vs.length := by simp; omega
  simp only [wrL, List.append_assoc]
  rw [List.drop_left' l1, List.take_append_of_le_length (by omega), List.take_take, Nat.min_eq_left (by omega)]
theorem copy_row {w : World} {b ty : Nat} {cur : Array Value} (hH : w.heap[b]? = some (.cells cur ty (0, 0))) {t t2 e : TypeId} {i : TypeInfo} (ht : P.underlying t = some (.slice e)) (hi : P.info? e = some i) (o dLen dCap : Nat) {src : Value} {sl k : Nat} {vs : List Value} (ty2 : TypeId)
    (hlen : ∀ w : World, (Builtin.lenOf src).run P w = .ok sl w) (hk : Nat.min sl dLen = k) (hf : (Builtin.firstCells i.size k src).run P w = .ok vs.toArray w) (h : o + vs.length ≤ cur.size) (h1 : ∀ v ∈ vs, v.oneCell' = true) :
    (Builtin.copy_ #[t, t2] ty2 #[.slice (some ⟨b, o, none⟩) dLen dCap, src]).run P w = .ok (.int .i64 k) (w.setRow b (wrL cur o vs)) := by
  have hst := storeCells_row (P := P) hH o vs h h1
  simp [Builtin.copy_, run_underlying ht, hlen, hk, sizeOf, typeInfo, hi, hf, goInt, hst]
end
def zc : Array Value := #[.int .i64 0, .int .u64 0, .int .u64 0, .int .u64 0, .int .u64 0, .int .u64 0, .int .u64 0, .int .u64 0, .int .u64 0]
theorem infoE : (Tryd.prog.info? 42).map (fun i => (i.zero, i.size, i.bytes)) = some (some (.agg zc), 9, 72) := by kernel_rfl
theorem undE : Tryd.prog.underlying 22 = some (.slice 42) := by kernel_rfl
theorem undV : Tryd.prog.underlying 22 = some (.slice 42) := by kernel_rfl
theorem zeroE (w : World) : (zeroValue 42).run Tryd.prog w = .ok (.agg zc) w := by
  have h := infoE
  cases hi : Tryd.prog.info? 42 with
  | none => rw [hi] at h; cases h
  | some i =>
    rw [hi] at h
    simp only [Option.map_some, Option.some.injEq, Prod.mk.injEq] at h
    simp [zeroValue, typeInfo, hi, h.1]
set_option maxHeartbeats 4000000 in
set_option maxRecDepth 1000000 in
theorem del_walk (b cap i j n ty : Nat) (cur : Array Value) (w : World) (hH : w.heap[b]? = some (.cells cur ty (0, 0))) (hc : n ≤ cap) (hs : cap * 9 = cur.size) (h1 : ∀ v ∈ cur.toList.take (n * 9), v.oneCell' = true) (hij : i < j) (hj : j ≤ n) :
    Calls Tryd.prog 27 #[.slice (some ⟨b, 0, none⟩) n cap, .int .i64 i, .int .i64 j] w fun e w' => e = .returned (.slice (some ⟨b, 0, none⟩) (n - (j - i)) cap) ∧
      ∃ cur2, cur2.toList = cur.toList.take (i * 9) ++ (cur.toList.drop (j * 9)).take ((n - j) * 9) ++ ((Builtin.zeroCells zc (j - i)).toList ++ cur.toList.drop (n * 9)) ∧ w' = w.drew.setRow b cur2 := by
  obtain ⟨I, hI, hIz, hIs, hIb⟩ := info_parts infoE
  have hz : (Value.agg zc).cells = zc := rfl
  have hzs : zc.size = 9 := rfl
  have hz1 : ∀ v ∈ zc.toList, v.oneCell' = true := by decide
  obtain ⟨news, hnews⟩ : ∃ news, news = (cur.toList.drop (j * 9)).take ((n - j) * 9) := ⟨_, rfl⟩
  have hnl : news.length = (n - j) * 9 := by rw [hnews]; simp; omega
  have hn1 : ∀ v ∈ news, v.oneCell' = true := fun v hv => h1 v (by
    rw [hnews, List.take_drop] at hv
    have := List.mem_of_mem_drop hv
    rwa [show j * 9 + (n - j) * 9 = n * 9 by omega] at this)
  have hHd : w.drew.heap[b]? = some (.cells cur ty (0, 0)) := hH
  obtain ⟨A, hA, hfc⟩ : ∃ A : Addr, (if cap = j then some (⟨b, 0, none⟩ : Addr) else some ⟨b, j * 9, none⟩) = some A ∧ Hid ((Builtin.firstCells I.size (n - j) (.slice (some A) (n - j) (cap - j))).run Tryd.prog w.drew = .ok news.toArray w.drew) := by
    by_cases h : cap = j
    · refine ⟨⟨b, 0, none⟩, by simp [h], ?_⟩
      have h0 : n - j = 0 := by omega
      rw [hnews, h0]
      have := firstCells_row (P := Tryd.prog) hHd 0 0 I.size 0 (cap - j) (by omega)
      show _ = _
      simpa using this
    · refine ⟨⟨b, j * 9, none⟩, by simp [h], ?_⟩
      rw [hnews, hIs]
      exact firstCells_row hHd (j * 9) (n - j) 9 _ _ (by omega)
  have hst := storeCells_row (P := Tryd.prog) hHd (i * 9) news (by rw [hnl]; omega) hn1
  obtain ⟨W1, hW1⟩ : ∃ W1, W1 = w.drew.setRow b (wrL cur (i * 9) news) := ⟨_, rfl⟩
  have hs1 : (wrL cur (i * 9) news).size = cur.size := wrL_size (by rw [hnl]; omega)
  have hH1 : W1.heap[b]? = some (.cells (wrL cur (i * 9) news) ty (0, 0)) := by rw [hW1]; exact setRow_heap _ _ cur _ ty _ hHd
  have hcl : ∀ ty, (Builtin.clear_ #[22] ty #[.slice (some ⟨b, (i + (n - j)) * 9, none⟩) (n - (i + (n - j))) (cap - (i + (n - j)))]).run Tryd.prog W1 = .ok (.tuple #[]) (W1.setRow b (wrL (wrL cur (i * 9) news) ((i + (n - j)) * 9) (Builtin.zeroCells zc (n - (i + (n - j)))).toList)) :=
    fun ty => clear_row hH1 22 42 ty (.agg zc) undE zeroE _ _ _ (by omega) (by rw [hs1, hz, hzs]; omega) hz1
  have hap : Hid (∀ ty, (Builtin.append_ #[22, 22] ty #[.slice (some ⟨b, 0, none⟩) i cap, .slice (some A) (n - j) (cap - j)]).run Tryd.prog w.drew = .ok (.slice (some ⟨b, 0, none⟩) (i + (n - j)) cap) W1) := fun ty =>
    run_app_room undE undE rfl hI (fun w => by simp [Builtin.lenOf]) hfc (by omega) (by
      show (storeCells ((⟨b, 0, none⟩ : Addr).add (i * I.size)) news).run Tryd.prog w.drew = _
      rw [Addr.add_lit, hIs, Nat.zero_add, hW1]; exact hst)
  have hfin : Hid (W1.setRow b (wrL (wrL cur (i * 9) news) ((i + (n - j)) * 9) (Builtin.zeroCells zc (n - (i + (n - j)))).toList) = w.drew.setRow b (wrL (wrL cur (i * 9) news) ((i + (n - j)) * 9) (Builtin.zeroCells zc (n - (i + (n - j)))).toList)) := by rw [hW1]; exact setRow_setRow _ _ _ _
  have hlist : Hid ((wrL (wrL cur (i * 9) news) ((i + (n - j)) * 9) (Builtin.zeroCells zc (n - (i + (n - j)))).toList).toList = cur.toList.take (i * 9) ++ news ++ ((Builtin.zeroCells zc (j - i)).toList ++ cur.toList.drop (n * 9))) := by
    have hzl : (Builtin.zeroCells zc (n - (i + (n - j)))).toList.length = (j - i) * 9 := by simp [Builtin.zeroCells, hzs]; omega
    have := wr_up (cur := cur) (p := i * 9) (vs := news) (B := (Builtin.zeroCells zc (n - (i + (n - j)))).toList) (by rw [hnl, hzl]; omega)
    rw [hzl, hnl, show i * 9 + (n - j) * 9 = (i + (n - j)) * 9 by omega, show (i + (n - j)) * 9 + (j - i) * 9 = n * 9 by omega] at this
    show _ = _
    rw [this, show n - (i + (n - j)) = j - i by omega]
  have hic : i ≤ cap := by omega
  have hjc : j ≤ cap := by omega
  rw [← hnews]
  clear hnews hW1 hH1 hHd hH hst hs1 h1 hfc hs hn1 hnl hI hIz hIs hIb hz hzs hz1
  have mixed : Tryd.prog.follows .mixedOrders = true := by kernel_rfl
  go_enter Tryd.func27, Tryd.ntmps27
  go_wp2_with fail
  go_region_law_o (refine step_append_runE rfl (.tmp 22) (.tmp 25) 22 22 rfl (.slice (some ⟨b, 0, none⟩) i cap) (.slice (some A) (n - j) (cap - j)) (by simp [Act.eval, Act.put]) (by simp [Act.eval, Act.put]) (hap.out _) ?_)
  go_wp2
  go_ret
  refine ⟨by rw [show n - (j - i) = i + (n - j) by omega]; rfl, _, hlist.out, hfin.out⟩
set_option maxHeartbeats 4000000 in
set_option maxRecDepth 1000000 in
theorem del_same (b cap i n : Nat) (w : World) (hc : n ≤ cap) (hj : i ≤ n) :
    Calls Tryd.prog 27 #[.slice (some ⟨b, 0, none⟩) n cap, .int .i64 i, .int .i64 i] w fun e w' => e = .returned (.slice (some ⟨b, 0, none⟩) n cap) ∧ w' = w := by
  go_enter Tryd.func27, Tryd.ntmps27
  go_wp2
  all_goals (go_ret; exact ⟨rfl, rfl⟩)
set_option maxHeartbeats 4000000 in
set_option maxRecDepth 1000000 in
theorem del_nil (w : World) :
    Calls Tryd.prog 27 #[.slice none 0 0, .int .i64 (0 : Nat), .int .i64 (0 : Nat)] w fun e w' => e = .returned (.slice none 0 0) ∧ w' = w := by
  go_enter Tryd.func27, Tryd.ntmps27
  go_wp2
  all_goals (go_ret; exact ⟨rfl, rfl⟩)
def delG (_ sz : Nat) (xs : List (List AV)) (ds : List AV) : Option (List (List AV)) :=
  match ds with
  | [.v (.int .i64 i), .v (.int .i64 j)] => bif Nat.beq sz 9 && (decide (0 ≤ i) && (decide (i ≤ j) && decide (j ≤ (xs.length : Int)))) then some (xs.take i.toNat ++ xs.drop j.toNat) else none
  | _ => none
theorem has_own {w : World} {b ty : Nat} {cur : Array Value} (h : Has w b cur ty (fxB false 9)) : w.heap[b]? = some (.cells cur ty (0, 0)) := by
  obtain ⟨fz, h1, h2⟩ := h
  rcases h2 with h2 | ⟨h2, _⟩
  · rw [h1, h2]
  · cases h2
theorem own_has {w : World} {b ty : Nat} {cur : Array Value} (h : w.heap[b]? = some (.cells cur ty (0, 0))) : Has w b cur ty (fxB false 9) := ⟨_, h, .inl rfl⟩
theorem rowD_one {μ : Mu} {xs : List (List AV)} {cur : Array Value} (h : RowD μ 9 xs cur) (hl : xs.length * 9 ≤ cur.size) : ∀ v ∈ cur.toList.take (xs.length * 9), v.oneCell' = true := by
  have h2 := h.take xs.length
  rw [List.take_length] at h2
  exact h2.list (by simp; omega)
theorem heap_keep {w : World} {b : Nat} {cur : Array Value} {b' : Nat} (h : b ≠ b') : (w.setRow b cur).heap[b']? = w.heap[b']? := setRow_other _ _ _ _ h.symm
theorem del_told : MvS Tryd.prog 27 delG := by
  intro ty sz xs ds ys hg hbig μ w sv vals himm hOwn hvl hargs
  unfold delG at hg
  split at hg
  · rename_i i j
    obtain ⟨hc, hg2⟩ := cond_some hg
    clear hg
    simp only [Bool.and_eq_true, decide_eq_true_eq] at hc
    obtain ⟨hsz, hi, hij, hjn⟩ := hc
    have hsz := Nat.eq_of_beq_eq_true hsz
    subst hsz
    obtain ⟨v0, v1, rfl⟩ : ∃ v0 v1, vals = [v0, v1] := by
      match vals, hvl with
      | [a, b], _ => exact ⟨_, _, rfl⟩
    have h0 := hargs 0 _ _ rfl rfl
    have h1 := hargs 1 _ _ rfl rfl
    cases h0 with
    | v _ =>
    cases h1 with
    | v _ =>
    obtain ⟨I, rfl⟩ : ∃ I : Nat, i = (I : Int) := ⟨i.toNat, by omega⟩
    obtain ⟨J, rfl⟩ : ∃ J : Nat, j = (J : Int) := ⟨j.toNat, by omega⟩
    simp only [Int.toNat_natCast, Option.some.injEq] at hg2
    subst hg2
    cases hOwn with
    | nil hx =>
      subst hx
      have hJ : J = 0 := by simp at hjn; omega
      have hI : I = 0 := by omega
      subst hJ; subst hI
      refine (del_nil w).mono ?_
      rintro e w' ⟨rfl, rfl⟩
      exact ⟨_, rfl, rfl, rfl, rfl, Nat.le_refl _, fun _ _ _ => rfl, .inl ⟨rfl, by simp, rfl⟩⟩
    | @own b cap cur h hr hcp hs =>
      have hH := has_own h
      rcases Nat.lt_or_ge I J with hlt | hge
      · refine (del_walk b cap I J xs.length ty cur w hH hcp hs (rowD_one hr (by omega)) hlt (by omega)).mono ?_
        rintro e w' ⟨rfl, cur2, hl, rfl⟩
        have hHd : w.drew.heap[b]? = some (.cells cur ty (0, 0)) := hH
        have hb : b < w.heap.size := (Array.getElem?_eq_some_iff.1 hH).1
        have hlen : (xs.take I ++ xs.drop J).length = xs.length - (J - I) := by simp; omega
        refine ⟨_, rfl, rfl, rfl, rfl, by simp, fun b' _ hb' => ?_, .inr ⟨b, cap, cur2, by rw [hlen], .inl rfl, (by intro e; cases e), own_has (setRow_heap _ _ cur _ ty _ hHd), ?_, by omega, ?_⟩⟩
        · exact heap_keep (fun e => hb' (by rw [e]; rfl))
        · have e1 : cur2 = (cur.toList.take (I * 9) ++ (cur.toList.drop (J * 9)).take ((xs.length - J) * 9) ++ ((Builtin.zeroCells zc (J - I)).toList ++ cur.toList.drop (xs.length * 9))).toArray := by rw [← hl]
          rw [e1]
          have h2 := (hr.drop J).take' (xs.length - J)
          rw [List.take_of_length_le (by simp)] at h2
          exact (hr.take I).app (by simp; omega) h2
        · have := congrArg List.length hl
          simp [Builtin.zeroCells] at this
          have e9 : zc.size = 9 := rfl
          rw [e9] at this
          omega
      · have e : I = J := by omega
        subst e
        refine (del_same b cap I xs.length w hcp (by omega)).mono ?_
        rintro e w' ⟨rfl, rfl⟩
        rw [List.take_append_drop]
        exact ⟨_, rfl, rfl, rfl, rfl, Nat.le_refl _, fun _ _ _ => rfl, .inr ⟨b, cap, cur, rfl, .inl rfl, (by intro e; cases e), h, hr, hcp, hs⟩⟩
  · cases hg
theorem info9 : ∃ I : TypeInfo, Tryd.prog.info? 42 = some I ∧ I.zero = some (.agg zc) ∧ I.size = 9 ∧ I.bytes = 72 := info_parts infoE
theorem src_row {w : World} {vb tb m vc : Nat} {cv : Array Value} (hV : w.heap[vb]? = some (.cells cv tb (0, 0))) (hs : m * 9 ≤ cv.size) (w' : World) (hk : w'.heap[vb]? = w.heap[vb]?) :
    (Builtin.firstCells 9 m (.slice (some ⟨vb, 0, none⟩) m vc)).run Tryd.prog w' = .ok (cv.toList.take (m * 9)).toArray w' := by
  have := firstCells_row (P := Tryd.prog) (w := w') (hk.trans hV) 0 m 9 m vc (by omega)
  simpa using this
theorem ins_room_walk (b cap n ty vb m vc tb : Nat) (cur cv : Array Value) (w : World) (hH : w.heap[b]? = some (.cells cur ty (0, 0))) (hV : w.heap[vb]? = some (.cells cv tb (0, 0))) (hs : cap * 9 = cur.size) (hsv : m * 9 ≤ cv.size) (h1 : ∀ v ∈ cv.toList.take (m * 9), v.oneCell' = true) (hm : 0 < m) (hroom : n + m ≤ cap) :
    Calls Tryd.prog 26 #[.slice (some ⟨b, 0, none⟩) n cap, .int .i64 n, .slice (some ⟨vb, 0, none⟩) m vc] w fun e w' => e = .returned (.slice (some ⟨b, 0, none⟩) (n + m) cap) ∧ w' = w.setRow b (wrL cur (n * 9) (cv.toList.take (m * 9))) := by
  obtain ⟨I, hI, hIz, hIs, hIb⟩ := info9
  have hl : (cv.toList.take (m * 9)).length = m * 9 := by simp; omega
  have hap : ∀ ty, (Builtin.append_ #[22, 22] ty #[.slice (some ⟨b, 0, none⟩) n cap, .slice (some ⟨vb, 0, none⟩) m vc]).run Tryd.prog w = .ok (.slice (some ⟨b, 0, none⟩) (n + m) cap) (w.setRow b (wrL cur (n * 9) (cv.toList.take (m * 9)))) := fun ty =>
    run_app_room undE undV rfl hI (fun w => by simp [Builtin.lenOf]) (by rw [hIs]; exact src_row hV hsv w rfl) hroom (by
      show (storeCells ((⟨b, 0, none⟩ : Addr).add (n * I.size)) _).run Tryd.prog w = _
      rw [Addr.add_lit, hIs, Nat.zero_add]; exact storeCells_row hH (n * 9) _ (by rw [hl]; omega) h1)
  have hz1 : ¬ ((m : Int) = 0) := by omega
  clear hH hV hs hsv h1 hI hIz hIs hIb hl
  go_enter Tryd.func26, Tryd.ntmps26
  go_wp2_with (at_builtin; refine Lib.wpList_append_run _ rfl _ _ _ _ rfl _ _ rfl rfl _ _ (hap _) ?_)
  all_goals (go_ret; exact ⟨rfl, rfl⟩)
theorem ins_grow_walk (base : Option Addr) (n cap vb m vc tb : Nat) (olds : List Value) (cv : Array Value) (w : World) (hO : (Builtin.firstCells 9 n (.slice base n cap)).run Tryd.prog w.drew = .ok olds.toArray w.drew) (hV : w.heap[vb]? = some (.cells cv tb (0, 0))) (hsv : m * 9 ≤ cv.size) (hm : 0 < m) (hnc : n ≤ cap) (hroom : cap < n + m) (hbig : n + m ≤ 2000000) (hbase : (base = none ∧ n = 0 ∧ cap = 0) ∨ ∃ b, base = some ⟨b, 0, none⟩) :
    Calls Tryd.prog 26 #[.slice base n cap, .int .i64 n, .slice (some ⟨vb, 0, none⟩) m vc] w fun e w' => e = .returned (.slice (some ⟨w.heap.size, 0, none⟩) (n + m) (grownCap w (n + m) cap 42)) ∧
      w' = w.drew.alloc (.cells (olds ++ cv.toList.take (m * 9) ++ (Builtin.zeroCells zc (grownCap w (n + m) cap 42 - (n + m))).toList).toArray 42) := by
  obtain ⟨I, hI, hIz, hIs, hIb⟩ := info9
  have hap : ∀ ty, (Builtin.append_ #[22, 22] ty #[.slice base n cap, .slice (some ⟨vb, 0, none⟩) m vc]).run Tryd.prog w = .ok (.slice (some ⟨w.heap.size, 0, none⟩) (n + m) (grownCap w (n + m) cap 42)) (w.drew.alloc (.cells (olds ++ cv.toList.take (m * 9) ++ (Builtin.zeroCells zc (grownCap w (n + m) cap 42 - (n + m))).toList).toArray 42)) := fun ty =>
    run_app_grow undE undV rfl hI hIz (by omega) (fun w => by simp [Builtin.lenOf]) (by rw [hIs]; exact src_row hV hsv w.drew rfl) (by rw [hIs]; exact hO) hroom (by rw [hIb]; omega)
  have hz1 : ¬ ((m : Int) = 0) := by omega
  clear hO hV hsv hI hIz hIs hIb
  rcases hbase with ⟨rfl, rfl, rfl⟩ | ⟨b, rfl⟩
  · go_enter Tryd.func26, Tryd.ntmps26
    go_wp2_with (at_builtin; refine Lib.wpList_append_run _ rfl _ _ _ _ rfl _ _ rfl rfl _ _ (hap _) ?_)
    all_goals (go_ret; refine ⟨by simp; try rfl, ?_⟩; simp only [Nat.zero_add, List.append_assoc]; rfl)
  · go_enter Tryd.func26, Tryd.ntmps26
    go_wp2_with (at_builtin; refine Lib.wpList_append_run _ rfl _ _ _ _ rfl _ _ rfl rfl _ _ (hap _) ?_)
    all_goals (go_ret; exact ⟨rfl, rfl⟩)
set_option maxHeartbeats 4000000 in
set_option maxRecDepth 100000 in
theorem ins_shift_walk (b cap i n ty vb m vc tb : Nat) (cur cv : Array Value) (w : World) (hH : w.heap[b]? = some (.cells cur ty (0, 0))) (hV : w.heap[vb]? = some (.cells cv tb (0, 0))) (hs : cap * 9 = cur.size) (hsv : m * 9 ≤ cv.size) (h1 : ∀ v ∈ cv.toList.take (m * 9), v.oneCell' = true) (h1c : ∀ v ∈ cur.toList.take (n * 9), v.oneCell' = true) (hm : 0 < m) (hi : i < n) (hroom : n + m ≤ cap) (hvb : vb ≠ b) (hbig : n + m ≤ 2000000) :
    Calls Tryd.prog 26 #[.slice (some ⟨b, 0, none⟩) n cap, .int .i64 i, .slice (some ⟨vb, 0, none⟩) m vc] w fun e w' => e = .returned (.slice (some ⟨b, 0, none⟩) (n + m) cap) ∧
      ∃ cur2, cur2.toList = cur.toList.take (i * 9) ++ cv.toList.take (m * 9) ++ ((cur.toList.drop (i * 9)).take ((n - i) * 9) ++ cur.toList.drop ((n + m) * 9)) ∧ w' = w.drew.setRow b cur2 := by
  obtain ⟨I, hI, hIz, hIs, hIb⟩ := info9
  obtain ⟨news, hnews⟩ : ∃ news, news = cv.toList.take (m * 9) := ⟨_, rfl⟩
  obtain ⟨B, hB⟩ : ∃ B, B = (cur.toList.drop (i * 9)).take ((n - i) * 9) := ⟨_, rfl⟩
  have hnl : news.length = m * 9 := by rw [hnews]; simp; omega
  have hBl : B.length = (n - i) * 9 := by rw [hB]; simp; omega
  have hB1 : ∀ v ∈ B, v.oneCell' = true := fun v hv => h1c v (by
    rw [hB, List.take_drop] at hv
    have := List.mem_of_mem_drop hv
    rwa [show i * 9 + (n - i) * 9 = n * 9 by omega] at this)
  have hHd : w.drew.heap[b]? = some (.cells cur ty (0, 0)) := hH
  have hsa : w.shape? vb = some (tb, cv.size) := by simp [World.shape?, hV]
  have hsb : w.shape? b = some (ty, cur.size) := by simp [World.shape?, hH]
  have hz9 : ∀ w, (sizeOf 42).run Tryd.prog w = .ok 9 w := fun w => by simp [sizeOf, typeInfo, hI, hIs]
  have hfr : ∀ k, w.frozen? ⟨vb, k, none⟩ = false := fun k => by simp [World.frozen?, hV]
  have hov : ∀ lb cb, (callFunc 43 #[.slice (some ⟨vb, 0, none⟩) m vc, .slice (some ⟨b, (i + m) * 9, none⟩) lb cb]).run Tryd.prog w = .ok (.value (.bool false)) w := fun lb cb => by
    rw [run_callFunc_extern Tryd.func43 (by kernel_rfl) (by kernel_rfl) (by kernel_rfl) (e := Extern.SlicesOverlaps.overlaps #[22, 22] #[4]) (by kernel_rfl),
      Lib.run_overlaps_apart w 22 4 42 undV 9 hz9 ⟨vb, 0, none⟩ ⟨b, (i + m) * 9, none⟩ m vc lb cb hvb tb ty cv.size cur.size hsa hsb (by omega) (hfr 0) (hfr _)]
    rfl
  obtain ⟨W1, hW1⟩ : ∃ W1, W1 = w.drew.setRow b (wrL cur ((i + m) * 9) B) := ⟨_, rfl⟩
  have hs1 : (wrL cur ((i + m) * 9) B).size = cur.size := wrL_size (by rw [hBl]; omega)
  have hH1 : W1.heap[b]? = some (.cells (wrL cur ((i + m) * 9) B) ty (0, 0)) := by rw [hW1]; exact setRow_heap _ _ cur _ ty _ hHd
  have hV1 : W1.heap[vb]? = w.heap[vb]? := by rw [hW1]; exact heap_keep (fun e => hvb e.symm)
  have hcp1 : ∀ ty dc sc, (Builtin.copy_ #[22, 22] ty #[.slice (some ⟨b, (i + m) * 9, none⟩) (n + m - (i + m)) dc, .slice (some ⟨b, i * 9, none⟩) (n + m - i) sc]).run Tryd.prog w.drew = .ok (.int .i64 (n - i : Nat)) W1 := fun ty dc sc => by
    rw [hW1]
    exact copy_row hHd undE hI _ _ _ ty (sl := n + m - i) (fun w => by simp [Builtin.lenOf]) (by simp only [Nat.min_def]; split <;> omega) (by rw [hIs, hB]; exact firstCells_row hHd (i * 9) (n - i) 9 _ _ (by omega)) (by rw [hBl]; omega) hB1
  have hcp2 : ∀ ty dc, (Builtin.copy_ #[22, 22] ty #[.slice (some ⟨b, i * 9, none⟩) (n + m - i) dc, .slice (some ⟨vb, 0, none⟩) m vc]).run Tryd.prog W1 = .ok (.int .i64 m) (W1.setRow b (wrL (wrL cur ((i + m) * 9) B) (i * 9) news)) := fun ty dc =>
    copy_row hH1 undE hI _ _ _ ty (sl := m) (fun w => by simp [Builtin.lenOf]) (by simp only [Nat.min_def]; split <;> omega) (by rw [hIs, hnews]; exact src_row hV hsv W1 hV1) (by rw [hnl, hs1]; omega) (by rw [hnews]; exact h1)
  have hfin : Hid (W1.setRow b (wrL (wrL cur ((i + m) * 9) B) (i * 9) news) = w.drew.setRow b (wrL (wrL cur ((i + m) * 9) B) (i * 9) news)) := by rw [hW1]; exact setRow_setRow _ _ _ _
  have hlist : Hid ((wrL (wrL cur ((i + m) * 9) B) (i * 9) news).toList = cur.toList.take (i * 9) ++ news ++ (B ++ cur.toList.drop ((n + m) * 9))) := by
    have := wr_down (cur := cur) (p := i * 9) (vs := news) (B := B) (by rw [hnl, hBl]; omega)
    rw [hnl, hBl, show i * 9 + m * 9 = (i + m) * 9 by omega, show (i + m) * 9 + (n - i) * 9 = (n + m) * 9 by omega] at this
    exact this
  have mixed : Tryd.prog.follows .mixedOrders = true := by kernel_rfl
  have hz1 : ¬ ((m : Int) = 0) := by omega
  have hz2 : ¬ ((i : Int) = (n : Int)) := by omega
  have hw1 : IntKind.i64.wrap ((i : Int) + (m : Int)) = (i : Int) + (m : Int) := by rw [IntKind.wrap_i64]; omega
  have hb1 : (0 : Int) ≤ (i : Int) + (m : Int) := by omega
  have hin : i ≤ n := by omega
  have htn : ((i : Int) + (m : Int)).toNat = i + m := by omega
  have hb2 : ¬ (cap = i + m) := by omega
  have hb3 : (i : Int) ≤ (n : Int) + (m : Int) := by omega
  have hb4 : ¬ (cap = i) := by omega
  rw [← hnews, ← hB]
  clear hnews hB hW1 hs1 hH1 hV1 hH hV hs hsv h1 h1c hI hIz hIs hIb hnl hBl hB1 hHd hsa hsb hz9 hfr
  go_enter Tryd.func26, Tryd.ntmps26
  go_wp2_with (simp only [hov])
  go_region_law_o (refine step_copy_runI rfl _ _ 22 22 rfl _ _ (by simp [Act.eval, Act.put]) (by simp [Act.eval, Act.put]) (hcp1 _ _ _) ?_)
  go_wp2_with (at_builtin; refine wpList_copy_runI _ rfl _ _ 22 22 rfl _ _ rfl rfl (hcp2 _ _) ?_)
  go_ret
  exact ⟨rfl, _, hlist.out, hfin.out⟩
set_option maxHeartbeats 4000000 in
set_option maxRecDepth 100000 in
theorem ins_mid_walk (b cap i n ty vb m vc tb : Nat) (cur cv : Array Value) (w : World) (hH : w.heap[b]? = some (.cells cur ty (0, 0))) (hV : w.heap[vb]? = some (.cells cv tb (0, 0))) (hs : cap * 9 = cur.size) (hnc : n ≤ cap) (hsv : m * 9 ≤ cv.size) (h1 : ∀ v ∈ cv.toList.take (m * 9), v.oneCell' = true) (h1c : ∀ v ∈ cur.toList.take (n * 9), v.oneCell' = true) (hm : 0 < m) (hi : i < n) (hroom : cap < n + m) (hbig : n + m ≤ 2000000) :
    Calls Tryd.prog 26 #[.slice (some ⟨b, 0, none⟩) n cap, .int .i64 i, .slice (some ⟨vb, 0, none⟩) m vc] w fun e w' => ∃ G, e = .returned (.slice (some ⟨w.heap.size, 0, none⟩) (n + m) G) ∧ n + m ≤ G ∧
      ∃ cur2, G * 9 = cur2.size ∧ cur2.toList.take ((n + m) * 9) = cur.toList.take (i * 9) ++ cv.toList.take (m * 9) ++ (cur.toList.drop (i * 9)).take ((n - i) * 9) ∧ w' = ((w.drew.drew).alloc (.cells cur2 42)) := by
  obtain ⟨I, hI, hIz, hIs, hIb⟩ := info9
  obtain ⟨news, hnews⟩ : ∃ news, news = cv.toList.take (m * 9) := ⟨_, rfl⟩
  obtain ⟨B, hB⟩ : ∃ B, B = (cur.toList.drop (i * 9)).take ((n - i) * 9) := ⟨_, rfl⟩
  obtain ⟨olds, holds⟩ : ∃ olds, olds = cur.toList.take (i * 9) := ⟨_, rfl⟩
  have hnl : news.length = m * 9 := by rw [hnews]; simp; omega
  have hBl : B.length = (n - i) * 9 := by rw [hB]; simp; omega
  have hol : olds.length = i * 9 := by rw [holds]; simp; omega
  have hB1 : ∀ v ∈ B, v.oneCell' = true := fun v hv => h1c v (by
    rw [hB, List.take_drop] at hv
    have := List.mem_of_mem_drop hv
    rwa [show i * 9 + (n - i) * 9 = n * 9 by omega] at this)
  have hHd : w.drew.heap[b]? = some (.cells cur ty (0, 0)) := hH
  have hbw : b < w.heap.size := (Array.getElem?_eq_some_iff.1 hH).1
  have hvw : vb < w.heap.size := (Array.getElem?_eq_some_iff.1 hV).1
  have hkk : (n : Int) + (m : Int) - (i : Int) = ((n + m - i : Nat) : Int) := by omega
  have hik : i + (n + m - i) = n + m := by omega
  have hold : (Builtin.firstCells I.size i (.slice (some ⟨b, 0, none⟩) i cap)).run Tryd.prog w.drew = .ok olds.toArray w.drew := by
    rw [hIs, holds]
    have := firstCells_row (P := Tryd.prog) hHd 0 i 9 i cap (by omega)
    simpa using this
  have hT3 : Tryd.prog.underlying 3 = some (.int .i64) := by kernel_rfl
  have hrz : ∀ ty, (Builtin.append_ #[22, 3] ty #[.slice (some ⟨b, 0, none⟩) i cap, .int .i64 ((n : Int) + (m : Int) - (i : Int))]).run Tryd.prog w =
      .ok (.slice (some ⟨w.heap.size, 0, none⟩) (n + m) (grownCap w (n + m) cap 42)) (w.drew.alloc (.cells (olds.toArray ++ Builtin.zeroCells zc (n + m - i) ++ Builtin.zeroCells zc (grownCap w (n + m) cap 42 - (n + m))) 42)) := fun ty => by
    have h := Lib.run_append_grow_zeros w 22 3 ty 42 I _ .i64 .i64 undE hT3 hI hIz (some ⟨b, 0, none⟩) i cap olds hold (n + m - i) (by omega) (by omega) (by omega) (by omega) (by rw [hIb]; omega) (by rw [hik]; exact growslice_fits hroom (by rw [hIb]; omega))
    rw [hik] at h
    rw [hkk]
    exact h
  obtain ⟨G, hG⟩ : ∃ G, G = grownCap w (n + m) cap 42 := ⟨_, rfl⟩
  obtain ⟨ROW, hROW⟩ : ∃ ROW : Array Value, ROW = olds.toArray ++ Builtin.zeroCells zc (n + m - i) ++ Builtin.zeroCells zc (G - (n + m)) := ⟨_, rfl⟩
  rw [← hG] at hrz
  rw [← hROW] at hrz
  have hGn : n + m ≤ G := by rw [hG]; exact grownCap_ge w _ _ _
  have hz9 : zc.size = 9 := rfl
  have hRl : ROW.size = G * 9 := by
    rw [hROW]
    simp [Builtin.zeroCells, hz9, hol]
    omega
  have hRt : ROW.toList.take (i * 9) = olds := by
    rw [hROW]
    simp only [Array.toList_append, List.append_assoc]
    rw [List.take_left' hol]
  obtain ⟨W1, hW1⟩ : ∃ W1, W1 = w.drew.alloc (.cells ROW 42) := ⟨_, rfl⟩
  rw [← hW1] at hrz
  have hN : W1.heap[w.heap.size]? = some (.cells ROW 42 (0, 0)) := by rw [hW1]; show (w.heap.push _)[w.heap.size]? = _; simp
  have hO : ∀ k, k < w.heap.size → W1.heap[k]? = w.heap[k]? := fun k hk => by rw [hW1]; show (w.heap.push _)[k]? = _; simp [Array.getElem?_push, Nat.ne_of_lt hk]
  obtain ⟨W2, hW2⟩ : ∃ W2, W2 = W1.setRow w.heap.size (wrL ROW (i * 9) news) := ⟨_, rfl⟩
  have hs2 : (wrL ROW (i * 9) news).size = ROW.size := wrL_size (by rw [hnl, hRl]; omega)
  have hN2 : W2.drew.heap[w.heap.size]? = some (.cells (wrL ROW (i * 9) news) 42 (0, 0)) := by rw [hW2]; exact setRow_heap W1 _ ROW _ 42 _ hN
  have hO2 : W2.drew.heap[b]? = some (.cells cur ty (0, 0)) := by
    rw [hW2]
    exact ((heap_keep (w := W1) (fun e => by omega)).trans (hO b hbw)).trans hH
  have hcpA : ∀ ty dc, (Builtin.copy_ #[22, 22] ty #[.slice (some ⟨w.heap.size, i * 9, none⟩) (n + m - i) dc, .slice (some ⟨vb, 0, none⟩) m vc]).run Tryd.prog W1 = .ok (.int .i64 m) W2 := fun ty dc => by
    rw [hW2]
    exact copy_row hN undE hI _ _ _ ty (sl := m) (fun w => by simp [Builtin.lenOf]) (by simp only [Nat.min_def]; split <;> omega) (by rw [hIs, hnews]; exact src_row hV hsv W1 (hO vb hvw)) (by rw [hnl, hRl]; omega) (by rw [hnews]; exact h1)
  have hcpB : ∀ ty dc sc, (Builtin.copy_ #[22, 22] ty #[.slice (some ⟨w.heap.size, (i + m) * 9, none⟩) (n + m - (i + m)) dc, .slice (some ⟨b, i * 9, none⟩) (n - i) sc]).run Tryd.prog W2.drew = .ok (.int .i64 (n - i : Nat)) (W2.drew.setRow w.heap.size (wrL (wrL ROW (i * 9) news) ((i + m) * 9) B)) := fun ty dc sc =>
    copy_row hN2 undE hI _ _ _ ty (sl := n - i) (fun w => by simp [Builtin.lenOf]) (by simp only [Nat.min_def]; split <;> omega) (by rw [hIs, hB]; exact firstCells_row hO2 (i * 9) (n - i) 9 _ _ (by omega)) (by rw [hBl, hs2, hRl]; omega) hB1
  obtain ⟨C2, hC2⟩ : ∃ C2, C2 = wrL (wrL ROW (i * 9) news) ((i + m) * 9) B := ⟨_, rfl⟩
  have hfin : Hid (W2.drew.setRow w.heap.size C2 = (w.drew.drew).alloc (.cells C2 42)) := by
    show _ = _
    have e1 : W2.drew = (w.drew.drew).alloc (.cells (wrL ROW (i * 9) news) 42) := by
      rw [hW2, hW1]
      have := World.setRow_alloc_new w.drew ROW (wrL ROW (i * 9) news) 42
      show (((w.drew.alloc (.cells ROW 42)).setRow w.drew.heap.size (wrL ROW (i * 9) news))).drew = _
      rw [this]; rfl
    rw [e1]
    exact World.setRow_alloc_new w.drew.drew _ C2 42
  have hlist : Hid (C2.toList.take ((n + m) * 9) = olds ++ news ++ B) := by
    have := wr_up (cur := ROW) (p := i * 9) (vs := news) (B := B) (by rw [hnl, hBl, hRl]; omega)
    rw [hnl, show i * 9 + m * 9 = (i + m) * 9 by omega, ← hC2, hRt, ← List.append_assoc] at this
    show _ = _
    rw [this, List.take_left' (by simp [hol, hnl, hBl]; omega)]
  have hsz : Hid (G * 9 = C2.size) := by
    show _ = _
    rw [hC2, wrL_size (by rw [hs2, hBl, hRl]; omega), hs2, hRl]
  rw [← hC2] at hcpB
  have mixed : Tryd.prog.follows .mixedOrders = true := by kernel_rfl
  have hz1 : ¬ ((m : Int) = 0) := by omega
  have hz2 : ¬ ((i : Int) = (n : Int)) := by omega
  have hz3 : (cap : Int) < (n : Int) + (m : Int) := by omega
  have hw1 : IntKind.i64.wrap ((i : Int) + (m : Int)) = (i : Int) + (m : Int) := by rw [IntKind.wrap_i64]; omega
  have hb1 : (0 : Int) ≤ (i : Int) + (m : Int) := by omega
  have hin : i ≤ n := by omega
  have htn : ((i : Int) + (m : Int)).toNat = i + m := by omega
  have hb3 : (i : Int) ≤ (n : Int) := by omega
  have hGi : ¬ (G = i) := by omega
  have hGim : ¬ (G = i + m) := by omega
  have hci : ¬ (cap = i) := by omega
  have hGX : Aside (n + m ≤ G) := hGn
  rw [← hnews, ← hB, ← holds]
  clear hnews hB holds hW1 hW2 hs2 hN hN2 hO hO2 hH hV hs hsv h1 h1c hI hIz hIs hIb hnl hBl hol hB1 hHd hbw hvw hkk hik hold hT3 hROW hG hRl hRt hC2 hz9
  go_enter Tryd.func26, Tryd.ntmps26
  go_wp2_with (first
    | (at_builtin; refine Lib.wpList_append_run _ rfl _ _ _ _ rfl _ _ rfl rfl _ _ (hrz _) ?_)
    | (at_builtin; refine wpList_copy_runI _ rfl _ _ 22 22 rfl _ _ rfl rfl (hcpA _ _) ?_))
  go_region_law_o (refine step_copy_runI rfl _ _ 22 22 rfl (.slice (some ⟨w.heap.size, (i + m) * 9, none⟩) (n + m - (i + m)) (G - (i + m))) (.slice (some ⟨b, i * 9, none⟩) (n - i) (cap - i)) (by simp [Act.eval, Act.put]) (by simp [Act.eval, Act.put]) (hcpB _ _ _) ?_)
  go_wp2
  go_ret
  exact ⟨G, rfl, hGX.out, C2, hsz.out, hlist.out, hfin.out⟩
def insG (ty sz : Nat) (xs : List (List AV)) (ds : List AV) : Option (List (List AV)) :=
  match ds with
  | [.v (.int .i64 i), .lst false sz2 vs] => bif Nat.beq ty 42 && Nat.beq sz 9 && (Nat.beq sz2 9 && (decide (0 ≤ i) && (decide (i ≤ (xs.length : Int)) && (decide (0 < vs.length) && decide (vs.length ≤ 1000000))))) then some (xs.take i.toNat ++ vs ++ xs.drop i.toNat) else none
  | _ => none
theorem olds_own {b cap n : Nat} {ty : TypeId} {cur : Array Value} {w : World} (hH : w.heap[b]? = some (.cells cur ty (0, 0))) (hs : n * 9 ≤ cur.size) : (Builtin.firstCells 9 n (.slice (some ⟨b, 0, none⟩) n cap)).run Tryd.prog w = .ok (cur.toList.take (n * 9)).toArray w := by
  have := firstCells_row (P := Tryd.prog) hH 0 n 9 n cap (by omega)
  simpa using this
theorem rowD_pre {μ : Mu} {sz : Nat} {ys : List (List AV)} {cur : Array Value} {L : List Value} (hl : cur.toList.take (ys.length * sz) = L) (h : RowD μ sz ys L.toArray) : RowD μ sz ys cur := by
  have h2 : RowD μ sz (ys ++ []) (L ++ [] ++ cur.toList.drop (ys.length * sz)).toArray := h.app (L3 := cur.toList.drop (ys.length * sz)) (L2 := []) (ys := []) (by
    rw [← hl]
    have : ∀ j, j < ys.length * sz → ∃ u, L.toArray[j]? = some u ∧ u.oneCell' = true := fun j hj => h.at_ hj
    rcases Nat.lt_or_ge cur.size (ys.length * sz) with h3 | h3
    · have h4 : L.length ≤ cur.size := by rw [← hl]; simp; omega
      obtain ⟨u, hu, _⟩ := this cur.size h3
      have := (Array.getElem?_eq_some_iff.1 hu).1
      simp at this; omega
    · simp; omega) RowD.nil
  rw [List.append_nil, List.append_nil, ← hl, List.take_append_drop] at h2
  simpa using h2
theorem mvr_new {μ : Mu} {w W : World} {B : Option Nat} {ys : List (List AV)} {cur : Array Value} {G n : Nat} (hh : W.heap = w.heap) (ho : W.os = w.os) (ht : W.tape = w.tape) (hu : W.output = w.output) (hn : ys.length = n) (hne : ys ≠ []) (hr : RowD μ 9 ys cur) (hG : n ≤ G) (hs : G * 9 = cur.size) :
    MvR μ w B 42 9 ys (.slice (some ⟨w.heap.size, 0, none⟩) n G) (W.alloc (.cells cur 42)) := by
  subst hn
  refine ⟨ho, ht, hu, by simp [World.alloc, hh], fun b hb _ => ?_, .inr ⟨w.heap.size, G, cur, rfl, .inr (Nat.le_refl _), fun _ => hne, own_has ?_, hr, hG, hs⟩⟩
  · simp [World.alloc, hh, Array.getElem?_push, Nat.ne_of_lt hb]
  · simp [World.alloc, hh]
theorem mvr_row {μ : Mu} {w W : World} {b ty cap n : Nat} {ys : List (List AV)} {cur cur2 : Array Value} (hH : w.heap[b]? = some (.cells cur ty (0, 0))) (hh : W.heap = w.heap) (ho : W.os = w.os) (ht : W.tape = w.tape) (hu : W.output = w.output) (hn : ys.length = n) (hr : RowD μ 9 ys cur2) (hG : n ≤ cap) (hs : cap * 9 = cur2.size) :
    MvR μ w (some b) ty 9 ys (.slice (some ⟨b, 0, none⟩) n cap) (W.setRow b cur2) := by
  subst hn
  have hW : W.heap[b]? = some (.cells cur ty (0, 0)) := by rw [hh]; exact hH
  refine ⟨ho, ht, hu, by simp [hh], fun b' _ hb' => ?_, .inr ⟨b, cap, cur2, rfl, .inl rfl, (by intro e; cases e), own_has (setRow_heap _ _ cur _ ty _ hW), hr, hG, hs⟩⟩
  rw [heap_keep (fun e => hb' (by rw [e])), hh]
theorem ins_told : MvS Tryd.prog 26 insG := by
  intro ty sz xs ds ys hg hbig μ w sv vals himm hOwn hvl hargs
  unfold insG at hg
  split at hg
  · rename_i i sz2 vs
    obtain ⟨hc, hg2⟩ := cond_some hg
    clear hg
    simp only [Bool.and_eq_true, decide_eq_true_eq] at hc
    obtain ⟨⟨hty, hsz⟩, hsz2, hi, hin, hm, hmb⟩ := hc
    have hty := Nat.eq_of_beq_eq_true hty
    have hsz := Nat.eq_of_beq_eq_true hsz
    have hsz2 := Nat.eq_of_beq_eq_true hsz2
    subst hsz; subst hsz2; subst hty
    obtain ⟨v0, v1, rfl⟩ : ∃ v0 v1, vals = [v0, v1] := by
      match vals, hvl with
      | [a, b], _ => exact ⟨_, _, rfl⟩
    have h0 := hargs 0 _ _ rfl rfl
    have h1 := hargs 1 _ _ rfl rfl
    cases h0 with
    | v _ =>
    cases h1 with
    | @lst vb vc tb _ _ cv hv hrv hcv hsv hB =>
    obtain ⟨I, rfl⟩ : ∃ I : Nat, i = (I : Int) := ⟨i.toNat, by omega⟩
    simp only [Int.toNat_natCast, Option.some.injEq] at hg2
    subst hg2
    have hV := has_own hv
    have hvl9 : vs.length * 9 ≤ cv.size := by omega
    have hv1 := rowD_one hrv hvl9
    have hrv' := hrv.take vs.length
    rw [List.take_length] at hrv'
    have hvb : vb < w.heap.size := (Array.getElem?_eq_some_iff.1 hV).1
    have hyl : (xs.take I ++ vs ++ xs.drop I).length = xs.length + vs.length := by simp; omega
    cases hOwn with
    | nil hx =>
      subst hx
      have hI : I = 0 := by simp at hin; omega
      subst hI
      refine (ins_grow_walk none 0 0 vb vs.length vc tb [] cv w (by simp [Builtin.firstCells]) hV hvl9 hm (Nat.le_refl _) (by omega) (by omega) (.inl ⟨rfl, rfl, rfl⟩)).mono ?_
      rintro e w' ⟨rfl, rfl⟩
      refine ⟨_, rfl, mvr_new rfl rfl rfl rfl (by rw [hyl]; simp) (fun e => by rw [e] at hyl; simp at hyl; omega) ?_ (grownCap_ge w _ _ _) ?_⟩
      · have := (RowD.nil (μ := μ) (sz := 9) (cur := #[])).app (L1 := []) (L3 := (Builtin.zeroCells zc (grownCap w (0 + vs.length) 0 42 - (0 + vs.length))).toList) (by simp) hrv'
        simpa using this
      · have := grownCap_ge w (0 + vs.length) 0 42
        have e9 : zc.size = 9 := rfl
        rw [Nat.zero_add] at this
        simp [Builtin.zeroCells, e9]
        omega
    | @own b cap cur h hr hcp hs =>
      have hH := has_own h
      have hne : vb ≠ b := fun e => hB (by rw [e]; rfl)
      have hb : b < w.heap.size := (Array.getElem?_eq_some_iff.1 hH).1
      have hc1 := rowD_one hr (by omega)
      have hx9 : xs.length * 9 ≤ cur.size := by omega
      have l1 : (cur.toList.take (I * 9)).length = (xs.take I).length * 9 := by simp; omega
      have l2 : (cv.toList.take (vs.length * 9)).length = vs.length * 9 := by simp; omega
      have hmid := (hr.take I).app (L3 := []) l1 hrv'
      rw [List.append_nil] at hmid
      rcases Nat.lt_or_ge I xs.length with hlt | hge
      · have htl := (hr.drop I).take' (xs.length - I)
        rw [List.take_of_length_le (by simp)] at htl
        have hall := fun L3 => hmid.app (L3 := L3) (by rw [List.length_append, List.length_append, l1, l2]; omega) htl
        rcases Nat.lt_or_ge cap (xs.length + vs.length) with hroom | hroom
        · refine (ins_mid_walk b cap I xs.length 42 vb vs.length vc tb cur cv w hH hV hs hcp hvl9 hv1 hc1 hm hlt hroom (by omega)).mono ?_
          rintro e w' ⟨G, rfl, hG, cur2, hGs, hl, rfl⟩
          refine ⟨_, rfl, mvr_new rfl rfl rfl rfl hyl (fun e => by rw [e] at hyl; simp at hyl; omega) ?_ hG hGs⟩
          refine rowD_pre (by rw [hyl, hl]) ?_
          have := hall []
          rwa [List.append_nil] at this
        · refine (ins_shift_walk b cap I xs.length 42 vb vs.length vc tb cur cv w hH hV hs hvl9 hv1 hc1 hm hlt hroom hne (by omega)).mono ?_
          rintro e w' ⟨rfl, cur2, hl, rfl⟩
          refine ⟨_, rfl, mvr_row hH rfl rfl rfl rfl hyl ?_ hroom ?_⟩
          · have e1 : cur2 = (cur.toList.take (I * 9) ++ cv.toList.take (vs.length * 9) ++ (cur.toList.drop (I * 9)).take ((xs.length - I) * 9) ++ cur.toList.drop ((xs.length + vs.length) * 9)).toArray := by rw [List.append_assoc _ _ (cur.toList.drop ((xs.length + vs.length) * 9)), ← hl]
            rw [e1]
            exact hall _
          · have := congrArg List.length hl
            simp at this
            omega
      · have e : I = xs.length := by omega
        subst e
        rw [List.drop_length, List.append_nil] at hyl ⊢
        have hyl : (xs.take xs.length ++ vs).length = xs.length + vs.length := by simp
        rcases Nat.lt_or_ge cap (xs.length + vs.length) with hroom | hroom
        · have hHd : w.drew.heap[b]? = some (.cells cur 42 (0, 0)) := hH
          refine (ins_grow_walk (some ⟨b, 0, none⟩) xs.length cap vb vs.length vc tb _ cv w (olds_own hHd hx9) hV hvl9 hm hcp hroom (by omega) (.inr ⟨b, rfl⟩)).mono ?_
          rintro e w' ⟨rfl, rfl⟩
          refine ⟨_, rfl, mvr_new rfl rfl rfl rfl hyl (fun e => by rw [e] at hyl; simp at hyl; omega) ?_ (grownCap_ge w _ _ _) ?_⟩
          · exact (hr.take xs.length).app l1 hrv'
          · have := grownCap_ge w (xs.length + vs.length) cap 42
            have e9 : zc.size = 9 := rfl
            simp [Builtin.zeroCells, e9]
            omega
        · refine (ins_room_walk b cap xs.length 42 vb vs.length vc tb cur cv w hH hV hs hvl9 hv1 hm hroom).mono ?_
          rintro e w' ⟨rfl, rfl⟩
          refine ⟨_, rfl, mvr_row hH rfl rfl rfl rfl hyl ?_ hroom ?_⟩
          · exact (hr.take xs.length).app l1 hrv'
          · rw [wrL_size (by rw [l2]; omega)]; exact hs
  · cases hg
end Go.Proofs.YtjbpbidlcegopaaDoor
