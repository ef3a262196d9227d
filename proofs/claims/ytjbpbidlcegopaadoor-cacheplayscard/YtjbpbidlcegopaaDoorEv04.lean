/- Operations that read the store. -/
import Derived.Laws.BytesString
import Derived.Test.YtjbpbidlcegopaaDoorEv03
set_option linter.all false
namespace Go.Ev
variable [Gl]
section
variable {P : Program} {E : Env} {μ : Mu} {ρ : Rho} {σ : Store} {w : World}
def valOf (agg : Bool) (vs : List Value) : Value := bif agg then .agg vs.toArray else vs.headD undef
theorem run_loadVar {t : TypeId} (ht : tyL P t = true) {a : Addr} {vs : List Value} (hl : vs.length = P.cellsOf t) (h : ∀ j v, vs[j]? = some v → w.cell? (a.add j) = some v) :
    (loadVar t a).run P w = .ok (valOf (aggT P t) vs) w := by
  obtain ⟨⟨d, hd⟩, _, h2, h3⟩ := tyL_spec ht
  simp only [loadVar, Sem.run_bind, run_isAgg hd, Result.andThen_ok]
  cases hc : aggT P t with
  | true =>
    simp only [if_true, Sem.run_bind, run_sizeOf' h3, Result.andThen_ok]
    rw [← hl, run_loadCells_list w a vs h]
    simp only [Result.andThen_ok, Sem.run_pure, valOf, cond]
  | false =>
    rcases h2 with e | e
    · rw [hc] at e; cases e
    rw [e] at hl
    match vs, hl with
    | [v], _ =>
      have := h 0 v rfl
      simp only [Addr.add, if_true] at this
      simp only [Bool.false_eq_true, if_false, run_load, this, valOf, cond, List.headD]
theorem shapeC_sound {k : CK} {c : AV} {u : Value} (h : (shapeC k c).1 = true) (hd : CR μ ρ c u) : CR μ ρ (shapeC k c).2 u := by
  unfold shapeC at h ⊢
  split at h
  · cases c with
    | v x => cases x <;> simp_all [isI, avInt]
    | _ => simp [isI] at h
  · cases c with
    | v x => cases x <;> simp_all [isB, avBool]
    | _ => simp [isB] at h
  · cases c with
    | v x => cases x <;> simp_all [isS, avStr]
    | _ => simp [isS] at h
  · rename_i e sz
    cases c with
    | lst n s xs =>
      simp only [isL, Bool.or_eq_true] at h
      simp only [avNil, avXs]
      cases hd with
      | d hx =>
        cases hx with
        | @lst _ _ _ A c vals hnil hA hc hsz hcell hv =>
          rcases h with h | h
          · have := Nat.eq_of_beq_eq_true h
            subst this
            exact .d (.lst vals hnil hA hc hsz hcell hv)
          · subst h
            have hn : A = none := by cases A with | none => rfl | some a => cases hnil
            have hx := (hA hn).1
            subst hx
            exact .d (.lst vals hnil hA hc (fun e he => by cases he) (fun a ha => by rw [hn] at ha; cases ha) (fun i e j u he => by simp at he))
    | _ => simp [isL] at h
  · cases h
theorem shapeC_un {k : CK} : (shapeC k .un).1 = false := by
  cases k <;> rfl
theorem shapeG_spec : ∀ (ks : List CK) (j : Nat) (cs : List AV), shapeG ks j cs = true → ∀ q k, ks[q]? = some k → (shapeC k (cellAt cs (j + q))).1 = true
  | [], _, _, _, q, k, hq => by simp at hq
  | [k0], j, cs, h, q, k, hq => by
    cases q with
    | zero => simp at hq; subst hq; exact h
    | succ q => simp at hq
  | k0 :: k1 :: ks, j, cs, h, q, k, hq => by
    simp only [shapeG, Bool.and_eq_true] at h
    cases q with
    | zero => simp at hq; subst hq; exact h.1
    | succ q =>
      have := shapeG_spec (k1 :: ks) (j + 1) cs h.2 q k (by simpa using hq)
      rwa [show j + 1 + q = j + (q + 1) by omega] at this
theorem shapeV_spec : ∀ (ks : List CK) (j : Nat) (cs : List AV), (shapeV ks j cs).length = ks.length ∧ ∀ q, (shapeV ks j cs)[q]? = (ks[q]?).map fun k => (shapeC k (cellAt cs (j + q))).2
  | [], _, _ => ⟨rfl, fun q => by simp [shapeV]⟩
  | k :: ks, j, cs => by
    have ih := shapeV_spec ks (j + 1) cs
    refine ⟨by simp [shapeV, ih.1], fun q => ?_⟩
    cases q with
    | zero => simp [shapeV]
    | succ q =>
      simp only [shapeV, List.getElem?_cons_succ, ih.2]
      rw [show j + 1 + q = j + (q + 1) by omega]
theorem cellAt_some {cs : List AV} {j : Nat} (h : cellAt cs j ≠ .un) : cs[j]? = some (cellAt cs j) := by
  unfold cellAt at *
  cases e : cs[j]? with
  | none => simp [List.getD_eq_getElem?_getD, e] at h
  | some c => simp [List.getD_eq_getElem?_getD, e]
theorem shapeG_cell {ks : List CK} {j : Nat} {cs : List AV} (h : shapeG ks j cs = true) {q : Nat} {k : CK} (hq : ks[q]? = some k) : cs[j + q]? = some (cellAt cs (j + q)) :=
  cellAt_some fun e => by have := shapeG_spec ks j cs h q k hq; rw [e, shapeC_un] at this; cases this
theorem shape_sound {ks : List CK} {j : Nat} {cs : List AV} (h : shapeG ks j cs = true) {vs : List Value} (hl : vs.length = ks.length)
    (hv : ∀ q c u, q < ks.length → cs[j + q]? = some c → vs[q]? = some u → CR μ ρ c u) : CRs μ ρ (shapeV ks j cs) vs := by
  refine ⟨by rw [hl, (shapeV_spec ks j cs).1], fun q u v hu hvq => ?_⟩
  rw [(shapeV_spec ks j cs).2] at hu
  simp only [Option.map_eq_some_iff] at hu
  obtain ⟨k, hk, e⟩ := hu
  subst e
  exact shapeC_sound (shapeG_spec ks j cs h q k hk) (hv q _ v (List.getElem?_eq_some_iff.1 hk).1 (shapeG_cell h hk) hvq)
theorem blk_mode {b : Blk} {x : Bool} (h : (Nat.beq b.mode 0 || x) = false) : b.mode ≠ 0 ∧ x = false := by
  simp only [Bool.or_eq_false_iff] at h
  exact ⟨fun e => by rw [e] at h; exact absurd h.1 (by decide), h.2⟩
theorem obj_cells {l : Nat} {rb : RB} {k : Blk} (hs : SR E μ ρ σ w) (hl : ρ l = some rb) (hp : rb.ph = false) (hk : σ[l]? = some k) (hm : k.mode ≠ 0) (ho : k.obj = true) :
    ∃ cur ty fz, w.heap[rb.b]? = some (.cells cur ty fz) ∧ cur.size = (lget k.xs 0).length ∧ CRs μ ρ (lget k.xs 0) cur.toList ∧ (k.mode = 1 → ty = k.ty ∧ fz = (0, 0) ∧ μ rb.b = none) ∧ rb.csz = rb.sz ∧ rb.sz = (lget k.xs 0).length := by
  have hb := hs.blk l rb k hl hk hm
  obtain ⟨cur, hc⟩ := hb.live hp
  obtain ⟨h1, h2⟩ := hb.one ho
  match hx : k.xs, h1 with
  | [e], _ =>
    have hrow := hc.rowO ho
    rw [hx] at hrow
    have he : e.length = rb.sz := hrow.1 e (by simp)
    have hsz : cur.size = e.length := by rw [hc.size, h2, he]
    have hcrs : CRs μ ρ e cur.toList := by
      refine ⟨by simpa using hsz, fun q u v hu hv => ?_⟩
      obtain ⟨u', h3, h4⟩ := hrow.2 0 e q u rfl hu
      simp only [Nat.zero_mul, Nat.zero_add] at h3
      rw [Array.getElem?_toList, h3] at hv
      injection hv with hv
      exact hv ▸ h4
    rcases hc.at_ with ⟨h3, ⟨fz0, h4, hz⟩, h5⟩ | ⟨h3, ty, fz, h4⟩
    · obtain rfl : fz0 = (0, 0) := hz.elim id fun e => by rw [ho] at e; cases e.1
      exact ⟨cur, _, _, h4, hsz, hcrs, fun _ => ⟨rfl, rfl, h5⟩, h2, he.symm⟩
    · exact ⟨cur, ty, fz, hs.imm _ _ h4, hsz, hcrs, fun e => by omega, h2, he.symm⟩
theorem evLoad_sound {R : Type} {K : AV → Store → Option R} {r : R} {t : TypeId} {a : AV} (h : evLoad P σ K t a = some r) :
    ∃ av, K av σ = some r ∧ ∀ (E : Env) (μ : Mu) (ρ : Rho) (va : Value) (w : World), VR μ ρ a va → SR E μ ρ σ w → ∃ v, (Instr.loadAt t va).run P w = .ok v w ∧ VR μ ρ av v := by
  unfold evLoad at h
  replace h := cond_some' h
  obtain ⟨ht, h⟩ := h
  simp only [Bool.not_eq_false'] at ht
  obtain ⟨⟨d, hd⟩, hlen, hsz, hI⟩ := tyL_spec ht
  have fin : ∀ (μ : Mu) (ρ : Rho) (ad : Addr) (cs : List AV) (vs : List Value) (w : World), CRs μ ρ cs vs → cs.length = P.cellsOf t → (∀ j v, vs[j]? = some v → w.cell? (ad.add j) = some v) →
      ∃ v, (Instr.loadAt t (.pointer (some ad))).run P w = .ok v w ∧ VR μ ρ (mkV (aggT P t) cs) v := fun μ ρ ad cs vs w h1 h2 h3 => by
    refine ⟨valOf (aggT P t) vs, ?_, mkV_sound ht h1 h2⟩
    simp only [Instr.loadAt, Instr.sureAddr, Sem.run_bind, Sem.run_pure, Result.andThen_ok]
    exact run_loadVar ht (h1.1.trans h2) h3
  split at h
  · rename_i l i j
    split at h
    · cases h
    · rename_i b hb
      replace h := cond_some' h
      obtain ⟨hm, h⟩ := h
      have hm : b.mode ≠ 0 := fun e => by rw [e] at hm; cases hm
      cases ho : b.obj with
      | true =>
        rw [ho] at h
        simp only [cond] at h
        replace h := cond_some h
        obtain ⟨hle, h⟩ := h
        simp only [Bool.and_eq_true] at hle
        have hj := Nat.le_of_ble_eq_true hle.1
        have hi := Nat.eq_of_beq_eq_true hle.2
        refine ⟨_, h, fun E μ ρ va w ha hs => ?_⟩
        cases ha with
        | c hx => cases hx with
          | d hd => cases hd
          | @ptr _ _ _ rb hl hp =>
            obtain ⟨cur, ty, fz, h1, h2, h3, _⟩ := obj_cells hs hl hp hb hm ho
            rw [hi, Nat.zero_mul, Nat.zero_add]
            refine fin μ ρ _ _ _ w (h3.sub j (P.cellsOf t)) (by simp; omega) fun q v hq => ?_
            rw [addr_add, cell_of_row w _ _ cur ty fz h1]
            rw [List.getElem?_take] at hq
            split at hq
            · simpa using hq
            · cases hq
      | false =>
        rw [ho] at h
        simp only [cond_false] at h
        rcases Bool.eq_false_or_eq_true (bigT P t b i j) with hbig | hbig
        · rw [hbig] at h
          simp only [cond_true] at h
          obtain ⟨hg, h⟩ := cond_some h
          simp only [Bool.and_eq_true, decide_eq_true_eq] at hg
          simp only [bigT, Bool.and_eq_true] at hbig
          obtain ⟨⟨⟨⟨⟨g1, g2⟩, g3⟩, g4⟩, g5⟩, g6⟩ := hbig
          have g2 := Nat.eq_of_beq_eq_true g2
          have g4 := Nat.eq_of_beq_eq_true g4
          have g5 := Nat.eq_of_beq_eq_true g5
          subst g4; subst g5
          refine ⟨_, h, fun E μ ρ va w ha hs => ?_⟩
          cases ha with
          | c hx => cases hx with
            | d hd => cases hd
            | @ptr _ _ _ rb hl hp =>
              have hbl := hs.blk l rb b hl hb hm
              obtain ⟨cur, hc⟩ := hbl.live hp
              obtain ⟨ty, fz, hheap⟩ := hc.heap hs.imm
              have hrow := hc.rowD ho
              have hs1 : rb.sz = 1 := hbl.sz.trans g2
              have hfit : P.cellsOf t ≤ cur.size := by
                have := hbl.fit
                rw [hs1, Nat.mul_one, hbl.n, hg.1, ← hc.size] at this
                exact this
              have := fin μ ρ ⟨rb.b, 0 * rb.sz + 0, none⟩ (b.xs.map fun e => cellAt e 0) (cur.toList.take (P.cellsOf t)) w ⟨by simp [hg.1, hfit], fun q c u hq hu => ?_⟩ (by simp [hg.1]) fun q v hq => ?_
              · rw [g1] at this; exact this
              · rw [List.getElem?_map, Option.map_eq_some_iff] at hq
                obtain ⟨e, he, hce⟩ := hq
                rw [List.getElem?_take] at hu
                split at hu
                · have h1 := List.all_eq_true.1 hg.2 e (List.mem_of_getElem? he)
                  unfold rowV1 at h1
                  split at h1
                  · rename_i x
                    obtain ⟨u', h2, h3⟩ := hrow.2 q _ 0 (.v x) he rfl
                    rw [hs1, Nat.mul_one, Nat.add_zero] at h2
                    rw [Array.getElem?_toList, h2] at hu
                    injection hu with hu
                    subst hu
                    have : c = .v x := by rw [← hce]; rfl
                    rw [this]
                    exact .d h3
                  · cases h1
                · cases hu
              · rw [addr_add, cell_of_row w _ _ cur ty fz hheap]
                rw [List.getElem?_take] at hq
                split at hq
                · simpa using hq
                · cases hq
        · rw [hbig] at h
          simp only [cond_false] at h
          replace h := cond_some h
          obtain ⟨hg, h⟩ := h
          simp only [Bool.and_eq_true, decide_eq_true_eq] at hg
          refine ⟨_, h, fun E μ ρ va w ha hs => ?_⟩
          cases ha with
          | c hx => cases hx with
            | d hd => cases hd
            | @ptr _ _ _ rb hl hp =>
              have hbl := hs.blk l rb b hl hb hm
              obtain ⟨cur, hc⟩ := hbl.live hp
              obtain ⟨ty, fz, hheap⟩ := hc.heap hs.imm
              have hrow := hc.rowD ho
              have hxi : b.xs[i]? = some (lget b.xs i) := by simp [lget, List.getD_eq_getElem?_getD, List.getElem?_eq_getElem hg.1]
              let vs := (cur.toList.drop (i * rb.sz + j)).take (P.cellsOf t)
              have hcell : ∀ q, q < P.cellsOf t → ∃ u, cur[i * rb.sz + j + q]? = some u ∧ CR μ ρ (cellAt (lget b.xs i) (j + q)) u := fun q hq => by
                have hkq : (cks P t)[q]? = some (cks P t)[q] := List.getElem?_eq_getElem (by omega)
                obtain ⟨u, h1, h2⟩ := hrow.2 i _ (j + q) _ hxi (shapeG_cell hg.2 hkq)
                rw [← Nat.add_assoc] at h1
                exact ⟨u, h1, .d h2⟩
              have hvs : ∀ q, q < P.cellsOf t → vs[q]? = cur[i * rb.sz + j + q]? := fun q hq => by
                simp [vs, List.getElem?_take, hq]
              have hvl : vs.length = P.cellsOf t := by
                rcases Nat.eq_zero_or_pos (P.cellsOf t) with e | e
                · simp [vs, e]
                · obtain ⟨u, h1, _⟩ := hcell (P.cellsOf t - 1) (by omega)
                  have := (Array.getElem?_eq_some_iff.1 h1).1
                  simp [vs]; omega
              refine fin μ ρ _ _ vs w (shape_sound hg.2 (by rw [hvl, hlen]) fun q c u hq hcq huq => ?_) (by rw [(shapeV_spec _ _ _).1, hlen]) fun q v hq => ?_
              · obtain ⟨u', h1, h2⟩ := hcell q (by omega)
                rw [hvs q (by omega), h1] at huq
                injection huq with huq
                have hcc : cellAt (lget b.xs i) (j + q) = c := by simp [cellAt, List.getD_eq_getElem?_getD, hcq]
                rw [← huq, ← hcc]; exact h2
              · have hq' : q < P.cellsOf t := by rw [← hvl]; exact (List.getElem?_eq_some_iff.1 hq).1
                rw [addr_add, cell_of_row w _ _ cur ty fz hheap, ← hvs q hq']
                exact hq
  · rename_i l j n i
    split at h
    · cases h
    · rename_i b hb
      replace h := cond_some' h
      obtain ⟨hm, h⟩ := h
      simp only [Bool.or_eq_false_iff, Bool.not_eq_false'] at hm
      obtain ⟨⟨⟨h1, ho⟩, hag⟩, hle⟩ := hm
      have hm : b.mode ≠ 0 := fun e => by rw [e] at h1; cases h1
      have hle := Nat.le_of_ble_eq_true hle
      refine ⟨_, h, fun E μ ρ va w ha hs => ?_⟩
      cases ha with
      | c hx => cases hx with
        | d hd => cases hd
        | @px _ _ _ _ rb hl hp hi =>
          obtain ⟨cur, ty, fz, h1, h2, h3, _⟩ := obj_cells hs hl hp hb hm ho
          have hlt : j + i < (lget b.xs 0).length := by omega
          have hltv : j + i < cur.toList.length := by rw [h3.1]; exact hlt
          rw [avSel_eq i _ 0 (Nat.zero_le _) (by simp; omega), Nat.sub_zero]
          have hc : (((lget b.xs 0).drop j).take n).getD i .un = (lget b.xs 0)[j + i] := by
            simp [List.getD_eq_getElem?_getD, List.getElem?_take, hi, List.getElem?_eq_getElem hlt]
          rw [hc]
          refine ⟨cur.toList[j + i], ?_, .c (h3.2 _ _ _ (List.getElem?_eq_getElem hlt) (List.getElem?_eq_getElem hltv))⟩
          have hone : P.cellsOf t = 1 := by
            rcases hsz with e | e
            · rw [hag] at e; cases e
            · exact e
          have := run_loadVar (w := w) ht (a := ⟨rb.b, j + i, none⟩) (vs := [cur.toList[j + i]]) (by simp [hone]) (fun q v hq => by
            cases q with
            | zero =>
              simp only [List.getElem?_cons_zero, Option.some.injEq] at hq
              rw [addr_add, cell_of_row w _ _ cur ty fz h1, ← hq]
              simp at hltv ⊢
            | succ q => simp at hq)
          rw [hag] at this
          simp only [Instr.loadAt, Instr.sureAddr, Sem.run_bind, Sem.run_pure, Result.andThen_ok]
          exact this
  · rename_i cs off
    replace h := cond_some h
    obtain ⟨hg, h⟩ := h
    refine ⟨_, h, fun E μ ρ va w ha hs => ?_⟩
    cases ha with
    | c hx => cases hx with
      | d hd => cases hd with
        | @ep _ _ b o vals hcell hv =>
          have hq : ∀ q, q < P.cellsOf t → off + q < cs.length := fun q hq => by
            have hkq : (cks P t)[q]? = some (cks P t)[q] := List.getElem?_eq_getElem (by omega)
            exact (List.getElem?_eq_some_iff.1 (shapeG_cell hg hkq)).1
          refine fin μ ρ _ _ ((List.range (P.cellsOf t)).map fun q => vals (off + q)) w (shape_sound hg (by simp [hlen]) fun q c u hql hcq huq => ?_) (by rw [(shapeV_spec _ _ _).1, hlen]) fun q v hvq => ?_
          · have hq' : q < P.cellsOf t := by omega
            simp only [List.getElem?_map, List.getElem?_range hq', Option.map_some, Option.some.injEq] at huq
            rw [← huq]
            exact .d (hv _ _ hcq)
          · have hq' : q < P.cellsOf t := by have := (List.getElem?_eq_some_iff.1 hvq).1; simpa using this
            simp only [List.getElem?_map, List.getElem?_range hq', Option.map_some, Option.some.injEq] at hvq
            rw [addr_add, Nat.add_assoc, ← hvq]
            exact muCell_cell hs.imm (hcell _ (hq q hq'))
  · cases h
end
end Go.Ev
namespace Go.Ev
variable [Gl]
theorem Addr.add_add' (a : Addr) (m n : Nat) : (a.add m).add n = a.add (m + n) := by
  unfold Addr.add
  split
  · rename_i h; subst h; simp
  · split
    · rename_i h1 h2; subst h2; rw [if_neg (by omega)]; simp
    · rw [if_neg (by omega)]; simp [Nat.add_assoc]
section
variable {P : Program} {E : Env} {μ : Mu} {ρ : Rho} {σ : Store} {w : World}
theorem sl_view {a : AV} {xs : List (List AV)} {v : Value} (h : slXs σ a = some xs) (hv : VR μ ρ a v) (hs : SR E μ ρ σ w) :
    ∃ nil sz A c news, v = .slice A xs.length c ∧ SV μ w nil sz xs A c news := by
  unfold slXs at h
  split at h
  · injection h with h; subst h
    cases hv with
    | c hx => cases hx with
      | d hd =>
        obtain ⟨A, c, news, h1, h2⟩ := hd.view hs.imm
        exact ⟨_, _, A, c, news, h1, h2⟩
  · split at h
    · cases h
    · rename_i b hb
      replace h := cond_some' h
      obtain ⟨hm, h⟩ := h
      obtain ⟨hm, ho⟩ := blk_mode hm
      injection h with h; subst h
      cases hv with
      | c hx =>
        obtain ⟨A, c, news, h1, h2, _⟩ := hx.slView hs hb hm ho
        exact ⟨_, _, A, c, news, h1, h2⟩
  · cases h
theorem slLen_view {a : AV} {n : Nat} {v : Value} (h : slLen σ a = some n) (hv : VR μ ρ a v) (hs : SR E μ ρ σ w) : ∃ A c, v = .slice A n c := by
  unfold slLen at h
  split at h
  · injection h with h; subst h
    cases hv with
    | c hx => cases hx with
      | d hd => cases hd; exact ⟨_, _, rfl⟩
  · rename_i l off cut
    split at h
    · cases h
    · rename_i b hb
      replace h := cond_some' h
      obtain ⟨hm, h⟩ := h
      obtain ⟨hm, ho⟩ := blk_mode hm
      injection h with h
      cases hv with
      | c hx =>
        cases hx with
        | d hd => cases hd
        | @sl _ _ _ rb a len cap hl hp ha hlen hoff hcap hcsz =>
          refine ⟨some a, cap, ?_⟩
          rw [← h, hlen, (hs.blk l rb b hl hb hm).n]
          cases cut <;> rfl
        | @sln _ _ _ rb hl hn hoff hcut =>
          refine ⟨none, 0, ?_⟩
          have hx : b.xs.length = 0 := by rw [← (hs.blk l rb b hl hb hm).n]; exact hn
          cases cut with
          | none => simp only at h; rw [hx] at h; simp at h; rw [← h]
          | some m => simp only at h; rw [← h, hcut m rfl]
  · cases h
theorem evLen_sound {R : Type} {K : AV → Store → Option R} {r : R} {t : TypeId} {a : AV} (h : evLen P σ K t a = some r) :
    ∃ av, K av σ = some r ∧ ∀ (E : Env) (μ : Mu) (ρ : Rho) (va : Value) (ty : TypeId) (w : World), VR μ ρ a va → SR E μ ρ σ w → ∃ v, (Builtin.len_ #[t] ty #[va]).run P w = .ok v w ∧ VR μ ρ av v := by
  unfold evLen at h
  split at h
  · rename_i s hu
    refine ⟨_, h, fun E μ ρ va ty w ha hs => ?_⟩
    have := ha.v_eq; subst this
    exact ⟨_, by simp [Builtin.len_, run_underlying hu, goInt], .int _ _⟩
  · rename_i n e hu
    exact ⟨_, h, fun E μ ρ va ty w ha hs => ⟨_, by simp [Builtin.len_, run_underlying hu, goInt], .int _ _⟩⟩
  · rename_i e hu
    split at h
    · rename_i n e' hu'
      exact ⟨_, h, fun E μ ρ va ty w ha hs => ⟨_, by simp [Builtin.len_, run_underlying hu, run_underlying hu', goInt], .int _ _⟩⟩
    · cases h
  · rename_i e hu
    split at h
    · rename_i n hn
      refine ⟨_, h, fun E μ ρ va ty w ha hs => ?_⟩
      obtain ⟨A, c, hva⟩ := slLen_view hn ha hs
      subst hva
      exact ⟨_, by simp [Builtin.len_, run_underlying hu, goInt], .int _ _⟩
    · cases h
  · cases h
theorem optI_spec {o : Option AV} {x : Option Int} (h : optI o = some x) {vo : Option Value} (hv : ∀ a, o = some a → ∃ v, vo = some v ∧ VR μ ρ a v) (hn : o = none → vo = none) :
    (x = none ∧ vo = none) ∨ ∃ k n, x = some n ∧ vo = some (.int k n) := by
  cases o with
  | none => simp [optI] at h; exact .inl ⟨h.symm, hn rfl⟩
  | some a =>
    obtain ⟨v, h1, h2⟩ := hv a rfl
    unfold optI at h
    split at h
    · rename_i e; cases e
    · rename_i k n e
      injection e with e; subst e
      injection h with h
      have := h2.v_eq; subst this
      exact .inr ⟨k, n, h.symm, h1⟩
    · cases h
theorem run_sliceBounds {len cap : Nat} {isS : Bool} {lo hi : Option Int} {vlo vhi : Option Value} (h1 : (lo = none ∧ vlo = none) ∨ ∃ k n, lo = some n ∧ vlo = some (.int k n))
    (h2 : (hi = none ∧ vhi = none) ∨ ∃ k n, hi = some n ∧ vhi = some (.int k n)) (hc : len ≤ cap) (l0 : 0 ≤ lo.getD 0) (lh : lo.getD 0 ≤ hi.getD (len : Int)) (hl : hi.getD (len : Int) ≤ (len : Int)) :
    (Instr.sliceBounds isS len cap vlo vhi none).run P w = .ok ((lo.getD 0).toNat, (hi.getD (len : Int)).toNat, cap) w := by
  rcases h1 with ⟨e, e'⟩ | ⟨k, n, e, e'⟩ <;> rcases h2 with ⟨f, f'⟩ | ⟨k', n', f, f'⟩ <;> subst e <;> subst e' <;> subst f <;> subst f' <;>
    simp only [Option.getD_some, Option.getD_none] at l0 lh hl ⊢
  · simp only [Instr.sliceBounds, Sem.run_bind, Sem.run_pure, Result.andThen_ok, Int.toNat_zero, Int.toNat_natCast]
  · have c1 : 0 ≤ n' ∧ n' ≤ (cap : Int) := ⟨by omega, by omega⟩
    simp only [Instr.sliceBounds, Instr.sliceBound, asIntOf, Sem.run_bind, Sem.run_pure, Result.andThen_ok, Int.toNat_zero, Sem.run_ite, if_pos c1]
  · have c1 : 0 ≤ n ∧ n ≤ (len : Int) := ⟨by omega, by omega⟩
    simp only [Instr.sliceBounds, Instr.sliceBound, asIntOf, Sem.run_bind, Sem.run_pure, Result.andThen_ok, Int.toNat_natCast, Sem.run_ite, if_pos c1]
  · have c1 : 0 ≤ n' ∧ n' ≤ (cap : Int) := ⟨by omega, by omega⟩
    have c2 : 0 ≤ n ∧ n ≤ (n'.toNat : Int) := ⟨by omega, by omega⟩
    simp only [Instr.sliceBounds, Instr.sliceBound, asIntOf, Sem.run_bind, Sem.run_pure, Result.andThen_ok, Sem.run_ite, if_pos c1, if_pos c2]
theorem DR.cut {nil : Bool} {sz : Nat} {xs : List (List AV)} {A : Option Addr} {n c l h : Nat} (hd : DR μ (.lst nil sz xs) (.slice A n c)) (hl : l ≤ h) (hh : h ≤ xs.length) :
    DR μ (.lst nil sz ((xs.drop l).take (h - l))) (.slice (if c = l then A else A.map (·.add (l * sz))) (h - l) (c - l)) := by
  cases hd with
  | lst vals hnil hA hc hsz hcell hv =>
    have hlen : ((xs.drop l).take (h - l)).length = h - l := by simp; omega
    have hmem : ∀ e ∈ (xs.drop l).take (h - l), e ∈ xs := fun e he => List.mem_of_mem_drop (List.mem_of_mem_take he)
    have hget : ∀ (k : Nat) e, ((xs.drop l).take (h - l))[k]? = some e → xs[l + k]? = some e := fun k e he => by
      rw [List.getElem?_take] at he
      split at he
      · simpa using he
      · cases he
    have : (Value.slice (if c = l then A else A.map (·.add (l * sz))) (h - l) (c - l)) = .slice (if c = l then A else A.map (·.add (l * sz))) ((xs.drop l).take (h - l)).length (c - l) := by rw [hlen]
    rw [this]
    by_cases hcl : c = l
    · have h0 : h - l = 0 := by omega
      have he : (xs.drop l).take (h - l) = [] := by rw [h0]; simp
      rw [he, if_pos hcl]
      exact .lst (xs := []) (fun _ _ => undef) hnil (fun e => ⟨rfl, by have := (hA e).2; omega⟩) (Nat.zero_le _) (fun e he => by cases he) (fun a ha k j hk => absurd hk (Nat.not_lt_zero _)) (fun k e j u he => by simp at he)
    · rw [if_neg hcl]
      refine .lst (fun k j => vals (l + k) j) ?_ (fun e => ?_) (by rw [hlen]; omega) (fun e he => hsz e (hmem e he)) (fun a ha k j hk hj => ?_) (fun k e j u he hu => hv (l + k) e j u (hget k e he) hu)
      · cases A <;> simpa using hnil
      · cases A with
        | none =>
          obtain ⟨h1, h2⟩ := hA rfl
          subst h1; subst h2
          simp at hh ⊢
        | some a => cases e
      · cases A with
        | none => cases ha
        | some a0 =>
          simp only [Option.map_some, Option.some.injEq] at ha
          subst ha
          rw [Addr.add_add', ← Nat.add_assoc, ← Nat.add_mul]
          exact hcell a0 rfl (l + k) j (by rw [hlen] at hk; omega) hj
theorem CR.cut {nil : Bool} {b off : Nat} {cut cut' : Option Nat} {A : Option Addr} {n c l h sz : Nat} {k : Blk} (hd : CR μ ρ (.sl nil b off cut) (.slice A n c)) (hs : SR E μ ρ σ w) (hk : σ[b]? = some k) (hm : k.mode ≠ 0) (hsz : k.sz = sz)
    (hl : l ≤ h) (hh : h ≤ n) (hcut : cut' = some (h - l) ∨ (h = n ∧ cut' = cutR (n - l) cut)) :
    CR μ ρ (.sl nil b (off + l) cut') (.slice (if c = l then A else A.map (·.add (l * sz))) (h - l) (c - l)) := by
  cases hd with
  | d hx => cases hx
  | @sl _ _ _ rb a _ _ hb hp ha hlen hoff hcap hcsz =>
    have hbs := (hs.blk b rb k hb hk hm).sz
    have hlen' : h - l = cutN rb.n (off + l) cut' := by
      rcases hcut with e | ⟨e1, e2⟩
      · subst e; rfl
      · subst e2
        cases cut with
        | none => simp only [cutN, cutR] at hlen ⊢; omega
        | some m => simp only [cutN, cutR]; omega
    by_cases hcl : c = l
    · rw [if_pos hcl]
      refine .sl hb hp ?_ hlen' (by omega) (by omega) (by rw [← hcsz]; congr 1; omega)
      by_cases e : off + l = 0
      · left
        rcases ha with ha | ⟨_, ha⟩
        · rw [ha]
          have h1 : off = 0 := by omega
          have h2 : l = 0 := by omega
          rw [h1, h2]
        · omega
      · exact .inr ⟨by omega, by omega⟩
    · rw [if_neg hcl]
      refine .sl hb hp ?_ hlen' (by omega) (by omega) (by rw [← hcsz]; congr 1; omega)
      left
      rcases ha with ha | ⟨ha, _⟩
      · simp only []
        rw [ha, addr_add, ← hsz, ← hbs, Nat.add_mul]
      · omega
  | @sln _ _ _ rb hb hn ho hcut0 =>
    have h1 : l = 0 := by omega
    have h2 : h = 0 := by omega
    subst h1; subst h2
    simp only [Nat.sub_self, if_true, Nat.add_zero]
    refine .sln hb hn ho fun m hm' => ?_
    rcases hcut with e | ⟨_, e⟩
    · rw [e] at hm'; injection hm' with hm'; exact hm'.symm
    · rw [e] at hm'
      cases cut with
      | none => cases hm'
      | some x => injection hm' with hm'; exact hm'.symm
theorem run_sliceAt_slice {t e : TypeId} (hu : P.underlying t = some (.slice e)) (hI : (P.info? e).isSome = true) {A : Option Addr} {n c : Nat} {lo hi : Option Int} {vlo vhi : Option Value}
    (h1 : (lo = none ∧ vlo = none) ∨ ∃ k n, lo = some n ∧ vlo = some (.int k n)) (h2 : (hi = none ∧ vhi = none) ∨ ∃ k n, hi = some n ∧ vhi = some (.int k n)) (hc : n ≤ c)
    (l0 : 0 ≤ lo.getD 0) (lh : lo.getD 0 ≤ hi.getD (n : Int)) (hl : hi.getD (n : Int) ≤ (n : Int)) :
    (Instr.sliceAt t (.slice A n c) vlo vhi none).run P w =
      .ok (.slice (if c = (lo.getD 0).toNat then A else A.map (·.add ((lo.getD 0).toNat * P.cellsOf e))) ((hi.getD (n : Int)).toNat - (lo.getD 0).toNat) (c - (lo.getD 0).toNat)) w := by
  simp only [Instr.sliceAt, Sem.run_bind, run_underlying hu, Result.andThen_ok, Instr.slice, run_sliceBounds h1 h2 hc l0 lh hl, run_sizeOf' hI, Sem.run_pure]
theorem evSlice_sound {R : Type} {K : AV → Store → Option R} {r : R} {t : TypeId} {a : AV} {lo hi : Option AV} (h : evSlice P σ K t a lo hi = some r) :
    ∃ av, K av σ = some r ∧ ∀ (E : Env) (μ : Mu) (ρ : Rho) (va : Value) (vlo vhi : Option Value) (w : World), VR μ ρ a va → (∀ a, lo = some a → ∃ v, vlo = some v ∧ VR μ ρ a v) → (lo = none → vlo = none) →
      (∀ a, hi = some a → ∃ v, vhi = some v ∧ VR μ ρ a v) → (hi = none → vhi = none) → SR E μ ρ σ w → ∃ v, (Instr.sliceAt t va vlo vhi none).run P w = .ok v w ∧ VR μ ρ av v := by
  unfold evSlice at h
  split at h
  · rename_i s l h' hu hlo hhi
    replace h := cond_some h
    obtain ⟨hb, h⟩ := h
    simp only [Bool.and_eq_true, decide_eq_true_eq] at hb
    refine ⟨_, h, fun E μ ρ va vlo vhi w ha h1 h2 h3 h4 hs => ?_⟩
    have := ha.v_eq; subst this
    refine ⟨_, ?_, .str _⟩
    simp only [Instr.sliceAt, Sem.run_bind, run_underlying hu, Result.andThen_ok, Instr.slice, Option.isSome_none, Bool.false_eq_true, if_false, Sem.run_pure,
      run_sliceBounds (optI_spec hlo h1 h2) (optI_spec hhi h3 h4) (Nat.le_refl s.size) hb.1.1 hb.1.2 hb.2]
  · rename_i e nil sz xs l h' hu hlo hhi
    replace h := cond_some' h
    obtain ⟨hz, h⟩ := h
    simp only [Bool.not_eq_false', Bool.and_eq_true] at hz
    have hsz := Nat.eq_of_beq_eq_true hz.1
    have key : ∀ (ys : List (List AV)), K (.lst nil sz ys) σ = some r → 0 ≤ l.getD 0 → l.getD 0 ≤ h'.getD (xs.length : Int) → h'.getD (xs.length : Int) ≤ (xs.length : Int) →
        ys = (xs.drop (l.getD 0).toNat).take ((h'.getD (xs.length : Int)).toNat - (l.getD 0).toNat) → ∃ av, K av σ = some r ∧ ∀ (E : Env) (μ : Mu) (ρ : Rho) (va : Value) (vlo vhi : Option Value) (w : World), VR μ ρ (.lst nil sz xs) va → (∀ a, lo = some a → ∃ v, vlo = some v ∧ VR μ ρ a v) → (lo = none → vlo = none) →
      (∀ a, hi = some a → ∃ v, vhi = some v ∧ VR μ ρ a v) → (hi = none → vhi = none) → SR E μ ρ σ w → ∃ v, (Instr.sliceAt t va vlo vhi none).run P w = .ok v w ∧ VR μ ρ av v := fun ys hk l0 lh hl hys => by
      refine ⟨_, hk, fun E μ ρ va vlo vhi w ha h1 h2 h3 h4 hs => ?_⟩
      cases ha with
      | c hx => cases hx with
        | d hd =>
          have hd0 := hd
          cases hd with
          | @lst _ _ _ A c vals hnil hA hc hsz' hcell hv =>
            refine ⟨_, run_sliceAt_slice hu hz.2 (optI_spec hlo h1 h2) (optI_spec hhi h3 h4) hc l0 lh hl, ?_⟩
            rw [hys, ← hsz]
            exact .c (.d (hd0.cut (by omega) (by omega)))
    split at h
    · exact key _ h (by simp) (by simp) (by simp) (by simp)
    · replace h := cond_some h
      obtain ⟨hb, h⟩ := h
      simp only [Bool.and_eq_true, decide_eq_true_eq] at hb
      exact key _ h hb.1 hb.2 (by simp) (by simp [List.take_of_length_le])
    · replace h := cond_some h
      obtain ⟨hb, h⟩ := h
      simp only [Bool.and_eq_true, decide_eq_true_eq] at hb
      exact key _ h (by simp) hb.1 hb.2 (by simp)
    · replace h := cond_some h
      obtain ⟨hb, h⟩ := h
      simp only [Bool.and_eq_true, decide_eq_true_eq] at hb
      exact key _ h hb.1.1 hb.1.2 hb.2 (by simp)
  · rename_i e nil i off cut l h' hu hlo hhi
    split at h
    · rename_i n b hn hb
      replace h := cond_some' h
      obtain ⟨hz, h⟩ := h
      simp only [Bool.not_eq_false', Bool.and_eq_true] at hz
      have hsz := Nat.eq_of_beq_eq_true hz.1
      have hm : b.mode ≠ 0 := by
        simp only [slLen, hb] at hn
        exact (blk_mode (cond_some' hn).1).1
      have key : ∀ (lo' : Nat) (cut' : Option Nat), K (.sl nil i lo' cut') σ = some r → 0 ≤ l.getD 0 → l.getD 0 ≤ h'.getD (n : Int) → h'.getD (n : Int) ≤ (n : Int) → lo' = off + (l.getD 0).toNat →
        (cut' = some ((h'.getD (n : Int)).toNat - (l.getD 0).toNat) ∨ ((h'.getD (n : Int)).toNat = n ∧ cut' = cutR (n - (l.getD 0).toNat) cut)) →
        ∃ av, K av σ = some r ∧ ∀ (E : Env) (μ : Mu) (ρ : Rho) (va : Value) (vlo vhi : Option Value) (w : World), VR μ ρ (.sl nil i off cut) va → (∀ a, lo = some a → ∃ v, vlo = some v ∧ VR μ ρ a v) → (lo = none → vlo = none) →
      (∀ a, hi = some a → ∃ v, vhi = some v ∧ VR μ ρ a v) → (hi = none → vhi = none) → SR E μ ρ σ w → ∃ v, (Instr.sliceAt t va vlo vhi none).run P w = .ok v w ∧ VR μ ρ av v := fun lo' cut' hk l0 lh hl hlo' hcut' => by
        refine ⟨_, hk, fun E μ ρ va vlo vhi w ha h1 h2 h3 h4 hs => ?_⟩
        obtain ⟨A, c, hva⟩ := slLen_view hn ha hs
        subst hva
        cases ha with
        | c hx =>
          have hc : n ≤ c := by
            cases hx with
            | d hd => cases hd
            | sl _ _ _ _ _ hcap => exact hcap
            | sln => exact Nat.le_refl _
          refine ⟨_, run_sliceAt_slice hu hz.2 (optI_spec hlo h1 h2) (optI_spec hhi h3 h4) hc l0 lh hl, ?_⟩
          rw [hlo']
          exact .c (hx.cut hs hb hm hsz (by omega) (by omega) hcut')
      split at h
      · refine key _ _ h (by simp) (by simp) (by simp) (by simp) (.inr ⟨by simp, ?_⟩)
        cases cut with
        | none => rfl
        | some m =>
          simp only [slLen, hb] at hn
          have := (cond_some' hn).2
          simp at this
          simp [this, cutR]
      · replace h := cond_some h
        obtain ⟨hb', h⟩ := h
        simp only [Bool.and_eq_true, decide_eq_true_eq] at hb'
        exact key _ _ h hb'.1 hb'.2 (by simp) (by simp) (.inr ⟨by simp, by cases cut <;> rfl⟩)
      · replace h := cond_some h
        obtain ⟨hb', h⟩ := h
        simp only [Bool.and_eq_true, decide_eq_true_eq] at hb'
        exact key _ _ h (by simp) hb'.1 hb'.2 (by simp) (.inl (by simp))
      · replace h := cond_some h
        obtain ⟨hb', h⟩ := h
        simp only [Bool.and_eq_true, decide_eq_true_eq] at hb'
        exact key _ _ h hb'.1.1 hb'.1.2 hb'.2 (by simp) (.inl (by simp))
    · cases h
  · cases h
end
end Go.Ev
