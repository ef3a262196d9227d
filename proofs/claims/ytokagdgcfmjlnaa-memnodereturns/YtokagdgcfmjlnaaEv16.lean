/- Copying and writing, against the store. -/
import Derived.Test.YtokagdgcfmjlnaaEv15
set_option linter.all false
namespace Go.Ev

section
variable {P : Program} {E : Env} {μ : Mu} {ρ : Rho} {σ : Store} {w : World}

theorem grow_same {q : Bool} {n : Nat} {w' : World} (hk : q = true → ∀ b, b < w.heap.size → w'.heap[b]? = w.heap[b]?) (hz : w.heap.size ≤ w'.heap.size) : Grow q μ ρ n w μ ρ n w' :=
  ⟨MuLe.refl μ, RhoLe.refl ρ, Nat.le_refl n, fun _ _ h => .inl h, hk, hz, fun _ _ _ h => .inl h⟩

theorem set_self {α : Type} {σ : List α} {l : Nat} {k : α} (h : σ[l]? = some k) : σ.set l k = σ := by
  apply List.ext_getElem?
  intro m
  rw [List.getElem?_set]
  split
  · rename_i e; subst e
    rw [h]
    split
    · rfl
    · rename_i e2; rw [List.getElem?_eq_none (by omega)] at h; cases h
  · rfl

theorem cond_or {α : Type} {b : Bool} {x y : Option α} {r : α} (h : cond b x y = some r) : (b = true ∧ x = some r) ∨ (b = false ∧ y = some r) := by
  cases b with
  | true => exact .inl ⟨rfl, h⟩
  | false => exact .inr ⟨rfl, h⟩

def stAt (A : Option Addr) (vs : List Value) : Sem Unit :=
  match A with
  | some a => storeCells a vs
  | none => pure ()

theorem evCopy_sound {R : Type} {K : AV → Store → Option R} {r : R} {t t2 : TypeId} {d s : AV} (h : evCopy P σ K t d s = some r) :
    ∃ av σ', K av σ' = some r ∧ σ.length ≤ σ'.length ∧ ∀ (E : Env) (μ : Mu) (ρ : Rho) (vd vs : Value) (ty : TypeId) (w : World), VR μ ρ d vd → VR μ ρ s vs → SR E μ ρ σ w →
      ∃ v w', (Builtin.copy_ #[t, t2] ty #[vd, vs]).run P w = .ok v w' ∧ Grow false μ ρ σ.length w μ ρ σ'.length w' ∧ VR μ ρ av v ∧ SR E μ ρ σ' w' := by
  unfold evCopy at h
  split at h
  · rename_i e hu
    split at h
    · rename_i ysz ys nil l off cut hx
      split at h
      · rename_i b n hb hn
        replace h := cond_some h
        obtain ⟨hc, h⟩ := h
        simp only [Bool.and_eq_true, Bool.not_eq_true'] at hc
        obtain ⟨⟨⟨⟨hm, ho⟩, hbs⟩, hysz⟩, hpos⟩ := hc
        have hm := Nat.eq_of_beq_eq_true hm
        have hbs := Nat.eq_of_beq_eq_true hbs
        have hpos : 0 < P.cellsOf e := by simpa [Nat.blt_eq] using hpos
        simp only [Bool.or_eq_true] at hysz
        have hysz : P.cellsOf e = ysz ∨ ys = [] := by
          rcases hysz with e | e
          · exact .inl (Nat.eq_of_beq_eq_true e).symm
          · exact .inr (by simpa using e)
        have hI : (P.info? e).isSome = true := by
          cases hi : P.info? e with
          | none => simp [Program.cellsOf, hi] at hpos
          | some i => rfl
        refine ⟨_, _, h, by simp, fun E μ ρ vd vs ty w ha hbx hs => ?_⟩
        obtain ⟨news, hlen, hnl, hrow, hfc⟩ := app_view (P := P) hx hbx hs
        obtain ⟨A, c, hva⟩ := slLen_view hn ha hs
        subst hva
        have hm0 : min ys.length n ≤ ys.length := Nat.min_le_left _ _
        have hmn : min ys.length n ≤ n := Nat.min_le_right _ _
        have hY : RowD μ (P.cellsOf e) (ys.take (min ys.length n)) (news.take (min ys.length n * P.cellsOf e)).toArray := by
          rcases hysz with e1 | e1
          · rw [e1]; exact hrow.take' _
          · subst e1; simpa using RowD.nil
        have hYl : (news.take (min ys.length n * P.cellsOf e)).length = (ys.take (min ys.length n)).length * P.cellsOf e := by
          rw [List.length_take, List.length_take, hnl]
          rcases hysz with e1 | e1
          · rw [e1, Nat.min_eq_left (Nat.mul_le_mul_right _ hm0), Nat.min_eq_left hm0]
          · subst e1; simp
        have hYl' : (ys.take (min ys.length n)).length = min ys.length n := by rw [List.length_take, Nat.min_eq_left hm0]
        have hrun : ∀ w' : World, (stAt A (news.take (min ys.length n * P.cellsOf e))).run P w = .ok () w' →
            (Builtin.copy_ #[t, t2] ty #[.slice A n c, vs]).run P w = .ok (.int .i64 ((min ys.length n : Nat) : Int)) w' := fun w' hst => by
          have hf := hfc (P.cellsOf e) (min ys.length n) w hysz hm0 rfl
          cases A with
          | none =>
            simp only [stAt, Sem.run_pure, Result.ok.injEq, true_and] at hst; subst hst
            simp [Builtin.copy_, run_underlying hu, hlen, run_sizeOf' hI, hf, goInt]
          | some a =>
            simp only [stAt] at hst
            simp [Builtin.copy_, run_underlying hu, hlen, run_sizeOf' hI, hf, goInt, hst]
        by_cases hz : min ys.length n = 0
        · have hn0 : news.take (min ys.length n * P.cellsOf e) = [] := by rw [hz]; simp
          have hst : (stAt A (news.take (min ys.length n * P.cellsOf e))).run P w = .ok () w := by
            rw [hn0]; cases A <;> simp [stAt, storeCells]
          have hsame : ({ b with xs := b.xs.take off ++ ys.take (min ys.length n) ++ b.xs.drop (off + min ys.length n) } : Blk) = b := by
            rw [hz]; simp
          rw [hsame, set_self hb]
          exact ⟨_, w, hrun w hst, grow_same (fun _ _ _ => rfl) (Nat.le_refl _), .int _ _, hs⟩
        · cases ha with
          | c hx => cases hx with
            | d hd => cases hd
            | sln => omega
            | @sl _ _ _ rb a _ _ hl hp ha hlen' hoff' hcap hcsz =>
              have hbl := hs.blk l rb b hl hb (by omega)
              obtain ⟨cur, hc⟩ := hbl.live hp
              obtain ⟨fz, hheap, hfz⟩ : Has w rb.b cur b.ty b.obj := by
                rcases hc.at_ with ⟨_, h2, _⟩ | ⟨h3, _⟩
                · exact h2
                · omega
              have ha' : a = ⟨rb.b, off * rb.sz, none⟩ := by
                rcases ha with e1 | ⟨e1, _⟩
                · exact e1
                · omega
              subst ha'
              have hsz : rb.sz = P.cellsOf e := hbl.sz.trans hbs
              have hrb := hc.rowD ho
              rw [hsz] at hrb
              have hnx : off + n ≤ b.xs.length := by rw [← hbl.n]; exact hoff'
              have hfit : b.xs.length * P.cellsOf e ≤ cur.size := by rw [hc.size, ← hsz, ← hbl.n]; exact hbl.fit
              have hfit2 : off * P.cellsOf e + min ys.length n * P.cellsOf e ≤ cur.size := by
                rw [← Nat.add_mul]; exact Nat.le_trans (Nat.mul_le_mul_right _ (by omega)) hfit
              have hYl2 : (news.take (min ys.length n * P.cellsOf e)).length = min ys.length n * P.cellsOf e := by rw [hYl, hYl']
              have hst := run_storeCells_fz P rb.b (off * P.cellsOf e) b.ty b.obj fz (news.take (min ys.length n * P.cellsOf e)) 0 cur w hheap hfz (by rw [hYl2]; simpa using hfit2) (hY.list hYl)
              simp only [Nat.add_zero, hYl2] at hst
              have hrow' : RowD μ (P.cellsOf e) (b.xs.take off ++ ys.take (min ys.length n) ++ b.xs.drop (off + min ys.length n))
                  (cur.toList.take (off * P.cellsOf e) ++ news.take (min ys.length n * P.cellsOf e) ++ cur.toList.drop (off * P.cellsOf e + min ys.length n * P.cellsOf e)).toArray := by
                have l1 : (cur.toList.take (off * P.cellsOf e)).length = (b.xs.take off).length * P.cellsOf e := by
                  rw [List.length_take, List.length_take, Array.length_toList, Nat.min_eq_left (by omega), Nat.min_eq_left (by omega)]
                have h12 := (hrb.take off).app l1 hY (L3 := [])
                rw [List.append_nil] at h12
                have h123 := h12.app (by rw [List.length_append, List.length_append, l1, hYl, Nat.add_mul]) (hrb.drop (off + min ys.length n)) (L3 := [])
                rw [List.append_nil, Nat.add_mul] at h123
                exact h123
              have hs' := hs.write hl hb hm hp (b.xs.take off ++ ys.take (min ys.length n) ++ b.xs.drop (off + min ys.length n)) cur
                (cur.toList.take (off * P.cellsOf e) ++ news.take (min ys.length n * P.cellsOf e) ++ cur.toList.drop (off * P.cellsOf e + min ys.length n * P.cellsOf e)).toArray ⟨fz, hheap, hfz⟩ hc.size
                (by rw [← hc.size]; simp only [List.size_toArray, List.length_append, hYl2, List.length_take, List.length_drop, Array.length_toList]; omega)
                (by simp only [List.length_append, hYl', List.length_take, List.length_drop]; omega) (fun _ => by rw [hsz]; exact hrow') (fun e => absurd e (by simp [ho]))
              refine ⟨_, _, hrun _ (by simp only [stAt, hsz]; exact hst), by simp only [List.length_set]; exact grow_same (fun e => by cases e) (by simp), .int _ _, hs'⟩
      · cases h
    · cases h
  · cases h

theorem grow_len {q : Bool} {μ' : Mu} {ρ' : Rho} {n n' m m' : Nat} {w' : World} (g : Grow q μ ρ n w μ' ρ' n' w') (e : m = n) (e' : m' = n') : Grow q μ ρ m w μ' ρ' m' w' := by subst e; subst e'; exact g

theorem run_storeVar {t : TypeId} (ht : tyL P t = true) {g o : Nat} {ty : TypeId} {cur : Array Value} {v : Value} {ob : Bool} (hg : Has w g cur ty ob) (hl : v.cells.size = P.cellsOf t) (hfit : o + P.cellsOf t ≤ cur.size) (h1 : ∀ u ∈ v.cells.toList, u.oneCell' = true) :
    (Instr.storeAt t (.pointer (some ⟨g, o, none⟩)) v).run P w = .ok () (w.setRow g (cur.toList.take o ++ v.cells.toList ++ cur.toList.drop (o + P.cellsOf t)).toArray) := by
  have hI := (tyL_spec ht).2.2.2
  obtain ⟨fz, hg, hfz⟩ := hg
  have hst := run_storeCells_fz P g o ty ob fz v.cells.toList 0 cur w hg hfz (by simpa [hl] using hfit) h1
  simp only [Nat.add_zero, Array.length_toList, hl] at hst
  simp only [Instr.storeAt, Instr.sureAddr, storeVar, Sem.run_bind, Sem.run_pure, Result.andThen_ok, run_sizeOf' hI, hl, ne_eq, not_true, if_false, hst]

theorem evStore_sound {R : Type} {K : Store → Option R} {r : R} {t : TypeId} {a x : AV} (h : evStore P σ t a x K = some r) :
    ∃ σ', K σ' = some r ∧ σ.length ≤ σ'.length ∧ ∀ (E : Env) (μ : Mu) (ρ : Rho) (va vx : Value) (w : World), VR μ ρ a va → VR μ ρ x vx → SR E μ ρ σ w →
      ∃ w' μ', (Instr.storeAt t va vx).run P w = .ok () w' ∧ Grow false μ ρ σ.length w μ' ρ σ'.length w' ∧ SR E μ' ρ σ' w' := by
  unfold evStore at h
  replace h := cond_some' h
  obtain ⟨ht, h⟩ := h
  simp only [Bool.not_eq_false'] at ht
  split at h
  · rename_i l i j
    split at h
    · cases h
    · rename_i b hb
      split at h
      · cases h
      · rename_i xc hxc
        rcases cond_or h with ⟨hbig, h1⟩ | ⟨_, h1⟩
        · clear h
          simp only [Bool.and_eq_true, Bool.not_eq_true'] at hbig
          obtain ⟨hbt, ho⟩ := hbig
          obtain ⟨hm, h⟩ := cond_some h1
          have hm := Nat.eq_of_beq_eq_true hm
          obtain ⟨hg, h⟩ := cond_some h
          simp only [Bool.and_eq_true, decide_eq_true_eq] at hg
          obtain ⟨g0, hxl, hxv0⟩ := hg
          simp only [bigT, Bool.and_eq_true] at hbt
          obtain ⟨⟨⟨⟨⟨g1, g2⟩, g3⟩, g4⟩, g5⟩, g6⟩ := hbt
          have g2 := Nat.eq_of_beq_eq_true g2
          have g4 := Nat.eq_of_beq_eq_true g4
          have g5 := Nat.eq_of_beq_eq_true g5
          subst g4; subst g5
          refine ⟨_, h, by simp, fun E μ ρ va vx w ha hbx hs => ?_⟩
          cases ha with
          | c hx => cases hx with
            | d hd => cases hd
            | @ptr _ _ _ rb hl hp =>
              have hbl := hs.blk l rb b hl hb (by omega)
              obtain ⟨cur, hc⟩ := hbl.live hp
              have hheap : Has w rb.b cur b.ty b.obj := by
                rcases hc.at_ with ⟨_, h2, _⟩ | ⟨h3, _⟩
                · exact h2
                · omega
              have hxv := hbx.cells hxc
              have hvl : vx.cells.size = P.cellsOf t := by rw [← hxl, ← hxv.1]; simp
              have hs1 : rb.sz = 1 := hbl.sz.trans g2
              have hfit : P.cellsOf t ≤ cur.size := by
                have := hbl.fit
                rw [hs1, Nat.mul_one, hbl.n, g0, ← hc.size] at this
                exact this
              have hrun := run_storeVar (P := P) (w := w) (t := t) ht (o := 0 * rb.sz + 0) hheap hvl (by omega) hxv.one
              simp only [Nat.zero_mul, Nat.add_zero, Nat.zero_add, List.take_zero, List.nil_append] at hrun
              have hs' := hs.write hl hb hm hp (xc.map fun c => [c]) cur (vx.cells.toList ++ cur.toList.drop (P.cellsOf t)).toArray hheap hc.size
                (by rw [← hc.size]; simp only [List.size_toArray, List.length_append, Array.length_toList, hvl, List.length_drop]; omega) (by rw [List.length_map, hxl, g0]) (fun _ => by
                  refine ⟨fun e he => ?_, fun p e q c he hc' => ?_⟩
                  · obtain ⟨c, _, rfl⟩ := List.mem_map.1 he
                    rw [hs1]; rfl
                  · rw [List.getElem?_map, Option.map_eq_some_iff] at he
                    obtain ⟨c0, hc0, rfl⟩ := he
                    have hq0 : q = 0 := by
                      have := (List.getElem?_eq_some_iff.1 hc').1
                      simpa using this
                    subst hq0
                    simp only [List.getElem?_cons_zero, Option.some.injEq] at hc'
                    subst hc'
                    have hplt : p < xc.length := (List.getElem?_eq_some_iff.1 hc0).1
                    have hpv : p < vx.cells.toList.length := by rw [hxv.1]; exact hplt
                    have hcr := hxv.2 p c0 _ hc0 (List.getElem?_eq_getElem hpv)
                    refine ⟨vx.cells.toList[p], ?_, ?_⟩
                    · rw [hs1, Nat.mul_one, Nat.add_zero, List.getElem?_toArray, List.getElem?_append_left hpv]
                      exact List.getElem?_eq_getElem hpv
                    · have h4 := List.all_eq_true.1 hxv0 c0 (List.mem_of_getElem? hc0)
                      unfold isV at h4
                      split at h4
                      · cases hcr with
                        | d hd => exact hd
                      · cases h4) (fun e => absurd e (by simp [ho]))
              refine ⟨_, μ, ?_, grow_len (grow_same (fun e => by cases e) (by simp)) rfl (by simp), hs'⟩
              simpa using hrun
        · clear h
          have h := h1
          clear h1
          replace h := cond_some' h
          obtain ⟨hc, h⟩ := h
          simp only [Bool.or_eq_false_iff, Bool.not_eq_false'] at hc
          have hm := Nat.eq_of_beq_eq_true hc.1
          have hxl := Nat.eq_of_beq_eq_true hc.2
          rcases cond_or h with ⟨ho, h1⟩ | ⟨ho, h1⟩
          · clear h
            obtain ⟨hle, h⟩ := cond_some h1
            simp only [Bool.and_eq_true] at hle
            have hj := Nat.le_of_ble_eq_true hle.1
            have hi := Nat.eq_of_beq_eq_true hle.2
            refine ⟨_, h, by simp, fun E μ ρ va vx w ha hbx hs => ?_⟩
            cases ha with
            | c hx => cases hx with
              | d hd => cases hd
              | @ptr _ _ _ rb hl hp =>
                obtain ⟨cur, ty, fz, h1, h2, h3, h4, h5, h6⟩ := obj_cells hs hl hp hb (by omega) ho
                obtain ⟨e1, e2, _⟩ := h4 hm
                subst e1; subst e2
                have hxv := hbx.cells hxc
                have hvl : vx.cells.size = P.cellsOf t := by rw [← hxl, ← hxv.1]; simp
                rw [hi, Nat.zero_mul, Nat.zero_add]
                have hrun := run_storeVar (P := P) (w := w) (t := t) ht (o := j) (ob := b.obj) ⟨_, h1, .inl rfl⟩ hvl (by omega) hxv.one
                have hnew : CRs μ ρ ((lget b.xs 0).take j ++ xc ++ (lget b.xs 0).drop (j + P.cellsOf t)) (cur.toList.take j ++ vx.cells.toList ++ cur.toList.drop (j + P.cellsOf t)) := by
                  refine .append (.append ?_ hxv) ?_
                  · have := h3.sub 0 j; simpa using this
                  · have := h3.sub (j + P.cellsOf t) (lget b.xs 0).length
                    rwa [List.take_of_length_le (by simp), List.take_of_length_le (by rw [List.length_drop, h3.1]; omega)] at this
                have hlen : ((lget b.xs 0).take j ++ xc ++ (lget b.xs 0).drop (j + P.cellsOf t)).length = (lget b.xs 0).length := by simp [hxl]; omega
                have hs' := hs.write hl hb hm hp [(lget b.xs 0).take j ++ xc ++ (lget b.xs 0).drop (j + P.cellsOf t)] cur (cur.toList.take j ++ vx.cells.toList ++ cur.toList.drop (j + P.cellsOf t)).toArray ⟨_, h1, .inl rfl⟩ (by rw [h5, h6, h2])
                  (by rw [h5, h6, ← hlen, ← hnew.1]; simp) (by rw [((hs.blk l rb b hl hb (by omega)).one ho).1]; rfl) (fun e => absurd e (by simp [ho])) (fun _ => by
                    refine ⟨fun e he => by simp at he; rw [he, ← List.append_assoc, hlen, h6], fun p e q c he hc => ?_⟩
                    have hp0 : p = 0 := by have := (List.getElem?_eq_some_iff.1 he).1; simpa using this
                    subst hp0
                    simp at he; subst he
                    rw [← List.append_assoc] at hc
                    have hlt : q < (cur.toList.take j ++ vx.cells.toList ++ cur.toList.drop (j + P.cellsOf t)).length := by rw [hnew.1]; exact (List.getElem?_eq_some_iff.1 hc).1
                    refine ⟨_, ?_, hnew.2 q c _ hc (List.getElem?_eq_getElem hlt)⟩
                    rw [Nat.zero_mul, Nat.zero_add, List.getElem?_toArray]
                    exact List.getElem?_eq_getElem hlt)
                exact ⟨_, μ, hrun, grow_len (grow_same (fun e => by cases e) (by simp)) rfl (by simp), hs'⟩
          · clear h
            have h := h1
            clear h1
            split at h
            · cases h
            · rename_i cs σ1 hfz
              replace h := cond_some h
              obtain ⟨hle, h⟩ := h
              simp only [Bool.and_eq_true] at hle
              have hj := Nat.le_of_ble_eq_true hle.1
              have hm1 : ∃ b', σ1[l]? = some b' ∧ b'.mode = 1 := by
                have := hle.2
                split at this
                · rename_i b' hb'; exact ⟨b', hb', Nat.eq_of_beq_eq_true this⟩
                · cases this
              replace h := cond_some h
              obtain ⟨hlt, h⟩ := h
              have hlt := of_decide_eq_true hlt
              -- freezing leaves the row itself as it was
              have hsame : ∀ (cs : List AV) (σ σ1 : Store) (cs' : List AV) (b b' : Blk), frzL σ cs = some (cs', σ1) → σ[l]? = some b → σ1[l]? = some b' → b'.mode = 1 → b' = b := by
                intro cs
                induction cs with
                | nil => intro σ σ1 cs' b b' h h1 h2 _; simp [frzL] at h; rw [← h.2, h1] at h2; injection h2 with h2; exact h2.symm
                | cons c cs ih =>
                  intro σ σ1 cs' b b' h h1 h2 h3
                  simp only [frzL] at h
                  split at h
                  · cases h
                  · rename_i c1 σ2 hc1
                    split at h
                    · cases h
                    · rename_i cs1 σ3 hc2
                      simp only [Option.some.injEq, Prod.mk.injEq] at h
                      rw [← h.2] at h2
                      unfold frz at hc1
                      split at hc1
                      · injection hc1 with hc1; injection hc1 with _ hc1; subst hc1; exact ih _ _ _ _ _ hc2 h1 h2 h3
                      · injection hc1 with hc1; injection hc1 with _ hc1; subst hc1; exact ih _ _ _ _ _ hc2 h1 h2 h3
                      · rename_i nn ll oo cc
                        split at hc1
                        · cases hc1
                        · rename_i bb hbb
                          have hc1 := (cond_some' hc1).2
                          injection hc1 with hc1; injection hc1 with _ hc1; subst hc1
                          by_cases e : ll = l
                          · subst e
                            have hlen := (List.getElem?_eq_some_iff.1 hbb).1
                            have := ih _ _ _ { bb with mode := 2 } b' hc2 (by rw [List.getElem?_set_self hlen]) h2 h3
                            rw [this] at h3; cases h3
                          · exact ih _ _ _ _ _ hc2 (by rw [List.getElem?_set_ne e]; exact h1) h2 h3
                      · cases hc1
              obtain ⟨b', hb', hb1⟩ := hm1
              have hbb := hsame _ _ _ _ _ _ hfz hb hb' hb1
              subst hbb
              have hlen1 := frzL_len _ _ _ _ hfz
              have key : ∀ (row : List AV), K (σ1.set l { b' with xs := b'.xs.set i row }) = some r → (row = (lget b'.xs i).take j ++ cs ++ (lget b'.xs i).drop (j + P.cellsOf t) ∨ (row = cs ∧ P.cellsOf t = b'.sz)) →
                ∃ σ', K σ' = some r ∧ σ.length ≤ σ'.length ∧ ∀ (E : Env) (μ : Mu) (ρ : Rho) (va vx : Value) (w : World), VR μ ρ (.ptr l i j) va → VR μ ρ x vx → SR E μ ρ σ w →
                  ∃ w' μ', (Instr.storeAt t va vx).run P w = .ok () w' ∧ Grow false μ ρ σ.length w μ' ρ σ'.length w' ∧ SR E μ' ρ σ' w' := fun row hk hrow => by
                refine ⟨_, hk, by simp [hlen1], fun E μ ρ va vx w ha hbx hs => ?_⟩
                cases ha with
                | c hx => cases hx with
                  | d hd => cases hd
                  | @ptr _ _ _ rb hl hp =>
                    have hxv := hbx.cells hxc
                    have hvl : vx.cells.size = P.cellsOf t := by rw [← hxl, ← hxv.1]; simp
                    obtain ⟨μ1, hle1, hs1, hd1, hn1, hn2⟩ := frzL_sound hs hxv hfz
                    have hbl := hs1.blk l rb b' hl hb' (by omega)
                    obtain ⟨cur, hc⟩ := hbl.live hp
                    have hheap : Has w rb.b cur b'.ty b'.obj := by
                      rcases hc.at_ with ⟨_, h2, _⟩ | ⟨h3, _⟩
                      · exact h2
                      · omega
                    have hrb := hc.rowD ho
                    have hsz := hbl.sz
                    have hfit : b'.xs.length * rb.sz ≤ cur.size := by rw [hc.size, ← hbl.n]; exact hbl.fit
                    have hir : (i + 1) * rb.sz ≤ b'.xs.length * rb.sz := Nat.mul_le_mul_right _ hlt
                    rw [Nat.add_mul, Nat.one_mul] at hir
                    have hfit2 : i * rb.sz + j + P.cellsOf t ≤ cur.size := by omega
                    have hxi : b'.xs[i]? = some (lget b'.xs i) := by simp [lget, List.getD_eq_getElem?_getD, List.getElem?_eq_getElem hlt]
                    have hil : (lget b'.xs i).length = rb.sz := hrb.1 _ (List.mem_of_getElem? hxi)
                    have hrow : row = (lget b'.xs i).take j ++ cs ++ (lget b'.xs i).drop (j + P.cellsOf t) := by
                      rcases hrow with e | ⟨e1, e2⟩
                      · exact e
                      · have hj0 : j = 0 := by omega
                        subst hj0
                        rw [e1, List.drop_eq_nil_of_le (by rw [hil, hsz]; omega)]
                        simp
                    subst hrow
                    have hrun := run_storeVar (P := P) (w := w) (t := t) ht (o := i * rb.sz + j) hheap hvl hfit2 hxv.one
                    have hcl : cs.length = P.cellsOf t := by rw [hn2, hxl]
                    have hs' := hs1.write hl hb' hb1 hp (b'.xs.set i ((lget b'.xs i).take j ++ cs ++ (lget b'.xs i).drop (j + P.cellsOf t))) cur
                      (cur.toList.take (i * rb.sz + j) ++ vx.cells.toList ++ cur.toList.drop (i * rb.sz + j + P.cellsOf t)).toArray hheap hc.size
                      (by rw [← hc.size]; simp only [List.size_toArray, List.length_append, Array.length_toList, hvl, List.length_take, List.length_drop]; omega) (by simp) (fun _ => by
                        refine ⟨fun e he => ?_, fun p e q c he hc' => ?_⟩
                        · rcases List.mem_or_eq_of_mem_set he with h1 | h1
                          · exact hrb.1 e h1
                          · rw [h1]; simp [hcl, hil]; omega
                        · rw [List.getElem?_toArray]
                          by_cases hpi : p = i
                          · subst hpi
                            rw [List.getElem?_set_self hlt] at he
                            injection he with he
                            subst he
                            have hq : q < rb.sz := by have := (List.getElem?_eq_some_iff.1 hc').1; simp [hcl, hil] at this; omega
                            have htk : ((lget b'.xs p).take j).length = j := by simp [hil]; omega
                            have htk2 : (cur.toList.take (p * rb.sz + j)).length = p * rb.sz + j := by simp; omega
                            rcases Nat.lt_or_ge q j with hqj | hqj
                            · rw [List.append_assoc, List.getElem?_append_left (by omega), List.getElem?_take, if_pos hqj] at hc'
                              obtain ⟨u, h3, h4⟩ := hrb.2 p _ q c hxi hc'
                              refine ⟨u, ?_, h4⟩
                              rw [List.append_assoc, List.getElem?_append_left (by omega), List.getElem?_take, if_pos (by omega), Array.getElem?_toList]
                              exact h3
                            · rw [List.append_assoc, List.getElem?_append_right (by omega), htk] at hc'
                              rcases Nat.lt_or_ge (q - j) (P.cellsOf t) with hqt | hqt
                              · rw [List.getElem?_append_left (by omega)] at hc'
                                have hlt' : q - j < vx.cells.toList.length := by rw [Array.length_toList, hvl]; exact hqt
                                refine ⟨_, ?_, hd1.2 _ c _ hc' (List.getElem?_eq_getElem hlt')⟩
                                rw [List.append_assoc, List.getElem?_append_right (by omega), htk2, List.getElem?_append_left (by omega), show p * rb.sz + q - (p * rb.sz + j) = q - j by omega]
                                exact List.getElem?_eq_getElem hlt'
                              · rw [List.getElem?_append_right (by omega), hcl, List.getElem?_drop, show j + P.cellsOf t + (q - j - P.cellsOf t) = q by omega] at hc'
                                obtain ⟨u, h3, h4⟩ := hrb.2 p _ q c hxi hc'
                                refine ⟨u, ?_, h4⟩
                                rw [List.append_assoc, List.getElem?_append_right (by omega), htk2, List.getElem?_append_right (by rw [Array.length_toList, hvl]; omega), Array.length_toList, hvl, List.getElem?_drop,
                                  show p * rb.sz + j + P.cellsOf t + (p * rb.sz + q - (p * rb.sz + j) - P.cellsOf t) = p * rb.sz + q by omega, Array.getElem?_toList]
                                exact h3
                          · rw [List.getElem?_set_ne (fun e => hpi e.symm)] at he
                            obtain ⟨u, h3, h4⟩ := hrb.2 p e q c he hc'
                            refine ⟨u, ?_, h4⟩
                            have hq : q < rb.sz := by rw [← hrb.1 e (List.mem_of_getElem? he)]; exact (List.getElem?_eq_some_iff.1 hc').1
                            have htk2 : (cur.toList.take (i * rb.sz + j)).length = i * rb.sz + j := by simp; omega
                            rcases Nat.lt_or_ge p i with hlt' | hgt
                            · have : (p + 1) * rb.sz ≤ i * rb.sz := Nat.mul_le_mul_right _ hlt'
                              rw [Nat.add_mul, Nat.one_mul] at this
                              rw [List.append_assoc, List.getElem?_append_left (by omega), List.getElem?_take, if_pos (by omega), Array.getElem?_toList]
                              exact h3
                            · have : (i + 1) * rb.sz ≤ p * rb.sz := Nat.mul_le_mul_right _ (by omega)
                              rw [Nat.add_mul, Nat.one_mul] at this
                              rw [List.append_assoc, List.getElem?_append_right (by omega), htk2, List.getElem?_append_right (by rw [Array.length_toList, hvl]; omega), Array.length_toList, hvl, List.getElem?_drop,
                                show i * rb.sz + j + P.cellsOf t + (p * rb.sz + q - (i * rb.sz + j) - P.cellsOf t) = p * rb.sz + q by omega, Array.getElem?_toList]
                              exact h3) (fun e => absurd e (by simp [ho]))
                    exact ⟨_, μ1, hrun, ⟨hle1, RhoLe.refl ρ, by simp [hlen1], fun _ _ h => .inl h, fun e => (by cases e), by simp, fun e => (by cases e)⟩, hs'⟩
              rcases cond_or h with ⟨hfull, h1⟩ | ⟨_, h1⟩
              · exact key cs h1 (.inr ⟨rfl, Nat.eq_of_beq_eq_true hfull⟩)
              · exact key _ h1 (.inl rfl)
  · rename_i l j n i
    split at h
    · rename_i b y hb
      replace h := cond_some' h
      obtain ⟨hc, h⟩ := h
      simp only [Bool.or_eq_false_iff, Bool.not_eq_false'] at hc
      obtain ⟨⟨⟨⟨hy, hm⟩, ho⟩, hag⟩, hle⟩ := hc
      have hm := Nat.eq_of_beq_eq_true hm
      have hle := Nat.le_of_ble_eq_true hle
      have hone : P.cellsOf t = 1 := by
        rcases (tyL_spec ht).2.2.1 with e | e
        · rw [hag] at e; cases e
        · exact e
      refine ⟨_, h, by simp, fun E μ ρ va vx w ha hbx hs => ?_⟩
      have := hbx.v_eq; subst this
      cases ha with
      | c hx => cases hx with
        | d hd => cases hd
        | @px _ _ _ _ rb hl hp hi =>
          obtain ⟨cur, ty, fz, h1, h2, h3, h4, h5, h6⟩ := obj_cells hs hl hp hb (by omega) ho
          obtain ⟨e1, e2, _⟩ := h4 hm
          subst e1; subst e2
          have hcell : vx.cells = #[vx] := by have := okC_one hy; cases vx <;> first | rfl | cases this
          have hrun := run_storeVar (P := P) (w := w) (t := t) ht (o := j + i) (ob := b.obj) ⟨_, h1, .inl rfl⟩ (by rw [hcell, hone]; rfl) (by omega) (by rw [hcell]; intro u hu; simp at hu; rw [hu]; exact okC_one hy)
          rw [hcell, hone] at hrun
          have hseg : (lget b.xs 0).take j ++ avPut i (.v vx) 0 (((lget b.xs 0).drop j).take n) ++ (lget b.xs 0).drop (j + n) = (lget b.xs 0).set (j + i) (.v vx) := by
            rw [avPut_eq i _ _ 0 (Nat.zero_le _) (by simp; omega), Nat.sub_zero]
            apply List.ext_getElem?
            intro q
            have ht1 : ((lget b.xs 0).take j).length = j := by simp; omega
            have ht2 : ((((lget b.xs 0).drop j).take n).set i (AV.v vx)).length = n := by simp; omega
            rcases Nat.lt_or_ge q j with hq | hq
            · rw [List.append_assoc, List.getElem?_append_left (by omega), List.getElem?_take, if_pos hq, List.getElem?_set_ne (by omega)]
            · rw [List.append_assoc, List.getElem?_append_right (by omega), ht1]
              rcases Nat.lt_or_ge (q - j) n with hq2 | hq2
              · rw [List.getElem?_append_left (by omega)]
                by_cases e : q = j + i
                · subst e
                  rw [show j + i - j = i by omega, List.getElem?_set_self (by simp; omega), List.getElem?_set_self (by omega)]
                · rw [List.getElem?_set_ne (by omega), List.getElem?_set_ne (by omega), List.getElem?_take, if_pos hq2, List.getElem?_drop, show j + (q - j) = q by omega]
              · rw [List.getElem?_append_right (by omega), ht2, List.getElem?_drop, List.getElem?_set_ne (by omega), show j + n + (q - j - n) = q by omega]
          have hval : cur.toList.take (j + i) ++ #[vx].toList ++ cur.toList.drop (j + i + 1) = cur.toList.set (j + i) vx := by
            apply List.ext_getElem?
            intro q
            have ht1 : (cur.toList.take (j + i)).length = j + i := by simp; omega
            rcases Nat.lt_or_ge q (j + i) with hq | hq
            · rw [List.append_assoc, List.getElem?_append_left (by omega), List.getElem?_take, if_pos hq, List.getElem?_set_ne (by omega)]
            · rw [List.append_assoc, List.getElem?_append_right (by omega), ht1]
              by_cases e : q = j + i
              · subst e
                rw [Nat.sub_self, List.getElem?_set_self (by simp; omega)]; rfl
              · rw [List.getElem?_append_right (by simp; omega), List.getElem?_set_ne (by omega), List.getElem?_drop]
                congr 1; simp; omega
          have hnew : CRs μ ρ ((lget b.xs 0).set (j + i) (.v vx)) (cur.toList.set (j + i) vx) := by
            refine ⟨by simp [h2], fun q u v hu hv => ?_⟩
            by_cases e : q = j + i
            · subst e
              rw [List.getElem?_set_self (by omega)] at hu
              rw [List.getElem?_set_self (by simp; omega)] at hv
              injection hu with hu; injection hv with hv
              subst hu; subst hv
              exact .d (.v hy)
            · rw [List.getElem?_set_ne (by omega)] at hu hv
              exact h3.2 q u v hu hv
          rw [hval] at hrun
          have hs' := hs.write hl hb hm hp [(lget b.xs 0).set (j + i) (.v vx)] cur (cur.toList.set (j + i) vx).toArray ⟨_, h1, .inl rfl⟩ (by rw [h5, h6, h2])
            (by rw [h5, h6]; simp [h2]) (by rw [((hs.blk l rb b hl hb (by omega)).one ho).1]; rfl) (fun e => absurd e (by simp [ho])) (fun _ => by
              refine ⟨fun e he => by simp at he; rw [he]; simp [h6], fun p e q c he hc => ?_⟩
              have hp0 : p = 0 := by have := (List.getElem?_eq_some_iff.1 he).1; simpa using this
              subst hp0
              simp at he; subst he
              have hlt : q < (cur.toList.set (j + i) vx).length := by rw [hnew.1]; exact (List.getElem?_eq_some_iff.1 hc).1
              refine ⟨_, ?_, hnew.2 q c _ hc (List.getElem?_eq_getElem hlt)⟩
              rw [Nat.zero_mul, Nat.zero_add, List.getElem?_toArray]
              exact List.getElem?_eq_getElem hlt)
          exact ⟨_, μ, hrun, grow_len (grow_same (fun e => by cases e) (by simp)) rfl (by simp), by rw [hseg]; exact hs'⟩
    · cases h
  · cases h
end
end Go.Ev
