/- Appending, copying and writing, against the store. -/
import Derived.Test.YtokagdgcfmjlnaaEv14
set_option linter.all false
namespace Go.Ev

section
variable {P : Program} {E : Env} {μ : Mu} {ρ : Rho} {σ : Store} {w : World}

theorem SR.drew' (h : SR E μ ρ σ w) : SR E μ ρ σ w.drew := h.drew

/-- A row that is made behind a draw. -/
theorem grown_sound {e : TypeId} {sz : Nat} {xs ys : List (List AV)} {olds news rest : List Value} {cap : Nat} (hs : SR E μ ρ σ w) (hf : Fresh ρ σ) (h1 : RowD μ sz xs olds.toArray) (l1 : olds.length = xs.length * sz) (h2 : RowD μ sz ys news.toArray)
    (hc : (olds ++ news ++ rest).length = cap * sz) (hle : (xs ++ ys).length ≤ cap) :
    ∃ ρ', Grow true μ ρ σ.length w μ ρ' (σ ++ [(⟨1, e, sz, false, xs ++ ys⟩ : Blk)]).length (w.drew.alloc (.cells (olds ++ news ++ rest).toArray e)) ∧
      VR μ ρ' (.sl false σ.length 0 none) (.slice (some ⟨w.heap.size, 0, none⟩) (xs ++ ys).length cap) ∧ SR E μ ρ' (σ ++ [(⟨1, e, sz, false, xs ++ ys⟩ : Blk)]) (w.drew.alloc (.cells (olds ++ news ++ rest).toArray e)) := by
  obtain ⟨ρ', g, hv, hs'⟩ := newRow_sound (e := e) (cap := cap) hs.drew hf (h1.app l1 h2 (L3 := rest)) (by simpa using hc) hle
  exact ⟨ρ', ⟨g.mu, g.rho, g.len, g.dom, g.keep, g.size, g.muq⟩, hv, hs'⟩

/-- An in-place extension: the old block is gone, the new one lies at the same place. -/
theorem SR.inplace {l : Nat} {rb : RB} {k : Blk} (h : SR E μ ρ σ w) (hf : Fresh ρ σ) (hl : ρ l = some rb) (hk : σ[l]? = some k) (hm : k.mode = 1) (hp : rb.ph = false) (k' : Blk) (cur' : Array Value) (h1 : k'.mode = 1) (hty : k'.ty = k.ty)
    (cur : Array Value) (hg : Has w rb.b cur k.ty false) (hsz0 : cur'.size = cur.size) (hobj : k'.obj = false) (hr : RowD μ k'.sz k'.xs cur') (hfit : k'.xs.length * k'.sz ≤ cur'.size) :
    SR E μ (rhoAdd ρ σ.length ⟨rb.b, cur'.size, k'.sz, k'.xs.length, false⟩) (σ.set l { k with mode := 0 } ++ [k']) (w.setRow rb.b cur') := by
  have hb := h.blk l rb k hl hk (by omega)
  obtain ⟨c0, hc0⟩ := hb.live hp
  have hmu : μ rb.b = none := by
    rcases hc0.at_ with ⟨_, _, h3⟩ | ⟨h3, _⟩
    · exact h3
    · omega
  have h1' := (h.kill l { k with mode := 0 } rfl)
  have hother : ∀ m rb' k1, ρ m = some rb' → (σ.set l { k with mode := 0 })[m]? = some k1 → k1.mode = 1 → rb'.ph = false → rb'.b ≠ rb.b := fun m rb' k1 hm' hk1 hm1 hp1 he => by
    rcases get_set hk1 with ⟨_, e⟩ | ⟨hne, hk1⟩
    · subst e; cases hm1
    · exact hne (h.inj m l rb' rb k1 k hm' hl hk1 hk hm1 hm hp1 hp he)
  have h2 : SR E μ ρ (σ.set l { k with mode := 0 }) (w.setRow rb.b cur') := by
    refine h1'.moved rfl rfl rfl (by simp) fun b hb => ?_
    by_cases e : b = rb.b
    · exact .inr ⟨e ▸ h.ownD l rb k hl hk hm hp, e ▸ hmu, fun m rb' k1 hm' hk1 hm1 hp1 he => hother m rb' k1 hm' hk1 hm1 hp1 (he.trans e)⟩
    · exact .inl (setRow_other w rb.b b cur' e)
  have hlen : (σ.set l { k with mode := 0 }).length = σ.length := by simp
  have hf' : Fresh ρ (σ.set l { k with mode := 0 }) := by unfold Fresh; rw [hlen]; exact hf
  have h3 := h2.add hf' k' ⟨rb.b, cur'.size, k'.sz, k'.xs.length, false⟩ ⟨rfl, rfl, hfit, fun e => (by cases e), fun e => absurd e (by simp [hobj]), fun _ => ⟨cur', rfl, fun _ => hr, fun e => absurd e (by simp [hobj]), .inl ⟨h1, hg.imp fun fz hg => ⟨hty ▸ setRow_heap w rb.b cur cur' k.ty fz hg.1, by rw [hobj, hsz0]; exact hg.2⟩, hmu⟩⟩⟩
    fun _ _ => ⟨h.ownD l rb k hl hk hm hp, hother⟩
  rw [hlen] at h3
  exact h3.2

theorem zOk_spec {e : TypeId} (h : zOk P e = true) : ∃ i z, P.info? e = some i ∧ i.zero = some z ∧ z.cells.size = i.size := by
  unfold zOk at h
  split at h
  · cases h
  · rename_i z hz
    cases hi : P.info? e with
    | none => simp [hi] at hz
    | some i =>
      rw [hi] at hz
      have := Nat.eq_of_beq_eq_true h
      exact ⟨i, z, rfl, hz, by rw [this]; simp [Program.cellsOf, hi]⟩

theorem grow_set {q : Bool} (hf : Fresh ρ σ) {l : Nat} (k0 k : Blk) (rb : RB) (w' : World) (hq : q = true → rb.ph = true ∨ w.heap.size ≤ rb.b) (hk : q = true → ∀ b, b < w.heap.size → w'.heap[b]? = w.heap[b]?) (hz : w.heap.size ≤ w'.heap.size) :
    Grow q μ ρ σ.length w μ (rhoAdd ρ σ.length rb) (σ.set l k0 ++ [k]).length w' := by
  have := grow_add (μ := μ) (q := q) hf rb k w' hq hk hz
  simpa using this

theorem evAppend_sound {R : Type} {K : AV → Store → Option R} {r : R} {t t2 : TypeId} {s x : AV} (h : evAppend P σ K t t2 s x = some r) :
    ∃ av σ', K av σ' = some r ∧ σ.length ≤ σ'.length ∧ ∀ (E : Env) (μ : Mu) (ρ : Rho) (vs vx : Value) (ty : TypeId) (w : World), VR μ ρ s vs → VR μ ρ x vx → SR E μ ρ σ w → FreshTo ρ σ.length σ'.length →
      ∃ v w' ρ', (Builtin.append_ #[t, t2] ty #[vs, vx]).run P w = .ok v w' ∧ Grow false μ ρ σ.length w μ ρ' σ'.length w' ∧ VR μ ρ' av v ∧ SR E μ ρ' σ' w' := by
  unfold evAppend at h
  split at h
  · rename_i e d hu hu2
    replace h := cond_some' h
    obtain ⟨hc, h⟩ := h
    simp only [Bool.or_eq_false_iff, Bool.not_eq_false', Bool.and_eq_true] at hc
    obtain ⟨hd, ⟨hby, hpos⟩, hzo⟩ := hc
    have hby : 0 < P.bytesOf e := by simpa [Nat.blt_eq] using hby
    have hpos : 0 < P.cellsOf e := by simpa [Nat.blt_eq] using hpos
    obtain ⟨i, z, hi, hz, hzs⟩ := zOk_spec hzo
    have hci : P.cellsOf e = i.size := by simp [Program.cellsOf, hi]
    have hbi : P.bytesOf e = i.bytes := by simp [Program.bytesOf, hi]
    split at h
    · cases h
    · rename_i ysz ys hx
      replace h := cond_some' h
      obtain ⟨hysz, h⟩ := h
      simp only [Bool.not_eq_false', Bool.or_eq_true] at hysz
      have hysz : i.size = ysz ∨ ys = [] := by
        rcases hysz with e | e
        · exact .inl (by rw [← hci]; exact (Nat.eq_of_beq_eq_true e).symm)
        · exact .inr (by simpa using e)
      have rowY : ∀ (μ : Mu) (news : List Value), RowD μ ysz ys news.toArray → RowD μ (P.cellsOf e) ys news.toArray := fun μ news hr => by
        rcases hysz with e1 | e1
        · rw [hci, e1]; exact hr
        · subst e1; exact .nil
      have lenY : ∀ (news : List Value), news.length = ys.length * ysz → news.length = ys.length * P.cellsOf e := fun news hr => by
        rcases hysz with e1 | e1
        · rw [hci, e1]; exact hr
        · subst e1; simpa using hr
      split at h
      · rename_i sz0 xs0
        replace h := cond_some h
        obtain ⟨hb, h⟩ := h
        have hb := of_decide_eq_true hb
        refine ⟨_, _, h, by simp, fun E μ ρ vs vx ty w ha hbx hs hf => ?_⟩
        have hva : vs = .slice none 0 0 := by
          cases ha with
          | c hx => cases hx with
            | d hd => cases hd with
              | @lst _ _ _ A c vals hnil hA _ _ _ _ =>
                cases A with
                | none => rw [(hA rfl).1, (hA rfl).2]; rfl
                | some a => cases hnil
        subst hva
        obtain ⟨news, hlen, hnl, hrow, hfc⟩ := app_view (P := P) hx hbx hs
        have hfr : Fresh ρ σ := hf.fresh (by simp)
        cases ys with
        | nil =>
          obtain ⟨_, hs'⟩ := hs.phantom hfr e (P.cellsOf e)
          refine ⟨.slice none 0 0, w, _, ?_, grow_add hfr _ _ w (fun _ => .inl rfl) (fun _ _ _ => rfl) (Nat.le_refl _), ?_, hs'⟩
          · have hn0 : news = [] := List.eq_nil_of_length_eq_zero (by simpa using hnl)
            subst hn0
            have := run_app_room (P := P) (w := w) (ty := ty) hu hu2 hd hi (base := none) (sLen := 0) (sCap := 0) (n := 0) (news := []) hlen (by simpa using hfc i.size 0 w hysz (Nat.le_refl _) rfl) (Nat.le_refl _) rfl
            simpa using this
          · exact .c (.sln (rhoAdd_same ρ σ.length ⟨0, 0, P.cellsOf e, 0, true⟩) rfl rfl (fun n hn => by cases hn))
        | cons y ys =>
          have hY := rowY μ news hrow
          have hL := lenY news hnl
          have hge := grownCap_ge w (0 + (y :: ys).length) 0 e
          obtain ⟨ρ', g, hv, hs'⟩ := grown_sound (e := e) (xs := []) (ys := y :: ys) (olds := []) (news := news) (rest := (Builtin.zeroCells z.cells (grownCap w (0 + (y :: ys).length) 0 e - (0 + (y :: ys).length))).toList) (cap := grownCap w (0 + (y :: ys).length) 0 e) hs hfr
            .nil (by simp) hY (by
              simp only [List.nil_append, List.length_append, hL, Array.length_toList, size_zeroCells, hzs, hci, ← Nat.add_mul]
              congr 1; omega) (by simpa using hge)
          refine ⟨_, _, ρ', run_app_grow hu hu2 hd hi hz (by rw [← hbi]; exact hby) (base := none) (sLen := 0) (sCap := 0) (olds := []) (news := news) hlen (by
              have := hfc i.size (y :: ys).length w.drew hysz (Nat.le_refl _) rfl
              rw [List.take_of_length_le (by rw [hL, hci]; exact Nat.le_refl _)] at this
              exact this) (by simp [Builtin.firstCells]) (by simp) (by rw [Nat.zero_add, ← hbi]; exact hb), g.loud, ?_, hs'⟩
          simp only [Nat.zero_add, List.nil_append] at hv ⊢
          exact hv
      · rename_i nil l off cut
        split at h
        · cases h
        · rename_i b hb
          replace h := cond_some h
          obtain ⟨hc, h⟩ := h
          simp only [Bool.and_eq_true, Bool.not_eq_true'] at hc
          obtain ⟨⟨⟨⟨hm, ho⟩, hoff⟩, hbt⟩, hbs⟩ := hc
          have hm := Nat.eq_of_beq_eq_true hm
          have hoff := Nat.eq_of_beq_eq_true hoff
          have hbt := Nat.eq_of_beq_eq_true hbt
          have hbs := Nat.eq_of_beq_eq_true hbs
          replace h := cond_some h
          obtain ⟨hb48, h⟩ := h
          have hb48 := of_decide_eq_true hb48
          refine ⟨_, _, h, by simp, fun E μ ρ vs vx ty w ha hbx hs hf => ?_⟩
          subst hoff
          obtain ⟨news, hlen, hnl, hrow, hfc⟩ := app_view (P := P) hx hbx hs
          have hY := rowY μ news hrow
          have hL := lenY news hnl
          have hfr : Fresh ρ σ := hf.fresh (by simp)
          have hfcA : ∀ w' : World, w'.heap = w.heap → (Builtin.firstCells i.size ys.length vx).run P w' = .ok news.toArray w' := fun w' hw' => by
            have := hfc i.size ys.length w' hysz (Nat.le_refl _) hw'
            rwa [List.take_of_length_le (by rw [hL, hci]; exact Nat.le_refl _)] at this
          have hkl : SR E μ ρ (σ.set l { b with mode := 0 }) w := hs.kill l _ rfl
          have hlenk : (σ.set l { b with mode := 0 }).length = σ.length := by simp
          have hfrk : Fresh ρ (σ.set l { b with mode := 0 }) := by unfold Fresh; rw [hlenk]; exact hfr
          cases ha with
          | c hx => cases hx with
            | d hd => cases hd
            | @sln _ _ _ rb hl hn _ hcut =>
              have hxs0 : b.xs = [] := List.eq_nil_of_length_eq_zero (by rw [← (hs.blk l rb b hl hb (by omega)).n]; exact hn)
              have hxs : cutA b.xs cut = [] := by rw [hxs0]; cases cut <;> simp [cutA]
              cases ys with
              | nil =>
                obtain ⟨_, hs'⟩ := hkl.phantom hfrk e (P.cellsOf e)
                rw [hlenk] at hs'
                have e1 : (cutA b.xs cut) ++ ([] : List (List AV)) = [] := by rw [hxs]; rfl
                rw [e1]
                refine ⟨.slice none 0 0, w, _, ?_, grow_set hfr _ _ _ w (fun _ => .inl rfl) (fun _ _ _ => rfl) (Nat.le_refl _), ?_, hs'⟩
                · have hn0 : news = [] := List.eq_nil_of_length_eq_zero (by simpa using hnl)
                  subst hn0
                  have := run_app_room (P := P) (w := w) (ty := ty) hu hu2 hd hi (base := none) (sLen := 0) (sCap := 0) (n := 0) (news := []) hlen (hfcA w rfl) (Nat.le_refl _) rfl
                  simpa using this
                · exact .c (.sln (rhoAdd_same ρ σ.length ⟨0, 0, P.cellsOf e, 0, true⟩) rfl rfl (fun n hn => by cases hn))
              | cons y ys =>
                have hge := grownCap_ge w (0 + (y :: ys).length) 0 e
                obtain ⟨ρ', g, hv, hs'⟩ := grown_sound (e := e) (xs := []) (ys := y :: ys) (olds := []) (news := news) (rest := (Builtin.zeroCells z.cells (grownCap w (0 + (y :: ys).length) 0 e - (0 + (y :: ys).length))).toList) (cap := grownCap w (0 + (y :: ys).length) 0 e) hkl hfrk
                  .nil (by simp) hY (by
                    simp only [List.nil_append, List.length_append, hL, Array.length_toList, size_zeroCells, hzs, hci, ← Nat.add_mul]
                    congr 1; omega) (by simpa using hge)
                rw [hlenk] at g hv
                have e1 : (cutA b.xs cut) ++ (y :: ys) = [] ++ (y :: ys) := by rw [hxs]
                rw [e1]
                refine ⟨_, _, ρ', run_app_grow hu hu2 hd hi hz (by rw [← hbi]; exact hby) (base := none) (sLen := 0) (sCap := 0) (olds := []) (news := news) hlen (hfcA w.drew rfl) (by simp [Builtin.firstCells]) (by simp) (by
                    rw [hxs] at hb48; rw [← hbi]; simpa using hb48), g.loud, ?_, hs'⟩
                simp only [Nat.zero_add, List.nil_append] at hv ⊢
                exact hv
            | @sl _ _ _ rb a len cap hl hp ha hlen' hoff' hcap hcsz =>
              have hbl := hs.blk l rb b hl hb (by omega)
              obtain ⟨cur, hc⟩ := hbl.live hp
              obtain ⟨fz, hheap⟩ : ∃ fz, (w.heap[rb.b]? = some (.cells cur b.ty fz) ∧ OkFz false cur.size fz) := by
                rcases hc.at_ with ⟨_, h2, h3⟩ | ⟨h3, _⟩
                · rw [ho] at h2; exact h2
                · omega
              have ha' : a = ⟨rb.b, 0, none⟩ := by
                rcases ha with e1 | ⟨_, e1⟩
                · rw [e1, Nat.zero_mul]
                · omega
              subst ha'
              have hcl : len = (cutA b.xs cut).length := by
                have hbn := hbl.n
                cases cut with
                | none => rw [hlen', hbn]; simp [cutN, cutA]
                | some m => simp only [cutN] at hlen'; simp only [cutA, List.length_take]; omega
              have hct : b.xs.take (cutA b.xs cut).length = cutA b.xs cut := by
                cases cut with
                | none => simp [cutA]
                | some m => simp [cutA, List.take_eq_take_iff]
              have hln := hcl
              subst hln
              have hsz : rb.sz = P.cellsOf e := hbl.sz.trans hbs
              have hcurs : cur.size = cap * P.cellsOf e := by rw [hc.size, ← hcsz, hsz]; simp
              have hrowX : RowD μ (P.cellsOf e) (cutA b.xs cut) (cur.toList.take ((cutA b.xs cut).length * P.cellsOf e)).toArray := by
                have := (hc.rowD ho).take (cutA b.xs cut).length
                rwa [hct, hsz] at this
              have hfit : (cutA b.xs cut).length * P.cellsOf e ≤ cur.size := by rw [hcurs]; exact Nat.mul_le_mul_right _ hcap
              have hlX : (cur.toList.take ((cutA b.xs cut).length * P.cellsOf e)).length = (cutA b.xs cut).length * P.cellsOf e := by rw [List.length_take, Array.length_toList]; exact Nat.min_eq_left hfit
              by_cases hroom : (cutA b.xs cut).length + ys.length ≤ cap
              · have hfit2 : (cutA b.xs cut).length * P.cellsOf e + news.length ≤ cur.size := by
                  rw [hL, ← Nat.add_mul, hcurs]; exact Nat.mul_le_mul_right _ hroom
                have hone : ∀ u ∈ news, u.oneCell' = true := hY.list hL
                have hst := run_storeCells_fz P rb.b ((cutA b.xs cut).length * i.size) b.ty false fz news 0 cur w hheap.1 hheap.2 (by rw [← hci]; simpa using hfit2) hone
                simp only [Nat.add_zero] at hst
                let cur' : Array Value := (cur.toList.take ((cutA b.xs cut).length * i.size) ++ news ++ cur.toList.drop ((cutA b.xs cut).length * i.size + news.length)).toArray
                have hcs' : cur'.size = cap * P.cellsOf e := by
                  simp only [cur', List.size_toArray, List.length_append, List.length_take, List.length_drop, Array.length_toList, ← hci]
                  omega
                have hs' := hs.inplace hfr hl hb hm hp ⟨1, e, P.cellsOf e, false, (cutA b.xs cut) ++ ys⟩ cur' rfl hbt.symm cur ⟨fz, hheap⟩ (by rw [hcs', hcurs]) rfl (by
                  have := hrowX.app hlX hY (L3 := cur.toList.drop ((cutA b.xs cut).length * i.size + news.length))
                  rw [hci] at this
                  rw [hci]; exact this) (by rw [hcs']; simp only [List.length_append]; exact Nat.mul_le_mul_right _ hroom)
                refine ⟨.slice (some ⟨rb.b, 0, none⟩) ((cutA b.xs cut).length + ys.length) cap, w.setRow rb.b cur', _, ?_, grow_set hfr _ _ _ _ (fun e => by cases e) (fun e => by cases e) (by simp), ?_, hs'⟩
                · exact run_app_room (P := P) (w := w) (ty := ty) hu hu2 hd hi hlen (hfcA w rfl) hroom (by simp only [addr_add, Nat.zero_add]; exact hst)
                · have : (ys.isEmpty && false) = false := by simp
                  rw [this]
                  exact .c (.sl (rhoAdd_same ρ σ.length ⟨rb.b, cur'.size, P.cellsOf e, ((cutA b.xs cut) ++ ys).length, false⟩) rfl (.inl (by simp)) (by simp [cutN]) (by simp) (by simpa using hroom) (by simp [hcs']))
              · have hge := grownCap_ge w ((cutA b.xs cut).length + ys.length) cap e
                obtain ⟨ρ', g, hv, hs'⟩ := grown_sound (e := e) (xs := (cutA b.xs cut)) (ys := ys) (olds := cur.toList.take ((cutA b.xs cut).length * P.cellsOf e)) (news := news) (rest := (Builtin.zeroCells z.cells (grownCap w ((cutA b.xs cut).length + ys.length) cap e - ((cutA b.xs cut).length + ys.length))).toList) (cap := grownCap w ((cutA b.xs cut).length + ys.length) cap e) hkl hfrk
                  hrowX hlX hY (by
                    simp only [List.length_append]
                    rw [hlX, hL, show ∀ n, (Builtin.zeroCells z.cells n).toList.length = n * P.cellsOf e from fun n => by rw [Array.length_toList, size_zeroCells, hzs, hci], ← Nat.add_mul, ← Nat.add_mul]
                    congr 1; omega) (by simpa using hge)
                rw [hlenk] at g hv
                have : (ys.isEmpty && false) = false := by simp
                rw [this]
                refine ⟨_, _, ρ', run_app_grow hu hu2 hd hi hz (by rw [← hbi]; exact hby) (base := some ⟨rb.b, 0, none⟩) (sLen := (cutA b.xs cut).length) (sCap := cap) (olds := cur.toList.take ((cutA b.xs cut).length * P.cellsOf e)) (news := news) hlen (hfcA w.drew rfl) ?_ (by omega) (by rw [← hbi]; exact hb48), g.loud, ?_, hs'⟩
                · simp only [Builtin.firstCells]
                  have := run_loadCells_list (P := P) w.drew ⟨rb.b, 0, none⟩ (cur.toList.take ((cutA b.xs cut).length * P.cellsOf e)) fun j u hu => ?_
                  · rw [hlX, hci] at this; rw [hci]; exact this
                  · rw [List.getElem?_take] at hu
                    split at hu
                    · rw [addr_add, Nat.zero_add, World.cell?_drew, cell_of_row w _ _ cur b.ty fz hheap.1, ← Array.getElem?_toList]
                      exact hu
                    · cases hu
                · simpa using hv
      · cases h
  · cases h
end
end Go.Ev
