/- Of a get that has read a row before it was inserted. -/
import Derived.Test.YtnhahcomgeeobaaFinds
set_option linter.all false
namespace Go.Proofs.Ytnhahcomgeeobaa
open Go.Ev
set_option maxRecDepth 100000
def KI (ts : List Rw) : Prop := (∀ r ∈ ts, r.k ≤ 5) ∧ tval 0 ts = true ∧ OkT ts
theorem tval_len : ∀ (ts : List Rw) (last : Int), tval last ts = true → (∀ r ∈ ts, r.k ≤ 5) → last ≤ 5 → (ts.length : Int) ≤ 5 - last
  | [], last, _, _, h => by simp; omega
  | r :: rs, last, h, h2, h3 => by
    unfold tval at h
    by_cases h4 : r.k ≤ last
    · rw [leI_t h4] at h; cases h
    · rw [leI_f (by omega)] at h
      simp only [cond_false] at h
      cases h5 : ltI 4294967294 r.k with
      | true => rw [h5] at h; cases h
      | false =>
        rw [h5] at h
        have hk := h2 r (by simp)
        have := tval_len rs r.k h (fun x hx => h2 x (by simp [hx])) hk
        rw [List.length_cons]; omega
theorem ki_len {ts : List Rw} (h : KI ts) : ts.length ≤ 5 := by
  have := tval_len ts 0 h.2.1 h.1 (by decide)
  omega
theorem stp_keys {s : Stm} {ts : List Rw} (hs : s.key ≤ 5) (h : ∀ r ∈ ts, r.k ≤ 5) : ∀ r ∈ (stp s ts).1, r.k ≤ 5 := by
  have hset : ∀ (i : Nat) (x : Rw), x.k = (ts.getD i rz).k → ∀ r ∈ ts.set i x, r.k ≤ 5 := by
    intro i x hx r hr
    rcases List.mem_or_eq_of_mem_set hr with h1 | rfl
    · exact h r h1
    · rw [hx]
      by_cases hi : i < ts.length
      · exact h _ (mem_getD ts rz i hi)
      · rw [show ts.getD i rz = rz by simp [List.getD_eq_getElem?_getD, List.getElem?_eq_none (show ts.length ≤ i by omega)]]
        decide
  unfold stp
  cases leI s.k 4 with
  | false => exact h
  | true =>
    simp only [cond_true]
    unfold wrR
    cases (s.k == 1) with
    | true =>
      cases hasK ts s.key (pl ts s.key) with
      | true => exact h
      | false =>
        intro r hr
        simp only [cond_true, cond_false, insT, List.mem_append, List.mem_cons] at hr
        rcases hr with hr | rfl | hr
        · exact h r (List.mem_of_mem_take hr)
        · exact hs
        · exact h r (List.mem_of_mem_drop hr)
    | false =>
      cases hasK ts s.key (pl ts s.key) with
      | false => exact h
      | true =>
        cases (s.k == 4) with
        | true =>
          intro r hr
          simp only [cond_true, cond_false, Bool.not_true, delT, List.mem_append] at hr
          rcases hr with hr | hr
          · exact h r (List.mem_of_mem_take hr)
          · exact h r (List.mem_of_mem_drop hr)
        | false =>
          cases (s.k == 2) with
          | true => exact hset _ _ (set_k _ _ _)
          | false =>
            cases (s.k == 3) with
            | false => exact h
            | true =>
              simp only [cond_true, cond_false, Bool.not_true]
              generalize decide (-9223372036854775808 ≤ (ts.getD (pl ts s.key) rz).col s.col.toNat + s.v ∧ (ts.getD (pl ts s.key) rz).col s.col.toNat + s.v ≤ 9223372036854775807) = dd
              cases dd with
              | true => exact hset _ _ (set_k _ _ _)
              | false => exact h
theorem appR_keys (t0 : List Rw) (h0 : ∀ r ∈ t0, r.k ≤ 5) : ∀ (l : List Stm) (ts : List Rw) (i : Nat) (acc : List Res), (∀ s ∈ l, s.key ≤ 5) → (∀ r ∈ ts, r.k ≤ 5) → ∀ r ∈ (appR t0 l ts i acc).1, r.k ≤ 5
  | [], _, _, _, _, h => h
  | s :: ss, ts, i, acc, hl, h => by
    unfold appR
    cases (stp s ts).2.2 == 0 with
    | true => exact appR_keys t0 h0 ss _ _ _ (fun x hx => hl x (by simp [hx])) (stp_keys (hl s (by simp)) h)
    | false => exact h0
theorem ki_apply {t : List Rw} {p : List Stm} (h : KI t) (hp : ∀ s ∈ p, s.ok) (hk : ∀ s ∈ p, s.key ≤ 5) (hl : p.length ≤ 20) : KI (applyM t p).1 := by
  have hlen := ki_len h
  obtain ⟨k1, k2, k3, k4, k5, k6⟩ := applyM_ok t p h.2.2 hp hl (by omega)
  refine ⟨?_, k5 h.2.1, k1⟩
  unfold applyM
  cases okP p && tval 0 t with
  | true => exact appR_keys t h.1 p t 0 [] hk h.1
  | false => exact h.1
def gs (k : Int) : Stm := ⟨5, k, 0, 0, 0, 0, 0, 0, 0, 0, 0, 0⟩
def iS (k : Int) : Stm := ⟨1, k, 0, 0, 0, 0, 0, 0, 0, 0, 0, 0⟩
theorem kvals {k : Int} (h : 6 ≤ k ∧ k ≤ 10) : k = 6 ∨ k = 7 ∨ k = 8 ∨ k = 9 ∨ k = 10 := by omega
theorem okP_gs {k : Int} (h : 6 ≤ k ∧ k ≤ 10) : okP [gs k] = true := by rcases kvals h with rfl | rfl | rfl | rfl | rfl <;> decide
theorem okP_is {k : Int} (h : 6 ≤ k ∧ k ≤ 10) : okP [iS k] = true := by rcases kvals h with rfl | rfl | rfl | rfl | rfl <;> decide
theorem gs_ok {k : Int} (h : 6 ≤ k ∧ k ≤ 10) : ∀ s ∈ [gs k], s.ok := by
  intro s hs
  rcases List.mem_singleton.1 hs with rfl
  rcases kvals h with rfl | rfl | rfl | rfl | rfl <;> (unfold gs Stm.ok i64ok; decide)
theorem is_ok {k : Int} (h : 6 ≤ k ∧ k ≤ 10) : ∀ s ∈ [iS k], s.ok := by
  intro s hs
  rcases List.mem_singleton.1 hs with rfl
  rcases kvals h with rfl | rfl | rfl | rfl | rfl <;> (unfold iS Stm.ok i64ok; decide)
theorem apply_get {t : List Rw} {k : Int} (h : 6 ≤ k ∧ k ≤ 10) (hv : tval 0 t = true) : applyM t [gs k] = (t, [bif hasK t k (pl t k) then ⟨[t.getD (pl t k) rz], 0⟩ else r0], 0, 0) := by
  unfold applyM
  rw [okP_gs h, hv]
  have e : stp (gs k) t = (t, bif hasK t k (pl t k) then ⟨[t.getD (pl t k) rz], 0⟩ else r0, 0) := by
    show (t, rdR (gs k) t) = _
    have : rdR (gs k) t = (bif hasK t k (pl t k) then (⟨[t.getD (pl t k) rz], 0⟩, 0) else (r0, 0)) := rfl
    rw [this]
    cases hasK t k (pl t k) <;> rfl
  show appR t [gs k] t 0 [] = _
  unfold appR
  rw [e]
  rfl
theorem noK {t : List Rw} (h : ∀ r ∈ t, r.k ≤ 5) {k : Int} (hk : 6 ≤ k) (i : Nat) : hasK t k i = false := by
  unfold hasK
  by_cases hi : i < t.length
  · have := h _ (mem_getD t rz i hi)
    rw [show ((t.getD i rz).k == k) = false by rw [beq_eq_false_iff_ne]; omega, Bool.and_false]
  · rw [decide_eq_false hi]; rfl
theorem apply_ins {t : List Rw} {k : Int} (h : 6 ≤ k ∧ k ≤ 10) (hv : tval 0 t = true) (hk : ∀ r ∈ t, r.k ≤ 5) : applyM t [iS k] = (insT t (pl t k) ⟨k, 0, 0, 0⟩, [r0], 0, 0) := by
  unfold applyM
  rw [okP_is h, hv]
  have e : stp (iS k) t = (insT t (pl t k) ⟨k, 0, 0, 0⟩, r0, 0) := by
    show ((wrR (iS k) t (pl t k)).1, r0, (wrR (iS k) t (pl t k)).2) = _
    have : wrR (iS k) t (pl t k) = (bif hasK t k (pl t k) then (t, 17) else (insT t (pl t k) ⟨k, 0, 0, 0⟩, 0)) := rfl
    rw [this, noK hk h.1]; rfl
  show appR t [iS k] t 0 [] = _
  unfold appR
  rw [e]
  rfl
theorem pl_ins : ∀ (ts : List Rw) (y : Int) (x : Rw), x.k = y → pl (insT ts (pl ts y) x) y = pl ts y ∧ (insT ts (pl ts y) x).getD (pl ts y) rz = x ∧ pl ts y < (insT ts (pl ts y) x).length
  | [], y, x, h => by
    refine ⟨?_, rfl, Nat.zero_lt_one⟩
    show (bif leI y x.k then 0 else 1) = 0
    rw [leI_t (by omega)]; rfl
  | a :: zs, y, x, h => by
    obtain ⟨i1, i2, i3⟩ := pl_ins zs y x h
    by_cases c : y ≤ a.k
    · have e : pl (a :: zs) y = 0 := by unfold pl; rw [leI_t c]; rfl
      rw [e]
      refine ⟨?_, rfl, by simp [insT]⟩
      show (bif leI y x.k then 0 else _) = 0
      rw [leI_t (by omega)]; rfl
    · have e : pl (a :: zs) y = pl zs y + 1 := by
        show (bif leI y a.k then 0 else pl zs y + 1) = _
        rw [leI_f (by omega)]; rfl
      have e2 : insT (a :: zs) (pl zs y + 1) x = a :: insT zs (pl zs y) x := by simp [insT]
      rw [e, e2]
      refine ⟨?_, by simpa using i2, by simpa using i3⟩
      show (bif leI y a.k then 0 else pl (insT zs (pl zs y) x) y + 1) = _
      rw [leI_f (by omega), i1]; rfl
def getC (k : Int) (fz : Bool) (zs : List (Bool × Res)) : Cl := ⟨100, 110, false, [gs k], 1, 0, 0, fz, 2, zs⟩
def putC (k a b : Int) : Cl := ⟨a, b, false, [iS k], 1, 0, 0, false, 2, [(true, r0)]⟩
structure Bd (cs : List Cl) : Prop where
  good : ∀ c ∈ cs, c.ok ∧ okP c.prog = true ∧ ∀ s ∈ c.prog, s.key ≤ 5
theorem full_l {cs : List Cl} {g p : Cl} {j : Nat} (h : j < cs.length) : (cs ++ [g, p]).getD j c0 = cs.getD j c0 := by
  simp [List.getD_eq_getElem?_getD, List.getElem?_append_left h]
theorem full_g {cs : List Cl} {g p : Cl} : (cs ++ [g, p]).getD cs.length c0 = g := by simp
theorem full_p {cs : List Cl} {g p : Cl} : (cs ++ [g, p]).getD (cs.length + 1) c0 = p := by simp [List.getD_eq_getElem?_getD, List.getElem?_append_right]
theorem full_len {cs : List Cl} {g p : Cl} : (cs ++ [g, p]).length = cs.length + 2 := by simp
theorem no_ext {cs : List Cl} (hb : Bd cs) {k : Int} (hk : 6 ≤ k ∧ k ≤ 10) (fz : Bool) (zs : List (Bool × Res)) (hz : zs.map Prod.snd = [⟨[⟨k, 0, 0, 0⟩], 0⟩]) (a b : Int) (ha : 110 < a) : ∀ (r : List Nat) (t : List Rw) (ps : List Bool), ps.length = cs.length + 2 → KI t → ps.getD cs.length false = false → ps.getD (cs.length + 1) false = false → ¬ Ext (cs ++ [getC k fz zs, putC k a b]) t ps r
  | [], t, ps, hp, _, h1, _, he => by
    have := (complR_iff _ ps (by rw [full_len]; exact hp)).1 he cs.length (by rw [full_len]; omega) (by rw [full_g]; rfl)
    rw [h1] at this; cases this
  | j :: r, t, ps, hp, hT, h1, h2, he => by
    obtain ⟨e1, e2, e3, e4⟩ := he
    rw [full_len] at e1
    by_cases c1 : j < cs.length
    · rw [full_l c1] at e4
      obtain ⟨q1, q2, q3⟩ := hb.good _ (mem_getD cs c0 j c1)
      have q4 := (okP_V q2).1
      refine no_ext hb hk fz zs hz a b ha r _ (ps.set j true) (by rw [List.length_set]; exact hp) (ki_apply hT q1.pok q3 (by omega)) ?_ ?_ e4
      · rw [getD_set _ _ _ _ _ (by omega), if_neg (by omega)]; exact h1
      · rw [getD_set _ _ _ _ _ (by omega), if_neg (by omega)]; exact h2
    · by_cases c2 : j = cs.length
      · subst c2
        rw [full_g] at e3
        rw [show (getC k fz zs).prog = [gs k] from rfl, apply_get hk hT.2.1, noK hT.1 hk.1] at e3
        have e5 : lsEq rsEq (zs.map Prod.snd) [r0] = true := e3
        rw [hz, lsEq_iff rsEq_iff] at e5
        have e6 := (List.cons.inj e5).1
        have e7 := congrArg Res.rows e6
        simp [r0] at e7
      · have c3 : j = cs.length + 1 := by omega
        subst c3
        have := ((may_iff (by rw [full_len]; exact hp)).1 e2).2.2 cs.length (by rw [full_len]; omega) (by rw [full_g]; rfl) h1
        rw [full_g, full_p] at this
        exact this ha
theorem hist_then (full : List Cl) (hret : ∀ k, k < full.length → (full.getD k c0).fate = 1 → 10 * (k : Int) + 1 ≤ (full.getD k c0).ret) (extra : List Cl) (m : Nat)
    (fin : ∀ (now : List Rw) (ps : List Bool), KI now → ps.length = full.length → (∀ k, k < m → (full.getD k c0).fate = 1 → ps.getD k false = true) → (∀ k, m ≤ k → k < full.length → ps.getD k false = false) → ∃ r, Ext full now ps r) :
    ∀ (cs2 pre : List Cl) (now : List Rw) (ps : List Bool), full = pre ++ cs2 ++ extra → pre.length + cs2.length = m → (∀ c ∈ cs2, ∀ s ∈ c.prog, s.key ≤ 5) → KI now → HistOk pre.length now cs2 → ps.length = full.length →
    (∀ k, k < pre.length → (full.getD k c0).fate = 1 → ps.getD k false = true) → (∀ k, pre.length ≤ k → k < full.length → ps.getD k false = false) → ∃ r, Ext full now ps r
  | [], pre, now, ps, h, hm, _, hki, _, hp, h1, h2 => by
    have : pre.length = m := by simpa using hm
    rw [this] at h1 h2
    exact fin now ps hki hp h1 h2
  | c :: cs2, pre, now, ps, h, hm, hkey, hki, hh, hp, h1, h2 => by
    obtain ⟨now', hs, hh'⟩ := hh
    have hi : pre.length < full.length := by rw [h]; simp
    have hc : full.getD pre.length c0 = c := by rw [h]; simp
    have hpi : ps.getD pre.length false = false := h2 _ (Nat.le_refl _) hi
    have hpl : (pre ++ [c]).length = pre.length + 1 := by simp
    have hcs : full = (pre ++ [c]) ++ cs2 ++ extra := by rw [h]; simp
    have hm' : (pre ++ [c]).length + cs2.length = m := by rw [hpl]; rw [List.length_cons] at hm; omega
    obtain ⟨hne, hwf, hinv, hcase⟩ := hs
    have hkey2 : ∀ c ∈ cs2, ∀ s ∈ c.prog, s.key ≤ 5 := fun x hx => hkey x (by simp [hx])
    have hmay : c.fate ≠ 2 → may full ps pre.length = true := fun hf2 => by
      refine (may_iff hp).2 ⟨hpi, by rw [hc]; exact hf2, fun k hk hfk hpk => ?_⟩
      rw [hc]
      have h3 := hret k hk hfk
      by_cases hkp : k < pre.length
      · rw [h1 k hkp hfk] at hpk; cases hpk
      · omega
    have place : now' = (applyM now c.prog).1 → c.fate ≠ 2 → agr c (applyM now c.prog) = true → ∃ r, Ext full now ps r := by
      intro e hf2 ha
      have hki' : KI now' := by rw [e]; exact ki_apply hki hwf.pok (hkey c (by simp)) (by have := hwf.p5; omega)
      obtain ⟨r, hr⟩ := hist_then full hret extra m fin cs2 (pre ++ [c]) now' (ps.set pre.length true) hcs hm' hkey2 hki' (by rw [hpl]; exact hh') (by rw [List.length_set]; exact hp)
        (fun k hk hf => by
          rw [getD_set _ _ _ _ _ (by omega)]
          split
          · rfl
          · exact h1 k (by rw [hpl] at hk; omega) hf)
        (fun k hk hk2 => by
          rw [hpl] at hk
          rw [getD_set _ _ _ _ _ (by omega), if_neg (by omega)]
          exact h2 k (by omega) hk2)
      refine ⟨pre.length :: r, hi, hmay hf2, ?_, ?_⟩
      · rw [hc]; exact ha
      · rw [hc, ← e]; exact hr
    have skip : now' = now → c.fate ≠ 1 → ∃ r, Ext full now ps r := by
      intro e hf1
      rw [e] at hh'
      exact hist_then full hret extra m fin cs2 (pre ++ [c]) now ps hcs hm' hkey2 hki (by rw [hpl]; exact hh') hp
        (fun k hk hf => by
          rw [hpl] at hk
          by_cases e2 : k = pre.length
          · rw [e2, hc] at hf; exact absurd hf hf1
          · exact h1 k (by omega) hf)
        (fun k hk hk2 => h2 k (by rw [hpl] at hk; omega) hk2)
    rcases hcase with ⟨e, ec, ea, er, _, en⟩ | ⟨e, _, _, _, _, en⟩ | ⟨e, _, _, _, _, en⟩
    · refine place en (by omega) ?_
      unfold agr
      rw [e, ec, beq_self_i, ea, beq_self_i, lsEq_rs er]
      cases ((applyM now c.prog).2.2.2 == 0) <;> rfl
    · rcases en with en | en
      · refine place en (by omega) ?_
        unfold agr
        rw [e]; rfl
      · exact skip en (by omega)
    · exact skip en (by omega)
theorem put_get {cs : List Cl} {k : Int} (hk : 6 ≤ k ∧ k ≤ 10) (fz : Bool) (zs : List (Bool × Res)) (hz : zs.map Prod.snd = [⟨[⟨k, 0, 0, 0⟩], 0⟩]) (a b : Int) (ha : a ≤ 110) (hab : 110 < b) (now : List Rw) (ps : List Bool) (hki : KI now) (hp : ps.length = (cs ++ [getC k fz zs, putC k a b]).length)
    (h1 : ∀ j, j < cs.length → ((cs ++ [getC k fz zs, putC k a b]).getD j c0).fate = 1 → ps.getD j false = true) (h2 : ∀ j, cs.length ≤ j → j < (cs ++ [getC k fz zs, putC k a b]).length → ps.getD j false = false) : ∃ r, Ext (cs ++ [getC k fz zs, putC k a b]) now ps r := by
  have hn := full_len (cs := cs) (g := getC k fz zs) (p := putC k a b)
  rw [hn] at hp h2
  have hins := apply_ins hk hki.2.1 hki.1
  obtain ⟨pi1, pi2, pi3⟩ := pl_ins now k ⟨k, 0, 0, 0⟩ rfl
  have hv' : tval 0 (insT now (pl now k) ⟨k, 0, 0, 0⟩) = true := by
    have := (applyM_ok now [iS k] hki.2.2 (is_ok hk) (by show 1 ≤ 20; decide) (by have := ki_len hki; omega)).2.2.2.2.1 hki.2.1
    rw [hins] at this
    exact this
  have hget := apply_get hk hv'
  rw [pi1] at hget
  have hh : hasK (insT now (pl now k) ⟨k, 0, 0, 0⟩) k (pl now k) = true := by
    unfold hasK
    rw [decide_eq_true pi3, pi2, Bool.true_and, beq_iff_eq]
  rw [hh, pi2] at hget
  have gp : ∀ j, (ps.set (cs.length + 1) true).getD j false = if j = cs.length + 1 then true else ps.getD j false := fun j => getD_set _ _ _ _ _ (by omega)
  have gq : ∀ j, ((ps.set (cs.length + 1) true).set cs.length true).getD j false = if j = cs.length then true else (ps.set (cs.length + 1) true).getD j false := fun j => getD_set _ _ _ _ _ (by rw [List.length_set]; omega)
  refine ⟨[cs.length + 1, cs.length], by rw [hn]; omega, ?_, ?_, by rw [hn]; omega, ?_, ?_, ?_⟩
  · refine (may_iff (by rw [hn]; exact hp)).2 ⟨h2 _ (by omega) (by omega), by rw [full_p]; show ¬ (1 : Int) = 2; decide, fun j hj hf hpj => ?_⟩
    rw [hn] at hj
    rw [full_p]
    show ¬ _ < a
    by_cases c1 : j < cs.length
    · rw [h1 j c1 hf] at hpj; cases hpj
    · by_cases c2 : j = cs.length
      · subst c2; rw [full_g]; show ¬ (110 : Int) < a; omega
      · have : j = cs.length + 1 := by omega
        subst this; rw [full_p]; show ¬ b < a; omega
  · rw [full_p, show (putC k a b).prog = [iS k] from rfl, hins]
    show lsEq rsEq [r0] [r0] = true
    exact lsEq_rs rfl
  · refine (may_iff (by rw [List.length_set, hn]; exact hp)).2 ⟨?_, by rw [full_g]; show ¬ (1 : Int) = 2; decide, fun j hj hf hpj => ?_⟩
    · rw [gp, if_neg (by omega)]; exact h2 _ (Nat.le_refl _) (by omega)
    · rw [hn] at hj
      rw [full_g]
      show ¬ _ < (100 : Int)
      rw [gp] at hpj
      by_cases c1 : j < cs.length
      · rw [if_neg (by omega), h1 j c1 hf] at hpj; cases hpj
      · by_cases c2 : j = cs.length
        · subst c2; rw [full_g]; show ¬ (110 : Int) < 100; decide
        · have : j = cs.length + 1 := by omega
          rw [if_pos this] at hpj; cases hpj
  · rw [full_p, full_g, show (putC k a b).prog = [iS k] from rfl, hins, show (getC k fz zs).prog = [gs k] from rfl, hget]
    show lsEq rsEq (zs.map Prod.snd) [⟨[⟨k, 0, 0, 0⟩], 0⟩] = true
    exact lsEq_rs hz
  · refine (complR_iff _ _ (by rw [List.length_set, List.length_set, hn]; exact hp)).2 fun j hj hf => ?_
    rw [hn] at hj
    rw [gq, gp]
    split
    · rfl
    · split
      · rfl
      · exact h1 j (by omega) hf
end Go.Proofs.Ytnhahcomgeeobaa
