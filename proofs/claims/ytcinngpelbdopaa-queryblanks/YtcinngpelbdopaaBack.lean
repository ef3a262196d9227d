/- QueryBack. -/
import Derived.Test.YtcinngpelbdopaaBck
set_option linter.all false
namespace Go.Proofs.Ytcinngpelbdopaa
open Go.Ev
attribute [local congr] bind_first cond_first
/-! ## Texts are plain -/
def asc (w : B) : Prop := ∀ b ∈ w, b.toNat < 128
theorem asc_lit {w : B} (h : w.all (fun b => decide (b.toNat < 128)) = true) : asc w := fun b hb => of_decide_eq_true (List.all_eq_true.1 h b hb)
theorem asc_app {x y : B} (hx : asc x) (hy : asc y) : asc (x ++ y) := fun b hb => by
  rcases List.mem_append.1 hb with h | h
  · exact hx b h
  · exact hy b h
theorem asc_nat (n : Nat) : asc (natD n) := fun b hb => by
  have h := of_decide_eq_true (natD_all n b hb)
  omega
theorem asc_int (v : Int) : asc (intD v) := by
  unfold intD
  split
  · exact asc_app (x := [45]) (asc_lit rfl) (asc_nat _)
  · exact asc_nat _
theorem asc_col (c : Int) : asc (colB c) := by
  unfold colB
  (repeat' split) <;> exact asc_lit rfl
theorem asc_op (c : Int) : asc (opB c) := by
  unfold opB
  (repeat' split) <;> exact asc_lit rfl
theorem asc_kwd (c : Int) : asc (kwd c) := by
  unfold kwd
  (repeat' split) <;> exact asc_lit rfl
theorem asc_test (s : Stm) : ∀ w ∈ testW s, asc w := fun w hw => by
  simp only [testW, List.mem_cons, List.not_mem_nil, or_false] at hw
  rcases hw with rfl | rfl | rfl
  · exact asc_col _
  · exact asc_op _
  · exact asc_int _
theorem asc_wds (s : Stm) (p : Int) : ∀ w ∈ wds s p, asc w := by
  intro w hw
  unfold wds at hw
  repeat' split at hw
  all_goals first
    | exact asc_test s w hw
    | (rcases List.mem_cons.1 hw with rfl | hw
       · first
         | exact asc_int _
         | exact asc_col _
         | exact asc_lit rfl
       · first
         | exact asc_test s w hw
         | (simp only [List.mem_cons, List.not_mem_nil, or_false] at hw
            rcases hw with rfl | rfl <;> exact asc_int _)
         | (simp only [List.mem_cons, List.not_mem_nil, or_false] at hw
            subst hw
            exact asc_int _)
         | (cases hw))
    | (cases hw)
theorem asc_tail {sep : B} (hs : asc sep) : ∀ (ws : List B), (∀ w ∈ ws, asc w) → asc (Go.Lib.joinTail sep ws)
  | [], _ => fun b hb => by cases hb
  | w :: ws, h => by
    have h1 := h w (List.mem_cons_self ..)
    have h2 := asc_tail hs ws fun v hv => h v (List.mem_cons_of_mem _ hv)
    intro b hb
    have e : Go.Lib.joinTail sep (w :: ws) = sep ++ (w ++ Go.Lib.joinTail sep ws) := by unfold Go.Lib.joinTail; simp
    rw [e] at hb
    rcases List.mem_append.1 hb with hb | hb
    · exact hs b hb
    rcases List.mem_append.1 hb with hb | hb
    · exact h1 b hb
    · exact h2 b hb
theorem asc_join {sep : B} (hs : asc sep) (ws : List B) (h : ∀ w ∈ ws, asc w) : asc (Go.Lib.join ws sep) := by
  cases ws with
  | nil => exact fun b hb => by cases hb
  | cons w ws =>
    rw [Go.Lib.join_cons]
    exact asc_app (h w (List.mem_cons_self ..)) (asc_tail hs ws fun v hv => h v (List.mem_cons_of_mem _ hv))
theorem asc_stm (s : Stm) : asc (stmT s) := asc_join (asc_lit rfl) _ fun w hw => by
  rcases List.mem_cons.1 hw with rfl | hw
  · exact asc_kwd _
  · obtain ⟨p, _, hw⟩ := List.mem_flatMap.1 hw
    exact asc_wds s p w hw
theorem asc_fmt (l : List Stm) : okTxt (fmtL l) := asc_join (asc_lit rfl) _ fun w hw => by
  obtain ⟨s, _, rfl⟩ := List.mem_map.1 hw
  exact asc_stm s

/-! ## Alike -/
instance : DecidableEq Stm := fun a b => if h : seq a b = true then isTrue ((seq_iff a b).1 h) else isFalse (fun e => h ((seq_iff a b).2 e))
theorem l_same (l r : List Stm) (nl nr : Bool) (hl : l.length ≤ 1000000) (he : l.length = r.length) : ∀ (k i : Nat), i + k = l.length →
    lp 16 0 0 ⟨[(0, .lst nl 12 (l.map Stm.row)), (1, .lst nr 12 (r.map Stm.row)), (5, .v (.int .i64 (i : Int)))], []⟩ = some (bif decide (l.drop i = r.drop i) then ⟨some 0, ⟨[], []⟩, []⟩ else ⟨none, ⟨[], []⟩, [.v (.bool false)]⟩)
  | 0, i, hi => by
    rw [List.drop_of_length_le (by omega), List.drop_of_length_le (by omega), lp16_0, List.length_map, ltI_f (by omega)]; rfl
  | k + 1, i, hi => by
    have e1 : IntKind.i64.wrap ((i : Int) + 1) = ((i + 1 : Nat) : Int) := by rw [w_i64]; omega
    have ih := l_same l r nl nr hl he k (i + 1) (by omega)
    have hi1 : i < l.length := by omega
    have hi2 : i < r.length := by omega
    have g1 : lget (l.map Stm.row) i = l[i].row := by unfold lget; simp [hi1]
    have g2 : lget (r.map Stm.row) i = r[i].row := by unfold lget; simp [hi2]
    rw [List.drop_eq_getElem_cons hi1, List.drop_eq_getElem_cons hi2, lp16_0, List.length_map, List.length_map, ltI_t (show (i : Int) < ((l.length : Nat) : Int) by omega), ltI_t (show (i : Int) < ((r.length : Nat) : Int) by omega), leI_t (show (0 : Int) ≤ (i : Int) by omega), Int.toNat_natCast, g1, g2, e1, ih]
    refine cT rfl (cT rfl (cT rfl (cT rfl (cT rfl ?_))))
    show cond (!(seq l[i] r[i])) _ _ = _
    by_cases h : l[i] = r[i]
    · rw [(seq_iff _ _).2 h, h]
      refine cF rfl ?_
      refine congrArg some ?_
      by_cases hd : l.drop (i + 1) = r.drop (i + 1)
      · rw [decide_eq_true hd, decide_eq_true (by rw [hd])]
      · rw [decide_eq_false hd, decide_eq_false (fun e => hd (List.cons.inj e).2)]
    · have : seq l[i] r[i] = false := by
        cases hs : seq l[i] r[i] with
        | false => rfl
        | true => exact absurd ((seq_iff _ _).1 hs) h
      rw [this]
      refine cT rfl ?_
      rw [decide_eq_false (fun e => h (List.cons.inj e).1)]; rfl
theorem s_same (l r : List Stm) (nl nr : Bool) (hl : l.length ≤ 1000000) : ev 16 [.lst nl 12 (l.map Stm.row), .lst nr 12 (r.map Stm.row)] = some [.v (.bool (decide (l = r)))] := by
  refine (ev16 _ _ _ _).trans ?_
  rw [List.length_map, List.length_map]
  by_cases he : l.length = r.length
  · refine cF (by rw [he]; simp) ?_
    have key := l_same l r nl nr hl he l.length 0 (by omega)
    rw [List.drop_zero, List.drop_zero] at key
    refine bnd key ?_
    cases decide (l = r) <;> rfl
  · refine cT (by rw [eqB_f (by omega)]; rfl) ?_
    rw [decide_eq_false (fun e => he (by rw [e]))]
/-- Programs have one text only if they are one. -/
theorem fmt_inj {p q : List Stm} (hV : ∀ t ∈ p, t.V) (hok : ∀ t ∈ p, t.ok) (h8 : 1 ≤ p.length ∧ p.length ≤ 8) (hV2 : ∀ t ∈ q, t.V) (hok2 : ∀ t ∈ q, t.ok) (h82 : 1 ≤ q.length ∧ q.length ≤ 8) (h : fmtL p = fmtL q) : p = q := by
  have h1 := prs_fmt p hV hok h8
  rw [h, prs_fmt q hV2 hok2 h82] at h1
  exact (Except.ok.inj h1).symm
theorem rowsB (l : List Stm) : (false || (List.all (l.map Stm.row) rowV && true)) = true := by rw [rows_V]; rfl
set_option maxRecDepth 100000
theorem back_all {N : Nat} (l : List AV) (h : TypA Try.prog N Try.f4.params.toList l) : ∃ n, evF Try.prog cfg n 4 l = some [.v (.bool true)] := by
  rw [show Try.f4.params.toList = [22, 22] by kernel_rfl] at h
  obtain ⟨a0, r, rfl, t0, h⟩ := h
  obtain ⟨a1, r, rfl, t1, h⟩ := h
  obtain rfl : r = [] := h
  obtain ⟨xn, x, rfl, _, _, f0⟩ := openV22 t0
  obtain ⟨yn, y, rfl, _, _, f1⟩ := openV22 t1
  obtain ⟨rs, rfl, hrs⟩ := raws f0
  obtain ⟨rt, rfl, hrt⟩ := raws f1
  clear t0 t1 f0 f1
  refine evF_of_evL ?_
  refine (ev4 _ _ _ _).trans ?_
  rw [List.length_map, List.length_map]
  by_cases h8 : 8 < rs.length
  · rw [ltI_t (by omega)]; rfl
  rw [ltI_f (by omega), cond_false]
  by_cases h82 : 8 < rt.length
  · rw [ltI_t (by omega)]; rfl
  rw [ltI_f (by omega), cond_false]
  by_cases h1 : rs.length < 1
  · rw [ltI_t (by omega)]; rfl
  rw [ltI_f (by omega), cond_false]
  by_cases h12 : rt.length < 1
  · rw [ltI_t (by omega)]; rfl
  rw [ltI_f (by omega), cond_false]
  obtain ⟨p, hp1, hp2, hp3, hp⟩ := s_program rs hrs xn false (by omega)
  obtain ⟨q, hq1, hq2, hq3, hq⟩ := s_program rt hrt yn false (by omega)
  have hp3 := hp3 rfl
  have hq3 := hq3 rfl
  have hF : ∀ (l : List Stm), 1 ≤ l.length ∧ l.length ≤ 8 → (∀ s ∈ l, s.V) → (∀ s ∈ l, s.ok) → ev 11 [.lst l.isEmpty 12 (l.map Stm.row)] = some [.v (.string (bs (fmtL l))), .v (.int .i64 0)] := fun l h8 hV hok => by
    have := s_Format l l.isEmpty hok
    unfold fmtR at this
    rw [decide_eq_true h8, show l.all Stm.valid = true from List.all_eq_true.2 fun s hs => decide_eq_true (hV s hs)] at this
    exact this
  have b1 := fmtL_len p hp2
  refine bnd hp (cT rfl (bnd hq (cT rfl (bnd (hF p (by omega) hp3 hp2) (cT rfl (cT rfl (bnd (hF q (by omega) hq3 hq2) (cT rfl (cT rfl (cF rfl (cF rfl (bnd s_awake (cT rfl (cF rfl ?_))))))))))))))
  by_cases hlong : 1000 < (fmtL p).length
  · refine bnd (s_Parse_long _ hlong) (cT rfl (cT rfl (cT rfl (cT ?_ rfl))))
    show ltI 1000 (((bs (fmtL p)).size : Nat) : Int) = true
    rw [bs_size]; exact ltI_t (by omega)
  · have hP := s_Parse (l := fmtL p) (by omega) (asc_fmt p) (by omega)
    rw [prs_of (prs_fmt p hp3 hp2 (by omega))] at hP
    have ho : ∀ (l : List Stm) (n : Bool), l.length ≤ 8 → ev 13 [.lst n 12 (l.map Stm.row)] = some [.ow l.isEmpty 45 12 (l.map Stm.row)] := fun l n h => s_owns l n (by omega)
    refine bnd hP (cT rfl (cT rfl (cT rfl (cF ?_ (cT rfl (cT rfl ?_))))))
    · show ltI 1000 (((bs (fmtL p)).size : Nat) : Int) = false
      rw [bs_size]; exact ltI_f (by omega)
    refine bnd (ho p _ (by omega)) (cT rfl (cT (rowsB p) ?_))
    refine bnd (ho p _ (by omega)) (cT rfl (cT (rowsB p) ?_))
    refine bnd (s_same p p _ _ (by omega)) (cT rfl (cT (decide_eq_true rfl) ?_))
    refine bnd (ho p _ (by omega)) (cT rfl (cT (rowsB p) ?_))
    refine bnd (ho q _ (by omega)) (cT rfl (cT (rowsB q) ?_))
    refine bnd (s_same p q _ _ (by omega)) (cT rfl ?_)
    show some [AV.v (.bool ((ByteArray.toList (bs (fmtL p)) == ByteArray.toList (bs (fmtL q))) == decide (p = q)))] = _
    rw [bs_toList, bs_toList]
    by_cases e : p = q
    · subst e; simp
    · have : fmtL p ≠ fmtL q := fun h => e (fmt_inj hp3 hp2 (by omega) hq3 hq2 (by omega) h)
      rw [beq_eq_false_iff_ne.2 this, decide_eq_false e]; rfl
end Go.Proofs.Ytcinngpelbdopaa
