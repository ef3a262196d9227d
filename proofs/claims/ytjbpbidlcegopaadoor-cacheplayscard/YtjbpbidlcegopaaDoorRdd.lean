/- The reference's cache: Drop and Hints; lists of pages compared. -/
import Derived.Test.YtjbpbidlcegopaaDoorRcc
set_option linter.all false
namespace Go.Proofs.YtjbpbidlcegopaaDoor
open Go.Ev
theorem l32 (f : Bool) (x : Int) (ls : List Int) (hlen : ls.length ≤ 1000) : ∀ (rest done : List Int), ls = done ++ rest →
    lp 32 0 0 ⟨[(0, .lst f 1 (ls.map ir)), (1, .v (.int .i64 x)), (5, .v (.int .i64 ((done.length : Nat) : Int)))], []⟩ = some (bif decide (x ∈ rest) then ⟨none, ⟨[], []⟩, [.v (.bool true)]⟩ else ⟨some 0, ⟨[], []⟩, []⟩)
  | [], done, h => by
    rw [lp32_0]
    exact cF (ltI_f (by rw [List.length_map, h, List.append_nil]; omega)) (by simp)
  | y :: rest, done, h => by
    have hl := H.len_at (f := ir) h
    have ih := l32 f x ls hlen rest (done ++ [y]) (by rw [h]; simp)
    rw [lp32_0, H.row_at h, H.next_at (p := y) (by rw [List.length_map] at hl; omega)]
    refine cT (ltI_t (by omega)) (cT (by rw [leI_t (by omega), ltI_t (by omega)]; rfl) (cT rfl ?_))
    show cond (y == x) _ _ = _
    cases e : (y == x) with
    | true =>
      refine cT rfl ?_
      rw [show decide (x ∈ y :: rest) = true from decide_eq_true (by rw [eq_of_beq e]; simp)]; rfl
    | false =>
      refine cF rfl ?_
      have hne : x ≠ y := fun h => by rw [h, beq_self_eq_true] at e; cases e
      rw [show decide (x ∈ y :: rest) = decide (x ∈ rest) from decide_eq_decide.2 (by simp [hne])]
      exact ih
theorem s32 (f : Bool) (x : Int) (ls : List Int) (hlen : ls.length ≤ 1000) : ev 32 [.lst f 1 (ls.map ir), .v (.int .i64 x)] = some [.v (.bool (decide (x ∈ ls)))] := by
  have h := l32 f x ls hlen ls [] rfl
  rw [ev32]
  cases hd : decide (x ∈ ls) with
  | true => rw [hd] at h; exact bnd h (cF rfl (cT rfl rfl))
  | false => rw [hd] at h; exact bnd h (cT rfl (cT rfl rfl))
theorem l14 (n : Int) (b : Bool) (ps : List Pg) (hlen : ps.length ≤ 1000) (g : Bool) (ls : List Int) (hls : ls.length ≤ 1000) : ∀ (rest done acc : List Pg) (f : Bool), ps = done ++ rest → acc.length ≤ done.length → (f = true → acc = []) → ∃ f' : Bool, (f' = true → acc ++ rest.filter (fun p => !(decide (p.l ∈ ls))) = []) ∧
    lp 14 0 0 ⟨[(1, .lst g 1 (ls.map ir)), (2, .ptr 0 0 0), (4, .ptr 1 0 0), (5, .sl f 3 0 none), (6, .v (.int .i64 ((done.length : Nat) : Int)))], S16 n b ps acc⟩ =
      some ⟨some 0, ⟨[(2, .ptr 0 0 0), (4, .ptr 1 0 0), (5, .sl f' 3 0 none)], S16 n b ps (acc ++ rest.filter (fun p => !(decide (p.l ∈ ls))))⟩, []⟩
  | [], done, acc, f, h, _, hf => by
    refine ⟨f, fun e => by rw [hf e]; rfl, ?_⟩
    unfold S16
    rw [lp14_0]
    refine cF (ltI_f (by rw [List.length_map, h, List.append_nil]; omega)) ?_
    rw [List.filter_nil, List.append_nil]
  | p :: rest, done, acc, f, h, ha, hf => by
    have hl := len_at h
    have h32 := s32 g p.l ls hls
    have hdl : done.length ≤ 1000 := by rw [List.length_map] at hl; omega
    unfold S16 at *
    cases hd : decide (p.l ∈ ls) with
    | true =>
      rw [hd] at h32
      obtain ⟨f', hf', ih⟩ := l14 n b ps hlen g ls hls rest (done ++ [p]) acc f (by rw [h]; simp) (by simp; omega) hf
      rw [List.filter_cons, hd]
      refine ⟨f', hf', ?_⟩
      rw [lp14_0, row_at h, H.next_at (p := p) (by omega)]
      exact cT (ltI_t (by omega)) (cT (by rw [leI_t (by omega), ltI_t (by omega)]; rfl) (cT rfl (bnd h32 (cT rfl (cF rfl ih)))))
    | false =>
      rw [hd] at h32
      obtain ⟨f', hf', ih⟩ := l14 n b ps hlen g ls hls rest (done ++ [p]) (acc ++ [p]) false (by rw [h]; simp) (by simp; omega) (fun e => by cases e)
      rw [List.filter_cons, hd]
      have e1 : acc ++ (if (!false) = true then p :: rest.filter (fun p => !(decide (p.l ∈ ls))) else rest.filter (fun p => !(decide (p.l ∈ ls)))) = acc ++ [p] ++ rest.filter (fun p => !(decide (p.l ∈ ls))) := by simp
      rw [e1]
      refine ⟨f', hf', ?_⟩
      rw [lp14_0, row_at h, H.next_at (p := p) (by omega)]
      refine cT (ltI_t (by omega)) (cT (by rw [leI_t (by omega), ltI_t (by omega)]; rfl) (cT rfl (bnd h32 (cT rfl (cT rfl (cT (by rw [leI_t (by omega), ltI_t (by omega)]; rfl) (cT rfl (cT (leN_t (by rw [List.length_map]; omega)) ?_))))))))
      rw [show S16 n b ps (acc ++ [p]) = [⟨1, 30, 2, true, [[.v (.int .i64 n), .lst b 9 (ps.map Pg.row)]]⟩, ⟨1, 30, 2, true, [[.v (.int .i64 0), .sl true 2 0 none]]⟩, ⟨1, 42, 9, false, []⟩, ⟨1, 42, 9, false, acc.map Pg.row ++ [p.row]⟩] by unfold S16; rw [List.map_append]; rfl] at ih
      exact ih
theorem s_dropR (n : Int) (b : Bool) (ps : List Pg) (hp : ∀ p ∈ ps, p.ok) (hb : b = true → ps = []) (hl : ps.length ≤ 256) (f : Bool) (ls : List Int) (hls : ls.length ≤ 1000) :
    ∃ b' : Bool, (b' = true → dropO n ps ls = []) ∧ ev 14 [.agg [.v (.int .i64 n), .lst b 9 (ps.map Pg.row)], .lst f 1 (ls.map ir)] = some [.agg [.v (.int .i64 n), .lst b' 9 ((dropO n ps ls).map Pg.row)]] := by
  have hv := s_validc n b ps hp
  unfold dropO
  cases h : validB n ps with
  | false =>
    rw [h] at hv
    refine ⟨b, hb, ?_⟩
    rw [ev14]
    exact bnd hv (cT rfl (cT rfl rfl))
  | true =>
    rw [h] at hv
    obtain ⟨f', hf', hlp⟩ := l14 n b ps (by omega) f ls hls ps [] [] true rfl (Nat.le_refl _) (fun _ => rfl)
    rw [List.nil_append] at hf' hlp
    refine ⟨f', hf', ?_⟩
    rw [ev14]
    exact bnd hv (cT rfl (cF rfl (bnd hlp (cT rfl (cT rfl rfl)))))
theorem s53 : ev 53 [.v (.int .i64 256)] = some [.v (.int .i64 9)] := by rw [ev53]; rfl
theorem s54 (s : Nat) (h : s ≤ 8) : ev 54 [.v (.int .i64 (s : Int))] = some [.v (.int .i64 (104 + 16 * (s : Int)))] := by
  rw [ev54, show IntKind.i64.wrap (104 + IntKind.i64.wrap (16 * (s : Int))) = 104 + 16 * (s : Int) by rw [w_i64, w_i64]; omega]
  exact cF (ltI_f (by omega)) (cF (ltI_f (by omega)) rfl)
theorem l37 (l : Int) (hl : i64ok l) : ∀ (k s : Nat), k + s = 9 → (∀ t : Nat, t < s → ¬ (104 + 16 * (t : Int) < l ∧ l < 104 + 16 * (t : Int) + 16)) →
    ∃ a b : Int, lp 37 0 0 ⟨[(0, .v (.int .i64 256)), (1, .v (.int .i64 l)), (7, .v (.int .i64 (s : Int)))], []⟩ = some (bif H.segB l then ⟨none, ⟨[], []⟩, [.v (.int .i64 a), .v (.int .i64 b), .v (.bool true)]⟩ else ⟨some 0, ⟨[], []⟩, []⟩)
  | 0, s, hk, hn => by
    refine ⟨0, 0, ?_⟩
    have hs : s = 9 := by omega
    subst hs
    have hseg : H.segB l = false := by
      cases h : H.segB l with
      | false => rfl
      | true =>
        simp only [H.segB, Bool.and_eq_true, Bool.not_eq_true', beq_eq_false_iff_ne] at h
        obtain ⟨h1, h2, h3⟩ := h
        have h1 : 104 ≤ l := of_decide_eq_true h1
        have h2 : l < 248 := of_decide_eq_true h2
        have := hn ((l - 104) / 16).toNat (by omega)
        omega
    rw [hseg, lp37_0]
    exact bnd s53 (cT rfl (cF (by decide) rfl))
  | k + 1, s, hk, hn => by
    obtain ⟨h0, h1⟩ := hl
    have h54 := s54 s (by omega)
    have hw : IntKind.i64.wrap ((s : Int) + 1) = ((s + 1 : Nat) : Int) := by rw [w_i64]; omega
    have hw2 : IntKind.i64.wrap (104 + 16 * (s : Int) + 16) = 104 + 16 * (s : Int) + 16 := by rw [w_i64]; omega
    have e0 : ∀ x : Int, avInt (cellAt [AV.v (Value.int .i64 x)] 0) = x := fun _ => rfl
    by_cases hin : 104 + 16 * (s : Int) < l ∧ l < 104 + 16 * (s : Int) + 16
    · have hseg : H.segB l = true := by
        simp only [H.segB, Bool.and_eq_true, Bool.not_eq_true', beq_eq_false_iff_ne]
        exact ⟨leI_t (by omega), ltI_t (by omega), by omega⟩
      refine ⟨(s : Int), IntKind.i64.wrap (l - (104 + 16 * (s : Int))), ?_⟩
      · rw [hseg, lp37_0, hw]
        refine bnd s53 (cT rfl (cT (by rw [e0]; exact ltI_t (by omega)) (bnd h54 (cT rfl (bnd h54 (cT rfl (cT (by rw [e0]; exact ltI_t hin.1) (bnd h54 (cT rfl (cT (by rw [e0, hw2]; exact ltI_t hin.2) ?_))))))))))
        rfl
    · obtain ⟨a, b, ih⟩ := l37 l ⟨h0, h1⟩ k (s + 1) (by omega) (fun t ht => by
        by_cases e : t = s
        · subst e; exact hin
        · exact hn t (by omega))
      refine ⟨a, b, ?_⟩
      rw [lp37_0, hw]
      refine bnd s53 (cT rfl (cT (by rw [e0]; exact ltI_t (by omega)) (bnd h54 (cT rfl (bnd h54 (cT rfl ?_))))))
      rw [e0]
      by_cases h2 : 104 + 16 * (s : Int) < l
      · refine cT (ltI_t h2) (bnd h54 (cT rfl (cF (by rw [e0, hw2]; exact ltI_f (by omega)) ih)))
      · exact cF (ltI_f (by omega)) ih
theorem s37 (l : Int) (hl : i64ok l) : ∃ a b : Int, ev 37 [.v (.int .i64 256), .v (.int .i64 l)] = some [.v (.int .i64 a), .v (.int .i64 b), .v (.bool (H.segB l))] := by
  obtain ⟨a, b, h⟩ := l37 l hl 9 0 rfl (fun t ht => absurd ht (Nat.not_lt_zero _))
  cases hs : H.segB l with
  | true =>
    rw [hs] at h
    refine ⟨a, b, ?_⟩
    rw [ev37]
    exact bnd h (cF rfl (cT rfl rfl))
  | false =>
    rw [hs] at h
    refine ⟨0, 0, ?_⟩
    rw [ev37]
    exact bnd h (cT rfl (cT rfl rfl))
def S19 (n : Int) (b : Bool) (ps acc : List Pg) : Store := [⟨1, 30, 2, true, [[.v (.int .i64 n), .lst b 9 (ps.map Pg.row)]]⟩, ⟨1, 42, 9, false, acc.map Pg.row⟩]
theorem l19 (n : Int) (b : Bool) (ps : List Pg) (hlen : ps.length ≤ 1000) (hp : ∀ p ∈ ps, p.ok) : ∀ (rest done acc : List Pg) (f : Bool), ps = done ++ rest → acc.length ≤ done.length → ∃ f' : Bool,
    lp 19 0 0 ⟨[(1, .ptr 0 0 0), (3, .sl f 1 0 none), (4, .v (.int .i64 ((done.length : Nat) : Int)))], S19 n b ps acc⟩ =
      some ⟨some 0, ⟨[(3, .sl f' 0 0 none)], [⟨1, 42, 9, false, (acc ++ rest.filter (fun p => H.hintP p)).map Pg.row⟩]⟩, []⟩
  | [], done, acc, f, h, _ => by
    refine ⟨f, ?_⟩
    unfold S19
    rw [lp19_0]
    refine cF (ltI_f (by rw [List.length_map, h, List.append_nil]; omega)) ?_
    rw [List.filter_nil, List.append_nil]
  | p :: rest, done, acc, f, h, ha => by
    have hl := len_at h
    have hpo := hp p (by rw [h]; simp)
    have hdl : done.length ≤ 1000 := by rw [List.length_map] at hl; omega
    obtain ⟨x, b1, b2, c, d, e, ff, xs, code, h36, ht⟩ := s36 p hpo
    rw [tree_eq p hpo] at ht
    obtain ⟨a1, a2, h37⟩ := s37 p.l hpo.1
    have h38 := s38 p hpo.2.2.1
    obtain ⟨f1, ih1⟩ := l19 n b ps hlen hp rest (done ++ [p]) (acc ++ [p]) false (by rw [h]; simp) (by simp; omega)
    obtain ⟨f0, ih0⟩ := l19 n b ps hlen hp rest (done ++ [p]) acc f (by rw [h]; simp) (by simp; omega)
    unfold S19 at *
    have yes : H.hintP p = true → ∃ f' : Bool, (cond (leN (((List.length (acc.map Pg.row)) + 1) * 72) 140737488355328) (lp 19 0 0 ⟨[(1, .ptr 0 0 0), (3, .sl false 1 0 none), (4, .v (.int .i64 (((done ++ [p]).length : Nat) : Int)))], [⟨1, 30, 2, true, [[.v (.int .i64 n), .lst b 9 (ps.map Pg.row)]]⟩, ⟨1, 42, 9, false, acc.map Pg.row ++ [p.row]⟩]⟩) none) =
        some ⟨some 0, ⟨[(3, .sl f' 0 0 none)], [⟨1, 42, 9, false, (acc ++ (p :: rest).filter (fun p => H.hintP p)).map Pg.row⟩]⟩, []⟩ := fun hh => by
      refine ⟨f1, cT (leN_t (by rw [List.length_map]; omega)) ?_⟩
      rw [List.filter_cons, hh]
      have e1 : acc ++ (if true = true then p :: rest.filter (fun p => H.hintP p) else rest.filter (fun p => H.hintP p)) = acc ++ [p] ++ rest.filter (fun p => H.hintP p) := by simp
      rw [e1]
      refine Eq.trans ?_ ih1
      rw [List.map_append]; rfl
    have no : H.hintP p = false → ∃ f' : Bool, (lp 19 0 0 ⟨[(1, .ptr 0 0 0), (3, .sl f 1 0 none), (4, .v (.int .i64 (((done ++ [p]).length : Nat) : Int)))], [⟨1, 30, 2, true, [[.v (.int .i64 n), .lst b 9 (ps.map Pg.row)]]⟩, ⟨1, 42, 9, false, acc.map Pg.row⟩]⟩) =
        some ⟨some 0, ⟨[(3, .sl f' 0 0 none)], [⟨1, 42, 9, false, (acc ++ (p :: rest).filter (fun p => H.hintP p)).map Pg.row⟩]⟩, []⟩ := fun hh => by
      refine ⟨f0, ?_⟩
      rw [List.filter_cons, hh]
      exact ih0
    have go : ∀ {r : Option LR}, (cond (p.l == 96) (cond (leN (((List.length (acc.map Pg.row)) + 1) * 72) 140737488355328) (lp 19 0 0 ⟨[(1, .ptr 0 0 0), (3, .sl false 1 0 none), (4, .v (.int .i64 (((done ++ [p]).length : Nat) : Int)))], [⟨1, 30, 2, true, [[.v (.int .i64 n), .lst b 9 (ps.map Pg.row)]]⟩, ⟨1, 42, 9, false, acc.map Pg.row ++ [p.row]⟩]⟩) none)
        (cond (H.segB p.l) (cond (p.d0 % 256 == 3) (cond (leN (((List.length (acc.map Pg.row)) + 1) * 72) 140737488355328) (lp 19 0 0 ⟨[(1, .ptr 0 0 0), (3, .sl false 1 0 none), (4, .v (.int .i64 (((done ++ [p]).length : Nat) : Int)))], [⟨1, 30, 2, true, [[.v (.int .i64 n), .lst b 9 (ps.map Pg.row)]]⟩, ⟨1, 42, 9, false, acc.map Pg.row ++ [p.row]⟩]⟩) none)
          (cond (code == 0) (cond (ltI 0 x) (cond (leN (((List.length (acc.map Pg.row)) + 1) * 72) 140737488355328) (lp 19 0 0 ⟨[(1, .ptr 0 0 0), (3, .sl false 1 0 none), (4, .v (.int .i64 (((done ++ [p]).length : Nat) : Int)))], [⟨1, 30, 2, true, [[.v (.int .i64 n), .lst b 9 (ps.map Pg.row)]]⟩, ⟨1, 42, 9, false, acc.map Pg.row ++ [p.row]⟩]⟩) none)
            (lp 19 0 0 ⟨[(1, .ptr 0 0 0), (3, .sl f 1 0 none), (4, .v (.int .i64 (((done ++ [p]).length : Nat) : Int)))], [⟨1, 30, 2, true, [[.v (.int .i64 n), .lst b 9 (ps.map Pg.row)]]⟩, ⟨1, 42, 9, false, acc.map Pg.row⟩]⟩))
            (lp 19 0 0 ⟨[(1, .ptr 0 0 0), (3, .sl f 1 0 none), (4, .v (.int .i64 (((done ++ [p]).length : Nat) : Int)))], [⟨1, 30, 2, true, [[.v (.int .i64 n), .lst b 9 (ps.map Pg.row)]]⟩, ⟨1, 42, 9, false, acc.map Pg.row⟩]⟩)))
          (lp 19 0 0 ⟨[(1, .ptr 0 0 0), (3, .sl f 1 0 none), (4, .v (.int .i64 (((done ++ [p]).length : Nat) : Int)))], [⟨1, 30, 2, true, [[.v (.int .i64 n), .lst b 9 (ps.map Pg.row)]]⟩, ⟨1, 42, 9, false, acc.map Pg.row⟩]⟩))) = r →
        lp 19 0 0 ⟨[(1, .ptr 0 0 0), (3, .sl f 1 0 none), (4, .v (.int .i64 ((done.length : Nat) : Int)))], [⟨1, 30, 2, true, [[.v (.int .i64 n), .lst b 9 (ps.map Pg.row)]]⟩, ⟨1, 42, 9, false, acc.map Pg.row⟩]⟩ = r := by
      intro r hr
      rw [lp19_0, row_at h, H.next_at (p := p) (by omega)]
      refine cT (ltI_t (by omega)) (cT (by rw [leI_t (by omega), ltI_t (by omega)]; rfl) (cT rfl (bnd h36 (cT rfl (cT rfl (bnd h37 (cT rfl (cT rfl (cT rfl ?_)))))))))
      show cond (p.l == 96) _ (cond (H.segB p.l) _ _) = _
      cases h1 : (p.l == 96) with
      | true => rw [h1] at hr; exact hr
      | false =>
      rw [h1] at hr
      refine cF rfl ?_
      cases h2 : H.segB p.l with
      | false => rw [h2] at hr; exact hr
      | true =>
      rw [h2] at hr
      exact cT rfl (bnd h38 (cT rfl hr))
    have hdef : H.hintP p = ((p.l == 96) || (H.segB p.l && ((p.d0 % 256 == 3) || ((code == 0) && ltI 0 x)))) := by rw [ht]; rfl
    cases h1 : (p.l == 96) with
    | true =>
      obtain ⟨f', hf⟩ := yes (by rw [hdef, h1]; rfl)
      exact ⟨f', go (by rw [h1]; exact hf)⟩
    | false =>
    cases h2 : H.segB p.l with
    | false =>
      obtain ⟨f', hf⟩ := no (by rw [hdef, h1, h2]; rfl)
      exact ⟨f', go (by rw [h1, h2]; exact hf)⟩
    | true =>
    cases h3 : (p.d0 % 256 == 3) with
    | true =>
      obtain ⟨f', hf⟩ := yes (by rw [hdef, h1, h2, h3]; rfl)
      exact ⟨f', go (by rw [h1, h2, h3]; exact hf)⟩
    | false =>
    cases h4 : (code == 0) with
    | false =>
      obtain ⟨f', hf⟩ := no (by rw [hdef, h1, h2, h3, h4]; rfl)
      exact ⟨f', go (by rw [h1, h2, h3, h4]; exact hf)⟩
    | true =>
    cases h5 : ltI 0 x with
    | true =>
      obtain ⟨f', hf⟩ := yes (by rw [hdef, h1, h2, h3, h4, h5]; rfl)
      exact ⟨f', go (by rw [h1, h2, h3, h4, h5]; exact hf)⟩
    | false =>
      obtain ⟨f', hf⟩ := no (by rw [hdef, h1, h2, h3, h4, h5]; rfl)
      exact ⟨f', go (by rw [h1, h2, h3, h4, h5]; exact hf)⟩
theorem s_hintsR (n : Int) (b : Bool) (ps : List Pg) (hp : ∀ p ∈ ps, p.ok) (hl : ps.length ≤ 256) : ∃ b' : Bool, ev 19 [.agg [.v (.int .i64 n), .lst b 9 (ps.map Pg.row)]] = some [.ow b' 42 9 ((hintO n ps).map Pg.row)] := by
  have hv := s_validc n b ps hp
  unfold hintO
  cases h : validB n ps with
  | false =>
    rw [h] at hv
    refine ⟨true, ?_⟩
    rw [ev19]
    exact bnd hv (cT rfl (cT rfl rfl))
  | true =>
    rw [h] at hv
    obtain ⟨f', hlp⟩ := l19 n b ps (by omega) hp ps [] [] true rfl (Nat.le_refl _)
    rw [List.nil_append] at hlp
    refine ⟨f', ?_⟩
    rw [ev19]
    exact bnd hv (cT rfl (cF rfl (bnd hlp (cT rfl (cT rfl rfl)))))
theorem l12 (a b : Bool) (ps : List Pg) (hlen : ps.length ≤ 1000) : ∀ (rest done : List Pg), ps = done ++ rest →
    lp 12 0 0 ⟨[(0, .lst a 9 (ps.map Pg.row)), (1, .lst b 9 (ps.map Pg.row)), (5, .v (.int .i64 ((done.length : Nat) : Int)))], []⟩ = some ⟨some 0, ⟨[], []⟩, []⟩
  | [], done, h => by
    rw [lp12_0]
    exact cF (ltI_f (by rw [List.length_map, h, List.append_nil]; omega)) rfl
  | p :: rest, done, h => by
    have hl := len_at h
    have ih := l12 a b ps hlen rest (done ++ [p]) (by rw [h]; simp)
    rw [lp12_0, row_at h, H.next_at (p := p) (by rw [List.length_map] at hl; omega)]
    have hb : (leI 0 ((done.length : Nat) : Int) && ltI ((done.length : Nat) : Int) (((ps.map Pg.row).length : Nat) : Int)) = true := by rw [leI_t (by omega), ltI_t (by omega)]; rfl
    refine cT (ltI_t (by omega)) (cT hb (cT rfl (cT hb (cT rfl (cF ?_ (cT hb (cT rfl (cT hb (cT rfl (cF ?_ (cT hb (cT rfl (cT hb (cT rfl (cF ?_ ih)))))))))))))))
    · show (!(p.l == p.l)) = false
      rw [beq_self_i]; rfl
    · show (!(p.h == p.h)) = false
      rw [beq_self_i]; rfl
    · show (!((p.d0 == p.d0) && ((p.d1 == p.d1) && ((p.d2 == p.d2) && ((p.d3 == p.d3) && ((p.d4 == p.d4) && ((p.d5 == p.d5) && (p.d6 == p.d6)))))))) = false
      simp only [beq_self_i]; rfl
theorem s12 (a b : Bool) (ps : List Pg) (hlen : ps.length ≤ 1000) : ev 12 [.lst a 9 (ps.map Pg.row), .lst b 9 (ps.map Pg.row)] = some [.v (.bool true)] := by
  rw [ev12]
  exact cF (by rw [beq_self_i]; rfl) (bnd (l12 a b ps hlen ps [] rfl) (cT rfl (cT rfl rfl)))
theorem s17 (n : Int) (a b : Bool) (ps : List Pg) (hlen : ps.length ≤ 1000) : ev 17 [.agg [.v (.int .i64 n), .lst a 9 (ps.map Pg.row)], .agg [.v (.int .i64 n), .lst b 9 (ps.map Pg.row)]] = some [.v (.bool true)] := by
  rw [ev17]
  exact cT (beq_self_i _) (bnd (s12 a b ps hlen) (cT rfl rfl))
end Go.Proofs.YtjbpbidlcegopaaDoor
