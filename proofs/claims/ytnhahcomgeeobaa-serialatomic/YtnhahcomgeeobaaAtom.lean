/- SerialAtomic: what the statement's function answers. -/
import Derived.Test.YtnhahcomgeeobaaAppl
set_option linter.all false
namespace Go.Proofs.Ytnhahcomgeeobaa
open Go.Ev
set_option maxRecDepth 100000
theorem n1_of {x : Int} (h : x = 0 ∨ x = 2 ∨ x = 16 ∨ x = 17 ∨ x = 20) : x ≠ 1 := by omega
theorem stp_code (s : Stm) (ts : List Rw) : (stp s ts).2.2 ≠ 1 := by
  unfold stp
  cases leI s.k 4 with
  | true =>
    simp only [cond_true]
    unfold wrR
    generalize decide (-9223372036854775808 ≤ (ts.getD (pl ts s.key) rz).col s.col.toNat + s.v ∧ (ts.getD (pl ts s.key) rz).col s.col.toNat + s.v ≤ 9223372036854775807) = dd
    cases (s.k == 1) <;> cases hasK ts s.key (pl ts s.key) <;> cases (s.k == 4) <;> cases (s.k == 2) <;> cases (s.k == 3) <;> cases dd <;> (refine n1_of ?_; first | exact .inl rfl | exact .inr (.inl rfl) | exact .inr (.inr (.inl rfl)) | exact .inr (.inr (.inr (.inl rfl))) | exact .inr (.inr (.inr (.inr rfl))))
  | false =>
    simp only [cond_false]
    unfold rdR
    cases (s.k == 6) <;> cases (s.k == 7) <;> cases (s.k == 8) <;> cases (s.k == 5) <;> cases sumB (tot s.col.toNat (ts.filter (selB s))) <;> cases hasK ts s.key (pl ts s.key) <;> cases holdB s.wc s.wo s.wv (ts.getD (pl ts s.key) rz).a (ts.getD (pl ts s.key) rz).b (ts.getD (pl ts s.key) rz).c <;> (refine n1_of ?_; first | exact .inl rfl | exact .inr (.inl rfl) | exact .inr (.inr (.inl rfl)) | exact .inr (.inr (.inr (.inl rfl))) | exact .inr (.inr (.inr (.inr rfl))))
theorem appR_code (t0 : List Rw) : ∀ (l : List Stm) (ts : List Rw) (i : Nat) (acc : List Res), (appR t0 l ts i acc).2.2.2 ≠ 1
  | [], _, _, _ => by show ¬ ((0 : Int) = 1); decide
  | s :: ss, ts, i, acc => by
    unfold appR
    cases (stp s ts).2.2 == 0 with
    | true => exact appR_code t0 ss _ _ _
    | false => exact stp_code s ts
theorem applyM_arg (t : List Rw) (l : List Stm) : (applyM t l).2.2.2 = 1 ↔ (okP l && tval 0 t) = false := by
  unfold applyM
  cases okP l && tval 0 t with
  | true => exact ⟨fun h => absurd h (appR_code t l t 0 []), fun h => by cases h⟩
  | false => exact ⟨fun _ => rfl, fun _ => rfl⟩
theorem appR_gen (t0 t1 : List Rw) : ∀ (l : List Stm) (ts : List Rw) (i j : Nat) (acc bcc : List Res), (appR t0 l ts i acc).2.2.2 = (appR t1 l ts j bcc).2.2.2 ∧
    ((appR t0 l ts i acc).2.2.2 = 0 → (appR t0 l ts i acc).1 = (appR t1 l ts j bcc).1 ∧ ∃ rs, (appR t0 l ts i acc).2.1 = acc ++ rs ∧ (appR t1 l ts j bcc).2.1 = bcc ++ rs) ∧
    ((appR t0 l ts i acc).2.2.2 ≠ 0 → (appR t0 l ts i acc).1 = t0 ∧ ∃ m, (appR t0 l ts i acc).2.2.1 = i + m ∧ (appR t1 l ts j bcc).2.2.1 = j + m)
  | [], ts, i, j, acc, bcc => ⟨rfl, fun _ => ⟨rfl, [], by simp [appR], by simp [appR]⟩, fun h => absurd rfl h⟩
  | s :: ss, ts, i, j, acc, bcc => by
    have ih := appR_gen t0 t1 ss (stp s ts).1 (i + 1) (j + 1) (acc ++ [(stp s ts).2.1]) (bcc ++ [(stp s ts).2.1])
    unfold appR
    cases hc : ((stp s ts).2.2 == 0) with
    | true =>
      simp only [cond_true]
      refine ⟨ih.1, fun h => ?_, fun h => ?_⟩
      · obtain ⟨h1, rs, h2, h3⟩ := ih.2.1 h
        exact ⟨h1, (stp s ts).2.1 :: rs, by rw [h2, List.append_assoc]; rfl, by rw [h3, List.append_assoc]; rfl⟩
      · obtain ⟨h1, m, h2, h3⟩ := ih.2.2 h
        exact ⟨h1, m + 1, by omega, by omega⟩
    | false =>
      refine ⟨rfl, fun h => ?_, fun _ => ⟨rfl, 0, rfl, rfl⟩⟩
      simp only [cond_false] at h
      rw [h] at hc; cases hc
theorem appR_app (t0 : List Rw) (q : List Stm) : ∀ (p : List Stm) (ts : List Rw) (i : Nat) (acc : List Res), (appR t0 p ts i acc).2.2.2 = 0 → appR t0 (p ++ q) ts i acc = appR t0 q (appR t0 p ts i acc).1 (i + p.length) (appR t0 p ts i acc).2.1
  | [], ts, i, acc, _ => rfl
  | s :: ss, ts, i, acc, h => by
    rw [List.cons_append]
    unfold appR at h
    rw [appR.eq_def t0 (s :: (ss ++ q)), appR.eq_def t0 (s :: ss)]
    simp only
    cases hc : ((stp s ts).2.2 == 0) with
    | true =>
      rw [hc] at h
      simp only [cond_true] at h ⊢
      rw [appR_app t0 q ss _ _ _ h, List.length_cons, show i + 1 + ss.length = i + (ss.length + 1) by omega]
    | false =>
      rw [hc] at h
      simp only [cond_false] at h
      rw [h] at hc; cases hc
/-- A program in two parts. -/
theorem two_parts (t : List Rw) (p q : List Stm) (hq : 1 ≤ q.length) (hl : p.length + q.length ≤ 8) (ht : tval 0 t = true) (hT : OkT t) (hlt : t.length ≤ 5) (hok : ∀ s ∈ p, s.ok) (he : (applyM t p).2.2.2 = 0) :
    ((applyM (applyM t p).1 q).2.2.2 = 1 → (applyM t (p ++ q)).2.2.2 = 1) ∧
    ((applyM (applyM t p).1 q).2.2.2 ≠ 1 → (applyM t (p ++ q)).2.2.2 = (applyM (applyM t p).1 q).2.2.2 ∧
      ((applyM (applyM t p).1 q).2.2.2 ≠ 0 → (applyM t (p ++ q)).1 = t ∧ (applyM t (p ++ q)).2.2.1 = p.length + (applyM (applyM t p).1 q).2.2.1) ∧
      ((applyM (applyM t p).1 q).2.2.2 = 0 → (applyM t (p ++ q)).1 = (applyM (applyM t p).1 q).1 ∧ (applyM t (p ++ q)).2.1 = (applyM t p).2.1 ++ (applyM (applyM t p).1 q).2.1)) := by
  have hpa : (okP p && tval 0 t) = true := by
    cases h : okP p && tval 0 t with
    | true => rfl
    | false => rw [(applyM_arg t p).2 h] at he; cases he
  have hp : okP p = true := by rw [Bool.and_eq_true] at hpa; exact hpa.1
  have hv := (applyM_ok t p hT hok (by omega) (by omega)).2.2.2.2.1 ht
  have hpq : okP (p ++ q) = okP q := by
    unfold okP at hp ⊢
    rw [Bool.and_eq_true] at hp
    rw [List.all_append, hp.2, List.length_append, decide_eq_true (by omega), decide_eq_true (by omega)]
    rfl
  have eA : applyM t p = appR t p t 0 [] := by unfold applyM; rw [hpa]; rfl
  refine ⟨fun h => ?_, fun h => ?_⟩
  · rw [applyM_arg] at h ⊢
    rw [hpq, ht]
    rw [hv] at h
    exact h
  · have hqa : (okP q && tval 0 (applyM t p).1) = true := by
      cases hx : okP q && tval 0 (applyM t p).1 with
      | true => rfl
      | false => exact absurd ((applyM_arg _ _).2 hx) h
    have hq' : okP q = true := by rw [Bool.and_eq_true] at hqa; exact hqa.1
    have eB : applyM (applyM t p).1 q = appR (applyM t p).1 q (applyM t p).1 0 [] := by rw [applyM, hqa]; rfl
    have eC : applyM t (p ++ q) = appR t q (applyM t p).1 (0 + p.length) (applyM t p).2.1 := by
      rw [applyM, hpq, hq', ht]
      show appR t (p ++ q) t 0 [] = _
      rw [eA] at he ⊢
      exact appR_app t q p t 0 [] he
    obtain ⟨g1, g2, g3⟩ := appR_gen t (applyM t p).1 q (applyM t p).1 (0 + p.length) 0 (applyM t p).2.1 []
    rw [eB, eC]
    refine ⟨g1, fun h0 => ?_, fun h0 => ?_⟩
    · obtain ⟨k1, m, k2, k3⟩ := g3 (by rw [g1]; exact h0)
      exact ⟨k1, by omega⟩
    · obtain ⟨k1, rs, k2, k3⟩ := g2 (by rw [g1]; exact h0)
      exact ⟨k1, by rw [k2, k3]; rfl⟩
theorem outs_app (xs ys : List (Bool × Res)) : outB xs ++ outB ys = outB (xs ++ ys) := by simp [outB]
theorem atomic_all {N : Nat} (l : List AV) (h : TypA Try.prog N Try.f8.params.toList l) : ∃ n, evF Try.prog cfg n 8 l = some [.v (.bool true)] := by
  rw [show Try.f8.params.toList = [3, 70, 70] by kernel_rfl] at h
  obtain ⟨a0, r, rfl, t0, h⟩ := h
  obtain ⟨a1, r, rfl, t1, h⟩ := h
  obtain ⟨a2, r, rfl, t2, h⟩ := h
  obtain rfl : r = [] := h
  obtain ⟨n, rfl, _⟩ := openV3 t0
  obtain ⟨xn, x, rfl, _, _, f1⟩ := openV70 t1
  obtain ⟨yn, y, rfl, _, _, f2⟩ := openV70 t2
  obtain ⟨rs1, rfl⟩ := raws f1
  obtain ⟨rs2, rfl⟩ := raws f2
  clear t0 t1 t2 f1 f2
  refine evF_of_evL ?_
  refine (ev8 _ _ _ _ _).trans ?_
  rw [List.length_map, List.length_map]
  by_cases h4 : 4 < rs1.length
  · exact cT (ltI_t (by omega)) rfl
  refine cF (ltI_f (by omega)) ?_
  by_cases h5 : 4 < rs2.length
  · exact cT (ltI_t (by omega)) rfl
  refine cF (ltI_f (by omega)) ?_
  obtain ⟨ft, t, hr, t1, t2, t3, t4⟩ := s_rows n
  obtain ⟨fp, p, hp, p1, p2, p3⟩ := s_program xn rs1
  obtain ⟨fq, q, hq, q1, q2, q3⟩ := s_program yn rs2
  refine bnd hr (cT rfl (bnd hp (cT rfl (bnd hq (cT rfl ?_)))))
  show cond (ltI 8 (IntKind.i64.wrap ((((List.length (p.map Stm.row)) : Nat) : Int) + (((List.length (q.map Stm.row)) : Nat) : Int)))) _ _ = _
  rw [show IntKind.i64.wrap ((((List.length (p.map Stm.row)) : Nat) : Int) + (((List.length (q.map Stm.row)) : Nat) : Int)) = ((p.length + q.length : Nat) : Int) by rw [List.length_map, List.length_map, w_i64]; omega]
  by_cases h8 : 8 < p.length + q.length
  · exact cT (ltI_t (by omega)) rfl
  refine cF (ltI_f (by omega)) ?_
  obtain ⟨a4, a5, acc, an, ha, h27⟩ := s_Apply ft t t4 (by omega) t2 fp p p3
  obtain ⟨k1, k2, k3, k4, k5, k6⟩ := applyM_ok t p t2 p3 (by omega) (by omega)
  have hval := s_tval a4 (applyM t p).1 (by omega)
  rw [k5 t3] at hval
  obtain ⟨f3, htab⟩ := s_table a4 (applyM t p).1 (by omega)
  obtain ⟨f4, htab2⟩ := s_table ft t (by omega)
  have hal := len_of ha
  refine bnd h27 (cT rfl (cT rfl (cT rfl (cT rfl (bnd s_awake (cT rfl (cF rfl (bnd hval (cT rfl (cF rfl ?_))))))))))
  show cond (!((applyM t p).2.2.2 == 0)) _ _ = _
  by_cases he : (applyM t p).2.2.2 = 0
  · have hec : (!((applyM t p).2.2.2 == 0)) = false := by rw [he]; rfl
    refine cF hec (cF hec ?_)
    obtain ⟨b4, b5, bcc, bn, hb, h27b⟩ := s_Apply a4 (applyM t p).1 an (by omega) k1 fq q q3
    obtain ⟨c4, c5, ccc, cn, hc, h27c⟩ := s_Apply ft t t4 (by omega) t2 (List.isEmpty (q.map Stm.row) && (List.isEmpty (p.map Stm.row) && false)) (p ++ q) (fun s hs => by rcases List.mem_append.1 hs with h | h; exact p3 s h; exact q3 s h)
    obtain ⟨j1, j2, j3, j4, j5, j6⟩ := applyM_ok (applyM t p).1 q k1 q3 (by omega) (by omega)
    obtain ⟨m1, m2, m3, m4, m5, m6⟩ := applyM_ok t (p ++ q) t2 (fun s hs => by rcases List.mem_append.1 hs with h | h; exact p3 s h; exact q3 s h) (by simp; omega) (by omega)
    obtain ⟨w1, w2⟩ := two_parts t p q q1 (by omega) t3 t2 t1 p3 he
    rw [List.map_append] at h27c
    refine bnd h27b (cT rfl (cT rfl (cT rfl (cT rfl (cT (leN_t (by show (0 + List.length (p.map Stm.row)) * 88 ≤ _; rw [List.length_map]; omega)) (cT (leN_t (by show (List.length (p.map Stm.row) + List.length (q.map Stm.row)) * 88 ≤ _; rw [List.length_map, List.length_map]; omega)) (bnd h27c (cT rfl (cT rfl (cT rfl (cT rfl ?_)))))))))))
    show cond ((applyM (applyM t p).1 q).2.2.2 == 1) _ _ = _
    by_cases hf1 : (applyM (applyM t p).1 q).2.2.2 = 1
    · refine cT (by rw [hf1]; rfl) ?_
      show some [AV.v (.bool ((applyM t (p ++ q)).2.2.2 == 1))] = _
      rw [w1 hf1]; rfl
    · refine cF (by rw [beq_eq_false_iff_ne]; exact hf1) ?_
      obtain ⟨x1, x2, x3⟩ := w2 hf1
      by_cases hf0 : (applyM (applyM t p).1 q).2.2.2 = 0
      · refine cF (by rw [hf0]; rfl) (cT (by show ((applyM t (p ++ q)).2.2.2 == 0) = true; rw [x1, hf0]; rfl) ?_)
        obtain ⟨y1, y2⟩ := x3 hf0
        obtain ⟨f5, hb17⟩ := s_table b4 (applyM (applyM t p).1 q).1 (by omega)
        obtain ⟨f6, hc17⟩ := s_table c4 (applyM t (p ++ q)).1 (by omega)
        have hsame := s_same f5 f6 (applyM (applyM t p).1 q).1 (applyM t (p ++ q)).1 (by omega)
        rw [(lsEq_iff rwEq_iff _ _).2 y1.symm] at hsame
        obtain ⟨f7, az, haz, hra⟩ := s_results a5 acc (by omega) (bdR_of ha k3)
        obtain ⟨f8, bz, hbz, hrb⟩ := s_results b5 bcc (by have := len_of hb; omega) (bdR_of hb j3)
        obtain ⟨f9, cz, hcz, hrc⟩ := s_results c5 ccc (by have := len_of hc; omega) (bdR_of hc m3)
        have l1 := len_of (haz.trans ha)
        have l2 := len_of (hbz.trans hb)
        have hsr := s_sres (List.isEmpty (outB bz) && f7) f9 (az ++ bz) cz (by rw [List.length_append]; omega) (fun x hx => by
          rcases List.mem_append.1 hx with h | h
          · exact bdR_of (haz.trans ha) k3 x h
          · exact bdR_of (hbz.trans hb) j3 x h)
        rw [(lsEq_iff rsEq_iff _ _).2 (by rw [List.map_append, haz.trans ha, hbz.trans hb, hcz.trans hc, y2]), ← outs_app] at hsr
        exact bnd hb17 (cT rfl (bnd hc17 (cT rfl (bnd hsame (cT rfl (cT rfl (bnd hra (cT rfl (bnd hrb (cT rfl (cT (leN_t (by show (List.length (outB az) + List.length (outB bz)) * 32 ≤ _; rw [outB_len, outB_len]; omega)) (bnd hrc (cT rfl (bnd hsr (cT rfl rfl)))))))))))))))
      · refine cT (by show (!((applyM (applyM t p).1 q).2.2.2 == 0)) = true; rw [Bool.not_eq_true', beq_eq_false_iff_ne]; exact hf0) ?_
        obtain ⟨y1, y2⟩ := x2 hf0
        obtain ⟨f6, hc17⟩ := s_table c4 (applyM t (p ++ q)).1 (by omega)
        have hsame := s_same f6 f4 (applyM t (p ++ q)).1 t (by omega)
        rw [(lsEq_iff rwEq_iff _ _).2 y1] at hsame
        refine cT (by show ((applyM t (p ++ q)).2.2.2 == (applyM (applyM t p).1 q).2.2.2) = true; rw [x1, beq_self_i]) (cT ?_ (bnd hc17 (cT rfl (bnd htab2 (cT rfl (bnd hsame (cT rfl rfl)))))))
        have hlt := (j6 hf0).2.2 (by intro e; rw [e] at q1; exact absurd q1 (by decide))
        show ((((applyM t (p ++ q)).2.2.1 : Nat) : Int) == IntKind.i64.wrap ((((List.length (p.map Stm.row)) : Nat) : Int) + (((applyM (applyM t p).1 q).2.2.1 : Nat) : Int))) = true
        rw [List.length_map, y2, w_i64, beq_iff_eq]
        omega
  · have hec : (!((applyM t p).2.2.2 == 0)) = true := by rw [Bool.not_eq_true', beq_eq_false_iff_ne]; exact he
    obtain ⟨e1, e2, e3⟩ := k6 he
    have e3' := e3 (by intro e; rw [e] at p1; exact absurd p1 (by decide))
    have hsame := s_same f3 f4 (applyM t p).1 t (by omega)
    rw [(lsEq_iff rwEq_iff _ _).2 e1] at hsame
    refine cT hec (bnd htab (cT rfl (bnd htab2 (cT rfl (bnd hsame (cT rfl (cF rfl (cF ?_ (cF (ltI_f ?_) (cF (leI_f ?_) (cT hec rfl)))))))))))
    · show (!(((((List.length (outB acc)) - 0) : Nat) : Int) == 0)) = false
      rw [outB_len, hal, e2]; rfl
    · show (0 : Int) ≤ (((applyM t p).2.2.1 : Nat) : Int)
      omega
    · show (((applyM t p).2.2.1 : Nat) : Int) < (((List.length (p.map Stm.row)) : Nat) : Int)
      rw [List.length_map]; omega
end Go.Proofs.Ytnhahcomgeeobaa
