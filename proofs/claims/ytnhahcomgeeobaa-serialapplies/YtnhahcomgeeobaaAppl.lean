/- SerialApplies: what the statement's function answers. -/
import Derived.Test.YtnhahcomgeeobaaPrg2
import Derived.Test.YtnhahcomgeeobaaTy
set_option linter.all false
namespace Go.Proofs.Ytnhahcomgeeobaa
open Go.Ev
set_option maxRecDepth 100000
theorem rws {N : Nat} {n : Nat} {x : List (List AV)} (h : ∀ y ∈ x, TypC Try.prog N (n + 3) 91 y) : ∃ l : List Rw, x = l.map Rw.row ∧ ∀ r ∈ l, r.ok :=
  rows_of Rw.row Rw.ok x fun y hy => by
    obtain ⟨x0, x1, x2, x3, rfl, f0, f1, f2, f3⟩ := openC91 (h y hy)
    exact ⟨⟨x0, x1, x2, x3⟩, rfl, f0, f1, f2, f3⟩
theorem raws {N : Nat} {n : Nat} {x : List (List AV)} (h : ∀ y ∈ x, TypC Try.prog N (n + 2) 119 y) : ∃ l : List Raw, x = l.map Raw.row := by
  obtain ⟨l, h, _⟩ := rows_of Raw.row (fun _ => True) x fun y hy => by
    obtain ⟨x0, x1, x2, x3, x4, x5, x6, rfl, _⟩ := openC119 (h y hy)
    exact ⟨⟨x0, x1, x2, x3, x4, x5, x6⟩, rfl, trivial⟩
  exact ⟨l, h⟩
theorem l7 (n : Int) (ln : Bool) (l : List Stm) (hl : l.length ≤ 5) (hok : ∀ s ∈ l, s.ok) : ∀ (d i : Nat) (tn : Bool) (t : List Rw), i + d = 2 → (tn = true → t = []) → t.length ≤ 12 → OkT t →
    lp 7 0 0 ⟨[(0, .lst tn 4 (t.map Rw.row)), (1, .v (.int .i64 n)), (7, .lst ln 12 (l.map Stm.row)), (8, .v (.int .i64 ((i : Nat) : Int)))], []⟩ = some ⟨some 0, ⟨[], []⟩, []⟩
  | 0, i, tn, t, h, _, _, _ => by
    rw [lp7_0]
    exact cF (ltI_f (by omega)) rfl
  | d + 1, i, tn, t, h, h1, h2, h3 => by
    have hw : IntKind.i64.wrap (((i : Nat) : Int) + 1) = ((i + 1 : Nat) : Int) := by rw [w_i64]; omega
    obtain ⟨a4, a5, acc, _, ha, h27⟩ := s_Apply tn t h1 (by omega) h3 ln l hok
    obtain ⟨f1, ht⟩ := s_table tn t (by omega)
    obtain ⟨f2, ho⟩ := s_own ln l (by omega)
    obtain ⟨b4, b5, bcc, hb, h22⟩ := s_RApply f1 t (by omega) h3 f2 l (by omega) hok
    obtain ⟨k1, k2, k3, k4, k5, k6⟩ := applyM_ok t l h3 hok (by omega) (by omega)
    obtain ⟨f3, ht2⟩ := s_table a4 (applyM t l).1 (by omega)
    have hsame := s_same f3 b4 (applyM t l).1 (applyM t l).1 (by omega)
    rw [(lsEq_iff rwEq_iff _ _).2 rfl] at hsame
    have hal := len_of ha
    obtain ⟨f5, zs, hz, hres⟩ := s_results a5 acc (by omega) (bdR_of ha k3)
    have hzl := len_of (hz.trans ha)
    have hsr := s_sres f5 b5 zs bcc (by omega) (bdR_of (hz.trans ha) k3)
    rw [(lsEq_iff rsEq_iff _ _).2 ((hz.trans ha).trans hb.symm)] at hsr
    have hv1 := s_tval tn t (by omega)
    have hv2 := s_rval f1 t (by omega)
    obtain ⟨g, t', hr, e1, e2, e3, e4⟩ := s_rows n
    have ih := l7 n ln l hl hok d (i + 1) g t' (by omega) e4 (by omega) e2
    rw [lp7_0, hw]
    refine cT (ltI_t (by omega)) (bnd h27 (cT rfl (cT rfl (cT rfl (cT rfl (bnd ht (cT rfl (bnd ho (cT rfl (bnd h22 (cT rfl (cT rfl (cT rfl (cT rfl ?_))))))))))))))
    refine cF (by show (!((applyM t l).2.2.2 == (applyM t l).2.2.2)) = false; rw [beq_self_i]; rfl) (cF (by show (!((((applyM t l).2.2.1 : Nat) : Int) == (((applyM t l).2.2.1 : Nat) : Int))) = false; rw [beq_self_i]; rfl) ?_)
    refine bnd ht2 (cT rfl (bnd hsame (cT rfl (cF rfl (bnd hres (cT rfl (bnd hsr (cT rfl (cF rfl (bnd hv1 (cT rfl (bnd ht (cT rfl (bnd hv2 (cT rfl ?_)))))))))))))))
    refine cF (by show (!(tval 0 t == tval 0 t)) = false; cases tval 0 t <;> rfl) (bnd s_awake (cT rfl (cF rfl (bnd hr (cT rfl ih)))))
theorem applies_all {N : Nat} (l : List AV) (h : TypA Try.prog N Try.f7.params.toList l) : ∃ n, evF Try.prog cfg n 7 l = some [.v (.bool true)] := by
  rw [show Try.f7.params.toList = [24, 3, 70] by kernel_rfl] at h
  obtain ⟨a0, r, rfl, t0, h⟩ := h
  obtain ⟨a1, r, rfl, t1, h⟩ := h
  obtain ⟨a2, r, rfl, t2, h⟩ := h
  obtain rfl : r = [] := h
  obtain ⟨xn, x, rfl, hxn, _, f0⟩ := openV24 t0
  obtain ⟨n, rfl, _⟩ := openV3 t1
  obtain ⟨yn, y, rfl, _, _, f2⟩ := openV70 t2
  obtain ⟨t, rfl, ht⟩ := rws f0
  obtain ⟨rs, rfl⟩ := raws f2
  clear t0 t1 t2 f0 f2
  refine evF_of_evL ?_
  refine (ev7 _ _ _ _ _).trans ?_
  rw [List.length_map, List.length_map]
  by_cases h12 : 12 < t.length
  · exact cT (ltI_t (by omega)) rfl
  · refine cF (ltI_f (by omega)) ?_
    by_cases h8 : 8 < rs.length
    · exact cT (ltI_t (by omega)) rfl
    · refine cF (ltI_f (by omega)) ?_
      obtain ⟨f, l, hp, p1, p2, p3⟩ := s_program yn rs
      exact bnd hp (cT rfl (bnd (l7 n f l p2 p3 2 0 xn t rfl (fun e => by have := hxn e; simpa using this) (by omega) ht) (cT rfl (cT rfl rfl))))
end Go.Proofs.Ytnhahcomgeeobaa
