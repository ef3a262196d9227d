/- SerialOpen: what the statement's function answers. -/
import Derived.Test.YtnhahcomgeeobaaFinds
import Derived.Test.YtnhahcomgeeobaaEq6
set_option linter.all false
namespace Go.Proofs.Ytnhahcomgeeobaa
open Go.Ev
set_option maxRecDepth 100000
theorem getD_app_left {xs ys : List Cl} {k : Nat} (h : k < xs.length) : (xs ++ ys).getD k c0 = xs.getD k c0 := by
  simp [List.getD_eq_getElem?_getD, List.getElem?_append_left h]
theorem open_all {N : Nat} (l : List AV) (h : TypA Try.prog N Try.f6.params.toList l) : ∃ n, evF Try.prog cfg n 6 l = some [.v (.bool true)] := by
  rw [show Try.f6.params.toList = [3, 22, 3, 70] by kernel_rfl] at h
  obtain ⟨a0, r, rfl, t0, h⟩ := h
  obtain ⟨a1, r, rfl, t1, h⟩ := h
  obtain ⟨a2, r, rfl, t2, h⟩ := h
  obtain ⟨a3, r, rfl, t3, h⟩ := h
  obtain rfl : r = [] := h
  obtain ⟨n, rfl, _⟩ := openV3 t0
  obtain ⟨xn, x, rfl, _, _, f1⟩ := openV22 t1
  obtain ⟨bg, rfl, _⟩ := openV3 t2
  obtain ⟨yn, y, rfl, _, _, f3⟩ := openV70 t3
  obtain ⟨ms, rfl⟩ := mvs f1
  obtain ⟨rs, rfl⟩ := raws f3
  clear t0 t1 t2 t3 f1 f3
  refine evF_of_evL ?_
  refine (ev6 _ _ _ _ _ _).trans ?_
  obtain ⟨hv, hh, hms⟩ := s_heavy xn ms 4 (by decide)
  refine bnd hh (cT rfl ?_)
  cases hv with
  | true => exact cT rfl rfl
  | false =>
    have hms' := hms rfl
    refine cF rfl ?_
    by_cases h6 : 6 < rs.length
    · exact cT (ltI_t (by rw [List.length_map]; omega)) rfl
    refine cF (ltI_f (by rw [List.length_map]; omega)) ?_
    obtain ⟨ft, t, hr, t1, t2, t3, t4⟩ := s_rows n
    obtain ⟨fp, p, hp, p1, p2, p3⟩ := s_program yn rs
    obtain ⟨fo, ho⟩ := s_own fp p (by omega)
    have hpr := s_rprog fo p (by omega)
    refine bnd hr (cT rfl ?_)
    rcases s_history ft t (by omega) t2 xn ms (by omega) with ⟨f, cs, h1, h2, h3⟩ | h1
    · refine bnd h1 (cT rfl (cT rfl (bnd hp (cT rfl (bnd s_awake (cT rfl (cF rfl (cF rfl (bnd ho (cT rfl (bnd hpr (cT rfl ?_))))))))))))
      show cond (!(okP p)) _ _ = _
      cases hok : okP p with
      | false => exact cT rfl rfl
      | true =>
        have hf := hist_facts cs 0 t h3
        have xr := pick_rng bg 100 (by decide)
        obtain ⟨c, hc⟩ : ∃ c : Cl, c = ⟨pick bg 100, -1, fp, p, 3, 0, 0, true, 2, []⟩ := ⟨_, rfl⟩
        have hcok : c.ok := by rw [hc]; exact ⟨p3, .inl rfl, Nat.zero_le _, fun r hr => by cases hr⟩
        have hcv : vCall c = true := by
          rw [hc]
          unfold vCall
          simp only
          rw [hok, ltI_f (show 0 ≤ pick bg 100 from xr.1)]; rfl
        have hlen : (cs ++ [c]).length = cs.length + 1 := by simp
        have hall : ∀ x ∈ cs ++ [c], x.ok ∧ vCall x = true := by
          intro x hx
          rcases List.mem_append.1 hx with hx | hx
          · exact ⟨ok_of (fun j hj => (hf j hj).1) x hx, List.all_eq_true.1 (all_of fun j hj => (hf j hj).2.1) x hx⟩
          · rcases List.mem_singleton.1 hx with rfl
            exact ⟨hcok, hcv⟩
        have hex := hist_ext (cs ++ [c]) [c] (fun x hx => by rcases List.mem_singleton.1 hx with rfl; rw [hc]) (fun k hk hf1 => by
          rw [hlen] at hk
          by_cases hkc : k < cs.length
          · rw [getD_app_left hkc] at hf1 ⊢
            have := (hf k hkc).2.2 hf1
            simpa using this
          · have e : (cs ++ [c]).getD k c0 = c := by
              have : k = cs.length := by omega
              subst this; simp
            rw [e, hc] at hf1
            exact absurd hf1 (by show ¬ (3 : Int) = 1; decide)) cs [] t (List.replicate (cs ++ [c]).length false) (by simp) h3 (List.length_replicate ..) (fun k hk => by simp at hk) (fun k _ hk => by simp only [List.getD_eq_getElem?_getD, List.getElem?_replicate]; split <;> rfl)
        obtain ⟨on, os, hck, hrt⟩ := s_found ft t t4 (by omega) t2 t3 false (cs ++ [c]) (fun x hx => (hall x hx).1) (List.all_eq_true.2 fun x hx => (hall x hx).2) (by omega) hex
        have hne := (s_Check ft t t4 (by omega) t2 true [] (fun x hx => by cases hx) (by decide) 1).2 (by unfold okH; rw [t3]; rfl)
        have hsr : srch t [] 1 = .found [] := rfl
        rw [hsr] at hne
        obtain ⟨on2, hne⟩ := hne
        have hcs : (cs ++ [c]).map Cl.row = cs.map Cl.row ++ [[.v (.int .i64 (pick bg 100)), .v (.int .i64 (-1)), .lst fp 12 (p.map Stm.row), .v (.int .i64 3), .v (.int .i64 0), .v (.int .i64 0), .lst true 2 []]] := by
          rw [List.map_append, hc]; rfl
        rw [hcs] at hck hrt
        have hN1 : leN ((List.length (cs.map Cl.row)) * 88) 140737488355328 = true := leN_t (by rw [List.length_map]; omega)
        have hN2 : leN (((List.length (cs.map Cl.row)) + 1) * 88) 140737488355328 = true := leN_t (by rw [List.length_map]; omega)
        refine cF rfl (cT hN1 (bnd (s_Pick bg 100 (by decide) (by decide)) (cT rfl (cT hN2 (bnd hck (cT rfl (cT rfl (cT rfl (cT ?_ (bnd hne (cT rfl (cT rfl (cT rfl (cT rfl (cT rfl (bnd hrt (cT rfl (cT rfl (cT rfl (cT rfl rfl))))))))))))))))))))
        show (false || ((List.all (os.map vRow) rowV && true) && true)) = true
        rw [ints_rowV]; rfl
    · exact bnd h1 (cT rfl (cT rfl (bnd hp (cT rfl (bnd s_awake (cT rfl (cF rfl (cT rfl rfl))))))))
end Go.Proofs.Ytnhahcomgeeobaa
