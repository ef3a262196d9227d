/- SerialStrict: what the statement's function answers. -/
import Derived.Test.YtnhahcomgeeobaaStrict1
import Derived.Test.YtnhahcomgeeobaaEq6
set_option linter.all false
namespace Go.Proofs.Ytnhahcomgeeobaa
open Go.Ev
set_option maxRecDepth 100000
def B5 (k : Int) (cs : List Cl) : List Blk := [⟨1, 52, 12, true, [(iS k).row]⟩, ⟨1, 56, 7, false, cs.map Cl.row⟩]
def S51 (k g : Int) (f : Bool) (cs : List Cl) (i j : Nat) : St := ⟨[(7, .v (.int .u32 k)), (8, .v (.int .i64 g)), (9, .ptr 0 0 0), (10, .sl f 1 0 none), (12, .v (.int .i64 ((i : Nat) : Int))), (13, .v (.int .i64 ((j : Nat) : Int)))], B5 k cs⟩
def S50 (k g : Int) (f : Bool) (cs : List Cl) (i : Nat) : St := ⟨[(7, .v (.int .u32 k)), (8, .v (.int .i64 g)), (9, .ptr 0 0 0), (10, .sl f 1 0 none), (12, .v (.int .i64 ((i : Nat) : Int)))], B5 k cs⟩
theorem is_row (k : Int) : (iS k).row = [.v (.int .i64 1), .v (.int .u32 k), .v (.int .u32 0), .v (.int .i64 0), .v (.int .i64 0), .v (.int .i64 0), .v (.int .i64 0), .v (.int .i64 0), .v (.int .i64 0), .v (.int .i64 0), .v (.int .i64 0), .v (.int .i64 0)] := rfl
theorem l51 (k g : Int) (f : Bool) (cs : List Cl) (hl : cs.length ≤ 100) (i : Nat) (hi : i < cs.length) (hpl : (cs.getD i c0).prog.length ≤ 100) : ∀ (rest done : List Stm), (cs.getD i c0).prog = done ++ rest →
    lp 5 1 0 (S51 k g f cs i done.length) = some ⟨none, ⟨[], []⟩, [.v (.bool true)]⟩ ∨ ((∀ s ∈ rest, s.key ≤ 5) ∧ lp 5 1 0 (S51 k g f cs i done.length) = some ⟨some 2, S50 k g f cs i, []⟩)
  | [], done, h => by
    refine .inr ⟨(fun s hs => by cases hs), ?_⟩
    have hrow : lget (cs.map Cl.row) (0 + Int.toNat ((i : Nat) : Int)) = (cs.getD i c0).row := by rw [Nat.zero_add]; exact cl_at hi
    unfold S51 S50 B5
    rw [is_row, lp5_1, hrow]
    refine cT (by rw [leI_t (by omega), ltI_t (by rw [List.length_map]; omega)]; rfl) (cT ?_ (cF ?_ rfl))
    · rw [ltN_t (by rw [List.length_map]; omega)]; rfl
    · show ltI ((done.length : Nat) : Int) (((List.length ((cs.getD i c0).prog.map Stm.row)) : Nat) : Int) = false
      exact ltI_f (by rw [List.length_map, h, List.append_nil]; omega)
  | s :: rest, done, h => by
    have hrow : lget (cs.map Cl.row) (0 + Int.toNat ((i : Nat) : Int)) = (cs.getD i c0).row := by rw [Nat.zero_add]; exact cl_at hi
    have hx : done.length < (cs.getD i c0).prog.length := by rw [h]; simp
    have hs : lget (avXs (cellAt (cs.getD i c0).row 2)) (Int.toNat ((done.length : Nat) : Int)) = s.row := by
      show lget ((cs.getD i c0).prog.map Stm.row) _ = _
      rw [Int.toNat_natCast, lget_map _ _ _ hx]
      congr 1
      have : ∀ (l : List Stm) (hl : done.length < l.length), l = done ++ s :: rest → l[done.length] = s := by intro l hl e; subst e; simp
      exact this _ hx h
    have hw : IntKind.i64.wrap (((done.length : Nat) : Int) + 1) = (((done ++ [s]).length : Nat) : Int) := by rw [w_i64, List.length_append, List.length_singleton]; omega
    have i1 : (leI 0 ((i : Nat) : Int) && ltI ((i : Nat) : Int) ((((List.length (cs.map Cl.row)) - 0) : Nat) : Int)) = true := by rw [leI_t (by omega), ltI_t (by rw [List.length_map]; omega)]; rfl
    have i2 : (ltN (0 + Int.toNat ((i : Nat) : Int)) (List.length (cs.map Cl.row)) && isL 12 (cellAt (cs.getD i c0).row 2)) = true := by rw [ltN_t (by rw [List.length_map]; omega)]; rfl
    have i3 : ltI ((done.length : Nat) : Int) (((List.length (avXs (cellAt (cs.getD i c0).row 2))) : Nat) : Int) = true := by
      show ltI ((done.length : Nat) : Int) (((List.length ((cs.getD i c0).prog.map Stm.row)) : Nat) : Int) = true
      exact ltI_t (by rw [List.length_map]; omega)
    have ih := l51 k g f cs hl i hi hpl rest (done ++ [s]) (by rw [h]; simp)
    unfold S51 S50 B5 at ih ⊢
    rw [is_row] at ih ⊢
    rw [lp5_1, hrow, hs, hw]
    by_cases k5 : 5 < s.key
    · exact .inl (cT i1 (cT i2 (cT i3 (cT i1 (cT i2 (cT (by rw [leI_t (by omega), i3]; rfl) (cT rfl (cT (ltI_t k5) rfl))))))))
    · by_cases l5 : 5 < s.last
      · exact .inl (cT i1 (cT i2 (cT i3 (cT i1 (cT i2 (cT (by rw [leI_t (by omega), i3]; rfl) (cT rfl (cF (ltI_f (by show s.key ≤ 5; omega)) (cT (ltI_t l5) rfl)))))))))
      · rcases ih with ih | ⟨ih1, ih2⟩
        · exact .inl (cT i1 (cT i2 (cT i3 (cT i1 (cT i2 (cT (by rw [leI_t (by omega), i3]; rfl) (cT rfl (cF (ltI_f (by show s.key ≤ 5; omega)) (cF (ltI_f (by show s.last ≤ 5; omega)) ih)))))))))
        · refine .inr ⟨fun x hx => ?_, cT i1 (cT i2 (cT i3 (cT i1 (cT i2 (cT (by rw [leI_t (by omega), i3]; rfl) (cT rfl (cF (ltI_f (by show s.key ≤ 5; omega)) (cF (ltI_f (by show s.last ≤ 5; omega)) ih2))))))))⟩
          rcases List.mem_cons.1 hx with rfl | hx
          · omega
          · exact ih1 x hx
theorem l50 (k g : Int) (f : Bool) (cs : List Cl) (hl : cs.length ≤ 100) (hpl : ∀ i, i < cs.length → (cs.getD i c0).prog.length ≤ 100) : ∀ (d i : Nat), i + d = cs.length →
    lp 5 0 0 (S50 k g f cs i) = some ⟨none, ⟨[], []⟩, [.v (.bool true)]⟩ ∨ ((∀ j, i ≤ j → j < cs.length → ∀ s ∈ (cs.getD j c0).prog, s.key ≤ 5) ∧ lp 5 0 0 (S50 k g f cs i) = some ⟨some 0, ⟨[(7, .v (.int .u32 k)), (8, .v (.int .i64 g)), (9, .ptr 0 0 0), (10, .sl f 1 0 none)], B5 k cs⟩, []⟩)
  | 0, i, h => by
    refine .inr ⟨fun j h1 h2 => by omega, ?_⟩
    unfold S50 B5
    rw [is_row, lp5_0]
    exact cF (ltI_f (by rw [List.length_map, Nat.sub_zero]; omega)) rfl
  | d + 1, i, h => by
    have hi : i < cs.length := by omega
    have hw : IntKind.i64.wrap (((i : Nat) : Int) + 1) = ((i + 1 : Nat) : Int) := by rw [w_i64]; omega
    have hin := l51 k g f cs hl i hi (hpl i hi) (cs.getD i c0).prog [] rfl
    have ih := l50 k g f cs hl hpl d (i + 1) (by omega)
    have h1 : ltI ((i : Nat) : Int) ((((List.length (cs.map Cl.row)) - 0) : Nat) : Int) = true := ltI_t (by rw [List.length_map]; omega)
    unfold S50 B5 at ih ⊢
    unfold S51 S50 B5 at hin
    rw [is_row] at ih hin ⊢
    rw [lp5_0]
    rcases hin with hin | ⟨hk, hin⟩
    · exact .inl (cT h1 (bnd hin (cF rfl (cT rfl rfl))))
    · have fin : ∀ e, e = lp 5 0 0 ⟨[(7, .v (.int .u32 k)), (8, .v (.int .i64 g)), (9, .ptr 0 0 0), (10, .sl f 1 0 none), (12, .v (.int .i64 (IntKind.i64.wrap (((i : Nat) : Int) + 1))))], [⟨1, 52, 12, true, [[.v (.int .i64 1), .v (.int .u32 k), .v (.int .u32 0), .v (.int .i64 0), .v (.int .i64 0), .v (.int .i64 0), .v (.int .i64 0), .v (.int .i64 0), .v (.int .i64 0), .v (.int .i64 0), .v (.int .i64 0), .v (.int .i64 0)]]⟩, ⟨1, 56, 7, false, cs.map Cl.row⟩]⟩ → ∀ e2, (lp 5 0 0 ⟨[(7, .v (.int .u32 k)), (8, .v (.int .i64 g)), (9, .ptr 0 0 0), (10, .sl f 1 0 none), (12, .v (.int .i64 ((i + 1 : Nat) : Int)))], [⟨1, 52, 12, true, [[.v (.int .i64 1), .v (.int .u32 k), .v (.int .u32 0), .v (.int .i64 0), .v (.int .i64 0), .v (.int .i64 0), .v (.int .i64 0), .v (.int .i64 0), .v (.int .i64 0), .v (.int .i64 0), .v (.int .i64 0), .v (.int .i64 0)]]⟩, ⟨1, 56, 7, false, cs.map Cl.row⟩]⟩ = e2) → e = e2 := by
        intro e he e2 h2
        rw [he, hw]; exact h2
      rcases ih with ih | ⟨ih1, ih2⟩
      · exact .inl (cT h1 (bnd hin (cT rfl (cT rfl (fin _ rfl _ ih)))))
      · refine .inr ⟨fun j h1 h2 => ?_, cT h1 (bnd hin (cT rfl (cT rfl (fin _ rfl _ ih2))))⟩
        by_cases e : j = i
        · subst e; exact hk
        · exact ih1 j (by omega) h2
theorem strict_all {N : Nat} (l : List AV) (h : TypA Try.prog N Try.f5.params.toList l) : ∃ n, evF Try.prog cfg n 5 l = some [.v (.bool true)] := by
  rw [show Try.f5.params.toList = [3, 3, 22] by kernel_rfl] at h
  obtain ⟨a0, r, rfl, t0, h⟩ := h
  obtain ⟨a1, r, rfl, t1, h⟩ := h
  obtain ⟨a2, r, rfl, t2, h⟩ := h
  obtain rfl : r = [] := h
  obtain ⟨key, rfl, _⟩ := openV3 t0
  obtain ⟨gap, rfl, _⟩ := openV3 t1
  obtain ⟨xn, x, rfl, _, _, f2⟩ := openV22 t2
  obtain ⟨ms, rfl⟩ := mvs f2
  clear t0 t1 t2 f2
  refine evF_of_evL ?_
  refine (ev5 _ _ _ _).trans ?_
  obtain ⟨hv, hh, hms⟩ := s_heavy xn ms 3 (by decide)
  refine bnd hh (cT rfl ?_)
  cases hv with
  | true => exact cT rfl rfl
  | false =>
    have hms' := hms rfl
    have q1 := pick_rng key 5 (by decide)
    have q2 := pick_rng gap 40 (by decide)
    refine cF rfl (bnd (s_Pick key 5 (by decide) (by decide)) (cT rfl (bnd (s_Pick gap 40 (by decide) (by decide)) (cT rfl ?_))))
    obtain ⟨k, hk⟩ : ∃ k : Int, k = IntKind.u32.wrap (IntKind.i64.wrap (pick key 5 + 6)) := ⟨_, rfl⟩
    have hkv : k = pick key 5 + 6 := by rw [hk, w_u32, w_i64]; omega
    have hk6 : 6 ≤ k ∧ k ≤ 10 := by omega
    obtain ⟨g, hg⟩ : ∃ g : Int, g = pick gap 40 := ⟨_, rfl⟩
    rw [← hg] at q2
    have hki0 : KI [] := ⟨(fun r hr => by cases hr), rfl, (fun r hr => by cases hr)⟩
    rcases s_history true [] (by decide) hki0.2.2 xn ms (by omega) with ⟨f, cs, h1, h2, h3⟩ | h1
    · have hf := hist_facts cs 0 [] h3
      have hgood := hist_good cs 0 [] h3
      refine bnd h1 (cT rfl (cT rfl (bnd s_awake (cT rfl (cF rfl (cF rfl ?_))))))
      have hpl : ∀ i, i < cs.length → (cs.getD i c0).prog.length ≤ 100 := fun i hi => by
        have := (hgood _ (mem_getD cs c0 i hi)).1.p5; omega
      have hl5 := l50 k g f cs (by omega) hpl cs.length 0 (by omega)
      have hst : S50 k g f cs 0 = ⟨[(7, .v (.int .u32 (IntKind.u32.wrap (IntKind.i64.wrap (pick key 5 + 6))))), (8, .v (.int .i64 (pick gap 40))), (9, .ptr 0 0 0), (10, .sl f 1 0 none), (12, .v (.int .i64 0))], [⟨1, 52, 12, true, [[.v (.int .i64 1), .v (.int .u32 (IntKind.u32.wrap (IntKind.i64.wrap (pick key 5 + 6)))), .v (.int .u32 0), .v (.int .i64 0), .v (.int .i64 0), .v (.int .i64 0), .v (.int .i64 0), .v (.int .i64 0), .v (.int .i64 0), .v (.int .i64 0), .v (.int .i64 0), .v (.int .i64 0)]]⟩, ⟨1, 56, 7, false, cs.map Cl.row⟩]⟩ := by
        unfold S50 B5
        rw [is_row, ← hk, ← hg]; rfl
      rw [hst] at hl5
      rcases hl5 with hl5 | ⟨hkeys, hl5⟩
      · exact bnd hl5 (cF rfl (cT rfl rfl))
      · have hbd : Bd cs := ⟨fun c hc => by
          obtain ⟨j, hj, e⟩ := List.mem_iff_getElem.1 hc
          have e2 : cs.getD j c0 = c := by simp [hj, e]
          refine ⟨wf_ok (hgood c hc).1, (hgood c hc).2, ?_⟩
          rw [← e2]; exact hkeys j (Nat.zero_le _) hj⟩
        have hT0 : OkT [⟨k, 0, 0, 0⟩] := fun r hr => by
          rcases List.mem_singleton.1 hr with rfl
          have hz : -9223372036854775808 ≤ (0 : Int) ∧ (0 : Int) ≤ 9223372036854775807 := by decide
          exact ⟨⟨by simp only; omega, by simp only; omega⟩, hz, hz, hz⟩
        have hv0 : tval 0 [⟨k, 0, 0, 0⟩] = true := by
          unfold tval
          rw [leI_f (show (0 : Int) < k by omega), ltI_f (show k ≤ 4294967294 by omega)]; rfl
        obtain ⟨b4, b5, bcc, hb, h22⟩ := s_RApply false [⟨k, 0, 0, 0⟩] (by show 1 ≤ 900; decide) hT0 false [gs k] (by show 1 ≤ 1000000; decide) (gs_ok hk6)
        have happ := apply_get hk6 hv0
        have hhk : hasK [⟨k, 0, 0, 0⟩] k (pl [⟨k, 0, 0, 0⟩] k) = true := by
          have e : pl [⟨k, 0, 0, 0⟩] k = 0 := by
            show (bif leI k k then 0 else 1) = 0
            rw [leI_t (Int.le_refl _)]; rfl
          rw [e]
          show (true && (k == k)) = true
          rw [beq_self_i]; rfl
        have hpl0 : pl [⟨k, 0, 0, 0⟩] k = 0 := by
          show (bif leI k k then 0 else 1) = 0
          rw [leI_t (Int.le_refl _)]; rfl
        rw [hhk, hpl0] at happ
        have hb' : bcc.map Prod.snd = [⟨[⟨k, 0, 0, 0⟩], 0⟩] := by rw [hb, happ]; rfl
        have hbl : bcc.length = 1 := by have := congrArg List.length hb'; simpa using this
        obtain ⟨fz, zs, hz, h23⟩ := s_back b5 bcc (by omega) (bdR_of hb' (fun r hr => by rcases List.mem_singleton.1 hr with rfl; show 1 ≤ 1000; decide))
        have hz' := hz.trans hb'
        have hzl : zs.length = 1 := by have := congrArg List.length hz'; simpa using this
        have gok : (getC k fz zs).ok := ⟨gs_ok hk6, .inl rfl, by show zs.length ≤ 8; omega, by show RB (zs.map Prod.snd); rw [hz']; intro r hr; rcases List.mem_singleton.1 hr with rfl; show 1 ≤ 1000; decide⟩
        have pok : ∀ a b, (putC k a b).ok := fun a b => ⟨is_ok hk6, .inl rfl, by show 1 ≤ 8; decide, fun r hr => by rcases List.mem_singleton.1 hr with rfl; show 0 ≤ 1000; decide⟩
        have gv : vCall (getC k fz zs) = true := by
          unfold vCall getC
          simp only
          rw [okP_gs hk6]; rfl
        have pv : ∀ a b, 0 ≤ a → a < b → vCall (putC k a b) = true := fun a b ha hab => by
          unfold vCall putC
          simp only
          rw [okP_is hk6, ltI_f ha, ltI_t hab]; rfl
        have fok : ∀ a b, ∀ c ∈ cs ++ [getC k fz zs, putC k a b], c.ok := fun a b c hc => by
          rcases List.mem_append.1 hc with hc | hc
          · exact (hbd.good c hc).1
          · rcases List.mem_cons.1 hc with rfl | hc
            · exact gok
            · rcases List.mem_singleton.1 hc with rfl; exact pok a b
        have fv : ∀ a b, 0 ≤ a → a < b → (cs ++ [getC k fz zs, putC k a b]).all vCall = true := fun a b ha hab => by
          rw [List.all_eq_true]
          intro c hc
          rcases List.mem_append.1 hc with hc | hc
          · exact List.all_eq_true.1 (all_of fun j hj => (hf j hj).2.1) c hc
          · rcases List.mem_cons.1 hc with rfl | hc
            · exact gv
            · rcases List.mem_singleton.1 hc with rfl; exact pv a b ha hab
        have hlen : ∀ a b, (cs ++ [getC k fz zs, putC k a b]).length = cs.length + 2 := fun a b => full_len
        have wg1 : IntKind.i64.wrap (111 + g) = 111 + g := by rw [w_i64]; omega
        have wg2 : IntKind.i64.wrap (200 + g) = 200 + g := by rw [w_i64]; omega
        have wg3 : IntKind.i64.wrap (110 - (if 100 < g then 100 else g)) = 110 - g := by rw [if_neg (by omega), w_i64]; omega
        have hc1 := (s_Check true [] (fun _ => rfl) (by decide) hki0.2.2 false (cs ++ [getC k fz zs, putC k (111 + g) (200 + g)]) (fok _ _) (by rw [hlen]; omega) 1000000).2 (by
          unfold okH
          rw [fv _ _ (by omega) (by omega), decide_eq_true (by rw [hlen]; omega), decide_eq_true (by decide)]; rfl)
        have hs1 := srch_spec [] (cs ++ [getC k fz zs, putC k (111 + g) (200 + g)]) (by rw [hlen]; omega)
        have hno : ∀ r, ¬ Ext (cs ++ [getC k fz zs, putC k (111 + g) (200 + g)]) [] (List.replicate (cs ++ [getC k fz zs, putC k (111 + g) (200 + g)]).length false) r := fun r => by
          rw [hlen]
          exact no_ext hbd hk6 fz zs hz' _ _ (by omega) r [] _ (List.length_replicate ..) hki0 (by simp [List.getD_eq_getElem?_getD, List.getElem?_replicate]) (by simp [List.getD_eq_getElem?_getD, List.getElem?_replicate])
        have hc1' : ev 15 [.lst true 4 [], .lst false 7 ((cs ++ [getC k fz zs, putC k (111 + g) (200 + g)]).map Cl.row), .v (.int .i64 1000000)] = some [.ow true 3 1 [], .v (.bool false), .v (.int .i64 0)] := by
          cases ho : srch [] (cs ++ [getC k fz zs, putC k (111 + g) (200 + g)]) 1000000 with
          | found os =>
            rw [ho] at hs1
            obtain ⟨r, he, _⟩ := hs1
            exact absurd he (hno r)
          | limit => rw [ho] at hs1; exact hs1.elim
          | none b' => rw [ho] at hc1; exact hc1
        have hret : ∀ j, j < (cs ++ [getC k fz zs, putC k (110 - g) (200 + g)]).length → ((cs ++ [getC k fz zs, putC k (110 - g) (200 + g)]).getD j c0).fate = 1 → 10 * (j : Int) + 1 ≤ ((cs ++ [getC k fz zs, putC k (110 - g) (200 + g)]).getD j c0).ret := fun j hj hfj => by
          rw [hlen] at hj
          by_cases c1 : j < cs.length
          · rw [full_l c1] at hfj ⊢
            have := (hf j c1).2.2 hfj
            simpa using this
          · by_cases c2 : j = cs.length
            · subst c2; rw [full_g]; show 10 * ((cs.length : Nat) : Int) + 1 ≤ 110; omega
            · have : j = cs.length + 1 := by omega
              subst this; rw [full_p]; show 10 * ((cs.length + 1 : Nat) : Int) + 1 ≤ 200 + g; omega
        have hex := hist_then (cs ++ [getC k fz zs, putC k (110 - g) (200 + g)]) hret [getC k fz zs, putC k (110 - g) (200 + g)] cs.length
          (fun now ps hki hp h1 h2 => put_get hk6 fz zs hz' _ _ (by omega) (by omega) now ps hki hp h1 h2)
          cs [] [] (List.replicate (cs ++ [getC k fz zs, putC k (110 - g) (200 + g)]).length false) (by simp) (by simp) (fun c hc => (hbd.good c hc).2.2) hki0 h3 (List.length_replicate ..) (fun j hj => by simp at hj) (fun j _ hj => by simp only [List.getD_eq_getElem?_getD, List.getElem?_replicate]; split <;> rfl)
        obtain ⟨on, os, hc2, _⟩ := s_found true [] (fun _ => rfl) (by decide) hki0.2.2 rfl false (cs ++ [getC k fz zs, putC k (110 - g) (200 + g)]) (fok _ _) (fv _ _ (by omega) (by omega)) (by rw [hlen]; omega) hex
        have hcs : ∀ a b, (cs ++ [getC k fz zs, putC k a b]).map Cl.row = cs.map Cl.row ++ [[.v (.int .i64 100), .v (.int .i64 110), .lst false 12 [(gs k).row], .v (.int .i64 1), .v (.int .i64 0), .v (.int .i64 0), .lst fz 2 (outB zs)], [.v (.int .i64 a), .v (.int .i64 b), .lst false 12 [(iS k).row], .v (.int .i64 1), .v (.int .i64 0), .v (.int .i64 0), .lst false 2 [[.lst true 4 [], .v (.int .i64 0)]]]] := fun a b => by
          rw [List.map_append]; rfl
        rw [hcs, ← wg1, ← wg2] at hc1'
        rw [hcs, ← wg3, ← wg2] at hc2
        have hN1 : leN ((List.length (cs.map Cl.row)) * 88) 140737488355328 = true := leN_t (by rw [List.length_map]; omega)
        have hN2 : leN (((List.length (cs.map Cl.row)) + 2) * 88) 140737488355328 = true := leN_t (by rw [List.length_map]; omega)
        have hrv : (false || ((List.all (os.map vRow) rowV && true) && true)) = true := by rw [ints_rowV]; rfl
        exact bnd hl5 (cT rfl (cT rfl (bnd h22 (cT rfl (cT rfl (cT rfl (cT rfl (bnd h23 (cT rfl (cT hN1 (cT hN2 (bnd hc1' (cT rfl (cT rfl (cT rfl (cT rfl (cT hN1 (cT hN2 (bnd hc2 (cT rfl (cT rfl (cT rfl (cT hrv (cT rfl (cT rfl (cT rfl rfl))))))))))))))))))))))))))
    · exact bnd h1 (cT rfl (cT rfl (bnd s_awake (cT rfl (cF rfl (cT rfl rfl))))))
end Go.Proofs.Ytnhahcomgeeobaa
