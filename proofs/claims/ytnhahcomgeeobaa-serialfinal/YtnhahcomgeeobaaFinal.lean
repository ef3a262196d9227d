/- SerialFinal: what the statement's function answers. -/
import Derived.Test.YtnhahcomgeeobaaHist
set_option linter.all false
namespace Go.Proofs.Ytnhahcomgeeobaa
open Go.Ev
set_option maxRecDepth 100000
theorem l_index (b : Bool) (xs : List Int) (x : Int) (hlen : xs.length ≤ 1000000) : ∀ (rest done : List Int), xs = done ++ rest →
    ∃ r : Int, (0 ≤ r ↔ x ∈ rest) ∧ (lp 72 0 0 ⟨[(0, .lst b 1 (xs.map vRow)), (1, .v (.int .i64 x)), (7, .v (.int .i64 (((List.length (xs.map vRow)) : Nat) : Int))), (8, .v (.int .i64 ((done.length : Nat) : Int)))], []⟩ = bif leI 0 r then some ⟨none, ⟨[], []⟩, [.v (.int .i64 r)]⟩ else some ⟨some 0, ⟨[], []⟩, []⟩)
  | [], done, h => by
    refine ⟨-1, by simp, ?_⟩
    rw [lp72_0]
    exact cF (ltI_f (by rw [List.length_map, h, List.append_nil]; omega)) rfl
  | y :: rest, done, h => by
    have hlt : done.length < xs.length := by rw [h]; simp
    have hrow : lget (xs.map vRow) (Int.toNat ((done.length : Nat) : Int)) = vRow y := by
      rw [Int.toNat_natCast, lget_map _ _ _ hlt]
      subst h
      simp
    have hw : IntKind.i64.wrap (((done.length : Nat) : Int) + 1) = (((done ++ [y]).length : Nat) : Int) := by rw [w_i64, List.length_append, List.length_singleton]; omega
    have hin : (leI 0 ((done.length : Nat) : Int) && ltI ((done.length : Nat) : Int) (((List.length (xs.map vRow)) : Nat) : Int)) = true := by rw [leI_t (by omega), ltI_t (by rw [List.length_map]; omega)]; rfl
    obtain ⟨r, hr, ih⟩ := l_index b xs x hlen rest (done ++ [y]) (by rw [h]; simp)
    rw [lp72_0, hrow, hw]
    by_cases e : x = y
    · refine ⟨done.length, by simp [e], ?_⟩
      rw [leI_t (by omega)]
      exact cT (ltI_t (by rw [List.length_map]; omega)) (cT hin (cT rfl (cT (by show (x == y) = true; simp [e]) rfl)))
    · refine ⟨r, by simp [hr, e], ?_⟩
      exact cT (ltI_t (by rw [List.length_map]; omega)) (cT hin (cT rfl (cF (by show (x == y) = false; simp [e]) ih)))
theorem s_contains (b : Bool) (xs : List Int) (x : Int) (hlen : xs.length ≤ 1000000) : ev 51 [.lst b 1 (xs.map vRow), .v (.int .i64 x)] = some [.v (.bool (decide (x ∈ xs)))] := by
  obtain ⟨r, hr, h⟩ := l_index b xs x hlen xs [] rfl
  have hi : ev 72 [.lst b 1 (xs.map vRow), .v (.int .i64 x)] = some [.v (.int .i64 (if 0 ≤ r then r else -1))] := by
    rw [ev72]
    by_cases h0 : 0 ≤ r
    · rw [leI_t h0] at h
      rw [if_pos h0]
      exact bnd h (cF rfl (cT rfl rfl))
    · rw [leI_f (by omega)] at h
      rw [if_neg h0]
      exact bnd h (cT rfl (cT rfl rfl))
  rw [ev51]
  refine bnd hi (cT rfl ?_)
  show some [AV.v (.bool (leI 0 (if 0 ≤ r then r else -1)))] = _
  by_cases h0 : 0 ≤ r
  · rw [if_pos h0, leI_t h0, decide_eq_true (hr.1 h0)]
  · rw [if_neg h0, leI_f (by decide), decide_eq_false (fun hx => h0 (hr.2 hx))]
def c0 : Cl := ⟨0, 0, true, [], 0, 0, 0, true, 0, []⟩
def finM (cs : List Cl) : List Rw → List Int → List Int → Option (List Rw)
  | now, _, [] => some now
  | now, seen, i :: r => if 0 ≤ i ∧ i < cs.length ∧ i ∉ seen then finM cs (applyM now (cs.getD i.toNat c0).prog).1 (seen ++ [i]) r else none
def GoodC (cs : List Cl) : Prop := ∀ c ∈ cs, c.wf ∧ okP c.prog = true
theorem hist_good : ∀ (cs : List Cl) (i : Nat) (now : List Rw), HistOk i now cs → GoodC cs
  | [], _, _, _ => fun c hc => by cases hc
  | c :: cs, i, now, h => by
    obtain ⟨now', h1, h2⟩ := h
    intro x hx
    rcases List.mem_cons.1 hx with rfl | hx
    · refine ⟨h1.2.1, ?_⟩
      have := mt (applyM_arg now x.prog).2 h1.1
      cases hp : okP x.prog with
      | true => rfl
      | false => rw [hp] at this; exact absurd rfl this
    · exact hist_good cs _ _ h2 x hx
theorem good_at {cs : List Cl} (h : GoodC cs) {i : Int} (h0 : 0 ≤ i) (h1 : i < cs.length) : (cs.getD i.toNat c0).wf ∧ okP (cs.getD i.toNat c0).prog = true :=
  h _ (mem_getD cs c0 _ (by omega))
theorem cs_get (cs : List Cl) {i : Int} (h0 : 0 ≤ i) (h1 : i < cs.length) : lget (cs.map Cl.row) (Int.toNat i) = (cs.getD i.toNat c0).row := lget_mapD _ _ c0 _ (by omega)
def outF (r : Option (List Rw)) (e : Option (List AV)) : Prop := match r with
  | some t => ∃ f : Bool, e = some [.ow f 91 4 (t.map Rw.row), .v (.bool true)]
  | none => e = some [.ow true 91 4 [], .v (.bool false)]
def outFl (r : Option (List Rw)) (e : Option LR) : Prop := match r with
  | some t => ∃ f : Bool, e = some ⟨some 0, ⟨[(8, .sl f 0 0 none)], [⟨1, 91, 4, false, t.map Rw.row⟩]⟩, []⟩
  | none => e = some ⟨none, ⟨[], []⟩, [.ow true 91 4 [], .v (.bool false)]⟩
theorem l_final (cn : Bool) (cs : List Cl) (hg : GoodC cs) (hcs : cs.length ≤ 1000) (on : Bool) (os : List Int) (hos : os.length ≤ 100) : ∀ (rest done : List Int) (now : List Rw) (f : Bool), os = done ++ rest → now.length ≤ 20 + 8 * done.length → OkT now → tval 0 now = true → (f = true → now = []) →
    outFl (finM cs now done rest) (lp 33 0 0 ⟨[(1, .lst cn 7 (cs.map Cl.row)), (2, .lst on 1 (os.map vRow)), (8, .sl f 0 0 none), (17, .lst on 1 (os.map vRow)), (18, .v (.int .i64 (((List.length (os.map vRow)) : Nat) : Int))), (19, .v (.int .i64 ((done.length : Nat) : Int)))], [⟨1, 91, 4, false, now.map Rw.row⟩]⟩)
  | [], done, now, f, h, hn, hT, hv, hf => by
    refine ⟨f, ?_⟩
    rw [lp33_0]
    exact cF (ltI_f (by rw [List.length_map, h, List.append_nil]; omega)) rfl
  | i :: rest, done, now, f, h, hn, hT, hv, hf => by
    have hlt : done.length < os.length := by rw [h]; simp
    have hrow : lget (os.map vRow) (Int.toNat ((done.length : Nat) : Int)) = vRow i := by
      rw [Int.toNat_natCast, lget_map _ _ _ hlt]
      subst h
      simp
    have hw : IntKind.i64.wrap (((done.length : Nat) : Int) + 1) = (((done ++ [i]).length : Nat) : Int) := by rw [w_i64, List.length_append, List.length_singleton]; omega
    have hin : (leI 0 ((done.length : Nat) : Int) && ltI ((done.length : Nat) : Int) (((List.length (os.map vRow)) : Nat) : Int)) = true := by rw [leI_t (by omega), ltI_t (by rw [List.length_map]; omega)]; rfl
    have hin2 : (leI 0 ((done.length : Nat) : Int) && leI ((done.length : Nat) : Int) (((List.length (os.map vRow)) : Nat) : Int)) = true := by rw [leI_t (by omega), leI_t (by rw [List.length_map]; omega)]; rfl
    have h1 : ltI ((done.length : Nat) : Int) (((List.length (os.map vRow)) : Nat) : Int) = true := ltI_t (by rw [List.length_map]; omega)
    have htk : List.take (Int.toNat ((done.length : Nat) : Int)) (os.map vRow) = done.map vRow := by
      rw [Int.toNat_natCast, ← List.map_take, h, List.take_left']
      rfl
    have hct := s_contains on done i (by omega)
    rw [← htk] at hct
    unfold finM
    rw [lp33_0, hrow, hw]
    by_cases c1 : 0 ≤ i
    · by_cases c2 : i < cs.length
      · have hci : (leI 0 i && ltI i (((List.length (cs.map Cl.row)) : Nat) : Int)) = true := by rw [leI_t c1, ltI_t (by rw [List.length_map]; omega)]; rfl
        by_cases c3 : i ∈ done
        · rw [decide_eq_true c3] at hct
          rw [if_neg (fun hh => hh.2.2 c3)]
          exact cT h1 (cT hin (cT rfl (cF (ltI_f (by show 0 ≤ i; exact c1)) (cF (leI_f (by show i < (((List.length (cs.map Cl.row)) : Nat) : Int); rw [List.length_map]; exact c2)) (cT hin2 (bnd hct (cT rfl (cT rfl rfl))))))))
        · rw [decide_eq_false c3] at hct
          rw [if_pos ⟨c1, c2, c3⟩]
          obtain ⟨wf, hp⟩ := good_at hg c1 c2
          have hrow2 := cs_get cs c1 c2
          obtain ⟨a4, a5, acc, an, ha, h27⟩ := s_Apply f now hf (by omega) hT (cs.getD i.toNat c0).pn (cs.getD i.toNat c0).prog wf.pok
          have hp5 := wf.p5
          obtain ⟨k1, k2, k3, k4, k5, k6⟩ := applyM_ok now (cs.getD i.toNat c0).prog hT wf.pok (by omega) (by omega)
          have hne : (applyM now (cs.getD i.toNat c0).prog).2.2.2 ≠ 1 := by
            intro e
            have := (applyM_arg _ _).1 e
            rw [hp, hv] at this
            cases this
          have ih := l_final cn cs hg hcs on os hos rest (done ++ [i]) (applyM now (cs.getD i.toNat c0).prog).1 a4 (by rw [h]; simp) (by rw [List.length_append, List.length_singleton]; omega) k1 (k5 hv) an
          have : lp 33 0 0 ⟨[(1, .lst cn 7 (cs.map Cl.row)), (2, .lst on 1 (os.map vRow)), (8, .sl f 0 0 none), (17, .lst on 1 (os.map vRow)), (18, .v (.int .i64 (((List.length (os.map vRow)) : Nat) : Int))), (19, .v (.int .i64 ((done.length : Nat) : Int)))], [⟨1, 91, 4, false, now.map Rw.row⟩]⟩ =
              lp 33 0 0 ⟨[(1, .lst cn 7 (cs.map Cl.row)), (2, .lst on 1 (os.map vRow)), (8, .sl a4 0 0 none), (17, .lst on 1 (os.map vRow)), (18, .v (.int .i64 (((List.length (os.map vRow)) : Nat) : Int))), (19, .v (.int .i64 (((done ++ [i]).length : Nat) : Int)))], [⟨1, 91, 4, false, (applyM now (cs.getD i.toNat c0).prog).1.map Rw.row⟩]⟩ := by
            rw [lp33_0, hrow, hw]
            refine cT h1 (cT hin (cT rfl (cF (ltI_f (by show 0 ≤ i; exact c1)) (cF (leI_f (by show i < (((List.length (cs.map Cl.row)) : Nat) : Int); rw [List.length_map]; exact c2)) (cT hin2 (bnd hct (cT rfl (cF rfl (cT hci ?_)))))))))
            show cond (isL 12 (cellAt (lget (cs.map Cl.row) (Int.toNat i)) 2)) ((ev 27 [.lst f 4 (now.map Rw.row), .lst (avNil (cellAt (lget (cs.map Cl.row) (Int.toNat i)) 2)) 12 (avXs (cellAt (lget (cs.map Cl.row) (Int.toNat i)) 2))]).bind _) _ = _
            rw [hrow2]
            exact cT rfl (bnd h27 (cT rfl (cT rfl (cT rfl (cT rfl (cF (by show ((applyM now (cs.getD i.toNat c0).prog).2.2.2 == 1) = false; rw [beq_eq_false_iff_ne]; exact hne) rfl))))))
          rw [lp33_0, hrow, hw] at this
          rw [this]
          exact ih
      · rw [if_neg (fun hh => c2 hh.2.1)]
        exact cT h1 (cT hin (cT rfl (cF (ltI_f (by show 0 ≤ i; exact c1)) (cT (leI_t (by show (((List.length (cs.map Cl.row)) : Nat) : Int) ≤ i; rw [List.length_map]; omega)) rfl))))
    · rw [if_neg (fun hh => c1 hh.1)]
      exact cT h1 (cT hin (cT rfl (cT (ltI_t (by show i < 0; omega)) rfl)))
theorem s_Final (tn : Bool) (t : List Rw) (htn : tn = true → t = []) (ht : t.length ≤ 20) (hT : OkT t) (hv : tval 0 t = true) (cn : Bool) (cs : List Cl) (hg : GoodC cs) (hcs : cs.length ≤ 1000) (on : Bool) (os : List Int) (hos : os.length ≤ 100) :
    outF (finM cs t [] os) (ev 33 [.lst tn 4 (t.map Rw.row), .lst cn 7 (cs.map Cl.row), .lst on 1 (os.map vRow)]) := by
  have hcl := s_tclone tn t htn (by omega)
  have h := l_final cn cs hg hcs on os hos os [] t tn rfl (by simp; omega) hT hv htn
  rw [ev33]
  cases hf : finM cs t [] os with
  | some t' =>
    rw [hf] at h
    obtain ⟨f, h⟩ := h
    exact ⟨f, bnd hcl (cT rfl (bnd h (cT rfl (cT rfl rfl))))⟩
  | none =>
    rw [hf] at h
    exact bnd hcl (cT rfl (bnd h (cF rfl (cT rfl rfl))))
def bRow (b : Bool) : List AV := [.v (.bool b)]
def S91 (tn : Bool) (t : List Rw) (cf : Bool) (cs : List Cl) (of_ : Bool) (os : List Int) (nn : Bool) (now : List Rw) (fine : Bool) (uf : Bool) (us : List Bool) (i : Nat) : St :=
  ⟨[(9, .lst tn 4 (t.map Rw.row)), (10, .sl cf 0 0 none), (12, .sl of_ 1 0 none), (14, .lst nn 4 (now.map Rw.row)), (15, .v (.bool fine)), (16, .sl uf 2 0 none), (17, .v (.int .i64 ((i : Nat) : Int)))], [⟨1, 56, 7, false, cs.map Cl.row⟩, ⟨1, 3, 1, false, os.map vRow⟩, ⟨1, 4, 1, false, us.map bRow⟩]⟩
def R91 (tn : Bool) (t : List Rw) (cf : Bool) (cs : List Cl) (of_ : Bool) (os : List Int) (nn : Bool) (now : List Rw) (fine : Bool) : Option LR :=
  some ⟨some 2, ⟨[(9, .lst tn 4 (t.map Rw.row)), (10, .sl cf 0 0 none), (12, .sl of_ 1 0 none), (14, .lst nn 4 (now.map Rw.row)), (15, .v (.bool fine))], [⟨1, 56, 7, false, cs.map Cl.row⟩, ⟨1, 3, 1, false, os.map vRow⟩]⟩, []⟩
def outL (tn : Bool) (t : List Rw) (cf : Bool) (cs : List Cl) (of_ : Bool) (os : List Int) (r : Option (List Rw)) (e : Option LR) : Prop := match r with
  | some t' => ∃ nn : Bool, e = R91 tn t cf cs of_ os nn t' true
  | none => ∃ (nn : Bool) (t' : List Rw), e = R91 tn t cf cs of_ os nn t' false
theorem l91_stop (tn : Bool) (t : List Rw) (cf : Bool) (cs : List Cl) (of_ : Bool) (os : List Int) (nn : Bool) (now : List Rw) (uf : Bool) (us : List Bool) (i : Nat) : lp 9 1 0 (S91 tn t cf cs of_ os nn now false uf us i) = R91 tn t cf cs of_ os nn now false := by
  unfold S91
  rw [lp9_1]
  cases ltI ((i : Nat) : Int) ((((List.length (os.map vRow)) - 0) : Nat) : Int) with
  | true => exact cT rfl (cF rfl rfl)
  | false => exact cF rfl rfl
def UsOk (n : Nat) (us : List Bool) (seen : List Int) : Prop := us.length = n ∧ ∀ k : Nat, k < n → us.getD k false = decide ((k : Int) ∈ seen)
theorem us_set {n : Nat} {us : List Bool} {seen : List Int} (h : UsOk n us seen) {i : Int} (h0 : 0 ≤ i) (h1 : i < n) : UsOk n (us.set i.toNat true) (seen ++ [i]) := by
  refine ⟨by rw [List.length_set]; exact h.1, fun k hk => ?_⟩
  have h2 := h.2 k hk
  by_cases e : k = i.toNat
  · subst e
    rw [decide_eq_true (by rw [Int.toNat_of_nonneg h0]; simp)]
    simp [h.1, hk]
  · have e2 : (k : Int) ≠ i := by omega
    simp [List.getD_eq_getElem?_getD, List.getElem?_set, Ne.symm e] at h2 ⊢
    rw [h2]
    simp [e2]
theorem l91 (tn : Bool) (t : List Rw) (cf : Bool) (cs : List Cl) (hg : GoodC cs) (hcs : cs.length ≤ 1000) (of_ : Bool) (os : List Int) (hos : os.length ≤ 100) : ∀ (rest done : List Int) (now : List Rw) (nn uf : Bool) (us : List Bool), os = done ++ rest → now.length ≤ 20 + 8 * done.length → OkT now → tval 0 now = true → UsOk cs.length us done →
    outL tn t cf cs of_ os (finM cs now done rest) (lp 9 1 0 (S91 tn t cf cs of_ os nn now true uf us done.length))
  | [], done, now, nn, uf, us, h, hn, hT, hv, hu => by
    refine ⟨nn, ?_⟩
    unfold S91
    rw [lp9_1]
    exact cF (ltI_f (by rw [List.length_map, h, List.append_nil, Nat.sub_zero]; omega)) rfl
  | i :: rest, done, now, nn, uf, us, h, hn, hT, hv, hu => by
    have hlt : done.length < os.length := by rw [h]; simp
    have hrow : lget (os.map vRow) (0 + Int.toNat ((done.length : Nat) : Int)) = vRow i := by
      rw [Nat.zero_add, Int.toNat_natCast, lget_map _ _ _ hlt]
      subst h
      simp
    have hw : IntKind.i64.wrap (((done.length : Nat) : Int) + 1) = (((done ++ [i]).length : Nat) : Int) := by rw [w_i64, List.length_append, List.length_singleton]; omega
    have h1 : ltI ((done.length : Nat) : Int) ((((List.length (os.map vRow)) - 0) : Nat) : Int) = true := ltI_t (by rw [List.length_map]; omega)
    have hin : (leI 0 ((done.length : Nat) : Int) && ltI ((done.length : Nat) : Int) ((((List.length (os.map vRow)) - 0) : Nat) : Int)) = true := by rw [leI_t (by omega), h1]; rfl
    have hix : (ltN (0 + Int.toNat ((done.length : Nat) : Int)) (List.length (os.map vRow)) && isI .i64 (cellAt (vRow i) 0)) = true := by rw [ltN_t (by rw [List.length_map]; omega)]; rfl
    unfold finM
    by_cases c1 : 0 ≤ i
    · by_cases c2 : i < cs.length
      · have hci : (leI 0 i && ltI i ((((List.length (us.map bRow)) - 0) : Nat) : Int)) = true := by rw [leI_t c1, ltI_t (by rw [List.length_map, hu.1]; omega)]; rfl
        have hcc : ltI i ((((List.length (cs.map Cl.row)) - 0) : Nat) : Int) = true := ltI_t (by rw [List.length_map]; omega)
        have hci2 : (leI 0 i && ltI i ((((List.length (cs.map Cl.row)) - 0) : Nat) : Int)) = true := by rw [leI_t c1, hcc]; rfl
        have hul : ltN (0 + Int.toNat i) (List.length (us.map bRow)) = true := ltN_t (by rw [List.length_map, hu.1]; omega)
        have hur : lget (us.map bRow) (0 + Int.toNat i) = bRow (decide (i ∈ done)) := by
          rw [Nat.zero_add, lget_mapD _ _ false _ (by rw [hu.1]; omega), hu.2 _ (by omega), Int.toNat_of_nonneg c1]
        have hun : (ltN (0 + Int.toNat i) (List.length (us.map bRow)) && isB (cellAt (bRow (decide (i ∈ done))) 0)) = true := by rw [hul]; rfl
        by_cases c3 : i ∈ done
        · rw [if_neg (fun hh => hh.2.2 c3)]
          rw [decide_eq_true c3] at hur hun
          refine ⟨nn, now, ?_⟩
          unfold S91
          rw [lp9_1, hrow, hw]
          refine cT h1 (cT rfl (cT hin (cT hix (cT (leI_t c1) (cT hin (cT hix (cT hcc (cT hin (cT hix (cT hci ?_))))))))))
          show cond (ltN (0 + Int.toNat i) (List.length (us.map bRow)) && isB (cellAt (lget (us.map bRow) (0 + Int.toNat i)) 0)) (cond (!(avBool (cellAt (lget (us.map bRow) (0 + Int.toNat i)) 0))) _ (lp 9 1 0 ⟨[(9, .lst tn 4 (t.map Rw.row)), (10, .sl cf 0 0 none), (12, .sl of_ 1 0 none), (14, .lst nn 4 (now.map Rw.row)), (15, .v (.bool (!(avBool (cellAt (lget (us.map bRow) (0 + Int.toNat i)) 0))))), (16, .sl uf 2 0 none), (17, .v (.int .i64 (((done ++ [i]).length : Nat) : Int)))], [⟨1, 56, 7, false, cs.map Cl.row⟩, ⟨1, 3, 1, false, os.map vRow⟩, ⟨1, 4, 1, false, us.map bRow⟩]⟩)) _ = _
          rw [hur]
          exact cT hun (cF rfl (l91_stop tn t cf cs of_ os nn now uf us _))
        · rw [if_pos ⟨c1, c2, c3⟩]
          rw [decide_eq_false c3] at hur hun
          obtain ⟨wf, hp⟩ := good_at hg c1 c2
          have hrow2 : lget (cs.map Cl.row) (0 + Int.toNat i) = (cs.getD i.toNat c0).row := by rw [Nat.zero_add]; exact cs_get cs c1 c2
          have hp5 := wf.p5
          obtain ⟨fo, ho⟩ := s_own (cs.getD i.toNat c0).pn (cs.getD i.toNat c0).prog (by omega)
          obtain ⟨b4, b5, bcc, hb, h22⟩ := s_RApply nn now (by omega) hT fo (cs.getD i.toNat c0).prog (by omega) wf.pok
          obtain ⟨k1, k2, k3, k4, k5, k6⟩ := applyM_ok now (cs.getD i.toNat c0).prog hT wf.pok (by omega) (by omega)
          have ih := l91 tn t cf cs hg hcs of_ os hos rest (done ++ [i]) (applyM now (cs.getD i.toNat c0).prog).1 b4 uf (us.set i.toNat true) (by rw [h]; simp) (by rw [List.length_append, List.length_singleton]; omega) k1 (k5 hv) (us_set hu c1 c2)
          have : lp 9 1 0 (S91 tn t cf cs of_ os nn now true uf us done.length) = lp 9 1 0 (S91 tn t cf cs of_ os b4 (applyM now (cs.getD i.toNat c0).prog).1 true uf (us.set i.toNat true) (done ++ [i]).length) := by
            unfold S91
            rw [lp9_1, hrow, hw]
            refine cT h1 (cT rfl (cT hin (cT hix (cT (leI_t c1) (cT hin (cT hix (cT hcc (cT hin (cT hix (cT hci ?_))))))))))
            show cond (ltN (0 + Int.toNat i) (List.length (us.map bRow)) && isB (cellAt (lget (us.map bRow) (0 + Int.toNat i)) 0)) (cond (!(avBool (cellAt (lget (us.map bRow) (0 + Int.toNat i)) 0))) _ _) _ = _
            rw [hur]
            refine cT hun (cT rfl (cT hin (cT hix (cT hci (cT hul (cT hin (cT hix (cT hci2 ?_))))))))
            show cond (ltN (0 + Int.toNat i) (List.length (cs.map Cl.row)) && isL 12 (cellAt (lget (cs.map Cl.row) (0 + Int.toNat i)) 2)) ((ev 26 [.lst (avNil (cellAt (lget (cs.map Cl.row) (0 + Int.toNat i)) 2)) 12 (avXs (cellAt (lget (cs.map Cl.row) (0 + Int.toNat i)) 2))]).bind _) _ = _
            rw [hrow2]
            refine cT (by rw [ltN_t (by rw [List.length_map]; omega)]; rfl) (bnd ho (cT rfl (bnd h22 (cT rfl (cT rfl (cT rfl (cT rfl ?_)))))))
            rw [show (List.map bRow (us.set i.toNat true)) = List.set (us.map bRow) (0 + Int.toNat i) (bRow true) by rw [Nat.zero_add, List.map_set]]
            show lp 9 1 0 ⟨[(9, .lst tn 4 (t.map Rw.row)), (10, .sl cf 0 0 none), (12, .sl of_ 1 0 none), (14, .lst b4 4 ((applyM now (cs.getD i.toNat c0).prog).1.map Rw.row)), (15, .v (.bool (!(avBool (cellAt (lget (us.map bRow) (0 + Int.toNat i)) 0))))), (16, .sl uf 2 0 none), (17, .v (.int .i64 (((done ++ [i]).length : Nat) : Int)))], [⟨1, 56, 7, false, cs.map Cl.row⟩, ⟨1, 3, 1, false, os.map vRow⟩, ⟨1, 4, 1, false, List.set (us.map bRow) (0 + Int.toNat i) [.v (.bool true)]⟩]⟩ = _
            rw [hur]
            rfl
          rw [this]
          exact ih
      · rw [if_neg (fun hh => c2 hh.2.1)]
        refine ⟨nn, now, ?_⟩
        unfold S91
        rw [lp9_1, hrow, hw]
        exact cT h1 (cT rfl (cT hin (cT hix (cT (leI_t c1) (cT hin (cT hix (cF (ltI_f (by rw [List.length_map]; show (((cs.length - 0 : Nat)) : Int) ≤ i; omega)) (l91_stop tn t cf cs of_ os nn now uf us _))))))))
    · rw [if_neg (fun hh => c1 hh.1)]
      refine ⟨nn, now, ?_⟩
      unfold S91
      rw [lp9_1, hrow, hw]
      exact cT h1 (cT rfl (cT hin (cT hix (cF (leI_f (by show i < 0; omega)) (l91_stop tn t cf cs of_ os nn now uf us _)))))
theorem l90 (near tn : Bool) (t : List Rw) (cf : Bool) (cs : List Cl) (hcs : cs.length ≤ 1000) (of_ : Bool) : ∀ (d i : Nat) (os : List Int), i + d = os.length → os.length ≤ 100 →
    ∃ os' : List Int, os'.length = os.length ∧ lp 9 0 0 ⟨[(3, .v (.bool near)), (9, .lst tn 4 (t.map Rw.row)), (10, .sl cf 0 0 none), (12, .sl of_ 1 0 none), (13, .v (.int .i64 ((i : Nat) : Int)))], [⟨1, 56, 7, false, cs.map Cl.row⟩, ⟨1, 3, 1, false, os.map vRow⟩]⟩ =
      some ⟨some 0, ⟨[(9, .lst tn 4 (t.map Rw.row)), (10, .sl cf 0 0 none), (12, .sl of_ 1 0 none)], [⟨1, 56, 7, false, cs.map Cl.row⟩, ⟨1, 3, 1, false, os'.map vRow⟩]⟩, []⟩
  | 0, i, os, h, hl => by
    refine ⟨os, rfl, ?_⟩
    rw [lp9_0]
    cases near with
    | false => exact cF rfl rfl
    | true => exact cT rfl (cF (ltI_f (by rw [List.length_map]; omega)) rfl)
  | d + 1, i, os, h, hl => by
    cases near with
    | false =>
      refine ⟨os, rfl, ?_⟩
      rw [lp9_0]
      exact cF rfl rfl
    | true =>
      have hlt : i < os.length := by omega
      have hrow : lget (os.map vRow) (0 + Int.toNat ((i : Nat) : Int)) = vRow (os.getD i 0) := by rw [Nat.zero_add, Int.toNat_natCast, lget_mapD _ _ 0 _ hlt]
      have hw : IntKind.i64.wrap (((i : Nat) : Int) + 1) = ((i + 1 : Nat) : Int) := by rw [w_i64]; omega
      have hwn : IntKind.i64.wrap (((((List.length (cs.map Cl.row)) - 0) : Nat) : Int) + 1) = (cs.length : Int) + 1 := by rw [List.length_map, w_i64]; omega
      have h1 : ltI ((i : Nat) : Int) ((((List.length (os.map vRow)) - 0) : Nat) : Int) = true := ltI_t (by rw [List.length_map]; omega)
      have hin : (leI 0 ((i : Nat) : Int) && ltI ((i : Nat) : Int) ((((List.length (os.map vRow)) - 0) : Nat) : Int)) = true := by rw [leI_t (by omega), h1]; rfl
      obtain ⟨os', hl', ih⟩ := l90 true tn t cf cs hcs of_ d (i + 1) (os.set i (pick (os.getD i 0) ((cs.length : Int) + 1))) (by rw [List.length_set]; omega) (by rw [List.length_set]; exact hl)
      refine ⟨os', by rw [hl', List.length_set], ?_⟩
      rw [lp9_0, hrow, hwn, hw]
      refine cT rfl (cT h1 (cT hin (cT (by rw [ltN_t (by rw [List.length_map]; omega)]; rfl) (bnd (s_Pick _ _ (by omega) (by omega)) (cT rfl (cT hin (cT (ltN_t (by rw [List.length_map]; omega)) ?_)))))))
      rw [List.map_set] at ih
      rw [Nat.zero_add, Int.toNat_natCast]
      exact ih
theorem us_new (n : Nat) : UsOk n (List.replicate n false) [] := ⟨List.length_replicate .., fun k hk => by simp [hk]⟩
theorem mvs {N : Nat} {n : Nat} {x : List (List AV)} (h : ∀ y ∈ x, TypC Try.prog N (n + 4) 89 y) : ∃ l : List Mv, x = l.map Mv.row := by
  obtain ⟨l, h, _⟩ := rows_of Mv.row (fun _ => True) x fun y hy => by
    obtain ⟨x0, x1, x2, x3, pn, p, rfl, _, _, _, _, _, _, hp⟩ := openC89 (h y hy)
    obtain ⟨rs, rfl⟩ := raws hp
    exact ⟨⟨x0, x1, x2, x3, pn, rs⟩, rfl, trivial⟩
  exact ⟨l, h⟩
theorem ints {N : Nat} {n : Nat} {x : List (List AV)} (h : ∀ y ∈ x, TypC Try.prog N (n + 1) 3 y) : ∃ l : List Int, x = l.map vRow := by
  obtain ⟨l, h, _⟩ := rows_of vRow (fun _ => True) x fun y hy => by
    obtain ⟨x0, rfl, _⟩ := openC3 (h y hy)
    exact ⟨x0, rfl, trivial⟩
  exact ⟨l, h⟩
theorem finM_len (cs : List Cl) (hg : GoodC cs) : ∀ (os : List Int) (now : List Rw) (seen : List Int) (t' : List Rw), OkT now → now.length + 8 * os.length ≤ 500 → os.length ≤ 50 → finM cs now seen os = some t' → t'.length ≤ 500
  | [], now, seen, t', hT, h, _, e => by
    have : now = t' := Option.some.inj e
    subst this
    simp at h; omega
  | i :: os, now, seen, t', hT, h, h2, e => by
    unfold finM at e
    by_cases hc : 0 ≤ i ∧ i < cs.length ∧ i ∉ seen
    · rw [if_pos hc] at e
      obtain ⟨wf, hp⟩ := good_at hg hc.1 hc.2.1
      have hp5 := wf.p5
      rw [List.length_cons] at h h2
      obtain ⟨k1, k2, _⟩ := applyM_ok now (cs.getD i.toNat c0).prog hT wf.pok (by omega) (by omega)
      exact finM_len cs hg os _ _ t' k1 (by omega) (by omega) e
    · rw [if_neg hc] at e; cases e
theorem repl_map (n : Nat) : List.replicate n ([AV.v (.bool false)] : List AV) = (List.replicate n false).map bRow := by rw [List.map_replicate]; rfl
theorem final_all {N : Nat} (l : List AV) (h : TypA Try.prog N Try.f9.params.toList l) : ∃ n, evF Try.prog cfg n 9 l = some [.v (.bool true)] := by
  rw [show Try.f9.params.toList = [3, 22, 32, 4] by kernel_rfl] at h
  obtain ⟨a0, r, rfl, t0, h⟩ := h
  obtain ⟨a1, r, rfl, t1, h⟩ := h
  obtain ⟨a2, r, rfl, t2, h⟩ := h
  obtain ⟨a3, r, rfl, t3, h⟩ := h
  obtain rfl : r = [] := h
  obtain ⟨n, rfl, _⟩ := openV3 t0
  obtain ⟨xn, x, rfl, _, _, f1⟩ := openV22 t1
  obtain ⟨on, o, rfl, _, _, f2⟩ := openV32 t2
  obtain ⟨near, rfl, _⟩ := openV4 t3
  obtain ⟨ms, rfl⟩ := mvs f1
  obtain ⟨os, rfl⟩ := ints f2
  clear t0 t1 t2 t3 f1 f2
  refine evF_of_evL ?_
  refine (ev9 _ _ _ _ _ _).trans ?_
  obtain ⟨hv, hh, hms⟩ := s_heavy xn ms 6 (by decide)
  refine bnd hh (cT rfl ?_)
  cases hv with
  | true => exact cT rfl rfl
  | false =>
    have hms' := hms rfl
    refine cF rfl ?_
    by_cases ho : 12 < os.length
    · exact cT (ltI_t (by rw [List.length_map]; omega)) rfl
    refine cF (ltI_f (by rw [List.length_map]; omega)) ?_
    obtain ⟨ft, t, hr, t1, t2, t3, t4⟩ := s_rows n
    refine bnd hr (cT rfl ?_)
    rcases s_history ft t (by omega) t2 xn ms (by omega) with ⟨f, cs, h1, h2, h3⟩ | h1
    · have hg := hist_good cs 0 t h3
      obtain ⟨os', hl, h90⟩ := l90 near ft t f cs (by omega) (List.isEmpty (os.map vRow)) os.length 0 os (by omega) (by omega)
      obtain ⟨f17, htab⟩ := s_table ft t (by omega)
      have h91 := l91 ft t f cs hg (by omega) (List.isEmpty (os.map vRow)) os' (by omega) os' [] t f17 false (List.replicate cs.length false) rfl (by simp; omega) t2 t3 (us_new _)
      have hF := s_Final ft t t4 (by omega) t2 t3 f cs hg (by omega) (List.isEmpty (os.map vRow)) os' (by omega)
      refine bnd h1 (cT rfl (cT rfl (bnd s_awake (cT rfl (cF rfl (cF rfl (cT (leN_t (by rw [List.length_map]; omega)) (bnd h90 (cT rfl (cT rfl (bnd htab (cT rfl (cT ?_ ?_)))))))))))))
      · show (((leI 0 ((((List.length (cs.map Cl.row)) - 0) : Nat) : Int) && leI ((((List.length (cs.map Cl.row)) - 0) : Nat) : Int) ((((List.length (cs.map Cl.row)) - 0) : Nat) : Int)) && leI (((((List.length (cs.map Cl.row)) - 0) : Nat) : Int) * 1) 281474976710656) && leI ((((List.length (cs.map Cl.row)) - 0) : Nat) : Int) 281474976710656) = true
        rw [List.length_map, leI_t (by omega), leI_t (by omega), leI_t (by omega), leI_t (by omega)]; rfl
      · have hst : (⟨[(9, .lst ft 4 (t.map Rw.row)), (10, .sl f 0 0 none), (12, .sl (List.isEmpty (os.map vRow)) 1 0 none), (14, .lst f17 4 (t.map Rw.row)), (15, .v (.bool true)), (16, .sl false 2 0 none), (17, .v (.int .i64 0))], [⟨1, 56, 7, false, cs.map Cl.row⟩, ⟨1, 3, 1, false, os'.map vRow⟩, ⟨1, 4, 1, false, List.replicate (Int.toNat ((((List.length (cs.map Cl.row)) - 0) : Nat) : Int)) [.v (.bool false)]⟩]⟩ : St) = S91 ft t f cs (List.isEmpty (os.map vRow)) os' f17 t true false (List.replicate cs.length false) 0 := by
          unfold S91
          rw [List.length_map, Nat.sub_zero, Int.toNat_natCast, repl_map]; rfl
        show (lp 9 1 0 ⟨[(9, .lst ft 4 (t.map Rw.row)), (10, .sl f 0 0 none), (12, .sl (List.isEmpty (os.map vRow)) 1 0 none), (14, .lst f17 4 (t.map Rw.row)), (15, .v (.bool true)), (16, .sl false 2 0 none), (17, .v (.int .i64 0))], [⟨1, 56, 7, false, cs.map Cl.row⟩, ⟨1, 3, 1, false, os'.map vRow⟩, ⟨1, 4, 1, false, List.replicate (Int.toNat ((((List.length (cs.map Cl.row)) - 0) : Nat) : Int)) [.v (.bool false)]⟩]⟩).bind _ = _
        rw [hst]
        cases hfm : finM cs t [] os' with
        | none =>
          rw [hfm] at h91 hF
          obtain ⟨nn, t', h91⟩ := h91
          exact bnd h91 (cT rfl (cT rfl (bnd hF (cT rfl (cT rfl (cT rfl (cT rfl (cT rfl (cT rfl rfl)))))))))
        | some t' =>
          rw [hfm] at h91 hF
          obtain ⟨nn, h91⟩ := h91
          obtain ⟨g, hF⟩ := hF
          have hlt : t'.length ≤ 1000000 ∨ 1000000 < t'.length := by omega
          rcases hlt with hlt | hlt
          · obtain ⟨f5, htab2⟩ := s_table g t' hlt
            have hsame := s_same f5 nn t' t' hlt
            rw [(lsEq_iff rwEq_iff _ _).2 rfl] at hsame
            refine bnd h91 (cT rfl (cT rfl (bnd hF (cT rfl (cT rfl (cT ?_ (cT rfl (cF rfl (cT rfl (bnd htab2 (cT rfl (bnd hsame (cT rfl rfl)))))))))))))
            show (false || ((List.all (t'.map Rw.row) rowV && true) && true)) = true
            rw [rows_rowV]; rfl
          · exfalso
            have := finM_len cs hg os' t [] t' t2 (by omega) (by omega) hfm
            omega
    · exact bnd h1 (cT rfl (cT rfl (bnd s_awake (cT rfl (cF rfl (cT rfl rfl))))))
end Go.Proofs.Ytnhahcomgeeobaa
