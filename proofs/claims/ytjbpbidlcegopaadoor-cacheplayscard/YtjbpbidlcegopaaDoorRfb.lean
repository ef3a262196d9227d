/- The reference's ReadNode and Locate: what they answer, in all. -/
import Derived.Test.YtjbpbidlcegopaaDoorRfa
set_option linter.all false
namespace Go.Proofs.YtjbpbidlcegopaaDoor
open Go.Ev
open H (ws aux cnt lvl lmB ddB hiW riW ents eR)
def zr (c : Int) : Nat → List Int → Bool
  | _, [] => true
  | i, w :: r => (!(leI c ((i : Nat) : Int)) || (w == 0)) && zr c (i + 1) r
theorem sel_at (p : Pg) {done rest : List Int} {w : Int} (h : ws p = done ++ w :: rest) :
    cond (Nat.beq (2 + done.length) 0) p.d0 (cond (Nat.beq (2 + done.length) 1) p.d1 (cond (Nat.beq (2 + done.length) 2) p.d2 (cond (Nat.beq (2 + done.length) 3) p.d3 (cond (Nat.beq (2 + done.length) 4) p.d4 (cond (Nat.beq (2 + done.length) 5) p.d5 p.d6))))) = w := by
  unfold ws at h
  rcases done with _ | ⟨a, _ | ⟨b, _ | ⟨c, _ | ⟨d, _ | ⟨e, t⟩⟩⟩⟩⟩
  · simp at h; rw [← h.1]; rfl
  · simp at h; rw [← h.2.1]; rfl
  · simp at h; rw [← h.2.2.1]; rfl
  · simp at h; rw [← h.2.2.2.1]; rfl
  · simp at h; rw [← h.2.2.2.2.1]; rfl
  · simp at h
def S36 (p : Pg) (lvl : Int) (lm dd : Bool) (hi rl rg : Int) (f : Bool) (b4 : List (List AV)) : Store :=
  [⟨1, 42, 9, true, [p.row]⟩, ⟨1, 73, 7, true, [[.v (.int .i64 0), .v (.bool false), .v (.bool false), .v (.int .u32 0), .v (.int .i64 0), .v (.int .i64 0), .sl true 2 0 none]]⟩, ⟨1, 96, 3, false, []⟩, ⟨1, 73, 7, true, [[.v (.int .i64 lvl), .v (.bool lm), .v (.bool dd), .v (.int .u32 hi), .v (.int .i64 rl), .v (.int .i64 rg), .sl f 4 0 none]]⟩, ⟨1, 96, 3, false, b4⟩]
def R36 (lvl : Int) (lm dd : Bool) (hi rl rg : Int) (f : Bool) (b4 : List (List AV)) : Store :=
  [⟨1, 73, 7, true, [[.v (.int .i64 0), .v (.bool false), .v (.bool false), .v (.int .u32 0), .v (.int .i64 0), .v (.int .i64 0), .sl true 1 0 none]]⟩, ⟨1, 96, 3, false, []⟩, ⟨1, 73, 7, true, [[.v (.int .i64 lvl), .v (.bool lm), .v (.bool dd), .v (.int .u32 hi), .v (.int .i64 rl), .v (.int .i64 rg), .sl f 3 0 none]]⟩, ⟨1, 96, 3, false, b4⟩]
theorem l36 (p : Pg) (lvl : Int) (lm dd : Bool) (hi rl rg : Int) (c : Int) (hc0 : 0 ≤ c) (hw : ∀ w ∈ ws p, u64ok w) : ∀ (rest done : List Int) (f : Bool), ws p = done ++ rest → ∃ g : Bool,
    lp 36 0 0 ⟨[(1, .ptr 0 0 0), (2, .ptr 1 0 0), (5, .v (.int .i64 c)), (6, .ptr 3 0 0), (8, .v (.int .i64 ((done.length : Nat) : Int)))], S36 p lvl lm dd hi rl rg f ((done.take c.toNat).map eR)⟩ =
      some (bif zr c done.length rest then ⟨some 0, ⟨[(2, .ptr 0 0 0), (6, .ptr 2 0 0)], R36 lvl lm dd hi rl rg g (((ws p).take c.toNat).map eR)⟩, []⟩ else ⟨none, ⟨[], []⟩, H.bad⟩)
  | [], done, f, h => by
    have hd : done.length = 5 := by rw [List.append_nil] at h; rw [← h]; rfl
    refine ⟨f, ?_⟩
    show lp 36 0 0 ⟨_, [⟨1, 42, 9, true, [[_, _, _, _, _, _, _, _, _]]⟩, _, _, _, _]⟩ = _
    rw [lp36_0]
    refine cF (ltI_f (by omega)) ?_
    rw [h, List.append_nil]; rfl
  | w :: rest, done, f, h => by
    have hlen := congrArg List.length h
    have hdl : done.length < 5 := by simp [ws] at hlen; omega
    obtain ⟨w0, w1⟩ := hw w (by rw [h]; simp)
    have hsel := sel_at p h
    have hwr : IntKind.i64.wrap (2 + ((done.length : Nat) : Int)) = ((2 + done.length : Nat) : Int) := by rw [w_i64]; omega
    have a2 : IntKind.u32.wrap w = w % 4294967296 := by rw [w_u32]
    have a3 : IntKind.u32.wrap (Int.fdiv w 4294967296) = w / 4294967296 := by rw [fdiv_pos _ _ (by decide), w_u32]; omega
    have h50 := s50 (w % 4294967296) (by omega) (by omega)
    by_cases hci : c ≤ ((done.length : Nat) : Int)
    · obtain ⟨g, ih⟩ := l36 p lvl lm dd hi rl rg c hc0 hw rest (done ++ [w]) f (by rw [h]; simp)
      refine ⟨g, ?_⟩
      have htk : (done ++ [w]).take c.toNat = done.take c.toNat := List.take_append_of_le_length (by omega)
      rw [htk, List.length_append, List.length_singleton] at ih
      show lp 36 0 0 ⟨_, [⟨1, 42, 9, true, [[_, _, _, _, _, _, _, _, _]]⟩, _, _, _, _]⟩ = _
      rw [lp36_0, hwr, H.next_at (p := w) (by omega), Int.toNat_natCast, hsel, List.length_append, List.length_singleton]
      refine cT (ltI_t (by omega)) (cT (by rw [leI_t (by omega), ltI_t (by omega)]; rfl) (cT (leI_t hci) ?_))
      show cond (!(w == 0)) _ _ = some (bif (!(leI c ((done.length : Nat) : Int)) || (w == 0)) && zr c (done.length + 1) rest then _ else _)
      rw [show leI c ((done.length : Nat) : Int) = true from leI_t hci]
      cases hz : (w == 0) with
      | false => rfl
      | true => exact cF rfl (cF (ltI_f (by omega)) ih)
    · obtain ⟨g, ih⟩ := l36 p lvl lm dd hi rl rg c hc0 hw rest (done ++ [w]) false (by rw [h]; simp)
      refine ⟨g, ?_⟩
      have hlt : done.length < c.toNat := by omega
      have htk : (done ++ [w]).take c.toNat = done.take c.toNat ++ [w] := by
        rw [List.take_of_length_le (by simp; omega), List.take_of_length_le (by omega)]
      rw [htk, List.length_append, List.length_singleton] at ih
      show lp 36 0 0 ⟨_, [⟨1, 42, 9, true, [[_, _, _, _, _, _, _, _, _]]⟩, _, _, _, _]⟩ = _
      rw [lp36_0, hwr, H.next_at (p := w) (by omega), Int.toNat_natCast, hsel, List.length_append, List.length_singleton, a2, a3]
      refine cT (ltI_t (by omega)) (cT (by rw [leI_t (by omega), ltI_t (by omega)]; rfl) (cF (leI_f (by omega)) (cT (ltI_t (by omega)) (bnd h50 (cT rfl (cT (leN_t (by rw [List.length_map, List.length_take]; omega)) ?_))))))
      have e : zr c done.length (w :: rest) = zr c (done.length + 1) rest := by
        show ((!(leI c ((done.length : Nat) : Int)) || (w == 0)) && zr c (done.length + 1) rest) = _
        rw [show leI c ((done.length : Nat) : Int) = false from leI_f (by omega)]; rfl
      rw [e]
      refine Eq.trans ?_ ih
      rw [List.map_append]; rfl
def v52P (p : Pg) : Bool := v52 (lvl p) (lmB p) (ddB p) (hiW p) (riW p % 256) (riW p / 256) (ents p)
def treeR (p : Pg) : Bool := (p.d0 % 256 == 4) && ((aux p / 262144 == 0) && (!(ltI 5 (cnt p)) && (((riW p == 0) || H.vpB (riW p % 256) (riW p / 256)) && (zr (cnt p) 0 (ws p) && (v52P p && ltI 0 (lvl p))))))
theorem bit_same (x k : Int) (hk : 0 < k) : (x % 2 == 1) = !(x % 2 * k == 0) := by
  rcases Int.emod_two_eq x with h | h
  · rw [h, Int.zero_mul]; rfl
  · rw [h, Int.one_mul, show (k == 0) = false from beq_eq_false_iff_ne.2 (by omega)]; rfl
theorem s36 (p : Pg) (hp : p.ok) : ∃ (a : Int) (b1 b2 : Bool) (c d e : Int) (f : Bool) (xs : List (List AV)) (code : Int),
    ev 36 [.agg p.row] = some [.agg [.v (.int .i64 a), .v (.bool b1), .v (.bool b2), .v (.int .u32 c), .v (.int .i64 d), .v (.int .i64 e), .lst f 3 xs], .v (.int .i64 code)] ∧ ((code == 0) && ltI 0 a) = treeR p := by
  obtain ⟨_, _, ok0, ok1, ok2, ok3, ok4, ok5, ok6⟩ := hp
  have h49 := s49 p ok0
  have h38 := s38 p ok0
  obtain ⟨k0, k1⟩ := ok0
  obtain ⟨j0, j1⟩ := ok1
  have x0 : 0 ≤ aux p ∧ aux p < 4294967296 := by unfold H.aux; omega
  have hc0 : 0 ≤ cnt p ∧ cnt p < 256 := by unfold H.cnt; omega
  have ef : Int.fdiv (aux p) 262144 = aux p / 262144 := fdiv_pos _ _ (by decide)
  have ec : IntKind.i64.wrap (Int.tmod (IntKind.u32.wrap (Int.tdiv (aux p) 256)) 256) = cnt p := by
    rw [tdiv_pos _ _ x0.1, show IntKind.u32.wrap (aux p / 256) = aux p / 256 by rw [w_u32]; omega, tmod_pos _ _ (by omega), w_i64]; unfold H.cnt; omega
  have el : IntKind.i64.wrap (Int.tmod (aux p) 256) = lvl p := by
    rw [tmod_pos _ _ x0.1, w_i64]; unfold H.lvl; omega
  have em : ((bits .and .u32 (Int.fdiv (aux p) 65536) 1) == 1) = lmB p := by
    rw [fdiv_pos _ _ (by decide), and_u32 1 (by decide) _ 1 (by decide) (by omega) (by omega)]
    exact bit_same _ _ (by decide)
  have ed : ((bits .and .u32 (Int.fdiv (aux p) 131072) 1) == 1) = ddB p := by
    rw [fdiv_pos _ _ (by decide), and_u32 1 (by decide) _ 1 (by decide) (by omega) (by omega)]
    exact bit_same _ _ (by decide)
  have er : IntKind.u32.wrap (Int.fdiv p.d1 4294967296) = riW p := by
    rw [fdiv_pos _ _ (by decide), w_u32]; unfold H.riW; omega
  have eh : IntKind.u32.wrap p.d1 = hiW p := by rw [w_u32]; rfl
  have hr : 0 ≤ riW p ∧ riW p < 4294967296 := by unfold H.riW; omega
  have h50 := s50 (riW p) hr.1 hr.2
  have h51 := s51 (riW p % 256) (riW p / 256)
  have hwok : ∀ w ∈ ws p, u64ok w := fun w hw => by
    simp only [H.ws, List.mem_cons, List.not_mem_nil, or_false] at hw
    rcases hw with rfl | rfl | rfl | rfl | rfl <;> assumption
  have hel : (ents p).length ≤ 1000 := by unfold H.ents H.ws; rw [List.length_map, List.length_take]; simp only [List.length_cons, List.length_nil]; omega
  have hbad : ∀ {A : Option (List AV)}, A = some H.bad → treeR p = false → ∃ (a : Int) (b1 b2 : Bool) (c d e : Int) (f : Bool) (xs : List (List AV)) (code : Int),
    A = some [.agg [.v (.int .i64 a), .v (.bool b1), .v (.bool b2), .v (.int .u32 c), .v (.int .i64 d), .v (.int .i64 e), .lst f 3 xs], .v (.int .i64 code)] ∧ ((code == 0) && ltI 0 a) = treeR p := fun h1 h2 => ⟨0, false, false, 0, 0, 0, true, [], 14, h1, by rw [h2]; rfl⟩
  obtain ⟨g, h36⟩ := l36 p (lvl p) (lmB p) (ddB p) (hiW p) (riW p % 256) (riW p / 256) (cnt p) hc0.1 hwok (ws p) [] true rfl
  rw [show ((ws p).take (cnt p).toNat).map eR = (ents p).map H.En.row by unfold H.ents; rw [List.map_map]; rfl, List.take_nil] at h36
  have h52 := s52 (lvl p) (lmB p) (ddB p) (hiW p) (riW p % 256) (riW p / 256) g (ents p) hel
  have hend : ∀ {r : Option (List AV)}, (cond (!(zr (cnt p) 0 (ws p))) (some H.bad) (cond (!v52P p) (some H.bad)
      (some [.agg [.v (.int .i64 (lvl p)), .v (.bool (lmB p)), .v (.bool (ddB p)), .v (.int .u32 (hiW p)), .v (.int .i64 (riW p % 256)), .v (.int .i64 (riW p / 256)), .lst g 3 ((ents p).map H.En.row)], .v (.int .i64 0)]))) = r →
      ((lp 36 0 0 ⟨[(1, .ptr 0 0 0), (2, .ptr 1 0 0), (5, .v (.int .i64 (cnt p))), (6, .ptr 3 0 0), (8, .v (.int .i64 0))], S36 p (lvl p) (lmB p) (ddB p) (hiW p) (riW p % 256) (riW p / 256) true []⟩).bind fun r27 =>
        cond (isEx 0 r27) (cond (likeStG ⟨[(2, .ptr 0 0 0), (6, .ptr 2 0 0)], R36 (lvl p) (lmB p) (ddB p) (hiW p) (riW p % 256) (riW p / 256) true []⟩ r27.st)
          ((ev 52 [.agg [.v (.int .i64 (avInt (cellAt (lget (blAt r27.st.bl 2).xs 0) 0))), .v (.bool (avBool (cellAt (lget (blAt r27.st.bl 2).xs 0) 1))), .v (.bool (avBool (cellAt (lget (blAt r27.st.bl 2).xs 0) 2))), .v (.int .u32 (avInt (cellAt (lget (blAt r27.st.bl 2).xs 0) 3))), .v (.int .i64 (avInt (cellAt (lget (blAt r27.st.bl 2).xs 0) 4))), .v (.int .i64 (avInt (cellAt (lget (blAt r27.st.bl 2).xs 0) 5))), .lst (avNil (cellAt (lget (blAt r27.st.bl 2).xs 0) 6)) 3 (blAt r27.st.bl 3).xs]]).bind fun r44 =>
            cond (isB (cellAt r44 0)) (cond (!(avBool (cellAt r44 0))) (some H.bad)
              (some [.agg [.v (.int .i64 (avInt (cellAt (lget (blAt r27.st.bl 2).xs 0) 0))), .v (.bool (avBool (cellAt (lget (blAt r27.st.bl 2).xs 0) 1))), .v (.bool (avBool (cellAt (lget (blAt r27.st.bl 2).xs 0) 2))), .v (.int .u32 (avInt (cellAt (lget (blAt r27.st.bl 2).xs 0) 3))), .v (.int .i64 (avInt (cellAt (lget (blAt r27.st.bl 2).xs 0) 4))), .v (.int .i64 (avInt (cellAt (lget (blAt r27.st.bl 2).xs 0) 5))), .lst (avNil (cellAt (lget (blAt r27.st.bl 2).xs 0) 6)) 3 (blAt r27.st.bl 3).xs], .v (.int .i64 0)])) none) none)
          (cond (isRt r27) (some r27.outs) none)) = r := by
    intro r h
    refine bnd h36 ?_
    show cond (isEx 0 (bif zr (cnt p) 0 (ws p) then _ else _)) _ _ = _
    cases hz : zr (cnt p) 0 (ws p) with
    | false => rw [hz] at h; exact cF rfl (cT rfl h)
    | true =>
    rw [hz] at h
    refine cT rfl (cT rfl (bnd h52 (cT rfl ?_)))
    show cond (!v52P p) _ _ = _
    cases hv : v52P p with
    | false => rw [hv] at h; exact h
    | true => rw [hv] at h; exact h
  have hev : ∀ {r : Option (List AV)}, (cond (!(p.d0 % 256 == 4)) (some H.bad) (cond (!(aux p / 262144 == 0)) (some H.bad) (cond (ltI 5 (cnt p)) (some H.bad) (cond (!((riW p == 0) || H.vpB (riW p % 256) (riW p / 256))) (some H.bad) (cond (!(zr (cnt p) 0 (ws p))) (some H.bad) (cond (!v52P p) (some H.bad)
      (some [.agg [.v (.int .i64 (lvl p)), .v (.bool (lmB p)), .v (.bool (ddB p)), .v (.int .u32 (hiW p)), .v (.int .i64 (riW p % 256)), .v (.int .i64 (riW p / 256)), .lst g 3 ((ents p).map H.En.row)], .v (.int .i64 0)]))))))) = r → ev 36 [.agg p.row] = r := by
    intro r h
    show ev 36 [.agg (pgl p.l p.h p.d0 p.d1 p.d2 p.d3 p.d4 p.d5 p.d6)] = _
    rw [ev36]
    refine bnd h49 (cT rfl (bnd h38 (cT rfl ?_)))
    show cond (!(p.d0 % 256 == 4)) _ (cond (!((Int.fdiv (aux p) 262144) == 0)) _ (cond (ltI 5 (IntKind.i64.wrap (Int.tmod (IntKind.u32.wrap (Int.tdiv (aux p) 256)) 256))) _ _)) = _
    rw [ef, ec]
    cases h1 : (p.d0 % 256 == 4) with
    | false => rw [h1] at h; exact h
    | true =>
    rw [h1] at h
    refine cF rfl ?_
    cases h2 : (aux p / 262144 == 0) with
    | false => rw [h2] at h; exact h
    | true =>
    rw [h2] at h
    refine cF rfl ?_
    cases h3 : ltI 5 (cnt p) with
    | true => rw [h3] at h; exact h
    | false =>
    rw [h3] at h
    refine cF rfl ?_
    rw [er]
    cases h4 : (riW p == 0) with
    | true =>
      rw [h4] at h
      have hz : riW p = 0 := by simpa using h4
      refine cF rfl ?_
      have hend' := hend (r := r) h
      show (lp 36 0 0 ⟨[(1, .ptr 0 0 0), (2, .ptr 1 0 0), (5, .v (.int .i64 (IntKind.i64.wrap (Int.tmod (IntKind.u32.wrap (Int.tdiv (aux p) 256)) 256)))), (6, .ptr 3 0 0), (8, .v (.int .i64 0))], S36 p (IntKind.i64.wrap (Int.tmod (aux p) 256)) ((bits .and .u32 (Int.fdiv (aux p) 65536) 1) == 1) ((bits .and .u32 (Int.fdiv (aux p) 131072) 1) == 1) (IntKind.u32.wrap p.d1) 0 0 true []⟩).bind _ = _
      rw [hz, Int.zero_emod, Int.zero_ediv] at hend'
      rw [ec, el, em, ed, eh]
      exact hend'
    | false =>
      rw [h4] at h
      refine cT rfl (bnd h50 (cT rfl (bnd h51 (cT rfl ?_))))
      show cond (!(H.vpB (riW p % 256) (riW p / 256))) _ ((lp 36 0 0 ⟨[(1, .ptr 0 0 0), (2, .ptr 1 0 0), (5, .v (.int .i64 (IntKind.i64.wrap (Int.tmod (IntKind.u32.wrap (Int.tdiv (aux p) 256)) 256)))), (6, .ptr 3 0 0), (8, .v (.int .i64 0))], S36 p (IntKind.i64.wrap (Int.tmod (aux p) 256)) ((bits .and .u32 (Int.fdiv (aux p) 65536) 1) == 1) ((bits .and .u32 (Int.fdiv (aux p) 131072) 1) == 1) (IntKind.u32.wrap p.d1) (riW p % 256) (riW p / 256) true []⟩).bind _) = _
      cases h5 : H.vpB (riW p % 256) (riW p / 256) with
      | false => rw [h5] at h; exact h
      | true =>
        rw [h5] at h
        refine cF rfl ?_
        rw [ec, el, em, ed, eh]
        exact hend h
  cases h1 : (p.d0 % 256 == 4) with
  | false => exact hbad (hev (by rw [h1]; rfl)) (by unfold treeR; rw [h1]; rfl)
  | true =>
  cases h2 : (aux p / 262144 == 0) with
  | false => exact hbad (hev (by rw [h1, h2]; rfl)) (by unfold treeR; rw [h1, h2]; rfl)
  | true =>
  cases h3 : ltI 5 (cnt p) with
  | true => exact hbad (hev (by rw [h1, h2, h3]; rfl)) (by unfold treeR; rw [h1, h2, h3]; rfl)
  | false =>
  cases h4 : ((riW p == 0) || H.vpB (riW p % 256) (riW p / 256)) with
  | false => exact hbad (hev (by rw [h1, h2, h3, h4]; rfl)) (by unfold treeR; rw [h1, h2, h3, h4]; rfl)
  | true =>
  cases h5 : zr (cnt p) 0 (ws p) with
  | false => exact hbad (hev (by rw [h1, h2, h3, h4, h5]; rfl)) (by unfold treeR; rw [h1, h2, h3, h4, h5]; rfl)
  | true =>
  cases h6 : v52P p with
  | false => exact hbad (hev (by rw [h1, h2, h3, h4, h5, h6]; rfl)) (by unfold treeR; rw [h1, h2, h3, h4, h5, h6]; rfl)
  | true => exact ⟨_, _, _, _, _, _, _, _, _, hev (by rw [h1, h2, h3, h4, h5, h6]; rfl), by unfold treeR; rw [h1, h2, h3, h4, h5, h6]; rfl⟩
end Go.Proofs.YtjbpbidlcegopaaDoor
