/- QueryParses. -/
import Derived.Test.YtcinngpelbdopaaRps5
import Derived.Test.YtcinngpelbdopaaAlk
set_option linter.all false
namespace Go.Proofs.Ytcinngpelbdopaa
open Go.Ev
attribute [local congr] bind_first cond_first
def kw8 (d : Int) : ByteArray := (cond (Nat.beq (Int.toNat d) 0) (bs [119, 104, 101, 114, 101]) (cond (Nat.beq (Int.toNat d) 1) (bs [108, 105, 109, 105, 116, 32, 51]) (cond (Nat.beq (Int.toNat d) 2) (bs [97]) (cond (Nat.beq (Int.toNat d) 3) (bs [33, 61]) (cond (Nat.beq (Int.toNat d) 4) (bs [103, 101, 116, 32, 53]) (cond (Nat.beq (Int.toNat d) 5) (bs [59, 32, 97, 100, 100, 32, 49, 32, 97, 32, 50]) (cond (Nat.beq (Int.toNat d) 6) (bs [60]) (bs [52, 50, 57, 52, 57, 54, 55, 50, 57, 53]))))))))
theorem cnd_le {m : Nat} (b : Bool) {x y : ByteArray} (h : x.size ≤ m) (h2 : y.size ≤ m) : (cond b x y).size ≤ m := by cases b; exact h2; exact h
theorem kw8_le (d : Int) : (kw8 d).size ≤ 40 := cnd_le _ (by decide) (cnd_le _ (by decide) (cnd_le _ (by decide) (cnd_le _ (by decide) (cnd_le _ (by decide) (cnd_le _ (by decide) (cnd_le _ (by decide) (by decide)))))))
structure Edt where
  p : Int
  o : Int
  w : B
def Edt.row (e : Edt) : List AV := [.v (.int .i64 e.p), .v (.int .i64 e.o), .v (.string (bs e.w))]
theorem eRow_get (l : List Edt) (i : Nat) (h : i < l.length) : ∃ e, e ∈ l ∧ lget (l.map Edt.row) i = e.row := by
  refine ⟨l[i], List.getElem_mem h, ?_⟩
  unfold lget; simp [h]
theorem l_edited (l : List Edt) (nl : Bool) (hl : l.length ≤ 4) (hw : ∀ e ∈ l, e.w.length ≤ 40) : ∀ (k i : Nat) (x : B), i + k = l.length → x.length ≤ 10000 + 40 * i →
    ∃ z : B, z.length ≤ 20000 ∧ lp 20 0 0 ⟨[(0, .v (.string (bs x))), (1, .lst nl 3 (l.map Edt.row)), (5, .v (.int .i64 (i : Int)))], []⟩ = some ⟨some 0, ⟨[(0, .v (.string (bs z)))], []⟩, []⟩
  | 0, i, x, h, hx => by
    refine ⟨x, by omega, ?_⟩
    refine (lp20_0 _ _ _ _).trans ?_
    exact cF (ltI_f (by rw [List.length_map]; omega)) rfl
  | k + 1, i, x, h, hx => by
    obtain ⟨e, he, hg⟩ := eRow_get l i (by omega)
    have e1 : IntKind.i64.wrap ((i : Int) + 1) = ((i + 1 : Nat) : Int) := by rw [w_i64]; omega
    have ew : IntKind.i64.wrap ((((bs x).size : Nat) : Int) + 1) = ((x.length + 1 : Nat) : Int) := by rw [bs_size, w_i64]; omega
    have q1 := s_Pick e.p ((x.length + 1 : Nat) : Int) (by omega) (by omega)
    have r1 := pick_range (n := e.p) (m := ((x.length + 1 : Nat) : Int)) (by omega)
    obtain ⟨v, hv⟩ : ∃ v : Nat, pick e.p ((x.length + 1 : Nat) : Int) = (v : Int) := ⟨(pick e.p ((x.length + 1 : Nat) : Int)).toNat, by omega⟩
    rw [hv] at q1 r1
    obtain ⟨m, hm⟩ : ∃ m : Int, m = if IntKind.i64.wrap (IntKind.i64.wrap ((((bs x).size : Nat) : Int) - (v : Int)) + 1) < 4 then IntKind.i64.wrap (IntKind.i64.wrap ((((bs x).size : Nat) : Int) - (v : Int)) + 1) else 4 := ⟨_, rfl⟩
    have em : IntKind.i64.wrap (IntKind.i64.wrap ((((bs x).size : Nat) : Int) - (v : Int)) + 1) = ((x.length - v + 1 : Nat) : Int) := by rw [bs_size, w_i64, w_i64]; omega
    have hmr : 1 ≤ m ∧ m ≤ ((x.length - v + 1 : Nat) : Int) := by
      rw [em] at hm
      rw [hm]
      split <;> omega
    have q2 := s_Pick e.o m (by omega) (by omega)
    have r2 := pick_range (n := e.o) (m := m) (by omega)
    obtain ⟨n, hn⟩ : ∃ n : Nat, pick e.o m = (n : Int) := ⟨(pick e.o m).toNat, by omega⟩
    rw [hn] at q2 r2
    rw [hm] at q2
    have q3 := s_Pick (IntKind.i64.wrap (e.o.tdiv 4)) 9 (by decide) (by decide)
    generalize pick (IntKind.i64.wrap (e.o.tdiv 4)) 9 = c at q3
    have q4 := s_Pick e.p 8 (by decide) (by decide)
    have r4 := pick_range (n := e.p) (m := 8) (by decide)
    generalize pick e.p 8 = d at q4 r4
    have hin : ((leI 0 (i : Int)) && (ltI (i : Int) (((l.map Edt.row).length : Nat) : Int))) = true := by rw [List.length_map, leI_t (by omega), ltI_t (by omega)]; rfl
    have evn : IntKind.i64.wrap ((v : Int) + (n : Int)) = ((v + n : Nat) : Int) := by rw [w_i64]; omega
    have xt : (ByteArray.extract (bs x) 0 (Int.toNat (v : Int))).size ≤ x.length := by
      rw [Int.toNat_natCast, bs_extract, bs_size, List.drop_zero, List.length_take]; omega
    have xd : (ByteArray.extract (bs x) (Int.toNat (IntKind.i64.wrap ((v : Int) + (n : Int)))) (Int.toNat (((bs x).size : Nat) : Int))).size ≤ x.length := by
      rw [evn, bs_size, Int.toNat_natCast, Int.toNat_natCast, bs_extract, bs_size, List.length_drop, List.length_take]; omega
    have g1 : ((true && (leI 0 (v : Int))) && (leI (v : Int) (((bs x).size : Nat) : Int))) = true := by rw [bs_size, leI_t (by omega), leI_t (by omega)]; rfl
    have g2 : ∀ w : ByteArray, w.size ≤ 40 → leN ((ByteArray.size (ByteArray.extract (bs x) 0 (Int.toNat (v : Int)))) + w.size) 9223372036854775807 = true := fun w hw => leN_t (by omega)
    have g3 : (((leI 0 (IntKind.i64.wrap ((v : Int) + (n : Int)))) && (leI (IntKind.i64.wrap ((v : Int) + (n : Int))) (((bs x).size : Nat) : Int))) && (leI (((bs x).size : Nat) : Int) (((bs x).size : Nat) : Int))) = true := by rw [evn, bs_size, leI_t (by omega), leI_t (by omega), leI_t (by omega)]; rfl
    have g4 : ∀ w : ByteArray, w.size ≤ 40 → leN ((ByteArray.size (ByteArray.extract (bs x) 0 (Int.toNat (v : Int)) ++ w)) + ByteArray.size (ByteArray.extract (bs x) (Int.toNat (IntKind.i64.wrap ((v : Int) + (n : Int)))) (Int.toNat (((bs x).size : Nat) : Int)))) 9223372036854775807 = true := fun w hw => leN_t (by rw [ByteArray.size_append]; omega)
    have put : ∀ w : ByteArray, w.size ≤ 40 → ∃ z : B, z.length ≤ 20000 ∧ lp 20 0 0 ⟨[(0, .v (.string ((ByteArray.extract (bs x) 0 (Int.toNat (v : Int)) ++ w) ++ ByteArray.extract (bs x) (Int.toNat (IntKind.i64.wrap ((v : Int) + (n : Int)))) (Int.toNat (((bs x).size : Nat) : Int))))), (1, .lst nl 3 (l.map Edt.row)), (5, .v (.int .i64 (IntKind.i64.wrap ((i : Int) + 1))))], []⟩ = some ⟨some 0, ⟨[(0, .v (.string (bs z)))], []⟩, []⟩ := fun w hw' => by
      have hex : (ByteArray.extract (bs x) 0 (Int.toNat (v : Int)) ++ w) ++ ByteArray.extract (bs x) (Int.toNat (IntKind.i64.wrap ((v : Int) + (n : Int)))) (Int.toNat (((bs x).size : Nat) : Int)) = bs ((x.take v ++ w.data.toList) ++ x.drop (v + n)) := by
        rw [evn, bs_size, Int.toNat_natCast, Int.toNat_natCast, Int.toNat_natCast, bs_extract, bs_extract, ← bs_eta w, bs_append, bs_append, List.drop_zero, List.take_length, bs_data]
      rw [hex, e1]
      refine l_edited l nl hl hw k (i + 1) _ (by omega) ?_
      have : w.data.toList.length = w.size := by rw [← bs_size, bs_eta]
      rw [List.length_append, List.length_append, this, List.length_take, List.length_drop]; omega
    have g24 : ∀ (w : ByteArray) (K : Option LR) (r : Option LR), w.size ≤ 40 → K = r → cond ((true && (leI 0 (v : Int))) && (leI (v : Int) (((bs x).size : Nat) : Int))) (cond (leN ((ByteArray.size (ByteArray.extract (bs x) 0 (Int.toNat (v : Int)))) + w.size) 9223372036854775807) (cond (((leI 0 (IntKind.i64.wrap ((v : Int) + (n : Int)))) && (leI (IntKind.i64.wrap ((v : Int) + (n : Int))) (((bs x).size : Nat) : Int))) && (leI (((bs x).size : Nat) : Int) (((bs x).size : Nat) : Int))) (cond (leN ((ByteArray.size (ByteArray.extract (bs x) 0 (Int.toNat (v : Int)) ++ w)) + ByteArray.size (ByteArray.extract (bs x) (Int.toNat (IntKind.i64.wrap ((v : Int) + (n : Int)))) (Int.toNat (((bs x).size : Nat) : Int)))) 9223372036854775807) K none) none) none) none = r := fun w K r hw' h => cT g1 (cT (g2 w hw') (cT g3 (cT (g4 w hw') h)))
    have hpre : ltI (i : Int) (((l.map Edt.row).length : Nat) : Int) = true := ltI_t (by rw [List.length_map]; omega)
    by_cases c0 : c = 0
    · obtain ⟨z, z1, z2⟩ := put (bs [32]) (by rw [bs_size]; decide)
      refine ⟨z, z1, ?_⟩
      refine (lp20_0 _ _ _ _).trans ?_
      rw [Int.toNat_natCast, hg, ew]
      refine cT hpre (cT hin (cT rfl (bnd q1 (cT rfl (cT hin (cT rfl (bnd q2 (cT rfl (cT hin (cT rfl (cT hin (cT rfl (bnd q3 (cT rfl (cT (beq_iff_eq.2 c0) ?_)))))))))))))))
      exact g24 (bs [32]) _ _ (by rw [bs_size]; decide) z2
    by_cases c1 : c = 1
    · obtain ⟨z, z1, z2⟩ := put (bs [59]) (by rw [bs_size]; decide)
      refine ⟨z, z1, ?_⟩
      refine (lp20_0 _ _ _ _).trans ?_
      rw [Int.toNat_natCast, hg, ew]
      refine cT hpre (cT hin (cT rfl (bnd q1 (cT rfl (cT hin (cT rfl (bnd q2 (cT rfl (cT hin (cT rfl (cT hin (cT rfl (bnd q3 (cT rfl (cF (eqB_f c0) (cT (beq_iff_eq.2 c1) ?_))))))))))))))))
      exact g24 (bs [59]) _ _ (by rw [bs_size]; decide) z2
    by_cases c2 : c = 2
    · obtain ⟨z, z1, z2⟩ := put (bs [48]) (by rw [bs_size]; decide)
      refine ⟨z, z1, ?_⟩
      refine (lp20_0 _ _ _ _).trans ?_
      rw [Int.toNat_natCast, hg, ew]
      refine cT hpre (cT hin (cT rfl (bnd q1 (cT rfl (cT hin (cT rfl (bnd q2 (cT rfl (cT hin (cT rfl (cT hin (cT rfl (bnd q3 (cT rfl (cF (eqB_f c0) (cF (eqB_f c1) (cT (beq_iff_eq.2 c2) ?_)))))))))))))))))
      exact g24 (bs [48]) _ _ (by rw [bs_size]; decide) z2
    by_cases c3 : c = 3
    · obtain ⟨z, z1, z2⟩ := put (bs [45]) (by rw [bs_size]; decide)
      refine ⟨z, z1, ?_⟩
      refine (lp20_0 _ _ _ _).trans ?_
      rw [Int.toNat_natCast, hg, ew]
      refine cT hpre (cT hin (cT rfl (bnd q1 (cT rfl (cT hin (cT rfl (bnd q2 (cT rfl (cT hin (cT rfl (cT hin (cT rfl (bnd q3 (cT rfl (cF (eqB_f c0) (cF (eqB_f c1) (cF (eqB_f c2) (cT (beq_iff_eq.2 c3) ?_))))))))))))))))))
      exact g24 (bs [45]) _ _ (by rw [bs_size]; decide) z2
    by_cases c4 : c = 4
    · obtain ⟨z, z1, z2⟩ := put (kw8 d) (kw8_le d)
      refine ⟨z, z1, ?_⟩
      refine (lp20_0 _ _ _ _).trans ?_
      rw [Int.toNat_natCast, hg, ew]
      refine cT hpre (cT hin (cT rfl (bnd q1 (cT rfl (cT hin (cT rfl (bnd q2 (cT rfl (cT hin (cT rfl (cT hin (cT rfl (bnd q3 (cT rfl (cF (eqB_f c0) (cF (eqB_f c1) (cF (eqB_f c2) (cF (eqB_f c3) (cT (beq_iff_eq.2 c4) (cT hin (cT rfl (bnd q4 (cT rfl (cT ?_ ?_))))))))))))))))))))))))
      · show ((leI 0 d) && (ltI d 8)) = true
        rw [leI_t (by omega), ltI_t (by omega)]; rfl
      · exact g24 (kw8 d) _ _ (kw8_le d) z2
    · obtain ⟨z, z1, z2⟩ := put (bs e.w) (by rw [bs_size]; exact hw e he)
      refine ⟨z, z1, ?_⟩
      refine (lp20_0 _ _ _ _).trans ?_
      rw [Int.toNat_natCast, hg, ew]
      refine cT hpre (cT hin (cT rfl (bnd q1 (cT rfl (cT hin (cT rfl (bnd q2 (cT rfl (cT hin (cT rfl (cT hin (cT rfl (bnd q3 (cT rfl (cF (eqB_f c0) (cF (eqB_f c1) (cF (eqB_f c2) (cF (eqB_f c3) (cF (eqB_f c4) ?_)))))))))))))))))))
      exact g24 (bs e.w) _ _ (by rw [bs_size]; exact hw e he) z2
theorem s_edited (l : List Edt) (nl : Bool) (hl : l.length ≤ 4) (hw : ∀ e ∈ l, e.w.length ≤ 40) (x : B) (hx : x.length ≤ 10000) : ∃ z : B, z.length ≤ 20000 ∧ ev 20 [.v (.string (bs x)), .lst nl 3 (l.map Edt.row)] = some [.v (.string (bs z))] := by
  obtain ⟨z, h1, h2⟩ := l_edited l nl hl hw l.length 0 x (by omega) (by omega)
  refine ⟨z, h1, ?_⟩
  refine (ev20 _ _ _).trans ?_
  exact bnd h2 (cT rfl (cT rfl rfl))
/-- The edits' texts are short, or there is nothing to say. -/
theorem l_short (a : ByteArray) (rs : List (List AV)) (rn : Bool) (l : List Edt) (nl : Bool) (hl : l.length ≤ 4) : ∀ (k i : Nat), i + k = l.length →
    lp 5 0 0 ⟨[(0, .v (.string a)), (1, .lst rn 10 rs), (2, .lst nl 3 (l.map Edt.row)), (7, .v (.int .i64 (i : Int)))], []⟩ =
      some (bif (l.drop i).all (fun e => decide (e.w.length ≤ 40)) then ⟨some 0, ⟨[(0, .v (.string a)), (1, .lst rn 10 rs), (2, .lst nl 3 (l.map Edt.row))], []⟩, []⟩ else ⟨none, ⟨[], []⟩, [.v (.bool true)]⟩)
  | 0, i, h => by
    rw [List.drop_of_length_le (by omega)]
    refine (lp5_0 _ _ _ _ _ _).trans ?_
    exact cF (ltI_f (by rw [List.length_map]; omega)) rfl
  | k + 1, i, h => by
    have e1 : IntKind.i64.wrap ((i : Int) + 1) = ((i + 1 : Nat) : Int) := by rw [w_i64]; omega
    have ih := l_short a rs rn l nl hl k (i + 1) (by omega)
    have hi : i < l.length := by omega
    have hg : lget (l.map Edt.row) i = l[i].row := by unfold lget; simp [hi]
    rw [List.drop_eq_getElem_cons hi, List.all_cons]
    refine (lp5_0 _ _ _ _ _ _).trans ?_
    rw [Int.toNat_natCast, hg, e1, List.length_map]
    refine cT (ltI_t (by omega)) (cT (by rw [leI_t (by omega), ltI_t (by omega)]; rfl) (cT rfl ?_))
    by_cases hw : l[i].w.length ≤ 40
    · rw [decide_eq_true hw]
      exact cF (ltI_f (by show (((bs l[i].w).size : Nat) : Int) ≤ 40; rw [bs_size]; omega)) ih
    · rw [decide_eq_false hw]
      exact cT (ltI_t (by show (40 : Int) < (((bs l[i].w).size : Nat) : Int); rw [bs_size]; omega)) rfl
def sepW (d : Int) : ByteArray := cond (Nat.beq (Int.toNat d) 0) (bs [59]) (cond (Nat.beq (Int.toNat d) 1) (bs [59, 32]) (cond (Nat.beq (Int.toNat d) 2) (bs [32, 59, 32]) (bs [32, 59])))
theorem sepW_le (d : Int) : (sepW d).size ≤ 3 := cnd_le _ (by decide) (cnd_le _ (by decide) (cnd_le _ (by decide) (by decide)))
theorem l_text (a : ByteArray) (rs : List Raw) (hr : ∀ r ∈ rs, r.ok) (rn : Bool) (hl : rs.length ≤ 10) (x2 : List (List AV)) (n2 : Bool) : ∀ (k i : Nat) (x : B), i + k = rs.length → x.length ≤ 400 * i →
    ∃ z : B, z.length ≤ 4000 ∧ lp 5 1 0 ⟨[(0, .v (.string a)), (1, .lst rn 10 (rs.map Raw.row)), (2, .lst n2 3 x2), (8, .v (.string (bs x))), (9, .v (.int .i64 (i : Int)))], []⟩ = some ⟨some 2, ⟨[(0, .v (.string a)), (2, .lst n2 3 x2), (8, .v (.string (bs z)))], []⟩, []⟩
  | 0, i, x, h, hx => by
    refine ⟨x, by omega, ?_⟩
    refine (lp5_1 _ _ _ _ _ _ _).trans ?_
    exact cF (ltI_f (by rw [List.length_map]; omega)) rfl
  | k + 1, i, x, h, hx => by
    have e1 : IntKind.i64.wrap ((i : Int) + 1) = ((i + 1 : Nat) : Int) := by rw [w_i64]; omega
    obtain ⟨r, hr1, _, hg⟩ := rRow_get rs i (by omega)
    obtain ⟨s, hs, hsV, hso⟩ := s_of r (hr r hr1)
    have hF := s_RFormat [s] false (fun t ht => by rw [List.mem_singleton.1 ht]; exact hso) (by show 1 ≤ 1000000; omega)
    have hF : ev 12 [.lst false 12 [s.row]] = some [.v (.string (bs (fmtL [s]))), .v (.int .i64 0)] := by
      have hv : s.valid = true := decide_eq_true hsV
      unfold fmtR at hF
      rw [show okLen [s] = true from rfl, show [s].all Stm.valid = true by rw [List.all_cons, hv]; rfl] at hF
      exact hF
    have b1 : (fmtL [s]).length ≤ 393 := fmtL_len [s] fun t ht => by rw [List.mem_singleton.1 ht]; exact hso
    have hsz : (bs (fmtL [s])).size ≤ 393 := by rw [bs_size]; exact b1
    have hxz : (bs x).size ≤ 4000 := by rw [bs_size]; omega
    have hin : ((leI 0 (i : Int)) && (ltI (i : Int) (((rs.map Raw.row).length : Nat) : Int))) = true := by rw [List.length_map, leI_t (by omega), ltI_t (by omega)]; rfl
    by_cases h0 : i = 0
    · obtain ⟨z, z1, z2⟩ := l_text a rs hr rn hl x2 n2 k (i + 1) (x ++ fmtL [s]) (by omega) (by rw [List.length_append]; omega)
      refine ⟨z, z1, ?_⟩
      rw [← bs_append, ← e1] at z2
      refine (lp5_1 _ _ _ _ _ _ _).trans ?_
      rw [Int.toNat_natCast, hg]
      exact cT (ltI_t (by rw [List.length_map]; omega)) (cT hin (cT rfl (bnd hs (cT (shS s) (bnd (s_own s) (cT (shS s) (bnd hF (cT rfl (cT rfl (cF (ltI_f (by omega)) (cT (leN_t (by show (bs x).size + (bs (fmtL [s])).size ≤ _; omega)) z2)))))))))))
    · have q4 := s_Pick r.x9 4 (by decide) (by decide)
      have r4 := pick_range (n := r.x9) (m := 4) (by decide)
      generalize pick r.x9 4 = d at q4 r4
      have hd := sepW_le d
      obtain ⟨z, z1, z2⟩ := l_text a rs hr rn hl x2 n2 k (i + 1) ((x ++ (sepW d).data.toList) ++ fmtL [s]) (by omega) (by
        have : (sepW d).data.toList.length = (sepW d).size := by rw [← bs_size, bs_eta]
        rw [List.length_append, List.length_append, this]; omega)
      refine ⟨z, z1, ?_⟩
      rw [← bs_append, ← bs_append, bs_eta, ← e1] at z2
      refine (lp5_1 _ _ _ _ _ _ _).trans ?_
      rw [Int.toNat_natCast, hg]
      refine cT (ltI_t (by rw [List.length_map]; omega)) (cT hin (cT rfl (bnd hs (cT (shS s) (bnd (s_own s) (cT (shS s) (bnd hF (cT rfl (cT rfl (cT (ltI_t (by omega)) (cT hin (cT rfl (bnd q4 (cT rfl (cT ?_ ?_)))))))))))))))
      · show ((leI 0 d) && (ltI d 4)) = true
        rw [leI_t (by omega), ltI_t (by omega)]; rfl
      · have g1 : leN ((bs x).size + (sepW d).size) 9223372036854775807 = true := leN_t (by omega)
        have g2 : leN ((bs x ++ sepW d).size + (bs (fmtL [s])).size) 9223372036854775807 = true := leN_t (by rw [ByteArray.size_append]; omega)
        exact cT g1 (cT g2 z2)
theorem prs_len (l : B) : ∀ (f : Nat) (acc : List Stm) (n : Nat), (prs l f acc n).1.length ≤ acc.length + f
  | 0, _, _ => Nat.zero_le _
  | f + 1, acc, n => by
    unfold prs
    split
    · exact Nat.zero_le _
    · split
      · exact Nat.zero_le _
      · rename_i s m _
        split
        · exact Nat.zero_le _
        · split
          · show (acc ++ [s]).length ≤ _
            rw [List.length_append]; show acc.length + 1 ≤ _; omega
          · have := prs_len l f (acc ++ [s]) (sk l m + 1)
            rw [List.length_append] at this
            have h1 : [s].length = 1 := rfl
            omega
/-- What both parsers come to. -/
def both (l : B) : List Stm × Nat × Int := if 1000 < l.length then ([], 0, 18) else prs l 9 [] 0
theorem s_both (l : B) (hl : l.length ≤ 1000000) : ev 15 [.v (.string (bs l))] = some (outP (both l)) ∧ ev 21 [.v (.string (bs l))] = some (outR (both l)) := by
  unfold both
  by_cases h : 1000 < l.length
  · rw [if_pos h]; exact ⟨s_Parse_long l h, s_rParse_long l h⟩
  · rw [if_neg h]; exact ⟨s_Parse hl (okAny l) (by omega), s_rParse hl (by omega)⟩
theorem l_pars (a : B) (ha : a.length ≤ 1000000) : ∀ (k i : Nat) (x : B), i + k = 2 → x.length ≤ 1000000 → lp 5 2 0 ⟨[(0, .v (.string (bs a))), (8, .v (.string (bs x))), (12, .v (.int .i64 (i : Int)))], []⟩ = some ⟨some 4, ⟨[], []⟩, []⟩
  | 0, i, x, h, hx => by
    refine (lp5_2 _ _ _).trans ?_
    exact cF (ltI_f (by omega)) rfl
  | k + 1, i, x, h, hx => by
    have e1 : IntKind.i64.wrap ((i : Int) + 1) = ((i + 1 : Nat) : Int) := by rw [w_i64]; omega
    have ih := l_pars a ha k (i + 1) a (by omega) ha
    obtain ⟨h1, h2⟩ := s_both x hx
    rw [← e1] at ih
    have hlen : (both x).1.length ≤ 1000000 := by
      unfold both
      split
      · exact Nat.zero_le _
      · have := prs_len x 9 [] 0
        have h0 : ([] : List Stm).length = 0 := rfl
        omega
    refine (lp5_2 _ _ _).trans ?_
    refine cT (ltI_t (by omega)) (bnd h1 (cT rfl (cT rfl (cT rfl (bnd h2 (cT rfl (cT rfl (cT rfl (cF ?_ (cF ?_ (bnd (s_owns _ _ hlen) (cT rfl (cT ?_ (bnd (s_same _ _ _ _ hlen) (cT rfl (cF ?_ (bnd s_awake (cT rfl (cF rfl ih)))))))))))))))))))
    · show (!((both x).2.2 == (both x).2.2)) = false
      rw [beq_self_i]; rfl
    · show (!((((both x).2.1 : Nat) : Int) == (((both x).2.1 : Nat) : Int))) = false
      rw [beq_self_i]; rfl
    · show (false || (List.all ((both x).1.map Stm.row) rowV && true)) = true
      rw [rows_V]; rfl
    · show (!decide ((both x).1 = (both x).1)) = false
      rw [decide_eq_true rfl]; rfl
set_option maxRecDepth 100000
theorem edts {N : Nat} {n : Nat} {x : List (List AV)} (h : ∀ y ∈ x, TypC Try.prog N (n + 2) 39 y) : ∃ l : List Edt, x = l.map Edt.row := by
  obtain ⟨l, e, _⟩ := rows_of Edt.row (fun _ => True) x fun y hy => by
    obtain ⟨x0, x1, x2, rfl, _⟩ := openC39 (h y hy)
    exact ⟨⟨x0, x1, x2.data.toList⟩, by unfold Edt.row; rw [bs_eta], trivial⟩
  exact ⟨l, e⟩
theorem parses_all {N : Nat} (l : List AV) (h : TypA Try.prog N Try.f5.params.toList l) : ∃ n, evF Try.prog cfg n 5 l = some [.v (.bool true)] := by
  rw [show Try.f5.params.toList = [9, 22, 37] by kernel_rfl] at h
  obtain ⟨a0, r, rfl, t0, h⟩ := h
  obtain ⟨a1, r, rfl, t1, h⟩ := h
  obtain ⟨a2, r, rfl, t2, h⟩ := h
  obtain rfl : r = [] := h
  obtain ⟨b0, rfl, _⟩ := openV9 t0
  obtain ⟨xn, x, rfl, _, _, f0⟩ := openV22 t1
  obtain ⟨yn, y, rfl, _, _, f1⟩ := openV37 t2
  obtain ⟨rs, rfl, hrs⟩ := raws f0
  obtain ⟨es, rfl⟩ := edts f1
  clear t0 t1 t2 f0 f1
  obtain ⟨b, rfl⟩ : ∃ b : B, b0 = bs b := ⟨b0.data.toList, (bs_eta b0).symm⟩
  refine evF_of_evL ?_
  refine (ev5 _ _ _ _ _).trans ?_
  rw [List.length_map, List.length_map, bs_size]
  by_cases h10 : 10 < rs.length
  · rw [ltI_t (by omega)]; rfl
  rw [ltI_f (by omega), cond_false]
  by_cases h4 : 4 < es.length
  · rw [ltI_t (by omega)]; rfl
  rw [ltI_f (by omega), cond_false]
  by_cases h11 : 1100 < b.length
  · rw [ltI_t (by omega)]; rfl
  rw [ltI_f (by omega), cond_false]
  have hsh := l_short (bs b) (rs.map Raw.row) xn es yn (by omega) es.length 0 (by omega)
  rw [List.drop_zero] at hsh
  cases hall : es.all (fun e => decide (e.w.length ≤ 40)) with
  | false =>
    rw [hall] at hsh
    exact bnd hsh (cF rfl (cT rfl rfl))
  | true =>
    rw [hall] at hsh
    have hw : ∀ e ∈ es, e.w.length ≤ 40 := fun e he => of_decide_eq_true (List.all_eq_true.1 hall e he)
    obtain ⟨z, z1, z2⟩ := l_text (bs b) rs hrs xn (by omega) (es.map Edt.row) yn rs.length 0 [] (by omega) (by simp)
    obtain ⟨u, u1, u2⟩ := s_edited es yn (by omega) hw z (by omega)
    exact bnd hsh (cT rfl (cT rfl (bnd z2 (cT rfl (cT rfl (bnd u2 (cT rfl (bnd (l_pars b (by omega) 2 0 u (by omega) (by omega)) (cT rfl (cT rfl rfl))))))))))
end Go.Proofs.Ytcinngpelbdopaa
