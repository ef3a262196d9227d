/- QueryBlanks: the walk. -/
import Derived.Test.YtcinngpelbdopaaBlk
set_option linter.all false
namespace Go.Proofs.Ytcinngpelbdopaa
open Go.Ev
attribute [local congr] bind_first cond_first
def s6 (a1 : List Int) (n1 : Bool) (x2 : Int) (n7 : Bool) (s x : B) (i : Nat) (b0 : List (List AV)) : St := ⟨[(1, .lst n1 1 (a1.map iRow)), (2, .v (.int .i64 x2)), (7, .sl n7 0 0 none), (8, .v (.string (bs s))), (10, .v (.string (bs x))), (11, .v (.int .i64 (i : Int)))], [⟨1, 49, 12, false, b0⟩]⟩
def e6 (x2 : Int) (n7 : Bool) (s x : B) (b0 : List (List AV)) : St := ⟨[(2, .v (.int .i64 x2)), (7, .sl n7 0 0 none), (8, .v (.string (bs s))), (10, .v (.string (bs x)))], [⟨1, 49, 12, false, b0⟩]⟩
theorem l_blks (a1 : List Int) (n1 : Bool) (x2 : Int) (n7 : Bool) (s : B) (b0 : List (List AV)) (h20 : a1.length ≤ 20) (T : List B) : ∀ (k i : Nat) (x : B), i + k = a1.length → x.length ≤ 900 + i → lex x = T → okTxt x →
    ∃ y : B, y.length ≤ 920 ∧ lex y = T ∧ okTxt y ∧ lp 6 0 0 (s6 a1 n1 x2 n7 s x i b0) = some ⟨some 0, e6 x2 n7 s y b0, []⟩
  | 0, i, x, h, hx, hT, ha => by
    refine ⟨x, by omega, hT, ha, ?_⟩
    refine (lp6_0 _ _ _ _ _ _ _ _).trans ?_
    exact cF (ltI_f (by rw [List.length_map]; omega)) rfl
  | k + 1, i, x, h, hx, hT, ha => by
    have e1 : IntKind.i64.wrap ((i : Int) + 1) = ((i + 1 : Nat) : Int) := by rw [w_i64]; omega
    have ew : IntKind.i64.wrap ((((bs x).size : Nat) : Int) + 1) = ((x.length + 1 : Nat) : Int) := by rw [bs_size, w_i64]; omega
    have hpick := s_Pick (a1.getD i 0) ((x.length + 1 : Nat) : Int) (by omega) (by omega)
    have hrng := pick_range (n := a1.getD i 0) (m := ((x.length + 1 : Nat) : Int)) (by omega)
    obtain ⟨v, hv⟩ : ∃ v : Nat, pick (a1.getD i 0) ((x.length + 1 : Nat) : Int) = (v : Int) := ⟨(pick (a1.getD i 0) ((x.length + 1 : Nat) : Int)).toNat, by omega⟩
    rw [hv] at hpick hrng
    have hvl : v ≤ x.length := by omega
    -- with a blank, and without
    have same : ∃ y : B, y.length ≤ 920 ∧ lex y = T ∧ okTxt y ∧ lp 6 0 0 (s6 a1 n1 x2 n7 s x (i + 1) b0) = some ⟨some 0, e6 x2 n7 s y b0, []⟩ := l_blks a1 n1 x2 n7 s b0 h20 T k (i + 1) x (by omega) (by omega) hT ha
    have put : (v = 0 ∨ v = x.length ∨ nsep (x.getD v 0) = false ∨ (0 < v ∧ nsep (x.getD (v - 1) 0) = false)) → ∃ y : B, y.length ≤ 920 ∧ lex y = T ∧ okTxt y ∧ lp 6 0 0 (s6 a1 n1 x2 n7 s (ins x v 32) (i + 1) b0) = some ⟨some 0, e6 x2 n7 s y b0, []⟩ := fun hc =>
      l_blks a1 n1 x2 n7 s b0 h20 T k (i + 1) (ins x v 32) (by omega) (by rw [ins_len]; omega) (by
        rw [← hT]
        refine lexA_ins x [] v hvl ?_
        rcases hc with h | h | h | h
        · exact .inl ⟨h, rfl⟩
        · exact .inr (.inl h)
        · exact .inr (.inr (.inl h))
        · exact .inr (.inr (.inr h))) (asc_ins ha v (by decide))
    -- the text with a blank
    have ex : (ByteArray.extract (bs x) 0 (Int.toNat (v : Int)) ++ bs [32]) ++ ByteArray.extract (bs x) (Int.toNat (v : Int)) (Int.toNat (((bs x).size : Nat) : Int)) = bs (ins x v 32) := by
      rw [bs_size, Int.toNat_natCast, Int.toNat_natCast, bs_extract, bs_extract, bs_append, bs_append, List.drop_zero, List.take_length]
      unfold ins
      rw [List.append_assoc]; rfl
    have es : s6 a1 n1 x2 n7 s (ins x v 32) (i + 1) b0 = ⟨[(1, .lst n1 1 (a1.map iRow)), (2, .v (.int .i64 x2)), (7, .sl n7 0 0 none), (8, .v (.string (bs s))), (10, .v (.string ((ByteArray.extract (bs x) 0 (Int.toNat (v : Int)) ++ bs [32]) ++ ByteArray.extract (bs x) (Int.toNat (v : Int)) (Int.toNat (((bs x).size : Nat) : Int))))), (11, .v (.int .i64 (IntKind.i64.wrap ((i : Int) + 1))))], [⟨1, 49, 12, false, b0⟩]⟩ := by rw [ex, e1]; rfl
    have es0 : s6 a1 n1 x2 n7 s x (i + 1) b0 = ⟨[(1, .lst n1 1 (a1.map iRow)), (2, .v (.int .i64 x2)), (7, .sl n7 0 0 none), (8, .v (.string (bs s))), (10, .v (.string (bs x))), (11, .v (.int .i64 (IntKind.i64.wrap ((i : Int) + 1))))], [⟨1, 49, 12, false, b0⟩]⟩ := by rw [e1]; rfl
    rw [es] at put
    rw [es0] at same
    have xt : (ByteArray.extract (bs x) 0 (Int.toNat (v : Int))).size ≤ x.length := by
      rw [Int.toNat_natCast, bs_extract, bs_size, List.drop_zero, List.length_take]; omega
    have xd : (ByteArray.extract (bs x) (Int.toNat (v : Int)) (Int.toNat (((bs x).size : Nat) : Int))).size ≤ x.length := by
      rw [bs_size, Int.toNat_natCast, Int.toNat_natCast, bs_extract, bs_size, List.length_drop, List.length_take]; omega
    have xa : (ByteArray.extract (bs x) 0 (Int.toNat (v : Int)) ++ bs [32]).size = (ByteArray.extract (bs x) 0 (Int.toNat (v : Int))).size + 1 := by
      rw [ByteArray.size_append]; rfl
    have g1 : ((true && (leI 0 (v : Int))) && (leI (v : Int) (((bs x).size : Nat) : Int))) = true := by rw [bs_size, leI_t (by omega), leI_t (by omega)]; rfl
    have g2 : leN ((ByteArray.size (ByteArray.extract (bs x) 0 (Int.toNat (v : Int)))) + 1) 9223372036854775807 = true := leN_t (by omega)
    have g3 : (((leI 0 (v : Int)) && (leI (v : Int) (((bs x).size : Nat) : Int))) && (leI (((bs x).size : Nat) : Int) (((bs x).size : Nat) : Int))) = true := by rw [bs_size, leI_t (by omega), leI_t (by omega), leI_t (by omega)]; rfl
    have g4 : leN ((ByteArray.size (ByteArray.extract (bs x) 0 (Int.toNat (v : Int)) ++ bs [32])) + ByteArray.size (ByteArray.extract (bs x) (Int.toNat (v : Int)) (Int.toNat (((bs x).size : Nat) : Int)))) 9223372036854775807 = true := leN_t (by rw [xa]; omega)
    have hg : lget (a1.map iRow) i = [.v (.int .i64 (a1.getD i 0))] := iRow_get a1 i (by omega)
    -- which it is
    by_cases h0 : v = 0
    · obtain ⟨y, y1, y2, y3, y4⟩ := put (.inl h0)
      refine ⟨y, y1, y2, y3, ?_⟩
      refine (lp6_0 _ _ _ _ _ _ _ _).trans ?_
      rw [List.length_map, Int.toNat_natCast, hg, ew]
      refine cT (ltI_t (by omega)) (cT (by rw [leI_t (by omega), ltI_t (by omega)]; rfl) (cT rfl (bnd hpick (cT rfl (cT (by show ((v : Int) == 0) = true; rw [h0]; rfl) (cT g1 (cT g2 (cT g3 (cT g4 y4)))))))))
    have f0 : ((v : Int) == 0) = false := eqB_f (by omega)
    by_cases h1 : v = x.length
    · obtain ⟨y, y1, y2, y3, y4⟩ := put (.inr (.inl h1))
      refine ⟨y, y1, y2, y3, ?_⟩
      refine (lp6_0 _ _ _ _ _ _ _ _).trans ?_
      rw [List.length_map, Int.toNat_natCast, hg, ew]
      refine cT (ltI_t (by omega)) (cT (by rw [leI_t (by omega), ltI_t (by omega)]; rfl) (cT rfl (bnd hpick (cT rfl (cF f0 (cT (by show ((v : Int) == (((bs x).size : Nat) : Int)) = true; rw [bs_size, h1]; simp) (cT g1 (cT g2 (cT g3 (cT g4 y4))))))))))
    have f1 : ((v : Int) == (((bs x).size : Nat) : Int)) = false := by rw [bs_size]; exact eqB_f (by omega)
    have e2 : IntKind.i64.wrap ((v : Int) - 1) = ((v - 1 : Nat) : Int) := by rw [w_i64]; omega
    have k1 : ((leI 0 (IntKind.i64.wrap ((v : Int) - 1))) && (ltI (IntKind.i64.wrap ((v : Int) - 1)) (((bs x).size : Nat) : Int))) = true := by rw [e2, bs_size, leI_t (by omega), ltI_t (by omega)]; rfl
    have k2 : ((leI 0 (v : Int)) && (ltI (v : Int) (((bs x).size : Nat) : Int))) = true := by rw [bs_size, leI_t (by omega), ltI_t (by omega)]; rfl
    have byte59 : ∀ b : UInt8, (((UInt8.toNat b : Nat) : Int) == 59) = (b == 59) := fun b => byteEq b 59 59 rfl
    have c1 : ((((UInt8.toNat (Array.getD (ByteArray.data (bs x)) (Int.toNat (IntKind.i64.wrap ((v : Int) - 1))) 0)) : Nat) : Int) == 32) = (x.getD (v - 1) 0 == 32) := by rw [e2, Int.toNat_natCast, bs_getD, byte32]
    have c2 : ((((UInt8.toNat (Array.getD (ByteArray.data (bs x)) (Int.toNat (v : Int)) 0)) : Nat) : Int) == 32) = (x.getD v 0 == 32) := by rw [Int.toNat_natCast, bs_getD, byte32]
    have c3 : ((((UInt8.toNat (Array.getD (ByteArray.data (bs x)) (Int.toNat (v : Int)) 0)) : Nat) : Int) == 59) = (x.getD v 0 == 59) := by rw [Int.toNat_natCast, bs_getD, byte59]
    have c4 : ((((UInt8.toNat (Array.getD (ByteArray.data (bs x)) (Int.toNat (IntKind.i64.wrap ((v : Int) - 1))) 0)) : Nat) : Int) == 59) = (x.getD (v - 1) 0 == 59) := by rw [e2, Int.toNat_natCast, bs_getD, byte59]
    by_cases d1 : x.getD (v - 1) 0 = 32
    · obtain ⟨y, y1, y2, y3, y4⟩ := put (.inr (.inr (.inr ⟨by omega, by rw [d1]; rfl⟩)))
      refine ⟨y, y1, y2, y3, ?_⟩
      refine (lp6_0 _ _ _ _ _ _ _ _).trans ?_
      rw [List.length_map, Int.toNat_natCast, hg, ew]
      refine cT (ltI_t (by omega)) (cT (by rw [leI_t (by omega), ltI_t (by omega)]; rfl) (cT rfl (bnd hpick (cT rfl (cF f0 (cF f1 (cT k1 (cT (c1.trans (beq_iff_eq.2 d1)) (cT g1 (cT g2 (cT g3 (cT g4 y4))))))))))))
    have n1' := c1.trans (beq_eq_false_iff_ne.2 d1)
    by_cases d2 : x.getD v 0 = 32
    · obtain ⟨y, y1, y2, y3, y4⟩ := put (.inr (.inr (.inl (by rw [d2]; rfl))))
      refine ⟨y, y1, y2, y3, ?_⟩
      refine (lp6_0 _ _ _ _ _ _ _ _).trans ?_
      rw [List.length_map, Int.toNat_natCast, hg, ew]
      refine cT (ltI_t (by omega)) (cT (by rw [leI_t (by omega), ltI_t (by omega)]; rfl) (cT rfl (bnd hpick (cT rfl (cF f0 (cF f1 (cT k1 (cF n1' (cT k2 (cT (c2.trans (beq_iff_eq.2 d2)) (cT g1 (cT g2 (cT g3 (cT g4 y4))))))))))))))
    have n2' := c2.trans (beq_eq_false_iff_ne.2 d2)
    by_cases d3 : x.getD v 0 = 59
    · obtain ⟨y, y1, y2, y3, y4⟩ := put (.inr (.inr (.inl (by rw [d3]; rfl))))
      refine ⟨y, y1, y2, y3, ?_⟩
      refine (lp6_0 _ _ _ _ _ _ _ _).trans ?_
      rw [List.length_map, Int.toNat_natCast, hg, ew]
      refine cT (ltI_t (by omega)) (cT (by rw [leI_t (by omega), ltI_t (by omega)]; rfl) (cT rfl (bnd hpick (cT rfl (cF f0 (cF f1 (cT k1 (cF n1' (cT k2 (cF n2' (cT k2 (cT (c3.trans (beq_iff_eq.2 d3)) (cT g1 (cT g2 (cT g3 (cT g4 y4))))))))))))))))
    have n3' := c3.trans (beq_eq_false_iff_ne.2 d3)
    by_cases d4 : x.getD (v - 1) 0 = 59
    · obtain ⟨y, y1, y2, y3, y4⟩ := put (.inr (.inr (.inr ⟨by omega, by rw [d4]; rfl⟩)))
      refine ⟨y, y1, y2, y3, ?_⟩
      refine (lp6_0 _ _ _ _ _ _ _ _).trans ?_
      rw [List.length_map, Int.toNat_natCast, hg, ew]
      refine cT (ltI_t (by omega)) (cT (by rw [leI_t (by omega), ltI_t (by omega)]; rfl) (cT rfl (bnd hpick (cT rfl (cF f0 (cF f1 (cT k1 (cF n1' (cT k2 (cF n2' (cT k2 (cF n3' (cT k1 (cT (c4.trans (beq_iff_eq.2 d4)) (cT g1 (cT g2 (cT g3 (cT g4 y4))))))))))))))))))
    have n4' := c4.trans (beq_eq_false_iff_ne.2 d4)
    obtain ⟨y, y1, y2, y3, y4⟩ := same
    refine ⟨y, y1, y2, y3, ?_⟩
    refine (lp6_0 _ _ _ _ _ _ _ _).trans ?_
    rw [List.length_map, Int.toNat_natCast, hg, ew]
    exact cT (ltI_t (by omega)) (cT (by rw [leI_t (by omega), ltI_t (by omega)]; rfl) (cT rfl (bnd hpick (cT rfl (cF f0 (cF f1 (cT k1 (cF n1' (cT k2 (cF n2' (cT k2 (cF n3' (cT k1 (cF n4' y4))))))))))))))
set_option maxRecDepth 100000
theorem ints {N : Nat} {n : Nat} {x : List (List AV)} (h : ∀ y ∈ x, TypC Try.prog N (n + 1) 3 y) : ∃ l : List Int, x = l.map iRow := by
  obtain ⟨l, e, _⟩ := rows_of iRow (fun _ => True) x fun y hy => by
    obtain ⟨x, rfl, _⟩ := openC3 (h y hy)
    exact ⟨x, rfl, trivial⟩
  exact ⟨l, e⟩
def oddB (d : Nat) : UInt8 := if d = 0 then 9 else if d = 1 then 10 else if d = 2 then 13 else 11
theorem oddB_odd (d : Nat) : odd (oddB d) := by
  unfold oddB
  repeat' split
  · exact .inl rfl
  · exact .inr (.inl rfl)
  · exact .inr (.inr (.inr rfl))
  · exact .inr (.inr (.inl rfl))
theorem oddB_bs (d : Nat) : (cond (Nat.beq d 0) (bs [9]) (cond (Nat.beq d 1) (bs [10]) (cond (Nat.beq d 2) (bs [13]) (bs [11])))) = bs [oddB d] := by
  unfold oddB
  rcases d with _ | _ | _ | d <;> rfl
theorem blanks_all {N : Nat} (l : List AV) (h : TypA Try.prog N Try.f6.params.toList l) : ∃ n, evF Try.prog cfg n 6 l = some [.v (.bool true)] := by
  rw [show Try.f6.params.toList = [22, 59, 3] by kernel_rfl] at h
  obtain ⟨a0, r, rfl, t0, h⟩ := h
  obtain ⟨a1, r, rfl, t1, h⟩ := h
  obtain ⟨a2, r, rfl, t2, h⟩ := h
  obtain rfl : r = [] := h
  obtain ⟨xn, x, rfl, _, _, f0⟩ := openV22 t0
  obtain ⟨yn, y, rfl, _, _, f1⟩ := openV59 t1
  obtain ⟨z, rfl, _⟩ := openV3 t2
  obtain ⟨rs, rfl, hrs⟩ := raws f0
  obtain ⟨ns, rfl⟩ := ints f1
  clear t0 t1 t2 f0 f1
  refine evF_of_evL ?_
  refine (ev6 _ _ _ _ _).trans ?_
  rw [List.length_map, List.length_map]
  by_cases h5 : 5 < rs.length
  · rw [ltI_t (by omega)]; rfl
  rw [ltI_f (by omega), cond_false]
  by_cases h1 : rs.length < 1
  · rw [ltI_t (by omega)]; rfl
  rw [ltI_f (by omega), cond_false]
  by_cases h20 : 20 < ns.length
  · rw [ltI_t (by omega)]; rfl
  rw [ltI_f (by omega), cond_false]
  obtain ⟨p, hp1, hp2, hp3, hp⟩ := s_program rs hrs xn false (by omega)
  have hp3 := hp3 rfl
  have hF : ev 11 [.lst p.isEmpty 12 (p.map Stm.row)] = some [.v (.string (bs (fmtL p))), .v (.int .i64 0)] := by
    have := s_Format p p.isEmpty hp2
    unfold fmtR at this
    rw [decide_eq_true (show 1 ≤ p.length ∧ p.length ≤ 8 by omega), show p.all Stm.valid = true from List.all_eq_true.2 fun s hs => decide_eq_true (hp3 s hs)] at this
    exact this
  refine bnd hp (cT rfl (bnd hF (cT rfl (cT rfl (cF rfl ?_)))))
  by_cases hlong : 900 < (fmtL p).length
  · have hs : ltI 900 (((ByteArray.size (bs (fmtL p))) : Nat) : Int) = true := by rw [bs_size]; exact ltI_t (by omega)
    refine cT hs ?_
    show some [AV.v (.bool (ltI 900 (((ByteArray.size (bs (fmtL p))) : Nat) : Int)))] = _
    rw [hs]
  refine cF (by show ltI 900 (((ByteArray.size (bs (fmtL p))) : Nat) : Int) = false; rw [bs_size]; exact ltI_f (by omega)) (bnd s_awake (cT rfl (cF rfl ?_)))
  obtain ⟨y, y1, y2, y3, y4⟩ := l_blks ns yn z p.isEmpty (fmtL p) (p.map Stm.row) (by omega) (lex (fmtL p)) ns.length 0 (fmtL p) (by omega) (by omega) rfl (asc_fmt p)
  refine bnd y4 (cT rfl (cT rfl ?_))
  have hb := prs_fmt p hp3 hp2 (by omega)
  have hP := s_Parse (l := y) (by omega) y3 (by omega)
  rw [prs_of (by rw [y2]; exact hb)] at hP
  have ho : ∀ (l : List Stm) (n : Bool), l.length ≤ 8 → ev 13 [.lst n 12 (l.map Stm.row)] = some [.ow l.isEmpty 45 12 (l.map Stm.row)] := fun l n h => s_owns l n (by omega)
  refine bnd hP (cT rfl (cT rfl (cT rfl (cF rfl ?_))))
  refine bnd (ho p _ (by omega)) (cT rfl (cT (rowsB p) ?_))
  refine bnd (ho p _ (by omega)) (cT rfl (cT (rowsB p) ?_))
  refine bnd (s_same p p _ _ (by omega)) (cT rfl (cF (by show (!decide (p = p)) = false; rw [decide_eq_true rfl]; rfl) ?_))
  -- a byte of no word
  have ew : IntKind.i64.wrap ((((bs (fmtL p)).size : Nat) : Int) + 1) = (((fmtL p).length + 1 : Nat) : Int) := by rw [bs_size, w_i64]; omega
  have q1 := s_Pick z (((fmtL p).length + 1 : Nat) : Int) (by omega) (by omega)
  have r1 := pick_range (n := z) (m := (((fmtL p).length + 1 : Nat) : Int)) (by omega)
  obtain ⟨v, hv⟩ : ∃ v : Nat, pick z (((fmtL p).length + 1 : Nat) : Int) = (v : Int) := ⟨(pick z (((fmtL p).length + 1 : Nat) : Int)).toNat, by omega⟩
  rw [hv] at q1 r1
  rw [← ew] at q1
  have q2 := s_Pick z 4 (by decide) (by decide)
  have r2 := pick_range (n := z) (m := 4) (by decide)
  obtain ⟨d, hd⟩ : ∃ d : Nat, pick z 4 = (d : Int) := ⟨(pick z 4).toNat, by omega⟩
  rw [hd] at q2 r2
  have xt : (ByteArray.extract (bs (fmtL p)) 0 (Int.toNat (v : Int))).size ≤ 900 := by
    rw [Int.toNat_natCast, bs_extract, bs_size, List.drop_zero, List.length_take]; omega
  have xd : (ByteArray.extract (bs (fmtL p)) (Int.toNat (v : Int)) (Int.toNat (((bs (fmtL p)).size : Nat) : Int))).size ≤ 900 := by
    rw [bs_size, Int.toNat_natCast, Int.toNat_natCast, bs_extract, bs_size, List.length_drop, List.length_take]; omega
  have x1 : (bs [oddB d]).size = 1 := bs_size _
  have xa : (ByteArray.extract (bs (fmtL p)) 0 (Int.toNat (v : Int)) ++ bs [oddB d]).size = (ByteArray.extract (bs (fmtL p)) 0 (Int.toNat (v : Int))).size + 1 := by
    rw [ByteArray.size_append, x1]
  have ex : (ByteArray.extract (bs (fmtL p)) 0 (Int.toNat (v : Int)) ++ bs [oddB d]) ++ ByteArray.extract (bs (fmtL p)) (Int.toNat (v : Int)) (Int.toNat (((bs (fmtL p)).size : Nat) : Int)) = bs (ins (fmtL p) v (oddB d)) := by
    rw [bs_size, Int.toNat_natCast, Int.toNat_natCast, bs_extract, bs_extract, bs_append, bs_append, List.drop_zero, List.take_length]
    unfold ins
    rw [List.append_assoc]; rfl
  obtain ⟨k, hk⟩ := prs_err (odd_15 hp3 (by omega) (oddB_odd d) v)
  have hP2 := s_Parse (l := ins (fmtL p) v (oddB d)) (by rw [ins_len]; omega) (asc_ins (asc_fmt p) v (odd_no (oddB_odd d)).2.2.1) (by rw [ins_len]; omega)
  rw [hk, ← ex] at hP2
  refine bnd q1 (cT rfl (cT ?_ (bnd q2 (cT rfl (cT ?_ ?_)))))
  · show ((true && (leI 0 (v : Int))) && (leI (v : Int) (((bs (fmtL p)).size : Nat) : Int))) = true
    rw [bs_size, leI_t (by omega), leI_t (by omega)]; rfl
  · show ((leI 0 (d : Int)) && (ltI (d : Int) 4)) = true
    rw [leI_t (by omega), ltI_t (by omega)]; rfl
  show cond (leN ((ByteArray.size (ByteArray.extract (bs (fmtL p)) 0 (Int.toNat (v : Int)))) + (ByteArray.size (cond (Nat.beq (Int.toNat (d : Int)) 0) (bs [9]) (cond (Nat.beq (Int.toNat (d : Int)) 1) (bs [10]) (cond (Nat.beq (Int.toNat (d : Int)) 2) (bs [13]) (bs [11])))))) 9223372036854775807)
      (cond (((leI 0 (v : Int)) && (leI (v : Int) (((bs (fmtL p)).size : Nat) : Int))) && (leI (((bs (fmtL p)).size : Nat) : Int) (((bs (fmtL p)).size : Nat) : Int)))
        (cond (leN ((ByteArray.size ((ByteArray.extract (bs (fmtL p)) 0 (Int.toNat (v : Int))) ++ (cond (Nat.beq (Int.toNat (d : Int)) 0) (bs [9]) (cond (Nat.beq (Int.toNat (d : Int)) 1) (bs [10]) (cond (Nat.beq (Int.toNat (d : Int)) 2) (bs [13]) (bs [11])))))) + (ByteArray.size (ByteArray.extract (bs (fmtL p)) (Int.toNat (v : Int)) (Int.toNat (((bs (fmtL p)).size : Nat) : Int))))) 9223372036854775807)
          ((ev 15 [.v (.string (((ByteArray.extract (bs (fmtL p)) 0 (Int.toNat (v : Int))) ++ (cond (Nat.beq (Int.toNat (d : Int)) 0) (bs [9]) (cond (Nat.beq (Int.toNat (d : Int)) 1) (bs [10]) (cond (Nat.beq (Int.toNat (d : Int)) 2) (bs [13]) (bs [11]))))) ++ (ByteArray.extract (bs (fmtL p)) (Int.toNat (v : Int)) (Int.toNat (((bs (fmtL p)).size : Nat) : Int)))))]).bind _) none) none) none = _
  rw [Int.toNat_natCast d, oddB_bs]
  exact cT (leN_t (by rw [x1]; omega)) (cT (by rw [bs_size, leI_t (by omega), leI_t (by omega), leI_t (by omega)]; rfl) (cT (leN_t (by rw [xa]; omega)) (bnd hP2 (cT rfl (cT rfl (cT rfl rfl))))))
end Go.Proofs.Ytcinngpelbdopaa
