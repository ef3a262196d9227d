/- The cache: small functions of both sides. -/
import Derived.Test.YtjbpbidlcegopaaDoorTy
set_option linter.all false
namespace Go.Proofs.YtjbpbidlcegopaaDoor
open Go.Ev
attribute [local congr] bind_first cond_first
theorem cT {α : Type} {c : Bool} {A B : α} {r : α} (h : c = true) (h2 : A = r) : cond c A B = r := by rw [h]; exact h2
theorem cF {α : Type} {c : Bool} {A B : α} {r : α} (h : c = false) (h2 : B = r) : cond c A B = r := by rw [h]; exact h2
theorem s_Pick (a m : Int) (hm : 0 < m) (hm' : m ≤ 4611686018427387904) : ev 5 [.v (.int .i64 a), .v (.int .i64 m)] = some [.v (.int .i64 (pick a m))] := by
  rw [ev5]
  simp only [ltI_f (show 1 ≤ m by omega), eqI_f (show m ≠ 0 by omega), cond_false, pick_ok hm hm']
def cachB (p : Pg) : Bool := decide (96 ≤ p.l ∧ p.l < 256 ∧ p.h % 256 = 0)
theorem cachB_iff {p : Pg} : cachB p = true ↔ 96 ≤ p.l ∧ p.l < 256 ∧ p.h % 256 = 0 := decide_eq_true_iff
theorem s_cach (p : Pg) (hp : p.ok) : ev 21 [.agg p.row] = some [.v (.bool (cachB p))] := by
  obtain ⟨_, h2, _⟩ := hp
  have h20 : ev 39 [.agg p.row] = some [.v (.bool (!(p.h % 256 == 0)))] := by
    show ev 39 [.agg (pgl p.l p.h p.d0 p.d1 p.d2 p.d3 p.d4 p.d5 p.d6)] = _
    rw [ev39, and_u64 8 (by decide) p.h 255 (by decide) h2.1 (by have := h2.2; omega)]; rfl
  show ev 21 [.agg (pgl p.l p.h p.d0 p.d1 p.d2 p.d3 p.d4 p.d5 p.d6)] = _
  rw [ev21]
  by_cases h1 : 96 ≤ p.l
  · refine cT (leI_t h1) ?_
    by_cases h3 : p.l < 256
    · refine cT (ltI_t h3) (bnd h20 (cT rfl ?_))
      show some [AV.v (.bool (!(!(p.h % 256 == 0))))] = _
      congr 4
      unfold cachB
      rw [Bool.not_not, Bool.eq_iff_iff, beq_iff_eq, decide_eq_true_iff]
      omega
    · refine cF (ltI_f (by omega)) ?_
      rw [show cachB p = false from decide_eq_false (by omega)]
  · refine cF (leI_f (by omega)) ?_
    rw [show cachB p = false from decide_eq_false (by omega)]
def seen (ls : List Int) : List (List AV) := (List.range 256).map fun (j : Nat) => [AV.v (.bool (decide ((j : Int) ∈ ls)))]
theorem seen_len (ls : List Int) : (seen ls).length = 256 := by rw [seen, List.length_map, List.length_range]
theorem seen_at (ls : List Int) (i : Nat) (h : i < (seen ls).length) : (seen ls)[i] = [.v (.bool (decide ((i : Int) ∈ ls)))] := by
  unfold seen at h ⊢
  rw [List.getElem_map, List.getElem_range]
theorem seen_nil : List.replicate 256 ([.v (.bool false)] : List AV) = seen [] := by
  refine List.ext_getElem (by rw [List.length_replicate, seen_len]) fun i h1 h2 => ?_
  rw [List.getElem_replicate, seen_at, show decide ((i : Int) ∈ ([] : List Int)) = false by simp]
theorem seen_get (ls : List Int) {l : Int} (h0 : 0 ≤ l) (h1 : l < 256) : lget (seen ls) (Int.toNat l) = [.v (.bool (decide (l ∈ ls)))] := by
  obtain ⟨k, rfl⟩ : ∃ k : Nat, l = (k : Int) := ⟨l.toNat, by omega⟩
  rw [Int.toNat_natCast]
  unfold seen
  rw [lget_map _ _ _ (by rw [List.length_range]; omega), List.getElem_range]
theorem seen_set (ls : List Int) {l : Int} (h0 : 0 ≤ l) (h1 : l < 256) : List.set (seen ls) (Int.toNat l) [.v (.bool true)] = seen (ls ++ [l]) := by
  obtain ⟨k, rfl⟩ : ∃ k : Nat, l = (k : Int) := ⟨l.toNat, by omega⟩
  rw [Int.toNat_natCast]
  refine List.ext_getElem (by rw [List.length_set, seen_len, seen_len]) fun i h2 h3 => ?_
  rw [List.getElem_set, seen_at, seen_at]
  split
  · rename_i e; subst e; simp
  · rename_i e
    have : ((i : Int) = (k : Int)) = False := eq_false (by omega)
    simp [this]
theorem row_at {ps done rest : List Pg} {p : Pg} (h : ps = done ++ p :: rest) : lget (ps.map Pg.row) (Int.toNat ((done.length : Nat) : Int)) = p.row := by
  rw [Int.toNat_natCast, lget_map _ _ _ (by rw [h]; simp)]
  subst h
  simp
theorem len_at {ps done rest : List Pg} {p : Pg} (h : ps = done ++ p :: rest) : done.length < (ps.map Pg.row).length := by subst h; simp
def okAll : List Int → List Pg → Bool
  | _, [] => true
  | met, p :: r => cachB p && (!(decide (p.l ∈ met)) && okAll (met ++ [p.l]) r)
theorem l_val (b : Bool) (ps : List Pg) (hlen : ps.length ≤ 1000) (hp : ∀ p ∈ ps, p.ok) : ∀ (rest done : List Pg), ps = done ++ rest →
    lp 7 0 0 ⟨[(3, .ptr 0 0 0), (23, .lst b 9 (ps.map Pg.row)), (24, .v (.int .i64 (((ps.map Pg.row).length : Nat) : Int))), (25, .v (.int .i64 ((done.length : Nat) : Int)))], [⟨1, 57, 1, false, seen (done.map Pg.l)⟩]⟩ = some (bif okAll (done.map Pg.l) rest then ⟨some 0, ⟨[], []⟩, []⟩ else ⟨none, ⟨[], []⟩, [.v (.bool false)]⟩)
  | [], done, h => by
    rw [lp7_0]
    exact cF (ltI_f (by rw [List.length_map, h, List.append_nil]; omega)) rfl
  | p :: rest, done, h => by
    have hm : p ∈ ps := by rw [h]; simp
    have hok := hp p hm
    have hl := len_at h
    rw [lp7_0, row_at h]
    refine cT (ltI_t (by omega)) (cT (by rw [leI_t (by omega), ltI_t (by omega)]; rfl) (cT rfl (bnd (s_cach p hok) (cT rfl ?_))))
    show cond (!cachB p) _ _ = some (bif cachB p && (!(decide (p.l ∈ done.map Pg.l)) && okAll (done.map Pg.l ++ [p.l]) rest) then _ else _)
    cases hc : cachB p with
    | false => rfl
    | true =>
    obtain ⟨c1, c2, c3⟩ := cachB_iff.1 hc
    have ih := l_val b ps hlen hp rest (done ++ [p]) (by rw [h]; simp)
    refine cF rfl (cT ?_ (cT ?_ ?_))
    · show (leI 0 p.l && ltI p.l 256) = true
      rw [leI_t (by omega), ltI_t c2]; rfl
    · show (ltN (Int.toNat p.l) (seen (done.map Pg.l)).length && isB (cellAt (lget (seen (done.map Pg.l)) (Int.toNat p.l)) 0)) = true
      rw [seen_get _ (by omega) c2, seen_len, ltN_t (by omega)]; rfl
    show cond (avBool (cellAt (lget (seen (done.map Pg.l)) (Int.toNat p.l)) 0)) _ _ = _
    rw [seen_get _ (by omega) c2]
    show cond (decide (p.l ∈ done.map Pg.l)) _ _ = _
    cases hd : decide (p.l ∈ done.map Pg.l) with
    | true => rfl
    | false =>
      refine cF rfl (cT ?_ (cT ?_ ?_))
      · show (leI 0 p.l && ltI p.l 256) = true
        rw [leI_t (by omega), ltI_t c2]; rfl
      · show ltN (Int.toNat p.l) (seen (done.map Pg.l)).length = true
        rw [seen_len, ltN_t (by omega)]
      · show lp 7 0 0 ⟨[_, _, _, (25, .v (.int .i64 (IntKind.i64.wrap (((done.length : Nat) : Int) + 1))))], [⟨1, 57, 1, false, List.set (seen (done.map Pg.l)) (Int.toNat p.l) [.v (.bool true)]⟩]⟩ = _
        rw [seen_set _ (by omega) c2, show IntKind.i64.wrap (((done.length : Nat) : Int) + 1) = (((done ++ [p]).length : Nat) : Int) by rw [w_i64, List.length_append, List.length_singleton]; rw [List.length_map] at hl; omega, show done.map Pg.l ++ [p.l] = (done ++ [p]).map Pg.l by simp]
        exact ih
def validB (n : Int) (ps : List Pg) : Bool := !(ltI n 1) && (!(ltI 256 n) && (!(ltI n ((ps.length : Nat) : Int)) && okAll [] ps))
theorem s_valid (n : Int) (b : Bool) (ps : List Pg) (hp : ∀ p ∈ ps, p.ok) : ev 7 [.agg [.v (.int .i64 n), .lst b 9 (ps.map Pg.row)]] = some [.v (.bool (validB n ps))] := by
  rw [ev7, List.length_map]
  unfold validB
  cases h1 : ltI n 1 with
  | true => rfl
  | false =>
  cases h2 : ltI 256 n with
  | true => rfl
  | false =>
  cases h3 : ltI n ((ps.length : Nat) : Int) with
  | true => rfl
  | false =>
    have e1 : ¬ (256 < n) := of_decide_eq_false h2
    have e2 : ¬ (n < ((ps.length : Nat) : Int)) := of_decide_eq_false h3
    have hv := l_val b ps (by omega) hp ps [] rfl
    rw [List.length_map, show ([] : List Pg).map Pg.l = [] from rfl] at hv
    refine cF rfl (cF rfl (cF rfl ?_))
    rw [seen_nil]
    refine bnd hv ?_
    show _ = some [AV.v (.bool (okAll [] ps))]
    cases okAll [] ps with
    | true => exact cT rfl (cT rfl rfl)
    | false => exact cF rfl (cT rfl rfl)
theorem s_cach2 (p : Pg) (hp : p.ok) : ev 22 [.agg p.row] = some [.v (.bool (cachB p))] := by
  obtain ⟨_, h2, _⟩ := hp
  have h40 : ev 40 [.agg p.row] = some [.v (.bool (!(p.h % 256 == 0)))] := by
    show ev 40 [.agg (pgl p.l p.h p.d0 p.d1 p.d2 p.d3 p.d4 p.d5 p.d6)] = _
    rw [ev40, tmod_pos _ _ h2.1]
  show ev 22 [.agg (pgl p.l p.h p.d0 p.d1 p.d2 p.d3 p.d4 p.d5 p.d6)] = _
  rw [ev22]
  by_cases h1 : 96 ≤ p.l
  · refine cT (leI_t h1) ?_
    by_cases h3 : p.l < 256
    · refine cT (ltI_t h3) (bnd h40 (cT rfl ?_))
      show some [AV.v (.bool (!(!(p.h % 256 == 0))))] = _
      congr 4
      unfold cachB
      rw [Bool.not_not, Bool.eq_iff_iff, beq_iff_eq, decide_eq_true_iff]
      omega
    · refine cF (ltI_f (by omega)) ?_
      rw [show cachB p = false from decide_eq_false (by omega)]
  · refine cF (leI_f (by omega)) ?_
    rw [show cachB p = false from decide_eq_false (by omega)]
def idx (l : Int) : List Pg → Option Nat
  | [] => none
  | p :: r => bif p.l == l then some 0 else (idx l r).map (· + 1)
def idxI (o : Option Nat) : Int := match o with | some j => (j : Int) | none => -1
theorem l_idx (b : Bool) (l : Int) (ps : List Pg) (hlen : ps.length ≤ 1000) : ∀ (rest done : List Pg), ps = done ++ rest →
    lp 41 0 0 ⟨[(0, .lst b 9 (ps.map Pg.row)), (1, .clo 42 [] [.ep [.v (.int .i64 l)] 0]), (7, .v (.int .i64 (((ps.map Pg.row).length : Nat) : Int))), (8, .v (.int .i64 ((done.length : Nat) : Int)))], []⟩ =
      some (match idx l rest with | some j => ⟨none, ⟨[], []⟩, [.v (.int .i64 (((done.length + j : Nat) : Nat) : Int))]⟩ | none => ⟨some 0, ⟨[], []⟩, []⟩)
  | [], done, h => by
    rw [lp41_0]
    exact cF (ltI_f (by rw [List.length_map, h, List.append_nil]; omega)) rfl
  | p :: rest, done, h => by
    have hl := len_at h
    have h17 : ev 42 [.agg p.row, .ep [.v (.int .i64 l)] 0] = some [.v (.bool (p.l == l))] := ev42 _ _ _ _ _ _ _ _ _ _
    have ih := l_idx b l ps hlen rest (done ++ [p]) (by rw [h]; simp)
    rw [lp41_0, row_at h]
    refine cT (ltI_t (by omega)) (cT (by rw [leI_t (by omega), ltI_t (by omega)]; rfl) (cT rfl (bnd h17 (cT rfl ?_))))
    cases e : (p.l == l) with
    | true =>
      refine cT rfl ?_
      simp only [idx, e, cond_true, Nat.add_zero]
    | false =>
      refine cF rfl ?_
      simp only [idx, e, cond_false]
      rw [show IntKind.i64.wrap (((done.length : Nat) : Int) + 1) = (((done ++ [p]).length : Nat) : Int) by rw [w_i64, List.length_append, List.length_singleton]; rw [List.length_map] at hl; omega]
      refine ih.trans ?_
      cases idx l rest with
      | none => rfl
      | some j =>
        simp only [Option.map_some, List.length_append, List.length_singleton]
        rw [show done.length + 1 + j = done.length + (j + 1) by omega]
theorem s_idx (n : Int) (b : Bool) (l : Int) (ps : List Pg) (hlen : ps.length ≤ 1000) : ev 25 [.agg [.v (.int .i64 n), .lst b 9 (ps.map Pg.row)], .v (.int .i64 l)] = some [.v (.int .i64 (idxI (idx l ps)))] := by
  have h := l_idx b l ps hlen ps [] rfl
  have h16 : ev 41 [.lst b 9 (ps.map Pg.row), .clo 42 [] [.ep [.v (.int .i64 l)] 0]] = some [.v (.int .i64 (idxI (idx l ps)))] := by
    rw [ev41]
    refine bnd h ?_
    cases idx l ps with
    | none => exact cT rfl (cT rfl rfl)
    | some j => refine cF rfl (cT rfl ?_); simp only [List.length_nil, Nat.zero_add]; rfl
  rw [ev25]
  exact bnd h16 (cT rfl rfl)
theorem s_clone (b : Bool) (ps : List Pg) (hb : b = true → ps = []) (hlen : ps.length ≤ 1000) : ev 33 [.lst b 9 (ps.map Pg.row)] = some [.ow b 42 9 (ps.map Pg.row)] := by
  rw [ev33]
  cases b with
  | true => rw [hb rfl]; rfl
  | false =>
    refine cF rfl (cT (leN_t (by rw [List.length_map]; omega)) ?_)
    simp only [Bool.and_false, List.nil_append]
def del (ps : List Pg) (i : Nat) : List Pg := ps.take i ++ ps.drop (i + 1)
theorem idx_lt {l : Int} : ∀ {ps : List Pg} {i : Nat}, idx l ps = some i → ∃ h : i < ps.length, (ps[i]).l = l
  | [], _, h => by cases h
  | p :: r, i, h => by
    simp only [idx] at h
    cases e : (p.l == l) with
    | true =>
      rw [e] at h; simp at h; subst h
      exact ⟨by simp, by simpa using e⟩
    | false =>
      rw [e] at h
      obtain ⟨j, hj, rfl⟩ := Option.map_eq_some_iff.1 h
      obtain ⟨h1, h2⟩ := idx_lt hj
      exact ⟨by simp; omega, by simpa using h2⟩
theorem idx_none {l : Int} : ∀ {ps : List Pg}, idx l ps = none → l ∉ ps.map Pg.l
  | [], _ => by simp
  | p :: r, h => by
    simp only [idx] at h
    cases e : (p.l == l) with
    | true => rw [e] at h; cases h
    | false =>
      rw [e] at h
      have h2 := idx_none (Option.map_eq_none_iff.1 h)
      simp only [List.map_cons, List.mem_cons, not_or]
      exact ⟨fun h3 => by rw [h3] at e; simp at e, h2⟩
theorem del_row (ps : List Pg) (i : Nat) : (del ps i).map Pg.row = (ps.map Pg.row).take i ++ (ps.map Pg.row).drop (i + 1) := by simp [del, List.map_take, List.map_drop]
theorem g_del (ps : List Pg) (i : Nat) (h : i < ps.length) (hlen : ps.length ≤ 1000) : delG 42 9 (ps.map Pg.row) [.v (.int .i64 (i : Int)), .v (.int .i64 (IntKind.i64.wrap ((i : Int) + 1)))] = some ((del ps i).map Pg.row) := by
  rw [show IntKind.i64.wrap ((i : Int) + 1) = ((i + 1 : Nat) : Int) by rw [w_i64]; omega, del_row]
  unfold delG
  refine cT ?_ (by simp only [Int.toNat_natCast])
  simp only [Nat.beq_refl, Bool.true_and, Bool.and_eq_true, decide_eq_true_eq, List.length_map]
  omega
theorem g_ins (xs : List (List AV)) (r : List AV) : insG 42 9 xs [.v (.int .i64 0), .lst false 9 [r]] = some (r :: xs) := by
  unfold insG
  refine cT ?_ (by simp)
  simp only [Nat.beq_refl, Bool.true_and, Bool.and_eq_true, decide_eq_true_eq, List.length_singleton]
  omega
def putL (n : Int) (ps : List Pg) (p : Pg) : List Pg :=
  match idx p.l ps with
  | none => (p :: ps).take n.toNat
  | some i => ((bif ltI p.h (ps.getD i pz).h then ps.getD i pz else p) :: del ps i).take n.toNat
def getL (ps : List Pg) (i : Nat) : List Pg := ps.getD i pz :: del ps i
theorem l_cached (b : Bool) (l : Int) (ps : List Pg) (hlen : ps.length ≤ 1000) : ∀ (rest done : List Pg), ps = done ++ rest →
    lp 23 0 0 ⟨[(0, .lst b 9 (ps.map Pg.row)), (1, .v (.int .i64 l)), (5, .v (.int .i64 ((done.length : Nat) : Int)))], []⟩ =
      some (match idx l rest with | some j => ⟨none, ⟨[], []⟩, [.v (.int .i64 (((done.length + j : Nat) : Nat) : Int))]⟩ | none => ⟨some 0, ⟨[], []⟩, []⟩)
  | [], done, h => by
    rw [lp23_0]
    exact cF (ltI_f (by rw [List.length_map, h, List.append_nil]; omega)) rfl
  | p :: rest, done, h => by
    have hl := len_at h
    have ih := l_cached b l ps hlen rest (done ++ [p]) (by rw [h]; simp)
    rw [lp23_0, row_at h]
    refine cT (ltI_t (by omega)) (cT (by rw [leI_t (by omega), ltI_t (by omega)]; rfl) (cT rfl ?_))
    show cond (p.l == l) _ _ = _
    cases e : (p.l == l) with
    | true =>
      refine cT rfl ?_
      simp only [idx, e, cond_true, Nat.add_zero]
    | false =>
      refine cF rfl ?_
      simp only [idx, e, cond_false]
      rw [show IntKind.i64.wrap (((done.length : Nat) : Int) + 1) = (((done ++ [p]).length : Nat) : Int) by rw [w_i64, List.length_append, List.length_singleton]; rw [List.length_map] at hl; omega]
      refine ih.trans ?_
      cases idx l rest with
      | none => rfl
      | some j =>
        simp only [Option.map_some, List.length_append, List.length_singleton]
        rw [show done.length + 1 + j = done.length + (j + 1) by omega]
theorem s_cached (b : Bool) (l : Int) (ps : List Pg) (hlen : ps.length ≤ 1000) : ev 23 [.lst b 9 (ps.map Pg.row), .v (.int .i64 l)] = some [.v (.int .i64 (idxI (idx l ps)))] := by
  rw [ev23]
  refine bnd (l_cached b l ps hlen ps [] rfl) ?_
  cases idx l ps with
  | none => exact cT rfl (cT rfl rfl)
  | some j => refine cF rfl (cT rfl ?_); simp only [List.length_nil, Nat.zero_add]; rfl
theorem idx_mem {l : Int} {ps : List Pg} : leI 0 (idxI (idx l ps)) = decide (l ∈ ps.map Pg.l) := by
  cases h : idx l ps with
  | none =>
    rw [show leI 0 (idxI none) = false from rfl, decide_eq_false (idx_none h)]
  | some j =>
    obtain ⟨h1, h2⟩ := idx_lt h
    rw [show leI 0 (idxI (some j)) = true from leI_t (by show (0 : Int) ≤ (j : Int); omega), decide_eq_true (by rw [← h2]; exact List.mem_map_of_mem (List.getElem_mem h1))]
theorem l_valc (n : Int) (b : Bool) (ps : List Pg) (hlen : ps.length ≤ 1000) (hp : ∀ p ∈ ps, p.ok) : ∀ (rest done : List Pg), ps = done ++ rest →
    lp 8 0 0 ⟨[(1, .ptr 0 0 0), (3, .v (.int .i64 ((done.length : Nat) : Int)))], [⟨1, 30, 2, true, [[.v (.int .i64 n), .lst b 9 (ps.map Pg.row)]]⟩]⟩ = some (bif okAll (done.map Pg.l) rest then ⟨some 0, ⟨[], []⟩, []⟩ else ⟨none, ⟨[], []⟩, [.v (.bool false)]⟩)
  | [], done, h => by
    rw [lp8_0]
    exact cF (ltI_f (by rw [List.length_map, h, List.append_nil]; omega)) rfl
  | p :: rest, done, h => by
    have hm : p ∈ ps := by rw [h]; simp
    have hok := hp p hm
    have hl := len_at h
    have ih := l_valc n b ps hlen hp rest (done ++ [p]) (by rw [h]; simp)
    have htk : List.take (Int.toNat ((done.length : Nat) : Int)) (ps.map Pg.row) = done.map Pg.row := by
      rw [Int.toNat_natCast, h, List.map_append, List.take_left' (by rw [List.length_map])]
    have hdl : done.length ≤ 1000 := by rw [List.length_map] at hl; omega
    have hidx := idx_mem (l := p.l) (ps := done)
    rw [lp8_0, row_at h, htk]
    refine cT (ltI_t (by omega)) (cT (by rw [leI_t (by omega), ltI_t (by omega)]; rfl) (cT rfl (bnd (s_cach2 p hok) (cT rfl ?_))))
    show cond (!cachB p) _ _ = some (bif cachB p && (!(decide (p.l ∈ done.map Pg.l)) && okAll (done.map Pg.l ++ [p.l]) rest) then _ else _)
    cases hc : cachB p with
    | false => rfl
    | true =>
    refine cF rfl (cT (by rw [leI_t (by omega), leI_t (by omega)]; rfl) (cT (by rw [leI_t (by omega), ltI_t (by omega)]; rfl) (cT rfl (bnd (s_cached b p.l done hdl) (cT rfl ?_)))))
    show cond (leI 0 (idxI (idx p.l done))) _ _ = _
    rw [hidx]
    cases hd : decide (p.l ∈ done.map Pg.l) with
    | true => rfl
    | false =>
      refine cF rfl ?_
      rw [show IntKind.i64.wrap (((done.length : Nat) : Int) + 1) = (((done ++ [p]).length : Nat) : Int) by rw [w_i64, List.length_append, List.length_singleton]; rw [List.length_map] at hl; omega, show done.map Pg.l ++ [p.l] = (done ++ [p]).map Pg.l by simp]
      exact ih
theorem s_validc (n : Int) (b : Bool) (ps : List Pg) (hp : ∀ p ∈ ps, p.ok) : ev 8 [.agg [.v (.int .i64 n), .lst b 9 (ps.map Pg.row)]] = some [.v (.bool (validB n ps))] := by
  rw [ev8, List.length_map]
  unfold validB
  cases h1 : ltI n 1 with
  | true => rfl
  | false =>
  cases h2 : ltI 256 n with
  | true => rfl
  | false =>
  cases h3 : ltI n ((ps.length : Nat) : Int) with
  | true => rfl
  | false =>
    have e1 : ¬ (256 < n) := of_decide_eq_false h2
    have e2 : ¬ (n < ((ps.length : Nat) : Int)) := of_decide_eq_false h3
    have hv := l_valc n b ps (by omega) hp ps [] rfl
    rw [show ([] : List Pg).map Pg.l = [] from rfl] at hv
    refine cF rfl (cF rfl (cF rfl ?_))
    refine bnd hv ?_
    show _ = some [AV.v (.bool (okAll [] ps))]
    cases okAll [] ps with
    | true => exact cT rfl (cT rfl rfl)
    | false => exact cF rfl (cT rfl rfl)
theorem s_without (b : Bool) (ps : List Pg) (i : Nat) (h : i < ps.length) (hlen : ps.length ≤ 1000) : ∃ f, ev 28 [.lst b 9 (ps.map Pg.row), .v (.int .i64 (i : Int))] = some [.ow f 42 9 ((del ps i).map Pg.row)] ∧ (f = true → del ps i = []) := by
  have hw : IntKind.i64.wrap ((i : Int) + 1) = ((i + 1 : Nat) : Int) := by rw [w_i64]; omega
  refine ⟨false, ?_, fun e => by cases e⟩
  rw [ev28, hw, del_row]
  simp only [Int.toNat_natCast, List.nil_append, List.length_map, List.length_take, List.length_drop, Bool.and_false]
  exact cT (by rw [leI_t (by omega), leI_t (by omega)]; rfl) (cT (leN_t (by omega)) (cT (by rw [leI_t (by omega), leI_t (by omega)]; rfl) (cT (leN_t (by omega)) rfl)))
end Go.Proofs.YtjbpbidlcegopaaDoor
