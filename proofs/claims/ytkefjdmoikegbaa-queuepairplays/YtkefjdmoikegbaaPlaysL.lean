/- QueuepairPlays. -/
import Derived.Test.YtkefjdmoikegbaaImg
import Derived.Test.YtkefjdmoikegbaaTyO
set_option linter.all false
namespace Go.Proofs.Ytkefjdmoikegbaa
open Go.Ev Go.RowKit
attribute [local congr] bind_first cond_first
set_option maxRecDepth 10000
/-- The operations as they are handed in. -/
structure Opr where
  k : Int
  r1 : Int
  r2 : Int
  r3 : Int
  r4 : Int
  r5 : Int
  r6 : Int
  r7 : Int
  a : Int
  w : Int
def Opr.row (o : Opr) : List AV := opR o.k o.r1 o.r2 o.r3 o.r4 o.r5 o.r6 o.r7 o.a o.w
def Opr.Ok (o : Opr) : Prop := (0 ≤ o.r7 ∧ o.r7 < 18446744073709551616) ∧ (0 ≤ o.w ∧ o.w < 18446744073709551616)
abbrev stB (s : PS) (qn : Bool) (ws : List Int) (dn : Bool) (R : Store) : Store := qB (s.p qn) ws dn (rB s.c s.inc (rrows s.q s.ex s.w) s.q.isEmpty (ws.map wr) (!dn) R)
theorem l_plays (f : Bool) (ops : List Opr) (hl : ops.length ≤ 100000) (hok : ∀ o ∈ ops, o.Ok) : ∀ (k i : Nat) (s : PS) (qn : Bool) (ws : List Int) (dn : Bool), i + k = ops.length → StOk s qn ws →
    ∃ (s' : PS) (qn' : Bool) (ws' : List Int) (dn' : Bool), StOk s' qn' ws' ∧
    lp 6 0 0 ⟨[(2, .lst f 10 (ops.map Opr.row)), (7, .ptr 0 0 0), (9, .v (.int .i64 (i : Int)))], stB s qn ws dn []⟩ = some ⟨some 0, ⟨[(7, .ptr 0 0 0)], stB s' qn' ws' dn' []⟩, []⟩
  | 0, i, s, qn, ws, dn, hi, h => by
    refine ⟨s, qn, ws, dn, h, ?_⟩
    unfold stB qB rB
    rw [lp6_0, List.length_map, ltI_f (by omega)]; rfl
  | k + 1, i, s, qn, ws, dn, hi, h => by
    have hlt : i < ops.length := by omega
    obtain ⟨o, ho⟩ : ∃ o, ops[i] = o := ⟨_, rfl⟩
    have hoo := hok o (by rw [← ho]; exact List.getElem_mem hlt)
    obtain ⟨s1, qn1, ws1, dn1, cr, h1, ⟨hc, hi2⟩, ⟨c1, c2, c3⟩, hd⟩ := s_do s qn ws dn h o.k o.r1 o.r2 o.r3 o.r4 o.r5 o.r6 o.r7 o.a o.w hoo.1 hoo.2
    obtain ⟨s', qn', ws', dn', hs', ih⟩ := l_plays f ops hl hok k (i + 1) s1 qn1 ws1 dn1 (by omega) h1
    refine ⟨s', qn', ws', dn', hs', ?_⟩
    have hg : lget (ops.map Opr.row) (Int.toNat (i : Int)) = [.v (.int .i64 o.k), .v (.int .i64 o.r1), .v (.int .i64 o.r2), .v (.int .i64 o.r3), .v (.int .i64 o.r4), .v (.int .i64 o.r5), .v (.int .u64 o.r6), .v (.int .u64 o.r7), .v (.int .i64 o.a), .v (.int .u64 o.w)] := by
      rw [Int.toNat_natCast, lget_map Opr.row ops i hlt, ho]; rfl
    have e1 : IntKind.i64.wrap ((i : Int) + 1) = ((i + 1 : Nat) : Int) := by rw [w_i64]; omega
    unfold pO rO PS.p at hd
    unfold stB qB rB PS.p at *
    unfold opR at hd
    rw [lp6_0, List.length_map, ltI_t (by omega), leI_t (show (0 : Int) ≤ i by omega), hg, e1]
    refine cT rfl (cT rfl (cT rfl (bnd hd (cT rfl (cT rfl (cT rfl (cT ?_ (cT rfl (cF rfl ?_)))))))))
    · show (true && (true && (true && (true && (isOw 108 12 cr || isNilL cr))))) = true
      rw [c3]; rfl
    refine Eq.trans ?_ ih
    show lp 6 0 0 ⟨_, [_, _, _, _, _, _, ⟨1, 70, 4, true, [[_, _, _, .sl (avNil cr) 7 0 none]]⟩, ⟨1, 108, 12, false, avXs cr⟩, _, _]⟩ = _
    rw [c1, c2]
    rfl
theorem mem0_wok : Wok mem0 := fun x hx => by
  unfold mem0 at hx
  simp only [List.mem_cons, List.mem_replicate] at hx
  omega
theorem start_ok (c inc : Int) (hc : 0 ≤ c ∧ c < 6) (hi : 0 ≤ inc ∧ inc ≤ 59) : StOk ⟨c, inc, [], 0, []⟩ true mem0 :=
  ⟨⟨fun x hx => (by cases hx), Nat.zero_le _, fun _ => ⟨rfl, rfl⟩, fun x r e => (by cases e), Nat.le_refl _, hc, hi⟩, fun _ => rfl, mem0_len, mem0_wok⟩
theorem plays_law (a0 a1 : Int) (f : Bool) (ops : List Opr) (hok : ∀ o ∈ ops, o.Ok) : ev 6 [.v (.int .i64 a0), .v (.int .i64 a1), .lst f 10 (ops.map Opr.row)] = some [.v (.bool true)] := by
  rw [ev6, List.length_map]
  by_cases hls : 60 < ops.length
  · exact cT (ltI_t (by omega)) rfl
  refine cF (ltI_f (by omega)) ?_
  have hc := pickR a0 6 (by decide)
  have hi := pickR a1 4 (by decide)
  obtain ⟨s', qn', ws', dn', hs', hl⟩ := l_plays f ops (by omega) hok ops.length 0 ⟨pick a0 6, pick a1 4, [], 0, []⟩ true mem0 false (by omega) (start_ok _ _ hc (by omega))
  have him := s_Image ws' dn' hs'.wok (by rw [hs'.len]; decide)
  have hsm := s_SameImg false false ws' (!dn') hs'.wok (by rw [hs'.len]; decide)
  refine bnd (s_Pick a0 6 (by decide) (by decide)) (cT rfl (bnd (s_Pick a1 4 (by decide) (by decide)) (cT rfl (bnd (s_newPair (pick a0 6) (pick a1 4) hc (by omega)) (cF rfl (cT rfl (cT rfl (bnd (s_New 40 (by decide)) (cF rfl (cT rfl (cT rfl ?_)))))))))))
  refine cT (by simp only [List.length_replicate, List.length_set]; rfl) (cT (by simp only [List.length_replicate, List.length_set]; rfl) (cT (by simp only [List.length_replicate, List.length_set]; rfl) (cT (by simp only [List.length_replicate, List.length_set]; rfl) (cF rfl (cF rfl (bnd s_write0 (cT rfl (cT rfl (cT ?_ (cF rfl (bnd s_awake (cT rfl (cF rfl ?_)))))))))))))
  · show (false || (true && ((mem0.map wr).all rowV && true))) = true
    rw [all_wr]; rfl
  refine bnd hl (cT rfl (cT rfl (bnd him (cT rfl (cT ?_ (bnd hsm (cT rfl rfl)))))))
  show (false || (((bts (img ws' (!dn'))).all rowV) && true)) = true
  rw [all_btsV]; rfl
theorem opr_of {N : Nat} {y : List AV} (hy : TypC Try.prog N 11 61 y) : ∃ o : Opr, y = o.row ∧ o.Ok := by
  obtain ⟨x0, x1, x2, x3, x4, x5, x6, x7, x8, x9, rfl, h⟩ := openC61 (n := 8) hy
  refine ⟨⟨x0, x1, x2, x3, x4, x5, x6, x7, x8, x9⟩, rfl, ?_⟩
  unfold Opr.Ok
  simp only
  omega
theorem plays_all {N : Nat} (l : List AV) (h : TypA Try.prog N Try.f6.params.toList l) : ∃ n, evF Try.prog cfg n 6 l = some [.v (.bool true)] := by
  rw [show Try.f6.params.toList = [3, 3, 56] by kernel_rfl] at h
  obtain ⟨a0, r, rfl, t0, h⟩ := h
  obtain ⟨a1, r, rfl, t1, h⟩ := h
  obtain ⟨a2, r, rfl, t2, h⟩ := h
  obtain rfl : r = [] := h
  obtain ⟨a, rfl, _⟩ := openV3 t0
  obtain ⟨b, rfl, _⟩ := openV3 t1
  obtain ⟨f, xs, rfl, _, _, hx⟩ := openV56 t2
  obtain ⟨ops, rfl, hok⟩ := rows_of Opr.row Opr.Ok xs fun y hy => opr_of (hx y hy)
  exact evF_of_evL (plays_law a b f ops hok)
end Go.Proofs.Ytkefjdmoikegbaa
