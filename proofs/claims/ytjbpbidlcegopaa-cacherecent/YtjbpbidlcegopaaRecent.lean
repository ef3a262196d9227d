/- CacheRecent. -/
import Derived.Test.YtjbpbidlcegopaaPut
set_option linter.all false
namespace Go.Proofs.Ytjbpbidlcegopaa
open Go.Ev
attribute [local congr] bind_first cond_first
abbrev ir (x : Int) : List AV := [.v (.int .i64 x)]
theorem s_New {n : Int} (h : 1 ≤ n ∧ n ≤ 256) : ev 5 [.v (.int .i64 n)] = some [.agg [.v (.int .i64 n), .lst true 9 []], .v (.int .i64 0)] := by
  rw [ev5]
  exact cF (ltI_f h.1) (cF (ltI_f h.2) rfl)
theorem good_new {n : Int} (h : 1 ≤ n ∧ n ≤ 256) : Good n true [] := ⟨h, fun _ => rfl, by simp; omega, fun p hp => (by cases hp), by simp⟩
def wk (l : Int) : Pg := ⟨l, 256, 0, 0, 0, 0, 0, 0, 0⟩
theorem wk_fold : [wk 110, wk 111, wk 112].foldl (putL 2) [] = [wk 112, wk 111] := by rfl
theorem s_awake : ev 8 [] = some [.v (.bool true)] := by
  have hput := s_put (good_new (n := 2) (by decide)) false [wk 110, wk 111, wk 112] (by simp) (by
    intro p hp
    simp only [List.mem_cons, List.not_mem_nil, or_false] at hp
    rcases hp with rfl | rfl | rfl <;> (refine ⟨?_, by decide⟩; simp [Pg.ok, wk, i64ok, u64ok]))
  rw [wk_fold] at hput
  rw [ev8]
  exact bnd (s_New (n := 2) (by decide)) (cT rfl (cT rfl (bnd hput (cT rfl (cT rfl (cT rfl (cT rfl (cT rfl (cT rfl (cT rfl (cT rfl rfl)))))))))))
theorem ir_at {ls done rest : List Int} {x : Int} (h : ls = done ++ x :: rest) : lget (ls.map ir) (Int.toNat ((done.length : Nat) : Int)) = ir x := by
  rw [Int.toNat_natCast, lget_map _ _ _ (by rw [h]; simp)]
  subst h
  simp
theorem ir_len {ls done rest : List Int} {x : Int} (h : ls = done ++ x :: rest) : done.length < (ls.map ir).length := by subst h; simp
theorem l_next {n a : Int} (hn : 1 ≤ n ∧ n ≤ 256) (f0 : Bool) (x0 : List (List AV)) (f8 : Bool) (x9 : Int) (b : Bool) (ps : List (List AV)) (ls : List Int) (hls : ls.length ≤ 1000) : ∀ (rest done acc : List Int), ls = done ++ rest → acc.length ≤ 1000 →
    lp 3 1 0 ⟨[(0, .lst f0 1 x0), (5, .v (.int .i64 n)), (6, .ptr 0 0 0), (8, .sl f8 1 0 none), (9, .v (.int .i64 x9)), (10, .v (.int .i64 a)), (14, .sl false 2 0 none), (15, .v (.int .i64 ((done.length : Nat) : Int)))], [⟨1, 26, 2, true, [[.v (.int .i64 n), .lst b 9 ps]]⟩, ⟨1, 3, 1, false, ls.map ir⟩, ⟨1, 3, 1, false, acc.map ir⟩]⟩ =
      some ⟨some 2, ⟨[(0, .lst f0 1 x0), (5, .v (.int .i64 n)), (6, .ptr 0 0 0), (9, .v (.int .i64 x9)), (14, .sl false 1 0 none)], [⟨1, 26, 2, true, [[.v (.int .i64 n), .lst b 9 ps]]⟩, ⟨1, 3, 1, false, (acc ++ (rest.filter fun x => !(x == a)).take (n.toNat - acc.length)).map ir⟩]⟩, []⟩
  | [], done, acc, h, _ => by
    rw [lp3_1]
    refine cF (ltI_f (by rw [List.length_map, h, List.append_nil]; omega)) ?_
    simp only [List.filter_nil, List.take_nil, List.append_nil]
  | x :: rest, done, acc, h, ha => by
    have hl := ir_len h
    have hat : lget (ls.map ir) (0 + Int.toNat ((done.length : Nat) : Int)) = ir x := by rw [Nat.zero_add]; exact ir_at h
    have hw : IntKind.i64.wrap (((done.length : Nat) : Int) + 1) = (((done ++ [x]).length : Nat) : Int) := by rw [w_i64, List.length_append, List.length_singleton]; rw [List.length_map] at hl; omega
    have c2 : (leI 0 ((done.length : Nat) : Int) && ltI ((done.length : Nat) : Int) (((ls.map ir).length - 0 : Nat) : Int)) = true := by rw [leI_t (by omega), ltI_t (by omega)]; rfl
    have c3 : (ltN (0 + Int.toNat ((done.length : Nat) : Int)) (ls.map ir).length && isI .i64 (cellAt (ir x) 0)) = true := by rw [ltN_t (by omega)]; rfl
    have ih := fun acc hacc => l_next (a := a) hn f0 x0 f8 x9 b ps ls hls rest (done ++ [x]) acc (by rw [h]; simp) hacc
    rw [lp3_1, hat, hw]
    refine cT (ltI_t (by omega)) (cT c2 (cT c3 ?_))
    show cond (!(x == a)) _ _ = _
    cases e : (x == a) with
    | true =>
      refine cF rfl ?_
      rw [ih acc ha, List.filter_cons, e]; rfl
    | false =>
      refine cT rfl ?_
      by_cases hlt : acc.length < n.toNat
      · refine cT (ltI_t (by rw [List.length_map]; omega)) (cT c2 (cT c3 (cT (leN_t (by rw [List.length_map]; omega)) ?_)))
        show lp _ 1 0 ⟨_, [_, _, ⟨1, 3, 1, false, acc.map ir ++ [ir x]⟩]⟩ = _
        rw [show acc.map ir ++ [ir x] = (acc ++ [x]).map ir by simp, ih (acc ++ [x]) (by simp; omega), List.filter_cons, e]
        have e1 : n.toNat - acc.length = (n.toNat - (acc ++ [x]).length) + 1 := by simp; omega
        rw [e1]
        simp
      · refine cF (ltI_f (by rw [List.length_map]; omega)) ?_
        rw [ih acc ha, show n.toNat - acc.length = 0 by omega]
        simp
theorem l_cmp (f8 : Bool) (n : Int) (b : Bool) (ps : List Pg) (hlen : ps.length ≤ 1000) : ∀ (rest done : List Pg), ps = done ++ rest →
    lp 3 2 0 ⟨[(6, .ptr 0 0 0), (8, .sl f8 1 0 none), (16, .v (.int .i64 ((done.length : Nat) : Int)))], [⟨1, 26, 2, true, [[.v (.int .i64 n), .lst b 9 (ps.map Pg.row)]]⟩, ⟨1, 3, 1, false, (ps.map Pg.l).map ir⟩]⟩ = some ⟨some 4, ⟨[], []⟩, []⟩
  | [], done, h => by
    rw [lp3_2]
    exact cF (ltI_f (by rw [List.length_map, List.length_map, h, List.append_nil]; omega)) rfl
  | p :: rest, done, h => by
    have hl := len_at h
    have hm : (ps.map Pg.l) = done.map Pg.l ++ p.l :: rest.map Pg.l := by rw [h]; simp
    have hat : lget ((ps.map Pg.l).map ir) (0 + Int.toNat ((done.length : Nat) : Int)) = ir p.l := by rw [Nat.zero_add]; have := ir_at hm; rwa [List.length_map] at this
    have hlm : ((ps.map Pg.l).map ir).length = (ps.map Pg.row).length := by simp
    have hw : IntKind.i64.wrap (((done.length : Nat) : Int) + 1) = (((done ++ [p]).length : Nat) : Int) := by rw [w_i64, List.length_append, List.length_singleton]; rw [List.length_map] at hl; omega
    have ih := l_cmp f8 n b ps hlen rest (done ++ [p]) (by rw [h]; simp)
    rw [lp3_2, row_at h, hat, hw]
    refine cT (ltI_t (by omega)) (cT (by rw [leI_t (by omega), ltI_t (by omega)]; rfl) (cT rfl (cT (by rw [leI_t (by omega), ltI_t (by omega)]; rfl) (cT (by rw [ltN_t (by omega)]; rfl) (cF ?_ ih)))))
    show (!(p.l == p.l)) = false
    rw [beq_self_i]; rfl
theorem u0 : u64ok 0 := ⟨by decide, by decide⟩
theorem mk_ok {l h : Int} (hl : i64ok l) (hh : u64ok h) : Pg.ok ⟨l, h, 0, 0, 0, 0, 0, 0, 0⟩ := ⟨hl, hh, u0, u0, u0, u0, u0, u0, u0⟩
theorem head_ok (k : Nat) (h : k < 60) : u64ok (IntKind.u64.wrap (IntKind.u64.wrap (IntKind.i64.wrap ((k : Int) + 1)) * 256)) ∧ (IntKind.u64.wrap (IntKind.u64.wrap (IntKind.i64.wrap ((k : Int) + 1)) * 256)) % 256 = 0 := by
  have e1 : IntKind.i64.wrap ((k : Int) + 1) = (k : Int) + 1 := by rw [w_i64]; omega
  have e2 : IntKind.u64.wrap ((k : Int) + 1) = (k : Int) + 1 := by rw [w_u64]; omega
  have e3 : IntKind.u64.wrap (((k : Int) + 1) * 256) = ((k : Int) + 1) * 256 := by rw [w_u64]; omega
  rw [e1, e2, e3]
  exact ⟨⟨by omega, by omega⟩, by omega⟩
theorem l_main {n : Int} (hn : 1 ≤ n ∧ n ≤ 256) (f0 : Bool) (xs : List Int) (hx : xs.length ≤ 60) : ∀ (rest done : List Int) (ps : List Pg) (b f8 : Bool), xs = done ++ rest → Good n b ps →
    ∃ (ps' : List Pg) (b' f' : Bool), lp 3 0 0 ⟨[(0, .lst f0 1 (xs.map ir)), (5, .v (.int .i64 n)), (6, .ptr 0 0 0), (8, .sl f8 1 0 none), (9, .v (.int .i64 ((done.length : Nat) : Int)))], [⟨1, 26, 2, true, [[.v (.int .i64 n), .lst b 9 (ps.map Pg.row)]]⟩, ⟨1, 3, 1, false, (ps.map Pg.l).map ir⟩]⟩ =
      some ⟨some 0, ⟨[(6, .ptr 0 0 0), (8, .sl f' 1 0 none)], [⟨1, 26, 2, true, [[.v (.int .i64 n), .lst b' 9 (ps'.map Pg.row)]]⟩, ⟨1, 3, 1, false, (ps'.map Pg.l).map ir⟩]⟩, []⟩ ∧ Good n b' ps'
  | [], done, ps, b, f8, h, g => by
    refine ⟨ps, b, f8, ?_, g⟩
    rw [lp3_0]
    exact cF (ltI_f (by rw [List.length_map, h, List.append_nil]; omega)) rfl
  | x :: rest, done, ps, b, f8, h, g => by
    have hl := ir_len h
    have hpl : ps.length ≤ 256 := by have := g.len; have := g.cap; omega
    have hdl : done.length < 60 := by rw [List.length_map] at hl; omega
    have hw : IntKind.i64.wrap (((done.length : Nat) : Int) + 1) = (((done ++ [x]).length : Nat) : Int) := by rw [w_i64, List.length_append, List.length_singleton]; omega
    have hpk := s_Pick x 20 (by decide) (by decide)
    have hpr := pick_range (n := x) (m := 20) (by decide)
    generalize pick x 20 = q at hpk hpr
    have hline : IntKind.i64.wrap (96 + q) = 96 + q := by rw [w_i64]; omega
    have hrest : xs = (done ++ [x]) ++ rest := by rw [h]; simp
    have next : ∀ (ps2 : List Pg) (b2 : Bool), ps2.map Pg.l = nx n (IntKind.i64.wrap (96 + q)) (ps.map Pg.l) → Good n b2 ps2 →
        ∃ (ps' : List Pg) (b' f' : Bool), ((lp 3 1 0 ⟨[(0, .lst f0 1 (xs.map ir)), (5, .v (.int .i64 n)), (6, .ptr 0 0 0), (8, .sl f8 1 0 none), (9, .v (.int .i64 ((done.length : Nat) : Int))), (10, .v (.int .i64 (IntKind.i64.wrap (96 + q)))), (14, .sl false 2 0 none), (15, .v (.int .i64 0))], [⟨1, 26, 2, true, [[.v (.int .i64 n), .lst b2 9 (ps2.map Pg.row)]]⟩, ⟨1, 3, 1, false, (ps.map Pg.l).map ir⟩, ⟨1, 3, 1, false, [[.v (.int .i64 (IntKind.i64.wrap (96 + q)))]]⟩]⟩) =
          some ⟨some 2, ⟨[(0, .lst f0 1 (xs.map ir)), (5, .v (.int .i64 n)), (6, .ptr 0 0 0), (9, .v (.int .i64 ((done.length : Nat) : Int))), (14, .sl false 1 0 none)], [⟨1, 26, 2, true, [[.v (.int .i64 n), .lst b2 9 (ps2.map Pg.row)]]⟩, ⟨1, 3, 1, false, (ps2.map Pg.l).map ir⟩]⟩, []⟩) ∧
          lp 3 0 0 ⟨[(0, .lst f0 1 (xs.map ir)), (5, .v (.int .i64 n)), (6, .ptr 0 0 0), (8, .sl false 1 0 none), (9, .v (.int .i64 (IntKind.i64.wrap (((done.length : Nat) : Int) + 1))))], [⟨1, 26, 2, true, [[.v (.int .i64 n), .lst b2 9 (ps2.map Pg.row)]]⟩, ⟨1, 3, 1, false, (ps2.map Pg.l).map ir⟩]⟩ =
      some ⟨some 0, ⟨[(6, .ptr 0 0 0), (8, .sl f' 1 0 none)], [⟨1, 26, 2, true, [[.v (.int .i64 n), .lst b' 9 (ps'.map Pg.row)]]⟩, ⟨1, 3, 1, false, (ps'.map Pg.l).map ir⟩]⟩, []⟩ ∧ Good n b' ps' := fun ps2 b2 h2 g2 => by
      obtain ⟨ps', b', f', hlp, hg⟩ := l_main hn f0 xs hx rest (done ++ [x]) ps2 b2 false hrest g2
      refine ⟨ps', b', f', ?_, ?_, hg⟩
      · have hnx := l_next (a := (IntKind.i64.wrap (96 + q))) hn f0 (xs.map ir) f8 ((done.length : Nat) : Int) b2 (ps2.map Pg.row) (ps.map Pg.l) (by rw [List.length_map]; omega) (ps.map Pg.l) [] [(IntKind.i64.wrap (96 + q))] rfl (by simp)
        refine hnx.trans ?_
        have e : [(IntKind.i64.wrap (96 + q))] ++ ((ps.map Pg.l).filter fun x => !(x == (IntKind.i64.wrap (96 + q)))).take (n.toNat - [(IntKind.i64.wrap (96 + q))].length) = ps2.map Pg.l := by
          rw [h2]; unfold nx
          have : n.toNat = (n.toNat - 1) + 1 := by omega
          rw [this]
          simp
        rw [e]
      · rw [hw]; exact hlp
    rw [lp3_0, ir_at h]
    have key : ∀ {A : Option LR} {r : LR} {G : Prop}, A = some r ∧ G → A = some r ∧ G := fun h => h
    cases hm : (Int.tmod ((done.length : Nat) : Int) 3 == 2) with
    | true =>
      cases hi : idx (IntKind.i64.wrap (96 + q)) ps with
      | none =>
        have hget : ev 6 [.agg [.v (.int .i64 n), .lst b 9 (ps.map Pg.row)], .v (.int .i64 (IntKind.i64.wrap (96 + q)))] = some [.agg [.v (.int .i64 n), .lst b 9 (ps.map Pg.row)], .agg pz.row, .v (.bool false)] := by
          have := s_get g (IntKind.i64.wrap (96 + q))
          rw [hi] at this; exact this
        obtain ⟨ps', b', f', hlp, hg⟩ := l_main hn f0 xs hx rest (done ++ [x]) ps b f8 hrest g
        refine ⟨ps', b', f', ?_, hg⟩
        refine cT (ltI_t (by omega)) (cT (by rw [leI_t (by omega), ltI_t (by omega)]; rfl) (cT rfl (bnd hpk (cT rfl (cT rfl ?_)))))
        refine bnd hget (cT rfl (cT rfl (cT rfl (cF rfl (cT rfl ?_)))))
        rw [hw]
        exact hlp
      | some i =>
        have hget : ev 6 [.agg [.v (.int .i64 n), .lst b 9 (ps.map Pg.row)], .v (.int .i64 (IntKind.i64.wrap (96 + q)))] = some [.agg [.v (.int .i64 n), .lst false 9 ((getL ps i).map Pg.row)], .agg (ps.getD i pz).row, .v (.bool true)] := by
          have := s_get g (IntKind.i64.wrap (96 + q))
          rw [hi] at this; exact this
        obtain ⟨g2, h2, h3⟩ := good_get g hi
        obtain ⟨ps', b', f', hx1, hlp, hg⟩ := next (getL ps i) false h2 g2
        refine ⟨ps', b', f', ?_, hg⟩
        refine cT (ltI_t (by omega)) (cT (by rw [leI_t (by omega), ltI_t (by omega)]; rfl) (cT rfl (bnd hpk (cT rfl (cT rfl ?_)))))
        refine bnd hget (cT rfl (cT rfl (cT rfl (cT rfl (cF ?_ (cF rfl (bnd hx1 (cT rfl (cT rfl ?_)))))))))
        · show (!((ps.getD i pz).l == IntKind.i64.wrap (96 + q))) = false
          rw [h3, beq_self_i]; rfl
        · exact hlp
    | false =>
      have hH := head_ok done.length hdl
      have hpo : Pg.ok ⟨(IntKind.i64.wrap (96 + q)), (IntKind.u64.wrap (IntKind.u64.wrap (IntKind.i64.wrap (((done.length : Nat) : Int) + 1)) * 256)), 0, 0, 0, 0, 0, 0, 0⟩ := mk_ok (by rw [hline]; exact ⟨by omega, by omega⟩) hH.1
      have hpc : cachB ⟨(IntKind.i64.wrap (96 + q)), (IntKind.u64.wrap (IntKind.u64.wrap (IntKind.i64.wrap (((done.length : Nat) : Int) + 1)) * 256)), 0, 0, 0, 0, 0, 0, 0⟩ = true := cachB_iff.2 ⟨by show 96 ≤ (IntKind.i64.wrap (96 + q)); rw [hline]; omega, by show (IntKind.i64.wrap (96 + q)) < 256; rw [hline]; omega, hH.2⟩
      have hput : ev 7 [.agg [.v (.int .i64 n), .lst b 9 (ps.map Pg.row)], .lst false 9 [Pg.row ⟨(IntKind.i64.wrap (96 + q)), (IntKind.u64.wrap (IntKind.u64.wrap (IntKind.i64.wrap (((done.length : Nat) : Int) + 1)) * 256)), 0, 0, 0, 0, 0, 0, 0⟩]] = some [.agg [.v (.int .i64 n), .lst false 9 ((putL n ps ⟨(IntKind.i64.wrap (96 + q)), (IntKind.u64.wrap (IntKind.u64.wrap (IntKind.i64.wrap (((done.length : Nat) : Int) + 1)) * 256)), 0, 0, 0, 0, 0, 0, 0⟩).map Pg.row)]] := by
        have := s_put g false [⟨(IntKind.i64.wrap (96 + q)), (IntKind.u64.wrap (IntKind.u64.wrap (IntKind.i64.wrap (((done.length : Nat) : Int) + 1)) * 256)), 0, 0, 0, 0, 0, 0, 0⟩] (by simp) (by intro p hp; rw [List.mem_singleton] at hp; subst hp; exact ⟨hpo, hpc⟩)
        rw [show ∀ x : Pg, (b && [x].isEmpty) = false from fun _ => by simp] at this
        exact this
      have g2 := good_put g _ hpo hpc
      have h2 := lines_put n ps ⟨(IntKind.i64.wrap (96 + q)), (IntKind.u64.wrap (IntKind.u64.wrap (IntKind.i64.wrap (((done.length : Nat) : Int) + 1)) * 256)), 0, 0, 0, 0, 0, 0, 0⟩ g.nd
      obtain ⟨ps', b', f', hx1, hlp, hg⟩ := next _ false h2 g2
      refine ⟨ps', b', f', ?_, hg⟩
      refine cT (ltI_t (by omega)) (cT (by rw [leI_t (by omega), ltI_t (by omega)]; rfl) (cT rfl (bnd hpk (cT rfl (cF rfl ?_)))))
      exact bnd hput (cT rfl (bnd hx1 (cT rfl (cT rfl hlp))))
theorem recent_law (f : Bool) (xs : List Int) (c : Int) : ev 3 [.lst f 1 (xs.map ir), .v (.int .i64 c)] = some [.v (.bool true)] := by
  have hpk := s_Pick c 10 (by decide) (by decide)
  have hpr := pick_range (n := c) (m := 10) (by decide)
  generalize pick c 10 = q at hpk hpr
  have hn : IntKind.i64.wrap (q + 1) = q + 1 := by rw [w_i64]; omega
  rw [ev3]
  refine bnd hpk (cT rfl ?_)
  by_cases hlen : 60 < xs.length
  · exact cT (ltI_t (by rw [List.length_map]; omega)) rfl
  refine cF (ltI_f (by rw [List.length_map]; omega)) ?_
  have hcap : 1 ≤ IntKind.i64.wrap (q + 1) ∧ IntKind.i64.wrap (q + 1) ≤ 256 := by omega
  obtain ⟨ps', b', f', hlp, hg⟩ := l_main hcap f xs (by omega) xs [] [] true true rfl (good_new hcap)
  have hpl : ps'.length ≤ 256 := by have := hg.len; have := hg.cap; omega
  refine bnd (s_New hcap) (cT rfl (cT rfl (cF rfl (bnd hlp (cT rfl (cT rfl (cF ?_ (bnd (l_cmp f' (IntKind.i64.wrap (q + 1)) b' ps' (by omega) ps' [] rfl) (cT rfl (cT rfl (bnd s_awake (cT rfl rfl))))))))))))
  show (!((((ps'.map Pg.row).length : Nat) : Int) == ((((ps'.map Pg.l).map ir).length - 0 : Nat) : Int))) = false
  rw [List.length_map, List.length_map, List.length_map, Nat.sub_zero, beq_self_i]; rfl
theorem recent_all {N : Nat} (l : List AV) (h : TypA Try.prog N Try.f3.params.toList l) : ∃ n, evF Try.prog cfg n 3 l = some [.v (.bool true)] := by
  rw [show Try.f3.params.toList = [22, 3] by kernel_rfl] at h
  obtain ⟨a0, r, rfl, t0, h⟩ := h
  obtain ⟨a1, r, rfl, t1, h⟩ := h
  obtain rfl : r = [] := h
  obtain ⟨f, x0, rfl, _, _, hx⟩ := openV22 t0
  obtain ⟨x, rfl, _⟩ := openV3 t1
  obtain ⟨cl, rfl, _⟩ := rows_of ir (fun _ => True) x0 fun y hy => by
    obtain ⟨x, rfl, _⟩ := openC3 (n := 10) (hx y hy)
    exact ⟨x, rfl, trivial⟩
  exact evF_of_evL (recent_law f cl x)
end Go.Proofs.Ytjbpbidlcegopaa
