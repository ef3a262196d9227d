/- The cache: what a step hands on; the pages of a step; the lines of a step. -/
import Derived.Test.YtjbpbidlcegopaaDoorRdd
set_option linter.all false
namespace Go.Proofs.YtjbpbidlcegopaaDoor
open Go.Ev
def Keep (ps : List Pg) : Prop := (∀ p ∈ ps, p.ok) ∧ ps.length ≤ 256
theorem keep_nil : Keep [] := ⟨fun _ h => (by cases h), by simp⟩
theorem put_keep {n : Int} {ps qs : List Pg} (h : Keep ps) (hq : ∀ q ∈ qs, q.ok) : Keep (putO n ps qs) := by
  unfold putO
  cases hv : validB n ps with
  | false => exact h
  | true =>
    obtain ⟨c1, c2, c3⟩ := valid_cap hv
    exact fold_ok c2 qs ps hq h.1 h.2
theorem drop_keep {n : Int} {ps : List Pg} {ls : List Int} (h : Keep ps) : Keep (dropO n ps ls) := by
  unfold dropO
  cases hv : validB n ps with
  | false => exact h
  | true => exact ⟨fun q hq => h.1 q (List.mem_filter.1 hq).1, Nat.le_trans (List.length_filter_le _ _) h.2⟩
theorem get_keep {n : Int} {ps : List Pg} {l : Int} (h : Keep ps) : Keep (getO n ps l).1 := by
  unfold getO
  cases hv : validB n ps with
  | false => exact h
  | true =>
  cases hi : idx l ps with
  | none => exact h
  | some i =>
    obtain ⟨hil, _⟩ := idx_lt hi
    have hd := del_len hil
    refine ⟨fun q hq => ?_, ?_⟩
    · rcases List.mem_cons.1 (show q ∈ ps.getD i pz :: del ps i from hq) with rfl | hq
      · rw [show ps.getD i pz = ps[i] by simp [hil]]; exact h.1 _ (List.getElem_mem hil)
      · exact h.1 q (del_mem hq)
    · show (ps.getD i pz :: del ps i).length ≤ 256
      have := h.2
      rw [List.length_cons]; omega
theorem hint_len {n : Int} {ps : List Pg} (h : Keep ps) : (hintO n ps).length ≤ 1000 := by
  have h2 := h.2
  unfold hintO
  cases hv : validB n ps with
  | false => exact Nat.zero_le _
  | true =>
    have h1 := List.length_filter_le (fun p => H.hintP p) ps
    show (ps.filter fun p => H.hintP p).length ≤ 1000
    omega
abbrev uw (x : Int) : List AV := [.v (.int .u64 x)]
structure Opr where
  k : Int
  ln : Bool
  ls : List Int
  hn : Bool
  hs : List Int
def Opr.row (o : Opr) : List AV := [.v (.int .i64 o.k), .lst o.ln 1 (o.ls.map ir), .lst o.hn 1 (o.hs.map uw)]
def Opr.ok (o : Opr) : Prop := (∀ x ∈ o.hs, u64ok x)
theorem l9 (i k : Int) (a c : Bool) (ls hs : List Int) (hlen : ls.length ≤ 12) (hh : ∀ x ∈ hs, u64ok x) : ∀ (rest done : List Int) (acc : List Pg) (f : Bool), ls = done ++ rest → (∀ q ∈ acc, q.ok) → acc.length = done.length → (f = true → acc = []) → ∃ (f' : Bool) (qs : List Pg), (f' = true → qs = []) ∧ (∀ q ∈ qs, q.ok) ∧ qs.length = ls.length ∧
    lp 9 0 0 ⟨[(1, .v (.int .i64 i)), (2, .ptr 0 0 0), (5, .sl f 1 0 none), (6, .v (.int .i64 ((done.length : Nat) : Int)))], [⟨1, 35, 3, true, [[.v (.int .i64 k), .lst a 1 (ls.map ir), .lst c 1 (hs.map uw)]]⟩, ⟨1, 42, 9, false, acc.map Pg.row⟩]⟩ =
      some ⟨some 0, ⟨[(5, .sl f' 0 0 none)], [⟨1, 42, 9, false, qs.map Pg.row⟩]⟩, []⟩
  | [], done, acc, f, h, ho, hl, hf => by
    refine ⟨f, acc, hf, ho, by rw [hl, h, List.append_nil], ?_⟩
    rw [lp9_0]
    exact cF (ltI_f (by rw [List.length_map, h, List.append_nil]; omega)) rfl
  | x :: rest, done, acc, f, h, ho, hl, hf => by
    have hlt := H.len_at (f := ir) h
    have hd : done.length < 12 := by rw [List.length_map] at hlt; omega
    have hpk := pick_range (n := x) (m := 14) (by decide)
    have hw : IntKind.i64.wrap (95 + pick x 14) = 95 + pick x 14 := by rw [w_i64]; omega
    have go : ∀ q : Pg, q.ok → ∃ (f' : Bool) (qs : List Pg), (f' = true → qs = []) ∧ (∀ q ∈ qs, q.ok) ∧ qs.length = ls.length ∧ 
      lp 9 0 0 ⟨[(1, .v (.int .i64 i)), (2, .ptr 0 0 0), (5, .sl false 1 0 none), (6, .v (.int .i64 (((done ++ [x]).length : Nat) : Int)))], [⟨1, 35, 3, true, [[.v (.int .i64 k), .lst a 1 (ls.map ir), .lst c 1 (hs.map uw)]]⟩, ⟨1, 42, 9, false, acc.map Pg.row ++ [q.row]⟩]⟩ =
      some ⟨some 0, ⟨[(5, .sl f' 0 0 none)], [⟨1, 42, 9, false, qs.map Pg.row⟩]⟩, []⟩ := fun q hq => by
      have := l9 i k a c ls hs hlen hh rest (done ++ [x]) (acc ++ [q]) false (by rw [h]; simp) (fun y hy => by
        rcases List.mem_append.1 hy with hy | hy
        · exact ho y hy
        · rw [List.mem_singleton.1 hy]; exact hq) (by simp [hl]) (fun e => by cases e)
      rw [List.map_append] at this
      exact this
    have hz : u64ok 0 := ⟨by decide, by decide⟩
    have hz2 : u64ok 256 := ⟨by decide, by decide⟩
    have hb : (leI 0 ((done.length : Nat) : Int) && ltI ((done.length : Nat) : Int) (((ls.map ir).length : Nat) : Int)) = true := by rw [leI_t (by omega), ltI_t (by omega)]; rfl
    have hc : leN ((List.length (acc.map Pg.row) + 1) * 72) 140737488355328 = true := leN_t (by rw [List.length_map]; omega)
    have hr : i64ok (95 + pick x 14) := ⟨by omega, by omega⟩
    have hw64 : ∀ z : Int, u64ok (IntKind.u64.wrap z) := fun z => by unfold u64ok; rw [w_u64]; omega
    by_cases hi : done.length < hs.length
    · obtain ⟨f', qs, h1, h2, h3, h4⟩ := go ⟨95 + pick x 14, IntKind.u64.wrap (IntKind.u64.wrap (Int.tmod hs[done.length] 4 * 256) + IntKind.u64.wrap (Int.tdiv (Int.tmod (IntKind.u64.wrap (Int.tdiv hs[done.length] 4)) 9) 8)), IntKind.u64.wrap (IntKind.i64.wrap (IntKind.i64.wrap (i * 100) + ((done.length : Nat) : Int))), 0, 0, 0, 0, 0, 0⟩ ⟨hr, hw64 _, hw64 _, hz, hz, hz, hz, hz, hz⟩
      refine ⟨f', qs, h1, h2, h3, ?_⟩
      have hg : lget (hs.map uw) (Int.toNat ((done.length : Nat) : Int)) = uw hs[done.length] := by rw [Int.toNat_natCast, lget_map _ _ _ hi]
      have hb2 : (leI 0 ((done.length : Nat) : Int) && ltI ((done.length : Nat) : Int) (((hs.map uw).length : Nat) : Int)) = true := by rw [leI_t (by omega), ltI_t (by rw [List.length_map]; omega)]; rfl
      rw [lp9_0, H.row_at h, H.next_at (p := x) (by omega), hg]
      refine cT (ltI_t (by omega)) (cT hb (cT rfl (bnd (s_Pick x 14 (by decide) (by decide)) (cT rfl (cT (ltI_t (by rw [List.length_map]; omega)) (cT hb2 (cT rfl (cT hb2 (cT rfl (cT hc ?_))))))))))
      show lp 9 0 0 ⟨_, [_, ⟨1, 42, 9, false, acc.map Pg.row ++ [[.v (.int .i64 (IntKind.i64.wrap (95 + pick x 14))), _, _, _, _, _, _, _, _]]⟩]⟩ = _
      rw [hw]
      exact h4
    · obtain ⟨f', qs, h1, h2, h3, h4⟩ := go ⟨95 + pick x 14, 256, IntKind.u64.wrap (IntKind.i64.wrap (IntKind.i64.wrap (i * 100) + ((done.length : Nat) : Int))), 0, 0, 0, 0, 0, 0⟩ ⟨hr, hz2, hw64 _, hz, hz, hz, hz, hz, hz⟩
      refine ⟨f', qs, h1, h2, h3, ?_⟩
      rw [lp9_0, H.row_at h, H.next_at (p := x) (by omega)]
      refine cT (ltI_t (by omega)) (cT hb (cT rfl (bnd (s_Pick x 14 (by decide) (by decide)) (cT rfl (cF (ltI_f (by rw [List.length_map]; omega)) (cT hc ?_))))))
      show lp 9 0 0 ⟨_, [_, ⟨1, 42, 9, false, acc.map Pg.row ++ [[.v (.int .i64 (IntKind.i64.wrap (95 + pick x 14))), _, _, _, _, _, _, _, _]]⟩]⟩ = _
      rw [hw]
      exact h4
theorem s_pages (o : Opr) (ho : o.ok) (hlen : o.ls.length ≤ 12) (i : Int) : ∃ (f : Bool) (qs : List Pg), (∀ q ∈ qs, q.ok) ∧ qs.length ≤ 12 ∧ ev 9 [.agg [.v (.int .i64 o.k), .lst o.ln 1 (o.ls.map ir), .lst o.hn 1 (o.hs.map uw)], .v (.int .i64 i)] = some [.ow f 42 9 (qs.map Pg.row)] := by
  obtain ⟨f', qs, h1, h2, h3, h4⟩ := l9 i o.k o.ln o.hn o.ls o.hs hlen ho o.ls [] [] true rfl (fun _ h => by cases h) rfl (fun _ => rfl)
  refine ⟨f', qs, h2, by omega, ?_⟩
  rw [ev9]
  exact bnd h4 (cT rfl (cT rfl rfl))
theorem l31 (e : Bool) (ops : List (List AV)) (i : Int) (g : Bool) (n : Int) (b c : Bool) (rs : List (List AV)) (rs' : List (List AV)) (qs : List Pg) (hq : qs.length ≤ 12) : ∀ (rest done : List Pg) (acc : List Int) (f : Bool), qs = done ++ rest → acc.length = done.length → (f = true → acc = []) → ∃ (f' : Bool) (ls : List Int), (f' = true → ls = []) ∧ ls.length = qs.length ∧
    lp 3 1 0 ⟨[(1, .lst e 3 ops), (11, .ptr 0 0 0), (12, .ptr 1 0 0), (13, .v (.int .i64 i)), (14, .sl g 2 0 none), (22, .sl f 3 0 none), (23, .v (.int .i64 ((done.length : Nat) : Int)))], [⟨1, 24, 2, true, [[.v (.int .i64 n), .lst b 9 rs]]⟩, ⟨1, 30, 2, true, [[.v (.int .i64 n), .lst c 9 rs']]⟩, ⟨1, 42, 9, false, qs.map Pg.row⟩, ⟨1, 3, 1, false, acc.map ir⟩]⟩ =
      some ⟨some 3, ⟨[(1, .lst e 3 ops), (11, .ptr 0 0 0), (12, .ptr 1 0 0), (13, .v (.int .i64 i)), (22, .sl f' 2 0 none)], [⟨1, 24, 2, true, [[.v (.int .i64 n), .lst b 9 rs]]⟩, ⟨1, 30, 2, true, [[.v (.int .i64 n), .lst c 9 rs']]⟩, ⟨1, 3, 1, false, ls.map ir⟩]⟩, []⟩
  | [], done, acc, f, h, hl, hf => by
    refine ⟨f, acc, hf, by rw [hl, h, List.append_nil], ?_⟩
    rw [lp3_1]
    exact cF (ltI_f (by rw [List.length_map, h, List.append_nil]; omega)) rfl
  | p :: rest, done, acc, f, h, hl, hf => by
    have hlt := len_at h
    have hd : done.length < 12 := by rw [List.length_map] at hlt; omega
    obtain ⟨f', ls, h1, h2, h3⟩ := l31 e ops i g n b c rs rs' qs hq rest (done ++ [p]) (acc ++ [p.l]) false (by rw [h]; simp) (by simp [hl]) (fun e => by cases e)
    refine ⟨f', ls, h1, h2, ?_⟩
    rw [List.map_append] at h3
    have hb : (leI 0 ((done.length : Nat) : Int) && ltI ((done.length : Nat) : Int) (((List.length (qs.map Pg.row) - 0 : Nat) : Int))) = true := by rw [leI_t (by omega), ltI_t (by omega)]; rfl
    rw [lp3_1, Nat.zero_add, row_at h, H.next_at (p := p) (by omega)]
    refine cT (ltI_t (by omega)) (cT hb (cT (by rw [ltN_t (by omega)]; rfl) (cT (leN_t (by rw [List.length_map]; omega)) h3)))
def wk (l : Int) : Pg := ⟨l, 256, 0, 0, 0, 0, 0, 0, 0⟩
theorem wk_put : putO 2 [] [wk 110, wk 111, wk 112] = [wk 112, wk 111] := by kernel_rfl
theorem s_New {n : Int} (h : 1 ≤ n ∧ n ≤ 256) : ev 4 [.v (.int .i64 n)] = some [.agg [.v (.int .i64 n), .lst true 9 []], .v (.int .i64 0)] := by
  rw [ev4]
  exact cF (ltI_f (by omega)) (cF (ltI_f (by omega)) rfl)
theorem s_New1 {n : Int} (h : ¬ (1 ≤ n ∧ n ≤ 256)) : ev 4 [.v (.int .i64 n)] = some [.agg [.v (.int .i64 0), .lst true 9 []], .v (.int .i64 1)] := by
  rw [ev4]
  by_cases h1 : n < 1
  · exact cT (ltI_t h1) rfl
  · exact cF (ltI_f (by omega)) (cT (ltI_t (by omega)) rfl)
theorem s_awake : ev 20 [] = some [.v (.bool true)] := by
  obtain ⟨b', _, hput⟩ := s_put 2 true [] (fun _ h => by cases h) (fun _ => rfl) (by simp) false [wk 110, wk 111, wk 112] (by simp) (by
    intro p hp
    simp only [List.mem_cons, List.not_mem_nil, or_false] at hp
    rcases hp with rfl | rfl | rfl <;> simp [Pg.ok, wk, i64ok, u64ok])
  rw [wk_put] at hput
  rw [ev20]
  exact bnd (s_New (n := 2) (by decide)) (cT rfl (cT rfl (bnd hput (cT rfl (cT rfl (cT rfl (cT rfl (cT rfl (cT rfl (cT rfl (cT rfl rfl)))))))))))
end Go.Proofs.YtjbpbidlcegopaaDoor
