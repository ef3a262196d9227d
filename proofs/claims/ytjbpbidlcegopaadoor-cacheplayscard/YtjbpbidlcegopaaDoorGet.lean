/- The cache: Get, Drop and Hints of the program. -/
import Derived.Test.YtjbpbidlcegopaaDoorPut
import Derived.Test.YtjbpbidlcegopaaDoorRfc
set_option linter.all false
namespace Go.Proofs.YtjbpbidlcegopaaDoor
open Go.Ev
namespace H
abbrev ir (x : Int) : List AV := [.v (.int .i64 x)]
theorem ev30c (a0 a1 a2 a3 a4 a5 a6 a7 a8 : Int) (f : Bool) (ls : List (List AV)) : ev 30 [.agg [.v (.int .i64 a0), .v (.int .u64 a1), .v (.int .u64 a2), .v (.int .u64 a3), .v (.int .u64 a4), .v (.int .u64 a5), .v (.int .u64 a6), .v (.int .u64 a7), .v (.int .u64 a8)], .ep [.lst f 1 ls] 0] =
    (ev 31 [.lst f 1 ls, .v (.int .i64 a0)]).bind fun r0 => cond (isB (cellAt r0 0)) (some [.v (.bool (avBool (cellAt r0 0)))]) none := (ev_eq _ _).trans (by kernel_rfl)
theorem l45 (f : Bool) (x : Int) (ls : List Int) (hlen : ls.length ≤ 1000) : ∀ (rest done : List Int), ls = done ++ rest → ∃ i : Int,
    lp 45 0 0 ⟨[(0, .lst f 1 (ls.map ir)), (1, .v (.int .i64 x)), (7, .v (.int .i64 (((ls.map ir).length : Nat) : Int))), (8, .v (.int .i64 ((done.length : Nat) : Int)))], []⟩ = some (bif decide (x ∈ rest) then ⟨none, ⟨[], []⟩, [.v (.int .i64 i)]⟩ else ⟨some 0, ⟨[], []⟩, []⟩) ∧ 0 ≤ i
  | [], done, h => by
    refine ⟨0, ?_, Int.le_refl 0⟩
    rw [lp45_0]
    exact cF (ltI_f (by rw [List.length_map, h, List.append_nil]; omega)) (by simp)
  | y :: rest, done, h => by
    have hl := len_at (f := ir) h
    obtain ⟨i, ih, hi⟩ := l45 f x ls hlen rest (done ++ [y]) (by rw [h]; simp)
    cases e : (x == y) with
    | true =>
      refine ⟨((done.length : Nat) : Int), ?_, by omega⟩
      rw [lp45_0, row_at h]
      refine cT (ltI_t (by omega)) (cT (by rw [leI_t (by omega), ltI_t (by omega)]; rfl) (cT rfl (cT e ?_)))
      rw [show decide (x ∈ y :: rest) = true from decide_eq_true (by rw [eq_of_beq e]; simp)]; rfl
    | false =>
      refine ⟨i, ?_, hi⟩
      rw [lp45_0, row_at h, next_at (p := y) (by rw [List.length_map] at hl; omega)]
      refine cT (ltI_t (by omega)) (cT (by rw [leI_t (by omega), ltI_t (by omega)]; rfl) (cT rfl (cF e ?_)))
      have hne : x ≠ y := fun h => by rw [h, beq_self_eq_true] at e; cases e
      rw [show decide (x ∈ y :: rest) = decide (x ∈ rest) from decide_eq_decide.2 (by simp [hne])]
      exact ih
theorem s31 (f : Bool) (x : Int) (ls : List Int) (hlen : ls.length ≤ 1000) : ev 31 [.lst f 1 (ls.map ir), .v (.int .i64 x)] = some [.v (.bool (decide (x ∈ ls)))] := by
  obtain ⟨i, h, hi⟩ := l45 f x ls hlen ls [] rfl
  rw [ev31, ev45]
  cases hd : decide (x ∈ ls) with
  | true =>
    rw [hd] at h
    refine bnd (bnd h (cF rfl (cT rfl rfl))) (cT rfl ?_)
    show some [AV.v (Value.bool (leI 0 i))] = _
    rw [leI_t hi]
  | false =>
    rw [hd] at h
    exact bnd (bnd h (cT rfl (cT rfl rfl))) (cT rfl rfl)
theorem s30 (f : Bool) (p : Pg) (ls : List Int) (hlen : ls.length ≤ 1000) : ev 30 [.agg p.row, .ep [.lst f 1 (ls.map ir)] 0] = some [.v (.bool (decide (p.l ∈ ls)))] := by
  show ev 30 [.agg (pgl p.l p.h p.d0 p.d1 p.d2 p.d3 p.d4 p.d5 p.d6), _] = _
  rw [ev30c]
  exact bnd (s31 f p.l ls hlen) (cT rfl rfl)
end H
abbrev ir (x : Int) : List AV := [.v (.int .i64 x)]
theorem ev29 (l : List AV) : ev 29 l = dfG (evL Tryd.prog H.cfg) l := ev_eq 29 l
theorem keep_filter (k : FuncId) (caps : List AV) (d : Pg → Bool) : ∀ (ps : List Pg), (∀ p ∈ ps, H.ev k (.agg p.row :: caps) = some [.v (.bool (d p))]) → keepM (evL Tryd.prog H.cfg) k caps (ps.map Pg.row) = some ((ps.filter fun p => !(d p)).map Pg.row)
  | [], _ => rfl
  | p :: ps, h => by
    have h1 : evL Tryd.prog H.cfg k (.agg p.row :: caps) = some [.v (.bool (d p))] := h p (List.mem_cons_self ..)
    have h2 := keep_filter k caps d ps fun q hq => h q (List.mem_cons_of_mem _ hq)
    rw [List.map_cons]
    simp only [keepM, h1, h2]
    cases hd : d p with
    | true => rw [List.filter_cons, hd]; rfl
    | false => rw [List.filter_cons, hd]; rfl
theorem s29 (k : FuncId) (caps : List AV) (hk : okCl k caps = true) (d : Pg → Bool) (b : Bool) (ps : List Pg) (hl : ps.length ≤ 1000) (h : ∀ p ∈ ps, H.ev k (.agg p.row :: caps) = some [.v (.bool (d p))]) :
    ev 29 [.ow b 42 9 (ps.map Pg.row), .clo k [] caps] = some [.ow (b && ((ps.filter fun p => !(d p)).map Pg.row).isEmpty) 42 9 ((ps.filter fun p => !(d p)).map Pg.row)] := by
  rw [ev29]
  show cond (okCl k caps && ((ps.map Pg.row).all isPg && decide ((ps.map Pg.row).length ≤ 1000000))) _ none = _
  refine cT ?_ ?_
  · rw [hk, Bool.true_and, Bool.and_eq_true]
    refine ⟨List.all_eq_true.2 fun x hx => ?_, decide_eq_true (by rw [List.length_map]; omega)⟩
    obtain ⟨p, _, rfl⟩ := List.mem_map.1 hx
    rfl
  · rw [keep_filter k caps d ps h]; rfl
def dropO (n : Int) (ps : List Pg) (ls : List Int) : List Pg := bif validB n ps then ps.filter fun p => !(decide (p.l ∈ ls)) else ps
def hintO (n : Int) (ps : List Pg) : List Pg := bif validB n ps then ps.filter fun p => H.hintP p else []
theorem rowV_all (ps : List Pg) : (List.all (ps.map Pg.row) rowV) = true := List.all_eq_true.2 fun x hx => by
  obtain ⟨p, _, rfl⟩ := List.mem_map.1 hx
  rfl
theorem s_drop (n : Int) (b : Bool) (ps : List Pg) (hp : ∀ p ∈ ps, p.ok) (hb : b = true → ps = []) (hl : ps.length ≤ 256) (f : Bool) (ls : List Int) (hls : ls.length ≤ 1000) :
    ∃ b' : Bool, (b' = true → dropO n ps ls = []) ∧ ev 13 [.agg [.v (.int .i64 n), .lst b 9 (ps.map Pg.row)], .lst f 1 (ls.map ir)] = some [.agg [.v (.int .i64 n), .lst b' 9 ((dropO n ps ls).map Pg.row)]] := by
  have hv := s_valid n b ps hp
  have hcl := s_clone b ps hb (by omega)
  unfold dropO
  cases h : validB n ps with
  | false =>
    rw [h] at hv
    refine ⟨b, hb, ?_⟩
    rw [ev13]
    exact bnd hcl (cT (isOw_ok _ _ _ _) (bnd hv (cT rfl (cT rfl rfl))))
  | true =>
    rw [h] at hv
    have h29 := s29 30 [.ep [.lst f 1 (ls.map H.ir)] 0] rfl (fun p => decide (p.l ∈ ls)) b ps (by omega) fun p _ => H.s30 f p ls hls
    refine ⟨b && ((ps.filter fun p => !(decide (p.l ∈ ls))).map Pg.row).isEmpty, fun e => ?_, ?_⟩
    rotate_left
    · rw [ev13]
      exact bnd hcl (cT (isOw_ok _ _ _ _) (bnd hv (cT rfl (cF rfl (bnd h29 (cT (isOw_ok _ _ _ _) (cT (by show (false || (List.all ((ps.filter fun p => !(decide (p.l ∈ ls))).map Pg.row) rowV && true)) = true; rw [rowV_all]; rfl) rfl)))))))
    · rw [Bool.and_eq_true] at e
      have := hb e.1
      subst this
      rfl
theorem s_hints (n : Int) (b : Bool) (ps : List Pg) (hp : ∀ p ∈ ps, p.ok) (hb : b = true → ps = []) (hl : ps.length ≤ 256) : ∃ b' : Bool, ev 18 [.agg [.v (.int .i64 n), .lst b 9 (ps.map Pg.row)]] = some [.ow b' 42 9 ((hintO n ps).map Pg.row)] := by
  have hv := s_valid n b ps hp
  have hcl := s_clone b ps hb (by omega)
  unfold hintO
  cases h : validB n ps with
  | false =>
    rw [h] at hv
    refine ⟨true, ?_⟩
    rw [ev18]
    exact bnd hv (cT rfl (cT rfl rfl))
  | true =>
    rw [h] at hv
    have h29 := s29 34 [] rfl (fun p => !(H.hintP p)) b ps (by omega) fun p h => H.s34 p (hp p h)
    simp only [Bool.not_not] at h29
    refine ⟨b && ((ps.filter fun p => H.hintP p).map Pg.row).isEmpty, ?_⟩
    · rw [ev18]
      exact bnd hv (cT rfl (cF rfl (bnd hcl (cT (isOw_ok _ _ _ _) (bnd h29 (cT (isOw_ok _ _ _ _) rfl))))))
def getO (n : Int) (ps : List Pg) (l : Int) : List Pg × Pg × Bool := bif validB n ps then (match idx l ps with | none => (ps, pz, false) | some i => (getL ps i, ps.getD i pz, true)) else (ps, pz, false)
theorem s_get (n : Int) (b : Bool) (ps : List Pg) (hp : ∀ p ∈ ps, p.ok) (hb : b = true → ps = []) (hl : ps.length ≤ 256) (l : Int) :
    ∃ b' : Bool, (b' = true → (getO n ps l).1 = []) ∧ ev 10 [.agg [.v (.int .i64 n), .lst b 9 (ps.map Pg.row)], .v (.int .i64 l)] = some [.agg [.v (.int .i64 n), .lst b' 9 ((getO n ps l).1.map Pg.row)], .agg (getO n ps l).2.1.row, .v (.bool (getO n ps l).2.2)] := by
  have hv := s_valid n b ps hp
  have hcl := s_clone b ps hb (by omega)
  have hs := s_idx n b l ps (by omega)
  unfold getO
  cases h : validB n ps with
  | false =>
    rw [h] at hv
    refine ⟨b, hb, ?_⟩
    rw [ev10]
    exact bnd hcl (cT (isOw_ok _ _ _ _) (bnd hv (cT rfl (cF rfl rfl))))
  | true =>
  rw [h] at hv
  cases hi : idx l ps with
  | none =>
    rw [hi] at hs
    refine ⟨b, hb, ?_⟩
    rw [ev10]
    exact bnd hcl (cT (isOw_ok _ _ _ _) (bnd hv (cT rfl (cT rfl (bnd hs (cT rfl (cT rfl rfl)))))))
  | some i =>
    rw [hi] at hs
    obtain ⟨hil, _⟩ := idx_lt hi
    have hrow := row_i hil
    have hdl := del_len hil
    have hdel := g_del ps i hil (by omega)
    have hins := g_ins ((del ps i).map Pg.row) (c9 (lget (ps.map Pg.row) (0 + Int.toNat (i : Int))))
    refine ⟨false, fun e => (by cases e), ?_⟩
    rw [ev10]
    refine bnd hcl (cT (isOw_ok _ _ _ _) (bnd hv (cT rfl (cT rfl (bnd hs (cT rfl (cF (by show ltI (i : Int) 0 = false; exact ltI_f (by omega)) (cT ?_ (cT ?_ (bnd hdel (cT (leN_t (by show (ps.map Pg.row).length ≤ _; rw [List.length_map]; omega)) (bnd hins (cT (leN_t (by rw [List.length_map]; omega)) ?_)))))))))))))
    · show (leI 0 (i : Int) && ltI (i : Int) (((ps.map Pg.row).length - 0 : Nat) : Int)) = true
      rw [leI_t (by omega), ltI_t (by rw [List.length_map]; omega)]; rfl
    · show (ltN (0 + Int.toNat (i : Int)) (ps.map Pg.row).length && (isI .i64 (cellAt (lget (ps.map Pg.row) (0 + Int.toNat (i : Int))) 0) && (isI .u64 (cellAt (lget (ps.map Pg.row) (0 + Int.toNat (i : Int))) 1) && (isI .u64 (cellAt (lget (ps.map Pg.row) (0 + Int.toNat (i : Int))) 2) && (isI .u64 (cellAt (lget (ps.map Pg.row) (0 + Int.toNat (i : Int))) 3) && (isI .u64 (cellAt (lget (ps.map Pg.row) (0 + Int.toNat (i : Int))) 4) && (isI .u64 (cellAt (lget (ps.map Pg.row) (0 + Int.toNat (i : Int))) 5) && (isI .u64 (cellAt (lget (ps.map Pg.row) (0 + Int.toNat (i : Int))) 6) && (isI .u64 (cellAt (lget (ps.map Pg.row) (0 + Int.toNat (i : Int))) 7) && isI .u64 (cellAt (lget (ps.map Pg.row) (0 + Int.toNat (i : Int))) 8)))))))))) = true
      rw [hrow, ltN_t (by rw [List.length_map]; omega)]; rfl
    show some [AV.agg [_, .lst ((b && List.isEmpty ((del ps i).map Pg.row)) && false) 9 (c9 (lget (ps.map Pg.row) (0 + Int.toNat (i : Int))) :: (del ps i).map Pg.row)], .agg (c9 (lget (ps.map Pg.row) (0 + Int.toNat (i : Int)))), _] = _
    rw [hrow, c9_row, Bool.and_false]
    rfl
end Go.Proofs.YtjbpbidlcegopaaDoor
