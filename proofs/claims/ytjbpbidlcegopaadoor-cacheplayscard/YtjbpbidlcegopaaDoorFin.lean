/- CachePlays: every call answers true. -/
import Derived.Test.YtjbpbidlcegopaaDoorFib
import Derived.Test.YtjbpbidlcegopaaDoorTyb
set_option linter.all false
namespace Go.Proofs.YtjbpbidlcegopaaDoor
open Go.Ev
set_option maxRecDepth 100000
theorem fin3 {n : Int} {T : St} (hT : ∀ (b c : Bool) (ps : List Pg), likeStG T ⟨[(11, .ptr 0 0 0), (12, .ptr 1 0 0)], S3 n b c ps⟩ = true) {r : LR} (h : Out3 n r) :
    cond (isEx 0 r) (cond (likeStG T r.st)
      ((ev 20 []).bind fun r33 => cond (isB (cellAt r33 0)) (cond (avBool (cellAt r33 0))
        ((ev 7 [(.agg [(.v (.int .i64 (avInt (cellAt (lget (blAt r.st.bl 0).xs 0) 0)))), (.lst (avNil (cellAt (lget (blAt r.st.bl 0).xs 0) 1)) 9 (avXs (cellAt (lget (blAt r.st.bl 0).xs 0) 1)))])]).bind fun r35 =>
          cond (isB (cellAt r35 0))
            ((ev 8 [(.agg [(.v (.int .i64 (avInt (cellAt (lget (blAt r.st.bl 1).xs 0) 0)))), (.lst (avNil (cellAt (lget (blAt r.st.bl 1).xs 0) 1)) 9 (avXs (cellAt (lget (blAt r.st.bl 1).xs 0) 1)))])]).bind fun r37 =>
              cond (isB (cellAt r37 0)) (some [(.v (.bool ((avBool (cellAt r35 0)) == (avBool (cellAt r37 0)))))]) (none)) (none))
        (some [(.v (.bool false))])) (none)) (none)) (cond (isRt r) (some r.outs) (none)) = some [.v (.bool true)] := by
  rcases h with rfl | ⟨ps, b, c, hk, rfl⟩
  · rfl
  · refine cT rfl (cT (hT b c ps) (bnd s_awake (cT rfl (cT rfl (bnd (s_valid n b ps hk.1) (cT rfl (bnd (s_validc n c ps hk.1) (cT rfl ?_))))))))
    show some [AV.v (.bool (validB n ps == validB n ps))] = _
    cases validB n ps <;> rfl
theorem plays (n cap : Int) (b raw : Bool) (e : Bool) (ps : List Pg) (ops : List Opr) (hp : ∀ p ∈ ps, p.ok) (hb : b = true → ps = []) (ho : ∀ o ∈ ops, o.ok) :
    ev 3 [.agg [.v (.int .i64 n), .lst b 9 (ps.map Pg.row)], .lst e 3 (ops.map Opr.row), .v (.int .i64 cap), .v (.bool raw)] = some [.v (.bool true)] := by
  rw [ev3]
  by_cases h40 : ops.length ≤ 40
  rotate_left
  · exact cT (ltI_t (by rw [List.length_map]; omega)) rfl
  by_cases h20 : ps.length ≤ 20
  rotate_left
  · exact cF (ltI_f (by rw [List.length_map]; omega)) (cT (ltI_t (by rw [List.length_map]; omega)) rfl)
  refine cF (ltI_f (by rw [List.length_map]; omega)) (cF (ltI_f (by rw [List.length_map]; omega)) ?_)
  obtain ⟨r1, hr1, ho1⟩ := l3 n e ops h40 ho ops [] ps b b rfl ⟨hp, by omega⟩ hb hb
  obtain ⟨r2, hr2, ho2⟩ := l3 (IntKind.i64.wrap (pick cap 6 + 1)) e ops h40 ho ops [] [] true true rfl keep_nil (fun _ => rfl) (fun _ => rfl)
  have hT : ∀ {m : Int} {b1 c1 : Bool} {x1 y1 : List (List AV)} (b c : Bool) (ps : List Pg), likeStG ⟨[(11, .ptr 0 0 0), (12, .ptr 1 0 0)], [⟨1, 24, 2, true, [[.v (.int .i64 m), .lst b1 9 x1]]⟩, ⟨1, 30, 2, true, [[.v (.int .i64 m), .lst c1 9 y1]]⟩]⟩ ⟨[(11, .ptr 0 0 0), (12, .ptr 1 0 0)], S3 m b c ps⟩ = true := fun _ _ _ => rfl
  unfold S3 at hr1 hr2
  rw [show (((([] : List Opr).length : Nat)) : Int) = 0 from rfl] at hr1 hr2
  have h6n : ev 6 [.agg [.v (.int .i64 (IntKind.i64.wrap (pick cap 6 + 1))), .lst true 9 []]] = some [.agg [.v (.int .i64 (IntKind.i64.wrap (pick cap 6 + 1))), .lst true 9 []]] := ev6 _ _ _
  have h6r : ev 6 [.agg [.v (.int .i64 n), .lst b 9 (ps.map Pg.row)]] = some [.agg [.v (.int .i64 n), .lst b 9 (ps.map Pg.row)]] := ev6 _ _ _
  by_cases h1 : 1 ≤ cap
  · by_cases h2 : cap ≤ 256
    · refine bnd (s_New ⟨h1, h2⟩) (cT rfl (cT rfl (cT (leI_t h1) (cF ?_ (cF rfl (cT rfl (cF ?_ (cF rfl ?_))))))))
      · rw [leI_t h2]; rfl
      · show (!(cap == cap)) = false
        rw [beq_self_i]; rfl
      cases raw with
      | false => exact cT rfl (bnd (s_Pick cap 6 (by decide) (by decide)) (cT rfl (bnd h6n (cT rfl (bnd hr2 (fin3 hT ho2))))))
      | true => exact cF rfl (bnd h6r (cT rfl (bnd hr1 (fin3 hT ho1))))
    · refine bnd (s_New1 (fun h => h2 h.2)) (cT rfl (cT rfl (cT (leI_t h1) (cF ?_ (cT rfl (cF rfl (cF rfl ?_)))))))
      · rw [leI_f (by omega)]; rfl
      cases raw with
      | false => exact cT rfl (bnd (s_Pick cap 6 (by decide) (by decide)) (cT rfl (bnd h6n (cT rfl (bnd hr2 (fin3 hT ho2))))))
      | true => exact cF rfl (bnd h6r (cT rfl (bnd hr1 (fin3 hT ho1))))
  · refine bnd (s_New1 (fun h => h1 h.1)) (cT rfl (cT rfl (cF (leI_f (by omega)) (cF rfl (cT rfl (cF rfl (cF rfl ?_)))))))
    cases raw with
    | false => exact cT rfl (bnd (s_Pick cap 6 (by decide) (by decide)) (cT rfl (bnd h6n (cT rfl (bnd hr2 (fin3 hT ho2))))))
    | true => exact cF rfl (bnd h6r (cT rfl (bnd hr1 (fin3 hT ho1))))
theorem pg_of {N n : Nat} {c : List AV} (h : TypC Tryd.prog N (n + 3) 42 c) : ∃ p : Pg, c = p.row ∧ p.ok := by
  obtain ⟨x_0, x_1, x_2_0, x_2_1, x_2_2, x_2_3, x_2_4, x_2_5, x_2_6, rfl, hq⟩ := openC42 h
  exact ⟨⟨x_0, x_1, x_2_0, x_2_1, x_2_2, x_2_3, x_2_4, x_2_5, x_2_6⟩, rfl, hq⟩
theorem ir_of {N n : Nat} {c : List AV} (h : TypC Tryd.prog N (n + 1) 3 c) : ∃ x : Int, c = ir x ∧ True := by
  obtain ⟨x, rfl, _⟩ := openC3 h
  exact ⟨x, rfl, trivial⟩
theorem uw_of {N n : Nat} {c : List AV} (h : TypC Tryd.prog N (n + 1) 39 c) : ∃ x : Int, c = uw x ∧ u64ok x := by
  obtain ⟨x, rfl, hq⟩ := openC39 h
  exact ⟨x, rfl, hq⟩
theorem opr_of {N n : Nat} {c : List AV} (h : TypC Tryd.prog N (n + 3) 35 c) : ∃ o : Opr, c = o.row ∧ o.ok := by
  obtain ⟨k, ln, l, hn, hs, rfl, _, ⟨_, _, hl⟩, _, _, hh⟩ := openC35 h
  obtain ⟨ls, rfl, _⟩ := rows_of ir (fun _ => True) l fun y hy => ir_of (hl y hy)
  obtain ⟨ws, rfl, hw⟩ := rows_of uw u64ok hs fun y hy => uw_of (hh y hy)
  exact ⟨⟨k, ln, ls, hn, ws⟩, rfl, hw⟩
theorem plays_all (N : Nat) (l : List AV) (h : TypA Tryd.prog N Tryd.f3.params.toList l) : ∃ n, evF Tryd.prog cfg n 3 l = some [.v (.bool true)] := by
  have hp : Tryd.f3.params.toList = [24, 25, 3, 4] := by kernel_rfl
  rw [hp] at h
  obtain ⟨a, _, rfl, ha, h⟩ := h
  obtain ⟨b, _, rfl, hb, h⟩ := h
  obtain ⟨c, _, rfl, hc, h⟩ := h
  obtain ⟨d, _, rfl, hd, h⟩ := h
  cases h
  obtain ⟨n, bn, x, rfl, _, hbn, _, hx⟩ := openV24 ha
  obtain ⟨e, y, rfl, _, _, hy⟩ := openV25 hb
  obtain ⟨cap, rfl, _⟩ := openV3 hc
  obtain ⟨raw, rfl, _⟩ := openV4 hd
  obtain ⟨ps, rfl, hps⟩ := rows_of Pg.row Pg.ok x fun z hz => pg_of (hx z hz)
  obtain ⟨ops, rfl, hops⟩ := rows_of Opr.row Opr.ok y fun z hz => opr_of (hy z hz)
  exact evF_of_evL (plays n cap bn raw e ps ops hps (fun hb => List.map_eq_nil_iff.1 (hbn hb)) hops)
end Go.Proofs.YtjbpbidlcegopaaDoor
