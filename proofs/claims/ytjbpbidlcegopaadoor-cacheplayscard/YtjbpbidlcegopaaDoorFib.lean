/- The cache: the rounds of both caches. -/
import Derived.Test.YtjbpbidlcegopaaDoorFia
set_option linter.all false
namespace Go.Proofs.YtjbpbidlcegopaaDoor
open Go.Ev
def S3 (n : Int) (b c : Bool) (ps : List Pg) : Store := [⟨1, 24, 2, true, [[.v (.int .i64 n), .lst b 9 (ps.map Pg.row)]]⟩, ⟨1, 30, 2, true, [[.v (.int .i64 n), .lst c 9 (ps.map Pg.row)]]⟩]
def Out3 (n : Int) (r : LR) : Prop := r = ⟨none, ⟨[], []⟩, [.v (.bool true)]⟩ ∨ ∃ (ps : List Pg) (b c : Bool), Keep ps ∧ r = ⟨some 0, ⟨[(11, .ptr 0 0 0), (12, .ptr 1 0 0)], S3 n b c ps⟩, []⟩
theorem l3 (n : Int) (e : Bool) (ops : List Opr) (hlen : ops.length ≤ 40) (ho : ∀ o ∈ ops, o.ok) : ∀ (rest done : List Opr) (ps : List Pg) (b c : Bool), ops = done ++ rest → Keep ps → (b = true → ps = []) → (c = true → ps = []) →
    ∃ r, lp 3 0 0 ⟨[(1, .lst e 3 (ops.map Opr.row)), (11, .ptr 0 0 0), (12, .ptr 1 0 0), (13, .v (.int .i64 ((done.length : Nat) : Int)))], S3 n b c ps⟩ = some r ∧ Out3 n r
  | [], done, ps, b, c, h, hk, _, _ => by
    refine ⟨_, ?_, .inr ⟨ps, b, c, hk, rfl⟩⟩
    unfold S3
    rw [lp3_0]
    exact cF (ltI_f (by rw [List.length_map, h, List.append_nil]; omega)) rfl
  | o :: rest, done, ps, b, c, h, hk, hb, hc => by
    have hoo := ho o (by rw [h]; simp)
    have hlt := H.len_at (f := Opr.row) h
    have hd : done.length < 40 := by rw [List.length_map] at hlt; omega
    have hin : (leI 0 ((done.length : Nat) : Int) && ltI ((done.length : Nat) : Int) (((ops.map Opr.row).length : Nat) : Int)) = true := by rw [leI_t (by omega), ltI_t (by omega)]; rfl
    have hrow := H.row_at (f := Opr.row) h
    have hnx := H.next_at (p := o) (by omega : done.length ≤ 1000000)
    have go : ∀ (ps' : List Pg) (b' c' : Bool), Keep ps' → (b' = true → ps' = []) → (c' = true → ps' = []) → ∃ r, lp 3 0 0 ⟨[(1, .lst e 3 (ops.map Opr.row)), (11, .ptr 0 0 0), (12, .ptr 1 0 0), (13, .v (.int .i64 (((done ++ [o]).length : Nat) : Int)))], S3 n b' c' ps'⟩ = some r ∧ Out3 n r :=
      fun ps' b' c' h1 h2 h3 => l3 n e ops hlen ho rest (done ++ [o]) ps' b' c' (by rw [h]; simp) h1 h2 h3
    have h12 : ltI ((done.length : Nat) : Int) (((ops.map Opr.row).length : Nat) : Int) = true := ltI_t (by omega)
    by_cases hl12 : o.ls.length ≤ 12
    rotate_left
    · refine ⟨_, ?_, .inl rfl⟩
      have hlt12 : ltI 12 (((List.length (avXs (cellAt (Opr.row o) 1))) : Nat) : Int) = true := ltI_t (by show (12 : Int) < (((o.ls.map ir).length : Nat) : Int); rw [List.length_map]; omega)
      unfold S3
      rw [lp3_0, hrow]
      refine cT h12 (cT hin (cT rfl (cT hlt12 (cT hin (cT rfl ?_)))))
      rw [hlt12]
    have hlt12 : ltI 12 (((List.length (avXs (cellAt (Opr.row o) 1))) : Nat) : Int) = false := ltI_f (by show (((o.ls.map ir).length : Nat) : Int) ≤ 12; rw [List.length_map]; omega)
    obtain ⟨qf, qs, hqok, hql, h9⟩ := s_pages o hoo hl12 ((done.length : Nat) : Int)
    have hv7 := s_valid n b ps hk.1
    have hv8 := s_validc n c ps hk.1
    have hvv : (!(validB n ps == validB n ps)) = false := by cases validB n ps <;> rfl
    have hpk := pick_range (n := o.k) (m := 5) (by decide)
    have h5 := s_Pick o.k 5 (by decide) (by decide)
    by_cases k3 : pick o.k 5 = 3
    · have hln : ∃ l : Int, (IntKind.i64.wrap (95 + pick (IntKind.i64.wrap (Int.tdiv o.k 5)) 14)) = l := ⟨_, rfl⟩
      obtain ⟨l, hl⟩ := hln
      obtain ⟨b', hb', hg⟩ := s_get n b ps hk.1 hb hk.2 l
      obtain ⟨c', hc', hgR⟩ := s_getR n c ps hk.1 hc hk.2 l
      have hk' : Keep (getO n ps l).1 := get_keep hk
      obtain ⟨b2, h18⟩ := s_hints n b' (getO n ps l).1 hk'.1 hb' hk'.2
      obtain ⟨c2, h19⟩ := s_hintsR n c' (getO n ps l).1 hk'.1 hk'.2
      obtain ⟨r, hr, hout⟩ := go (getO n ps l).1 b' c' hk' hb' hc'
      refine ⟨r, ?_, hout⟩
      unfold S3 at hr ⊢
      rw [lp3_0, hrow, hnx]
      refine cT h12 (cT hin (cT rfl (cF hlt12 (bnd hv7 (cT rfl (bnd hv8 (cT rfl (cF hvv (cT hin (cT rfl (bnd h9 (cT (isOw_ok _ _ _ _) (cT hin (cT rfl (bnd h5 (cT rfl (cT ?_ (cT hin (cT rfl (bnd (s_Pick (IntKind.i64.wrap (Int.tdiv o.k 5)) 14 (by decide) (by decide)) (cT rfl ?_)))))))))))))))))))))
      · show (pick o.k 5 == 3) = true
        rw [k3]; rfl
      show ((ev 10 [_, .v (.int .i64 (IntKind.i64.wrap (95 + pick (IntKind.i64.wrap (Int.tdiv o.k 5)) 14)))]).bind fun r381 => _) = _
      rw [hl]
      refine bnd hg (cT rfl (cT rfl (cT rfl ?_)))
      show ((ev 11 [_, .v (.int .i64 (IntKind.i64.wrap (95 + pick (IntKind.i64.wrap (Int.tdiv o.k 5)) 14)))]).bind fun r395 => _) = _
      rw [hl]
      refine bnd hgR (cT rfl (cT rfl (cT rfl (cF ?_ (bnd (s12 false false [(getO n ps l).2.1] (by simp)) (cT rfl (cF rfl (bnd (s17 n b' c' (getO n ps l).1 (by have := hk'.2; omega)) (cT rfl (cF rfl (bnd h18 (cT (isOw_ok _ _ _ _) (bnd h19 (cT (isOw_ok _ _ _ _) (bnd (s12 b2 c2 (hintO n (getO n ps l).1) (hint_len hk')) (cT rfl (cF rfl hr)))))))))))))))))
      show (!((getO n ps l).2.2 == (getO n ps l).2.2)) = false
      cases (getO n ps l).2.2 <;> rfl
    have k3f : (pick o.k 5 == 3) = false := by rw [Bool.eq_false_iff]; intro e; exact k3 (eq_of_beq e)
    by_cases k4 : pick o.k 5 = 4
    · obtain ⟨lf, ls, hlf, hls, h31⟩ := l31 e (ops.map Opr.row) ((done.length : Nat) : Int) qf n b c (ps.map Pg.row) (ps.map Pg.row) qs hql qs [] [] true rfl rfl (fun _ => rfl)
      obtain ⟨b', hb', hg⟩ := s_drop n b ps hk.1 hb hk.2 lf ls (by omega)
      obtain ⟨c', hc', hgR⟩ := s_dropR n c ps hk.1 hc hk.2 lf ls (by omega)
      have hk' : Keep (dropO n ps ls) := drop_keep hk
      obtain ⟨b2, h18⟩ := s_hints n b' (dropO n ps ls) hk'.1 hb' hk'.2
      obtain ⟨c2, h19⟩ := s_hintsR n c' (dropO n ps ls) hk'.1 hk'.2
      obtain ⟨r, hr, hout⟩ := go (dropO n ps ls) b' c' hk' hb' hc'
      refine ⟨r, ?_, hout⟩
      unfold S3 at hr ⊢
      rw [lp3_0, hrow, hnx]
      refine cT h12 (cT hin (cT rfl (cF hlt12 (bnd hv7 (cT rfl (bnd hv8 (cT rfl (cF hvv (cT hin (cT rfl (bnd h9 (cT (isOw_ok _ _ _ _) (cT hin (cT rfl (bnd h5 (cT rfl (cF k3f (cT ?_ (bnd h31 (cT rfl (cT rfl (bnd hg (cT rfl (bnd hgR (cT rfl (bnd (s17 n b' c' (dropO n ps ls) (by have := hk'.2; omega)) (cT rfl (cF rfl (bnd h18 (cT (isOw_ok _ _ _ _) (bnd h19 (cT (isOw_ok _ _ _ _) (bnd (s12 b2 c2 (hintO n (dropO n ps ls)) (hint_len hk')) (cT rfl (cF rfl ?_)))))))))))))))))))))))))))))))))))
      · show (pick o.k 5 == 4) = true
        rw [k4]; rfl
      · show lp 3 0 0 ⟨[_, _, _, (13, .v (.int .i64 (IntKind.i64.wrap (((done.length : Nat) : Int) + 1))))], _⟩ = _
        rw [hnx]
        exact hr
    have k4f : (pick o.k 5 == 4) = false := by rw [Bool.eq_false_iff]; intro e; exact k4 (eq_of_beq e)
    obtain ⟨b', hb', hg⟩ := s_put n b ps hk.1 hb hk.2 qf qs (by omega) hqok
    obtain ⟨c', hc', hgR⟩ := s_putR n c ps hk.1 hc hk.2 qf qs (by omega) hqok
    have hk' : Keep (putO n ps qs) := put_keep hk hqok
    obtain ⟨b2, h18⟩ := s_hints n b' (putO n ps qs) hk'.1 hb' hk'.2
    obtain ⟨c2, h19⟩ := s_hintsR n c' (putO n ps qs) hk'.1 hk'.2
    obtain ⟨r, hr, hout⟩ := go (putO n ps qs) b' c' hk' hb' hc'
    refine ⟨r, ?_, hout⟩
    unfold S3 at hr ⊢
    rw [lp3_0, hrow, hnx]
    refine cT h12 (cT hin (cT rfl (cF hlt12 (bnd hv7 (cT rfl (bnd hv8 (cT rfl (cF hvv (cT hin (cT rfl (bnd h9 (cT (isOw_ok _ _ _ _) (cT hin (cT rfl (bnd h5 (cT rfl (cF k3f (cF k4f (bnd hg (cT rfl (bnd hgR (cT rfl (bnd (s17 n b' c' (putO n ps qs) (by have := hk'.2; omega)) (cT rfl (cF rfl (bnd h18 (cT (isOw_ok _ _ _ _) (bnd h19 (cT (isOw_ok _ _ _ _) (bnd (s12 b2 c2 (hintO n (putO n ps qs)) (hint_len hk')) (cT rfl (cF rfl hr))))))))))))))))))))))))))))))))
end Go.Proofs.YtjbpbidlcegopaaDoor
