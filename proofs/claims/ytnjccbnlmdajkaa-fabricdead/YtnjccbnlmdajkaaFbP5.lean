/- Post with a verb that is not valid: what it does. -/
import Derived.Test.YtnjccbnlmdajkaaFbO
import Derived.Test.YtnjccbnlmdajkaaSmlX
import Derived.Test.YtnjccbnlmdajkaaVld
import Derived.Test.YtnjccbnlmdajkaaChsX
import Derived.Test.YtnjccbnlmdajkaaDelW
import Derived.Test.YtnjccbnlmdajkaaDeaW
import Derived.Test.YtnjccbnlmdajkaaPiecesS
import Derived.Test.YtnjccbnlmdajkaaEv12
import Derived.Test.YtnjccbnlmdajkaaFabW
set_option linter.all false
namespace Go.Proofs.Ytnjccbnlmdajkaa
open Go.RowKit Go.Shelf Go.Lib Go.Ev
set_option maxRecDepth 100000
variable {w0 W : World} {μ : Mu} {I : Ky → Option ItemO} {t fb : Nat} {s : FbC}
theorem post_bad (hK : Kst w0 μ I W) (hR : FbR t I fb s) {c : Nat} {x : ClC} (hc : s.cl[c]? = some x) (hal : x.al = true) (hba : x.ba = []) {n : Bool} {vs : List Vb} {v : Value} (hd : DR μ (.lst n 9 (vs.map Vb.row)) v) (hm : 1 ≤ vs.length ∧ vs.length ≤ 1024)
    (hn5 : 1 ≤ s.nd.length ∧ s.nd.length ≤ 5) {k : Nat} {uk : Vb} (hk : vs[k]? = some uk) (hg : ∀ i u, i < k → vs[i]? = some u → u.badN s.nd.length s.lines = 0) (hb : uk.badN s.nd.length s.lines ≠ 0) :
    Calls Try.prog 18 #[ptr fb, .int .i64 c, v] W fun e w' => e = .returned (.int .i64 (uk.badN s.nd.length s.lines)) ∧ Kst w0 μ I w' := by
  have hv0 : vs ≠ [] := fun e => by rw [e] at hm; simp at hm
  obtain ⟨vb, vo, vc, rfl, _⟩ := dr_cells (W := W) hd hK.imm (by omega) (by simpa using hv0)
  rw [List.length_map] at hd ⊢
  obtain ⟨bc, cc, hcv, hIc, hAt⟩ := hR.clsAt hK hc
  obtain ⟨n0, hn0⟩ : ∃ n0, s.nd[0]? = some n0 := ⟨_, List.getElem?_eq_getElem (by omega)⟩
  obtain ⟨bn, cn, hnv, _, _⟩ := hR.ndAt hK hn0
  have h2 := hR.c2 hK
  rw [hcv] at h2
  have hbv := hAt.bv
  rw [(hR.cl c x hc).bn hba] at hbv
  have hal' := hAt.al
  rw [hal] at hal'
  refine post_inv fb bc c s.cl.length bn s.nd.length cn vb vo vs.length vc k s.lines (uk.badN s.nd.length s.lines) W (fun _ W' => Kst w0 μ I W') (fun W' => Kst w0 μ I W') (lt_of hc) hm (lt_of hk) hb h2 hal' hbv hK (fun i W' hi hK' => ?_) fun _ h => h
  obtain ⟨u, hu⟩ : ∃ u, vs[i]? = some u := ⟨_, List.getElem?_eq_getElem (by have := lt_of hk; omega)⟩
  obtain ⟨A, al, ac, hV, hdw⟩ := verb_at hK' hd hu
  have hKa := (hK'.kept0 (KeptW.alloc W' (.cells (vCells u.kind u.node u.at_ u.n u.old u.new A al ac u.key u.boot) 50))).drew
  have hnew : ∀ j v, (vCells u.kind u.node u.at_ u.n u.old u.new A al ac u.key u.boot)[j]? = some v → (W'.alloc (.cells (vCells u.kind u.node u.at_ u.n u.old u.new A al ac u.key u.boot) 50)).drew.cell? ⟨W'.heap.size, j, none⟩ = some v := fun j v hj => cell_of (Ev.alloc_new W' _) hj
  have g1 := hR.c1 hKa
  rw [hnv] at g1
  have hS : S13 fb bn s.nd.length cn s.lines (W'.alloc (.cells (vCells u.kind u.node u.at_ u.n u.old u.new A al ac u.key u.boot) 50)).drew W'.heap.size u.kind u.node u.at_ u.n u.old u.new A al ac u.key u.boot :=
    ⟨hnew 0 _ rfl, hnew 1 _ rfl, hnew 2 _ rfl, hnew 3 _ rfl, hnew 4 _ rfl, hnew 5 _ rfl, hnew 6 _ rfl, hnew 7 _ rfl, hnew 8 _ rfl, hR.c0 hKa, g1⟩
  refine ⟨u.kind, u.node, u.at_, u.n, u.old, u.new, A, al, ac, u.key, u.boot, hV, hS, ?_⟩
  refine (valid_call hKa hdw s.nd.length s.lines (by omega)).mono fun e w' he => ?_
  obtain ⟨rfl, hKb, hk'⟩ := he
  obtain ⟨s0, s1, s2, s3, s4, s5, s6, s7, s8, s9, s10⟩ := hS
  refine ⟨_, rfl, fun h => hg i u h hu, fun h => ?_, hKb, hk'.cell s0 List.not_mem_nil, hk'.cell s1 List.not_mem_nil, hk'.cell s2 List.not_mem_nil, hk'.cell s3 List.not_mem_nil, hk'.cell s4 List.not_mem_nil, hk'.cell s5 List.not_mem_nil, hk'.cell s6 List.not_mem_nil, hk'.cell s7 List.not_mem_nil, hk'.cell s8 List.not_mem_nil, hk'.cell s9 List.not_mem_nil, hk'.cell s10 List.not_mem_nil⟩
  subst h
  rw [hk] at hu
  cases hu; rfl
end Go.Proofs.Ytnjccbnlmdajkaa
namespace Go.Proofs.Ytnjccbnlmdajkaa
open Go.RowKit Go.Shelf Go.Lib Go.Ev
set_option maxRecDepth 100000
variable {w0 W : World} {μ : Mu} {I : Ky → Option ItemO} {t fb : Nat} {s : FbC}
abbrev Ch := Int × Int × Int
def crow (x : Ch) : List AV := [.v (.int .i64 x.1), .v (.int .i64 x.2.1), .v (.int .i64 x.2.2)]
def chL (ln : List LnA) (c : Nat) : Nat → List Ch
  | 0 => []
  | j + 1 => chL ln c j ++ (match ln[j]? with | some l => if l.p.q = [] then [] else [(-1, (c : Int), (j : Int))] | none => [])
def chC (cl : List ClA) : Nat → List Ch
  | 0 => []
  | c + 1 => chC cl c ++ (match cl[c]? with | some x => chL x.ln c x.ln.length | none => [])
def chO (os : List Pr) : Nat → List Ch
  | 0 => []
  | k + 1 => chO os k ++ (match os[k]? with | some p => [((k : Int), p.c, p.node)] | none => [])
def FbA.chs (a : FbA) : List Ch := chC a.cl a.cl.length ++ chO a.os a.os.length
theorem chL_len (ln : List LnA) (c : Nat) : ∀ j, (chL ln c j).length ≤ j
  | 0 => Nat.le_refl _
  | j + 1 => by
    have := chL_len ln c j
    unfold chL
    rw [List.length_append]
    split
    · split <;> simp <;> omega
    · simp; omega
theorem chC_len {cl : List ClA} {B : Nat} (h : ∀ x ∈ cl, x.ln.length ≤ B) : ∀ c, (chC cl c).length ≤ c * B
  | 0 => by simp [chC]
  | c + 1 => by
    have := chC_len h c
    unfold chC
    rw [List.length_append, Nat.succ_mul]
    split
    · rename_i x hx
      have h1 := h x (List.mem_of_getElem? hx)
      have h2 := chL_len x.ln c x.ln.length
      omega
    · simp; omega
theorem chO_len (os : List Pr) : ∀ k, (chO os k).length ≤ k
  | 0 => Nat.le_refl _
  | k + 1 => by
    have := chO_len os k
    unfold chO
    rw [List.length_append]
    split <;> simp <;> omega
theorem und41 : Try.prog.underlying 41 = some (.slice 40) := by kernel_rfl
theorem inf40 : (Try.prog.info? 40).map (fun i => (i.zero, i.size, i.bytes)) = some (some (.agg #[.int .i64 0, .int .i64 0, .int .i64 0]), 3, 24) := by kernel_rfl
def ChsSt (t : Nat) (w0 : World) (μ : Mu) (I : Ky → Option ItemO) (xs : List Ch) (v : Value) (W : World) : Prop :=
  ∃ I' : Ky → Option ItemO, Kst w0 μ I' W ∧ Row I' (t, .tmp 9) v 40 3 (xs.map crow) ∧ ∀ k, k ≠ (t, .tmp 9) → I' k = I k
theorem ChsSt.alloc {xs : List Ch} {v : Value} (h : ChsSt t w0 μ I xs v W) (o : Obj) : ChsSt t w0 μ I xs v (W.alloc o) := by
  obtain ⟨I', h1, h2, h3⟩ := h
  exact ⟨I', h1.kept0 (KeptW.alloc W o), h2, h3⟩
theorem chs_app {xs : List Ch} {v : Value} (h : ChsSt t w0 μ I xs v W) (hl : xs.length ≤ 90000) (x y z : Int) {J : Value → World → Prop} (hJ : ∀ v' W', ChsSt t w0 μ I (xs ++ [(x, y, z)]) v' W' → J v' W') : ChsApp x y z v W J := by
  obtain ⟨I', hK, hr, hf⟩ := h
  obtain ⟨I40, hI, hIz, hIs, hIb⟩ := info_parts inf40
  have hKa := hK.kept0 (KeptW.alloc W (.cells #[.int .i64 x, .int .i64 y, .int .i64 z] 40))
  obtain ⟨b', c', W2, hrun, hK2, _, _⟩ := hKa.rapp (P := Try.prog) (es := crow (x, y, z)) hr und41 hI hIz hIs (by omega) (by omega) rfl (by rw [List.length_map]; omega) (Ev.alloc_new W _) rfl (fun v hv => by
    simp only [List.mem_cons, List.not_mem_nil, or_false] at hv
    rcases hv with rfl | rfl | rfl <;> rfl) rfl fun jj u e hu he => by
    match jj with
    | 0 => cases hu; cases he; exact .v rfl
    | 1 => cases hu; cases he; exact .v rfl
    | 2 => cases hu; cases he; exact .v rfl
    | n + 3 => simp [crow] at hu
  obtain ⟨A, c, ev, _⟩ := hr.val
  rw [List.length_map] at ev hrun
  rw [ev] at hrun
  refine ⟨A, xs.length, c, b', c', W2, ev, fun ty => hrun ty, hJ _ _ ⟨_, hK2, .inr ⟨b', c', ?_, ?_⟩, fun k hk => ?_⟩⟩
  · rw [List.length_map, List.length_append]; rfl
  · rw [put_same, List.map_append]; rfl
  · rw [put_ne _ _ hk]; exact hf k hk
theorem choices_ok (hK : Kst w0 μ I W) (hR : FbR t I fb s) (hcl : 0 < s.cl.length) (hb : s.cl.length ≤ 100 ∧ (∀ x ∈ s.cl, x.ln.length ≤ 100) ∧ s.os.length ≤ 50000) :
    Calls Try.prog 21 #[ptr fb] W fun e w' => ∃ v, e = .returned v ∧ ChsSt t w0 μ I s.a.chs v w' := by
  obtain ⟨x0, hx0⟩ : ∃ x0, s.cl[0]? = some x0 := ⟨_, List.getElem?_eq_getElem hcl⟩
  obtain ⟨bc, cc, hcv, _, _⟩ := hR.clsAt hK hx0
  obtain ⟨OA, oc, hov⟩ := hR.ovl
  have h2 := hR.c2 hK
  rw [hcv] at h2
  obtain ⟨b1, b2, b3⟩ := hb
  have hst : ∀ {xs : List Ch} {v : Value} {W' : World}, ChsSt t w0 μ I xs v W' → ∃ I', Kst w0 μ I' W' ∧ FbR t I' fb s := fun h => by
    obtain ⟨I', h1, _, h3⟩ := h
    exact ⟨I', h1, hR.of fun k hk => h3 _ (key_ne (hk 9))⟩
  have hlA : s.a.cl.length = s.cl.length := List.length_map ..
  have hBl : ∀ x ∈ s.a.cl, x.ln.length ≤ 100 := fun x hx => by
    obtain ⟨y, hy, rfl⟩ := List.mem_map.1 hx
    show (y.ln.map LnC.a).length ≤ 100
    rw [List.length_map]; exact b2 y hy
  refine choices_walk fb bc s.cl.length s.os.length oc OA W (fun i v W' => ChsSt t w0 μ I (chC s.a.cl i) v W') (fun i LA ll j v W' => ∃ x lc, s.cl[i]? = some x ∧ x.lv = .slice LA ll lc ∧ x.ln.length = ll ∧ ChsSt t w0 μ I (chC s.a.cl i ++ chL x.a.ln i j) v W')
    (fun k v W' => ChsSt t w0 μ I (chC s.a.cl s.cl.length ++ chO s.a.os k) v W') (fun v W' => ChsSt t w0 μ I s.a.chs v W') (by omega) (by omega) h2 ⟨I, hK, .inl ⟨rfl, rfl⟩, fun _ _ => rfl⟩ ⟨?_, ?_, ?_, ?_, ?_, ?_⟩
  · intro i v W' hi hJ
    obtain ⟨I', hK', hR'⟩ := hst hJ
    obtain ⟨x, hx⟩ : ∃ x, s.cl[i]? = some x := ⟨_, List.getElem?_eq_getElem hi⟩
    obtain ⟨bc', cc', e1, _, hAt⟩ := hR'.clsAt hK' hx
    rw [hcv] at e1
    injection e1 with g1 g2 g3
    injection g1 with g1
    injection g1 with g1
    subst g1 g3
    obtain ⟨LA, lc, hlv, _⟩ := (hR'.cl i x hx).ls.val
    obtain ⟨BA, bcp, hbv, _⟩ := (hR'.cl i x hx).bs.val
    rw [List.length_map] at hlv hbv
    obtain ⟨a0, a1, a2, a3, a4, a5, a6⟩ := hAt
    rw [hlv] at a2
    rw [hbv] at a3
    refine ⟨x.al, x.inc, LA, BA, x.ln.length, lc, x.ba.length, bcp, x.wt, x.tr, x.po, a0, a1, a2, a3, a4, a5, a6, _, rfl, cell_of (Ev.alloc_new W' _) rfl, x, lc, hx, hlv, rfl, ?_⟩
    show ChsSt t w0 μ I (chC s.a.cl i ++ []) v _
    rw [List.append_nil]
    exact hJ.alloc _
  · rintro i LA ll j v W' hj ⟨x, lc, hx, hlv, rfl, hJ⟩
    have hxl := b2 x (List.mem_of_getElem? hx)
    refine ⟨by omega, ?_⟩
    obtain ⟨I', hK', hR'⟩ := hst hJ
    have hCl := hR'.cl i x hx
    obtain ⟨l, hl⟩ : ∃ l, x.ln[j]? = some l := ⟨_, List.getElem?_eq_getElem hj⟩
    obtain ⟨bl, ll, e2, _, d0, d1⟩ := hCl.lnAt hK' hl
    rw [hlv] at e2
    injection e2 with g1 g2 g3
    obtain ⟨PA, pc, hpv, _⟩ := (hCl.pls j l hl).val
    rw [hpv] at d1
    obtain ⟨VA, vc, hvv⟩ := hCl.prAt hK' hl
    have hla : x.a.ln[j]? = some l.a := get_map (f := LnC.a) hl
    have e : chL x.a.ln i (j + 1) = chL x.a.ln i j ++ (if l.a.p.q = [] then [] else [(-1, (i : Int), (j : Int))]) := by rw [chL, hla]
    refine ⟨bl, l.b, PA, VA, _, pc, l.a.p.q.length, vc, g1, d0, d1, _, rfl, cell_of (Ev.alloc_new W' _) rfl, alloc_cell hvv, fun h0 => ⟨x, lc, hx, hlv, rfl, ?_⟩, fun h0 => ?_⟩
    · rw [e, if_pos (List.eq_nil_of_length_eq_zero h0), List.append_nil]
      exact hJ.alloc _
    · have q1 := chC_len hBl i
      have q2 := chL_len x.a.ln i j
      have hi := lt_of hx
      have q3 : i * 100 ≤ 100 * 100 := Nat.mul_le_mul_right _ (by omega)
      refine chs_app (hJ.alloc _) (by rw [List.length_append]; omega) _ _ _ fun v' W'' hC => ⟨x, lc, hx, hlv, rfl, ?_⟩
      rw [e, if_neg (fun e => by rw [e] at h0; simp at h0), ← List.append_assoc]
      exact hC
  · rintro i LA ll v W' ⟨x, lc, hx, hlv, hll, hJ⟩
    have hxa : s.a.cl[i]? = some x.a := get_map (f := ClC.a) hx
    have e : chC s.a.cl (i + 1) = chC s.a.cl i ++ chL x.a.ln i x.a.ln.length := by rw [chC, hxa]
    rw [e, show x.a.ln.length = ll from (List.length_map ..).trans hll]
    exact hJ
  · intro v W' hJ
    obtain ⟨I', hK', hR'⟩ := hst hJ
    have h3 := hR'.c3 hK'
    rw [hov] at h3
    refine ⟨h3, ?_⟩
    show ChsSt t w0 μ I (chC s.a.cl s.cl.length ++ []) v W'
    rw [List.append_nil]
    exact hJ
  · intro k v W' hk hJ
    obtain ⟨I', hK', hR'⟩ := hst hJ
    obtain ⟨o, ho⟩ : ∃ o, s.os[k]? = some o := ⟨_, List.getElem?_eq_getElem hk⟩
    obtain ⟨bo, co, e1, _, hp⟩ := hR'.orAt hK' ho
    rw [hov] at e1
    injection e1 with g1 g2 g3
    obtain ⟨F, hF⟩ := hR'.os k o ho
    have hoa : s.a.os[k]? = some o.p := get_map (f := OrC.p) ho
    have e : chO s.a.os (k + 1) = chO s.a.os k ++ [((k : Int), o.p.c, o.p.node)] := by rw [chO, hoa]
    refine ⟨bo, o.b, o.p.c, o.p.node, g1, hp, hK'.cell hF rfl, hK'.cell hF rfl, ?_⟩
    have q1 := chC_len hBl s.cl.length
    have q2 := chO_len s.a.os k
    have q3 : s.cl.length * 100 ≤ 100 * 100 := Nat.mul_le_mul_right _ (by omega)
    refine chs_app hJ (by rw [List.length_append]; omega) _ _ _ fun v' W'' hC => ?_
    show ChsSt t w0 μ I (chC s.a.cl s.cl.length ++ chO s.a.os (k + 1)) v' W''
    rw [e, ← List.append_assoc]
    exact hC
  · intro v W' hJ
    unfold FbA.chs
    rw [hlA, show s.a.os.length = s.os.length from List.length_map ..]
    exact hJ
end Go.Proofs.Ytnjccbnlmdajkaa
namespace Go.Proofs.Ytnjccbnlmdajkaa
open Go.RowKit Go.Shelf Go.Lib Go.Ev
set_option maxRecDepth 100000
variable {w0 W : World} {μ : Mu} {I : Ky → Option ItemO} {t fb : Nat} {s : FbC}
def pIdx (ln : List LnC) : Nat → List Nat
  | 0 => []
  | j + 1 => pIdx ln j ++ (match ln[j]? with | some l => if l.a.p.q = [] then [] else [j] | none => [])
def pOr (ln : List LnC) : Nat → List OrC
  | 0 => []
  | j + 1 => pOr ln j ++ (match ln[j]? with | some l => if l.a.p.q = [] then [] else [⟨l.b, l.a.p⟩] | none => [])
def pA (ln : List LnA) : Nat → List Pr
  | 0 => []
  | j + 1 => pA ln j ++ (match ln[j]? with | some l => if l.p.q = [] then [] else [l.p] | none => [])
theorem pOr_a (ln : List LnC) : ∀ j, (pOr ln j).map OrC.p = pA (ln.map LnC.a) j
  | 0 => rfl
  | j + 1 => by
    unfold pOr pA
    rw [List.map_append, pOr_a ln j, List.getElem?_map]
    cases ln[j]? with
    | none => rfl
    | some l =>
      show _ ++ List.map OrC.p (if l.a.p.q = [] then [] else _) = _ ++ (if l.a.p.q = [] then [] else _)
      split <;> rfl
theorem pOr_len (ln : List LnC) : ∀ j, (pOr ln j).length = (pIdx ln j).length ∧ (pIdx ln j).length ≤ j
  | 0 => ⟨rfl, Nat.le_refl _⟩
  | j + 1 => by
    obtain ⟨h1, h2⟩ := pOr_len ln j
    unfold pOr pIdx
    rw [List.length_append, List.length_append, h1]
    cases ln[j]? with
    | none => simp; omega
    | some l =>
      simp only
      split <;> simp <;> omega
theorem pIdx_lt (ln : List LnC) : ∀ j, ∀ k ∈ pIdx ln j, k < j
  | 0 => fun k h => by cases h
  | j + 1 => fun k h => by
    unfold pIdx at h
    rcases List.mem_append.1 h with h | h
    · have := pIdx_lt ln j k h; omega
    · split at h
      · split at h
        · cases h
        · simp at h; omega
      · cases h
theorem pIdx_nd (ln : List LnC) : ∀ j, (pIdx ln j).Nodup
  | 0 => List.nodup_nil
  | j + 1 => by
    unfold pIdx
    refine List.nodup_append.2 ⟨pIdx_nd ln j, ?_, fun a ha b hb e => ?_⟩
    · split
      · split <;> simp
      · simp
    · subst e
      have := pIdx_lt ln j a ha
      split at hb
      · split at hb
        · cases hb
        · simp at hb; omega
      · cases hb
theorem pOr_get (ln : List LnC) : ∀ (j m : Nat) (o : OrC), (pOr ln j)[m]? = some o → ∃ i l, (pIdx ln j)[m]? = some i ∧ ln[i]? = some l ∧ o = ⟨l.b, l.a.p⟩
  | 0 => fun m o h => by simp [pOr] at h
  | j + 1 => fun m o h => by
    unfold pOr at h
    unfold pIdx
    obtain ⟨h1, _⟩ := pOr_len ln j
    by_cases hm : m < (pOr ln j).length
    · rw [List.getElem?_append_left hm] at h
      rw [List.getElem?_append_left (by omega)]
      exact pOr_get ln j m o h
    · rw [List.getElem?_append_right (by omega)] at h
      rw [List.getElem?_append_right (by omega), ← h1]
      cases hl : ln[j]? with
      | none => rw [hl] at h; simp at h
      | some l =>
        rw [hl] at h
        simp only at h ⊢
        by_cases hq : l.a.p.q = []
        · rw [if_pos hq] at h; simp at h
        · rw [if_neg hq] at h ⊢
          have hm0 : m - (pOr ln j).length = 0 := by
            have := lt_of h
            simp at this; omega
          rw [hm0] at h ⊢
          cases h
          exact ⟨j, l, rfl, hl, rfl⟩
theorem inf80 : (Try.prog.info? 80).map (fun i => (i.zero, i.size, i.bytes)) = some (some (.pointer none), 1, 8) := by kernel_rfl
theorem und60 : Try.prog.underlying 60 = some (.slice 80) := by kernel_rfl
def DieSt (t : Nat) (w0 : World) (μ : Mu) (I : Ky → Option ItemO) (fb : Nat) (s : FbC) (os : List OrC) (W : World) : Prop :=
  ∃ (I' : Ky → Option ItemO) (ov : Value) (F : List Nat), Kst w0 μ I' W ∧ Row I' (t, .ors) ov 80 1 (os.map OrC.row) ∧ I' (t, .fab) = some (obI fb F 62 { s with ov := ov }.cells) ∧ ∀ k, k ≠ (t, .ors) → k ≠ (t, .fab) → I' k = I k
theorem die_rnd {c i : Nat} {x : ClC} {l : LnC} {LA : Option Addr} {lc : Nat} (hCl : ClR t I c x) (hl : x.ln[i]? = some l) (hlv : x.lv = .slice LA x.ln.length lc) (hlen : s.os.length + x.ln.length ≤ 90000) (hJ : DieSt t w0 μ I fb s (s.os ++ pOr x.ln i) W) :
    DieRnd fb LA i W fun i W => DieSt t w0 μ I fb s (s.os ++ pOr x.ln i) W := by
  obtain ⟨I', ov, F, hK, hr, hfab, hf⟩ := hJ
  have hC' : ClR t I' c x := hCl.of fun k hk => hf _ (key_ne fun e => by subst e; simp [FK.ofC] at hk) (key_ne fun e => by subst e; simp [FK.ofC] at hk)
  obtain ⟨bl, ll, e2, _, d0, d1⟩ := hC'.lnAt hK hl
  rw [hlv] at e2
  injection e2 with g1 g2 g3
  obtain ⟨PA, pc, hpv, _⟩ := (hC'.pls i l hl).val
  rw [hpv] at d1
  obtain ⟨VA, vc, hvv⟩ := hC'.prAt hK hl
  have hi := lt_of hl
  have e : pOr x.ln (i + 1) = pOr x.ln i ++ (if l.a.p.q = [] then [] else [⟨l.b, l.a.p⟩]) := by rw [pOr, hl]
  obtain ⟨q1, q2⟩ := pOr_len x.ln i
  refine ⟨bl, l.b, PA, VA, _, pc, l.a.p.q.length, vc, g1, d0, d1, _, rfl, cell_of (Ev.alloc_new W _) rfl, alloc_cell hvv, fun h0 => ?_, fun h0 => ?_⟩
  · refine ⟨I', ov, F, hK.kept0 (KeptW.alloc W _), ?_, hfab, hf⟩
    rw [e, if_pos (List.eq_nil_of_length_eq_zero h0), List.append_nil]; exact hr
  · have hKb := (hK.kept0 (KeptW.alloc W (.cells #[.pointer (some ⟨l.b, 0, none⟩), .slice PA (l.a.pl.map irow).length pc] 82))).drew
    obtain ⟨wb, hwb⟩ : ∃ wb, (W.alloc (.cells #[.pointer (some ⟨l.b, 0, none⟩), .slice PA (l.a.pl.map irow).length pc] 82)).drew = wb := ⟨_, rfl⟩
    rw [hwb] at hKb ⊢
    have hKe := hKb.kept0 (KeptW.alloc wb (.cells #[.pointer (some ⟨l.b, 0, none⟩)] 80))
    obtain ⟨I80, hI, hIz, hIs, hIb⟩ := info_parts inf80
    obtain ⟨b', c', W4, hrun, hK4, _, _⟩ := hKe.rapp (P := Try.prog) (es := OrC.row ⟨l.b, l.a.p⟩) hr und60 hI hIz hIs (by omega) (by omega) rfl (by rw [List.length_map, List.length_append]; omega) (Ev.alloc_new wb _) rfl (fun v hv => by simp at hv; subst hv; rfl) rfl fun jj u v hu hv => by
      cases jj with
      | zero => cases hu; cases hv; exact .v rfl
      | succ j => simp [OrC.row] at hu
    obtain ⟨OA, oc, eov, _⟩ := hr.val
    rw [List.length_map] at eov hrun
    rw [eov] at hrun
    have c3 : ∀ {W' : World}, Kst w0 μ I' W' → W'.cell? ⟨fb, 3, none⟩ = some (.slice OA (s.os ++ pOr x.ln i).length oc) := fun h => by
      rw [h.cell hfab (j := 3) rfl, ← eov]
    have hfab4 := put_get (k := (t, .ors)) (x := some (rowI b' c' 80 1 ((s.os ++ pOr x.ln i).map OrC.row ++ [OrC.row ⟨l.b, l.a.p⟩]))) hfab (key_ne fun e => by cases e)
    obtain ⟨F2, _, hK5⟩ := hK4.set hfab4 3 (a := .v (.slice (some ⟨b', 0, none⟩) ((s.os ++ pOr x.ln i).length + 1) c')) (v := .slice (some ⟨b', 0, none⟩) ((s.os ++ pOr x.ln i).length + 1) c') (.v rfl)
    have hL : (s.os ++ pOr x.ln i ++ [(⟨l.b, l.a.p⟩ : OrC)]).length = (s.os ++ pOr x.ln i).length + 1 := by simp [Nat.add_assoc]
    refine ⟨OA, _, oc, b', c', W4, c3 hKb, fun o => c3 (hKb.kept0 (KeptW.alloc wb o)), fun ty => hrun ty, hK4.frozen hfab4 3, ⟨_, hK4.cell hfab4 (j := 3) rfl⟩, _, .slice (some ⟨b', 0, none⟩) ((s.os ++ pOr x.ln i).length + 1) c', F2, hK5, ?_, ?_, fun k h1 h2 => ?_⟩
    · refine .inr ⟨b', c', ?_, ?_⟩
      · rw [List.length_map, e, if_neg (fun e => by rw [e] at h0; simp at h0), ← List.append_assoc, hL]
      · refine put_get ?_ (key_ne fun e => by cases e)
        rw [put_same, e, if_neg (fun e => by rw [e] at h0; simp at h0), ← List.append_assoc, List.map_append (l₂ := [_])]; rfl
    · rw [put_same]; rfl
    · rw [put_ne _ _ h2, put_ne _ _ h1]; exact hf k h1 h2
end Go.Proofs.Ytnjccbnlmdajkaa
namespace Go.Proofs.Ytnjccbnlmdajkaa
open Go.RowKit Go.Shelf Go.Lib Go.Ev
set_option maxRecDepth 100000
variable {w0 W : World} {μ : Mu} {I : Ky → Option ItemO} {t fb : Nat} {s : FbC}
def dieK (t c n : Nat) (pl : List Nat) : Ky → Ky
  | (u, .orp k) => if u = t ∧ n ≤ k then (t, .par c (pl.getD (k - n) 0)) else (u, .orp k)
  | x => x
def deadK (c n : Nat) : FK → Bool
  | .orp k => decide (n ≤ k)
  | f => f.ofC c
theorem dieK_ne {t c n : Nat} {pl : List Nat} {k : Ky} (h : ∀ m, k ≠ (t, .orp m)) : dieK t c n pl k = k := by
  obtain ⟨u, f⟩ := k
  unfold dieK
  split
  · rename_i u' m e
    cases e
    rw [if_neg (fun e => h m (by rw [e.1]))]
  · rfl
theorem dieK_lo {t c n k : Nat} {pl : List Nat} (h : k < n) : dieK t c n pl (t, .orp k) = (t, .orp k) := by
  unfold dieK
  have : ¬ n ≤ k := by omega
  simp [this]
theorem dieK_hi {t c n k : Nat} {pl : List Nat} (h : n ≤ k) : dieK t c n pl (t, .orp k) = (t, .par c (pl.getD (k - n) 0)) := by
  unfold dieK
  simp [h]
def dieJ (t c n : Nat) (pl : List Nat) (I : Ky → Option ItemO) : Ky → Option ItemO := fun k => if k.1 = t ∧ deadK c (n + pl.length) k.2 = true then none else I (dieK t c n pl k)
theorem dieJ_some {c n : Nat} {pl : List Nat} {k : Ky} {x : ItemO} (h : dieJ t c n pl I k = some x) : ¬ (k.1 = t ∧ deadK c (n + pl.length) k.2 = true) ∧ I (dieK t c n pl k) = some x := by
  unfold dieJ at h
  split at h
  · cases h
  · rename_i h1; exact ⟨h1, h⟩
theorem getD_nd {l : List Nat} (h : l.Nodup) {a b : Nat} (ha : a < l.length) (hb : b < l.length) (e : l.getD a 0 = l.getD b 0) : a = b := by
  have h1 : l[a]? = some (l.getD a 0) := by simp [List.getD, List.getElem?_eq_getElem ha]
  have h2 : l[b]? = some (l.getD b 0) := by simp [List.getD, List.getElem?_eq_getElem hb]
  rw [← e] at h2
  exact nodup_at h h1 h2
theorem die_ren {c n : Nat} {pl : List Nat} (hn : pl.Nodup) (hK : Kst w0 μ I W) : Kst w0 μ (dieJ t c n pl I) W := by
  refine hK.ren (dieK t c n pl) (fun k x h => (dieJ_some h).2) fun k l x y hk hl e => ?_
  obtain ⟨k1, _⟩ := dieJ_some hk
  obtain ⟨l1, _⟩ := dieJ_some hl
  have hpar : ∀ {k : Ky} {m : Nat}, ¬ (k.1 = t ∧ deadK c (n + pl.length) k.2 = true) → dieK t c n pl k = (t, .par c m) → ∃ a, k = (t, .orp a) ∧ n ≤ a ∧ a < n + pl.length ∧ m = pl.getD (a - n) 0 := fun {k m} h1 h2 => by
    by_cases hk : ∃ a, k = (t, .orp a)
    · obtain ⟨a, rfl⟩ := hk
      by_cases ha : n ≤ a
      · rw [dieK_hi ha] at h2
        have := FK.par.inj (Prod.mk.inj h2).2
        refine ⟨a, rfl, ha, ?_, this.2.symm⟩
        have h1 : ¬ (n + pl.length ≤ a) := fun g => h1 ⟨rfl, by show decide _ = true; exact decide_eq_true g⟩
        omega
      · rw [dieK_lo (by omega)] at h2
        exact absurd (Prod.mk.inj h2).2 (fun e => by cases e)
    · rw [dieK_ne (fun m e => hk ⟨m, e⟩)] at h2
      subst h2
      exact absurd ⟨rfl, by show (c == c) = true; exact beq_self_eq_true c⟩ h1
  by_cases hp : ∃ m, dieK t c n pl k = (t, .par c m)
  · obtain ⟨m, hm⟩ := hp
    obtain ⟨a, rfl, a1, a2, a3⟩ := hpar k1 hm
    obtain ⟨b, rfl, b1, b2, b3⟩ := hpar l1 (e ▸ hm)
    have := getD_nd hn (a := a - n) (b := b - n) (by omega) (by omega) (a3 ▸ b3)
    rw [show a = b by omega]
  · have hself : ∀ {k : Ky}, ¬ (∃ m, dieK t c n pl k = (t, .par c m)) → dieK t c n pl k = k := fun {k} h => by
      by_cases hk : ∃ a, k = (t, .orp a)
      · obtain ⟨a, rfl⟩ := hk
        by_cases ha : n ≤ a
        · exact absurd ⟨_, dieK_hi ha⟩ h
        · exact dieK_lo (by omega)
      · exact dieK_ne fun m e => hk ⟨m, e⟩
    rw [hself hp] at e
    rw [hself (fun ⟨m, hm⟩ => hp ⟨m, by rw [hself hp, e]; exact hm⟩)] at e
    exact e
theorem dieJ_ne {c n : Nat} {pl : List Nat} {k : FK} (h : ∀ m, k ≠ .orp m) (hc : k.ofC c = false) : dieJ t c n pl I (t, k) = I (t, k) := by
  unfold dieJ
  rw [if_neg (fun g => by
    have g2 := g.2
    cases k <;> simp_all [deadK, FK.ofC]), dieK_ne (fun m e => h m (Prod.mk.inj e).2)]
theorem dieJ_frame {c n : Nat} {pl : List Nat} {k : Ky} (h : k.1 ≠ t) : dieJ t c n pl I k = I k := by
  unfold dieJ
  rw [if_neg (fun g => h g.1), dieK_ne (fun m e => h (by rw [e]))]
end Go.Proofs.Ytnjccbnlmdajkaa
namespace Go.Proofs.Ytnjccbnlmdajkaa
open Go.RowKit Go.Shelf Go.Lib Go.Ev
set_option maxRecDepth 100000
variable {w0 W : World} {μ : Mu} {I : Ky → Option ItemO} {t fb : Nat} {s : FbC}
theorem die_end {c bc cc : Nat} {x : ClC} (hR : FbR t I fb s) (hc : s.cl[c]? = some x) (hIc : I (t, .cls) = some (rowI bc cc 74 7 (s.cl.map ClC.row))) (hcv : s.cv = .slice (some ⟨bc, 0, none⟩) s.cl.length cc) (hL : DieSt t w0 μ I fb s (s.os ++ pOr x.ln x.ln.length) W) :
    DieEnd bc c W (FSt t w0 μ I fb { s.a with cl := s.a.cl.set c { x.a with al := false, ln := [], ba := [], wt := 0 }, os := s.a.os ++ pA x.a.ln x.a.ln.length }) := by
  obtain ⟨I1, ov, F, hK, hr, hfab, hf⟩ := hL
  have hI1 : I1 (t, .cls) = some (rowI bc cc 74 7 (s.cl.map ClC.row)) := by rw [hf _ (key_ne fun e => by cases e) (key_ne fun e => by cases e)]; exact hIc
  have hcm : c < (s.cl.map ClC.row).length := by rw [List.length_map]; exact lt_of hc
  have hr0 : (s.cl.map ClC.row)[c]? = some x.row := get_map hc
  have f1 := hK.rfrozen hI1 hcm (j := 0) (by omega)
  have c1 := hK.rcell hI1 hr0 (j := 0) rfl
  have hK2 := hK.rset hI1 hr0 (j := 0) (by omega) (a := .v (.bool false)) (v := .bool false) (.v rfl)
  obtain ⟨W2, hW2⟩ : ∃ W2, W.setCell ⟨bc, c * 7 + 0, none⟩ (.bool false) = W2 := ⟨_, rfl⟩
  rw [hW2] at hK2
  have hI2 := put_same I1 (t, .cls) (some (rowI bc cc 74 7 ((s.cl.map ClC.row).set c (x.row.set 0 (.v (.bool false))))))
  have hr2 := set_at (y := x.row.set 0 (.v (.bool false))) hr0
  have f2 := hK2.rfrozen hI2 (i := c) (j := 2) (by rw [List.length_set]; exact hcm) (by omega)
  have c2 := hK2.rcell hI2 hr2 (j := 2) rfl
  have hK3 := hK2.rset hI2 hr2 (j := 2) (by omega) (a := .v (.slice none 0 0)) (v := .slice none 0 0) (.v rfl)
  obtain ⟨W3, hW3⟩ : ∃ W3, W2.setCell ⟨bc, c * 7 + 2, none⟩ (.slice none 0 0) = W3 := ⟨_, rfl⟩
  rw [hW3, put_put, set_set'] at hK3
  have hI3 := put_same I1 (t, .cls) (some (rowI bc cc 74 7 ((s.cl.map ClC.row).set c ((x.row.set 0 (.v (.bool false))).set 2 (.v (.slice none 0 0))))))
  have hr3 := set_at (y := (x.row.set 0 (.v (.bool false))).set 2 (.v (.slice none 0 0))) hr0
  have f3 := hK3.rfrozen hI3 (i := c) (j := 3) (by rw [List.length_set]; exact hcm) (by omega)
  have c3 := hK3.rcell hI3 hr3 (j := 3) rfl
  have hK4 := hK3.rset hI3 hr3 (j := 3) (by omega) (a := .v (.slice none 0 0)) (v := .slice none 0 0) (.v rfl)
  obtain ⟨W4, hW4⟩ : ∃ W4, W3.setCell ⟨bc, c * 7 + 3, none⟩ (.slice none 0 0) = W4 := ⟨_, rfl⟩
  rw [hW4, put_put, set_set'] at hK4
  have hI4 := put_same I1 (t, .cls) (some (rowI bc cc 74 7 ((s.cl.map ClC.row).set c (((x.row.set 0 (.v (.bool false))).set 2 (.v (.slice none 0 0))).set 3 (.v (.slice none 0 0))))))
  have hr4 := set_at (y := ((x.row.set 0 (.v (.bool false))).set 2 (.v (.slice none 0 0))).set 3 (.v (.slice none 0 0))) hr0
  have f4 := hK4.rfrozen hI4 (i := c) (j := 4) (by rw [List.length_set]; exact hcm) (by omega)
  have c4 := hK4.rcell hI4 hr4 (j := 4) rfl
  have hK5 := hK4.rset hI4 hr4 (j := 4) (by omega) (a := .v (.int .i64 0)) (v := .int .i64 0) (.v rfl)
  rw [put_put, set_set'] at hK5
  have hx' : (((x.row.set 0 (.v (.bool false))).set 2 (.v (.slice none 0 0))).set 3 (.v (.slice none 0 0))).set 4 (.v (.int .i64 0)) = ClC.row { x with al := false, lv := .slice none 0 0, ln := [], bv := .slice none 0 0, ba := [], wt := 0 } := rfl
  rw [hx', ← map_set'] at hK5
  obtain ⟨J, hJ⟩ : ∃ J, J = put I1 (t, .cls) (some (rowI bc cc 74 7 ((s.cl.set c { x with al := false, lv := .slice none 0 0, ln := [], bv := .slice none 0 0, ba := [], wt := 0 }).map ClC.row))) := ⟨_, rfl⟩
  rw [← hJ] at hK5
  have hK6 := die_ren (t := t) (c := c) (n := s.os.length) (pIdx_nd x.ln x.ln.length) hK5
  have hJo : ∀ k, k ≠ .cls → k ≠ .ors → k ≠ .fab → J (t, k) = I (t, k) := fun k h1 h2 h3 => by rw [hJ, put_ne _ _ (key_ne h1)]; exact hf _ (key_ne h2) (key_ne h3)
  have hCl := hR.cl c x hc
  refine ⟨W2, W3, W4, f1, ⟨_, c1⟩, hW2, f2, ⟨_, c2⟩, hW3, f3, ⟨_, c3⟩, hW4, f4, ⟨_, c4⟩, μ, _, { s with cl := s.cl.set c { x with al := false, lv := .slice none 0 0, ln := [], bv := .slice none 0 0, ba := [], wt := 0 }, ov := ov, os := s.os ++ pOr x.ln x.ln.length }, MuLe.refl _, hK6, ⟨?_, ?_, fun j n hn => ?_, ?_, fun d y hy => ?_, ?_, fun k o ho => ?_⟩, ?_, fun k hk => ?_⟩
  · exact ⟨F, by rw [dieJ_ne (fun m e => by cases e) rfl, hJ, put_ne _ _ (key_ne fun e => by cases e)]; exact hfab⟩
  · exact hR.nds.same (by rw [dieJ_ne (fun m e => by cases e) rfl]; exact hJo _ (fun e => by cases e) (fun e => by cases e) fun e => by cases e)
  · rw [dieJ_ne (fun m e => by cases e) rfl, hJo _ (fun e => by cases e) (fun e => by cases e) fun e => by cases e]; exact hR.nod j n hn
  · refine .inr ⟨bc, cc, ?_, ?_⟩
    · show s.cv = Value.slice _ ((s.cl.set c _).map ClC.row).length cc
      rw [List.length_map, List.length_set]; exact hcv
    · rw [dieJ_ne (fun m e => by cases e) rfl, hJ, put_same]
  · rcases set_get hy with ⟨rfl, rfl⟩ | ⟨ne, hy⟩
    · exact ⟨.inl ⟨rfl, rfl⟩, .inl ⟨rfl, rfl⟩, fun _ => rfl, fun i l hl => by simp at hl, fun i l hl => by simp at hl⟩
    · exact (hR.cl d y hy).of fun k hk => by
        rw [dieJ_ne (fun m e => by subst e; simp [FK.ofC] at hk) (ofC_ne ne hk)]
        exact hJo k (fun e => by subst e; simp [FK.ofC] at hk) (fun e => by subst e; simp [FK.ofC] at hk) fun e => by subst e; simp [FK.ofC] at hk
  · refine (hr.put (key_ne (a := .ors) (b := .cls) fun e => by cases e) (x := some (rowI bc cc 74 7 ((s.cl.set c { x with al := false, lv := .slice none 0 0, ln := [], bv := .slice none 0 0, ba := [], wt := 0 }).map ClC.row)))).same ?_
    rw [dieJ_ne (fun m e => by cases e) rfl, hJ]
  · have ho : (s.os ++ pOr x.ln x.ln.length)[k]? = some o := ho
    have hk := lt_of ho
    obtain ⟨q1, q2⟩ := pOr_len x.ln x.ln.length
    rw [List.length_append, q1] at hk
    have hlive : dieJ t c s.os.length (pIdx x.ln x.ln.length) J (t, .orp k) = J (dieK t c s.os.length (pIdx x.ln x.ln.length) (t, .orp k)) := by
      unfold dieJ
      rw [if_neg (fun g => by
        have g2 := g.2
        have : s.os.length + (pIdx x.ln x.ln.length).length ≤ k := of_decide_eq_true g2
        omega)]
    rw [hlive]
    by_cases hlo : k < s.os.length
    · rw [List.getElem?_append_left hlo] at ho
      rw [dieK_lo hlo, hJo _ (fun e => by cases e) (fun e => by cases e) fun e => by cases e]
      exact hR.os k o ho
    · rw [List.getElem?_append_right (by omega)] at ho
      obtain ⟨i, l, p1, p2, rfl⟩ := pOr_get x.ln _ _ _ ho
      rw [dieK_hi (by omega), show (pIdx x.ln x.ln.length).getD (k - s.os.length) 0 = i by rw [List.getD, p1]; rfl, hJo _ (fun e => by cases e) (fun e => by cases e) fun e => by cases e]
      exact hCl.ps i l p2
  · unfold FbC.a ClC.a
    simp only [map_set', List.map_append, pOr_a, List.map_nil, List.length_map]
  · show dieJ t c s.os.length (pIdx x.ln x.ln.length) J k = I k
    rw [dieJ_frame hk, hJ, put_ne _ _ (fun e => hk (by rw [e]))]
    exact hf k (fun e => hk (by rw [e])) fun e => hk (by rw [e])
theorem die_ok (hK : Kst w0 μ I W) (hR : FbR t I fb s) {c : Nat} {x : ClC} (hc : s.cl[c]? = some x) (hal : x.al = true) (hlen : s.os.length + x.ln.length ≤ 90000) :
    Calls Try.prog 22 #[ptr fb, .int .i64 c] W fun e w' => e = .returned (.bool true) ∧ FSt t w0 μ I fb { s.a with cl := s.a.cl.set c { x.a with al := false, ln := [], ba := [], wt := 0 }, os := s.a.os ++ pA x.a.ln x.a.ln.length } w' := by
  obtain ⟨bc, cc, hcv, hIc, hAt⟩ := hR.clsAt hK hc
  have hCl := hR.cl c x hc
  obtain ⟨LA, lc, hlv, _⟩ := hCl.ls.val
  rw [List.length_map] at hlv
  have h2 := hR.c2 hK
  rw [hcv] at h2
  have hal' := hAt.al
  rw [hal] at hal'
  have hlv' := hAt.lv
  rw [hlv] at hlv'
  obtain ⟨F, hfab⟩ := hR.fab
  refine die_walk fb bc c s.cl.length x.ln.length lc LA W (fun i W => DieSt t w0 μ I fb s (s.os ++ pOr x.ln i) W) _ (lt_of hc) (by omega) h2 hal' hlv' ?_ ⟨fun i W' hi hJ => ?_, fun W' hJ => die_end hR hc hIc hcv hJ⟩
  · refine ⟨I, s.ov, F, hK, ?_, hfab, fun _ _ _ => rfl⟩
    show Row I (t, .ors) s.ov 80 1 ((s.os ++ []).map OrC.row)
    rw [List.append_nil]; exact hR.ovs
  · exact die_rnd hCl (List.getElem?_eq_getElem hi) hlv hlen hJ
end Go.Proofs.Ytnjccbnlmdajkaa
namespace Go.Proofs.Ytnjccbnlmdajkaa
open Go.RowKit Go.Shelf Go.Lib Go.Ev
set_option maxRecDepth 100000
variable {w0 W : World} {μ : Mu} {I : Ky → Option ItemO} {t fb : Nat} {a : FbA}
theorem FSt.kept0 {W' : World} (h : FSt t w0 μ I fb a W) (k : KeptW [] W W') : FSt t w0 μ I fb a W' := by
  obtain ⟨μ', I', s', hm, hK, hR, ha, hf⟩ := h
  exact ⟨μ', I', s', hm, hK.kept0 k, hR, ha, hf⟩
theorem map_get' {α β : Type} {f : α → β} {l : List α} {n : Nat} {y : β} (h : (l.map f)[n]? = some y) : ∃ x, l[n]? = some x ∧ f x = y := by
  rw [List.getElem?_map] at h
  cases e : l[n]? with
  | none => rw [e] at h; cases h
  | some x => rw [e] at h; exact ⟨x, rfl, Option.some.inj h⟩
theorem g_post (h : FSt t w0 μ I fb a W) {c : Nat} {x : ClA} (hc : a.cl[c]? = some x) (hal : x.al = true) (hba : x.ba = []) {n : Bool} {vs : List Vb} {v : Value} (hd : DR μ (.lst n 9 (vs.map Vb.row)) v) (hm : 1 ≤ vs.length ∧ vs.length ≤ 1024)
    (hg : ∀ u ∈ vs, u.Wf ∧ u.badN a.nd.length a.lines = 0) (hn5 : 1 ≤ a.nd.length ∧ a.nd.length ≤ 5) (hnl : x.ln.length = a.nd.length) (hq : ∀ l ∈ x.ln, l.p.q.length + vs.length ≤ 1024 ∧ l.pl.length + vs.length ≤ 1024) :
    Calls Try.prog 18 #[ptr fb, .int .i64 c, v] W fun e w' => e = .returned (.int .i64 0) ∧ FSt t w0 μ I fb { a with cl := a.cl.set c (x.post a.lines vs) } w' := by
  obtain ⟨μ', I', s', hm', hK, hR, rfl, hf⟩ := h
  obtain ⟨xc, hxc, rfl⟩ := map_get' hc
  have e1 : s'.a.nd.length = s'.nd.length := List.length_map ..
  have e2 : xc.a.ln.length = xc.ln.length := List.length_map ..
  rw [e1] at hg hn5 hnl
  rw [e2] at hnl
  refine (post_ok hK hR hxc hal hba (hd.mono hm') hm hg hn5 hnl fun l hl => hq l.a (List.mem_map_of_mem hl)).mono fun e w' he => ⟨he.1, he.2.from hm' hf⟩
theorem g_bad (h : FSt t w0 μ I fb a W) {c : Nat} {x : ClA} (hc : a.cl[c]? = some x) (hal : x.al = true) (hba : x.ba = []) {n : Bool} {vs : List Vb} {v : Value} (hd : DR μ (.lst n 9 (vs.map Vb.row)) v) (hm : 1 ≤ vs.length ∧ vs.length ≤ 1024)
    (hn5 : 1 ≤ a.nd.length ∧ a.nd.length ≤ 5) {k : Nat} {uk : Vb} (hk : vs[k]? = some uk) (hg : ∀ i u, i < k → vs[i]? = some u → u.badN a.nd.length a.lines = 0) (hb : uk.badN a.nd.length a.lines ≠ 0) :
    Calls Try.prog 18 #[ptr fb, .int .i64 c, v] W fun e w' => e = .returned (.int .i64 (uk.badN a.nd.length a.lines)) ∧ FSt t w0 μ I fb a w' := by
  obtain ⟨μ', I', s', hm', hK, hR, rfl, hf⟩ := h
  obtain ⟨xc, hxc, rfl⟩ := map_get' hc
  have e1 : s'.a.nd.length = s'.nd.length := List.length_map ..
  rw [e1] at hg hn5 hb ⊢
  exact (post_bad hK hR hxc hal hba (hd.mono hm') hm hn5 hk hg hb).mono fun e w' he => ⟨he.1, μ', I', s', hm', he.2, hR, rfl, hf⟩
theorem g_step (h : FSt t w0 μ I fb a W) {c nd : Nat} {x : ClA} {l : LnA} {n : NdA} (hc : a.cl[c]? = some x) (hl : x.ln[nd]? = some l) (hn : a.nd[nd]? = some n) (hq : l.p.q ≠ []) (hp : l.p.Ok) (hws : n.ws.length ≤ 100000)
    (hpl : (l.p.step n).2.1 = true → ∃ (ix : Nat) (rest : List Int), l.pl = (ix : Int) :: rest ∧ ix < x.ba.length ∧ rest.length ≤ 100000) :
    Calls Try.prog 20 #[ptr fb, .agg #[.int .i64 (-1), .int .i64 c, .int .i64 nd]] W fun e w' => e = .returned (.bool true) ∧
      FSt t w0 μ I fb { a with nd := a.nd.set nd (l.p.step n).2.2.2, cl := a.cl.set c (x.stepA nd (l.p.step n) l.pl) } w' := by
  obtain ⟨μ', I', s', hm', hK, hR, rfl, hf⟩ := h
  obtain ⟨xc, hxc, rfl⟩ := map_get' hc
  obtain ⟨lc, hlc, rfl⟩ := map_get' hl
  obtain ⟨nc, hnc, rfl⟩ := map_get' hn
  exact (step_ok hK hR hxc hlc hnc hq hp hws hpl).mono fun e w' he => ⟨he.1, he.2.from hm' hf⟩
theorem g_stepO (h : FSt t w0 μ I fb a W) {i nd : Nat} {p : Pr} {n : NdA} (ho : a.os[i]? = some p) (hnd : p.node = nd) (hn : a.nd[nd]? = some n) (hp : p.Ok) (hws : n.ws.length ≤ 100000) (hon : a.os.length ≤ 100000) (c m : Int) :
    Calls Try.prog 20 #[ptr fb, .agg #[.int .i64 i, .int .i64 c, .int .i64 m]] W fun e w' => e = .returned (.bool true) ∧ FSt t w0 μ I fb (a.stepO i nd (p.step n)) w' := by
  obtain ⟨μ', I', s', hm', hK, hR, rfl, hf⟩ := h
  obtain ⟨oc, hoc, rfl⟩ := map_get' ho
  obtain ⟨nc, hnc, rfl⟩ := map_get' hn
  have e1 : s'.a.os.length = s'.os.length := List.length_map ..
  rw [e1] at hon
  exact (sor_ok hK hR hoc hnd hnc hp hws hon c m).mono fun e w' he => ⟨he.1, he.2.from hm' hf⟩
theorem g_drop (h : FSt t w0 μ I fb a W) {i : Nat} (hi : i < a.os.length) (hon : a.os.length ≤ 100000) :
    Calls Try.prog 25 #[ptr fb, .int .i64 i] W fun e w' => e = .returned (.bool true) ∧ FSt t w0 μ I fb { a with os := a.os.eraseIdx i } w' := by
  obtain ⟨μ', I', s', hm', hK, hR, rfl, hf⟩ := h
  have e1 : s'.a.os.length = s'.os.length := List.length_map ..
  rw [e1] at hi hon
  exact (drop_ok hK hR hi hon).mono fun e w' he => ⟨he.1, he.2.from hm' hf⟩
theorem g_die (h : FSt t w0 μ I fb a W) {c : Nat} {x : ClA} (hc : a.cl[c]? = some x) (hal : x.al = true) (hlen : a.os.length + x.ln.length ≤ 90000) :
    Calls Try.prog 22 #[ptr fb, .int .i64 c] W fun e w' => e = .returned (.bool true) ∧ FSt t w0 μ I fb { a with cl := a.cl.set c { x with al := false, ln := [], ba := [], wt := 0 }, os := a.os ++ pA x.ln x.ln.length } w' := by
  obtain ⟨μ', I', s', hm', hK, hR, rfl, hf⟩ := h
  obtain ⟨xc, hxc, rfl⟩ := map_get' hc
  have e1 : s'.a.os.length = s'.os.length := List.length_map ..
  have e2 : xc.a.ln.length = xc.ln.length := List.length_map ..
  rw [e1, e2] at hlen
  exact (die_ok hK hR hxc hal hlen).mono fun e w' he => ⟨he.1, he.2.from hm' hf⟩
theorem g_restart (h : FSt t w0 μ I fb a W) {c : Nat} {x : ClA} {inc : Int} (hc : a.cl[c]? = some x) (hal : x.al = false) (hc6 : c < 6) (hinc : 0 ≤ inc ∧ inc ≤ 59) (hn5 : a.nd.length ≤ 5) :
    Calls Try.prog 23 #[ptr fb, .int .i64 c, .int .i64 inc] W fun e w' => e = .returned (.int .i64 0) ∧ FSt t w0 μ I fb { a with cl := a.cl.set c { x with al := true, inc := inc, ln := lnNew c inc a.nd.length } } w' := by
  obtain ⟨μ', I', s', hm', hK, hR, rfl, hf⟩ := h
  obtain ⟨xc, hxc, rfl⟩ := map_get' hc
  have e1 : s'.a.nd.length = s'.nd.length := List.length_map ..
  rw [e1] at hn5 ⊢
  exact (restart_ok hK hR hxc hal hc6 hinc hn5).mono fun e w' he => ⟨he.1, he.2.from hm' hf⟩
theorem g_choices (h : FSt t w0 μ I fb a W) (hcl : 0 < a.cl.length) (hb : a.cl.length ≤ 100 ∧ (∀ x ∈ a.cl, x.ln.length ≤ 100) ∧ a.os.length ≤ 50000) :
    Calls Try.prog 21 #[ptr fb] W fun e w' => ∃ (b : Nat) (A : Option Addr) (c : Nat), e = .returned (.slice A a.chs.length c) ∧ (0 < a.chs.length → A = some ⟨b, 0, none⟩) ∧
      (∀ k x, a.chs[k]? = some x → w'.cell? ⟨b, k * 3, none⟩ = some (.int .i64 x.1) ∧ w'.cell? ⟨b, k * 3 + 1, none⟩ = some (.int .i64 x.2.1) ∧ w'.cell? ⟨b, k * 3 + 2, none⟩ = some (.int .i64 x.2.2)) ∧ FSt t w0 μ I fb a w' := by
  obtain ⟨μ', I', s', hm', hK, hR, rfl, hf⟩ := h
  have e1 : s'.a.os.length = s'.os.length := List.length_map ..
  have e2 : s'.a.cl.length = s'.cl.length := List.length_map ..
  rw [e1, e2] at hb
  rw [e2] at hcl
  refine (choices_ok hK hR hcl ⟨hb.1, fun x hx => ?_, hb.2.2⟩).mono fun e w' he => ?_
  · have := hb.2.1 x.a (List.mem_map_of_mem hx)
    rwa [show x.a.ln.length = x.ln.length from List.length_map ..] at this
  · obtain ⟨v, rfl, I2, hK2, hrow, hI2⟩ := he
    have hst : FSt t w0 μ I fb s'.a w' := ⟨μ', I2, s', hm', hK2, hR.of fun k hk => hI2 _ (key_ne (hk 9)), rfl, fun k hk => (hI2 k fun e => hk (by rw [e])).trans (hf k hk)⟩
    rcases hrow with ⟨rfl, h0⟩ | ⟨b, c, rfl, hI⟩
    · have h0 : s'.a.chs = [] := by
        cases e : s'.a.chs with
        | nil => rfl
        | cons x r => rw [e] at h0; cases h0
      refine ⟨0, none, 0, by rw [h0]; rfl, fun h => by rw [h0] at h; simp at h, fun k x hx => by rw [h0] at hx; simp at hx, hst⟩
    · refine ⟨b, some ⟨b, 0, none⟩, c, by rw [List.length_map], fun _ => rfl, fun k x hx => ⟨hK2.rcell hI (get_map hx) (j := 0) rfl, hK2.rcell hI (get_map hx) rfl, hK2.rcell hI (get_map hx) rfl⟩, hst⟩
end Go.Proofs.Ytnjccbnlmdajkaa
namespace Go.Proofs.Ytnjccbnlmdajkaa
open Go.RowKit Go.Shelf Go.Lib Go.Ev
set_option maxRecDepth 100000
variable {w0 W : World} {μ : Mu} {I : Ky → Option ItemO} {t fb : Nat} {a : FbA}
theorem FSt.at (h : FSt t w0 μ I fb a W) {c : Nat} {x : ClA} (hc : a.cl[c]? = some x) : ∃ (bc cc : Nat) (lv bv : Value), c < a.cl.length ∧ W.cell? ⟨fb, 2, none⟩ = some (.slice (some ⟨bc, 0, none⟩) a.cl.length cc) ∧ W.cell? ⟨bc, c * 7, none⟩ = some (.bool x.al) ∧ W.cell? ⟨bc, c * 7 + 1, none⟩ = some (.int .i64 x.inc) ∧
    (x.ba = [] → W.cell? ⟨bc, c * 7 + 3, none⟩ = some (.slice none 0 0)) ∧ W.cell? ⟨bc, c * 7 + 4, none⟩ = some (.int .i64 x.wt) ∧ W.cell? ⟨bc, c * 7 + 5, none⟩ = some (.int .i64 x.tr) ∧ W.cell? ⟨bc, c * 7 + 6, none⟩ = some (.int .i64 x.po) := by
  obtain ⟨μ', I', s', hm', hK, hR, rfl, hf⟩ := h
  obtain ⟨xc, hxc, rfl⟩ := map_get' hc
  obtain ⟨bc, cc, hcv, hIc, hAt⟩ := hR.clsAt hK hxc
  have h2 := hR.c2 hK
  rw [hcv] at h2
  have e2 : s'.a.cl.length = s'.cl.length := List.length_map ..
  rw [e2]
  refine ⟨bc, cc, xc.lv, xc.bv, lt_of hxc, h2, hAt.al, hAt.inc, fun hb => ?_, hAt.wt, hAt.tr, hAt.po⟩
  rw [← (hR.cl c xc hxc).bn hb]
  exact hAt.bv
theorem g_alive (h : FSt t w0 μ I fb a W) {c : Nat} {x : ClA} (hc : a.cl[c]? = some x) : Calls Try.prog 15 #[ptr fb, .int .i64 c] W fun e w' => e = .returned (.bool x.al) ∧ w' = W := by
  obtain ⟨bc, cc, lv, bv, h0, h2, h3, h4, h5, h6, h7, h8⟩ := h.at hc
  exact alive_walk fb bc c a.cl.length x.al W h0 h2 h3
theorem g_inc (h : FSt t w0 μ I fb a W) {c : Nat} {x : ClA} (hc : a.cl[c]? = some x) : Calls Try.prog 16 #[ptr fb, .int .i64 c] W fun e w' => e = .returned (.int .i64 x.inc) ∧ w' = W := by
  obtain ⟨bc, cc, lv, bv, h0, h2, h3, h4, h5, h6, h7, h8⟩ := h.at hc
  exact inc_walk fb bc c a.cl.length x.inc W h0 h2 h4
theorem g_waiting (h : FSt t w0 μ I fb a W) {c : Nat} {x : ClA} (hc : a.cl[c]? = some x) : Calls Try.prog 19 #[ptr fb, .int .i64 c] W fun e w' => e = .returned (.int .i64 x.wt) ∧ w' = W := by
  obtain ⟨bc, cc, lv, bv, h0, h2, h3, h4, h5, h6, h7, h8⟩ := h.at hc
  exact waiting_walk fb bc c a.cl.length x.wt W h0 h2 h6
theorem g_trips (h : FSt t w0 μ I fb a W) {c : Nat} {x : ClA} (hc : a.cl[c]? = some x) : Calls Try.prog 26 #[ptr fb, .int .i64 c] W fun e w' => e = .returned (.int .i64 x.tr) ∧ w' = W := by
  obtain ⟨bc, cc, lv, bv, h0, h2, h3, h4, h5, h6, h7, h8⟩ := h.at hc
  exact trips_walk fb bc c a.cl.length x.tr W h0 h2 h7
theorem g_posted (h : FSt t w0 μ I fb a W) {c : Nat} {x : ClA} (hc : a.cl[c]? = some x) : Calls Try.prog 27 #[ptr fb, .int .i64 c] W fun e w' => e = .returned (.int .i64 x.po) ∧ w' = W := by
  obtain ⟨bc, cc, lv, bv, h0, h2, h3, h4, h5, h6, h7, h8⟩ := h.at hc
  exact posted_walk fb bc c a.cl.length x.po W h0 h2 h8
theorem g_take0 (h : FSt t w0 μ I fb a W) {c : Nat} {x : ClA} (hc : a.cl[c]? = some x) (hal : x.al = true) (hb : x.ba = []) : Calls Try.prog 24 #[ptr fb, .int .i64 c] W fun e w' => e = .returned (.tuple #[.slice none 0 0, .bool false]) ∧ w' = W := by
  obtain ⟨bc, cc, lv, bv, h0, h2, h3, h4, h5, h6, h7, h8⟩ := h.at hc
  rw [hal] at h3
  exact take_nil fb bc c a.cl.length W h0 h2 h3 (h5 hb)
theorem g_postDead (h : FSt t w0 μ I fb a W) {c : Nat} {x : ClA} (hc : a.cl[c]? = some x) (hal : x.al = false) (A : Option Addr) (m vc : Nat) : Calls Try.prog 18 #[ptr fb, .int .i64 c, .slice A m vc] W fun e w' => e = .returned (.int .i64 1) ∧ w' = W := by
  obtain ⟨bc, cc, lv, bv, h0, h2, h3, h4, h5, h6, h7, h8⟩ := h.at hc
  rw [hal] at h3
  exact post_dead fb bc c a.cl.length A m vc W h0 h2 h3
theorem g_dieDead (h : FSt t w0 μ I fb a W) {c : Nat} {x : ClA} (hc : a.cl[c]? = some x) (hal : x.al = false) : Calls Try.prog 22 #[ptr fb, .int .i64 c] W fun e w' => e = .returned (.bool false) ∧ w' = W := by
  have := g_alive h hc
  rw [hal] at this
  exact die_bad fb c W this
end Go.Proofs.Ytnjccbnlmdajkaa
namespace Go.Proofs.Ytnjccbnlmdajkaa
open Go.RowKit Go.Shelf Go.Lib Go.Ev
structure Ln (m : Nat) (c i : Int) (l : LnA) : Prop where
  inv : l.p.Inv
  node : l.p.node = i
  c : l.p.c = c
  pl : l.pl.length = l.p.q.length
  ix : ∀ j ∈ l.pl, ∃ k : Nat, j = (k : Int) ∧ k < m
def LnA.stp (l : LnA) (n : NdA) : LnA := ⟨(l.p.step n).2.2.1, if (l.p.step n).2.1 then l.pl.tail else l.pl⟩
theorem Ln.stp {m : Nat} {c i : Int} {l : LnA} (h : Ln m c i l) (hq : l.p.q ≠ []) (n : NdA) : Ln m c i (l.stp n) ∧ (l.stp n).p.left < l.p.left ∧ ((l.p.step n).2.1 = true → (l.stp n).p.q.length + 1 = l.p.q.length) ∧ ((l.p.step n).2.1 = false → (l.stp n).p.q.length = l.p.q.length) := by
  obtain ⟨h1, h2, h3, h4, h5, h6, h7⟩ := h.inv.step hq n
  have hpos : 0 < l.p.q.length := List.length_pos_iff.2 hq
  cases e : (l.p.step n).2.1 with
  | true =>
    have e2 : l.stp n = ⟨(l.p.step n).2.2.1, l.pl.tail⟩ := by unfold LnA.stp; rw [e]; rfl
    rw [e2]
    have hqq := h6 e
    refine ⟨⟨h1, h4.trans h.node, h5.trans h.c, ?_, fun j hj => h.ix j (List.mem_of_mem_tail hj)⟩, h2, fun _ => ?_, fun h => by cases h⟩
    · rw [hqq]; simp only [List.length_tail]; rw [h.pl]
    · show (l.p.step n).2.2.1.q.length + 1 = _
      rw [hqq, List.length_tail]; omega
  | false =>
    have e2 : l.stp n = ⟨(l.p.step n).2.2.1, l.pl⟩ := by unfold LnA.stp; rw [e]; rfl
    rw [e2]
    have hqq := h7 e
    refine ⟨⟨h1, h4.trans h.node, h5.trans h.c, ?_, h.ix⟩, h2, fun h => by (cases h), fun _ => ?_⟩
    · show l.pl.length = (l.p.step n).2.2.1.q.length
      rw [hqq]; exact h.pl
    · show (l.p.step n).2.2.1.q.length = _
      rw [hqq]
structure Bt (m : Nat) (c : Int) (B : Nat) (l0 l1 : LnA) (x : ClA) : Prop where
  al : x.al = true
  ln : x.ln = [l0, l1]
  h0 : Ln m c 0 l0
  h1 : Ln m c 1 l1
  ba : x.ba.length = m
  wt : x.wt = ((l0.p.q.length + l1.p.q.length : Nat) : Int)
  left : l0.p.left + l1.p.left ≤ B
theorem stepA_eq (x : ClA) (nd : Nat) (l : LnA) (n : NdA) : x.stepA nd (l.p.step n) l.pl = { x with ln := x.ln.set nd (l.stp n), ba := if (l.p.step n).2.1 then x.ba.set (l.pl.headD 0).toNat (l.p.step n).1 else x.ba, wt := if (l.p.step n).2.1 then wrap64 (x.wt - 1) else x.wt } := by
  unfold ClA.stepA LnA.stp
  cases (l.p.step n).2.1 <;> rfl
theorem wt_step {a b : Nat} {w : Int} (hw : w = (a : Int)) (ha : a ≤ 100000) (hb : b + 1 = a) : wrap64 (w - 1) = (b : Int) := by
  rw [w64, w_i64]; omega
theorem Bt.step0 {m : Nat} {c : Int} {B : Nat} {l0 l1 : LnA} {x : ClA} (h : Bt m c B l0 l1 x) (hq : l0.p.q ≠ []) (n : NdA) : Bt m c (B - 1) (l0.stp n) l1 (x.stepA 0 (l0.p.step n) l0.pl) := by
  obtain ⟨h1, h2, h3, h4⟩ := h.h0.stp hq n
  have hl := h.left
  have b0 := h.h0.inv.ql
  have b1 := h.h1.inv.ql
  rw [stepA_eq]
  refine ⟨h.al, by simp only [h.ln]; rfl, h1, h.h1, ?_, ?_, by omega⟩
  · show (if _ then _ else _ : List DnA).length = m
    split
    · rw [List.length_set]; exact h.ba
    · exact h.ba
  · show (if _ then _ else _ : Int) = _
    cases e : (l0.p.step n).2.1 with
    | true =>
      have := h3 e
      rw [if_pos rfl]
      exact wt_step h.wt (by omega) (by omega)
    | false =>
      have := h4 e
      rw [if_neg (by simp), this]
      exact h.wt
theorem Bt.step1 {m : Nat} {c : Int} {B : Nat} {l0 l1 : LnA} {x : ClA} (h : Bt m c B l0 l1 x) (hq : l1.p.q ≠ []) (n : NdA) : Bt m c (B - 1) l0 (l1.stp n) (x.stepA 1 (l1.p.step n) l1.pl) := by
  obtain ⟨h1, h2, h3, h4⟩ := h.h1.stp hq n
  have hl := h.left
  have b0 := h.h0.inv.ql
  have b1 := h.h1.inv.ql
  rw [stepA_eq]
  refine ⟨h.al, by simp only [h.ln]; rfl, h.h0, h1, ?_, ?_, by omega⟩
  · show (if _ then _ else _ : List DnA).length = m
    split
    · rw [List.length_set]; exact h.ba
    · exact h.ba
  · show (if _ then _ else _ : Int) = _
    cases e : (l1.p.step n).2.1 with
    | true =>
      have := h3 e
      rw [if_pos rfl]
      exact wt_step h.wt (by omega) (by omega)
    | false =>
      have := h4 e
      rw [if_neg (by simp), this]
      exact h.wt
theorem Ln.head {m : Nat} {c i : Int} {l : LnA} (h : Ln m c i l) (hq : l.p.q ≠ []) : ∃ (ix : Nat) (rest : List Int), l.pl = (ix : Int) :: rest ∧ ix < m ∧ rest.length ≤ 100000 := by
  have hpos : 0 < l.p.q.length := List.length_pos_iff.2 hq
  have hpl := h.pl
  have hql := h.inv.ql
  cases e : l.pl with
  | nil => rw [e] at hpl; simp at hpl; omega
  | cons j r =>
    obtain ⟨k, rfl, hk⟩ := h.ix j (by rw [e]; simp)
    rw [e] at hpl
    simp at hpl
    exact ⟨k, r, rfl, hk, by omega⟩
theorem np_lines {v : Vb} {n lines : Int} (h : v.badN n lines = 0) (hl : lines ≤ 12) : v.np ≤ 96 ∧ 1 ≤ v.cnt ∧ v.cnt ≤ 1024 := by
  unfold Vb.badN at h
  split at h
  · cases h
  split at h
  · cases h
  rename_i h1 h2
  obtain ⟨g1, g2, g3, g4, g5, g6, g7, g8, g9⟩ := Decidable.not_not.1 h2
  have := pcs_len v.at_ v.cnt
  unfold Vb.np Vb.hi at *
  refine ⟨?_, by omega, by omega⟩
  have : v.cnt ≤ 96 := by omega
  omega
theorem Ln.post {m : Nat} {c i : Int} {l : LnA} (h : Ln m c i l) {v : Vb} {n lines : Int} (hn : n ≤ 5) (hl : lines ≤ 12) (hb : v.badN n lines = 0) (hw : v.Wf) (hv : v.node = i) (hq : l.p.q.length < 1024) {k : Nat} (hk : k < m) :
    Ln m c i ⟨l.p.post v lines, l.pl ++ [(k : Int)]⟩ ∧ (l.p.post v lines).left ≤ l.p.left + 96 ∧ l.p.post v lines = { l.p with qn := false, q := l.p.q ++ [v] } := by
  obtain ⟨hbad, _, _⟩ := badN_bad hn hb
  obtain ⟨hnp, hc1, hc2⟩ := np_lines hb hl
  have hpos := np_pos hc1
  have e : l.p.post v lines = { l.p with qn := false, q := l.p.q ++ [v] } := by
    have e0 : l.p.postE v lines = 0 := by
      unfold Pr.postE
      rw [if_neg (fun g => g hbad), if_neg (fun g => g (hv.trans h.node.symm)), if_neg (by omega)]
    unfold Pr.post
    rw [if_pos e0]
  refine ⟨?_, ?_, e⟩
  · rw [e]
    refine ⟨⟨h.inv.c, h.inv.inc, fun _ => rfl, ?_, h.inv.ex0, h.inv.w, fun u hu => ?_, fun u r hu => ?_, fun hz => ?_⟩, h.node, h.c, ?_, fun j hj => ?_⟩
    · show (l.p.q ++ [v]).length ≤ 1024
      rw [List.length_append]; simp; omega
    · rcases List.mem_append.1 hu with hu | hu
      · exact h.inv.vs u hu
      · simp at hu; subst hu; exact ⟨hc1, hc2, hw⟩
    · have hu : l.p.q ++ [v] = u :: r := hu
      show l.p.ex.toNat < u.np
      cases e : l.p.q with
      | nil =>
        rw [e] at hu; cases hu
        rw [h.inv.z e]; exact hpos
      | cons u' r' =>
        rw [e] at hu
        cases hu
        exact h.inv.ex _ _ e
    · have hz : l.p.q ++ [v] = [] := hz
      simp at hz
    · show (l.pl ++ [_]).length = (l.p.q ++ [v]).length
      rw [List.length_append, List.length_append, h.pl]; rfl
    · rcases List.mem_append.1 hj with hj | hj
      · exact h.ix j hj
      · simp at hj; exact ⟨k, hj, hk⟩
  · rw [e]
    unfold Pr.left
    show ((l.p.q ++ [v]).map Vb.np).sum - l.p.ex.toNat ≤ _
    rw [List.map_append, List.sum_append]
    simp only [List.map_cons, List.map_nil, List.sum_cons, List.sum_nil]
    omega
theorem lnPosts_two {m : Nat} {c : Int} {lines : Int} (hl : lines ≤ 12) {vs : List Vb} (hg : ∀ u ∈ vs, u.Wf ∧ u.badN 2 lines = 0) (hm : vs.length ≤ m ∧ vs.length ≤ 1000) {l0 l1 : LnA} (h0 : Ln m c 0 l0) (h1 : Ln m c 1 l1) (e0 : l0.p.q = []) (e1 : l1.p.q = []) :
    ∀ i, i ≤ vs.length → ∃ k0 k1, lnPosts lines vs [l0, l1] i = [k0, k1] ∧ Ln m c 0 k0 ∧ Ln m c 1 k1 ∧ k0.p.q.length + k1.p.q.length = i ∧ k0.p.left + k1.p.left ≤ l0.p.left + l1.p.left + i * 96
  | 0, _ => ⟨l0, l1, rfl, h0, h1, by rw [e0, e1]; rfl, by omega⟩
  | i + 1, hi => by
    obtain ⟨k0, k1, he, g0, g1, g2, g3⟩ := lnPosts_two hl hg hm h0 h1 e0 e1 i (by omega)
    obtain ⟨v, hv⟩ : ∃ v, vs[i]? = some v := ⟨_, List.getElem?_eq_getElem (by omega)⟩
    obtain ⟨hw, hb⟩ := hg v (List.mem_of_getElem? hv)
    obtain ⟨_, n0, n1⟩ := badN_bad (n := 2) (by omega) hb
    unfold lnPosts
    rw [hv, he]
    show ∃ k0 k1, lnPost lines [_, _] i v = _ ∧ _
    unfold lnPost
    rcases (show v.node = 0 ∨ v.node = 1 by omega) with e | e
    · obtain ⟨p1, p2, p3⟩ := g0.post (n := 2) (by omega) hl hb hw e (by omega) (k := i) (by omega)
      rw [e]
      refine ⟨_, k1, rfl, p1, g1, ?_, ?_⟩
      · show (k0.p.post v lines).q.length + _ = _
        rw [p3]
        show (k0.p.q ++ [v]).length + _ = _
        rw [List.length_append]; simp; omega
      · show (k0.p.post v lines).left + _ ≤ _
        omega
    · obtain ⟨p1, p2, p3⟩ := g1.post (n := 2) (by omega) hl hb hw e (by omega) (k := i) (by omega)
      rw [e]
      refine ⟨k0, _, rfl, g0, p1, ?_, ?_⟩
      · show _ + (k1.p.post v lines).q.length = _
        rw [p3]
        show _ + (k1.p.q ++ [v]).length = _
        rw [List.length_append]; simp; omega
      · show _ + (k1.p.post v lines).left ≤ _
        omega
theorem ln_new {m : Nat} {c inc i : Int} (hc : 0 ≤ c ∧ c ≤ 1000) (hi : 0 ≤ inc ∧ inc ≤ 1000) : Ln m c i ⟨prNew c inc i, []⟩ ∧ (prNew c inc i).left = 0 ∧ (prNew c inc i).q = [] :=
  ⟨⟨⟨hc, hi, fun h => absurd rfl h, by simp [prNew], Int.le_refl _, by simp [prNew], fun v hv => by simp [prNew] at hv, fun v r h => by simp [prNew] at h, fun _ => rfl⟩, rfl, rfl, rfl, fun j hj => by simp at hj⟩, rfl, rfl⟩
theorem lnNew_two (c inc : Int) : lnNew c inc 2 = [⟨prNew c inc 0, []⟩, ⟨prNew c inc 1, []⟩] := rfl
theorem Bt.post {c inc lines : Int} (hc : 0 ≤ c ∧ c ≤ 1000) (hi : 0 ≤ inc ∧ inc ≤ 1000) (hl : lines ≤ 12) {vs : List Vb} (hg : ∀ u ∈ vs, u.Wf ∧ u.badN 2 lines = 0) (hm : vs.length ≤ 1000) {x : ClA} (hx : x.al = true) (hln : x.ln = lnNew c inc 2) :
    ∃ l0 l1, Bt vs.length c (vs.length * 96) l0 l1 (x.post lines vs) := by
  obtain ⟨a0, a1, a2⟩ := @ln_new vs.length c inc 0 hc hi
  obtain ⟨b0, b1, b2⟩ := @ln_new vs.length c inc 1 hc hi
  obtain ⟨k0, k1, he, g0, g1, g2, g3⟩ := lnPosts_two hl hg ⟨Nat.le_refl _, hm⟩ a0 b0 a2 b2 vs.length (Nat.le_refl _)
  refine ⟨k0, k1, hx, ?_, g0, g1, ?_, ?_, ?_⟩
  · show lnPosts lines vs x.ln vs.length = _
    rw [hln, lnNew_two]; exact he
  · show (List.replicate _ _).length = _
    exact List.length_replicate ..
  · show ((vs.length : Nat) : Int) = _
    rw [g2]
  · rw [show (⟨prNew c inc 0, []⟩ : LnA).p.left = 0 from a1, show (⟨prNew c inc 1, []⟩ : LnA).p.left = 0 from b1] at g3
    omega
end Go.Proofs.Ytnjccbnlmdajkaa
namespace Go.Proofs.Ytnjccbnlmdajkaa
open Go.RowKit Go.Shelf Go.Lib Go.Ev
set_option maxRecDepth 100000
variable {w0 W : World} {μ : Mu} {I : Ky → Option ItemO} {t fb : Nat} {a : FbA}
theorem FSt.kept (h : FSt t w0 μ I fb a W) : KeptW [] w0 W := by
  obtain ⟨μ', I', s', hm, hK, _⟩ := h
  exact hK.kept
theorem g_verbs (h : FSt t w0 μ I fb a W) {n : Bool} {rs : List Rw} {v : Value} (hd : DR μ (.lst n 6 (rs.map Rw.row)) v) (hm : 1 ≤ rs.length ∧ rs.length ≤ 50000) :
    Calls Try.prog 17 #[v] W fun e w' => ∃ (μ' : Mu) (vs : List Vb) (n' : Bool) (A : Option Addr) (c : Nat), e = .returned (.slice A vs.length c) ∧ MuLe μ μ' ∧ DR μ' (.lst n' 9 (vs.map Vb.row)) (.slice A vs.length c) ∧ vs.length = rs.length ∧ (∀ u ∈ vs, u.Wf) ∧ FSt t w0 μ' I fb a w' := by
  obtain ⟨μ1, I1, s, hm1, hK, hR, rfl, hf⟩ := h
  refine (verbs_ok t hK (hd.mono hm1) hm).mono fun e w' he => ?_
  obtain ⟨μ2, I2, vs, n', A, c, rfl, hm2, hK2, hd2, hl, hw, hn⟩ := he
  exact ⟨μ2, vs, n', A, c, rfl, hm1.trans hm2, hd2, hl, hw, μ2, I2, s, MuLe.refl _, hK2, hR.of fun k hk => hn _ fun n e => hk n (Prod.mk.inj e).2, rfl, fun k hk => (hn k fun n e => hk (by rw [e])).trans (hf k hk)⟩
theorem first_bad {vs : List Vb} (n lines : Int) : (∀ u ∈ vs, u.badN n lines = 0) ∨ ∃ (k : Nat) (uk : Vb), vs[k]? = some uk ∧ (∀ (i : Nat) (u : Vb), i < k → vs[i]? = some u → u.badN n lines = 0) ∧ uk.badN n lines ≠ 0 := by
  induction vs with
  | nil => exact .inl fun u hu => by cases hu
  | cons v r ih =>
    by_cases hv : v.badN n lines = 0
    · rcases ih with h | ⟨k, uk, h1, h2, h3⟩
      · refine .inl fun u hu => ?_
        rcases List.mem_cons.1 hu with rfl | hu
        · exact hv
        · exact h u hu
      · refine .inr ⟨k + 1, uk, h1, fun i u hi hu => ?_, h3⟩
        cases i with
        | zero => cases hu; exact hv
        | succ i => exact h2 i u (by omega) hu
    · exact .inr ⟨0, v, rfl, fun i u hi => by omega, hv⟩
theorem g_lit (h : FSt t w0 μ I fb a W) (u : Vb) (hu : u.wn = true ∧ u.ws = []) : ∃ (μ' : Mu) (n : Bool), DR μ' (.lst n 9 ([u].map Vb.row)) (.slice (some ⟨W.heap.size, 0, none⟩) [u].length 1) ∧ FSt t w0 μ' I fb a (W.alloc (.cells (vCells u.kind u.node u.at_ u.n u.old u.new none 0 0 u.key u.boot) 50)) := by
  obtain ⟨μ1, I1, s, hm1, hK, hR, rfl, hf⟩ := h
  have hd : DR μ1 (.lst u.wn 1 (u.ws.map wr)) (.slice none 0 0) := by rw [hu.1, hu.2]; exact dr_nil
  have hk := hK.allocR (t, .tmp 31) (cur := vCells u.kind u.node u.at_ u.n u.old u.new none 0 0 u.key u.boot) (T := 50) (c := 1) (sz := 9) (xs := [u].map Vb.row) rfl (Nat.le_refl _) ⟨fun e he => by simp at he; subst he; rfl, fun k e j c he hc => by
    cases k with
    | succ k => simp at he
    | zero =>
      cases he
      have hj : j < 9 := (List.getElem?_eq_some_iff.1 hc).1
      obtain ⟨x, hx⟩ : ∃ x, (vCells u.kind u.node u.at_ u.n u.old u.new none 0 0 u.key u.boot).toList[j]? = some x := ⟨_, List.getElem?_eq_getElem hj⟩
      refine ⟨x, ?_, vCells_dr hd j c x hc hx⟩
      rw [Nat.zero_mul, Nat.zero_add, ← Array.getElem?_toList]; exact hx⟩
  obtain ⟨μ', n, hm', hK', hd', _⟩ := hk.rfrz (k := (t, .tmp 31)) (.inr ⟨_, _, rfl, put_same _ _ _⟩)
  refine ⟨μ', n, hd', μ', _, s, MuLe.refl _, hK', hR.of fun k hk => ?_, rfl, fun k hk => ?_⟩
  · rw [put_ne _ _ (key_ne (hk 31)), put_ne _ _ (key_ne (hk 31))]
  · rw [put_ne _ _ fun e => hk (by rw [e]), put_ne _ _ fun e => hk (by rw [e])]; exact hf k hk
theorem chO_get (os : List Pr) : ∀ k, k ≤ os.length → (chO os k).length = k ∧ ∀ i p, i < k → os[i]? = some p → (chO os k)[i]? = some ((i : Int), p.c, p.node)
  | 0, _ => ⟨rfl, fun i p hi => by omega⟩
  | k + 1, hk => by
    obtain ⟨h1, h2⟩ := chO_get os k (by omega)
    obtain ⟨q, hq⟩ : ∃ q, os[k]? = some q := ⟨_, List.getElem?_eq_getElem (by omega)⟩
    unfold chO
    rw [hq]
    refine ⟨by rw [List.length_append, h1]; rfl, fun i p hi hp => ?_⟩
    by_cases e : i = k
    · subst e
      rw [hq] at hp; cases hp
      rw [List.getElem?_append_right (by omega), h1, Nat.sub_self]; rfl
    · rw [List.getElem?_append_left (by omega)]
      exact h2 i p (by omega) hp
theorem chL_new (c inc : Int) (d : Nat) : chL (lnNew c inc 2) d (lnNew c inc 2).length = [] := by
  simp [chL, lnNew_two, prNew]
theorem chL_two (l0 l1 : LnA) (d : Nat) : chL [l0, l1] d [l0, l1].length = (if l0.p.q = [] then [] else [(-1, (d : Int), 0)]) ++ (if l1.p.q = [] then [] else [(-1, (d : Int), 1)]) := by
  simp [chL]
def Ors (os : List Pr) : Prop := ∀ p ∈ os, p.Inv ∧ p.q ≠ [] ∧ p.c = 0 ∧ (p.node = 0 ∨ p.node = 1)
def lefts (os : List Pr) : Nat := (os.map Pr.left).sum
theorem Bt.mono {m : Nat} {c : Int} {B B' : Nat} {l0 l1 : LnA} {x : ClA} (h : Bt m c B l0 l1 x) (hB : B ≤ B') : Bt m c B' l0 l1 x := ⟨h.al, h.ln, h.h0, h.h1, h.ba, h.wt, by have := h.left; omega⟩
theorem orphans {m : Nat} {B : Nat} {l0 l1 : LnA} {x : ClA} (h : Bt m 0 B l0 l1 x) : Ors (pA x.ln x.ln.length) ∧ lefts (pA x.ln x.ln.length) ≤ B ∧ (pA x.ln x.ln.length).length ≤ 2 := by
  rw [h.ln]
  have hl := h.left
  have e : pA [l0, l1] [l0, l1].length = (if l0.p.q = [] then [] else [l0.p]) ++ (if l1.p.q = [] then [] else [l1.p]) := by simp [pA]
  rw [e]
  unfold Ors lefts
  by_cases h0 : l0.p.q = [] <;> by_cases h1 : l1.p.q = []
  · rw [if_pos h0, if_pos h1]; exact ⟨fun p hp => (by cases hp), Nat.zero_le _, by decide⟩
  · rw [if_pos h0, if_neg h1]
    refine ⟨fun p hp => ?_, ?_, by simp⟩
    · simp at hp; subst hp; exact ⟨h.h1.inv, h1, h.h1.c, .inr h.h1.node⟩
    · simp; omega
  · rw [if_neg h0, if_pos h1]
    refine ⟨fun p hp => ?_, ?_, by simp⟩
    · simp at hp; subst hp; exact ⟨h.h0.inv, h0, h.h0.c, .inl h.h0.node⟩
    · simp; omega
  · rw [if_neg h0, if_neg h1]
    refine ⟨fun p hp => ?_, ?_, by simp⟩
    · simp at hp
      rcases hp with rfl | rfl
      · exact ⟨h.h0.inv, h0, h.h0.c, .inl h.h0.node⟩
      · exact ⟨h.h1.inv, h1, h.h1.c, .inr h.h1.node⟩
    · simp; omega
end Go.Proofs.Ytnjccbnlmdajkaa
namespace Go.Proofs.Ytnjccbnlmdajkaa
open Go.RowKit Go.Shelf Go.Lib Go.Ev
theorem split_at {α : Type} : ∀ (l : List α) (i : Nat) (x : α), l[i]? = some x → ∃ l1 l2, l = l1 ++ x :: l2 ∧ l1.length = i
  | [], i, x, h => by simp at h
  | y :: l, 0, x, h => by simp at h; exact ⟨[], l, by rw [h]; rfl, rfl⟩
  | y :: l, i + 1, x, h => by
    obtain ⟨l1, l2, h1, h2⟩ := split_at l i x (by simpa using h)
    exact ⟨y :: l1, l2, by rw [h1]; rfl, by simp [h2]⟩
theorem set_mid {α : Type} (l1 l2 : List α) (x y : α) : (l1 ++ x :: l2).set l1.length y = l1 ++ y :: l2 := by
  rw [List.set_append_right _ _ (Nat.le_refl _), Nat.sub_self]; rfl
structure FS (w0 : World) (bf bn n cn : Nat) (its : List ItemO) (W : World) : Prop where
  kept : KeptW [] w0 W
  own : Owns mu0 W its
  hdr : ∃ curf curn : Array Value, W.heap[bf]? = some (.cells curf 62 (0, 0)) ∧ curf[1]? = some (.slice (some ⟨bn, 0, none⟩) n cn) ∧ W.heap[bn]? = some (.cells curn 28 (0, 0)) ∧
    ∀ (i : Nat) (x : ItemO), its[i]? = some x → ∃ pb : Nat, x.p = .pointer (some ⟨pb, 0, none⟩) ∧ curn[i]? = some x.p
  apart : ∀ b ∈ foot its, b ≠ bf ∧ b ≠ bn ∧ w0.heap.size ≤ b
theorem mu0_new {P : Nat → Prop} : ∀ b o, mu0 b = some o → mu0 b = some o ∨ P b := fun b o h => by cases h
theorem FS.kept' {w0 W W' : World} {bf bn n cn : Nat} {its : List ItemO} {D : List Nat} (h : FS w0 bf bn n cn its W) (k : KeptW D W W') (hd : ∀ b ∈ D, b ≠ bf ∧ b ≠ bn ∧ b ∉ foot its ∧ w0.heap.size ≤ b) : FS w0 bf bn n cn its W' := by
  obtain ⟨curf, curn, h1, h2, h3, h4⟩ := h.hdr
  exact ⟨h.kept.trans k fun x hx => .inr (hd x hx).2.2.2, h.own.kept k (MuLe.refl _) mu0_new fun b hb => (hd b hb).2.2.1, ⟨curf, curn, k.get h1 fun e => (hd _ e).1 rfl, h2, k.get h3 fun e => (hd _ e).2.1 rfl, h4⟩, h.apart⟩
theorem FS.kept0 {w0 W W' : World} {bf bn n cn : Nat} {its : List ItemO} (h : FS w0 bf bn n cn its W) (k : KeptW [] W W') : FS w0 bf bn n cn its W' := h.kept' k fun b hb => by cases hb
theorem FS.cells {w0 W : World} {bf bn n cn i : Nat} {its : List ItemO} {x : ItemO} (h : FS w0 bf bn n cn its W) (hi : its[i]? = some x) :
    ∃ pb : Nat, x.p = .pointer (some ⟨pb, 0, none⟩) ∧ W.cell? ⟨bf, 1, none⟩ = some (.slice (some ⟨bn, 0, none⟩) n cn) ∧ W.cell? ⟨bn, i, none⟩ = some (.pointer (some ⟨pb, 0, none⟩)) := by
  obtain ⟨curf, curn, h1, h2, h3, h4⟩ := h.hdr
  obtain ⟨pb, hp, hc⟩ := h4 i x hi
  exact ⟨pb, hp, cell_of h1 h2, hp ▸ cell_of h3 hc⟩
theorem FS.cell1 {w0 W : World} {bf bn n cn : Nat} {its : List ItemO} (h : FS w0 bf bn n cn its W) : W.cell? ⟨bf, 1, none⟩ = some (.slice (some ⟨bn, 0, none⟩) n cn) := by
  obtain ⟨curf, curn, h1, h2, h3, h4⟩ := h.hdr
  exact cell_of h1 h2
theorem FS.call {w0 W : World} {bf bn n cn i : Nat} {its : List ItemO} {x : ItemO} (h : FS w0 bf bn n cn its W) (hi : its[i]? = some x) {f : FuncId} {fn : Func} {dv rv : List Value} {a' : AV}
    (hev : ev f (x.a :: dv.map AV.v) = some (rv.map AV.v ++ [a'])) (hfn : Try.prog.funcs[f]? = some fn) (hsz : fn.resultTypes.size = rv.length) (hok : ∀ v ∈ dv, okC (.v v) = true) (hfl : flatO a' = true) :
    Calls Try.prog f (x.p :: dv).toArray W fun e w' => e = .returned (retV rv) ∧ ∃ F', FS w0 bf bn n cn (its.set i ⟨x.p, F', a'⟩) w' := by
  obtain ⟨l1, l2, hl, hl1⟩ := split_at its i x hi
  have hset : ∀ y, its.set i y = l1 ++ y :: l2 := fun y => by rw [hl, ← hl1]; exact set_mid l1 l2 x y
  have hO : Owns mu0 W (x :: (l1 ++ l2)) := by
    have := h.own; rw [hl] at this
    exact this.perm List.perm_middle
  obtain ⟨hx1, hx2, hrest, hdis⟩ := hO.head
  have hfoot : ∀ b, b ∈ foot its ↔ b ∈ x.F ∨ b ∈ foot (l1 ++ l2) := fun b => by
    rw [hl, foot_app, foot_cons, foot_app]
    simp only [List.mem_append]
    constructor
    · rintro (h | h | h)
      · exact .inr (.inl h)
      · exact .inl h
      · exact .inr (.inr h)
    · rintro (h | h | h)
      · exact .inr (.inl h)
      · exact .inl h
      · exact .inr (.inr h)
  have hB : B2s mu0 (hf W) x.F [x.p] (x.a :: dv.map AV.v) (x.p :: dv) := by
    have := B2s.cons (F' := []) (G' := []) (B2.o hx1) (b2s_vals (μ := mu0) (hp := hf W) dv hok)
    rwa [List.append_nil, List.append_nil] at this
  refine (call_rest mix extOk hev hfn (mu0_imm W) hB hx2 hrest hdis).mono fun e w' he => ?_
  obtain ⟨ra, ro, vs, μ', F1, F2, G1, hrs, hra, rfl, hk, _, hi', hb1, hb2, hnd, hnew, _, hap, _⟩ := he
  obtain ⟨e1, e2⟩ := List.append_inj hrs (by rw [List.length_map, ← hsz, hra])
  subst e1 e2
  obtain ⟨rfl, rfl⟩ := b2s_vals_inv (F := F1) (G := G1) _ hb1
  obtain ⟨v, hv, hb⟩ := b1s_one hb2
  cases hv
  rw [List.nil_append] at hnd hnew hap
  refine ⟨rfl, F2, ?_⟩
  rw [hset]
  have hown : Owns mu0 w' (⟨x.p, F2, a'⟩ :: (l1 ++ l2)) := .cons (flatO_b1 hfl hb) hnd (hrest.kept hk (MuLe.refl _) mu0_new hdis) hap
  obtain ⟨curf, curn, h1, h2, h3, h4⟩ := h.hdr
  have hbf : bf ∉ x.F := fun e => (h.apart bf ((hfoot bf).2 (.inl e))).1 rfl
  have hbn : bn ∉ x.F := fun e => (h.apart bn ((hfoot bn).2 (.inl e))).2.1 rfl
  refine ⟨h.kept.trans hk fun b hb => .inr (h.apart b ((hfoot b).2 (.inl hb))).2.2, hown.perm List.perm_middle.symm, ⟨curf, curn, hk.get h1 hbf, h2, hk.get h3 hbn, fun k y hy => ?_⟩, fun b hb => ?_⟩
  · by_cases hki : k = i
    · subst hki
      obtain ⟨pb, hp, hc⟩ := h4 k x hi
      rw [← hl1, List.getElem?_append_right (Nat.le_refl _), Nat.sub_self] at hy
      simp at hy
      subst hy
      exact ⟨pb, hp, hc⟩
    · refine h4 k y ?_
      rw [← hset, List.getElem?_set_ne (fun e => hki e.symm)] at hy
      exact hy
  · rw [foot_app, foot_cons] at hb
    simp only [List.mem_append] at hb
    have hold : b ∈ foot its → b ≠ bf ∧ b ≠ bn ∧ w0.heap.size ≤ b := h.apart b
    have hm : b ∈ foot l1 ∨ b ∈ foot l2 → b ∈ foot its := fun h => (hfoot b).2 (.inr (by rw [foot_app]; exact List.mem_append.2 h))
    rcases hb with hb | hb | hb
    · exact hold (hm (.inl hb))
    · rcases hnew b hb with hb | hb
      · exact hold ((hfoot b).2 (.inl hb))
      · have g1 := (Array.getElem?_eq_some_iff.1 h1).1
        have g2 := (Array.getElem?_eq_some_iff.1 h3).1
        have := h.kept.size
        exact ⟨by omega, by omega, by omega⟩
    · exact hold (hm (.inr hb))
end Go.Proofs.Ytnjccbnlmdajkaa
namespace Go.Proofs.Ytnjccbnlmdajkaa
open Go.RowKit Go.Shelf Go.Lib Go.Ev
theorem kept_cell {D : List Nat} {a b : World} (h : KeptW D a b) {x j : Nat} {v : Value} (hx : a.cell? ⟨x, j, none⟩ = some v) (hd : x ∉ D) : b.cell? ⟨x, j, none⟩ = some v := by
  cases e : a.heap[x]? with
  | none => simp [World.cell?, e] at hx
  | some o =>
    have := h.get e hd
    rw [← hx]
    simp only [World.cell?, e, this]
structure CS (w0 : World) (ln : Int) (bf bc nc k bn n cn : Nat) (its : List ItemO) (W : World) : Prop where
  fs : FS w0 bf bn n cn its W
  bcs : ∃ cur : Array Value, W.heap[bc]? = some (.cells cur 74 (0, 0)) ∧ cur.size = nc * 7 ∧ (∀ c, c < k → cur[c * 7]? = some (.bool true) ∧ cur[c * 7 + 1]? = some (.int .i64 1)) ∧
    ∀ c, c < nc → cur[c * 7 + 3]? = some (.slice none 0 0) ∧ cur[c * 7 + 4]? = some (.int .i64 0) ∧ cur[c * 7 + 5]? = some (.int .i64 0) ∧ cur[c * 7 + 6]? = some (.int .i64 0)
  bfs : W.cell? ⟨bf, 2, none⟩ = some (.slice (some ⟨bc, 0, none⟩) nc nc)
  lin : W.cell? ⟨bf, 0, none⟩ = some (.int .i64 ln) ∧ W.cell? ⟨bf, 3, none⟩ = some (.slice none 0 0)
  ne : bc ≠ bf ∧ bc ≠ bn ∧ w0.heap.size ≤ bc ∧ bc ∉ foot its
  bnw : w0.heap.size ≤ bn
theorem CS.kept {w0 W W' : World} {ln : Int} {bf bc nc k bn n cn : Nat} {its : List ItemO} {D : List Nat} (h : CS w0 ln bf bc nc k bn n cn its W) (kk : KeptW D W W') (hd : ∀ b ∈ D, b ≠ bf ∧ b ≠ bn ∧ b ∉ foot its ∧ w0.heap.size ≤ b ∧ b ≠ bc) : CS w0 ln bf bc nc k bn n cn its W' := by
  obtain ⟨cur, h1, h2, h3, h4⟩ := h.bcs
  exact ⟨h.fs.kept' kk fun b hb => ⟨(hd b hb).1, (hd b hb).2.1, (hd b hb).2.2.1, (hd b hb).2.2.2.1⟩, ⟨cur, kk.get h1 fun e => (hd _ e).2.2.2.2 rfl, h2, h3, h4⟩, kept_cell kk h.bfs fun e => (hd _ e).1 rfl, ⟨kept_cell kk h.lin.1 fun e => (hd _ e).1 rfl, kept_cell kk h.lin.2 fun e => (hd _ e).1 rfl⟩, h.ne, h.bnw⟩
theorem CS.set {w0 W : World} {ln : Int} {bf bc nc k bn n cn j : Nat} {its : List ItemO} {v : Value} (h : CS w0 ln bf bc nc k bn n cn its W) (hj : j < nc * 7) (hr : j % 7 ≤ 2) (hkj : k * 7 ≤ j) :
    CS w0 ln bf bc nc k bn n cn its (W.setCell ⟨bc, j, none⟩ v) ∧ W.frozen? ⟨bc, j, none⟩ = false ∧ (∃ x, W.cell? ⟨bc, j, none⟩ = some x) ∧ (W.setCell ⟨bc, j, none⟩ v).cell? ⟨bc, j, none⟩ = some v ∧ KeptW [bc] W (W.setCell ⟨bc, j, none⟩ v) ∧ ∀ j', j' ≠ j → (W.setCell ⟨bc, j, none⟩ v).cell? ⟨bc, j', none⟩ = W.cell? ⟨bc, j', none⟩ := by
  obtain ⟨cur, h1, h2, h3, h4⟩ := h.bcs
  obtain ⟨kk, hk⟩ := KeptW.set (j := j) (v := v) h1
  have ho : ∀ j', j' ≠ j → (cur.setIfInBounds j v)[j']? = cur[j']? := fun j' hj' => by rw [Array.getElem?_setIfInBounds, if_neg (fun e => hj' e.symm)]
  refine ⟨⟨h.fs.kept' kk fun b hb => ?_, ⟨_, hk, by rw [Array.size_setIfInBounds]; exact h2, fun c hc => ?_, fun c hc => ?_⟩, kept_cell kk h.bfs (by simp [h.ne.1.symm]), ⟨kept_cell kk h.lin.1 (by simp [h.ne.1.symm]), kept_cell kk h.lin.2 (by simp [h.ne.1.symm])⟩, h.ne, h.bnw⟩, frozen_of h1 j, ⟨cur[j], cell_of h1 (Array.getElem?_eq_getElem (by omega))⟩, cell_of hk (by rw [Array.getElem?_setIfInBounds, if_pos rfl, if_pos (by omega)]), kk, fun j' hj' => ?_⟩
  · simp only [List.mem_singleton] at hb
    subst hb
    exact ⟨h.ne.1, h.ne.2.1, h.ne.2.2.2, h.ne.2.2.1⟩
  · rw [ho _ (by omega), ho _ (by omega)]; exact h3 c hc
  · rw [ho _ (by omega), ho _ (by omega), ho _ (by omega), ho _ (by omega)]; exact h4 c hc
  · simp only [World.cell?, hk, h1, Option.isSome_none, Bool.false_eq_true, if_false]
    exact ho j' hj'
theorem inf89 : (Try.prog.info? 82).map (fun i => (i.zero, i.size, i.bytes)) = some (some (.agg #[.pointer none, .slice none 0 0]), 2, 32) := by kernel_rfl
theorem inf37 : (Try.prog.info? 28).map (fun i => (i.zero, i.size, i.bytes)) = some (some (.pointer none), 1, 8) := by kernel_rfl
theorem inf83 : (Try.prog.info? 74).map (fun i => (i.zero, i.size, i.bytes)) = some (some (.agg #[.bool false, .int .i64 0, .slice none 0 0, .slice none 0 0, .int .i64 0, .int .i64 0, .int .i64 0]), 7, 88) := by kernel_rfl
theorem und80 : Try.prog.underlying 72 = some (.slice 82) := by kernel_rfl
theorem und70 : Try.prog.underlying 59 = some (.slice 28) := by kernel_rfl
theorem und69 : Try.prog.underlying 58 = some (.slice 74) := by kernel_rfl
theorem info_parts {t : Nat} {z : Value} {s b : Nat} (h : (Try.prog.info? t).map (fun i => (i.zero, i.size, i.bytes)) = some (some z, s, b)) : ∃ I : TypeInfo, Try.prog.info? t = some I ∧ I.zero = some z ∧ I.size = s ∧ I.bytes = b := by
  cases hi : Try.prog.info? t with
  | none => rw [hi] at h; cases h
  | some I =>
    rw [hi] at h
    simp only [Option.map_some, Option.some.injEq, Prod.mk.injEq] at h
    exact ⟨I, rfl, h.1, h.2.1, h.2.2⟩
theorem call_mk {f : FuncId} {fn : Func} {dv : List Value} {ty : Nat} {cs : List AV} {x : Value} (hev : ev f (dv.map AV.v) = some [.ob ty cs, .v x]) (hfn : Try.prog.funcs[f]? = some fn) (hsz : fn.resultTypes.size = 2) (hok : ∀ v ∈ dv, okC (.v v) = true) (hfl : flatO (.ob ty cs) = true)
    (W : World) {its : List ItemO} (hO : Owns mu0 W its) : Calls Try.prog f dv.toArray W fun e w' => ∃ (pb : Nat) (F : List Nat), e = .returned (.tuple #[.pointer (some ⟨pb, 0, none⟩), x]) ∧ KeptW [] W w' ∧ B1 mu0 (hf w') F [.pointer (some ⟨pb, 0, none⟩)] (.ob ty cs) (.pointer (some ⟨pb, 0, none⟩)) ∧ F.Nodup ∧ ∀ b ∈ F, W.heap.size ≤ b := by
  refine (call_rest mix extOk hev hfn (mu0_imm W) (b2s_vals dv hok) List.nodup_nil hO (fun b hb => by cases hb)).mono fun e w' he => ?_
  obtain ⟨ra, ro, vs, μ', F1, F2, G1, hrs, hra, rfl, hk, _, hi', hb1, hb2, hnd, hnew, _, hap, _⟩ := he
  obtain ⟨rfl, rfl⟩ := Go.Ev.b1s_nil hb2 rfl
  rw [List.append_nil] at hrs hnd hnew
  subst hrs
  obtain ⟨Fa, Fb, Ga, Gb, v, vs', rfl, rfl, rfl, hv, hr⟩ := b2s_cons hb1
  obtain ⟨u, rfl, hu⟩ := Go.Ev.b2s_one hr
  obtain ⟨rfl, rfl, rfl⟩ := b2_v hu
  rw [List.append_nil] at hnd hnew
  cases hv with
  | o hv =>
    have hfl' := flatO_b1 hfl hv
    cases hfl' with
    | c h => cases h with | d h => cases h
    | @ob b _ F _ cur h1 h2 h3 =>
      exact ⟨b, b :: F, rfl, hk, .ob h1 h2 h3, hnd, fun x hx => (hnew x hx).resolve_left List.not_mem_nil⟩
end Go.Proofs.Ytnjccbnlmdajkaa
namespace Go.Proofs.Ytnjccbnlmdajkaa
open Go.RowKit Go.Shelf Go.Lib Go.Ev
abbrev pr0 (c i : Nat) : AV := .ob 99 [.v (.int .i64 c), .v (.int .i64 1), .v (.int .i64 i), .ow true 50 9 [], .v (.int .i64 0), .ow true 47 1 []]
structure CJ (w0 : World) (ln : Int) (bf bc nc k bn n cn : Nat) (its : List ItemO) (i : Nat) (W : World) : Prop where
  cs : CS w0 ln bf bc nc k bn n cn its W
  alive : W.cell? ⟨bc, k * 7, none⟩ = some (.bool true)
  inc : W.cell? ⟨bc, k * 7 + 1, none⟩ = some (.int .i64 1)
  ex : ∃ (A : Option Addr) (l c : Nat) (lcur : Array Value) (prs : List ItemO), W.cell? ⟨bc, k * 7 + 2, none⟩ = some (.slice A l c) ∧ l = i ∧
    ((A = none ∧ l = 0 ∧ c = 0) ∨ ∃ b, A = some ⟨b, 0, none⟩ ∧ l ≤ c ∧ W.heap[b]? = some (.cells lcur 82 (0, 0)) ∧ lcur.size = c * 2) ∧
    (∀ b, A = some ⟨b, 0, none⟩ → b ≠ bf ∧ b ≠ bn ∧ b ∉ foot its ∧ w0.heap.size ≤ b ∧ b ≠ bc ∧ b ∉ foot prs) ∧
    Owns mu0 W (its ++ prs) ∧ prs.map ItemO.a = (List.range i).map (fun j => pr0 k j) ∧ (∀ b ∈ foot prs, b ≠ bf ∧ b ≠ bn ∧ b ≠ bc ∧ w0.heap.size ≤ b) ∧
    ∀ (j : Nat) (x : ItemO), prs[j]? = some x → ∃ pb : Nat, x.p = .pointer (some ⟨pb, 0, none⟩) ∧ lcur[j * 2]? = some x.p ∧ lcur[j * 2 + 1]? = some (.slice none 0 0)
theorem ev51_ok {c i : Nat} (hc : c < 6) (hi : i < 5) : ev 51 ([.int .i64 (c : Int), .int .i64 1, .int .i64 (i : Int)].map AV.v) = some [pr0 c i, .v (.int .i64 0)] := by
  show ev 51 [.v (.int .i64 (c : Int)), .v (.int .i64 1), .v (.int .i64 (i : Int))] = _
  rw [ev51, ltI_f (by omega), leI_f (by omega), ltI_f (by omega), ltI_f (by omega), ltI_f (by omega), leI_f (by omega)]; rfl
theorem foot_in_app {a b : List ItemO} {x : Nat} : x ∈ foot (a ++ b) ↔ x ∈ foot a ∨ x ∈ foot b := by rw [foot_app, List.mem_append]
theorem cj_step {w0 W : World} {ln : Int} {bf bc nc k bn n cn i : Nat} {its : List ItemO} (hcl : k < nc) (hc6 : k < 6) (hi5 : i < 5) (h : CJ w0 ln bf bc nc k bn n cn its i W) :
    Calls Try.prog 51 #[.int .i64 k, .int .i64 1, .int .i64 i] W (CnPost k bc (CJ w0 ln bf bc nc k bn n cn its (i + 1))) := by
  obtain ⟨hC, hal, hinc, A, l, c, lcur, prs, hcell, rfl, hA, hAf, hO, hmap, hfr, hpt⟩ := h
  refine (call_mk (dv := [.int .i64 k, .int .i64 1, .int .i64 l]) (ev51_ok hc6 hi5) Try.func51 (by kernel_rfl) (fun v hv => ?_) rfl W hO).mono fun e w' he => ?_
  · simp only [List.mem_cons, List.not_mem_nil, or_false] at hv
    rcases hv with rfl | rfl | rfl <;> rfl
  obtain ⟨pb, F, rfl, hk, hob, hnd, hnew⟩ := he
  have hk1 := KeptW.alloc w' (.cells #[.pointer (some ⟨pb, 0, none⟩), .slice none 0 0] 82)
  have hkk := hk.trans hk1 fun x hx => by cases hx
  obtain ⟨I, hI, hIz, hIs, hIb⟩ := info_parts inf89
  have hpos := hC.fs.kept.size
  have hA1 : (A = none ∧ l = 0 ∧ c = 0) ∨ ∃ b, A = some ⟨b, 0, none⟩ ∧ l ≤ c ∧ (w'.alloc (.cells #[.pointer (some ⟨pb, 0, none⟩), .slice none 0 0] 82)).heap[b]? = some (.cells lcur 82 (0, 0)) ∧ lcur.size = c * 2 := by
    rcases hA with h | ⟨b, h1, h2, h3, h4⟩
    · exact .inl h
    · exact .inr ⟨b, h1, h2, hkk.get h3 List.not_mem_nil, h4⟩
  obtain ⟨B, c', W4, cur', hrun, hk4, hB, hBs, hlc, hBA, hold, hnew1⟩ := app_raw (P := Try.prog) und80 hI hIz hIs (by omega) (by omega) rfl (l := l) (by omega) hA1 (Ev.alloc_new w' _) rfl (fun v hv => by
    simp only [List.mem_cons, List.not_mem_nil, or_false] at hv
    rcases hv with rfl | rfl <;> rfl)
  have hk1s : (w'.alloc (.cells #[.pointer (some ⟨pb, 0, none⟩), .slice none 0 0] 82)).heap.size = w'.heap.size + 1 := by show (w'.heap.push _).size = _; rw [Array.size_push]
  have hksz := hk.size
  have hobl := hob.ownd
  have hFl : ∀ b ∈ F, b < w'.heap.size := fun b hb => by obtain ⟨_, o, ho⟩ := hobl b hb; exact (Array.getElem?_eq_some_iff.1 ho).1
  have hC1 := hC.kept hkk fun b hb => by cases hb
  obtain ⟨curf, curn, g1, _, g3, _⟩ := hC.fs.hdr
  obtain ⟨cc, g5, _⟩ := hC.bcs
  have g1 := (Array.getElem?_eq_some_iff.1 g1).1
  have g3 := (Array.getElem?_eq_some_iff.1 g3).1
  have g5 := (Array.getElem?_eq_some_iff.1 g5).1
  have hBf : B ≠ bf ∧ B ≠ bn ∧ B ∉ foot its ∧ w0.heap.size ≤ B ∧ B ≠ bc ∧ B ∉ foot prs ∧ B ∉ F := by
    rcases hBA with h | h
    · obtain ⟨q1, q2, q3, q4, q5, q6⟩ := hAf B h
      refine ⟨q1, q2, q3, q4, q5, q6, fun hm => ?_⟩
      rcases hA with ⟨h0, _⟩ | ⟨b, h1, _, h3, _⟩
      · rw [h0] at h; cases h
      · rw [h1] at h; cases h
        have := (Array.getElem?_eq_some_iff.1 h3).1
        have := hnew B hm
        omega
    · exact ⟨by omega, by omega, fun hm => by have := (hC.fs.own.own B hm).2; omega, by omega, by omega, fun hm => by have := (hO.own B (foot_in_app.2 (.inr hm))).2; omega, fun hm => by have := hFl B hm; omega⟩
  have hC4 := hC1.kept hk4 fun b hb => by simp only [List.mem_singleton] at hb; subst hb; exact ⟨hBf.1, hBf.2.1, hBf.2.2.1, hBf.2.2.2.1, hBf.2.2.2.2.1⟩
  have hj : k * 7 + 2 < nc * 7 := by omega
  obtain ⟨hC5, hf, hx, hcv, hk5, hoth⟩ := hC4.set (j := k * 7 + 2) (v := .slice (some ⟨B, 0, none⟩) (l + 1) c') hj (by omega) (by omega)
  have hkB : bc ∉ ([B] : List Nat) := by simp only [List.mem_singleton]; exact fun e => hBf.2.2.2.2.1 e.symm
  have h4c : ∀ j v, W.cell? ⟨bc, j, none⟩ = some v → W4.cell? ⟨bc, j, none⟩ = some v := fun j v hv => kept_cell hk4 (kept_cell hkk hv List.not_mem_nil) hkB
  have hO1 : Owns mu0 w' (its ++ (prs ++ [⟨.pointer (some ⟨pb, 0, none⟩), F, pr0 k l⟩])) := by
    rw [← List.append_assoc]
    refine (Owns.cons (x := ⟨.pointer (some ⟨pb, 0, none⟩), F, pr0 k l⟩) hob hnd (hO.kept hk (MuLe.refl _) mu0_new fun b hb => by cases hb) fun b hb hm => ?_).perm (List.perm_append_comm (l₁ := [_]))
    have := hnew b hb
    have := (hO.own b hm).2
    omega
  have hfoot : ∀ b, b ∈ foot (prs ++ [(⟨.pointer (some ⟨pb, 0, none⟩), F, pr0 k l⟩ : ItemO)]) → b ∈ foot prs ∨ b ∈ F := fun b hb => by
    rw [foot_app] at hb
    simpa [foot] using hb
  have hO5 := ((hO1.kept hk1 (MuLe.refl _) mu0_new fun b hb => by cases hb).kept hk4 (MuLe.refl _) mu0_new fun b hb hm => by
    simp only [List.mem_singleton] at hb; subst hb
    rcases foot_in_app.1 hm with hm | hm
    · exact hBf.2.2.1 hm
    · exact (hfoot _ hm).elim hBf.2.2.2.2.2.1 hBf.2.2.2.2.2.2).kept hk5 (MuLe.refl _) mu0_new fun b hb hm => by
    simp only [List.mem_singleton] at hb; subst hb
    rcases foot_in_app.1 hm with hm | hm
    · exact hC.ne.2.2.2 hm
    · rcases hfoot _ hm with hm | hm
      · exact (hfr _ hm).2.2.1 rfl
      · have := hnew _ hm; omega
  have hlen : prs.length = l := by have := congrArg List.length hmap; simpa using this
  refine ⟨pb, 0, A, l, c, B, c', W4, rfl, kept_cell hk hcell List.not_mem_nil, hrun, hf, hx, hC5, ?_, ?_, some ⟨B, 0, none⟩, l + 1, c', cur', prs ++ [⟨.pointer (some ⟨pb, 0, none⟩), F, pr0 k l⟩], hcv, rfl, .inr ⟨B, rfl, hlc, hk5.get hB (by simp only [List.mem_singleton]; exact hBf.2.2.2.2.1), hBs⟩, ?_, hO5, ?_, ?_, ?_⟩
  · rw [hoth _ (by omega)]; exact h4c _ _ hal
  · rw [hoth _ (by omega)]; exact h4c _ _ hinc
  · intro b hb
    cases hb
    exact ⟨hBf.1, hBf.2.1, hBf.2.2.1, hBf.2.2.2.1, hBf.2.2.2.2.1, fun hm => (hfoot _ hm).elim hBf.2.2.2.2.2.1 hBf.2.2.2.2.2.2⟩
  · rw [List.map_append, hmap, List.range_succ, List.map_append]; rfl
  · intro b hb
    rcases hfoot b hb with hb | hb
    · exact hfr b hb
    · have := hnew b hb; exact ⟨by omega, by omega, by omega, by omega⟩
  · intro j x hx
    by_cases hkl : j < prs.length
    · rw [List.getElem?_append_left hkl] at hx
      obtain ⟨p, q1, q2, q3⟩ := hpt j x hx
      exact ⟨p, q1, by rw [← q2]; exact hold _ (by omega), by rw [← q3]; exact hold _ (by omega)⟩
    · have hke : j = prs.length := by
        have := (List.getElem?_eq_some_iff.1 hx).1
        simp at this; omega
      subst hke
      rw [List.getElem?_append_right (Nat.le_refl _), Nat.sub_self] at hx
      simp at hx
      subst hx
      have q0 := hnew1 0 (by decide)
      have q1 := hnew1 1 (by decide)
      rw [hlen]
      exact ⟨pb, rfl, by simpa using q0, by simpa using q1⟩
theorem connect_okA {w0 W : World} {ln : Int} {bf bc nc k bn n cn : Nat} {its : List ItemO} (hcl : k < nc) (hc6 : k < 6) (hn5 : n ≤ 5) (h : CS w0 ln bf bc nc k bn n cn its W) :
    Calls Try.prog 32 #[.pointer (some ⟨bf, 0, none⟩), .int .i64 k, .int .i64 1] W fun e w' => e = .returned (.tuple #[]) ∧ CJ w0 ln bf bc nc k bn n cn its n w' := by
  have j0 : k * 7 < nc * 7 := by omega
  have j1 : k * 7 + 1 < nc * 7 := by omega
  have j2 : k * 7 + 2 < nc * 7 := by omega
  obtain ⟨h1, f0, c0, v0, _, o0⟩ := h.set (v := .bool true) j0 (by omega) (by omega)
  obtain ⟨h2, f1, c1, v1, _, o1⟩ := h1.set (v := .int .i64 1) j1 (by omega) (by omega)
  obtain ⟨h3, f2, c2, cv, _, o2⟩ := h2.set (v := .slice none 0 0) j2 (by omega) (by omega)
  exact connect_walk bf bc k nc nc n cn (some ⟨bn, 0, none⟩) 1 W _ _ _ (CJ w0 ln bf bc nc k bn n cn its) (by omega) h.bfs hcl rfl rfl rfl f0 f1 f2 c0 c1 c2 h3.fs.cell1
    ⟨h3, by rw [o2 _ (by omega), o1 _ (by omega)]; exact v0, by rw [o2 _ (by omega)]; exact v1, none, 0, 0, #[], [], cv, rfl, .inl ⟨rfl, rfl, rfl⟩, (fun b hb => by cases hb), by rw [List.append_nil]; exact h3.fs.own, rfl, (fun b hb => by cases hb), fun j x hx => by simp at hx⟩ (fun i V hi hJ => cj_step hcl hc6 (by omega) hJ)
theorem CJ.next {w0 W : World} {ln : Int} {bf bc nc k bn n cn i : Nat} {its : List ItemO} (h : CJ w0 ln bf bc nc k bn n cn its i W) : CS w0 ln bf bc nc (k + 1) bn n cn its W := by
  obtain ⟨hC, hal, hinc, _⟩ := h
  obtain ⟨cur, h1, h2, h3, h4⟩ := hC.bcs
  refine ⟨hC.fs, ⟨cur, h1, h2, fun c hc => ?_, h4⟩, hC.bfs, hC.lin, hC.ne, hC.bnw⟩
  by_cases e : c = k
  · subst e
    simp only [World.cell?, h1, Option.isSome_none, Bool.false_eq_true, if_false] at hal hinc
    exact ⟨hal, hinc⟩
  · exact h3 c (by omega)
end Go.Proofs.Ytnjccbnlmdajkaa
namespace Go.Proofs.Ytnjccbnlmdajkaa
open Go.RowKit Go.Shelf Go.Lib Go.Ev
abbrev zw (lines : Nat) : List Int := List.replicate (8 * lines) 0
structure NS (w : World) (MC : Array Value) (clients lines i : Nat) (W : World) : Prop where
  kept : KeptW [] w W
  hbc : W.heap[w.heap.size]? = some (.cells MC 74 (0, 0))
  ex : ∃ (its : List ItemO) (A : Option Addr) (l c : Nat) (curn : Array Value), Owns mu0 W its ∧ its.map ItemO.a = List.replicate i (ndO (zw lines) false) ∧ (∀ b ∈ foot its, w.heap.size + 2 ≤ b) ∧ l = i ∧
    W.heap[w.heap.size + 1]? = some (.cells #[.int .i64 lines, .slice A l c, .slice (some ⟨w.heap.size, 0, none⟩) clients clients, .slice none 0 0] 62 (0, 0)) ∧
    ((A = none ∧ l = 0 ∧ c = 0) ∨ ∃ b, A = some ⟨b, 0, none⟩ ∧ l ≤ c ∧ W.heap[b]? = some (.cells curn 28 (0, 0)) ∧ curn.size = c * 1) ∧ (∀ b, A = some ⟨b, 0, none⟩ → w.heap.size + 2 ≤ b ∧ b ∉ foot its) ∧
    ∀ (k : Nat) (x : ItemO), its[k]? = some x → ∃ pb : Nat, x.p = .pointer (some ⟨pb, 0, none⟩) ∧ curn[k]? = some x.p
theorem ns_step {w W : World} {MC : Array Value} {clients lines i : Nat} (hl : 1 ≤ lines ∧ lines ≤ 256) (hi5 : i < 5) (h : NS w MC clients lines i W) :
    Calls Try.prog 31 #[.int .i64 lines] W (NwPost (w.heap.size + 1) (NS w MC clients lines (i + 1))) := by
  obtain ⟨hK, hbc, its, A, l, c, curn, hO, hmap, hfr, rfl, hbf, hA, hAf, hpt⟩ := h
  have hev := s_New (lines : Int) ⟨by omega, by omega⟩
  rw [Int.toNat_natCast] at hev
  refine (call_mk (dv := [.int .i64 lines]) hev Try.func31 (by kernel_rfl) (fun v hv => ?_) ?_ W hO).mono fun e w' he => ?_
  · simp only [List.mem_cons, List.not_mem_nil, or_false] at hv
    subst hv; rfl
  · show ((AV.ow false 47 1 (List.map wr (zw lines))) :: [AV.v (.bool false)]).all flatC = true
    rw [List.all_cons, Bool.and_eq_true]
    refine ⟨?_, rfl⟩
    show (List.map wr (zw lines)).all _ = true
    rw [List.all_eq_true]
    intro e he
    obtain ⟨x, _, rfl⟩ := List.mem_map.1 he
    rfl
  obtain ⟨pb, F, rfl, hk, hob, hnd, hnew⟩ := he
  have hsz := hK.size
  have hbfl := (Array.getElem?_eq_some_iff.1 hbf).1
  have hk1 := KeptW.alloc w' (.cells #[.pointer (some ⟨pb, 0, none⟩)] 28)
  have hkk := hk.trans hk1 fun x hx => by cases hx
  obtain ⟨I, hI, hIz, hIs, hIb⟩ := info_parts inf37
  have hA1 : (A = none ∧ l = 0 ∧ c = 0) ∨ ∃ b, A = some ⟨b, 0, none⟩ ∧ l ≤ c ∧ (w'.alloc (.cells #[.pointer (some ⟨pb, 0, none⟩)] 28)).heap[b]? = some (.cells curn 28 (0, 0)) ∧ curn.size = c * 1 := by
    rcases hA with h | ⟨b, h1, h2, h3, h4⟩
    · exact .inl h
    · exact .inr ⟨b, h1, h2, hkk.get h3 List.not_mem_nil, h4⟩
  obtain ⟨B, c', W4, cur', hrun, hk4, hB, hBs, hlc, hBA, hold, hnew1⟩ := app_raw (P := Try.prog) und70 hI hIz hIs (by omega) (by omega) rfl (l := l) (by omega) hA1 (Ev.alloc_new w' _) rfl (fun v hv => by
    simp only [List.mem_cons, List.not_mem_nil, or_false] at hv
    subst hv; rfl)
  have hk1s : (w'.alloc (.cells #[.pointer (some ⟨pb, 0, none⟩)] 28)).heap.size = w'.heap.size + 1 := by show (w'.heap.push _).size = _; rw [Array.size_push]
  have hksz := hk.size
  have hobl := hob.ownd
  have hFl : ∀ b ∈ F, b < w'.heap.size := fun b hb => by obtain ⟨_, o, ho⟩ := hobl b hb; exact (Array.getElem?_eq_some_iff.1 ho).1
  have hBf : w.heap.size + 2 ≤ B ∧ B ∉ foot its ∧ B ∉ F := by
    rcases hBA with h | h
    · refine ⟨(hAf B h).1, (hAf B h).2, fun hm => ?_⟩
      rcases hA with ⟨h0, _⟩ | ⟨b, h1, _, h3, _⟩
      · rw [h0] at h; cases h
      · rw [h1] at h; cases h
        have := (Array.getElem?_eq_some_iff.1 h3).1
        have := hnew B hm
        omega
    · exact ⟨by omega, fun hm => by have := (hO.own B hm).2; omega, fun hm => by have := hFl B hm; omega⟩
  have hO1 : Owns mu0 w' (its ++ [⟨.pointer (some ⟨pb, 0, none⟩), F, ndO (zw lines) false⟩]) := by
    refine (Owns.cons (x := ⟨.pointer (some ⟨pb, 0, none⟩), F, ndO (zw lines) false⟩) hob hnd (hO.kept hk (MuLe.refl _) mu0_new fun b hb => by cases hb) fun b hb hm => ?_).perm (List.perm_append_comm (l₁ := [_]))
    have := hnew b hb
    have := (hO.own b hm).2
    omega
  have hfoot : ∀ b, b ∈ foot (its ++ [(⟨.pointer (some ⟨pb, 0, none⟩), F, ndO (zw lines) false⟩ : ItemO)]) → b ∈ foot its ∨ b ∈ F := fun b hb => by
    rw [foot_app] at hb
    simpa [foot] using hb
  have hbf4 := hk4.get (hkk.get hbf List.not_mem_nil) (by simp; omega)
  obtain ⟨hk5, hbf5⟩ := KeptW.set (j := 1) (v := .slice (some ⟨B, 0, none⟩) (l + 1) c') hbf4
  have hall : KeptW [B, w.heap.size + 1] W (W4.setCell ⟨w.heap.size + 1, 1, none⟩ (.slice (some ⟨B, 0, none⟩) (l + 1) c')) :=
    (((hkk.mono (D' := [B, w.heap.size + 1]) fun x hx => by cases hx).trans hk4 fun x hx => .inl (by simp at hx; simp [hx])).trans hk5 fun x hx => .inl (by simp at hx; simp [hx]))
  have hO5 : Owns mu0 (W4.setCell ⟨w.heap.size + 1, 1, none⟩ (.slice (some ⟨B, 0, none⟩) (l + 1) c')) (its ++ [⟨.pointer (some ⟨pb, 0, none⟩), F, ndO (zw lines) false⟩]) := by
    refine ((hO1.kept hk1 (MuLe.refl _) mu0_new fun b hb => by cases hb).kept hk4 (MuLe.refl _) mu0_new fun b hb hm => ?_).kept hk5 (MuLe.refl _) mu0_new fun b hb hm => ?_
    · simp only [List.mem_singleton] at hb; subst hb
      exact (hfoot _ hm).elim hBf.2.1 hBf.2.2
    · simp only [List.mem_singleton] at hb; subst hb
      rcases hfoot _ hm with hm | hm
      · have := hfr _ hm; omega
      · have := hnew _ hm; omega
  have hlen : its.length = l := by have := congrArg List.length hmap; simpa using this
  refine ⟨pb, A, l, c, B, c', W4, rfl, cell_of (hk.get hbf List.not_mem_nil) rfl, hrun, frozen_of hbf4 1, ⟨_, cell_of hbf4 rfl⟩, ⟨?_, ?_, its ++ [⟨.pointer (some ⟨pb, 0, none⟩), F, ndO (zw lines) false⟩], some ⟨B, 0, none⟩, l + 1, c', cur', hO5, ?_, ?_, rfl, hbf5, .inr ⟨B, rfl, hlc, hk5.get hB (by simp; omega), hBs⟩, ?_, ?_⟩⟩
  · exact hK.trans hall fun x hx => by simp at hx; rcases hx with rfl | rfl <;> exact .inr (by omega)
  · exact hall.get hbc (by simp; omega)
  · rw [List.map_append, hmap, List.replicate_succ']; rfl
  · intro b hb
    rcases hfoot b hb with hb | hb
    · exact hfr b hb
    · have := hnew b hb; omega
  · intro b hb
    cases hb
    exact ⟨hBf.1, fun hm => (hfoot _ hm).elim hBf.2.1 hBf.2.2⟩
  · intro k x hx
    by_cases hkl : k < its.length
    · rw [List.getElem?_append_left hkl] at hx
      obtain ⟨p, h1, h2⟩ := hpt k x hx
      exact ⟨p, h1, by rw [← h2]; exact hold k (by omega)⟩
    · have hke : k = its.length := by
        have := (List.getElem?_eq_some_iff.1 hx).1
        simp at this; omega
      subst hke
      rw [List.getElem?_append_right (Nat.le_refl _), Nat.sub_self] at hx
      simp at hx
      subst hx
      refine ⟨pb, rfl, ?_⟩
      have := hnew1 0 (by decide)
      rw [hlen]
      simpa using this
theorem ns_zero (w : World) (MC : Array Value) (clients lines : Nat) : NS w MC clients lines 0 ((w.alloc (.cells MC 74)).alloc (.cells #[.int .i64 lines, .slice none 0 0, .slice (some ⟨w.heap.size, 0, none⟩) clients clients, .slice none 0 0] 62)) := by
  have k1 := KeptW.alloc w (.cells MC 74)
  have k2 := KeptW.alloc (w.alloc (.cells MC 74)) (.cells #[.int .i64 lines, .slice none 0 0, .slice (some ⟨w.heap.size, 0, none⟩) clients clients, .slice none 0 0] 62)
  have hs : (w.alloc (.cells MC 74)).heap.size = w.heap.size + 1 := by show (w.heap.push _).size = _; rw [Array.size_push]
  have h2 := Ev.alloc_new (w.alloc (.cells MC 74)) (.cells #[.int .i64 lines, .slice none 0 0, .slice (some ⟨w.heap.size, 0, none⟩) clients clients, .slice none 0 0] 62)
  rw [hs] at h2
  exact ⟨k1.trans k2 (fun x hx => by cases hx), k2.get (Ev.alloc_new w _) List.not_mem_nil, [], none, 0, 0, #[], Owns.nil _ _, rfl, (fun b hb => by cases hb), rfl, h2, .inl ⟨rfl, rfl, rfl⟩, (fun b hb => by cases hb), fun k x hx => by simp at hx⟩
def NC (w : World) (n clients lines c : Nat) (W : World) : Prop := ∃ (bn cn : Nat) (its : List ItemO), CS w (lines : Int) (w.heap.size + 1) w.heap.size clients c bn n cn its W ∧ its.map ItemO.a = List.replicate n (ndO (zw lines) false) ∧
  ∀ k, c = k + 1 → CJ w (lines : Int) (w.heap.size + 1) w.heap.size clients k bn n cn its n W
theorem ns_nc {w W : World} {MC : Array Value} {clients lines n : Nat} (hn : 0 < n) (hMC : MC.size = clients * 7) (hM0 : ∀ c, c < clients → MC[c * 7 + 3]? = some (.slice none 0 0) ∧ MC[c * 7 + 4]? = some (.int .i64 0) ∧ MC[c * 7 + 5]? = some (.int .i64 0) ∧ MC[c * 7 + 6]? = some (.int .i64 0))
    (h : NS w MC clients lines n W) : NC w n clients lines 0 W := by
  obtain ⟨hK, hbc, its, A, l, c, curn, hO, hmap, hfr, rfl, hbf, hA, hAf, hpt⟩ := h
  rcases hA with ⟨_, h, _⟩ | ⟨bn, rfl, hlc, hbn, hbs⟩
  · omega
  · obtain ⟨h1, h2⟩ := hAf bn rfl
    exact ⟨bn, c, its, ⟨⟨hK, hO, ⟨_, curn, hbf, rfl, hbn, hpt⟩, fun b hb => ⟨by have := hfr b hb; omega, fun e => h2 (e ▸ hb), by have := hfr b hb; omega⟩⟩, ⟨MC, hbc, hMC, (fun c hc => by omega), hM0⟩, cell_of hbf rfl, ⟨cell_of hbf rfl, cell_of hbf rfl⟩, ⟨by omega, by omega, Nat.le_refl _, fun hm => by have := hfr _ hm; omega⟩, by omega⟩, hmap, fun k hk => by omega⟩
theorem new_ok (w : World) (n clients lines : Nat) (hn : 1 ≤ n ∧ n ≤ 5) (hc : 1 ≤ clients ∧ clients ≤ 6) (hl : 1 ≤ lines ∧ lines ≤ 256) :
    Calls Try.prog 7 #[.int .i64 n, .int .i64 clients, .int .i64 lines] w fun e w' => e = .returned (.tuple #[.pointer (some ⟨w.heap.size + 1, 0, none⟩), .int .i64 0]) ∧ NC w n clients lines clients w' := by
  obtain ⟨I, hI, hIz, hIs, hIb⟩ := info_parts inf83
  have hmk := run_make w 58 74 I _ und69 hI hIz .i64 .i64 (clients : Int) (clients : Int) (by omega) (Int.le_refl _) (by rw [hIb]; omega) (by omega)
  rw [Int.toNat_natCast, hIs] at hmk
  obtain ⟨MC, hMC⟩ : ∃ MC, madeCells (Value.agg #[.bool false, .int .i64 0, .slice none 0 0, .slice none 0 0, .int .i64 0, .int .i64 0, .int .i64 0]).cells (clients * 7) = MC := ⟨_, rfl⟩
  rw [hMC] at hmk
  have hMs : MC.size = clients * 7 := by rw [← hMC, size_madeCells]
  have hM0 : ∀ c, c < clients → MC[c * 7 + 3]? = some (.slice none 0 0) ∧ MC[c * 7 + 4]? = some (.int .i64 0) ∧ MC[c * 7 + 5]? = some (.int .i64 0) ∧ MC[c * 7 + 6]? = some (.int .i64 0) := fun c hc => by
    have hzs : (Value.agg #[.bool false, .int .i64 0, .slice none 0 0, .slice none 0 0, .int .i64 0, .int .i64 0, .int .i64 0]).cells.size = 7 := rfl
    refine ⟨?_, ?_, ?_, ?_⟩ <;> rw [← hMC, madeCells_get (by omega), hzs]
    · rw [show (c * 7 + 3) % 7 = 3 by omega]; rfl
    · rw [show (c * 7 + 4) % 7 = 4 by omega]; rfl
    · rw [show (c * 7 + 5) % 7 = 5 by omega]; rfl
    · rw [show (c * 7 + 6) % 7 = 6 by omega]; rfl
  exact new_walk n clients lines w (NS w MC clients lines) (fun c => NC w n clients lines c) hn hc ⟨by omega, by omega⟩ MC hmk (ns_zero w MC clients lines) (fun i W hi h => ns_step hl (by omega) h)
    (fun W h => ⟨ns_nc (by omega) hMs hM0 h, by
      obtain ⟨hK, hbc, its, A, l, c, curn, hO, hmap, hfr, e, hbf, _⟩ := h
      exact cell_of hbf rfl⟩)
    (fun c W hc' h => by
      obtain ⟨bn, cn, its, hC, hm, _⟩ := h
      exact (connect_okA hc' (by omega) hn.2 hC).mono fun e w' he => ⟨he.1, bn, cn, its, he.2.next, hm, fun k hk => by
        have : c = k := by omega
        subst this
        exact he.2⟩)
end Go.Proofs.Ytnjccbnlmdajkaa
