/- Spoilt statements; QueryValid. -/
import Derived.Test.YtcinngpelbdopaaOf
set_option linter.all false
namespace Go.Proofs.Ytcinngpelbdopaa
open Go.Ev
def SpQ (e : Option (List AV)) : Prop := ∃ s : Stm, e = some [.agg s.row] ∧ s.ok
theorem spT {α : Type} {x : Option α} {a : α} {f : α → Option (List AV)} (h : x = some a) (h2 : SpQ (f a)) : SpQ (x.bind f) := by rw [h]; exact h2
theorem spC {b : Bool} {A B : Option (List AV)} (h : b = true) (h2 : SpQ A) : SpQ (cond b A B) := by rw [h]; exact h2
theorem spD {b : Bool} {A B : Option (List AV)} (h : b = false) (h2 : SpQ B) : SpQ (cond b A B) := by rw [h]; exact h2
theorem spE {b : Bool} {A B : Option (List AV)} (h : SpQ A) (h2 : SpQ B) : SpQ (cond b A B) := by cases b <;> assumption
theorem wI (x : Int) : i64ok (IntKind.i64.wrap x) := by unfold i64ok; rw [w_i64]; omega
theorem wU (x : Int) : 0 ≤ IntKind.u32.wrap x ∧ IntKind.u32.wrap x ≤ 4294967295 := by rw [w_u32]; omega
theorem okc {c : Bool} {x y : Int} (h : i64ok x) (h2 : i64ok y) : i64ok (cond c x y) := by cases c <;> assumption
theorem s_spoilt (s : Stm) (r : Raw) (h : s.ok) : ∃ t : Stm, ev 22 [.agg s.row, .agg r.row] = some [.agg t.row] ∧ t.ok := by
  obtain ⟨h0, h1, h2, h3, h4, h5, h6, h7, h8, h9, h10, h11⟩ := h
  show SpQ _
  have p6 := pick_range (n := r.x6) (m := 3) (by decide)
  rw [show ev 22 [.agg s.row, .agg r.row] = _ from ev22 _ _ _ _ _ _ _ _ _ _ _ _ _ _ _ _ _ _ _ _ _ _]
  refine spT (s_Pick _ _ (by decide) (by decide)) ?_
  refine spC rfl ?_
  refine spT (s_Pick _ _ (by decide) (by decide)) ?_
  refine spC rfl ?_
  refine spE ?_ (spE ?_ (spE ?_ (spE ?_ (spE ?_ (spE ?_ (spE ?_ (spE ?_ (spE ?_ (spE ?_ ?_)))))))))
  · refine spT (s_Pick _ _ (by decide) (by decide)) (spC rfl ?_)
    refine ⟨{ s with k := IntKind.i64.wrap ((pick (IntKind.i64.wrap (r.x9.tdiv 16)) 13) - 1) }, rfl, ?_⟩
    exact ⟨wI _, h1, h2, h3, h4, h5, h6, h7, h8, h9, h10, h11⟩
  · refine spT (s_Pick _ _ (by decide) (by decide)) (spC rfl ?_)
    refine ⟨⟨_, IntKind.u32.wrap (IntKind.u32.wrap (pick (IntKind.i64.wrap (r.x9.tdiv 16)) 2) * 4294967295), _, _, _, _, _, _, _, _, _, _⟩, rfl, ?_⟩
    exact ⟨h0, wU _, h2, h3, h4, h5, h6, h7, h8, h9, h10, h11⟩
  · refine ⟨⟨_, _, IntKind.u32.wrap (s.last + IntKind.u32.wrap (IntKind.i64.wrap (pick (IntKind.i64.wrap (r.x9.tdiv 16)) 5 - 1))), _, _, _, _, _, _, _, _, _⟩, rfl, ?_⟩
    exact ⟨h0, h1, wU _, h3, h4, h5, h6, h7, h8, h9, h10, h11⟩
  · refine spT (s_Pick _ _ (by decide) (by decide)) (spC rfl ?_)
    refine spC (by show (leI 0 (pick r.x6 3) && ltI (pick r.x6 3) 3) = true; rw [leI_t p6.1, ltI_t p6.2]; rfl) ?_
    refine spC (by show (leI 0 (pick r.x6 3) && ltI (pick r.x6 3) 3) = true; rw [leI_t p6.1, ltI_t p6.2]; rfl) ?_
    refine ⟨⟨s.k, s.key, s.last, cond (Nat.beq (pick r.x6 3).toNat 0) (IntKind.i64.wrap ((cond (Nat.beq (pick r.x6 3).toNat 0) s.c0 (cond (Nat.beq (pick r.x6 3).toNat 1) s.c1 s.c2)) + IntKind.i64.wrap (pick (IntKind.i64.wrap (r.x9.tdiv 16)) 5 - 1))) s.c0, cond (Nat.beq (pick r.x6 3).toNat 1) (IntKind.i64.wrap ((cond (Nat.beq (pick r.x6 3).toNat 0) s.c0 (cond (Nat.beq (pick r.x6 3).toNat 1) s.c1 s.c2)) + IntKind.i64.wrap (pick (IntKind.i64.wrap (r.x9.tdiv 16)) 5 - 1))) s.c1, cond (Nat.beq (pick r.x6 3).toNat 2) (IntKind.i64.wrap ((cond (Nat.beq (pick r.x6 3).toNat 0) s.c0 (cond (Nat.beq (pick r.x6 3).toNat 1) s.c1 s.c2)) + IntKind.i64.wrap (pick (IntKind.i64.wrap (r.x9.tdiv 16)) 5 - 1))) s.c2, s.col, s.v, s.wc, s.wo, s.wv, s.lim⟩, rfl, ?_⟩
    exact ⟨h0, h1, h2, okc (wI _) h3, okc (wI _) h4, okc (wI _) h5, h6, h7, h8, h9, h10, h11⟩
  · refine ⟨{ s with col := IntKind.i64.wrap ((pick (IntKind.i64.wrap (r.x9.tdiv 16)) 5) - 1) }, rfl, ?_⟩
    exact ⟨h0, h1, h2, h3, h4, h5, wI _, h7, h8, h9, h10, h11⟩
  · refine ⟨{ s with v := IntKind.i64.wrap (s.v + IntKind.i64.wrap ((pick (IntKind.i64.wrap (r.x9.tdiv 16)) 5) - 1)) }, rfl, ?_⟩
    exact ⟨h0, h1, h2, h3, h4, h5, h6, wI _, h8, h9, h10, h11⟩
  · refine spT (s_Pick _ _ (by decide) (by decide)) (spC rfl ?_)
    refine ⟨{ s with wo := IntKind.i64.wrap ((pick (IntKind.i64.wrap (r.x9.tdiv 16)) 10) - 1) }, rfl, ?_⟩
    exact ⟨h0, h1, h2, h3, h4, h5, h6, h7, h8, wI _, h10, h11⟩
  · refine ⟨{ s with wc := IntKind.i64.wrap ((pick (IntKind.i64.wrap (r.x9.tdiv 16)) 5) - 1) }, rfl, ?_⟩
    exact ⟨h0, h1, h2, h3, h4, h5, h6, h7, wI _, h9, h10, h11⟩
  · refine ⟨{ s with wv := IntKind.i64.wrap (s.wv + IntKind.i64.wrap ((pick (IntKind.i64.wrap (r.x9.tdiv 16)) 5) - 1)) }, rfl, ?_⟩
    exact ⟨h0, h1, h2, h3, h4, h5, h6, h7, h8, h9, wI _, h11⟩
  · refine spT (s_Pick _ _ (by decide) (by decide)) (spC rfl ?_)
    refine ⟨{ s with lim := IntKind.i64.wrap ((pick (IntKind.i64.wrap (r.x9.tdiv 16)) 70) - 2) }, rfl, ?_⟩
    exact ⟨h0, h1, h2, h3, h4, h5, h6, h7, h8, h9, h10, wI _⟩
  · exact ⟨s, rfl, h0, h1, h2, h3, h4, h5, h6, h7, h8, h9, h10, h11⟩
theorem s_own (s : Stm) : ev 17 [.agg s.row] = some [.agg s.row] := ev17 _ _ _ _ _ _ _ _ _ _ _ _
theorem valid_all {N : Nat} (l : List AV) (h : TypA Try.prog N Try.f7.params.toList l) : ∃ n, evF Try.prog cfg n 7 l = some [.v (.bool true)] := by
  rw [show Try.f7.params.toList = [49, 52] by kernel_rfl] at h
  obtain ⟨a0, r, rfl, t0, h⟩ := h
  obtain ⟨a1, r, rfl, t1, h⟩ := h
  obtain rfl : r = [] := h
  obtain ⟨y0, y1, y2, y3, y4, y5, y6, y7, y8, y9, y10, y11, rfl, _⟩ := openV49 t0
  obtain ⟨x0, x1, x2, x3, x4, x5, x6, x7, x8, x9, rfl, f0, f1, f2, f3, f4, f5, f6, f7, f8, f9⟩ := openV52 t1
  clear t0 t1
  refine evF_of_evL ?_
  obtain ⟨u, hu, _, hok⟩ := s_of ⟨x0, x1, x2, x3, x4, x5, x6, x7, x8, x9⟩ ⟨f0, f1, f2, f3, f4, f5, f6, f7, f8, f9⟩
  obtain ⟨t, ht, _⟩ := s_spoilt u ⟨x0, x1, x2, x3, x4, x5, x6, x7, x8, x9⟩ hok
  have hs : ∀ b : Bool, (b == b) = true := fun b => by cases b <;> rfl
  refine (ev7 _ _ _ _ _ _ _ _ _ _ _ _ _ _ _ _ _ _ _ _ _ _).trans ?_
  refine bnd hu (cT (shS u) ?_)
  refine bnd ht (cT (shS t) ?_)
  refine bnd s_awake (cT rfl (cT rfl ?_))
  refine bnd (s_Valid ⟨y0, y1, y2, y3, y4, y5, y6, y7, y8, y9, y10, y11⟩) (cT rfl ?_)
  refine bnd (s_own ⟨y0, y1, y2, y3, y4, y5, y6, y7, y8, y9, y10, y11⟩) (cT rfl ?_)
  refine bnd (s_VStatement ⟨y0, y1, y2, y3, y4, y5, y6, y7, y8, y9, y10, y11⟩) (cT rfl (cT (hs _) ?_))
  refine bnd (s_Valid t) (cT rfl ?_)
  refine bnd (s_own t) (cT (shS t) ?_)
  refine bnd (s_VStatement t) (cT rfl (cT (hs _) ?_))
  refine bnd (s_Writes ⟨y0, y1, y2, y3, y4, y5, y6, y7, y8, y9, y10, y11⟩) (cT rfl ?_)
  refine bnd (s_own ⟨y0, y1, y2, y3, y4, y5, y6, y7, y8, y9, y10, y11⟩) (cT rfl ?_)
  refine bnd (s_RWrites ⟨y0, y1, y2, y3, y4, y5, y6, y7, y8, y9, y10, y11⟩) (cT rfl (cT (hs _) ?_))
  refine bnd (s_Writes t) (cT rfl ?_)
  refine bnd (s_own t) (cT (shS t) ?_)
  refine bnd (s_RWrites t) (cT rfl ?_)
  exact congrArg (fun b => some [AV.v (Value.bool b)]) (hs _)
end Go.Proofs.Ytcinngpelbdopaa
