/- QuerySame's function answers true. -/
import Derived.Test.YtcinngpelbdopaaSmz
import Derived.Test.YtcinngpelbdopaaTy9
set_option linter.all false
namespace Go.Proofs.Ytcinngpelbdopaa
open Go.RowKit Go.Shelf Go.Lib Go.Ev
set_option maxRecDepth 100000
def rowB : List AV → Bool
  | [.v (.int .u32 _), .v (.int .i64 _), .v (.int .i64 _), .v (.int .i64 _)] => true
  | _ => false
def resB : List AV → Bool
  | [.lst _ 4 rows, .v (.int .i64 _)] => rows.all rowB
  | _ => false
def qsG : List AV → Option (List AV)
  | [.lst _ 2 X, .lst _ 2 Y, .v (.int .i64 _)] => cond (X.all resB && Y.all resB) (some [.v (.bool true)]) none
  | _ => none
theorem rowB_rw {e : List AV} (h : rowB e = true) : ∃ r : Rw, e = r.row := by
  unfold rowB at h
  split at h
  · exact ⟨⟨_, _, _, _⟩, rfl⟩
  · cases h
theorem rows_rw : ∀ l : List (List AV), l.all rowB = true → ∃ rows : List Rw, l = rows.map Rw.row
  | [], _ => ⟨[], rfl⟩
  | e :: l, h => by
    rw [List.all_cons, Bool.and_eq_true] at h
    obtain ⟨r, rfl⟩ := rowB_rw h.1
    obtain ⟨rs, rfl⟩ := rows_rw l h.2
    exact ⟨r :: rs, rfl⟩
theorem resB_res {e : List AV} (h : resB e = true) : ∃ p : Bool × Res, e = p.2.cells p.1 := by
  unfold resB at h
  split at h
  · rename_i b rows x
    obtain ⟨rs, rfl⟩ := rows_rw _ h
    exact ⟨(b, ⟨rs, x⟩), rfl⟩
  · cases h
theorem res_out : ∀ l : List (List AV), l.all resB = true → ∃ xs : List (Bool × Res), l = outB xs
  | [], _ => ⟨[], rfl⟩
  | e :: l, h => by
    rw [List.all_cons, Bool.and_eq_true] at h
    obtain ⟨p, rfl⟩ := resB_res h.1
    obtain ⟨ps, rfl⟩ := res_out l h.2
    exact ⟨p :: ps, rfl⟩
def lenAt (xs : List (Bool × Res)) (i : Nat) : Nat := ((xs[i]?).map fun p => p.2.rows.length).getD 0
theorem lenAt_mem {xs : List (Bool × Res)} (h : ∀ i, i < xs.length → lenAt xs i ≤ 20) : ∀ p ∈ xs, p.2.rows.length ≤ 20 := fun p hp => by
  obtain ⟨i, hi⟩ := List.getElem?_of_mem hp
  have := h i (List.getElem?_eq_some_iff.1 hi).1
  unfold lenAt at this
  rw [hi] at this
  exact this
theorem rows_at {μ : Mu} {w : World} {nl : Bool} {xs : List (Bool × Res)} {A : Option Addr} {c n : Nat} (hd : DR μ (.lst nl 2 (outB xs)) (.slice A n c)) (himm : ∀ b o, μ b = some o → w.heap[b]? = some o) : RowsAt w A xs.length (lenAt xs) := fun i hi => by
  obtain ⟨hn, h⟩ := dr_res hd himm
  obtain ⟨mb, mo, hA, _, hc⟩ := h (by omega)
  have hx := List.getElem?_eq_getElem hi
  obtain ⟨RA, rc, h1, _⟩ := hc i _ hx
  refine ⟨mb, mo, RA, rc, hA, ?_⟩
  unfold lenAt
  rw [hx]; exact h1
theorem qs_told : TellS Try.prog 9 qsG := by
  intro bs rs h
  refine ⟨Try.f9, Try.func9, fun w μ F G vals himm hb hnd => ?_⟩
  unfold qsG at h
  split at h
  · rename_i nx X ny Y turn
    obtain ⟨hc, h⟩ := cond_some h
    obtain rfl := Option.some.inj h
    rw [Bool.and_eq_true] at hc
    obtain ⟨xs, rfl⟩ := res_out _ hc.1
    obtain ⟨ys, rfl⟩ := res_out _ hc.2
    obtain ⟨F1, F2, G1, G2, va, vs, rfl, rfl, rfl, b1, b2⟩ := b2s_cons hb
    obtain ⟨F3, F4, G3, G4, vb, vs', rfl, rfl, rfl, b3, b4⟩ := b2s_cons b2
    obtain ⟨F5, F6, G5, G6, vc, vs'', rfl, rfl, rfl, b5, b6⟩ := b2s_cons b4
    obtain ⟨rfl, rfl, rfl⟩ := b2s_nil b6
    obtain ⟨rfl, rfl, hd1⟩ := b2_lst b1
    obtain ⟨rfl, rfl, hd2⟩ := b2_lst b3
    obtain ⟨rfl, rfl, rfl⟩ := b2_v b5
    obtain ⟨A, ca, _, rfl, _⟩ := hd1.view himm
    obtain ⟨B, cb, _, rfl, _⟩ := hd2.view himm
    rw [outB_len] at hd1 hd2
    have hsz : (1 : Nat) = Try.f9.resultTypes.size := by kernel_rfl
    rw [outB_len, outB_len]
    refine (qs_walk (A := A) (B0 := B) (n := xs.length) (ca := ca) (m := ys.length) (cb := cb) (turn := turn) (w := w) (la := lenAt xs) (lb := lenAt ys) (R := fun W => Frm ⟨w, (· ∈ ([] : List Nat)), μ⟩ μ W ∧ ∀ b o, μ b = some o → W.heap[b]? = some o) ⟨⟨rfl, rfl, rfl, Nat.le_refl _, fun _ _ _ => rfl, MuLe.refl μ, fun _ _ h => .inl h⟩, himm⟩ (rows_at hd1 himm) (rows_at hd2 himm) fun h1 h2 h3 h4 => ?_).mono fun e w' he => ?_
    · exact main_ok himm hd1 hd2 h1 (lenAt_mem h3) ⟨by omega, fun p hp => by have := lenAt_mem h4 p hp; omega⟩
    · obtain ⟨rfl, hf, hi⟩ := he
      exact ⟨[.v (.bool true)], [], [.bool true], μ, [], [], [], rfl, hsz, rfl, hf, hi, .cons (F := []) (F' := []) (G := []) (G' := []) (.o (.c (.d (.v rfl)))) .nil, .nil, by simp, fun b hb => by simp at hb⟩
  · cases h
def ext9 : FuncId → Option (List AV → Option (List AV))
  | 9 => some qsG
  | _ => none
def cfg9 : Cfg := { rw := fun _ => [], dat := fun _ => false, inl := fun _ => false, roll := fun _ => 8, join := fun _ => false, ext := ext9 }
theorem ext9Ok : ExtS Try.prog cfg9 := by
  refine ⟨fun f bs rs e => ?_, updS_none fun _ => rfl⟩
  by_cases h9 : f = 9
  · subst h9; exact qs_told bs rs e
  · have hf : cfg9.ext f = none := by
      show ext9 f = none
      unfold ext9
      split
      · exact absurd rfl h9
      · rfl
    simp only [evTop, hf] at e
    cases e
theorem row_ok {N n : Nat} {y : List AV} (h : TypC Try.prog N (n + 3) 66 y) : rowB y = true := by
  obtain ⟨_, _, _, _, rfl, _⟩ := openC66 h
  rfl
theorem res_ok {N : Nat} {y : List AV} (h : TypC Try.prog N 11 76 y) : resB y = true := by
  obtain ⟨_, x, _, rfl, hx, _⟩ := openC76 (n := 9) h
  show x.all rowB = true
  rw [List.all_eq_true]
  exact fun e he => row_ok (n := 6) (hx.2.2 e he)
theorem same_all {N : Nat} (l : List AV) (h : TypA Try.prog N Try.f9.params.toList l) : ∃ n, evF Try.prog cfg9 n 9 l = some [.v (.bool true)] := by
  rw [show Try.f9.params.toList = [73, 73, 3] by kernel_rfl] at h
  obtain ⟨a0, r, rfl, h0, h⟩ := h
  obtain ⟨a1, r, rfl, h1, h⟩ := h
  obtain ⟨a2, r, rfl, h2, h⟩ := h
  obtain rfl : r = [] := h
  obtain ⟨a0n, a0, rfl, f0_0⟩ := openV73 h0
  obtain ⟨a1n, a1, rfl, f1_0⟩ := openV73 h1
  obtain ⟨a2, rfl, f2_0⟩ := openV3 h2
  refine ⟨1, ?_⟩
  have e0 : a0.all resB = true := List.all_eq_true.2 fun e he => res_ok (f0_0.2.2 e he)
  have e1 : a1.all resB = true := List.all_eq_true.2 fun e he => res_ok (f1_0.2.2 e he)
  show qsG [.lst a0n 2 a0, .lst a1n 2 a1, .v (.int .i64 a2)] = _
  show cond (a0.all resB && a1.all resB) _ _ = _
  rw [e0, e1]; rfl
end Go.Proofs.Ytcinngpelbdopaa
