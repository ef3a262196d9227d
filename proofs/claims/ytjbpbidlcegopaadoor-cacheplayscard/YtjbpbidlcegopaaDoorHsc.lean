/- btree.ReadNode and isHint: what they answer, in all. -/
import Derived.Test.YtjbpbidlcegopaaDoorHsb
set_option linter.all false
namespace Go.Proofs.YtjbpbidlcegopaaDoor.H
open Go.Ev
def ws (p : Pg) : List Int := [p.d2, p.d3, p.d4, p.d5, p.d6]
def aux (p : Pg) : Int := p.d0 / 4294967296
def cnt (p : Pg) : Int := aux p / 256 % 256
def lvl (p : Pg) : Int := aux p % 256
def lmB (p : Pg) : Bool := !(aux p / 65536 % 2 * 65536 == 0)
def ddB (p : Pg) : Bool := !(aux p / 131072 % 2 * 131072 == 0)
def hiW (p : Pg) : Int := p.d1 % 4294967296
def riW (p : Pg) : Int := p.d1 / 4294967296
def ents (p : Pg) : List En := ((ws p).take (cnt p).toNat).map En.of
def filW (p : Pg) : Nat → Int := fillW 0 (ents p) (wd0 (p.d0 % 256 + p.d0 / 256 % 16777216 * 256 + auxN (lvl p) (lmB p) (ddB p) (ents p) * 4294967296) (hiW p + pk (riW p % 256) (riW p / 256) * 4294967296))
def dataB (p : Pg) : Bool := (filW p 0 == p.d0) && ((filW p 1 == p.d1) && ((filW p 2 == p.d2) && ((filW p 3 == p.d3) && ((filW p 4 == p.d4) && ((filW p 5 == p.d5) && (filW p 6 == p.d6))))))
def v58P (p : Pg) : Bool := v58 (lvl p) (lmB p) (ddB p) (hiW p) (riW p % 256) (riW p / 256) (ents p)
def treeP (p : Pg) : Bool := (p.d0 % 256 == 4) && (!(ltI 5 (cnt p)) && (v58P p && (dataB p && ltI 0 (lvl p))))
theorem words_eq (p : Pg) (n : Nat) : List.map (fun (c : AV) => [c]) (List.take n [AV.v (.int .u64 p.d2), AV.v (.int .u64 p.d3), AV.v (.int .u64 p.d4), AV.v (.int .u64 p.d5), AV.v (.int .u64 p.d6)]) = ((ws p).take n).map rw1 := by
  have : [AV.v (.int .u64 p.d2), AV.v (.int .u64 p.d3), AV.v (.int .u64 p.d4), AV.v (.int .u64 p.d5), AV.v (.int .u64 p.d6)] = (ws p).map fun w => AV.v (.int .u64 w) := rfl
  rw [this, ← List.map_take, List.map_map]
  rfl
abbrev bad : List AV := [.agg [.v (.int .i64 0), .v (.bool false), .v (.bool false), .v (.int .u32 0), .v (.int .i64 0), .v (.int .i64 0), .lst true 3 []], .v (.int .i64 14)]
theorem s47 (p : Pg) (hp : p.ok) : ∃ (a : Int) (b1 b2 : Bool) (c d e : Int) (f : Bool) (xs : List (List AV)) (code : Int),
    ev 47 [.agg p.row] = some [.agg [.v (.int .i64 a), .v (.bool b1), .v (.bool b2), .v (.int .u32 c), .v (.int .i64 d), .v (.int .i64 e), .lst f 3 xs], .v (.int .i64 code)] ∧ ((code == 0) && ltI 0 a) = treeP p := by
  obtain ⟨_, _, ok0, ok1, ok2, ok3, ok4, ok5, ok6⟩ := hp
  obtain ⟨k0, k1⟩ := ok0
  obtain ⟨j0, j1⟩ := ok1
  have x0 : 0 ≤ aux p ∧ aux p < 4294967296 := by unfold aux; omega
  have hc0 : 0 ≤ cnt p ∧ cnt p < 256 := by unfold cnt; omega
  have ec : IntKind.i64.wrap (bits .and .u32 (Int.fdiv (aux p) 256) 255) = cnt p := by
    rw [fdiv_pos _ _ (by decide), and_u32 8 (by decide) _ 255 (by decide) (by omega) (by omega), w_i64]; unfold cnt; omega
  have el : IntKind.i64.wrap (bits .and .u32 (aux p) 255) = lvl p := by
    rw [and_u32 8 (by decide) _ 255 (by decide) (by omega) (by omega), w_i64]; unfold lvl; omega
  have em : (!((bits .and .u32 (aux p) 65536) == 0)) = lmB p := by
    rw [show (65536 : Int) = 2 ^ 16 by decide, and_bit 16 (by decide) _ x0.1 x0.2]; rfl
  have ed : (!((bits .and .u32 (aux p) 131072) == 0)) = ddB p := by
    rw [show (131072 : Int) = 2 ^ 17 by decide, and_bit 17 (by decide) _ x0.1 x0.2]; rfl
  have er : IntKind.u32.wrap (Int.fdiv p.d1 4294967296) = riW p := by
    rw [fdiv_pos _ _ (by decide), w_u32]; unfold riW; omega
  have eh : IntKind.u32.wrap p.d1 = hiW p := by rw [w_u32]; rfl
  have hr : 0 ≤ riW p ∧ riW p < 4294967296 := by unfold riW; omega
  have hh : 0 ≤ hiW p ∧ hiW p < 4294967296 := by unfold hiW; omega
  have h57 := s57 (riW p) hr.1 hr.2
  have hbad : ∀ {A : Option (List AV)}, A = some bad → treeP p = false → ∃ (a : Int) (b1 b2 : Bool) (c d e : Int) (f : Bool) (xs : List (List AV)) (code : Int),
    A = some [.agg [.v (.int .i64 a), .v (.bool b1), .v (.bool b2), .v (.int .u32 c), .v (.int .i64 d), .v (.int .i64 e), .lst f 3 xs], .v (.int .i64 code)] ∧ ((code == 0) && ltI 0 a) = treeP p := fun h1 h2 => ⟨0, false, false, 0, 0, 0, true, [], 14, h1, by rw [h2]; rfl⟩
  have hev : ∀ {r : Option (List AV)}, (cond (!(p.d0 % 256 == 4)) (some bad) (cond (ltI 5 (cnt p)) (some bad) (cond (!v58P p) (some bad) (cond (!dataB p) (some bad)
      (some [.agg [.v (.int .i64 (lvl p)), .v (.bool (lmB p)), .v (.bool (ddB p)), .v (.int .u32 (hiW p)), .v (.int .i64 (riW p % 256)), .v (.int .i64 (riW p / 256)), .lst (true && ((ws p).take (cnt p).toNat).isEmpty) 3 ((ents p).map En.row)], .v (.int .i64 0)]))))) = r → ev 47 [.agg p.row] = r := by
    intro r h
    show ev 47 [.agg (pgl p.l p.h p.d0 p.d1 p.d2 p.d3 p.d4 p.d5 p.d6)] = _
    rw [ev47]
    refine bnd (s48 p.d0 ⟨k0, k1⟩) (cT rfl ?_)
    show cond (!(p.d0 % 256 == 4)) _ _ = _
    cases h1 : (p.d0 % 256 == 4) with
    | false => rw [h1] at h; exact h
    | true =>
    rw [h1] at h
    refine cF rfl ?_
    show cond (ltI 5 (IntKind.i64.wrap (bits .and .u32 (Int.fdiv (aux p) 256) 255))) _ _ = _
    rw [ec]
    cases h2 : ltI 5 (cnt p) with
    | true => rw [h2] at h; exact h
    | false =>
    rw [h2] at h
    have hc5 : cnt p ≤ 5 := Int.not_lt.1 (of_decide_eq_false h2)
    refine cF rfl ?_
    rw [er]
    refine bnd h57 (cT rfl ?_)
    show cond ((true && leI 2 (IntKind.i64.wrap (2 + IntKind.i64.wrap (bits .and .u32 (Int.fdiv (aux p) 256) 255)))) && leI (IntKind.i64.wrap (2 + IntKind.i64.wrap (bits .and .u32 (Int.fdiv (aux p) 256) 255))) 7) ((lp 47 0 0 ⟨[_, _, _, (52, .lst false 1 (List.map (fun (c : AV) => [c]) (List.take (Int.toNat (IntKind.i64.wrap (2 + IntKind.i64.wrap (bits .and .u32 (Int.fdiv (aux p) 256) 255))) - 2) [AV.v (.int .u64 p.d2), AV.v (.int .u64 p.d3), AV.v (.int .u64 p.d4), AV.v (.int .u64 p.d5), AV.v (.int .u64 p.d6)]))),
      (53, .v (.int .i64 (((List.map (fun (c : AV) => [c]) (List.take (Int.toNat (IntKind.i64.wrap (2 + IntKind.i64.wrap (bits .and .u32 (Int.fdiv (aux p) 256) 255))) - 2) [AV.v (.int .u64 p.d2), AV.v (.int .u64 p.d3), AV.v (.int .u64 p.d4), AV.v (.int .u64 p.d5), AV.v (.int .u64 p.d6)])).length : Nat) : Int))), _],
      [_, _, _, ⟨1, 85, 7, true, [[.v (.int .i64 (IntKind.i64.wrap (bits .and .u32 (aux p) 255))), .v (.bool (!((bits .and .u32 (aux p) 65536) == 0))), .v (.bool (!((bits .and .u32 (aux p) 131072) == 0))), .v (.int .u32 (IntKind.u32.wrap p.d1)), _, _, _]]⟩, _]⟩).bind _) none = _
    rw [ec, el, em, ed, eh, show IntKind.i64.wrap (2 + cnt p) = 2 + cnt p by rw [w_i64]; omega, show (2 + cnt p).toNat - 2 = (cnt p).toNat by omega, words_eq]
    have hl5 : ((ws p).take (cnt p).toNat).length ≤ 5 := by rw [List.length_take]; simp only [ws, List.length_cons, List.length_nil]; omega
    have hwok : ∀ w ∈ (ws p).take (cnt p).toNat, u64ok w := fun w hw => by
      have := List.mem_of_mem_take hw
      simp only [ws, List.mem_cons, List.not_mem_nil, or_false] at this
      rcases this with rfl | rfl | rfl | rfl | rfl <;> assumption
    have h47 := l47 p (lvl p) (lmB p) (ddB p) (hiW p) (riW p % 256) (riW p / 256) ((ws p).take (cnt p).toNat) hl5 hwok ((ws p).take (cnt p).toNat) [] true rfl
    rw [show ((ws p).take (cnt p).toNat).map eR = (ents p).map En.row by unfold ents; rw [List.map_map]; rfl] at h47
    have hel : (ents p).length ≤ 5 := by unfold ents; rw [List.length_map]; exact hl5
    have hek : ∀ e ∈ ents p, 0 ≤ e.k ∧ e.k < 4294967296 := fun e he => by
      obtain ⟨w, hw, rfl⟩ := List.mem_map.1 he
      obtain ⟨w0, w1⟩ := hwok w hw
      show 0 ≤ w / 4294967296 ∧ w / 4294967296 < 4294967296
      omega
    have h58 := s58 (lvl p) (lmB p) (ddB p) (hiW p) (riW p % 256) (riW p / 256) (true && ((ws p).take (cnt p).toNat).isEmpty) (ents p) (by omega) hh.1
    have h59 := s59 (lvl p) (lmB p) (ddB p) (hiW p) (riW p % 256) (riW p / 256) (true && ((ws p).take (cnt p).toNat).isEmpty) (ents p) hel hek (by unfold lvl; omega) hh p ⟨k0, k1⟩
    refine cT (by rw [leI_t (by omega), leI_t (by omega)]; rfl) (bnd h47 (cT rfl (cT rfl (bnd h58 (cT rfl ?_)))))
    show cond (!v58P p) _ _ = _
    cases h3 : v58P p with
    | false => rw [h3] at h; exact h
    | true =>
    rw [h3] at h
    refine cF rfl (bnd h59 (cT rfl ?_))
    show cond (!dataB p) _ _ = _
    cases h4 : dataB p with
    | false => rw [h4] at h; exact h
    | true => rw [h4] at h; exact h
  cases h1 : (p.d0 % 256 == 4) with
  | false => exact hbad (hev (by rw [h1]; rfl)) (by unfold treeP; rw [h1]; rfl)
  | true =>
  cases h2 : ltI 5 (cnt p) with
  | true => exact hbad (hev (by rw [h1, h2]; rfl)) (by unfold treeP; rw [h1, h2]; rfl)
  | false =>
  cases h3 : v58P p with
  | false => exact hbad (hev (by rw [h1, h2, h3]; rfl)) (by unfold treeP; rw [h1, h2, h3]; rfl)
  | true =>
  cases h4 : dataB p with
  | false => exact hbad (hev (by rw [h1, h2, h3, h4]; rfl)) (by unfold treeP; rw [h1, h2, h3, h4]; rfl)
  | true => exact ⟨_, _, _, _, _, _, _, _, _, hev (by rw [h1, h2, h3, h4]; rfl), by unfold treeP; rw [h1, h2, h3, h4]; rfl⟩
def segB (l : Int) : Bool := leI 104 l && (ltI l 248 && !((l - 104) % 16 == 0))
def hintP (p : Pg) : Bool := (p.l == 96) || (segB p.l && ((p.d0 % 256 == 3) || treeP p))
theorem s56 : ev 56 [.v (.int .i64 256)] = some [.v (.int .i64 9)] := by
  have h62 : ev 62 [.v (.int .i64 256)] = some [.v (.bool true)] := by rw [ev62]; rfl
  rw [ev56]
  exact bnd h62 (cT rfl (cF rfl rfl))
theorem s46 (l : Int) (hl : i64ok l) : ∃ a b : Int, ev 46 [.v (.int .i64 256), .v (.int .i64 l)] = some [.v (.int .i64 a), .v (.int .i64 b), .v (.bool (segB l))] := by
  obtain ⟨h0, h1⟩ := hl
  rw [ev46]
  unfold segB
  by_cases c1 : l < 104
  · rw [leI_f c1]
    exact ⟨0, 0, cT (ltI_t c1) rfl⟩
  have e1 : IntKind.i64.wrap (104 + IntKind.i64.wrap (9 * 16)) = 248 := by rw [w_i64, w_i64]; decide
  by_cases c2 : l < 248
  · have e2 : IntKind.i64.wrap (l - 104) = l - 104 := by rw [w_i64]; omega
    have e3 : Int.tmod (l - 104) 16 = (l - 104) % 16 := tmod_pos _ _ (by omega)
    rw [leI_t (by omega), ltI_t c2]
    cases c3 : ((l - 104) % 16 == 0) with
    | true => exact ⟨0, 0, cF (ltI_f (by omega)) (bnd s56 (cT rfl (cF (by rw [show avInt (cellAt [AV.v (Value.int .i64 9)] 0) = 9 from rfl, e1]; exact leI_f (by omega)) (cT (by rw [e2, e3]; exact c3) rfl))))⟩
    | false => exact ⟨_, _, cF (ltI_f (by omega)) (bnd s56 (cT rfl (cF (by rw [show avInt (cellAt [AV.v (Value.int .i64 9)] 0) = 9 from rfl, e1]; exact leI_f (by omega)) (cF (by rw [e2, e3]; exact c3) rfl))))⟩
  · rw [show leI 104 l = true from leI_t (by omega), show ltI l 248 = false from ltI_f (by omega)]
    exact ⟨0, 0, cF (ltI_f (by omega)) (bnd s56 (cT rfl (cT (by rw [show avInt (cellAt [AV.v (Value.int .i64 9)] 0) = 9 from rfl, e1]; exact leI_t (by omega)) rfl)))⟩
theorem s35 (p : Pg) (hp : p.ok) : ev 35 [.agg p.row] = some [.v (.bool (hintP p))] := by
  obtain ⟨a, b, h46⟩ := s46 p.l hp.1
  obtain ⟨x, b1, b2, c, d, e, f, xs, code, h47, ht⟩ := s47 p hp
  have h48 := s48 p.d0 hp.2.2.1
  show ev 35 [.agg (pgl p.l p.h p.d0 p.d1 p.d2 p.d3 p.d4 p.d5 p.d6)] = _
  rw [ev35]
  unfold hintP
  cases h1 : (p.l == 96) with
  | true => rfl
  | false =>
  refine cF rfl (bnd h46 (cT rfl (cT rfl (cT rfl ?_))))
  show cond (!segB p.l) _ _ = _
  cases h2 : segB p.l with
  | false => rfl
  | true =>
  refine cF rfl (bnd h47 (cT rfl (cT rfl (bnd h48 (cT rfl ?_)))))
  show cond (p.d0 % 256 == 3) _ _ = some [AV.v (Value.bool (false || (true && ((p.d0 % 256 == 3) || treeP p))))]
  rw [← ht]
  cases h3 : (p.d0 % 256 == 3) with
  | true => rfl
  | false =>
  show cond (code == 0) (some [AV.v (Value.bool (ltI 0 x))]) _ = _
  cases (code == 0) <;> rfl
theorem s34 (p : Pg) (hp : p.ok) : ev 34 [.agg p.row] = some [.v (.bool (!(hintP p)))] := by
  have h := s35 p hp
  show ev 34 [.agg (pgl p.l p.h p.d0 p.d1 p.d2 p.d3 p.d4 p.d5 p.d6)] = _
  rw [ev34]
  exact bnd h (cT rfl rfl)
end Go.Proofs.YtjbpbidlcegopaaDoor.H
