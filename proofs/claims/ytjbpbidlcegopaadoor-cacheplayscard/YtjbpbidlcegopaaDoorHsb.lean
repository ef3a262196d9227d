/- btree.ReadNode and isHint: what they answer. -/
import Derived.Test.YtjbpbidlcegopaaDoorHsa
set_option linter.all false
namespace Go.Proofs.YtjbpbidlcegopaaDoor.H
open Go.Ev
def wd0 (a b : Int) : Nat → Int := fun k => match k with | 0 => a | 1 => b | _ => 0
def auxN (lvl : Int) (lm dd : Bool) (es : List En) : Int := lvl + ((es.length : Nat) : Int) * 256 + (bif lm then 65536 else 0) + (bif dd then 131072 else 0)
def pgRow (l h : Int) (wd : Nat → Int) : List AV := [.v (.int .i64 l), .v (.int .u64 h), .v (.int .u64 (wd 0)), .v (.int .u64 (wd 1)), .v (.int .u64 (wd 2)), .v (.int .u64 (wd 3)), .v (.int .u64 (wd 4)), .v (.int .u64 (wd 5)), .v (.int .u64 (wd 6))]
set_option maxRecDepth 100000 in
theorem s59 (lvl : Int) (lm dd : Bool) (hi rl rg : Int) (f : Bool) (es : List En) (hlen : es.length ≤ 5) (hk : ∀ e ∈ es, 0 ≤ e.k ∧ e.k < 4294967296) (hlvl : 0 ≤ lvl ∧ lvl < 256) (hhi : 0 ≤ hi ∧ hi < 4294967296) (p : Pg) (hp : u64ok p.d0) :
    ev 59 [.agg [.v (.int .i64 lvl), .v (.bool lm), .v (.bool dd), .v (.int .u32 hi), .v (.int .i64 rl), .v (.int .i64 rg), .lst f 3 (es.map En.row)], .agg p.row] =
      some [.agg (pgRow p.l p.h (fillW 0 es (wd0 (p.d0 % 256 + p.d0 / 256 % 16777216 * 256 + auxN lvl lm dd es * 4294967296) (hi + pk rl rg * 4294967296))))] := by
  obtain ⟨hp0, hp1⟩ := hp
  have h48 := s48 p.d0 ⟨hp0, hp1⟩
  have h66 := s66 rl rg
  obtain ⟨hq0, hq1⟩ := pk_ok rl rg
  have o0 : IntKind.u32.wrap lvl = lvl := by rw [w_u32]; omega
  have o0' : IntKind.u32.wrap ((es.length : Nat) : Int) = ((es.length : Nat) : Int) := by rw [w_u32]; omega
  have o0'' : IntKind.u32.wrap (((es.length : Nat) : Int) * 256) = ((es.length : Nat) : Int) * 256 := by rw [w_u32]; omega
  have o1 : bits .or .u32 lvl (((es.length : Nat) : Int) * 256) = lvl + ((es.length : Nat) : Int) * 256 := by
    rw [bits_or_comm, or_u32 8 (((es.length : Nat) : Int) * 256) lvl (by omega) (by omega) (by omega) (by omega) (by omega) (by omega)]; omega
  have o2 : bits .or .u32 (lvl + ((es.length : Nat) : Int) * 256) 65536 = lvl + ((es.length : Nat) : Int) * 256 + 65536 := by
    rw [bits_or_comm, or_u32 16 65536 (lvl + ((es.length : Nat) : Int) * 256) (by decide) (by decide) (by decide) (by omega) (by omega) (by omega)]; omega
  have o3 : bits .or .u32 (lvl + ((es.length : Nat) : Int) * 256 + 65536) 131072 = lvl + ((es.length : Nat) : Int) * 256 + 65536 + 131072 := by
    rw [bits_or_comm, or_u32 17 131072 (lvl + ((es.length : Nat) : Int) * 256 + 65536) (by decide) (by decide) (by decide) (by omega) (by omega) (by omega)]; omega
  have o4 : bits .or .u32 (lvl + ((es.length : Nat) : Int) * 256) 131072 = lvl + ((es.length : Nat) : Int) * 256 + 131072 := by
    rw [bits_or_comm, or_u32 17 131072 (lvl + ((es.length : Nat) : Int) * 256) (by decide) (by decide) (by decide) (by omega) (by omega) (by omega)]; omega
  have o5 : bits .or .u64 (IntKind.u64.wrap hi) (IntKind.u64.wrap (IntKind.u64.wrap (pk rl rg) * 4294967296)) = hi + pk rl rg * 4294967296 := by
    have a1 : IntKind.u64.wrap hi = hi := by rw [w_u64]; omega
    have a2 : IntKind.u64.wrap (pk rl rg) = pk rl rg := by rw [w_u64]; omega
    have a3 : IntKind.u64.wrap (pk rl rg * 4294967296) = pk rl rg * 4294967296 := by rw [w_u64]; omega
    rw [a1, a2, a3, bits_or_comm, or_u64 32 (pk rl rg * 4294967296) hi (by omega) (by omega) (by omega) (by omega) (by omega) (by omega)]; omega
  have e1 : ∀ x : Int, avInt (cellAt [AV.v (Value.int .u64 x)] 0) = x := fun _ => rfl
  have e2 : ∀ x : Int, avInt (cellAt [AV.v (Value.int .u32 x)] 0) = x := fun _ => rfl
  have h65 := fun a ha => s65 (p.d0 % 256) (p.d0 / 256 % 16777216) a (by omega) (by omega) ha
  have h59 := fun a b => l59 f p.l p.h es hlen hk es [] (wd0 a b) rfl
  show ev 59 [_, .agg (pgl p.l p.h p.d0 p.d1 p.d2 p.d3 p.d4 p.d5 p.d6)] = _
  rw [ev59]
  simp only [List.length_map] at h59 ⊢
  rw [o0, o0', o0'', o1, o2, o3, o4]
  refine bnd h48 (cT rfl ?_)
  cases lm <;> cases dd
  · refine cF rfl (cF rfl (bnd (h65 (lvl + ((es.length : Nat) : Int) * 256) (by omega)) (cT rfl (bnd h66 (cT rfl ?_)))))
    rw [e1, e2, o5]
    refine (bnd (h59 _ _) (cT rfl (cT rfl rfl))).trans ?_
    simp only [auxN, cond_false, Int.add_zero]; rfl
  · refine cF rfl (cT rfl (bnd (h65 (lvl + ((es.length : Nat) : Int) * 256 + 131072) (by omega)) (cT rfl (bnd h66 (cT rfl ?_)))))
    rw [e1, e2, o5]
    refine (bnd (h59 _ _) (cT rfl (cT rfl rfl))).trans ?_
    simp only [auxN, cond_false, cond_true, Int.add_zero]; rfl
  · refine cT rfl (cF rfl (bnd (h65 (lvl + ((es.length : Nat) : Int) * 256 + 65536) (by omega)) (cT rfl (bnd h66 (cT rfl ?_)))))
    rw [e1, e2, o5]
    refine (bnd (h59 _ _) (cT rfl (cT rfl rfl))).trans ?_
    simp only [auxN, cond_false, cond_true, Int.add_zero]; rfl
  · refine cT rfl (cT rfl (bnd (h65 (lvl + ((es.length : Nat) : Int) * 256 + 65536 + 131072) (by omega)) (cT rfl (bnd h66 (cT rfl ?_)))))
    rw [e1, e2, o5]
    refine (bnd (h59 _ _) (cT rfl (cT rfl rfl))).trans ?_
    simp only [auxN, cond_true]; rfl
def rw1 (w : Int) : List AV := [.v (.int .u64 w)]
def eR (w : Int) : List AV := (En.of w).row
def S47 (p : Pg) (lvl : Int) (lm dd : Bool) (hi rl rg : Int) (f : Bool) (b4 : List (List AV)) : Store :=
  [⟨2, 42, 9, true, [p.row]⟩, ⟨1, 85, 7, true, [[.v (.int .i64 0), .v (.bool false), .v (.bool false), .v (.int .u32 0), .v (.int .i64 0), .v (.int .i64 0), .sl true 2 0 none]]⟩, ⟨1, 101, 3, false, []⟩, ⟨1, 85, 7, true, [[.v (.int .i64 lvl), .v (.bool lm), .v (.bool dd), .v (.int .u32 hi), .v (.int .i64 rl), .v (.int .i64 rg), .sl f 4 0 none]]⟩, ⟨1, 101, 3, false, b4⟩]
theorem l47 (p : Pg) (lvl : Int) (lm dd : Bool) (hi rl rg : Int) (ws : List Int) (hlen : ws.length ≤ 5) (hw : ∀ w ∈ ws, u64ok w) : ∀ (rest done : List Int) (f : Bool), ws = done ++ rest →
    lp 47 0 0 ⟨[(1, .ptr 0 0 0), (2, .ptr 1 0 0), (6, .ptr 3 0 0), (52, .lst false 1 (ws.map rw1)), (53, .v (.int .i64 (((ws.map rw1).length : Nat) : Int))), (54, .v (.int .i64 ((done.length : Nat) : Int)))], S47 p lvl lm dd hi rl rg f (done.map eR)⟩ =
      some ⟨some 0, ⟨[(1, .ptr 0 0 0), (2, .ptr 1 0 0), (6, .ptr 3 0 0)], S47 p lvl lm dd hi rl rg (f && rest.isEmpty) (ws.map eR)⟩, []⟩
  | [], done, f, h => by
    show lp 47 0 0 ⟨_, [⟨2, 42, 9, true, [[_, _, _, _, _, _, _, _, _]]⟩, _, _, _, _]⟩ = _
    rw [lp47_0]
    refine cF (ltI_f (by rw [List.length_map, h, List.append_nil]; omega)) ?_
    rw [h, List.append_nil, List.isEmpty_nil, Bool.and_true]; rfl
  | w :: rest, done, f, h => by
    have hl := len_at (f := rw1) h
    obtain ⟨w0, w1⟩ := hw w (by rw [h]; simp)
    have ih := l47 p lvl lm dd hi rl rg ws hlen hw rest (done ++ [w]) false (by rw [h]; simp)
    have hdl : done.length ≤ 4 := by rw [List.length_map] at hl; omega
    have a1 : avInt (cellAt (rw1 w) 0) = w := rfl
    have a2 : IntKind.u32.wrap w = w % 4294967296 := by rw [w_u32]
    have a3 : IntKind.u32.wrap (Int.fdiv w 4294967296) = w / 4294967296 := by rw [fdiv_pos _ _ (by decide), w_u32]; omega
    have h57 := s57 (w % 4294967296) (by omega) (by omega)
    show lp 47 0 0 ⟨_, [⟨2, 42, 9, true, [[_, _, _, _, _, _, _, _, _]]⟩, _, _, _, _]⟩ = _
    rw [lp47_0, row_at h, a1, a2, a3, next_at (p := w) (by omega)]
    refine cT (ltI_t (by omega)) (cT (by rw [leI_t (by omega), ltI_t (by omega)]; rfl) (cT rfl (bnd h57 (cT rfl (cT (leN_t (by rw [List.length_map]; omega)) ?_)))))
    rw [show (f && (w :: rest).isEmpty) = (false && rest.isEmpty) by simp]
    refine Eq.trans ?_ ih
    rw [List.map_append]; rfl
end Go.Proofs.YtjbpbidlcegopaaDoor.H
