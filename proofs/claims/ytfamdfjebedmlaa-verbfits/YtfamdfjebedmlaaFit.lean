/- What Fit and First answer. -/
import Derived.Test.YtfamdfjebedmlaaTy
import Derived.Test.YtfamdfjebedmlaaEv10
set_option linter.all false
namespace Go.Proofs.Ytfamdfjebedmlaa
open Go.Ev
attribute [local congr] bind_first cond_first
theorem s_Pick (a m : Int) (hm : 0 < m) (hm' : m ≤ 4611686018427387904) : ev 8 [.v (.int .i64 a), .v (.int .i64 m)] = some [.v (.int .i64 (pick a m))] := by
  rw [ev8]
  simp only [ltI_f (show 1 ≤ m by omega), eqI_f (show m ≠ 0 by omega), cond_false, pick_ok hm hm']
structure Vb where
  kind : Int
  node : Int
  a : Int
  n : Int
  old : Int
  new : Int
  wn : Bool
  ws : List (List AV)
  key : Int
  boot : Int
def Vb.row (v : Vb) : List AV := [.v (.int .i64 v.kind), .v (.int .i64 v.node), .v (.int .i64 v.a), .v (.int .i64 v.n), .v (.int .u64 v.old), .v (.int .u64 v.new), .lst v.wn 1 v.ws, .v (.int .u64 v.key), .v (.int .i64 v.boot)]
def okV (r : List AV) : Prop := ∃ v : Vb, r = v.row ∧ 1 ≤ v.kind ∧ v.kind ≤ 4
def okD (r : List AV) : Prop := ∃ (c : Int) (a : AV), r = [.v (.int .i64 c), a] ∧ isL 1 a = true
def rret (kind n : Int) : Int := if kind = 1 then n else if kind = 2 then 0 else 1
theorem s_ret (v : Vb) (h : 1 ≤ v.kind ∧ v.kind ≤ 4) : ev 24 [.agg v.row] = some [.v (.int .i64 (rret v.kind v.n))] := by
  obtain ⟨kind, node, a, n, old, new, wn, ws, key, boot⟩ := v
  simp only at h
  rw [Vb.row, ev24]
  have : kind = 1 ∨ kind = 2 ∨ kind = 3 ∨ kind = 4 := by omega
  rcases this with rfl | rfl | rfl | rfl <;> rfl
theorem s_rret (v : Vb) (h : 1 ≤ v.kind ∧ v.kind ≤ 4) : ev 7 [.agg v.row] = some [.v (.int .i64 (rret v.kind v.n))] := by
  obtain ⟨kind, node, a, n, old, new, wn, ws, key, boot⟩ := v
  simp only at h
  rw [Vb.row, ev7]
  have : kind = 1 ∨ kind = 2 ∨ kind = 3 ∨ kind = 4 := by omega
  rcases this with rfl | rfl | rfl | rfl <;> rfl
def fitB (r c : Int) (len : Nat) : Bool := if c = 0 then ((len : Nat) : Int) == r else if c = 4 ∨ c = 5 then ((len : Nat) : Int) == 0 else false
theorem s_fits (v : Vb) (h : 1 ≤ v.kind ∧ v.kind ≤ 4) (c : Int) (wn : Bool) (ws : List (List AV)) : ev 19 [.agg v.row, .agg [.v (.int .i64 c), .lst wn 1 ws]] = some [.v (.bool (fitB (rret v.kind v.n) c ws.length))] := by
  have h24 := s_ret v h
  obtain ⟨kind, node, a, n, old, new, vn, vs, key, boot⟩ := v
  unfold Vb.row at *
  rw [ev19]
  by_cases h0 : c = 0
  · subst h0
    rw [h24]; rfl
  · rw [show (c == 0) = false from beq_eq_false_iff_ne.2 h0]
    by_cases h4 : c = 4
    · subst h4; rfl
    · rw [show (c == 4) = false from beq_eq_false_iff_ne.2 h4]
      by_cases h5 : c = 5
      · subst h5; rfl
      · rw [show (c == 5) = false from beq_eq_false_iff_ne.2 h5]
        unfold fitB
        rw [if_neg h0, if_neg (by omega)]
        rfl
def fin (b : Bool) : LR := bif b then ⟨some 0, ⟨[], []⟩, []⟩ else ⟨none, ⟨[], []⟩, [.v (.bool false)]⟩
theorem lgetE (xs : List (List AV)) (i : Nat) (h : i < xs.length) : lget xs i ∈ xs := by
  unfold lget; simp [h]
theorem l_fit (yn xn : Bool) (xs ys : List (List AV)) (hx : ∀ r ∈ xs, okV r) (hy : ∀ r ∈ ys, okD r) (hl : xs.length = ys.length) (hb : ys.length ≤ 1000000) : ∀ (k i : Nat), i + k = ys.length →
    ∃ b, lp 9 0 0 ⟨[(1, .lst yn 2 ys), (12, .lst xn 9 xs), (13, .v (.int .i64 ((xs.length : Nat) : Int))), (14, .v (.int .i64 (i : Int)))], []⟩ = some (fin b) ∧
      lp 10 0 0 ⟨[(0, .lst xn 9 xs), (1, .lst yn 2 ys), (5, .v (.int .i64 (i : Int)))], []⟩ = some (fin b)
  | 0, i, hi => by
    refine ⟨true, ?_, ?_⟩
    · rw [lp9_0, ltI_f (by omega)]; rfl
    · rw [lp10_0, ltI_f (by omega)]; rfl
  | k + 1, i, hi => by
    obtain ⟨b, i1, i2⟩ := l_fit yn xn xs ys hx hy hl hb k (i + 1) (by omega)
    have e1 : IntKind.i64.wrap ((i : Int) + 1) = ((i + 1 : Nat) : Int) := by rw [w_i64]; omega
    obtain ⟨v, hv, hk⟩ := hx _ (lgetE xs i (by omega))
    obtain ⟨c, a, hd, ha⟩ := hy _ (lgetE ys i (by omega))
    obtain ⟨wn, ws, ha1, ha2⟩ : ∃ wn ws, avNil a = wn ∧ avXs a = ws := ⟨_, _, rfl, rfl⟩
    have hf := s_fits v hk c wn ws
    have hr := s_rret v hk
    have hsh : (isI .i64 (cellAt v.row 0) && (isI .i64 (cellAt v.row 1) && (isI .i64 (cellAt v.row 2) && (isI .i64 (cellAt v.row 3) && (isI .u64 (cellAt v.row 4) && (isI .u64 (cellAt v.row 5) && (isL 1 (cellAt v.row 6) && (isI .u64 (cellAt v.row 7) && isI .i64 (cellAt v.row 8))))))))) = true := by
      cases v.wn <;> simp [Vb.row, cellAt, isI, isL]
    have hrow : [AV.v (.int .i64 (avInt (cellAt v.row 0))), .v (.int .i64 (avInt (cellAt v.row 1))), .v (.int .i64 (avInt (cellAt v.row 2))), .v (.int .i64 (avInt (cellAt v.row 3))), .v (.int .u64 (avInt (cellAt v.row 4))), .v (.int .u64 (avInt (cellAt v.row 5))), .lst (avNil (cellAt v.row 6)) 1 (avXs (cellAt v.row 6)), .v (.int .u64 (avInt (cellAt v.row 7))), .v (.int .i64 (avInt (cellAt v.row 8)))] = v.row := rfl
    have c0 : cellAt [AV.v (.int .i64 c), a] 0 = .v (.int .i64 c) := rfl
    have c1 : cellAt [AV.v (.int .i64 c), a] 1 = a := rfl
    have hfit : ∀ b, lp 9 0 0 ⟨[(1, .lst yn 2 ys), (12, .lst xn 9 xs), (13, .v (.int .i64 ((xs.length : Nat) : Int))), (14, .v (.int .i64 ((i + 1 : Nat) : Int)))], []⟩ = some (fin b) →
        lp 9 0 0 ⟨[(1, .lst yn 2 ys), (12, .lst xn 9 xs), (13, .v (.int .i64 ((xs.length : Nat) : Int))), (14, .v (.int .i64 (i : Int)))], []⟩ = some (fin (fitB (rret v.kind v.n) c ws.length && b)) := fun b hb' => by
      rw [lp9_0, ltI_t (show (i : Int) < _ by omega), leI_t (show (0 : Int) ≤ (i : Int) by omega), ltI_t (show (i : Int) < ((ys.length : Nat) : Int) by omega), Int.toNat_natCast, hv, hd, hsh, hrow, c0, c1, ha, ha1, ha2, e1, hb']
      simp only [isI_v, avInt_v, Bool.and_self, cond_true]
      refine bnd hf ?_
      cases fitB (rret v.kind v.n) c ws.length <;> rfl
    refine ⟨fitB (rret v.kind v.n) c ws.length && b, hfit b i1, ?_⟩
    rw [lp10_0, ltI_t (show (i : Int) < _ by omega), leI_t (show (0 : Int) ≤ (i : Int) by omega), ltI_t (show (i : Int) < ((xs.length : Nat) : Int) by omega), Int.toNat_natCast, hv, hd, hsh, hrow, c0, c1, ha, ha2, e1, i2]
    simp only [isI_v, avInt_v, Bool.and_self, cond_true, hr, Option.bind_some, cellAt_zero]
    by_cases h0 : c = 0
    · subst h0
      unfold fitB
      rw [if_pos rfl]
      cases hh : (((ws.length : Nat) : Int) == rret v.kind v.n) <;> rfl
    · rw [show (c == 0) = false from beq_eq_false_iff_ne.2 h0]
      unfold fitB
      rw [if_neg h0]
      by_cases h4 : c = 4
      · subst h4
        cases hh : (((ws.length : Nat) : Int) == 0) <;> rfl
      · rw [show (c == 4) = false from beq_eq_false_iff_ne.2 h4]
        by_cases h5 : c = 5
        · subst h5
          cases hh : (((ws.length : Nat) : Int) == 0) <;> rfl
        · rw [show (c == 5) = false from beq_eq_false_iff_ne.2 h5, if_neg (by omega)]
          rfl
theorem s_Fit (yn xn : Bool) (xs ys : List (List AV)) (hx : ∀ r ∈ xs, okV r) (hy : ∀ r ∈ ys, okD r) (hb : xs.length ≤ 1000000) (hb2 : ys.length ≤ 1000000) :
    ∃ b, ev 9 [.lst xn 9 xs, .lst yn 2 ys] = some [.v (.bool b)] ∧ ev 10 [.lst xn 9 xs, .lst yn 2 ys] = some [.v (.bool b)] := by
  rw [ev9, ev10]
  by_cases h : xs.length = ys.length
  · obtain ⟨b, l1, l2⟩ := l_fit yn xn xs ys hx hy h hb2 ys.length 0 (by omega)
    rw [show (((xs.length : Nat) : Int) == ((ys.length : Nat) : Int)) = true from beq_iff_eq.2 (by omega)]
    refine ⟨b, bnd l1 ?_, bnd l2 ?_⟩ <;> cases b <;> rfl
  · rw [show (((xs.length : Nat) : Int) == ((ys.length : Nat) : Int)) = false from beq_eq_false_iff_ne.2 (by omega)]
    exact ⟨false, rfl, rfl⟩
def finF (c : Option Int) : LR := match c with | none => ⟨some 0, ⟨[], []⟩, []⟩ | some c => ⟨none, ⟨[], []⟩, [.v (.int .i64 c)]⟩
theorem l_first (yn : Bool) (ys : List (List AV)) (hy : ∀ r ∈ ys, okD r) (hb : ys.length ≤ 1000000) : ∀ (k i : Nat), i + k = ys.length →
    ∃ b, lp 11 0 0 ⟨[(5, .lst yn 2 ys), (6, .v (.int .i64 ((ys.length : Nat) : Int))), (7, .v (.int .i64 (i : Int)))], []⟩ = some (finF b) ∧
      lp 12 0 0 ⟨[(0, .lst yn 2 ys), (3, .v (.int .i64 (i : Int)))], []⟩ = some (finF b)
  | 0, i, hi => by
    refine ⟨none, ?_, ?_⟩
    · rw [lp11_0, ltI_f (by omega)]; rfl
    · rw [lp12_0, ltI_f (by omega)]; rfl
  | k + 1, i, hi => by
    obtain ⟨b, i1, i2⟩ := l_first yn ys hy hb k (i + 1) (by omega)
    have e1 : IntKind.i64.wrap ((i : Int) + 1) = ((i + 1 : Nat) : Int) := by rw [w_i64]; omega
    obtain ⟨c, a, hd, ha⟩ := hy _ (lgetE ys i (by omega))
    have c0 : cellAt [AV.v (.int .i64 c), a] 0 = .v (.int .i64 c) := rfl
    have c1 : cellAt [AV.v (.int .i64 c), a] 1 = a := rfl
    refine ⟨if c = 0 then b else some c, ?_, ?_⟩
    · rw [lp11_0, ltI_t (show (i : Int) < _ by omega), leI_t (show (0 : Int) ≤ (i : Int) by omega), Int.toNat_natCast, hd, c0, c1, ha, e1, i1]
      by_cases h0 : c = 0
      · subst h0; rfl
      · rw [if_neg h0]; simp only [avInt_v, show (c == 0) = false from beq_eq_false_iff_ne.2 h0]; rfl
    · rw [lp12_0, ltI_t (show (i : Int) < _ by omega), leI_t (show (0 : Int) ≤ (i : Int) by omega), Int.toNat_natCast, hd, c0, e1, i2]
      by_cases h0 : c = 0
      · subst h0; rfl
      · rw [if_neg h0]; simp only [avInt_v, show (c == 0) = false from beq_eq_false_iff_ne.2 h0]; rfl
theorem s_First (yn : Bool) (ys : List (List AV)) (hy : ∀ r ∈ ys, okD r) (hb : ys.length ≤ 1000000) :
    ∃ c : Int, ev 11 [.lst yn 2 ys] = some [.v (.int .i64 c)] ∧ ev 12 [.lst yn 2 ys] = some [.v (.int .i64 c)] := by
  obtain ⟨b, l1, l2⟩ := l_first yn ys hy hb ys.length 0 (by omega)
  rw [ev11, ev12]
  refine ⟨b.getD 0, bnd l1 ?_, bnd l2 ?_⟩ <;> cases b <;> rfl
end Go.Proofs.Ytfamdfjebedmlaa
