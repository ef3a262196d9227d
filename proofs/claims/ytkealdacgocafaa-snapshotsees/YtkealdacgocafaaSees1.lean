/- Resolving in the chain. -/
import Derived.Test.YtkealdacgocafaaSees0
set_option linter.all false
namespace Go.Proofs.Ytkealdacgocafaa
open Go.Ev
attribute [local congr] bind_first cond_first
set_option maxRecDepth 10000
theorem cT {α : Type} {c : Bool} {A B : α} {r : α} (h : c = true) (h2 : A = r) : cond c A B = r := by rw [h]; exact h2
theorem cF {α : Type} {c : Bool} {A B : α} {r : α} (h : c = false) (h2 : B = r) : cond c A B = r := by rw [h]; exact h2
theorem beq_t {a b : Int} (h : a = b) : (a == b) = true := by rw [h]; exact beq_self_i b
theorem beq_f {a b : Int} (h : a ≠ b) : (a == b) = false := beq_eq_false_iff_ne.2 h
theorem look_fr {q : Nat} {v : Ver} {pl : Int} (hv : valid pl 1 = true) : lookR (some (fillP (fr q) v)) pl 1 1 true = [.agg (fillP (fr q) v).row, .v (.bool true), .v (.int .i64 0)] := by
  obtain ⟨f1, f2, _⟩ := fill_d0 (fr q) v (by rfl)
  unfold lookR
  exact cT hv (cF rfl (cF (by rw [f1]; rfl) (cT (by rw [f2]; rfl) (cT (by rw [f1]; rfl) rfl))))
theorem look_free {r : Pg} {pl : Int} (hv : valid pl 1 = true) (h1 : r.h % 256 = 0) (h2 : r.d0 % 256 = 0) : lookR (some r) pl 1 1 true = [.agg zero9, .v (.bool false), .v (.int .i64 11)] := by
  unfold lookR
  exact cT hv (cF (by rw [h1]; rfl) (cT (by rw [h2]; rfl) rfl))
/-- The answers of Resolve. -/
def resA (S : Nat → Int) : Option Nat → List AV
  | some i => [.lst true 1 [], .agg (VS S i).row, .v (.bool true), .v (.int .i64 0), .v (.bool true)]
  | none => [.lst true 1 [], .agg vzero.row, .v (.bool false), .v (.int .i64 0), .v (.bool true)]
/-- The newest of n versions from lo on that is visible. -/
def top (V : Nat → Bool) (lo : Nat) : Nat → Option Nat
  | 0 => none
  | n + 1 => bif V (lo + n) then some (lo + n) else top V lo n
/-- The line at which version t lies. -/
def ln (m t : Nat) : Int := if t = m then 105 else 106 + (t : Int)
def PP (S : Nat → Int) (m t : Nat) : Pg := if t = m then HP S m else QP S t
theorem PP_fill (S : Nat → Int) (m t : Nat) : ∃ q, q ≤ t + 1 ∧ PP S m t = fillP (fr q) (VS S t) := by
  unfold PP
  by_cases h : t = m
  · rw [if_pos h, h]; exact ⟨0, by omega, rfl⟩
  · rw [if_neg h]; exact ⟨t + 1, by omega, rfl⟩
theorem ln_valid {m t : Nat} (h : t ≤ 100) : valid (ln m t) 1 = true := by
  unfold ln
  split
  · rfl
  · exact valid_iff.2 (by omega)
theorem l_res {S : Nat → Int} (v : Vc) (ps : List Pg) (b : Bool) (m lo : Nat) (hm : m ≤ 30) (hS : Sok S (m + 1)) (hl : ps.length ≤ 1000) (hok : ∀ p ∈ ps, p.ok)
    (hP : ∀ t, lo ≤ t → t ≤ m → lat ps (ln m t) ps.length = some (PP S m t))
    (hE : lo = 0 ∨ ∃ r, lat ps (ln m (lo - 1)) ps.length = some r ∧ r.h % 256 = 0 ∧ r.d0 % 256 = 0) (hlo : lo ≤ m) : ∀ (n t : Nat) (kk : Int), t + 1 = lo + n → t ≤ m → (kk = 0 ∨ kk = 9) →
    lp 12 0 0 ⟨[(2, .lst b 9 (ps.map Pg.row)), (3, .ptr 0 0 0), (4, .ptr 1 0 0), (7, .ptr 2 0 0), (11, .clo 24 [] []), (12, .ptr 3 0 0), (13, .v (.int .u32 kk)), (19, .v (.int .i64 ((m - t : Nat) : Int)))],
      [⟨1, 25, 6, true, [[.v (.int .u64 v.c0), .v (.int .u64 v.c1), .v (.int .u64 v.c2), .v (.int .u64 v.c3), .v (.int .u64 v.c4), .v (.int .u64 v.c5)]]⟩, ⟨1, 43, 2, true, [[.v (.int .i64 105), .v (.int .i64 1)]]⟩, ⟨1, 45, 9, true, [vzero.row]⟩, ⟨1, 43, 2, true, [[.v (.int .i64 (ln m t)), .v (.int .i64 1)]]⟩]⟩ =
      some ⟨none, ⟨[], []⟩, resA S (top (fun i => vis v (S i)) lo n)⟩
  | 0, t, kk, ht, htm, hk => by
    have h25 := s_pOpen ps b (ln m t) 1 1 hl hok
    obtain ⟨r, h1, h2, h3⟩ : ∃ r, lat ps (ln m (lo - 1)) ps.length = some r ∧ r.h % 256 = 0 ∧ r.d0 % 256 = 0 := by
      rcases hE with h | h
      · omega
      · exact h
    rw [show lo - 1 = t by omega] at h1
    rw [h1, look_free (ln_valid (by omega)) h2 h3] at h25
    have hne : ln m t ≠ 105 := by unfold ln; rw [if_neg (by omega)]; omega
    unfold Ver.row vzero
    rw [lp12_0, ltI_t (by omega)]
    refine cT rfl (bnd h25 (cT rfl (cT rfl (cT rfl (cT rfl (cT ?_ ?_))))))
    · show (!((ln m t == 105) && ((1 : Int) == 1))) = true
      rw [beq_f hne]; rfl
    rw [ev24]
    rfl
  | n + 1, t, kk, ht, htm, hk => by
    have h25 := s_pOpen ps b (ln m t) 1 1 hl hok
    have hp := hP t (by omega) htm
    obtain ⟨q, hq, hfill⟩ := PP_fill S m t
    rw [hp, hfill, look_fr (ln_valid (by omega))] at h25
    obtain ⟨a1, a2, a3⟩ := VS_ok hS (show t < m + 1 by omega) (by omega)
    have hread := s_recRead (fillP (fr q) (VS S t)) (fillP_ok _ _ (fr_ok (by omega)) a1)
    rw [read_fill _ _ a1 a2 (d0_fr q)] at hread
    have hs := hS t (by omega)
    have hvis := s_Visible v (S t) hs.1.1 (by have := hs.1.2; omega)
    have hst := VS_st (S := S) t
    have htop : top (fun i => vis v (S i)) lo (n + 1) = bif vis v (S t) then some t else top (fun i => vis v (S i)) lo n := by
      show (bif vis v (S (lo + n)) then some (lo + n) else _) = _
      rw [show lo + n = t by omega]
    rw [htop]
    unfold Ver.row vzero
    rw [lp12_0, ltI_t (by omega)]
    have e1 : t ≠ 0 → IntKind.i64.wrap (((m - t : Nat) : Int) + 1) = ((m - (t - 1) : Nat) : Int) := fun h => by rw [w_i64]; omega
    have hend : ∀ (K : List AV → Option LR) , t = 0 → (ev 24 [.v (.int .i64 0)]).bind K = K (resA S none) := fun K _ => by
      rw [ev24]; rfl
    refine cT rfl (bnd h25 (cT rfl (cT rfl (cT rfl (cF rfl (cF rfl (cF rfl (bnd hread (cT rfl (cT rfl (cF rfl ?_)))))))))))
    have tailE : ∀ {kx : Int} {X : Option LR}, (vis v (S t) = false → t ≠ 0 → kx = 9 → X = some ⟨none, ⟨[], []⟩, resA S (top (fun i => vis v (S i)) lo n)⟩) → True := fun _ => trivial
    rcases hk with rfl | rfl
    · refine cT rfl (cF (by show (!((VS S t).key == (VS S t).key)) = false; rw [beq_self_i]; rfl) ?_)
      refine bnd (show _ = some [AV.v (.bool (vis v (S t)))] from ?_) (cT rfl ?_)
      · show ev 15 [_, .v (.int .u64 (VS S t).st)] = _
        rw [hst]; exact hvis
      cases hv : vis v (S t) with
      | true => exact cT rfl rfl
      | false =>
        refine cF rfl ?_
        by_cases h0 : t = 0
        · subst h0
          rw [show n = 0 by omega]
          refine cT rfl ?_
          rw [ev24]
          rfl
        · obtain ⟨t', rfl⟩ : ∃ t', t = t' + 1 := ⟨t - 1, by omega⟩
          have ih := l_res v ps b m lo hm hS hl hok hP hE hlo n t' 9 (by omega) (by omega) (Or.inr rfl)
          refine cF (by show ((105 + ((t' + 1 : Nat) : Int) == 0) && ((1 : Int) == 0)) = false; rw [beq_f (show (105 : Int) + ((t' + 1 : Nat) : Int) ≠ 0 by omega)]; rfl) ?_
          show lp _ 0 0 ⟨[_, _, _, _, _, _, (13, .v (.int .u32 (VS S (t' + 1)).key)), (19, .v (.int .i64 (IntKind.i64.wrap (((m - (t' + 1) : Nat) : Int) + 1))))], [_, _, _, ⟨1, 43, 2, true, [[.v (.int .i64 (105 + ((t' + 1 : Nat) : Int))), .v (.int .i64 1)]]⟩]⟩ = _
          rw [a3, e1 h0, show t' + 1 - 1 = t' from rfl, show 105 + ((t' + 1 : Nat) : Int) = ln m t' by unfold ln; rw [if_neg (by omega)]; omega]
          exact ih
    · refine cF rfl (cF (by show (!((VS S t).key == 9)) = false; rw [a3]; rfl) ?_)
      refine bnd (show _ = some [AV.v (.bool (vis v (S t)))] from ?_) (cT rfl ?_)
      · show ev 15 [_, .v (.int .u64 (VS S t).st)] = _
        rw [hst]; exact hvis
      cases hv : vis v (S t) with
      | true => exact cT rfl rfl
      | false =>
        refine cF rfl ?_
        by_cases h0 : t = 0
        · subst h0
          rw [show n = 0 by omega]
          refine cT rfl ?_
          rw [ev24]
          rfl
        · obtain ⟨t', rfl⟩ : ∃ t', t = t' + 1 := ⟨t - 1, by omega⟩
          have ih := l_res v ps b m lo hm hS hl hok hP hE hlo n t' 9 (by omega) (by omega) (Or.inr rfl)
          refine cF (by show ((105 + ((t' + 1 : Nat) : Int) == 0) && ((1 : Int) == 0)) = false; rw [beq_f (show (105 : Int) + ((t' + 1 : Nat) : Int) ≠ 0 by omega)]; rfl) ?_
          show lp _ 0 0 ⟨[_, _, _, _, _, _, _, (19, .v (.int .i64 (IntKind.i64.wrap (((m - (t' + 1) : Nat) : Int) + 1))))], [_, _, _, ⟨1, 43, 2, true, [[.v (.int .i64 (105 + ((t' + 1 : Nat) : Int))), .v (.int .i64 1)]]⟩]⟩ = _
          rw [e1 h0, show t' + 1 - 1 = t' from rfl, show 105 + ((t' + 1 : Nat) : Int) = ln m t' by unfold ln; rw [if_neg (by omega)]; omega]
          exact ih
theorem s_Resolve {S : Nat → Int} (v : Vc) (ps : List Pg) (b : Bool) (m lo : Nat) (hm : m ≤ 30) (hS : Sok S (m + 1)) (hl : ps.length ≤ 1000) (hok : ∀ p ∈ ps, p.ok)
    (hP : ∀ t, lo ≤ t → t ≤ m → lat ps (ln m t) ps.length = some (PP S m t))
    (hE : lo = 0 ∨ ∃ r, lat ps (ln m (lo - 1)) ps.length = some r ∧ r.h % 256 = 0 ∧ r.d0 % 256 = 0) (hlo : lo ≤ m) :
    ev 12 [.agg (vcl v.c0 v.c1 v.c2 v.c3 v.c4 v.c5), .agg [.v (.int .i64 105), .v (.int .i64 1)], .lst b 9 (ps.map Pg.row)] = some (resA S (top (fun i => vis v (S i)) lo (m + 1 - lo))) := by
  have h := l_res v ps b m lo hm hS hl hok hP hE hlo (m + 1 - lo) m 0 (by omega) (Nat.le_refl m) (Or.inl rfl)
  rw [Nat.sub_self, show ln m m = 105 by unfold ln; rw [if_pos rfl]] at h
  rw [ev12]
  exact bnd h (cF rfl (cT rfl rfl))
end Go.Proofs.Ytkealdacgocafaa
