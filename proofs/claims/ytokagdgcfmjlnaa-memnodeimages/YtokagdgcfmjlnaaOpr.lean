/- Operations. -/
import Derived.Test.YtokagdgcfmjlnaaImg
set_option linter.all false
namespace Go.Proofs.Ytokagdgcfmjlnaa
open Go.Ev
attribute [local congr] bind_first cond_first
structure Opr where
  k : Int
  a : Int
  c : Int
  A : Int
  B : Int
def Opr.row (o : Opr) : List AV := [.v (.int .i64 o.k), .v (.int .i64 o.a), .v (.int .i64 o.c), .v (.int .u64 o.A), .v (.int .u64 o.B)]
theorem Opr.row_eq (o : Opr) : o.row = [.v (.int .i64 o.k), .v (.int .i64 o.a), .v (.int .i64 o.c), .v (.int .u64 o.A), .v (.int .u64 o.B)] := rfl
def Opr.ok (o : Opr) : Prop := i64ok o.k ∧ i64ok o.a ∧ i64ok o.c ∧ (0 ≤ o.A ∧ o.A < 18446744073709551616) ∧ (0 ≤ o.B ∧ o.B < 18446744073709551616)
def o0 : Opr := ⟨0, 0, 0, 0, 0⟩
/-- What an operation leaves. -/
def opW (ws : List Int) (dn : Bool) (o : Opr) : List Int := doW ws dn o.k o.A o.B (atE ws o.a o.A) (pick (cntE o.c o.A) 20) (pick (cntE o.c o.A) 34)
def opD (ws : List Int) (dn : Bool) (o : Opr) : Bool := doD ws dn o.k
theorem swapW_len (ws : List Int) (dn : Bool) (kind A B a : Int) : (swapW ws dn kind A B a).length = ws.length := by
  unfold swapW; repeat' split
  all_goals first | rfl | simp
theorem opW_len (ws : List Int) (dn : Bool) (o : Opr) : (opW ws dn o).length = ws.length := by
  unfold opW doW
  simp only
  repeat' split
  all_goals first
    | rfl
    | exact swapW_len _ _ _ _ _ _
    | exact back_len _ _
    | exact List.length_set ..
    | (rename_i h; refine splice_len _ _ _ ?_; obtain ⟨g1, g2, g3, _⟩ := acc_zero.1 h; rw [wds_len]; omega)
theorem wok_swap {ws : List Int} (h : Wok ws) (dn : Bool) (kind A B a : Int) (hA : 0 ≤ A ∧ A < 18446744073709551616) : Wok (swapW ws dn kind A B a) := by
  unfold swapW
  by_cases h1 : acc ws.length (!dn) a 1 = 0
  · rw [if_pos h1]
    by_cases h2 : pick kind 10 = 4
    · rw [if_pos h2]; repeat' split
      all_goals first | exact wok_set h _ hA | exact h
    · rw [if_neg h2]; exact wok_set h _ (wok_wrap _)
  · rw [if_neg h1]; exact h
theorem wok_op {ws : List Int} (h : Wok ws) (dn : Bool) (o : Opr) (ho : o.ok) : Wok (opW ws dn o) := by
  unfold opW doW
  simp only
  have hp := pick_range (n := cntE o.c o.A) (m := 34) (by decide)
  repeat' split
  all_goals first
    | exact h
    | exact wok_splice h (wok_wds _ _) _
    | exact wok_swap h _ _ _ _ _ ho.2.2.2.1
    | exact wok_back h _
    | exact wok_set h _ ⟨by omega, by omega⟩
theorem s_op (ws : List Int) (dn : Bool) (o : Opr) (hl : 1 < ws.length ∧ ws.length ≤ 100000) (ho : o.ok) : ev 14 [ndO ws dn, rfO ws (!dn), .agg [.v (.int .i64 o.k), .v (.int .i64 o.a), .v (.int .i64 o.c), .v (.int .u64 o.A), .v (.int .u64 o.B)]] = some [.v (.bool true), ndO (opW ws dn o) (opD ws dn o), rfO (opW ws dn o) (!(opD ws dn o))] :=
  s_do ws dn o.k o.a o.c o.A o.B hl ho.2.1 ho.2.2.1
theorem opD_low (ws : List Int) (dn : Bool) (o : Opr) (h : pick o.k 10 < 6) : opD ws dn o = dn := by
  unfold opD doD
  simp only
  rw [if_neg (by omega), if_neg (by omega)]
theorem s_awake : ev 10 [] = some [.v (.bool true)] := evL_of (n := 12) (by kernel_rfl)
end Go.Proofs.Ytokagdgcfmjlnaa
