/- spoil: the walk. -/
import Derived.Test.YtnhahcomgeeobaaIns
set_option linter.all false
namespace Go.Proofs.Ytnhahcomgeeobaa
open Go.RowKit Go.Shelf Go.Lib Go.Ev
attribute [local go_sem] Oper.semAt_some
theorem w64 (x : Int) : wrap64 x = IntKind.i64.wrap x := by rw [w_i64]; unfold wrap64; omega
set_option maxHeartbeats 4000000 in
set_option maxRecDepth 1000000 in
theorem pick_walk (n m : Int) (w : World) (hm : 0 < m) (hm2 : m ≤ 1000) :
  Calls Try.prog 20 #[.int .i64 n,.int .i64 m] w fun e w' => e = .returned (.int .i64 (pick n m))∧w' = w := by
 have h1 : ¬ (m < 1) := by omega
 have h2 : ¬ (m = 0) := by omega
 have h3 : (wrap64 (n.tmod m + m)).tmod m = pick n m := by rw [w64]; exact pick_ok hm (by omega)
 go_enter Try.func20,Try.ntmps20
 go_wp2
 all_goals (go_ret; refine ⟨?_,rfl⟩; show Ending.returned (Value.int .i64 _) = _; rfl)
theorem infoCl : (Try.prog.info? 56).map (fun i => (i.zero,i.size,i.bytes)) = some (some (.agg #[.int .i64 0,.int .i64 0,.slice none 0 0,.int .i64 0,.int .i64 0,.int .i64 0,.slice none 0 0]),7,88) := by kernel_rfl
theorem infoRs : (Try.prog.info? 68).map (fun i => (i.zero,i.size,i.bytes)) = some (some (.agg #[.slice none 0 0,.int .i64 0]),2,32) := by kernel_rfl
theorem und27 : Try.prog.underlying 27 = some (.slice 56) := by kernel_rfl
theorem und54 : Try.prog.underlying 54 = some (.slice 68) := by kernel_rfl
def StpOk (J : World → Prop) (B mb mo i : Nat) (W : World) : Prop :=
 ∃ (sp v0 v1 v3 v4 v5 : Int) (RA : Option Addr) (rl rc : Nat),W.cell? ⟨mb,mo + i * 5 + 3,none⟩ = some (.int .i64 sp)∧W.cell? ⟨B,i * 7,none⟩ = some (.int .i64 v0)∧W.cell? ⟨B,i * 7 + 1,none⟩ = some (.int .i64 v1)∧W.cell? ⟨B,i * 7 + 3,none⟩ = some (.int .i64 v3)∧W.cell? ⟨B,i * 7 + 4,none⟩ = some (.int .i64 v4)∧W.cell? ⟨B,i * 7 + 5,none⟩ = some (.int .i64 v5)∧W.cell? ⟨B,i * 7 + 6,none⟩ = some (.slice RA rl rc) ∧
  (∀ j,W.frozen? ⟨B,j,none⟩ = false) ∧
  (pick sp 18 = 1 → J (W.setCell ⟨B,i * 7 + 4,none⟩ (.int .i64 16))) ∧
  (pick sp 18 = 2 → J (W.setCell ⟨B,i * 7 + 5,none⟩ (.int .i64 (wrap64 (v5 + 1))))) ∧
  (pick sp 18 = 3 → J (W.setCell ⟨B,i * 7,none⟩ (.int .i64 (wrap64 (v0 + 30))))) ∧
  (pick sp 18 = 4 → J (W.setCell ⟨B,i * 7 + 1,none⟩ (.int .i64 (wrap64 (v1 - 30))))) ∧
  (pick sp 18 = 5 → J (W.setCell ⟨B,i * 7 + 3,none⟩ (.int .i64 (pick (wrap64 (sp.tdiv 18)) 5)))) ∧
  (pick sp 18 = 6 → J (W.setCell ⟨B,i * 7 + 6,none⟩ (.slice none 0 0))) ∧
  (7 ≤ pick sp 18 → J W)∧(pick sp 18 = 0 → rl = 0 → J W) ∧
  (pick sp 18 = 0 → 0 < rl → ∃ (C G2 : Nat) (W2 : World) (num : Int),(∀ ty,(Builtin.append_ #[54,54] ty #[.slice none 0 0,.slice RA rl rc]).run Try.prog W = .ok (.slice (some ⟨C,0,none⟩) rl G2) W2) ∧
   W2.frozen? ⟨B,i * 7 + 6,none⟩ = false∧(∃ x,W2.cell? ⟨B,i * 7 + 6,none⟩ = some x) ∧
   (W2.setCell ⟨B,i * 7 + 6,none⟩ (.slice (some ⟨C,0,none⟩) rl G2)).cell? ⟨B,i * 7 + 6,none⟩ = some (.slice (some ⟨C,0,none⟩) rl G2) ∧
   (W2.setCell ⟨B,i * 7 + 6,none⟩ (.slice (some ⟨C,0,none⟩) rl G2)).cell? ⟨C,1,none⟩ = some (.int .i64 num) ∧
   (W2.setCell ⟨B,i * 7 + 6,none⟩ (.slice (some ⟨C,0,none⟩) rl G2)).frozen? ⟨C,1,none⟩ = false ∧
   J ((W2.setCell ⟨B,i * 7 + 6,none⟩ (.slice (some ⟨C,0,none⟩) rl G2)).setCell ⟨C,1,none⟩ (.int .i64 (wrap64 (num + 1)))))
set_option maxHeartbeats 4000000 in
set_option maxRecDepth 1000000 in
theorem sp_walk (A : Addr) (mb mo : Nat) (n c mn mc : Nat) (w W0 : World) (G : Nat) (hn : 0 < n) (hmn : n ≤ mn) (hbig : n ≤ 1000)
 (hap : ∀ ty,(Builtin.append_ #[27,27] ty #[.slice none 0 0,.slice (some A) n c]).run Try.prog w = .ok (.slice (some ⟨w.heap.size,0,none⟩) n G) W0)
 (J : Nat → World → Prop) (hJ0 : J 0 W0)
 (hJ1 : ∀ i W,i < n → J i W → StpOk (J (i + 1)) w.heap.size mb mo i W) :
  Calls Try.prog 14 #[.slice (some A) n c,.slice (some ⟨mb,mo,none⟩) mn mc] w fun e w' => e = .returned (.slice (some ⟨w.heap.size,0,none⟩) n G)∧J n w' := by
 go_enter Try.func14,Try.ntmps14
 go_wp2_with (at_builtin; refine Lib.wpList_append_run _ rfl _ _ _ _ rfl _ _ rfl rfl _ _ (hap _) ?_)
 go_loopg [5] n (fun g s5 wr => ∃ i : Nat,i + g = n∧s5 = .int .i64 i∧J i wr)
 case atStart => exact ⟨0,by omega,rfl,hJ0⟩
 case round =>
  obtain ⟨i,hig,rfl,hJ⟩ := hrel
  cases gk with
  | zero =>
   obtain rfl : i = n := by omega
   go_wp2
   go_ret
   exact ⟨rfl,hJ⟩
  | succ g =>
   have hi : i < n := by omega
   have him : i < mn := by omega
   obtain ⟨sp,v0,v1,v3,v4,v5,RA,rl,rc,hsp,h0,h1,h3,h4,h5,h6,hfz,k1,k2,k3,k4,k5,k6,k7,k8,k9⟩ := hJ1 i wr hi hJ
   have hw : wrap64 ((i : Int) + 1) = ((i + 1 : Nat) : Int) := by rw [w64,w_i64]; omega
   have hpk := pick_walk sp 18 wr (by decide) (by decide)
   have hrg := pick_range (n := sp) (m := 18) (by decide)
   obtain ⟨r,hr⟩ : ∃ r,pick sp 18 = r := ⟨_,rfl⟩
   rw [hr] at hpk k1 k2 k3 k4 k5 k6 k7 k8 k9 hrg
   clear hJ1 hJ
   by_cases r1 : r = 1
   ·subst r1
    have k := k1 rfl
    clear k1 k2 k3 k4 k5 k6 k7 k8 k9
    go_wp2_with (refine hpk.mono ?_; rintro e w' ⟨rfl,rfl⟩)
    go_roundg g
    case measure => omega
    case rel => exact ⟨i + 1,by omega,rfl,k⟩
   by_cases r2 : r = 2
   ·subst r2
    have k := k2 rfl
    clear k1 k2 k3 k4 k5 k6 k7 k8 k9
    go_wp2_with (refine hpk.mono ?_; rintro e w' ⟨rfl,rfl⟩)
    go_roundg g
    case measure => omega
    case rel => exact ⟨i + 1,by omega,rfl,k⟩
   by_cases r3 : r = 3
   ·subst r3
    have k := k3 rfl
    clear k1 k2 k3 k4 k5 k6 k7 k8 k9
    go_wp2_with (refine hpk.mono ?_; rintro e w' ⟨rfl,rfl⟩)
    go_roundg g
    case measure => omega
    case rel => exact ⟨i + 1,by omega,rfl,k⟩
   by_cases r4 : r = 4
   ·subst r4
    have k := k4 rfl
    clear k1 k2 k3 k4 k5 k6 k7 k8 k9
    go_wp2_with (refine hpk.mono ?_; rintro e w' ⟨rfl,rfl⟩)
    go_roundg g
    case measure => omega
    case rel => exact ⟨i + 1,by omega,rfl,k⟩
   by_cases r6 : r = 6
   ·subst r6
    have k := k6 rfl
    clear k1 k2 k3 k4 k5 k6 k7 k8 k9
    go_wp2_with (refine hpk.mono ?_; rintro e w' ⟨rfl,rfl⟩)
    go_roundg g
    case measure => omega
    case rel => exact ⟨i + 1,by omega,rfl,k⟩
   by_cases r5 : r = 5
   ·subst r5
    have k := k5 rfl
    have hpk2 := fun W => pick_walk (wrap64 (sp.tdiv 18)) 5 W (by decide) (by decide)
    clear k1 k2 k3 k4 k5 k6 k7 k8 k9
    go_wp2_with (refine hpk.mono ?_; rintro e w' ⟨rfl,rfl⟩; clear hpk)
    refine (hpk2 _).mono ?_
    rintro e w' ⟨rfl,rfl⟩
    go_wp2
    go_roundg g
    case measure => omega
    case rel => exact ⟨i + 1,by omega,rfl,k⟩
   by_cases r0 : r = 0
   ·subst r0
    by_cases hl : rl = 0
    ·subst hl
     have k := k8 rfl rfl
     clear k1 k2 k3 k4 k5 k6 k7 k8 k9
     go_wp2_with (refine hpk.mono ?_; rintro e w' ⟨rfl,rfl⟩)
     go_roundg g
     case measure => omega
     case rel => exact ⟨i + 1,by omega,rfl,k⟩
    ·obtain ⟨C,G2,W2,num,hap2,f1,⟨x,c1⟩,c2,c3,f2,k⟩ := k9 rfl (by omega)
     have hrl : (0 : Int) < (rl : Int) := by omega
     clear k1 k2 k3 k4 k5 k6 k7 k8 k9
     go_wp2_with (first | (refine hpk.mono ?_; rintro e w' ⟨rfl,rfl⟩) | (at_builtin; refine Lib.wpList_append_run _ rfl _ _ _ _ rfl _ _ rfl rfl _ _ (hap2 _) ?_))
     go_roundg g
     case measure => omega
     case rel => exact ⟨i + 1,by omega,rfl,k⟩
   have k := k7 (by omega)
   have r0b : (r == 0) = false := beq_eq_false_iff_ne.2 r0
   have r1b : (r == 1) = false := beq_eq_false_iff_ne.2 r1
   have r2b : (r == 2) = false := beq_eq_false_iff_ne.2 r2
   have r3b : (r == 3) = false := beq_eq_false_iff_ne.2 r3
   have r4b : (r == 4) = false := beq_eq_false_iff_ne.2 r4
   have r5b : (r == 5) = false := beq_eq_false_iff_ne.2 r5
   have r6b : (r == 6) = false := beq_eq_false_iff_ne.2 r6
   clear k1 k2 k3 k4 k5 k6 k7 k8 k9
   go_wp2_with (refine hpk.mono ?_; rintro e w' ⟨rfl,rfl⟩)
   go_roundg g
   case measure => omega
   case rel => exact ⟨i + 1,by omega,rfl,k⟩
end Go.Proofs.Ytnhahcomgeeobaa
