/- Choices of a fabric with one pair: the walk. -/
import Derived.Test.YtnjccbnlmdajkaaStpW
set_option linter.all false
namespace Go.Proofs.Ytnjccbnlmdajkaa
open Go.RowKit Go.Shelf Go.Lib Go.Ev
attribute [local go_sem] Oper.semAt_some
set_option maxHeartbeats 8000000 in
set_option maxRecDepth 1000000 in
theorem choices1_walk (bf bc bl lc pb vl vc B c' : Nat) (VA PA BA : Option Addr) (pl pc bn bcp : Nat) (al : Bool) (inc wv tr po : Int) (w wa wb W4 : World) (K : World → Prop) (hvl : 0 < vl)
  (h2 : w.cell? ⟨bf,2,none⟩ = some (.slice (some ⟨bc,0,none⟩) 1 1)) (c0 : w.cell? ⟨bc,0,none⟩ = some (.bool al)) (c1 : w.cell? ⟨bc,1,none⟩ = some (.int .i64 inc)) (c2 : w.cell? ⟨bc,2,none⟩ = some (.slice (some ⟨bl,0,none⟩) 1 lc))
  (c3 : w.cell? ⟨bc,3,none⟩ = some (.slice BA bn bcp)) (c4 : w.cell? ⟨bc,4,none⟩ = some (.int .i64 wv)) (c5 : w.cell? ⟨bc,5,none⟩ = some (.int .i64 tr)) (c6 : w.cell? ⟨bc,6,none⟩ = some (.int .i64 po))
  (ea : w.alloc (.cells #[.bool al,.int .i64 inc,.slice (some ⟨bl,0,none⟩) 1 lc,.slice BA bn bcp,.int .i64 wv,.int .i64 tr,.int .i64 po] 74) = wa)
  (ga : wa.cell? ⟨w.heap.size,2,none⟩ = some (.slice (some ⟨bl,0,none⟩) 1 lc)) (d0 : wa.cell? ⟨bl,0,none⟩ = some (.pointer (some ⟨pb,0,none⟩))) (d1 : wa.cell? ⟨bl,1,none⟩ = some (.slice PA pl pc))
  (eb : wa.alloc (.cells #[.pointer (some ⟨pb,0,none⟩),.slice PA pl pc] 82) = wb) (gb : wb.cell? ⟨wa.heap.size,0,none⟩ = some (.pointer (some ⟨pb,0,none⟩))) (hv : wb.cell? ⟨pb,3,none⟩ = some (.slice VA vl vc))
  (hap : Hid (∀ ty,(Builtin.append_ #[41,41] ty #[.slice none 0 0,.slice (some ⟨wb.heap.size,0,none⟩) 1 1]).run Try.prog (wb.alloc (.cells #[.int .i64 (-1),.int .i64 0,.int .i64 0] 40)) = .ok (.slice (some ⟨B,0,none⟩) 1 c') W4))
  (h3 : W4.cell? ⟨bf,3,none⟩ = some (.slice none 0 0)) (hK : K W4) :
  Calls Try.prog 21 #[.pointer (some ⟨bf,0,none⟩)] w fun e w' => (∃ A c,e = .returned (.slice A 1 c))∧K w' := by
 have hpw := pending_walk pb vl vc VA wb hv
 have hvI : (0 : Int) < (vl : Int) := by omega
 have h01 : wrap64 (0 + 1) = 1 := by rw [w64]; decide
 go_enter Try.func21,Try.ntmps21
 go_wp2
 go_loopg [3,15] 1 (fun g s3 s15 W => (g = 1∧s3 = .slice none 0 0∧s15 = .int .i64 0∧W = w) ∨ (g = 0∧s3 = .slice (some ⟨B,0,none⟩) 1 c'∧s15 = .int .i64 1∧W = W4))
 case atStart => exact .inl ⟨rfl,rfl,rfl,rfl⟩
 case round =>
  rcases hrel with ⟨rfl,rfl,rfl,hW⟩ | ⟨rfl,rfl,rfl,hW⟩
  ·subst hW
   go_wp2
   go_loopg [3,23] 1 (fun g s3 s23 W => (g = 1∧s3 = .slice none 0 0∧s23 = .int .i64 0∧W = wa) ∨ (g = 0∧s3 = .slice (some ⟨B,0,none⟩) 1 c'∧s23 = .int .i64 1∧W = W4))
   case atStart => exact .inl ⟨rfl,rfl,rfl,rfl⟩
   case round =>
    rcases hrel with ⟨rfl,rfl,rfl,hW⟩ | ⟨rfl,rfl,rfl,hW⟩
    ·subst hW
     go_wp2_with (first | (go_at_call 38; refine Calls.mono hpw ?_; rintro e w' ⟨rfl,hw⟩; rw [hw]; clear hw) | (at_builtin; refine Lib.wpList_append_run _ rfl _ _ _ _ rfl _ _ rfl rfl _ _ (hap.out _) ?_))
     go_roundg 0
     case measure => omega
     case rel => exact .inr ⟨rfl,rfl,rfl,rfl⟩
    ·subst hW
     go_wp2
     go_roundg 0
     case measure => omega
     case rel => exact .inr ⟨rfl,rfl,rfl,rfl⟩
  ·subst hW
   go_wp2
   go_loopg [3,45] 0 (fun g s3 s W => s3 = .slice (some ⟨B,0,none⟩) 1 c'∧s = .int .i64 0∧W = wr)
   case atStart => exact ⟨rfl,rfl,rfl⟩
   case round =>
    obtain ⟨rfl,rfl,hW⟩ := hrel
    subst hW
    go_wp2
    go_ret
    exact ⟨⟨_,_,rfl⟩,hK⟩
end Go.Proofs.Ytnjccbnlmdajkaa
