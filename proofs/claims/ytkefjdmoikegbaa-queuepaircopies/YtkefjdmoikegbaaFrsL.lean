/- fresh: what it makes. -/
import Derived.Test.YtkefjdmoikegbaaFrsh
import Derived.Test.YtkefjdmoikegbaaMdo2
set_option linter.all false
namespace Go.Proofs.Ytkefjdmoikegbaa
open Go.RowKit Go.Shelf Go.Lib Go.Ev
set_option maxRecDepth 100000
theorem und33 : Try.prog.underlying 33 = some (.slice 23) := by kernel_rfl
theorem und72 : ∃ fs,Try.prog.underlying 72 = some (.struct fs) := by
 have h : (match Try.prog.underlying 72 with | some (.struct _) => true | _ => false) = true := by kernel_rfl
 revert h
 generalize Try.prog.underlying 72 = x
 intro h
 match x,h with
 | some (.struct fs),_ => exact ⟨fs,rfl⟩
theorem inf23 : (Try.prog.info? 23).map (fun i => (i.zero,i.size,i.bytes)) = some (some (.int .u64 0),1,8) := by kernel_rfl
theorem f10_at : Try.prog.funcs[10]? = some Try.f10 := by kernel_rfl
theorem f16_at : Try.prog.funcs[16]? = some Try.f16 := by kernel_rfl
theorem f31_at : Try.prog.funcs[31]? = some Try.f31 := by kernel_rfl
theorem f33_at : Try.prog.funcs[33]? = some Try.f33 := by kernel_rfl
abbrev ndC (ws : List Int) (dn : Bool) : List AV := [.ow false 23 1 (ws.map wr),.v (.bool dn)]
abbrev rfC (ws : List Int) (up : Bool) : List AV := [.ow false 23 1 (ws.map wr),.v (.bool up)]
abbrev rC (s : PS) : List AV := [.v (.int .i64 s.c),.v (.int .i64 s.inc),.v (.int .i64 0),.lst s.q.isEmpty 12 (rrows s.q s.ex s.w)]
structure St4 (I : Nat → Option ItemO) (k : Nat) (pb nb qb rb : Nat) (s : PS) (qn : Bool) (ws : List Int) (dn : Bool) : Prop where
 p : ∃ F,I k = some (obI pb F 83 (prC (s.p qn)))
 n : ∃ F,I (k + 1) = some (obI nb F 93 (ndC ws dn))
 q : ∃ F,I (k + 2) = some (obI qb F 70 (rC s))
 r : ∃ F,I (k + 3) = some (obI rb F 72 (rfC ws (!dn)))
def zer : Array Value := Array.replicate 320 (.int .u64 0)
theorem made_zer : madeCells (Value.int .u64 0).cells ((320 : Int).toNat * 1) = zer := by
 unfold zer madeCells
 apply Array.ext
 ·simp
 ·intro i h1 h2
  simp [Value.cells,Nat.mod_one]
section
variable {w0 W : World} {μ : Mu} {I : Nat → Option ItemO}
theorem newnode_ok (W : World) : Calls Try.prog 32 #[.int .i64 40] W fun e w' => ∃ b : Nat,e = .returned (.agg #[.slice (some ⟨b,0,none⟩) 320 320,.bool true])∧KeptW [] W w'∧W.heap.size ≤ b∧w'.heap[b]? = some (.cells zer 23 (0,0)) := by
 obtain ⟨w1,hw1⟩ : ∃ w1,W.alloc (.cells #[.slice none 0 0,.bool false] 72) = w1 := ⟨_,rfl⟩
 obtain ⟨I23,hI,hIz,hIs,hIb⟩ := info_parts inf23
 have hmk := run_makeSlice (P := Try.prog) (w := w1) 33 23 I23 (.int .u64 0) und33 hI hIz .i64 .i64 320 320 (by decide) (by decide) (by rw [hIs]; decide) (by rw [hIb]; decide) (by decide)
 rw [hIs,made_zer] at hmk
 have s1 : w1.heap.size = W.heap.size + 1 := by rw [← hw1]; exact Array.size_push ..
 have h2 : w1.heap[W.heap.size]? = some (.cells #[.slice none 0 0,.bool false] 72 (0,0)) := by rw [← hw1]; exact Ev.alloc_new W _
 have h3 : (w1.alloc (.cells zer 23)).heap[W.heap.size]? = some (.cells #[.slice none 0 0,.bool false] 72 (0,0)) := by rw [Ev.alloc_old _ _ _ (by omega)]; exact h2
 obtain ⟨k4,h4⟩ := KeptW.set (j := 0) (v := .slice (some ⟨w1.heap.size,0,none⟩) 320 320) h3
 obtain ⟨k5,h5⟩ := KeptW.set (j := 1) (v := .bool true) h4
 have ka : KeptW [] W (w1.alloc (.cells zer 23)) := (hw1 ▸ KeptW.alloc W _ : KeptW [] W w1).trans (KeptW.alloc w1 _) fun x hx => by cases hx
 refine (newnode_walk W zer _ rfl w1 hw1 _ rfl _ rfl hmk _ rfl _ rfl (frozen_of h3 0) (frozen_of h4 1) ⟨_,cell_of h3 rfl⟩ ⟨_,cell_of h4 rfl⟩ h5 und72).mono fun e w' he => ?_
 obtain ⟨rfl,rfl⟩ := he
 refine ⟨_,rfl,(ka.trans k4 fun x hx => .inr (by simp at hx; omega)).trans k5 fun x hx => .inr (by simp at hx; omega),by omega,?_⟩
 rw [setCell_other _ _ _ _ _ (by omega),setCell_other _ _ _ _ _ (by omega)]
 exact Ev.alloc_new w1 _
theorem pick_call (h : Kst w0 μ I W) (a m : Int) (hm : 0 < m) (hm' : m ≤ 4611686018427387904) : Calls Try.prog 10 #[.int .i64 a,.int .i64 m] W fun e w' => e = .returned (.int .i64 (pick a m))∧KeptW [] W w' := by
 refine (h.lent mix extOk (s_Pick a m hm hm') f10_at (vals := [.int .i64 a,.int .i64 m]) (b2s_vals [.int .i64 a,.int .i64 m] fun v hv => by
  simp only [List.mem_cons,List.not_mem_nil,or_false] at hv
  rcases hv with rfl | rfl <;> rfl)).mono fun e w' he => ?_
 obtain ⟨vs,μ',F1,G1,rfl,_,hk,_,hb,_⟩ := he
 obtain ⟨rfl,_⟩ := b2s_vals_inv (F := F1) (G := G1) [.int .i64 (pick a m)] hb
 exact ⟨rfl,hk⟩
end
end Go.Proofs.Ytkefjdmoikegbaa
