/- Copy of a queue pair: what it makes. -/
import Derived.Test.YtkefjdmoikegbaaCopyW
import Derived.Test.YtkefjdmoikegbaaEv13
set_option linter.all false
namespace Go.Proofs.Ytkefjdmoikegbaa
open Go.RowKit Go.Shelf Go.Lib Go.Ev
set_option maxRecDepth 100000
theorem und81 : Try.prog.underlying 81 = some (.slice 38) := by kernel_rfl
theorem inf38 : (Try.prog.info? 38).map (fun i => (i.zero,i.size,i.bytes)) = some (some (.agg #[.int .i64 0,.int .i64 0,.int .i64 0,.int .i64 0,.int .u64 0,.int .u64 0,.slice none 0 0,.int .u64 0,.int .i64 0]),9,88) := by kernel_rfl
theorem f35_at : Try.prog.funcs[35]? = some Try.f35 := by kernel_rfl
theorem f41_at : Try.prog.funcs[41]? = some Try.f41 := by kernel_rfl
theorem wr_flat (ws : List Int) (n : Bool) : flatC (.ow n 23 1 (ws.map wr)) = true := by
 show (ws.map wr).all (fun e => e.all flatV) = true
 rw [List.all_eq_true]
 intro e he
 obtain ⟨x,_,rfl⟩ := List.mem_map.1 he
 rfl
theorem verb_vals {μ : Mu} {v : Vb} {vs : List Value} (hl : vs.length = v.row.length) (h : ∀ (j : Nat) (a : AV) (x : Value),v.row[j]? = some a → vs[j]? = some x → DR μ a x) :
  ∃ (A : Option Addr) (l c : Nat),vs.toArray = vCells v.kind v.node v.at_ v.n v.old v.new A l c v.key v.boot∧DR μ (.lst v.wn 1 (v.ws.map wr)) (.slice A l c) := by
 match vs,hl with
 | [x0,x1,x2,x3,x4,x5,x6,x7,x8],_ =>
  obtain rfl := dr_v (h 0 _ x0 rfl rfl)
  obtain rfl := dr_v (h 1 _ x1 rfl rfl)
  obtain rfl := dr_v (h 2 _ x2 rfl rfl)
  obtain rfl := dr_v (h 3 _ x3 rfl rfl)
  obtain rfl := dr_v (h 4 _ x4 rfl rfl)
  obtain rfl := dr_v (h 5 _ x5 rfl rfl)
  have h6 := h 6 _ x6 rfl rfl
  obtain ⟨A,c,rfl,_⟩ := dr_slice h6
  obtain rfl := dr_v (h 7 _ x7 rfl rfl)
  obtain rfl := dr_v (h 8 _ x8 rfl rfl)
  exact ⟨A,_,c,rfl,h6⟩
theorem vCells_dr {μ : Mu} {v : Vb} {A : Option Addr} {l c : Nat} (h : DR μ (.lst v.wn 1 (v.ws.map wr)) (.slice A l c)) : ∀ (j : Nat) (a : AV) (x : Value),v.row[j]? = some a → (vCells v.kind v.node v.at_ v.n v.old v.new A l c v.key v.boot).toList[j]? = some x → DR μ a x := fun j a x ha hx => by
 match j with
 | 0 => cases ha; cases hx; exact .v rfl
 | 1 => cases ha; cases hx; exact .v rfl
 | 2 => cases ha; cases hx; exact .v rfl
 | 3 => cases ha; cases hx; exact .v rfl
 | 4 => cases ha; cases hx; exact .v rfl
 | 5 => cases ha; cases hx; exact .v rfl
 | 6 => cases ha; cases hx; exact h
 | 7 => cases ha; cases hx; exact .v rfl
 | 8 => cases ha; cases hx; exact .v rfl
 | n + 9 => simp [Vb.row] at ha
theorem vCells_one {kd nd at_ n old nw : Int} {A : Option Addr} {l c : Nat} {key bt : Int} : ∀ v ∈ (vCells kd nd at_ n old nw A l c key bt).toList,v.oneCell' = true := fun v hv => by
 simp only [List.mem_cons,List.not_mem_nil,or_false] at hv
 rcases hv with rfl | rfl | rfl | rfl | rfl | rfl | rfl | rfl | rfl <;> rfl
section
variable {ι : Type} [DecidableEq ι] {w0 W : World} {μ : Mu} {I : ι → Option ItemO}
theorem clone_call (h : Kst w0 μ I W) (v : Vb) (hv : v.Wf) {A : Option Addr} {l c : Nat} (hd : DR μ (.lst v.wn 1 (v.ws.map wr)) (.slice A l c)) :
  Calls Try.prog 35 #[.agg (vCells v.kind v.node v.at_ v.n v.old v.new A l c v.key v.boot)] W fun e w' => ∃ (μ' : Mu) (A' : Option Addr) (l' c' : Nat),e = .returned (.agg (vCells v.kind v.node v.at_ v.n v.old v.new A' l' c' v.key v.boot))∧MuLe μ μ'∧Kst w0 μ' I w'∧KeptW [] W w'∧DR μ' (.lst v.wn 1 (v.ws.map wr)) (.slice A' l' c') := by
 refine (h.data mix extOk (s_clone v hv) f35_at rfl (vals := [.agg (vCells v.kind v.node v.at_ v.n v.old v.new A l c v.key v.boot)]) (.cons (F := []) (F' := []) (G := []) (G' := []) (.agg (b1s_drs (vs := (vCells v.kind v.node v.at_ v.n v.old v.new A l c v.key v.boot).toList) rfl (vCells_dr hd))) .nil)).mono fun e w' he => ?_
 obtain ⟨vs,μ',F1,G1,rfl,hm,hK,hk,hb,_,_,_⟩ := he
 obtain ⟨x,rfl,hb2⟩ := Go.Ev.b2s_one hb
 obtain ⟨ys,rfl,rfl,hl,hd'⟩ := b2_aggD hb2 (by simp [Vb.row,isD,okC])
 obtain ⟨A',l',c',e,hd''⟩ := verb_vals hl hd'
 rw [e]
 exact ⟨μ',A',l',c',rfl,hm,hK,hk,hd''⟩
abbrev cpC (p : Pr) (i : Nat) : List AV := [.v (.int .i64 p.c),.v (.int .i64 p.inc),.v (.int .i64 p.node),.ow (i == 0) 38 9 ((p.q.map Vb.row).take i),.v (.int .i64 p.ex),.ow p.wn 23 1 (p.w.map wr)]
theorem copy_ok (h : Kst w0 μ I W) {k k' : ι} {pb : Nat} {F : List Nat} {p : Pr} (hk : I k = some (obI pb F 83 (prC p))) (hkk : k ≠ k') (hl : p.q.length ≤ 1024) (hq : ∀ v ∈ p.q,v.Wf) (hw : p.wn = true → p.w = []) (hwl : p.w.length ≤ 100000) :
  Calls Try.prog 26 #[.pointer (some ⟨pb,0,none⟩)] W fun e w' => ∃ (qb : Nat) (F' : List Nat) (μ' : Mu),e = .returned (.pointer (some ⟨qb,0,none⟩))∧MuLe μ μ'∧Kst w0 μ' (put I k' (some (obI qb F' 83 (prC { p with qn := p.q.isEmpty })))) w' := by
 obtain ⟨A3,c3,e3,n3,z3,l3,r3⟩ := h.rowF hk (j := 3) rfl
 obtain ⟨F5,x5,e5,b5,_⟩ := h.atF hk (j := 5) rfl
 have d5 := b5.lent h.imm
 obtain ⟨A5,c5,rfl,_⟩ := dr_slice d5
 have hlen3 : (p.q.map Vb.row).length = p.q.length := List.length_map ..
 obtain ⟨b3,hb3⟩ : ∃ b,W.heap.size = b := ⟨_,rfl⟩
 have hws : w0.heap.size ≤ W.heap.size := h.kept.size
 obtain ⟨w1,hw1⟩ : ∃ w1,W.alloc (.cells #[.int .i64 p.c,.int .i64 p.inc,.int .i64 p.node,.slice A3 (p.q.map Vb.row).length c3,.int .i64 p.ex,.slice A5 (p.w.map wr).length c5] 83) = w1 := ⟨_,rfl⟩
 have k1 : KeptW [] W w1 := hw1 ▸ KeptW.alloc W _
 have hK1 : Kst w0 μ (put I k' (some (obI b3 [b3] 83 ([Value.int .i64 p.c,.int .i64 p.inc,.int .i64 p.node,.slice A3 (p.q.map Vb.row).length c3,.int .i64 p.ex,.slice A5 (p.w.map wr).length c5].map AV.v)))) w1 := by
  rw [← hw1,← hb3]
  exact h.alloc k' (b0s_vals _ fun v hv => by
   simp only [List.mem_cons,List.not_mem_nil,or_false] at hv
   rcases hv with rfl | rfl | rfl | rfl | rfl | rfl <;> rfl)
 have hs1 : w1.heap.size = b3 + 1 := by rw [← hw1,← hb3]; exact Array.size_push ..
 have hFb : ∀ x ∈ F,x < b3 := fun x hx => hb3 ▸ h.lt hk hx
 refine (copy_walk pb (p.q.map Vb.row).length c3 (p.w.map wr).length c5 (by omega) p.c p.inc p.node p.ex A3 A5 W
  (fun i W' => ∃ (μ' : Mu) (F' : List Nat),MuLe μ μ'∧Kst w0 μ' (put I k' (some (obI b3 F' 83 (cpC p i)))) W'∧∀ x ∈ F,W'.heap[x]? = W.heap[x]?) b3 hb3 (h.cell hk rfl) (h.cell hk rfl) (h.cell hk rfl) e3 (h.cell hk rfl) e5 w1 hw1 (by rw [← hw1]; exact alloc_cell e5) ?_ ?_).mono fun e w' he => ?_
 ·refine (hK1.lent mix extOk (s_CloneW p.wn p.w hwl hw) f41_at (vals := [.slice A5 (p.w.map wr).length c5]) (.cons (F := []) (F' := []) (G := []) (G' := []) (.o (.c (.d (d5.mono k1.hf)))) .nil)).mono fun e w' he => ?_
  obtain ⟨vs,μ1,F1,G1,rfl,hK2,k2,_,hb,hn1⟩ := he
  obtain ⟨x,rfl,hb2⟩ := Go.Ev.b2s_one hb
  clear hb
  have hb := b2_ow hb2
  have hFn : ∀ b ∈ F1,μ b = none := fun b hb' => hK1.noMu (hn1 b hb')
  have hb := b0_flat hb (wr_flat _ _) hFn
  obtain ⟨A,c,rfl,_⟩ := b0_row hb
  have hnd1 : F1.Nodup := hb.nodup
  obtain ⟨F2,s2,hK3⟩ := hK2.setB (put_same _ _ _) 3 (B0.own (ty := 38) (sz := 9)) List.nodup_nil (fun x hx => by cases hx) (fun n x hx y hy => by cases hy)
  obtain ⟨w2,hw2⟩ : ∃ w2,w'.setCell ⟨b3,3,none⟩ (.slice none 0 0) = w2 := ⟨_,rfl⟩
  have hH2 : w'.heap[b3]? = some (.cells #[.int .i64 p.c,.int .i64 p.inc,.int .i64 p.node,.slice A3 (p.q.map Vb.row).length c3,.int .i64 p.ex,.slice A5 (p.w.map wr).length c5] 83 (0,0)) := by
   refine k2.get ?_ List.not_mem_nil
   rw [← hw1,← hb3]
   exact Ev.alloc_new W _
  obtain ⟨k3,hb3'⟩ := KeptW.set (j := 3) (v := .slice none 0 0) hH2
  rw [hw2] at hK3 k3 hb3'
  have hF1 : ∀ b ∈ F1,b ≠ b3 := fun b hb' e => by have := hn1 b hb'; omega
  have hbW2 : B0 μ (hf w2) F1 (.ow p.wn 23 1 (p.w.map wr)) (.slice A (p.w.map wr).length c) := hb.heap fun b hb' => by
   obtain ⟨_,o,ho⟩ := hb.ownd b hb'
   exact k3.keep b (Array.getElem?_eq_some_iff.1 ho).1 (by simpa using hF1 b hb')
  rw [put_put] at hK3
  have hF2 : ∀ x ∈ F2,x = b3 := fun x hx => by
   rcases s2 x hx with g | g
   ·simpa using g
   ·cases g
  obtain ⟨F4,s4,hK4⟩ := hK3.setB (put_same _ _ _) 5 hbW2 hnd1 (fun x hx => by have := hn1 x hx; omega) (fun n x hx y hy hm => by
   have hy1 := hn1 y hy
   rcases put_some hx with ⟨_,e⟩ | ⟨_,e⟩
   ·cases e; have := hF2 y hm; omega
   ·have := (h.own e y hm).2; omega)
  rw [put_put] at hK4
  have k4 : KeptW [b3] w2 (w2.setCell ⟨b3,5,none⟩ (.slice A (p.w.map wr).length c)) := (KeptW.set hb3').1
  have hall : ∀ x ∈ F,(w2.setCell ⟨b3,5,none⟩ (.slice A (p.w.map wr).length c)).heap[x]? = W.heap[x]? := fun x hx => by
   have h0 := hFb x hx
   have s1 := k1.size; have s2 := k2.size; have s3 := k3.size
   rw [k4.keep x (by omega) (by simp; omega),k3.keep x (by omega) (by simp; omega),k2.keep x (by omega) List.not_mem_nil,k1.keep x (by omega) List.not_mem_nil]
  have hpb : pb ∈ F := by obtain ⟨F0,_,rfl,_⟩ := h.ob hk; simp
  refine ⟨A,_,c,rfl,frozen_of hH2 3,⟨_,cell_of hH2 rfl⟩,w2,hw2,frozen_of hb3' 5,⟨_,cell_of hb3' rfl⟩,_,rfl,?_,μ,F4,MuLe.refl _,hK4,hall⟩
  rw [cell_heap (hall pb hpb)]; exact e3
 ·intro i W' hi hJ
  obtain ⟨μ1,F1,hm1,hK,hfr⟩ := hJ
  rw [hlen3] at hi
  obtain ⟨v,hv⟩ : ∃ v,p.q[i]? = some v := ⟨_,List.getElem?_eq_getElem hi⟩
  have hrow : (p.q.map Vb.row)[i]? = some v.row := by rw [List.getElem?_map,hv]; rfl
  have hvw := hq v (List.mem_of_getElem? hv)
  cases A3 with
  | none => have := (z3 rfl).1; rw [this] at hrow; simp at hrow
  | some a =>
   obtain ⟨vb,rfl,hvb,hcells⟩ := r3 a rfl
   have hcl : ∀ (jj : Nat) (u : AV),v.row[jj]? = some u → ∃ x,W'.cell? ⟨vb,i * 9 + jj,none⟩ = some x∧DR μ1 u x := fun jj u hu => by
    obtain ⟨x,x1,x2⟩ := hcells i jj v.row u hrow hu
    exact ⟨x,by rw [cell_heap (hfr vb hvb)]; exact x1,x2.mono hm1⟩
   obtain ⟨_,q0,d0⟩ := hcl 0 _ rfl
   obtain rfl := dr_v d0
   obtain ⟨_,q1,d1⟩ := hcl 1 _ rfl
   obtain rfl := dr_v d1
   obtain ⟨_,q2,d2⟩ := hcl 2 _ rfl
   obtain rfl := dr_v d2
   obtain ⟨_,q3,d3⟩ := hcl 3 _ rfl
   obtain rfl := dr_v d3
   obtain ⟨_,q4,d4⟩ := hcl 4 _ rfl
   obtain rfl := dr_v d4
   obtain ⟨_,q5,d5⟩ := hcl 5 _ rfl
   obtain rfl := dr_v d5
   obtain ⟨_,q6,d6⟩ := hcl 6 _ rfl
   obtain ⟨A6,c6,rfl,_⟩ := dr_slice d6
   obtain ⟨_,q7,d7⟩ := hcl 7 _ rfl
   obtain rfl := dr_v d7
   obtain ⟨_,q8,d8⟩ := hcl 8 _ rfl
   obtain rfl := dr_v d8
   have hKa := (hK.kept0 (KeptW.alloc W' (.cells (vCells v.kind v.node v.at_ v.n v.old v.new A6 (v.ws.map wr).length c6 v.key v.boot) 38))).drew
   obtain ⟨Ab,cb,eb,_,_,_,_⟩ := hKa.rowF (put_same _ _ _) (j := 3) rfl
   have hti : ((p.q.map Vb.row).take i).length = i := by rw [List.length_take,hlen3]; omega
   rw [hti] at eb
   refine ⟨vb,rfl,v.kind,v.node,v.at_,v.n,v.old,v.new,A6,_,c6,v.key,v.boot,⟨q0,q1,q2,q3,q4,q5,q6,q7,q8⟩,Ab,i,cb,eb,?_⟩
   refine (clone_call hKa v hvw d6).mono fun e w' he => ?_
   obtain ⟨μ2,A7,l7,c7,rfl,hm2,hK2,k2,d7'⟩ := he
   obtain ⟨I38,hI,hIz,hIs,hIb⟩ := info_parts inf38
   have hKE := hK2.kept0 (KeptW.alloc w' (.cells (vCells v.kind v.node v.at_ v.n v.old v.new A7 l7 c7 v.key v.boot) 38))
   have hcp : ∀ i,cpC p i = [.v (.int .i64 p.c),.v (.int .i64 p.inc),.v (.int .i64 p.node)] ++ .ow (i == 0) 38 9 ((p.q.map Vb.row).take i) :: [.v (.int .i64 p.ex),.ow p.wn 23 1 (p.w.map wr)] := fun i => rfl
   obtain ⟨Ac,cc,B,c',W4,F',ec,hap,hfz,hc4,hK4,k4⟩ := Kst.appIn (P := Try.prog) (es := v.row) (c1 := [.v (.int .i64 p.c),.v (.int .i64 p.inc),.v (.int .i64 p.node)]) hKE (put_same _ _ _) und81 hI hIz hIs (by omega) (by omega) rfl (by rw [hti]; omega) (Ev.alloc_new w' _) rfl vCells_one rfl fun jj u x hu hx => vCells_dr d7' jj u x hu (by rw [Array.getElem?_toList]; exact hx)
   rw [hti] at ec hap hc4 hK4
   have ew : w'.cell? ⟨b3,3,none⟩ = some (.slice Ab i cb) := by
    have hcell := eb
    have : ∀ {b j : Nat} {x : Value},(W'.alloc (.cells (vCells v.kind v.node v.at_ v.n v.old v.new A6 (v.ws.map wr).length c6 v.key v.boot) 38)).drew.cell? ⟨b,j,none⟩ = some x → w'.cell? ⟨b,j,none⟩ = some x := fun {b j x} hx => by
     have hlt : b < (W'.alloc (.cells (vCells v.kind v.node v.at_ v.n v.old v.new A6 (v.ws.map wr).length c6 v.key v.boot) 38)).drew.heap.size := by
      unfold World.cell? at hx
      split at hx
      ·rename_i h1; exact (Array.getElem?_eq_some_iff.1 h1).1
      ·cases hx
     rw [cell_heap (k2.keep b hlt List.not_mem_nil)]; exact hx
    exact this hcell
   have ec' := alloc_cell (o := .cells (vCells v.kind v.node v.at_ v.n v.old v.new A7 l7 c7 v.key v.boot) 38) ew
   have e1 : Value.slice Ac i cc = .slice Ab i cb := Option.some.inj (ec.symm.trans ec')
   rw [e1] at hap hc4
   refine ⟨A7,l7,c7,B,c',W4,rfl,ew,fun o => alloc_cell ew,hap,hfz,⟨_,hc4⟩,μ2,F',hm1.trans hm2,?_,fun x hx => ?_⟩
   ·rw [put_put] at hK4
    have e2 : cpC p (i + 1) = [.v (.int .i64 p.c),.v (.int .i64 p.inc),.v (.int .i64 p.node)] ++ .ow false 38 9 ((p.q.map Vb.row).take i ++ [v.row]) :: [.v (.int .i64 p.ex),.ow p.wn 23 1 (p.w.map wr)] := by
     rw [hcp,List.take_add_one,hrow]; rfl
    rw [e2]
    exact hK4
   ·have hx0 := hFb x hx
    have hkI : put I k' (some (obI b3 F1 83 (cpC p i))) k = some (obI pb F 83 (prC p)) := by rw [put_ne _ _ hkk]; exact hk
    have hxF1 : x ∉ F1 := hK.dj k k' _ _ hkI (put_same _ _ _) hkk x hx
    have hb4 : ∃ o,W4.heap[b3]? = some o := by
     unfold World.cell? at hc4
     split at hc4
     ·rename_i h1; exact ⟨_,h1⟩
     ·cases hc4
    have h0 := k2.size
    have h1 : x < W'.heap.size := by have := hK.lt hkI hx; exact this
    have h2 : (W'.alloc (.cells (vCells v.kind v.node v.at_ v.n v.old v.new A6 (v.ws.map wr).length c6 v.key v.boot) 38)).drew.heap.size = W'.heap.size + 1 := Array.size_push ..
    rw [setCell_other W4 b3 3 _ x (by omega),k4.keep x (by show x < (w'.heap.push _).size; rw [Array.size_push]; omega) hxF1,Ev.alloc_old w' _ x (by omega),k2.keep x (by omega) List.not_mem_nil]
    show (W'.alloc _).heap[x]? = _
    rw [Ev.alloc_old W' _ x h1]
    exact hfr x hx
 ·obtain ⟨rfl,μ',F',hm,hK,_⟩ := he
  refine ⟨b3,F',μ',rfl,hm,?_⟩
  rw [show prC { p with qn := p.q.isEmpty } = cpC p (p.q.map Vb.row).length from ?_]
  ·exact hK
  ·unfold cpC prC
   rw [List.take_of_length_le (Nat.le_refl _)]
   have : (p.q.isEmpty : Bool) = ((p.q.map Vb.row).length == 0) := by cases p.q <;> rfl
   rw [← this]
end
end Go.Proofs.Ytkefjdmoikegbaa
