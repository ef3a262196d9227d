/- QueuepairCopies: what is there. -/
import Derived.Test.YtkefjdmoikegbaaRg11
import Derived.Test.YtkefjdmoikegbaaPln
import Derived.Test.YtkefjdmoikegbaaEv13
set_option linter.all false
namespace Go.Proofs.Ytkefjdmoikegbaa
open Go.RowKit Go.Shelf Go.Lib Go.Ev
set_option maxRecDepth 100000
def Fz4 (μ : Mu) (b p n q r : Nat) : Prop := ∃ (cur : Array Value) (t : Nat) (fz : Nat × Nat),μ b = some (.cells cur t fz)∧cur[0]? = some (.pointer (some ⟨p,0,none⟩))∧cur[1]? = some (.pointer (some ⟨n,0,none⟩))∧cur[2]? = some (.pointer (some ⟨q,0,none⟩))∧cur[3]? = some (.pointer (some ⟨r,0,none⟩))
theorem Fz4.mono {μ μ' : Mu} {b p n q r : Nat} (h : Fz4 μ b p n q r) (hm : MuLe μ μ') : Fz4 μ' b p n q r := by
 obtain ⟨cur,t,fz,h0,h1⟩ := h
 exact ⟨cur,t,fz,hm _ _ h0,h1⟩
section
variable {w0 W : World} {μ : Mu} {I : Nat → Option ItemO}
theorem Fz4.cells {b p n q r : Nat} (h : Fz4 μ b p n q r) (hK : Kst w0 μ I W) : W.cell? ⟨b,0,none⟩ = some (.pointer (some ⟨p,0,none⟩))∧W.cell? ⟨b,1,none⟩ = some (.pointer (some ⟨n,0,none⟩))∧W.cell? ⟨b,2,none⟩ = some (.pointer (some ⟨q,0,none⟩))∧W.cell? ⟨b,3,none⟩ = some (.pointer (some ⟨r,0,none⟩)) := by
 obtain ⟨cur,t,fz,h0,h1,h2,h3,h4⟩ := h
 have hb : W.heap[b]? = some (.cells cur t fz) := hK.imm _ _ h0
 exact ⟨cell_of hb h1,cell_of hb h2,cell_of hb h3,cell_of hb h4⟩
theorem frz4 {k t p n q r : Nat} {F : List Nat} (hK : Kst w0 μ I W) (hk : I k = some (obI t F 29 [.v (.pointer (some ⟨p,0,none⟩)),.v (.pointer (some ⟨n,0,none⟩)),.v (.pointer (some ⟨q,0,none⟩)),.v (.pointer (some ⟨r,0,none⟩))])) : ∃ μ',MuLe μ μ'∧Fz4 μ' t p n q r∧Kst w0 μ' (put I k none) W := by
 obtain ⟨μ',cur,hm,hb,hK',hc⟩ := hK.frz hk
 exact ⟨μ',hm,⟨cur,29,(0,0),hb,hc 0 _ rfl,hc 1 _ rfl,hc 2 _ rfl,hc 3 _ rfl⟩,hK'⟩
theorem St4.put {I : Nat → Option ItemO} {k pb nb qb rb : Nat} {s : PS} {qn : Bool} {ws : List Int} {dn : Bool} (h : St4 I k pb nb qb rb s qn ws dn) {j : Nat} {x : Option ItemO} (hj : j < k ∨ k + 4 ≤ j) : St4 (Go.Ev.put I j x) k pb nb qb rb s qn ws dn := by
 obtain ⟨⟨F1,h1⟩,⟨F2,h2⟩,⟨F3,h3⟩,⟨F4,h4⟩⟩ := h
 exact ⟨⟨F1,put_get h1 (by omega)⟩,⟨F2,put_get h2 (by omega)⟩,⟨F3,put_get h3 (by omega)⟩,⟨F4,put_get h4 (by omega)⟩⟩
theorem St4.same {I J : Nat → Option ItemO} {k pb nb qb rb : Nat} {s : PS} {qn : Bool} {ws : List Int} {dn : Bool} (h : St4 I k pb nb qb rb s qn ws dn) (hJ : ∀ i,k ≤ i → i < k + 4 → J i = I i) : St4 J k pb nb qb rb s qn ws dn := by
 obtain ⟨⟨F1,h1⟩,⟨F2,h2⟩,⟨F3,h3⟩,⟨F4,h4⟩⟩ := h
 exact ⟨⟨F1,(hJ _ (by omega) (by omega)).trans h1⟩,⟨F2,(hJ _ (by omega) (by omega)).trans h2⟩,⟨F3,(hJ _ (by omega) (by omega)).trans h3⟩,⟨F4,(hJ _ (by omega) (by omega)).trans h4⟩⟩
theorem PS.Wf.exl {s : PS} (h : s.Wf) : s.ex ≤ 1024 := by
 cases hq : s.q with
 | nil => have := (h.z hq).1; omega
 | cons v r =>
  have h1 := h.lt v r hq
  have h2 := good_le (h.vs v (by rw [hq]; simp)).1
  omega
theorem StOk.G {s : PS} {qn : Bool} {ws : List Int} (h : StOk s qn ws) : s.G := ⟨h.wf,h.w,by have := h.wf.exl; omega⟩
theorem StOk.copy {s : PS} {qn : Bool} {ws : List Int} (h : StOk s qn ws) : StOk s s.q.isEmpty ws := ⟨h.wf,fun e => List.isEmpty_iff.1 e,h.len,h.wok,h.w⟩
theorem opr_at {f : Bool} {ops : List Opr} {A : Option Addr} {n c : Nat} (h : DR (hf w0) (.lst f 10 (ops.map Opr.row)) (.slice A n c)) (k : KeptW [] w0 W) {i : Nat} (hi : i < ops.length) : ∃ ab ao,A = some ⟨ab,ao,none⟩∧∀ (j : Nat) (v : Value),(ops[i]).vals[j]? = some v → W.cell? ⟨ab,ao + i * 10 + j,none⟩ = some v := by
 cases h with
 | @lst _ _ _ _ _ vals hnil hA hc hsz hcell hv =>
  cases A with
  | none => have := (hA rfl).1; rw [List.map_eq_nil_iff] at this; rw [this] at hi; simp at hi
  | some a =>
   obtain ⟨ab,ao,s⟩ := a
   have hlen : (ops.map Opr.row).length = ops.length := List.length_map ..
   have h0 := hcell _ rfl 0 0 (by rw [hlen]; omega) (by decide)
   cases s with
   | some s =>
    unfold muCell at h0
    split at h0
    ·rw [if_pos (by unfold Addr.add; rw [if_pos (by rfl)]; rfl)] at h0; cases h0
    ·cases h0
   | none =>
    refine ⟨ab,ao,rfl,fun j v hj => ?_⟩
    have hj10 : j < 10 := (List.getElem?_eq_some_iff.1 hj).1
    have h1 := hcell _ rfl i j (by rw [hlen]; exact hi) hj10
    have hrow : (ops.map Opr.row)[i]? = some (ops[i]).row := by rw [List.getElem?_map,List.getElem?_eq_getElem hi]; rfl
    have h2 := hv i _ j (.v v) hrow (by rw [Opr.row_vals,List.getElem?_map,hj]; rfl)
    have h3 := dr_v h2
    rw [h3,Addr.add_lit] at h1
    unfold muCell at h1
    simp only at h1
    split at h1
    ·rename_i cc ty fz hm
     have hb : W.heap[ab]? = some (.cells cc ty fz) := k.get hm List.not_mem_nil
     refine cell_of hb ?_
     rw [show ao + i * 10 + j = ao + (i * 10 + j) by omega]
     simpa using h1
    ·cases h1
theorem f27_at : Try.prog.funcs[27]? = some Try.f27 := by kernel_rfl
theorem s_NCopy (ws : List Int) (dn : Bool) (hl : ws.length ≤ 100000) : ev 27 [.ep [.lst false 1 (ws.map wr),.v (.bool dn)] 0] = some [ndO ws dn] := by
 rw [ev27]
 exact bnd (s_CloneW false ws hl (fun h => by cases h)) (cT rfl rfl)
theorem ncopy_ok (h : Kst w0 μ I W) {k k' nb : Nat} {F : List Nat} {ws : List Int} {dn : Bool} (hk : I k = some (obI nb F 93 (ndC ws dn))) (hl : ws.length ≤ 100000) :
  Calls Try.prog 27 #[.pointer (some ⟨nb,0,none⟩)] W fun e w' => ∃ (y : Nat) (F' : List Nat),e = .returned (.pointer (some ⟨y,0,none⟩))∧Kst w0 μ (put I k' (some (obI y F' 93 (ndC ws dn)))) w' := by
 have hd : DR (hf W) (.ep ((ndC ws dn).map lentA) 0) (.pointer (some ⟨nb,0,none⟩)) := B1.lent h.imm (h.ok k _ hk)
 refine (h.mkOb mix extOk k' (xs := []) (s_NCopy ws dn hl) (by
  show ([AV.ow false 23 1 (ws.map wr),.v (.bool dn)]).all flatC = true
  simp only [List.all_cons,wr_flat,List.all_nil]; rfl) f27_at (vals := [.pointer (some ⟨nb,0,none⟩)]) (.cons (F := []) (F' := []) (G := []) (G' := []) (.o (.c (.d hd))) .nil)).mono fun e w' he => ?_
 obtain ⟨y,F',rfl,hK,_,_⟩ := he
 exact ⟨y,F',rfl,hK⟩
def RrD (w0 : World) (b7 pb nb qb rb : Nat) (cp cn c1 c2 c3 : Option Nat) (W : World) : Prop :=
 ∃ (μ : Mu) (I : Nat → Option ItemO) (s : PS) (qn : Bool) (ws : List Int) (dn : Bool),Kst w0 μ I W∧Fz4 μ b7 pb nb qb rb∧St4 I 0 pb nb qb rb s qn ws dn∧StOk s qn ws∧(∀ y,cp = some y → ∃ F,I 4 = some (obI y F 83 (prC (s.p s.q.isEmpty))))∧(∀ y,cn = some y → ∃ F,I 5 = some (obI y F 93 (ndC ws dn))) ∧
  (∀ y,c1 = some y → ∃ F,I 6 = some (obI y F 70 [.v (.int .i64 0),.v (.int .i64 0),.v (.int .i64 0),.v (.slice none 0 0)]))∧(∀ y,c2 = some y → ∃ F,I 7 = some (obI y F 72 [.v (.slice none 0 0),.v (.bool false)])) ∧
  (∀ y,c3 = some y → ∃ F,I 9 = some (obI y F 29 [.v (.pointer none),.v (.pointer none),.v (.pointer none),.v (.pointer none)]))
theorem kept_cells {ι : Type} [DecidableEq ι] {I : ι → Option ItemO} (h : Kst w0 μ I W) {i : ι} {b ty : Nat} {F : List Nat} {vs : List Value} (hi : I i = some (obI b F ty (vs.map AV.v))) : W.heap[b]? = some (.cells vs.toArray ty (0,0)) := by
 obtain ⟨F',cur,_,h1,_,h2⟩ := h.ob hi
 have : ∀ {F : List Nat} {vs us : List Value},B0s μ (hf W) F (vs.map AV.v) us → us = vs := by
  intro F vs
  induction vs generalizing F with
  | nil => intro us h; cases h; rfl
  | cons v vs ih =>
   intro us h
   cases h with
   | cons h k => rw [(b0_v h).1,ih k]
 have e := this h2
 rw [h1,← e]
theorem mkY_ok (b7 pb nb qb rb : Nat) : MkY b7 pb nb (RrD w0 b7 pb nb qb rb) where
 cp := fun cn c1 c2 c3 W h => by
  obtain ⟨μ,I,s,qn,ws,dn,hK,hf,hs,hok,h4,h5,h6,h7,h9⟩ := h
  obtain ⟨F,hp⟩ := hs.p
  have hexl := hok.wf.exl
  have hwl := hok.wf.wl
  refine (copy_ok hK (k' := 4) hp (by decide) hok.wf.len (fun v hv => (hok.wf.vs v hv).2.wf) (fun e => List.isEmpty_iff.1 e) (by show s.w.length ≤ _; omega)).mono fun e w' he => ?_
  obtain ⟨y,F',μ',rfl,hm,hK'⟩ := he
  refine ⟨y,rfl,μ',_,s,qn,ws,dn,hK',hf.mono hm,hs.put (by omega),hok,fun y' e => ?_,fun y' e => ?_,fun y' e => ?_,fun y' e => ?_,fun y' e => ?_⟩
  ·cases e; exact ⟨F',rfl⟩
  ·obtain ⟨F,g⟩ := h5 y' e; exact ⟨F,put_get g (by decide)⟩
  ·obtain ⟨F,g⟩ := h6 y' e; exact ⟨F,put_get g (by decide)⟩
  ·obtain ⟨F,g⟩ := h7 y' e; exact ⟨F,put_get g (by decide)⟩
  ·obtain ⟨F,g⟩ := h9 y' e; exact ⟨F,put_get g (by decide)⟩
 cn := fun cp c1 c2 c3 W h => by
  obtain ⟨μ,I,s,qn,ws,dn,hK,hf,hs,hok,h4,h5,h6,h7,h9⟩ := h
  obtain ⟨F,hn⟩ := hs.n
  refine (ncopy_ok hK (k' := 5) hn (by rw [hok.len]; decide)).mono fun e w' he => ?_
  obtain ⟨y,F',rfl,hK'⟩ := he
  refine ⟨y,rfl,μ,_,s,qn,ws,dn,hK',hf,hs.put (by omega),hok,fun y' e => ?_,fun y' e => ?_,fun y' e => ?_,fun y' e => ?_,fun y' e => ?_⟩
  ·obtain ⟨F,g⟩ := h4 y' e; exact ⟨F,put_get g (by decide)⟩
  ·cases e; exact ⟨F',rfl⟩
  ·obtain ⟨F,g⟩ := h6 y' e; exact ⟨F,put_get g (by decide)⟩
  ·obtain ⟨F,g⟩ := h7 y' e; exact ⟨F,put_get g (by decide)⟩
  ·obtain ⟨F,g⟩ := h9 y' e; exact ⟨F,put_get g (by decide)⟩
 a1 := fun cp cn c2 c3 W h => by
  obtain ⟨μ,I,s,qn,ws,dn,hK,hf,hs,hok,h4,h5,h6,h7,h9⟩ := h
  refine ⟨μ,_,s,qn,ws,dn,hK.alloc 6 (cs := [Value.int .i64 0,.int .i64 0,.int .i64 0,.slice none 0 0].map AV.v) (b0s_vals _ fun v hv => ?_),hf,hs.put (by omega),hok,fun y' e => ?_,fun y' e => ?_,fun y' e => ?_,fun y' e => ?_,fun y' e => ?_⟩
  ·simp only [List.mem_cons,List.not_mem_nil,or_false] at hv
   rcases hv with rfl | rfl | rfl | rfl <;> rfl
  ·obtain ⟨F,g⟩ := h4 y' e; exact ⟨F,put_get g (by decide)⟩
  ·obtain ⟨F,g⟩ := h5 y' e; exact ⟨F,put_get g (by decide)⟩
  ·cases e; exact ⟨_,rfl⟩
  ·obtain ⟨F,g⟩ := h7 y' e; exact ⟨F,put_get g (by decide)⟩
  ·obtain ⟨F,g⟩ := h9 y' e; exact ⟨F,put_get g (by decide)⟩
 a2 := fun cp cn c1 c3 W h => by
  obtain ⟨μ,I,s,qn,ws,dn,hK,hf,hs,hok,h4,h5,h6,h7,h9⟩ := h
  refine ⟨μ,_,s,qn,ws,dn,hK.alloc 7 (cs := [Value.slice none 0 0,.bool false].map AV.v) (b0s_vals _ fun v hv => ?_),hf,hs.put (by omega),hok,fun y' e => ?_,fun y' e => ?_,fun y' e => ?_,fun y' e => ?_,fun y' e => ?_⟩
  ·simp only [List.mem_cons,List.not_mem_nil,or_false] at hv
   rcases hv with rfl | rfl <;> rfl
  ·obtain ⟨F,g⟩ := h4 y' e; exact ⟨F,put_get g (by decide)⟩
  ·obtain ⟨F,g⟩ := h5 y' e; exact ⟨F,put_get g (by decide)⟩
  ·obtain ⟨F,g⟩ := h6 y' e; exact ⟨F,put_get g (by decide)⟩
  ·cases e; exact ⟨_,rfl⟩
  ·obtain ⟨F,g⟩ := h9 y' e; exact ⟨F,put_get g (by decide)⟩
 a3 := fun cp cn c1 c2 W h => by
  obtain ⟨μ,I,s,qn,ws,dn,hK,hf,hs,hok,h4,h5,h6,h7,h9⟩ := h
  refine ⟨μ,_,s,qn,ws,dn,hK.alloc 9 (cs := [Value.pointer none,.pointer none,.pointer none,.pointer none].map AV.v) (b0s_vals _ fun v hv => ?_),hf,hs.put (by omega),hok,fun y' e => ?_,fun y' e => ?_,fun y' e => ?_,fun y' e => ?_,fun y' e => ?_⟩
  ·simp only [List.mem_cons,List.not_mem_nil,or_false] at hv
   rcases hv with rfl | rfl | rfl | rfl <;> rfl
  ·obtain ⟨F,g⟩ := h4 y' e; exact ⟨F,put_get g (by decide)⟩
  ·obtain ⟨F,g⟩ := h5 y' e; exact ⟨F,put_get g (by decide)⟩
  ·obtain ⟨F,g⟩ := h6 y' e; exact ⟨F,put_get g (by decide)⟩
  ·obtain ⟨F,g⟩ := h7 y' e; exact ⟨F,put_get g (by decide)⟩
  ·cases e; exact ⟨_,rfl⟩
 p7 := fun cp cn c1 c2 c3 W h => by
  obtain ⟨μ,I,s,qn,ws,dn,hK,hf,_⟩ := h
  have := hf.cells hK
  exact ⟨this.1,this.2.1⟩
 st := fun cp cn c1 c2 t W h => by
  obtain ⟨μ,I,s,qn,ws,dn,hK,hf,hs,hok,h4,h5,h6,h7,h9⟩ := h
  obtain ⟨F,g⟩ := h9 t rfl
  exact kept_cells hK (vs := [.pointer none,.pointer none,.pointer none,.pointer none]) g
end
end Go.Proofs.Ytkefjdmoikegbaa
