/- The nodes of a fabric,and what calls do to them. -/
import Derived.Test.YtnjccbnlmdajkaaPiecesS
import Derived.Test.YtnjccbnlmdajkaaEv12
import Derived.Test.YtnjccbnlmdajkaaFabW
set_option linter.all false
namespace Go.Proofs.Ytnjccbnlmdajkaa
open Go.RowKit Go.Shelf Go.Lib Go.Ev
theorem split_at {α : Type} : ∀ (l : List α) (i : Nat) (x : α),l[i]? = some x → ∃ l1 l2,l = l1 ++ x :: l2∧l1.length = i
 | [],i,x,h => by simp at h
 | y :: l,0,x,h => by simp at h; exact ⟨[],l,by rw [h]; rfl,rfl⟩
 | y :: l,i + 1,x,h => by
  obtain ⟨l1,l2,h1,h2⟩ := split_at l i x (by simpa using h)
  exact ⟨y :: l1,l2,by rw [h1]; rfl,by simp [h2]⟩
theorem set_mid {α : Type} (l1 l2 : List α) (x y : α) : (l1 ++ x :: l2).set l1.length y = l1 ++ y :: l2 := by
 rw [List.set_append_right _ _ (Nat.le_refl _),Nat.sub_self]; rfl
structure FS (w0 : World) (bf bn n cn : Nat) (its : List ItemO) (W : World) : Prop where
 kept : KeptW [] w0 W
 own : Owns mu0 W its
 hdr : ∃ curf curn : Array Value,W.heap[bf]? = some (.cells curf 62 (0,0))∧curf[1]? = some (.slice (some ⟨bn,0,none⟩) n cn)∧W.heap[bn]? = some (.cells curn 28 (0,0)) ∧
  ∀ (i : Nat) (x : ItemO),its[i]? = some x → ∃ pb : Nat,x.p = .pointer (some ⟨pb,0,none⟩)∧curn[i]? = some x.p
 apart : ∀ b ∈ foot its,b ≠ bf∧b ≠ bn∧w0.heap.size ≤ b
theorem mu0_new {P : Nat → Prop} : ∀ b o,mu0 b = some o → mu0 b = some o ∨ P b := fun b o h => by cases h
theorem FS.kept' {w0 W W' : World} {bf bn n cn : Nat} {its : List ItemO} {D : List Nat} (h : FS w0 bf bn n cn its W) (k : KeptW D W W') (hd : ∀ b ∈ D,b ≠ bf∧b ≠ bn∧b ∉ foot its∧w0.heap.size ≤ b) : FS w0 bf bn n cn its W' := by
 obtain ⟨curf,curn,h1,h2,h3,h4⟩ := h.hdr
 exact ⟨h.kept.trans k fun x hx => .inr (hd x hx).2.2.2,h.own.kept k (MuLe.refl _) mu0_new fun b hb => (hd b hb).2.2.1,⟨curf,curn,k.get h1 fun e => (hd _ e).1 rfl,h2,k.get h3 fun e => (hd _ e).2.1 rfl,h4⟩,h.apart⟩
theorem FS.kept0 {w0 W W' : World} {bf bn n cn : Nat} {its : List ItemO} (h : FS w0 bf bn n cn its W) (k : KeptW [] W W') : FS w0 bf bn n cn its W' := h.kept' k fun b hb => by cases hb
theorem FS.cells {w0 W : World} {bf bn n cn i : Nat} {its : List ItemO} {x : ItemO} (h : FS w0 bf bn n cn its W) (hi : its[i]? = some x) :
  ∃ pb : Nat,x.p = .pointer (some ⟨pb,0,none⟩)∧W.cell? ⟨bf,1,none⟩ = some (.slice (some ⟨bn,0,none⟩) n cn)∧W.cell? ⟨bn,i,none⟩ = some (.pointer (some ⟨pb,0,none⟩)) := by
 obtain ⟨curf,curn,h1,h2,h3,h4⟩ := h.hdr
 obtain ⟨pb,hp,hc⟩ := h4 i x hi
 exact ⟨pb,hp,cell_of h1 h2,hp ▸ cell_of h3 hc⟩
theorem FS.cell1 {w0 W : World} {bf bn n cn : Nat} {its : List ItemO} (h : FS w0 bf bn n cn its W) : W.cell? ⟨bf,1,none⟩ = some (.slice (some ⟨bn,0,none⟩) n cn) := by
 obtain ⟨curf,curn,h1,h2,h3,h4⟩ := h.hdr
 exact cell_of h1 h2
theorem FS.call {w0 W : World} {bf bn n cn i : Nat} {its : List ItemO} {x : ItemO} (h : FS w0 bf bn n cn its W) (hi : its[i]? = some x) {f : FuncId} {fn : Func} {dv rv : List Value} {a' : AV}
  (hev : ev f (x.a :: dv.map AV.v) = some (rv.map AV.v ++ [a'])) (hfn : Try.prog.funcs[f]? = some fn) (hsz : fn.resultTypes.size = rv.length) (hok : ∀ v ∈ dv,okC (.v v) = true) (hfl : flatO a' = true) :
  Calls Try.prog f (x.p :: dv).toArray W fun e w' => e = .returned (retV rv)∧∃ F',FS w0 bf bn n cn (its.set i ⟨x.p,F',a'⟩) w' := by
 obtain ⟨l1,l2,hl,hl1⟩ := split_at its i x hi
 have hset : ∀ y,its.set i y = l1 ++ y :: l2 := fun y => by rw [hl,← hl1]; exact set_mid l1 l2 x y
 have hO : Owns mu0 W (x :: (l1 ++ l2)) := by
  have := h.own; rw [hl] at this
  exact this.perm List.perm_middle
 obtain ⟨hx1,hx2,hrest,hdis⟩ := hO.head
 have hfoot : ∀ b,b ∈ foot its ↔ b ∈ x.F ∨ b ∈ foot (l1 ++ l2) := fun b => by
  rw [hl,foot_app,foot_cons,foot_app]
  simp only [List.mem_append]
  constructor
  ·rintro (h | h | h)
   ·exact .inr (.inl h)
   ·exact .inl h
   ·exact .inr (.inr h)
  ·rintro (h | h | h)
   ·exact .inr (.inl h)
   ·exact .inl h
   ·exact .inr (.inr h)
 have hB : B2s mu0 (hf W) x.F [x.p] (x.a :: dv.map AV.v) (x.p :: dv) := by
  have := B2s.cons (F' := []) (G' := []) (B2.o hx1) (b2s_vals (μ := mu0) (hp := hf W) dv hok)
  rwa [List.append_nil,List.append_nil] at this
 refine (call_rest mix extOk hev hfn (mu0_imm W) hB hx2 hrest hdis).mono fun e w' he => ?_
 obtain ⟨ra,ro,vs,μ',F1,F2,G1,hrs,hra,rfl,hk,_,hi',hb1,hb2,hnd,hnew,_,hap,_⟩ := he
 obtain ⟨e1,e2⟩ := List.append_inj hrs (by rw [List.length_map,← hsz,hra])
 subst e1 e2
 obtain ⟨rfl,rfl⟩ := b2s_vals_inv (F := F1) (G := G1) _ hb1
 obtain ⟨v,hv,hb⟩ := b1s_one hb2
 cases hv
 rw [List.nil_append] at hnd hnew hap
 refine ⟨rfl,F2,?_⟩
 rw [hset]
 have hown : Owns mu0 w' (⟨x.p,F2,a'⟩ :: (l1 ++ l2)) := .cons (flatO_b1 hfl hb) hnd (hrest.kept hk (MuLe.refl _) mu0_new hdis) hap
 obtain ⟨curf,curn,h1,h2,h3,h4⟩ := h.hdr
 have hbf : bf ∉ x.F := fun e => (h.apart bf ((hfoot bf).2 (.inl e))).1 rfl
 have hbn : bn ∉ x.F := fun e => (h.apart bn ((hfoot bn).2 (.inl e))).2.1 rfl
 refine ⟨h.kept.trans hk fun b hb => .inr (h.apart b ((hfoot b).2 (.inl hb))).2.2,hown.perm List.perm_middle.symm,⟨curf,curn,hk.get h1 hbf,h2,hk.get h3 hbn,fun k y hy => ?_⟩,fun b hb => ?_⟩
 ·by_cases hki : k = i
  ·subst hki
   obtain ⟨pb,hp,hc⟩ := h4 k x hi
   rw [← hl1,List.getElem?_append_right (Nat.le_refl _),Nat.sub_self] at hy
   simp at hy
   subst hy
   exact ⟨pb,hp,hc⟩
  ·refine h4 k y ?_
   rw [← hset,List.getElem?_set_ne (fun e => hki e.symm)] at hy
   exact hy
 ·rw [foot_app,foot_cons] at hb
  simp only [List.mem_append] at hb
  have hold : b ∈ foot its → b ≠ bf∧b ≠ bn∧w0.heap.size ≤ b := h.apart b
  have hm : b ∈ foot l1 ∨ b ∈ foot l2 → b ∈ foot its := fun h => (hfoot b).2 (.inr (by rw [foot_app]; exact List.mem_append.2 h))
  rcases hb with hb | hb | hb
  ·exact hold (hm (.inl hb))
  ·rcases hnew b hb with hb | hb
   ·exact hold ((hfoot b).2 (.inl hb))
   ·have g1 := (Array.getElem?_eq_some_iff.1 h1).1
    have g2 := (Array.getElem?_eq_some_iff.1 h3).1
    have := h.kept.size
    exact ⟨by omega,by omega,by omega⟩
  ·exact hold (hm (.inr hb))
end Go.Proofs.Ytnjccbnlmdajkaa
namespace Go.Proofs.Ytnjccbnlmdajkaa
open Go.RowKit Go.Shelf Go.Lib Go.Ev
theorem kept_cell {D : List Nat} {a b : World} (h : KeptW D a b) {x j : Nat} {v : Value} (hx : a.cell? ⟨x,j,none⟩ = some v) (hd : x ∉ D) : b.cell? ⟨x,j,none⟩ = some v := by
 cases e : a.heap[x]? with
 | none => simp [World.cell?,e] at hx
 | some o =>
  have := h.get e hd
  rw [← hx]
  simp only [World.cell?,e,this]
structure CS (w0 : World) (ln : Int) (bf bc nc k bn n cn : Nat) (its : List ItemO) (W : World) : Prop where
 fs : FS w0 bf bn n cn its W
 bcs : ∃ cur : Array Value,W.heap[bc]? = some (.cells cur 74 (0,0))∧cur.size = nc * 7∧(∀ c,c < k → cur[c * 7]? = some (.bool true)∧cur[c * 7 + 1]? = some (.int .i64 1)) ∧
  ∀ c,c < nc → cur[c * 7 + 3]? = some (.slice none 0 0)∧cur[c * 7 + 4]? = some (.int .i64 0)∧cur[c * 7 + 5]? = some (.int .i64 0)∧cur[c * 7 + 6]? = some (.int .i64 0)
 bfs : W.cell? ⟨bf,2,none⟩ = some (.slice (some ⟨bc,0,none⟩) nc nc)
 lin : W.cell? ⟨bf,0,none⟩ = some (.int .i64 ln)∧W.cell? ⟨bf,3,none⟩ = some (.slice none 0 0)
 ne : bc ≠ bf∧bc ≠ bn∧w0.heap.size ≤ bc∧bc ∉ foot its
 bnw : w0.heap.size ≤ bn
theorem CS.kept {w0 W W' : World} {ln : Int} {bf bc nc k bn n cn : Nat} {its : List ItemO} {D : List Nat} (h : CS w0 ln bf bc nc k bn n cn its W) (kk : KeptW D W W') (hd : ∀ b ∈ D,b ≠ bf∧b ≠ bn∧b ∉ foot its∧w0.heap.size ≤ b∧b ≠ bc) : CS w0 ln bf bc nc k bn n cn its W' := by
 obtain ⟨cur,h1,h2,h3,h4⟩ := h.bcs
 exact ⟨h.fs.kept' kk fun b hb => ⟨(hd b hb).1,(hd b hb).2.1,(hd b hb).2.2.1,(hd b hb).2.2.2.1⟩,⟨cur,kk.get h1 fun e => (hd _ e).2.2.2.2 rfl,h2,h3,h4⟩,kept_cell kk h.bfs fun e => (hd _ e).1 rfl,⟨kept_cell kk h.lin.1 fun e => (hd _ e).1 rfl,kept_cell kk h.lin.2 fun e => (hd _ e).1 rfl⟩,h.ne,h.bnw⟩
theorem CS.set {w0 W : World} {ln : Int} {bf bc nc k bn n cn j : Nat} {its : List ItemO} {v : Value} (h : CS w0 ln bf bc nc k bn n cn its W) (hj : j < nc * 7) (hr : j % 7 ≤ 2) (hkj : k * 7 ≤ j) :
  CS w0 ln bf bc nc k bn n cn its (W.setCell ⟨bc,j,none⟩ v)∧W.frozen? ⟨bc,j,none⟩ = false∧(∃ x,W.cell? ⟨bc,j,none⟩ = some x)∧(W.setCell ⟨bc,j,none⟩ v).cell? ⟨bc,j,none⟩ = some v∧KeptW [bc] W (W.setCell ⟨bc,j,none⟩ v)∧∀ j',j' ≠ j → (W.setCell ⟨bc,j,none⟩ v).cell? ⟨bc,j',none⟩ = W.cell? ⟨bc,j',none⟩ := by
 obtain ⟨cur,h1,h2,h3,h4⟩ := h.bcs
 obtain ⟨kk,hk⟩ := KeptW.set (j := j) (v := v) h1
 have ho : ∀ j',j' ≠ j → (cur.setIfInBounds j v)[j']? = cur[j']? := fun j' hj' => by rw [Array.getElem?_setIfInBounds,if_neg (fun e => hj' e.symm)]
 refine ⟨⟨h.fs.kept' kk fun b hb => ?_,⟨_,hk,by rw [Array.size_setIfInBounds]; exact h2,fun c hc => ?_,fun c hc => ?_⟩,kept_cell kk h.bfs (by simp [h.ne.1.symm]),⟨kept_cell kk h.lin.1 (by simp [h.ne.1.symm]),kept_cell kk h.lin.2 (by simp [h.ne.1.symm])⟩,h.ne,h.bnw⟩,frozen_of h1 j,⟨cur[j],cell_of h1 (Array.getElem?_eq_getElem (by omega))⟩,cell_of hk (by rw [Array.getElem?_setIfInBounds,if_pos rfl,if_pos (by omega)]),kk,fun j' hj' => ?_⟩
 ·simp only [List.mem_singleton] at hb
  subst hb
  exact ⟨h.ne.1,h.ne.2.1,h.ne.2.2.2,h.ne.2.2.1⟩
 ·rw [ho _ (by omega),ho _ (by omega)]; exact h3 c hc
 ·rw [ho _ (by omega),ho _ (by omega),ho _ (by omega),ho _ (by omega)]; exact h4 c hc
 ·simp only [World.cell?,hk,h1,Option.isSome_none,Bool.false_eq_true,if_false]
  exact ho j' hj'
theorem inf89 : (Try.prog.info? 82).map (fun i => (i.zero,i.size,i.bytes)) = some (some (.agg #[.pointer none,.slice none 0 0]),2,32) := by kernel_rfl
theorem inf37 : (Try.prog.info? 28).map (fun i => (i.zero,i.size,i.bytes)) = some (some (.pointer none),1,8) := by kernel_rfl
theorem inf83 : (Try.prog.info? 74).map (fun i => (i.zero,i.size,i.bytes)) = some (some (.agg #[.bool false,.int .i64 0,.slice none 0 0,.slice none 0 0,.int .i64 0,.int .i64 0,.int .i64 0]),7,88) := by kernel_rfl
theorem und80 : Try.prog.underlying 72 = some (.slice 82) := by kernel_rfl
theorem und70 : Try.prog.underlying 59 = some (.slice 28) := by kernel_rfl
theorem und69 : Try.prog.underlying 58 = some (.slice 74) := by kernel_rfl
theorem info_parts {t : Nat} {z : Value} {s b : Nat} (h : (Try.prog.info? t).map (fun i => (i.zero,i.size,i.bytes)) = some (some z,s,b)) : ∃ I : TypeInfo,Try.prog.info? t = some I∧I.zero = some z∧I.size = s∧I.bytes = b := by
 cases hi : Try.prog.info? t with
 | none => rw [hi] at h; cases h
 | some I =>
  rw [hi] at h
  simp only [Option.map_some,Option.some.injEq,Prod.mk.injEq] at h
  exact ⟨I,rfl,h.1,h.2.1,h.2.2⟩
theorem call_mk {f : FuncId} {fn : Func} {dv : List Value} {ty : Nat} {cs : List AV} {x : Value} (hev : ev f (dv.map AV.v) = some [.ob ty cs,.v x]) (hfn : Try.prog.funcs[f]? = some fn) (hsz : fn.resultTypes.size = 2) (hok : ∀ v ∈ dv,okC (.v v) = true) (hfl : flatO (.ob ty cs) = true)
  (W : World) {its : List ItemO} (hO : Owns mu0 W its) : Calls Try.prog f dv.toArray W fun e w' => ∃ (pb : Nat) (F : List Nat),e = .returned (.tuple #[.pointer (some ⟨pb,0,none⟩),x])∧KeptW [] W w'∧B1 mu0 (hf w') F [.pointer (some ⟨pb,0,none⟩)] (.ob ty cs) (.pointer (some ⟨pb,0,none⟩))∧F.Nodup∧∀ b ∈ F,W.heap.size ≤ b := by
 refine (call_rest mix extOk hev hfn (mu0_imm W) (b2s_vals dv hok) List.nodup_nil hO (fun b hb => by cases hb)).mono fun e w' he => ?_
 obtain ⟨ra,ro,vs,μ',F1,F2,G1,hrs,hra,rfl,hk,_,hi',hb1,hb2,hnd,hnew,_,hap,_⟩ := he
 obtain ⟨rfl,rfl⟩ := Go.Ev.b1s_nil hb2 rfl
 rw [List.append_nil] at hrs hnd hnew
 subst hrs
 obtain ⟨Fa,Fb,Ga,Gb,v,vs',rfl,rfl,rfl,hv,hr⟩ := b2s_cons hb1
 obtain ⟨u,rfl,hu⟩ := Go.Ev.b2s_one hr
 obtain ⟨rfl,rfl,rfl⟩ := b2_v hu
 rw [List.append_nil] at hnd hnew
 cases hv with
 | o hv =>
  have hfl' := flatO_b1 hfl hv
  cases hfl' with
  | c h => cases h with | d h => cases h
  | @ob b _ F _ cur h1 h2 h3 =>
   exact ⟨b,b :: F,rfl,hk,.ob h1 h2 h3,hnd,fun x hx => (hnew x hx).resolve_left List.not_mem_nil⟩
end Go.Proofs.Ytnjccbnlmdajkaa
namespace Go.Proofs.Ytnjccbnlmdajkaa
open Go.RowKit Go.Shelf Go.Lib Go.Ev
abbrev pr0 (c i : Nat) : AV := .ob 99 [.v (.int .i64 c),.v (.int .i64 1),.v (.int .i64 i),.ow true 50 9 [],.v (.int .i64 0),.ow true 47 1 []]
structure CJ (w0 : World) (ln : Int) (bf bc nc k bn n cn : Nat) (its : List ItemO) (i : Nat) (W : World) : Prop where
 cs : CS w0 ln bf bc nc k bn n cn its W
 alive : W.cell? ⟨bc,k * 7,none⟩ = some (.bool true)
 inc : W.cell? ⟨bc,k * 7 + 1,none⟩ = some (.int .i64 1)
 ex : ∃ (A : Option Addr) (l c : Nat) (lcur : Array Value) (prs : List ItemO),W.cell? ⟨bc,k * 7 + 2,none⟩ = some (.slice A l c)∧l = i ∧
  ((A = none∧l = 0∧c = 0) ∨ ∃ b,A = some ⟨b,0,none⟩∧l ≤ c∧W.heap[b]? = some (.cells lcur 82 (0,0))∧lcur.size = c * 2) ∧
  (∀ b,A = some ⟨b,0,none⟩ → b ≠ bf∧b ≠ bn∧b ∉ foot its∧w0.heap.size ≤ b∧b ≠ bc∧b ∉ foot prs) ∧
  Owns mu0 W (its ++ prs)∧prs.map ItemO.a = (List.range i).map (fun j => pr0 k j)∧(∀ b ∈ foot prs,b ≠ bf∧b ≠ bn∧b ≠ bc∧w0.heap.size ≤ b) ∧
  ∀ (j : Nat) (x : ItemO),prs[j]? = some x → ∃ pb : Nat,x.p = .pointer (some ⟨pb,0,none⟩)∧lcur[j * 2]? = some x.p∧lcur[j * 2 + 1]? = some (.slice none 0 0)
theorem ev51_ok {c i : Nat} (hc : c < 6) (hi : i < 5) : ev 51 ([.int .i64 (c : Int),.int .i64 1,.int .i64 (i : Int)].map AV.v) = some [pr0 c i,.v (.int .i64 0)] := by
 show ev 51 [.v (.int .i64 (c : Int)),.v (.int .i64 1),.v (.int .i64 (i : Int))] = _
 rw [ev51,ltI_f (by omega),leI_f (by omega),ltI_f (by omega),ltI_f (by omega),ltI_f (by omega),leI_f (by omega)]; rfl
theorem foot_in_app {a b : List ItemO} {x : Nat} : x ∈ foot (a ++ b) ↔ x ∈ foot a ∨ x ∈ foot b := by rw [foot_app,List.mem_append]
theorem cj_step {w0 W : World} {ln : Int} {bf bc nc k bn n cn i : Nat} {its : List ItemO} (hcl : k < nc) (hc6 : k < 6) (hi5 : i < 5) (h : CJ w0 ln bf bc nc k bn n cn its i W) :
  Calls Try.prog 51 #[.int .i64 k,.int .i64 1,.int .i64 i] W (CnPost k bc (CJ w0 ln bf bc nc k bn n cn its (i + 1))) := by
 obtain ⟨hC,hal,hinc,A,l,c,lcur,prs,hcell,rfl,hA,hAf,hO,hmap,hfr,hpt⟩ := h
 refine (call_mk (dv := [.int .i64 k,.int .i64 1,.int .i64 l]) (ev51_ok hc6 hi5) Try.func51 (by kernel_rfl) (fun v hv => ?_) rfl W hO).mono fun e w' he => ?_
 ·simp only [List.mem_cons,List.not_mem_nil,or_false] at hv
  rcases hv with rfl | rfl | rfl <;> rfl
 obtain ⟨pb,F,rfl,hk,hob,hnd,hnew⟩ := he
 have hk1 := KeptW.alloc w' (.cells #[.pointer (some ⟨pb,0,none⟩),.slice none 0 0] 82)
 have hkk := hk.trans hk1 fun x hx => by cases hx
 obtain ⟨I,hI,hIz,hIs,hIb⟩ := info_parts inf89
 have hpos := hC.fs.kept.size
 have hA1 : (A = none∧l = 0∧c = 0) ∨ ∃ b,A = some ⟨b,0,none⟩∧l ≤ c∧(w'.alloc (.cells #[.pointer (some ⟨pb,0,none⟩),.slice none 0 0] 82)).heap[b]? = some (.cells lcur 82 (0,0))∧lcur.size = c * 2 := by
  rcases hA with h | ⟨b,h1,h2,h3,h4⟩
  ·exact .inl h
  ·exact .inr ⟨b,h1,h2,hkk.get h3 List.not_mem_nil,h4⟩
 obtain ⟨B,c',W4,cur',hrun,hk4,hB,hBs,hlc,hBA,hold,hnew1⟩ := app_raw (P := Try.prog) und80 hI hIz hIs (by omega) (by omega) rfl (l := l) (by omega) hA1 (Ev.alloc_new w' _) rfl (fun v hv => by
  simp only [List.mem_cons,List.not_mem_nil,or_false] at hv
  rcases hv with rfl | rfl <;> rfl)
 have hk1s : (w'.alloc (.cells #[.pointer (some ⟨pb,0,none⟩),.slice none 0 0] 82)).heap.size = w'.heap.size + 1 := by show (w'.heap.push _).size = _; rw [Array.size_push]
 have hksz := hk.size
 have hobl := hob.ownd
 have hFl : ∀ b ∈ F,b < w'.heap.size := fun b hb => by obtain ⟨_,o,ho⟩ := hobl b hb; exact (Array.getElem?_eq_some_iff.1 ho).1
 have hC1 := hC.kept hkk fun b hb => by cases hb
 obtain ⟨curf,curn,g1,_,g3,_⟩ := hC.fs.hdr
 obtain ⟨cc,g5,_⟩ := hC.bcs
 have g1 := (Array.getElem?_eq_some_iff.1 g1).1
 have g3 := (Array.getElem?_eq_some_iff.1 g3).1
 have g5 := (Array.getElem?_eq_some_iff.1 g5).1
 have hBf : B ≠ bf∧B ≠ bn∧B ∉ foot its∧w0.heap.size ≤ B∧B ≠ bc∧B ∉ foot prs∧B ∉ F := by
  rcases hBA with h | h
  ·obtain ⟨q1,q2,q3,q4,q5,q6⟩ := hAf B h
   refine ⟨q1,q2,q3,q4,q5,q6,fun hm => ?_⟩
   rcases hA with ⟨h0,_⟩ | ⟨b,h1,_,h3,_⟩
   ·rw [h0] at h; cases h
   ·rw [h1] at h; cases h
    have := (Array.getElem?_eq_some_iff.1 h3).1
    have := hnew B hm
    omega
  ·exact ⟨by omega,by omega,fun hm => by have := (hC.fs.own.own B hm).2; omega,by omega,by omega,fun hm => by have := (hO.own B (foot_in_app.2 (.inr hm))).2; omega,fun hm => by have := hFl B hm; omega⟩
 have hC4 := hC1.kept hk4 fun b hb => by simp only [List.mem_singleton] at hb; subst hb; exact ⟨hBf.1,hBf.2.1,hBf.2.2.1,hBf.2.2.2.1,hBf.2.2.2.2.1⟩
 have hj : k * 7 + 2 < nc * 7 := by omega
 obtain ⟨hC5,hf,hx,hcv,hk5,hoth⟩ := hC4.set (j := k * 7 + 2) (v := .slice (some ⟨B,0,none⟩) (l + 1) c') hj (by omega) (by omega)
 have hkB : bc ∉ ([B] : List Nat) := by simp only [List.mem_singleton]; exact fun e => hBf.2.2.2.2.1 e.symm
 have h4c : ∀ j v,W.cell? ⟨bc,j,none⟩ = some v → W4.cell? ⟨bc,j,none⟩ = some v := fun j v hv => kept_cell hk4 (kept_cell hkk hv List.not_mem_nil) hkB
 have hO1 : Owns mu0 w' (its ++ (prs ++ [⟨.pointer (some ⟨pb,0,none⟩),F,pr0 k l⟩])) := by
  rw [← List.append_assoc]
  refine (Owns.cons (x := ⟨.pointer (some ⟨pb,0,none⟩),F,pr0 k l⟩) hob hnd (hO.kept hk (MuLe.refl _) mu0_new fun b hb => by cases hb) fun b hb hm => ?_).perm (List.perm_append_comm (l₁ := [_]))
  have := hnew b hb
  have := (hO.own b hm).2
  omega
 have hfoot : ∀ b,b ∈ foot (prs ++ [(⟨.pointer (some ⟨pb,0,none⟩),F,pr0 k l⟩ : ItemO)]) → b ∈ foot prs ∨ b ∈ F := fun b hb => by
  rw [foot_app] at hb
  simpa [foot] using hb
 have hO5 := ((hO1.kept hk1 (MuLe.refl _) mu0_new fun b hb => by cases hb).kept hk4 (MuLe.refl _) mu0_new fun b hb hm => by
  simp only [List.mem_singleton] at hb; subst hb
  rcases foot_in_app.1 hm with hm | hm
  ·exact hBf.2.2.1 hm
  ·exact (hfoot _ hm).elim hBf.2.2.2.2.2.1 hBf.2.2.2.2.2.2).kept hk5 (MuLe.refl _) mu0_new fun b hb hm => by
  simp only [List.mem_singleton] at hb; subst hb
  rcases foot_in_app.1 hm with hm | hm
  ·exact hC.ne.2.2.2 hm
  ·rcases hfoot _ hm with hm | hm
   ·exact (hfr _ hm).2.2.1 rfl
   ·have := hnew _ hm; omega
 have hlen : prs.length = l := by have := congrArg List.length hmap; simpa using this
 refine ⟨pb,0,A,l,c,B,c',W4,rfl,kept_cell hk hcell List.not_mem_nil,hrun,hf,hx,hC5,?_,?_,some ⟨B,0,none⟩,l + 1,c',cur',prs ++ [⟨.pointer (some ⟨pb,0,none⟩),F,pr0 k l⟩],hcv,rfl,.inr ⟨B,rfl,hlc,hk5.get hB (by simp only [List.mem_singleton]; exact hBf.2.2.2.2.1),hBs⟩,?_,hO5,?_,?_,?_⟩
 ·rw [hoth _ (by omega)]; exact h4c _ _ hal
 ·rw [hoth _ (by omega)]; exact h4c _ _ hinc
 ·intro b hb
  cases hb
  exact ⟨hBf.1,hBf.2.1,hBf.2.2.1,hBf.2.2.2.1,hBf.2.2.2.2.1,fun hm => (hfoot _ hm).elim hBf.2.2.2.2.2.1 hBf.2.2.2.2.2.2⟩
 ·rw [List.map_append,hmap,List.range_succ,List.map_append]; rfl
 ·intro b hb
  rcases hfoot b hb with hb | hb
  ·exact hfr b hb
  ·have := hnew b hb; exact ⟨by omega,by omega,by omega,by omega⟩
 ·intro j x hx
  by_cases hkl : j < prs.length
  ·rw [List.getElem?_append_left hkl] at hx
   obtain ⟨p,q1,q2,q3⟩ := hpt j x hx
   exact ⟨p,q1,by rw [← q2]; exact hold _ (by omega),by rw [← q3]; exact hold _ (by omega)⟩
  ·have hke : j = prs.length := by
    have := (List.getElem?_eq_some_iff.1 hx).1
    simp at this; omega
   subst hke
   rw [List.getElem?_append_right (Nat.le_refl _),Nat.sub_self] at hx
   simp at hx
   subst hx
   have q0 := hnew1 0 (by decide)
   have q1 := hnew1 1 (by decide)
   rw [hlen]
   exact ⟨pb,rfl,by simpa using q0,by simpa using q1⟩
theorem connect_okA {w0 W : World} {ln : Int} {bf bc nc k bn n cn : Nat} {its : List ItemO} (hcl : k < nc) (hc6 : k < 6) (hn5 : n ≤ 5) (h : CS w0 ln bf bc nc k bn n cn its W) :
  Calls Try.prog 32 #[.pointer (some ⟨bf,0,none⟩),.int .i64 k,.int .i64 1] W fun e w' => e = .returned (.tuple #[])∧CJ w0 ln bf bc nc k bn n cn its n w' := by
 have j0 : k * 7 < nc * 7 := by omega
 have j1 : k * 7 + 1 < nc * 7 := by omega
 have j2 : k * 7 + 2 < nc * 7 := by omega
 obtain ⟨h1,f0,c0,v0,_,o0⟩ := h.set (v := .bool true) j0 (by omega) (by omega)
 obtain ⟨h2,f1,c1,v1,_,o1⟩ := h1.set (v := .int .i64 1) j1 (by omega) (by omega)
 obtain ⟨h3,f2,c2,cv,_,o2⟩ := h2.set (v := .slice none 0 0) j2 (by omega) (by omega)
 exact connect_walk bf bc k nc nc n cn (some ⟨bn,0,none⟩) 1 W _ _ _ (CJ w0 ln bf bc nc k bn n cn its) (by omega) h.bfs hcl rfl rfl rfl f0 f1 f2 c0 c1 c2 h3.fs.cell1
  ⟨h3,by rw [o2 _ (by omega),o1 _ (by omega)]; exact v0,by rw [o2 _ (by omega)]; exact v1,none,0,0,#[],[],cv,rfl,.inl ⟨rfl,rfl,rfl⟩,(fun b hb => by cases hb),by rw [List.append_nil]; exact h3.fs.own,rfl,(fun b hb => by cases hb),fun j x hx => by simp at hx⟩ (fun i V hi hJ => cj_step hcl hc6 (by omega) hJ)
theorem CJ.next {w0 W : World} {ln : Int} {bf bc nc k bn n cn i : Nat} {its : List ItemO} (h : CJ w0 ln bf bc nc k bn n cn its i W) : CS w0 ln bf bc nc (k + 1) bn n cn its W := by
 obtain ⟨hC,hal,hinc,_⟩ := h
 obtain ⟨cur,h1,h2,h3,h4⟩ := hC.bcs
 refine ⟨hC.fs,⟨cur,h1,h2,fun c hc => ?_,h4⟩,hC.bfs,hC.lin,hC.ne,hC.bnw⟩
 by_cases e : c = k
 ·subst e
  simp only [World.cell?,h1,Option.isSome_none,Bool.false_eq_true,if_false] at hal hinc
  exact ⟨hal,hinc⟩
 ·exact h3 c (by omega)
end Go.Proofs.Ytnjccbnlmdajkaa
namespace Go.Proofs.Ytnjccbnlmdajkaa
open Go.RowKit Go.Shelf Go.Lib Go.Ev
abbrev zw (lines : Nat) : List Int := List.replicate (8 * lines) 0
structure NS (w : World) (MC : Array Value) (clients lines i : Nat) (W : World) : Prop where
 kept : KeptW [] w W
 hbc : W.heap[w.heap.size]? = some (.cells MC 74 (0,0))
 ex : ∃ (its : List ItemO) (A : Option Addr) (l c : Nat) (curn : Array Value),Owns mu0 W its∧its.map ItemO.a = List.replicate i (ndO (zw lines) false)∧(∀ b ∈ foot its,w.heap.size + 2 ≤ b)∧l = i ∧
  W.heap[w.heap.size + 1]? = some (.cells #[.int .i64 lines,.slice A l c,.slice (some ⟨w.heap.size,0,none⟩) clients clients,.slice none 0 0] 62 (0,0)) ∧
  ((A = none∧l = 0∧c = 0) ∨ ∃ b,A = some ⟨b,0,none⟩∧l ≤ c∧W.heap[b]? = some (.cells curn 28 (0,0))∧curn.size = c * 1)∧(∀ b,A = some ⟨b,0,none⟩ → w.heap.size + 2 ≤ b∧b ∉ foot its) ∧
  ∀ (k : Nat) (x : ItemO),its[k]? = some x → ∃ pb : Nat,x.p = .pointer (some ⟨pb,0,none⟩)∧curn[k]? = some x.p
theorem ns_step {w W : World} {MC : Array Value} {clients lines i : Nat} (hl : 1 ≤ lines∧lines ≤ 256) (hi5 : i < 5) (h : NS w MC clients lines i W) :
  Calls Try.prog 31 #[.int .i64 lines] W (NwPost (w.heap.size + 1) (NS w MC clients lines (i + 1))) := by
 obtain ⟨hK,hbc,its,A,l,c,curn,hO,hmap,hfr,rfl,hbf,hA,hAf,hpt⟩ := h
 have hev := s_New (lines : Int) ⟨by omega,by omega⟩
 rw [Int.toNat_natCast] at hev
 refine (call_mk (dv := [.int .i64 lines]) hev Try.func31 (by kernel_rfl) (fun v hv => ?_) ?_ W hO).mono fun e w' he => ?_
 ·simp only [List.mem_cons,List.not_mem_nil,or_false] at hv
  subst hv; rfl
 ·show ((AV.ow false 47 1 (List.map wr (zw lines))) :: [AV.v (.bool false)]).all flatC = true
  rw [List.all_cons,Bool.and_eq_true]
  refine ⟨?_,rfl⟩
  show (List.map wr (zw lines)).all _ = true
  rw [List.all_eq_true]
  intro e he
  obtain ⟨x,_,rfl⟩ := List.mem_map.1 he
  rfl
 obtain ⟨pb,F,rfl,hk,hob,hnd,hnew⟩ := he
 have hsz := hK.size
 have hbfl := (Array.getElem?_eq_some_iff.1 hbf).1
 have hk1 := KeptW.alloc w' (.cells #[.pointer (some ⟨pb,0,none⟩)] 28)
 have hkk := hk.trans hk1 fun x hx => by cases hx
 obtain ⟨I,hI,hIz,hIs,hIb⟩ := info_parts inf37
 have hA1 : (A = none∧l = 0∧c = 0) ∨ ∃ b,A = some ⟨b,0,none⟩∧l ≤ c∧(w'.alloc (.cells #[.pointer (some ⟨pb,0,none⟩)] 28)).heap[b]? = some (.cells curn 28 (0,0))∧curn.size = c * 1 := by
  rcases hA with h | ⟨b,h1,h2,h3,h4⟩
  ·exact .inl h
  ·exact .inr ⟨b,h1,h2,hkk.get h3 List.not_mem_nil,h4⟩
 obtain ⟨B,c',W4,cur',hrun,hk4,hB,hBs,hlc,hBA,hold,hnew1⟩ := app_raw (P := Try.prog) und70 hI hIz hIs (by omega) (by omega) rfl (l := l) (by omega) hA1 (Ev.alloc_new w' _) rfl (fun v hv => by
  simp only [List.mem_cons,List.not_mem_nil,or_false] at hv
  subst hv; rfl)
 have hk1s : (w'.alloc (.cells #[.pointer (some ⟨pb,0,none⟩)] 28)).heap.size = w'.heap.size + 1 := by show (w'.heap.push _).size = _; rw [Array.size_push]
 have hksz := hk.size
 have hobl := hob.ownd
 have hFl : ∀ b ∈ F,b < w'.heap.size := fun b hb => by obtain ⟨_,o,ho⟩ := hobl b hb; exact (Array.getElem?_eq_some_iff.1 ho).1
 have hBf : w.heap.size + 2 ≤ B∧B ∉ foot its∧B ∉ F := by
  rcases hBA with h | h
  ·refine ⟨(hAf B h).1,(hAf B h).2,fun hm => ?_⟩
   rcases hA with ⟨h0,_⟩ | ⟨b,h1,_,h3,_⟩
   ·rw [h0] at h; cases h
   ·rw [h1] at h; cases h
    have := (Array.getElem?_eq_some_iff.1 h3).1
    have := hnew B hm
    omega
  ·exact ⟨by omega,fun hm => by have := (hO.own B hm).2; omega,fun hm => by have := hFl B hm; omega⟩
 have hO1 : Owns mu0 w' (its ++ [⟨.pointer (some ⟨pb,0,none⟩),F,ndO (zw lines) false⟩]) := by
  refine (Owns.cons (x := ⟨.pointer (some ⟨pb,0,none⟩),F,ndO (zw lines) false⟩) hob hnd (hO.kept hk (MuLe.refl _) mu0_new fun b hb => by cases hb) fun b hb hm => ?_).perm (List.perm_append_comm (l₁ := [_]))
  have := hnew b hb
  have := (hO.own b hm).2
  omega
 have hfoot : ∀ b,b ∈ foot (its ++ [(⟨.pointer (some ⟨pb,0,none⟩),F,ndO (zw lines) false⟩ : ItemO)]) → b ∈ foot its ∨ b ∈ F := fun b hb => by
  rw [foot_app] at hb
  simpa [foot] using hb
 have hbf4 := hk4.get (hkk.get hbf List.not_mem_nil) (by simp; omega)
 obtain ⟨hk5,hbf5⟩ := KeptW.set (j := 1) (v := .slice (some ⟨B,0,none⟩) (l + 1) c') hbf4
 have hall : KeptW [B,w.heap.size + 1] W (W4.setCell ⟨w.heap.size + 1,1,none⟩ (.slice (some ⟨B,0,none⟩) (l + 1) c')) :=
  (((hkk.mono (D' := [B,w.heap.size + 1]) fun x hx => by cases hx).trans hk4 fun x hx => .inl (by simp at hx; simp [hx])).trans hk5 fun x hx => .inl (by simp at hx; simp [hx]))
 have hO5 : Owns mu0 (W4.setCell ⟨w.heap.size + 1,1,none⟩ (.slice (some ⟨B,0,none⟩) (l + 1) c')) (its ++ [⟨.pointer (some ⟨pb,0,none⟩),F,ndO (zw lines) false⟩]) := by
  refine ((hO1.kept hk1 (MuLe.refl _) mu0_new fun b hb => by cases hb).kept hk4 (MuLe.refl _) mu0_new fun b hb hm => ?_).kept hk5 (MuLe.refl _) mu0_new fun b hb hm => ?_
  ·simp only [List.mem_singleton] at hb; subst hb
   exact (hfoot _ hm).elim hBf.2.1 hBf.2.2
  ·simp only [List.mem_singleton] at hb; subst hb
   rcases hfoot _ hm with hm | hm
   ·have := hfr _ hm; omega
   ·have := hnew _ hm; omega
 have hlen : its.length = l := by have := congrArg List.length hmap; simpa using this
 refine ⟨pb,A,l,c,B,c',W4,rfl,cell_of (hk.get hbf List.not_mem_nil) rfl,hrun,frozen_of hbf4 1,⟨_,cell_of hbf4 rfl⟩,⟨?_,?_,its ++ [⟨.pointer (some ⟨pb,0,none⟩),F,ndO (zw lines) false⟩],some ⟨B,0,none⟩,l + 1,c',cur',hO5,?_,?_,rfl,hbf5,.inr ⟨B,rfl,hlc,hk5.get hB (by simp; omega),hBs⟩,?_,?_⟩⟩
 ·exact hK.trans hall fun x hx => by simp at hx; rcases hx with rfl | rfl <;> exact .inr (by omega)
 ·exact hall.get hbc (by simp; omega)
 ·rw [List.map_append,hmap,List.replicate_succ']; rfl
 ·intro b hb
  rcases hfoot b hb with hb | hb
  ·exact hfr b hb
  ·have := hnew b hb; omega
 ·intro b hb
  cases hb
  exact ⟨hBf.1,fun hm => (hfoot _ hm).elim hBf.2.1 hBf.2.2⟩
 ·intro k x hx
  by_cases hkl : k < its.length
  ·rw [List.getElem?_append_left hkl] at hx
   obtain ⟨p,h1,h2⟩ := hpt k x hx
   exact ⟨p,h1,by rw [← h2]; exact hold k (by omega)⟩
  ·have hke : k = its.length := by
    have := (List.getElem?_eq_some_iff.1 hx).1
    simp at this; omega
   subst hke
   rw [List.getElem?_append_right (Nat.le_refl _),Nat.sub_self] at hx
   simp at hx
   subst hx
   refine ⟨pb,rfl,?_⟩
   have := hnew1 0 (by decide)
   rw [hlen]
   simpa using this
theorem ns_zero (w : World) (MC : Array Value) (clients lines : Nat) : NS w MC clients lines 0 ((w.alloc (.cells MC 74)).alloc (.cells #[.int .i64 lines,.slice none 0 0,.slice (some ⟨w.heap.size,0,none⟩) clients clients,.slice none 0 0] 62)) := by
 have k1 := KeptW.alloc w (.cells MC 74)
 have k2 := KeptW.alloc (w.alloc (.cells MC 74)) (.cells #[.int .i64 lines,.slice none 0 0,.slice (some ⟨w.heap.size,0,none⟩) clients clients,.slice none 0 0] 62)
 have hs : (w.alloc (.cells MC 74)).heap.size = w.heap.size + 1 := by show (w.heap.push _).size = _; rw [Array.size_push]
 have h2 := Ev.alloc_new (w.alloc (.cells MC 74)) (.cells #[.int .i64 lines,.slice none 0 0,.slice (some ⟨w.heap.size,0,none⟩) clients clients,.slice none 0 0] 62)
 rw [hs] at h2
 exact ⟨k1.trans k2 (fun x hx => by cases hx),k2.get (Ev.alloc_new w _) List.not_mem_nil,[],none,0,0,#[],Owns.nil _ _,rfl,(fun b hb => by cases hb),rfl,h2,.inl ⟨rfl,rfl,rfl⟩,(fun b hb => by cases hb),fun k x hx => by simp at hx⟩
def NC (w : World) (n clients lines c : Nat) (W : World) : Prop := ∃ (bn cn : Nat) (its : List ItemO),CS w (lines : Int) (w.heap.size + 1) w.heap.size clients c bn n cn its W∧its.map ItemO.a = List.replicate n (ndO (zw lines) false) ∧
 ∀ k,c = k + 1 → CJ w (lines : Int) (w.heap.size + 1) w.heap.size clients k bn n cn its n W
theorem ns_nc {w W : World} {MC : Array Value} {clients lines n : Nat} (hn : 0 < n) (hMC : MC.size = clients * 7) (hM0 : ∀ c,c < clients → MC[c * 7 + 3]? = some (.slice none 0 0)∧MC[c * 7 + 4]? = some (.int .i64 0)∧MC[c * 7 + 5]? = some (.int .i64 0)∧MC[c * 7 + 6]? = some (.int .i64 0))
  (h : NS w MC clients lines n W) : NC w n clients lines 0 W := by
 obtain ⟨hK,hbc,its,A,l,c,curn,hO,hmap,hfr,rfl,hbf,hA,hAf,hpt⟩ := h
 rcases hA with ⟨_,h,_⟩ | ⟨bn,rfl,hlc,hbn,hbs⟩
 ·omega
 ·obtain ⟨h1,h2⟩ := hAf bn rfl
  exact ⟨bn,c,its,⟨⟨hK,hO,⟨_,curn,hbf,rfl,hbn,hpt⟩,fun b hb => ⟨by have := hfr b hb; omega,fun e => h2 (e ▸ hb),by have := hfr b hb; omega⟩⟩,⟨MC,hbc,hMC,(fun c hc => by omega),hM0⟩,cell_of hbf rfl,⟨cell_of hbf rfl,cell_of hbf rfl⟩,⟨by omega,by omega,Nat.le_refl _,fun hm => by have := hfr _ hm; omega⟩,by omega⟩,hmap,fun k hk => by omega⟩
theorem new_ok (w : World) (n clients lines : Nat) (hn : 1 ≤ n∧n ≤ 5) (hc : 1 ≤ clients∧clients ≤ 6) (hl : 1 ≤ lines∧lines ≤ 256) :
  Calls Try.prog 7 #[.int .i64 n,.int .i64 clients,.int .i64 lines] w fun e w' => e = .returned (.tuple #[.pointer (some ⟨w.heap.size + 1,0,none⟩),.int .i64 0])∧NC w n clients lines clients w' := by
 obtain ⟨I,hI,hIz,hIs,hIb⟩ := info_parts inf83
 have hmk := run_make w 58 74 I _ und69 hI hIz .i64 .i64 (clients : Int) (clients : Int) (by omega) (Int.le_refl _) (by rw [hIb]; omega) (by omega)
 rw [Int.toNat_natCast,hIs] at hmk
 obtain ⟨MC,hMC⟩ : ∃ MC,madeCells (Value.agg #[.bool false,.int .i64 0,.slice none 0 0,.slice none 0 0,.int .i64 0,.int .i64 0,.int .i64 0]).cells (clients * 7) = MC := ⟨_,rfl⟩
 rw [hMC] at hmk
 have hMs : MC.size = clients * 7 := by rw [← hMC,size_madeCells]
 have hM0 : ∀ c,c < clients → MC[c * 7 + 3]? = some (.slice none 0 0)∧MC[c * 7 + 4]? = some (.int .i64 0)∧MC[c * 7 + 5]? = some (.int .i64 0)∧MC[c * 7 + 6]? = some (.int .i64 0) := fun c hc => by
  have hzs : (Value.agg #[.bool false,.int .i64 0,.slice none 0 0,.slice none 0 0,.int .i64 0,.int .i64 0,.int .i64 0]).cells.size = 7 := rfl
  refine ⟨?_,?_,?_,?_⟩ <;> rw [← hMC,madeCells_get (by omega),hzs]
  ·rw [show (c * 7 + 3) % 7 = 3 by omega]; rfl
  ·rw [show (c * 7 + 4) % 7 = 4 by omega]; rfl
  ·rw [show (c * 7 + 5) % 7 = 5 by omega]; rfl
  ·rw [show (c * 7 + 6) % 7 = 6 by omega]; rfl
 exact new_walk n clients lines w (NS w MC clients lines) (fun c => NC w n clients lines c) hn hc ⟨by omega,by omega⟩ MC hmk (ns_zero w MC clients lines) (fun i W hi h => ns_step hl (by omega) h)
  (fun W h => ⟨ns_nc (by omega) hMs hM0 h,by
   obtain ⟨hK,hbc,its,A,l,c,curn,hO,hmap,hfr,e,hbf,_⟩ := h
   exact cell_of hbf rfl⟩)
  (fun c W hc' h => by
   obtain ⟨bn,cn,its,hC,hm,_⟩ := h
   exact (connect_okA hc' (by omega) hn.2 hC).mono fun e w' he => ⟨he.1,bn,cn,its,he.2.next,hm,fun k hk => by
    have : c = k := by omega
    subst this
    exact he.2⟩)
end Go.Proofs.Ytnjccbnlmdajkaa
