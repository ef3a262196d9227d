/- Step of an orphan: what it does with a fabric. -/
import Derived.Test.YtnjccbnlmdajkaaDelW
import Derived.Test.YtnjccbnlmdajkaaFbS4
import Derived.Test.YtnjccbnlmdajkaaSorW
import Derived.Test.YtnjccbnlmdajkaaVld
set_option linter.all false
namespace Go.Proofs.Ytnjccbnlmdajkaa
open Go.RowKit Go.Shelf Go.Lib Go.Ev
set_option maxRecDepth 100000
variable {w0 W : World} {μ : Mu} {I : Ky → Option ItemO} {t fb : Nat} {s : FbC}
theorem FSt.from {μ' : Mu} {J : Ky → Option ItemO} {a : FbA} (h : FSt t w0 μ' J fb a W) (hm : MuLe μ μ') (hf : ∀ k : Ky,k.1 ≠ t → J k = I k) : FSt t w0 μ I fb a W := by
 obtain ⟨μ2,I2,s2,h1,h2,h3,h4,h5⟩ := h
 exact ⟨μ2,I2,s2,hm.trans h1,h2,h3,h4,fun k hk => (h5 k hk).trans (hf k hk)⟩
end Go.Proofs.Ytnjccbnlmdajkaa
namespace Go.Proofs.Ytnjccbnlmdajkaa
open Go.RowKit Go.Shelf Go.Lib Go.Ev
set_option maxRecDepth 100000
variable {w0 W : World} {μ : Mu} {I : Ky → Option ItemO} {t fb : Nat} {s : FbC}
abbrev cl0 : ClC := ⟨false,0,.slice none 0 0,[],.slice none 0 0,[],0,0,0⟩
theorem inf74 : (Try.prog.info? 74).map (fun i => (i.zero,i.size,i.bytes)) = some (some (.agg #[.bool false,.int .i64 0,.slice none 0 0,.slice none 0 0,.int .i64 0,.int .i64 0,.int .i64 0]),7,88) := by kernel_rfl
theorem und58 : Try.prog.underlying 58 = some (.slice 74) := by kernel_rfl
theorem und59 : Try.prog.underlying 59 = some (.slice 28) := by kernel_rfl
theorem inf28 : (Try.prog.info? 28).map (fun i => (i.zero,i.size,i.bytes)) = some (some (.pointer none),1,8) := by kernel_rfl
theorem f31_at : Try.prog.funcs[31]? = some Try.f31 := by kernel_rfl
theorem rowD_cl (m : Nat) : RowD μ 7 ((List.replicate m cl0).map ClC.row) (madeCells (Value.agg #[.bool false,.int .i64 0,.slice none 0 0,.slice none 0 0,.int .i64 0,.int .i64 0,.int .i64 0]).cells (m * 7)) := by
 refine ⟨fun e he => ?_,fun k e j u he hu => ?_⟩
 ·obtain ⟨d,hd,rfl⟩ := List.mem_map.1 he
  rfl
 ·rw [List.getElem?_map,List.getElem?_replicate] at he
  by_cases hk : k < m
  ·rw [if_pos hk] at he
   cases he
   have hj : j < 7 := lt_of hu
   have hm : (k * 7 + j) % (Value.agg #[.bool false,.int .i64 0,.slice none 0 0,.slice none 0 0,.int .i64 0,.int .i64 0,.int .i64 0]).cells.size = j := by
    show (k * 7 + j) % 7 = j
    omega
   rw [made_get _ _ _ (by omega),hm]
   match j,hj with
   | 0,_ => cases hu; exact ⟨_,rfl,.v rfl⟩
   | 1,_ => cases hu; exact ⟨_,rfl,.v rfl⟩
   | 2,_ => cases hu; exact ⟨_,rfl,.v rfl⟩
   | 3,_ => cases hu; exact ⟨_,rfl,.v rfl⟩
   | 4,_ => cases hu; exact ⟨_,rfl,.v rfl⟩
   | 5,_ => cases hu; exact ⟨_,rfl,.v rfl⟩
   | 6,_ => cases hu; exact ⟨_,rfl,.v rfl⟩
  ·rw [if_neg hk] at he; cases he
abbrev nd0 (lines : Int) : NdA := ⟨List.replicate (8 * lines.toNat) 0,false⟩
theorem nd0_flat (lines : Int) : flatO (.ob 69 (ndC (nd0 lines))) = true := by
 show (flatC (.ow false 47 1 ((List.replicate (8 * lines.toNat) (0 : Int)).map wr)) && true) = true
 rw [Bool.and_true]
 show ((List.replicate (8 * lines.toNat) (0 : Int)).map wr).all (fun e => e.all flatV) = true
 rw [List.all_eq_true]
 intro e he
 obtain ⟨x,_,rfl⟩ := List.mem_map.1 he
 rfl
def NwSt (t : Nat) (w0 : World) (μ : Mu) (I : Ky → Option ItemO) (fb bc clients : Nat) (lines : Int) (i : Nat) (W : World) : Prop :=
 ∃ (I' : Ky → Option ItemO) (nv : Value) (nd : List NdC),Kst w0 μ I' W∧FbR t I' fb ⟨lines,nv,nd,.slice (some ⟨bc,0,none⟩) clients clients,List.replicate clients cl0,.slice none 0 0,[]⟩∧nd.map NdC.a = List.replicate i (nd0 lines)∧∀ k : Ky,k.1 ≠ t → I' k = I k
theorem nw_rnd {bc clients i : Nat} {lines : Int} (hl : 1 ≤ lines∧lines ≤ 256) (hi : i < 5) (hJ : NwSt t w0 μ I fb bc clients lines i W) : Calls Try.prog 31 #[.int .i64 lines] W (NwPost fb (NwSt t w0 μ I fb bc clients lines (i + 1))) := by
 obtain ⟨I1,nv,nd,hK,hR,ha,hfr⟩ := hJ
 have hll : nd.length = i := by rw [← List.length_map (f := NdC.a),ha,List.length_replicate]
 obtain ⟨F0,hfab⟩ := hR.fab
 refine (hK.mkOb mix extOk (t,.nod i) (cs := ndC (nd0 lines)) (xs := [.int .i64 0]) (s_New lines hl) (nd0_flat lines) f31_at (vals := [.int .i64 lines]) (b2s_vals [.int .i64 lines] fun v hv => by
  simp only [List.mem_cons,List.not_mem_nil,or_false] at hv
  subst hv; rfl)).mono fun e w' he => ?_
 obtain ⟨pb,F,rfl,hK2,_,_⟩ := he
 have hns : Row (put I1 (t,.nod i) (some (obI pb F 69 (ndC (nd0 lines))))) (t,.nds) nv 28 1 (nd.map NdC.row) := hR.nds.put (key_ne fun e => by cases e)
 have hfab2 := put_get (k := (t,.nod i)) (x := some (obI pb F 69 (ndC (nd0 lines)))) hfab (key_ne fun e => by cases e)
 have hKe := hK2.kept0 (KeptW.alloc w' (.cells #[.pointer (some ⟨pb,0,none⟩)] 28))
 obtain ⟨I28,hI,hIz,hIs,hIb⟩ := info_parts inf28
 obtain ⟨b',c',W4,hrun,hK4,_,_⟩ := hKe.rapp (P := Try.prog) (es := NdC.row ⟨pb,nd0 lines⟩) hns und59 hI hIz hIs (by omega) (by omega) rfl (by rw [List.length_map]; omega) (Ev.alloc_new w' _) rfl (fun v hv => by simp at hv; subst hv; rfl) rfl fun jj u v hu hv => by
  cases jj with
  | zero => cases hu; cases hv; exact .v rfl
  | succ j => simp [NdC.row] at hu
 obtain ⟨LA,lc,env,_⟩ := hns.val
 rw [List.length_map] at env hrun
 rw [env] at hrun
 have c2 := hK2.cell hfab2 (j := 1) rfl
 rw [env] at c2
 have hfab4 := put_get (k := (t,.nds)) (x := some (rowI b' c' 28 1 (nd.map NdC.row ++ [NdC.row ⟨pb,nd0 lines⟩]))) hfab2 (key_ne fun e => by cases e)
 obtain ⟨F5,_,hK5⟩ := hK4.set hfab4 1 (a := .v (.slice (some ⟨b',0,none⟩) (nd.length + 1) c')) (v := .slice (some ⟨b',0,none⟩) (nd.length + 1) c') (.v rfl)
 refine ⟨pb,LA,nd.length,lc,b',c',W4,rfl,c2,fun ty => hrun ty,hK4.frozen hfab4 1,⟨_,hK4.cell hfab4 (j := 1) rfl⟩,_,.slice (some ⟨b',0,none⟩) (nd.length + 1) c',nd ++ [⟨pb,nd0 lines⟩],hK5,⟨⟨F5,by rw [put_same]; rfl⟩,?_,fun j n hn => ?_,?_,fun c x hx => ?_,.inl ⟨rfl,rfl⟩,fun k o ho => by simp at ho⟩,?_,put_frame (put_frame (put_frame hfr))⟩
 ·refine .inr ⟨b',c',?_,put_get ?_ (key_ne fun e => by cases e)⟩
  ·show Value.slice _ (nd.length + 1) c' = Value.slice _ ((nd ++ [_]).map NdC.row).length c'
   rw [List.length_map,List.length_append]; rfl
  ·rw [put_same,List.map_append]; rfl
 ·rw [put_ne _ _ (key_ne fun e => by cases e),put_ne _ _ (key_ne fun e => by cases e)]
  rcases app1_cases hn with hn | ⟨rfl,rfl⟩
  ·have := lt_of hn
   rw [put_ne _ _ (key_ne fun e => by cases e; omega)]
   exact hR.nod j n hn
  ·rw [hll]; exact ⟨F,put_same _ _ _⟩
 ·exact hR.cls.same (by rw [put_ne _ _ (key_ne fun e => by cases e),put_ne _ _ (key_ne fun e => by cases e),put_ne _ _ (key_ne fun e => by cases e)])
 ·exact (hR.cl c x hx).of fun k hk => by
   rw [put_ne _ _ (key_ne fun e => by subst e; simp [FK.ofC] at hk),put_ne _ _ (key_ne fun e => by subst e; simp [FK.ofC] at hk),put_ne _ _ (key_ne fun e => by subst e; simp [FK.ofC] at hk)]
 ·rw [List.map_append,ha,List.replicate_succ']; rfl
end Go.Proofs.Ytnjccbnlmdajkaa
namespace Go.Proofs.Ytnjccbnlmdajkaa
open Go.RowKit Go.Shelf Go.Lib Go.Ev
set_option maxRecDepth 100000
variable {w0 W : World} {μ : Mu} {I : Ky → Option ItemO} {t fb : Nat} {s : FbC}
def clUp (c nodes : Nat) : ClA := ⟨true,1,lnNew c 1 nodes,[],0,0,0⟩
def clsUp (clients nodes c : Nat) : List ClA := (List.range clients).map fun (d : Nat) => if d < c then clUp d nodes else cl0.a
theorem clsUp_get {clients nodes c d : Nat} (h : d < clients) : (clsUp clients nodes c)[d]? = some (if d < c then clUp d nodes else cl0.a) := by
 unfold clsUp
 rw [List.getElem?_map,List.getElem?_range h]; rfl
theorem clsUp_len {clients nodes c : Nat} : (clsUp clients nodes c).length = clients := by simp [clsUp]
theorem clsUp_succ {clients nodes c : Nat} (h : c < clients) : (clsUp clients nodes c).set c (clUp c nodes) = clsUp clients nodes (c + 1) := List.ext_getElem? fun d => by
 rw [List.getElem?_set]
 by_cases hd : d < clients
 ·rw [clsUp_get hd,clsUp_get hd]
  by_cases e : c = d
  ·subst e; rw [if_pos rfl,if_pos (by rw [clsUp_len]; exact h),if_pos (by omega)]
  ·rw [if_neg e]
   by_cases h2 : d < c
   ·rw [if_pos h2,if_pos (by omega)]
   ·rw [if_neg h2,if_neg (by omega)]
 ·rw [if_neg (by omega),List.getElem?_eq_none (by rw [clsUp_len]; omega),List.getElem?_eq_none (by rw [clsUp_len]; omega)]
def newA (nodes clients : Nat) (lines : Int) (c : Nat) : FbA := ⟨lines,List.replicate nodes (nd0 lines),clsUp clients nodes c,[]⟩
theorem new_okF (t : Nat) (hK : Kst w0 μ I W) (nodes clients : Nat) (lines : Int) (hn : 1 ≤ nodes∧nodes ≤ 5) (hc : 1 ≤ clients∧clients ≤ 6) (hl : 1 ≤ lines∧lines ≤ 256) :
  Calls Try.prog 7 #[.int .i64 nodes,.int .i64 clients,.int .i64 lines] W fun e w' => ∃ fb : Nat,e = .returned (.tuple #[ptr fb,.int .i64 0])∧FSt t w0 μ I fb (newA nodes clients lines clients) w' := by
 obtain ⟨I74,hI,hIz,hIs,hIb⟩ := info_parts inf74
 have hmk := run_makeSlice (P := Try.prog) (w := W) 58 74 I74 _ und58 hI hIz .i64 .i64 clients clients (by omega) (by omega) (by rw [hIs]; omega) (by rw [hIb]; omega) (by omega)
 rw [hIs,Int.toNat_natCast] at hmk
 have hK1 := hK.allocR (t,.cls) (T := 74) (c := clients) (sz := 7) (xs := (List.replicate clients cl0).map ClC.row) (size_madeCells _ (clients * 7)) (by rw [List.length_map,List.length_replicate]; exact Nat.le_refl _) (rowD_cl clients)
 obtain ⟨W1,hW1⟩ : ∃ W1,W.alloc (.cells (madeCells (Value.agg #[.bool false,.int .i64 0,.slice none 0 0,.slice none 0 0,.int .i64 0,.int .i64 0,.int .i64 0]).cells (clients * 7)) 74 (0,0)) = W1 := ⟨_,rfl⟩
 rw [hW1] at hK1
 have hs1 : W1.heap.size = W.heap.size + 1 := by rw [← hW1]; exact Array.size_push ..
 have hK2 := hK1.alloc (t,.fab) (cs := [.v (.int .i64 lines),.v (.slice none 0 0),.v (.slice (some ⟨W.heap.size,0,none⟩) clients clients),.v (.slice none 0 0)]) (cur := #[.int .i64 lines,.slice none 0 0,.slice (some ⟨W.heap.size,0,none⟩) clients clients,.slice none 0 0]) (ty := 62)
  (b0s_vals [.int .i64 lines,.slice none 0 0,.slice (some ⟨W.heap.size,0,none⟩) clients clients,.slice none 0 0] fun v hv => by
   simp only [List.mem_cons,List.not_mem_nil,or_false] at hv
   rcases hv with rfl | rfl | rfl | rfl <;> rfl)
 rw [hs1] at hK2
 refine (new_walk nodes clients lines W (NwSt t w0 μ I (W.heap.size + 1) W.heap.size clients lines) (fun c W' => FSt t w0 μ I (W.heap.size + 1) (newA nodes clients lines c) W') hn hc hl _ hmk ?_ ?_ ?_ ?_).mono fun e w' he => ⟨_,he.1,he.2⟩
 ·rw [show (W.alloc (.cells (madeCells (Value.agg #[.bool false,.int .i64 0,.slice none 0 0,.slice none 0 0,.int .i64 0,.int .i64 0,.int .i64 0]).cells (clients * 7)) 74)) = W1 from hW1]
  refine ⟨_,.slice none 0 0,[],hK2,⟨⟨_,put_same _ _ _⟩,.inl ⟨rfl,rfl⟩,fun j n hn => by simp at hn,?_,fun c x hx => ?_,.inl ⟨rfl,rfl⟩,fun k o ho => by simp at ho⟩,rfl,put_frame (put_frame fun _ _ => rfl)⟩
  ·refine .inr ⟨W.heap.size,clients,?_,put_get (put_same _ _ _) (key_ne fun e => by cases e)⟩
   rw [List.length_map]
   show _ = Value.slice _ (List.replicate clients cl0).length clients
   rw [List.length_replicate]
  ·have : x = cl0 := by
    rw [List.getElem?_replicate] at hx
    split at hx
    ·exact (Option.some.inj hx).symm
    ·cases hx
   subst this
   exact ⟨.inl ⟨rfl,rfl⟩,.inl ⟨rfl,rfl⟩,fun _ => rfl,fun i l hl => by simp at hl,fun i l hl => by simp at hl⟩
 ·intro i W' hi hJ
  exact nw_rnd hl (by omega) hJ
 ·rintro W' ⟨I',nv,nd,hK',hR',ha,hfr⟩
  refine ⟨⟨μ,I',_,MuLe.refl _,hK',hR',?_,hfr⟩,hR'.c2 hK'⟩
  unfold FbC.a newA clsUp
  simp only [ha,List.map_nil]
  congr 1
  refine List.ext_getElem? fun d => ?_
  rw [List.getElem?_map,List.getElem?_replicate,List.getElem?_map]
  by_cases hd : d < clients
  ·rw [if_pos hd,List.getElem?_range hd]; simp
  ·rw [if_neg hd,List.getElem?_eq_none (by simpa using hd)]; rfl
 ·rintro c W' hcl ⟨μ',I',s',hm,hK',hR',ha,hfr⟩
  have hcl' : s'.a.cl[c]? = some cl0.a := by rw [ha]; show (clsUp clients nodes c)[c]? = _; rw [clsUp_get hcl,if_neg (by omega)]
  have hx : (s'.cl.map ClC.a)[c]? = some cl0.a := hcl'
  rw [List.getElem?_map] at hx
  cases hxc : s'.cl[c]? with
  | none => rw [hxc] at hx; cases hx
  | some x =>
   rw [hxc] at hx
   have hxa : x.a = cl0.a := Option.some.inj hx
   have hnd : s'.nd.length = nodes := by
    have : (s'.nd.map NdC.a).length = nodes := by rw [show s'.nd.map NdC.a = s'.a.nd from rfl,ha]; exact List.length_replicate ..
    rwa [List.length_map] at this
   refine (connect_ok hK' hR' hxc (by omega) (by omega) (by omega)).mono fun e w' he => ⟨he.1,?_⟩
   have := he.2.from hm hfr
   rw [ha,hxa,hnd] at this
   have e : ({ newA nodes clients lines c with cl := (newA nodes clients lines c).cl.set c { cl0.a with al := true,inc := 1,ln := lnNew c 1 nodes } } : FbA) = newA nodes clients lines (c + 1) := by
    show (⟨lines,List.replicate nodes (nd0 lines),(clsUp clients nodes c).set c (clUp c nodes),[]⟩ : FbA) = _
    rw [clsUp_succ hcl]; rfl
   rw [e] at this
   exact this
end Go.Proofs.Ytnjccbnlmdajkaa
namespace Go.Proofs.Ytnjccbnlmdajkaa
open Go.RowKit Go.Shelf Go.Lib Go.Ev
def Vb.np (v : Vb) : Nat := (pcs v.at_ v.cnt).length
structure Pr.Inv (p : Pr) : Prop where
 c : 0 ≤ p.c∧p.c ≤ 1000
 inc : 0 ≤ p.inc∧p.inc ≤ 1000
 qn : p.q ≠ [] → p.qn = false
 ql : p.q.length ≤ 1024
 ex0 : 0 ≤ p.ex
 w : p.w.length ≤ 9 * p.ex.toNat
 vs : ∀ v ∈ p.q,1 ≤ v.cnt∧v.cnt ≤ 1024∧v.Wf
 ex : ∀ v r,p.q = v :: r → p.ex.toNat < v.np
 z : p.q = [] → p.ex = 0
theorem np_pos {v : Vb} (h : 1 ≤ v.cnt) : 1 ≤ v.np := by
 unfold Vb.np
 rw [pcs_pos (by omega)]
 simp
theorem np_le {v : Vb} (h : v.cnt ≤ 1024) : v.np ≤ 1024 := by
 have := pcs_len v.at_ v.cnt
 unfold Vb.np; omega
theorem Pr.Inv.ok {p : Pr} (h : p.Inv) : p.Ok := by
 refine ⟨h.c,h.inc,h.qn,h.ql,?_,h.ex0,fun v r hq _ => h.ex v r hq⟩
 have hw := h.w
 cases hq : p.q with
 | nil => rw [h.z hq] at hw; simp at hw; rw [hw]; simp
 | cons v r =>
  have h1 := h.ex v r hq
  have h2 := np_le (h.vs v (by rw [hq]; simp)).2.1
  omega
def Pr.left (p : Pr) : Nat := (p.q.map Vb.np).sum - p.ex.toNat
theorem Pr.Inv.left_pos {p : Pr} (h : p.Inv) (hq : p.q ≠ []) : 0 < p.left := by
 cases e : p.q with
 | nil => exact absurd e hq
 | cons v r =>
  have := h.ex v r e
  unfold Pr.left
  rw [e,List.map_cons,List.sum_cons]
  omega
theorem Pr.Inv.pop {p : Pr} (h : p.Inv) (hq : p.q ≠ []) : p.pop.Inv∧p.pop.left < p.left := by
 cases e : p.q with
 | nil => exact absurd e hq
 | cons v r =>
  have h1 := h.ex v r e
  have hl := h.ql
  rw [e] at hl
  have hvs : ∀ u ∈ r,1 ≤ u.cnt∧u.cnt ≤ 1024∧u.Wf := fun u hu => h.vs u (by rw [e]; exact List.mem_cons_of_mem _ hu)
  have ep : p.pop.q = r := by unfold Pr.pop; rw [e]; rfl
  refine ⟨⟨h.c,h.inc,fun _ => h.qn hq,?_,Int.le_refl _,Nat.zero_le _,?_,fun u r' hu => ?_,fun _ => rfl⟩,?_⟩
  ·rw [ep]; simp at hl; omega
  ·rw [ep]; exact hvs
  ·rw [ep] at hu
   show (0 : Int).toNat < u.np
   have := np_pos (hvs u (by rw [hu]; simp)).1
   have : (0 : Int).toNat = 0 := rfl
   omega
  ·unfold Pr.left
   rw [ep,e,List.map_cons,List.sum_cons]
   show (r.map Vb.np).sum - (0 : Int).toNat < _
   simp only [Int.toNat_zero]
   omega
theorem Pr.Inv.step {p : Pr} (h : p.Inv) (hq : p.q ≠ []) (n : NdA) : (p.step n).2.2.1.Inv∧(p.step n).2.2.1.left < p.left∧(p.step n).2.2.2.ws.length = n.ws.length∧(p.step n).2.2.1.node = p.node∧(p.step n).2.2.1.c = p.c ∧
  ((p.step n).2.1 = true → (p.step n).2.2.1.q = p.q.tail)∧((p.step n).2.1 = false → (p.step n).2.2.1.q = p.q) := by
 obtain ⟨hpI,hpl⟩ := h.pop hq
 cases e : p.q with
 | nil => exact absurd e hq
 | cons v r =>
  by_cases hr : refu p.c p.inc v n.ws n.dn = 0
  ·obtain ⟨_,hg⟩ := refu_zero hr
   have hlt := h.ex v r e
   unfold Vb.np at hlt
   have hx : (pcs v.at_ v.cnt).getD p.ex.toNat (0,0) ∈ pcs v.at_ v.cnt := mem_getD _ _ _ hlt
   have hf := hg.fits hx
   have hml := Vb.mem_len hf
   have hol := @Vb.out_len v ((pcs v.at_ v.cnt).getD p.ex.toNat (0,0)) n.ws
   have hle := hf.le
   have hw := h.w
   have h0 := h.ex0
   by_cases hl : p.ex.toNat + 1 < (pcs v.at_ v.cnt).length
   ·have e2 : p.step n = (⟨0,true,[]⟩,false,{ p with ex := p.ex + 1,wn := (v.out ((pcs v.at_ v.cnt).getD p.ex.toNat (0,0)) n.ws).isEmpty && p.wn,w := p.w ++ v.out ((pcs v.at_ v.cnt).getD p.ex.toNat (0,0)) n.ws },⟨v.mem ((pcs v.at_ v.cnt).getD p.ex.toNat (0,0)) n.ws,n.dn⟩) := by
     unfold Pr.step; rw [e]; simp only [hr,ne_eq,not_true_eq_false,if_false,if_pos hl]
    rw [e2]
    refine ⟨⟨h.c,h.inc,fun _ => h.qn hq,h.ql,by show 0 ≤ p.ex + 1; omega,?_,h.vs,fun u r' hu => ?_,fun hz => absurd hz hq⟩,?_,hml,rfl,rfl,(fun h => by cases h),fun _ => e⟩
    ·show (p.w ++ _).length ≤ 9 * (p.ex + 1).toNat
     rw [List.length_append]; omega
    ·have hu : p.q = u :: r' := hu
     rw [e] at hu
     cases hu
     show (p.ex + 1).toNat < (pcs v.at_ v.cnt).length
     omega
    ·unfold Pr.left
     show (p.q.map Vb.np).sum - (p.ex + 1).toNat < (p.q.map Vb.np).sum - p.ex.toNat
     rw [e,List.map_cons,List.sum_cons]
     unfold Vb.np
     omega
   ·have e2 : p.step n = (⟨0,(v.out ((pcs v.at_ v.cnt).getD p.ex.toNat (0,0)) n.ws).isEmpty && p.wn,p.w ++ v.out ((pcs v.at_ v.cnt).getD p.ex.toNat (0,0)) n.ws⟩,true,p.pop,⟨v.mem ((pcs v.at_ v.cnt).getD p.ex.toNat (0,0)) n.ws,n.dn⟩) := by
     unfold Pr.step; rw [e]; simp only [hr,ne_eq,not_true_eq_false,if_false,if_neg hl]
    rw [e2]
    exact ⟨hpI,hpl,hml,rfl,rfl,(fun _ => by unfold Pr.pop; rw [e]),fun h => by cases h⟩
  ·have e2 : p.step n = (⟨refu p.c p.inc v n.ws n.dn,true,[]⟩,true,p.pop,n) := by
    unfold Pr.step; rw [e]; simp only [ne_eq,hr,not_false_eq_true,if_true]
   rw [e2]
   exact ⟨hpI,hpl,rfl,rfl,rfl,(fun _ => by unfold Pr.pop; rw [e]),fun h => by cases h⟩
end Go.Proofs.Ytnjccbnlmdajkaa
namespace Go.Proofs.Ytnjccbnlmdajkaa
open Go.RowKit Go.Shelf Go.Lib Go.Ev
set_option maxRecDepth 100000
variable {w0 W : World} {μ : Mu} {I : Ky → Option ItemO} {t fb : Nat} {s : FbC}
theorem lnPost_len (lines : Int) (ln : List LnA) (i : Nat) (v : Vb) : (lnPost lines ln i v).length = ln.length := by
 unfold lnPost
 split
 ·rw [List.length_set]
 ·rfl
theorem lnPosts_len (lines : Int) (vs : List Vb) (ln : List LnA) : ∀ i,(lnPosts lines vs ln i).length = ln.length
 | 0 => rfl
 | i + 1 => by
  unfold lnPosts
  split
  ·rw [lnPost_len,lnPosts_len lines vs ln i]
  ·exact lnPosts_len lines vs ln i
theorem post_qlen (p : Pr) (v : Vb) (lines : Int) : (p.post v lines).q.length ≤ p.q.length + 1 := by
 unfold Pr.post
 split
 ·simp
 ·omega
theorem lnPosts_bound (lines : Int) (vs : List Vb) (ln : List LnA) (B : Nat) (h : ∀ l ∈ ln,l.p.q.length ≤ B∧l.pl.length ≤ B) : ∀ i,∀ l ∈ lnPosts lines vs ln i,l.p.q.length ≤ B + i∧l.pl.length ≤ B + i
 | 0 => h
 | i + 1 => fun l hl => by
  have ih := lnPosts_bound lines vs ln B h i
  unfold lnPosts at hl
  split at hl
  ·rename_i v _
   unfold lnPost at hl
   split at hl
   ·rename_i l0 h0
    obtain ⟨g1,g2⟩ := ih l0 (List.mem_of_getElem? h0)
    rcases List.mem_or_eq_of_mem_set hl with hl | rfl
    ·have := ih l hl; omega
    ·have := post_qlen l0.p v lines
     refine ⟨by show (l0.p.post v lines).q.length ≤ _; omega,?_⟩
     show (l0.pl ++ [(i : Int)]).length ≤ _
     rw [List.length_append]
     show l0.pl.length + 1 ≤ _
     omega
   ·have := ih l hl; omega
  ·have := ih l hl; omega
theorem post_ok (hK : Kst w0 μ I W) (hR : FbR t I fb s) {c : Nat} {x : ClC} (hc : s.cl[c]? = some x) (hal : x.al = true) (hba : x.ba = []) {n : Bool} {vs : List Vb} {v : Value} (hd : DR μ (.lst n 9 (vs.map Vb.row)) v) (hm : 1 ≤ vs.length∧vs.length ≤ 1024)
  (hg : ∀ u ∈ vs,u.Wf∧u.badN s.nd.length s.lines = 0) (hn5 : 1 ≤ s.nd.length∧s.nd.length ≤ 5) (hnl : x.ln.length = s.nd.length) (hq : ∀ l ∈ x.ln,l.a.p.q.length + vs.length ≤ 1024∧l.a.pl.length + vs.length ≤ 1024) :
  Calls Try.prog 18 #[ptr fb,.int .i64 c,v] W fun e w' => e = .returned (.int .i64 0)∧FSt t w0 μ I fb { s.a with cl := s.a.cl.set c (x.a.post s.lines vs) } w' := by
 have hv0 : vs ≠ [] := fun e => by rw [e] at hm; simp at hm
 obtain ⟨vb,vo,vc,rfl,_⟩ := dr_cells (W := W) hd hK.imm (by omega) (by simpa using hv0)
 rw [List.length_map] at hd ⊢
 obtain ⟨bc,cc,hcv,hIc,hAt⟩ := hR.clsAt hK hc
 obtain ⟨n0,hn0⟩ : ∃ n0,s.nd[0]? = some n0 := ⟨_,List.getElem?_eq_getElem (by omega)⟩
 obtain ⟨bn,cn,hnv,_,_⟩ := hR.ndAt hK hn0
 have h2 := hR.c2 hK
 rw [hcv] at h2
 have hbv := hAt.bv
 rw [(hR.cl c x hc).bn hba] at hbv
 have hal' := hAt.al
 rw [hal] at hal'
 obtain ⟨B,hB⟩ : ∃ B,B + vs.length = 1024 := ⟨1024 - vs.length,by omega⟩
 have hbnd := lnPosts_bound s.lines vs (x.ln.map LnC.a) B (fun l hl => by
  obtain ⟨l',hl',rfl⟩ := List.mem_map.1 hl
  have := hq l' hl'
  omega)
 refine post_walk fb bc c s.cl.length bn s.nd.length cn vb vo vs.length vc s.lines W (fun _ W' => Kst w0 μ I W') (fun i W' => LnSt t w0 μ I fb s c x (lnPosts s.lines vs (x.ln.map LnC.a) i) W') (FSt t w0 μ I fb { s.a with cl := s.a.cl.set c (x.a.post s.lines vs) })
  (lt_of hc) hm h2 hal' hbv hK ?_ ?_ ⟨?_,?_⟩
 ·intro i W' hi hK'
  obtain ⟨u,hu⟩ : ∃ u,vs[i]? = some u := ⟨_,List.getElem?_eq_getElem hi⟩
  obtain ⟨A,al,ac,hV,hdw⟩ := verb_at hK' hd hu
  obtain ⟨hw,hgu⟩ := hg u (List.mem_of_getElem? hu)
  have hKa := (hK'.kept0 (KeptW.alloc W' (.cells (vCells u.kind u.node u.at_ u.n u.old u.new A al ac u.key u.boot) 50))).drew
  have hnew : ∀ j v,(vCells u.kind u.node u.at_ u.n u.old u.new A al ac u.key u.boot)[j]? = some v → (W'.alloc (.cells (vCells u.kind u.node u.at_ u.n u.old u.new A al ac u.key u.boot) 50)).drew.cell? ⟨W'.heap.size,j,none⟩ = some v := fun j v hj => cell_of (Ev.alloc_new W' _) hj
  have g1 := hR.c1 hKa
  rw [hnv] at g1
  have hS : S13 fb bn s.nd.length cn s.lines (W'.alloc (.cells (vCells u.kind u.node u.at_ u.n u.old u.new A al ac u.key u.boot) 50)).drew W'.heap.size u.kind u.node u.at_ u.n u.old u.new A al ac u.key u.boot :=
   ⟨hnew 0 _ rfl,hnew 1 _ rfl,hnew 2 _ rfl,hnew 3 _ rfl,hnew 4 _ rfl,hnew 5 _ rfl,hnew 6 _ rfl,hnew 7 _ rfl,hnew 8 _ rfl,hR.c0 hKa,g1⟩
  refine ⟨u.kind,u.node,u.at_,u.n,u.old,u.new,A,al,ac,u.key,u.boot,hV,hS,?_⟩
  refine (valid_call hKa hdw s.nd.length s.lines (by omega)).mono fun e w' he => ?_
  obtain ⟨rfl,hKb,hk⟩ := he
  rw [hgu]
  obtain ⟨s0,s1,s2,s3,s4,s5,s6,s7,s8,s9,s10⟩ := hS
  exact ⟨rfl,hKb,hk.cell s0 List.not_mem_nil,hk.cell s1 List.not_mem_nil,hk.cell s2 List.not_mem_nil,hk.cell s3 List.not_mem_nil,hk.cell s4 List.not_mem_nil,hk.cell s5 List.not_mem_nil,hk.cell s6 List.not_mem_nil,hk.cell s7 List.not_mem_nil,hk.cell s8 List.not_mem_nil,hk.cell s9 List.not_mem_nil,hk.cell s10 List.not_mem_nil⟩
 ·intro W' hK'
  refine ⟨μ,I,x.ln,MuLe.refl _,hK',?_,rfl,fun k _ => rfl⟩
  have : s.cl.set c { x with ln := x.ln } = s.cl := List.ext_getElem? fun j => by
   rw [List.getElem?_set]
   by_cases e : c = j
   ·subst e; rw [if_pos rfl,if_pos (lt_of hc),hc]
   ·rw [if_neg e]
  rw [this]; exact hR
 ·intro i W' hi hJ
  obtain ⟨u,hu⟩ : ∃ u,vs[i]? = some u := ⟨_,List.getElem?_eq_getElem hi⟩
  obtain ⟨hw,hgu⟩ := hg u (List.mem_of_getElem? hu)
  have e1 : lnPosts s.lines vs (x.ln.map LnC.a) (i + 1) = lnPost s.lines (lnPosts s.lines vs (x.ln.map LnC.a) i) i u := by
   rw [lnPosts,hu]
  rw [e1]
  exact post_rnd hd hu hw hgu hn5.2 hc hcv (by rw [lnPosts_len,List.length_map]; exact hnl) (fun l hl => by
   have := hbnd i l hl; omega) hJ
 ·intro W' hJ
  exact post_end hm hc hcv hJ
end Go.Proofs.Ytnjccbnlmdajkaa
