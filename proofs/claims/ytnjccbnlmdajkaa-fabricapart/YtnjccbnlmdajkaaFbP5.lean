/- Post with a verb that is not valid: what it does. -/
import Derived.Test.YtnjccbnlmdajkaaFbO
import Derived.Test.YtnjccbnlmdajkaaSmlX
import Derived.Test.YtnjccbnlmdajkaaVld
import Derived.Test.YtnjccbnlmdajkaaChsX
import Derived.Test.YtnjccbnlmdajkaaDelW
import Derived.Test.YtnjccbnlmdajkaaDeaW
import Derived.Test.YtnjccbnlmdajkaaEv13
set_option linter.all false
namespace Go.Proofs.Ytnjccbnlmdajkaa
open Go.RowKit Go.Shelf Go.Lib Go.Ev
set_option maxRecDepth 100000
variable {w0 W : World} {μ : Mu} {I : Ky → Option ItemO} {t fb : Nat} {s : FbC}
theorem post_bad (hK : Kst w0 μ I W) (hR : FbR t I fb s) {c : Nat} {x : ClC} (hc : s.cl[c]? = some x) (hal : x.al = true) (hba : x.ba = []) {n : Bool} {vs : List Vb} {v : Value} (hd : DR μ (.lst n 9 (vs.map Vb.row)) v) (hm : 1 ≤ vs.length∧vs.length ≤ 1024)
  (hn5 : 1 ≤ s.nd.length∧s.nd.length ≤ 5) {k : Nat} {uk : Vb} (hk : vs[k]? = some uk) (hg : ∀ i u,i < k → vs[i]? = some u → u.badN s.nd.length s.lines = 0) (hb : uk.badN s.nd.length s.lines ≠ 0) :
  Calls Try.prog 18 #[ptr fb,.int .i64 c,v] W fun e w' => e = .returned (.int .i64 (uk.badN s.nd.length s.lines))∧Kst w0 μ I w' := by
 have hv0 : vs ≠ [] := fun e => by rw [e] at hm; simp at hm
 obtain ⟨vb,vo,vc,rfl,_⟩ := dr_cells (W := W) hd hK.imm (by omega) (by simpa using hv0)
 rw [List.length_map] at hd ⊢
 obtain ⟨bc,cc,hcv,hIc,hAt⟩ := hR.clsAt hK hc
 obtain ⟨n0,hn0⟩ : ∃ n0,s.nd[0]? = some n0 := ⟨_,List.getElem?_eq_getElem (by omega)⟩
 obtain ⟨bn,cn,hnv,_,_⟩ := hR.ndAt hK hn0
 have h2 := hR.c2 hK
 rw [hcv] at h2
 have hbv := hAt.bv
 rw [(hR.cl c x hc).bn hba] at hbv
 have hal' := hAt.al
 rw [hal] at hal'
 refine post_inv fb bc c s.cl.length bn s.nd.length cn vb vo vs.length vc k s.lines (uk.badN s.nd.length s.lines) W (fun _ W' => Kst w0 μ I W') (fun W' => Kst w0 μ I W') (lt_of hc) hm (lt_of hk) hb h2 hal' hbv hK (fun i W' hi hK' => ?_) fun _ h => h
 obtain ⟨u,hu⟩ : ∃ u,vs[i]? = some u := ⟨_,List.getElem?_eq_getElem (by have := lt_of hk; omega)⟩
 obtain ⟨A,al,ac,hV,hdw⟩ := verb_at hK' hd hu
 have hKa := (hK'.kept0 (KeptW.alloc W' (.cells (vCells u.kind u.node u.at_ u.n u.old u.new A al ac u.key u.boot) 50))).drew
 have hnew : ∀ j v,(vCells u.kind u.node u.at_ u.n u.old u.new A al ac u.key u.boot)[j]? = some v → (W'.alloc (.cells (vCells u.kind u.node u.at_ u.n u.old u.new A al ac u.key u.boot) 50)).drew.cell? ⟨W'.heap.size,j,none⟩ = some v := fun j v hj => cell_of (Ev.alloc_new W' _) hj
 have g1 := hR.c1 hKa
 rw [hnv] at g1
 have hS : S13 fb bn s.nd.length cn s.lines (W'.alloc (.cells (vCells u.kind u.node u.at_ u.n u.old u.new A al ac u.key u.boot) 50)).drew W'.heap.size u.kind u.node u.at_ u.n u.old u.new A al ac u.key u.boot :=
  ⟨hnew 0 _ rfl,hnew 1 _ rfl,hnew 2 _ rfl,hnew 3 _ rfl,hnew 4 _ rfl,hnew 5 _ rfl,hnew 6 _ rfl,hnew 7 _ rfl,hnew 8 _ rfl,hR.c0 hKa,g1⟩
 refine ⟨u.kind,u.node,u.at_,u.n,u.old,u.new,A,al,ac,u.key,u.boot,hV,hS,?_⟩
 refine (valid_call hKa hdw s.nd.length s.lines (by omega)).mono fun e w' he => ?_
 obtain ⟨rfl,hKb,hk'⟩ := he
 obtain ⟨s0,s1,s2,s3,s4,s5,s6,s7,s8,s9,s10⟩ := hS
 refine ⟨_,rfl,fun h => hg i u h hu,fun h => ?_,hKb,hk'.cell s0 List.not_mem_nil,hk'.cell s1 List.not_mem_nil,hk'.cell s2 List.not_mem_nil,hk'.cell s3 List.not_mem_nil,hk'.cell s4 List.not_mem_nil,hk'.cell s5 List.not_mem_nil,hk'.cell s6 List.not_mem_nil,hk'.cell s7 List.not_mem_nil,hk'.cell s8 List.not_mem_nil,hk'.cell s9 List.not_mem_nil,hk'.cell s10 List.not_mem_nil⟩
 subst h
 rw [hk] at hu
 cases hu; rfl
end Go.Proofs.Ytnjccbnlmdajkaa
namespace Go.Proofs.Ytnjccbnlmdajkaa
open Go.RowKit Go.Shelf Go.Lib Go.Ev
set_option maxRecDepth 100000
variable {w0 W : World} {μ : Mu} {I : Ky → Option ItemO} {t fb : Nat} {s : FbC}
abbrev Ch := Int × Int × Int
def crow (x : Ch) : List AV := [.v (.int .i64 x.1),.v (.int .i64 x.2.1),.v (.int .i64 x.2.2)]
def chL (ln : List LnA) (c : Nat) : Nat → List Ch
 | 0 => []
 | j + 1 => chL ln c j ++ (match ln[j]? with | some l => if l.p.q = [] then [] else [(-1,(c : Int),(j : Int))] | none => [])
def chC (cl : List ClA) : Nat → List Ch
 | 0 => []
 | c + 1 => chC cl c ++ (match cl[c]? with | some x => chL x.ln c x.ln.length | none => [])
def chO (os : List Pr) : Nat → List Ch
 | 0 => []
 | k + 1 => chO os k ++ (match os[k]? with | some p => [((k : Int),p.c,p.node)] | none => [])
def FbA.chs (a : FbA) : List Ch := chC a.cl a.cl.length ++ chO a.os a.os.length
theorem chL_len (ln : List LnA) (c : Nat) : ∀ j,(chL ln c j).length ≤ j
 | 0 => Nat.le_refl _
 | j + 1 => by
  have := chL_len ln c j
  unfold chL
  rw [List.length_append]
  split
  ·split <;> simp <;> omega
  ·simp; omega
theorem chC_len {cl : List ClA} {B : Nat} (h : ∀ x ∈ cl,x.ln.length ≤ B) : ∀ c,(chC cl c).length ≤ c * B
 | 0 => by simp [chC]
 | c + 1 => by
  have := chC_len h c
  unfold chC
  rw [List.length_append,Nat.succ_mul]
  split
  ·rename_i x hx
   have h1 := h x (List.mem_of_getElem? hx)
   have h2 := chL_len x.ln c x.ln.length
   omega
  ·simp; omega
theorem chO_len (os : List Pr) : ∀ k,(chO os k).length ≤ k
 | 0 => Nat.le_refl _
 | k + 1 => by
  have := chO_len os k
  unfold chO
  rw [List.length_append]
  split <;> simp <;> omega
theorem und41 : Try.prog.underlying 41 = some (.slice 40) := by kernel_rfl
theorem inf40 : (Try.prog.info? 40).map (fun i => (i.zero,i.size,i.bytes)) = some (some (.agg #[.int .i64 0,.int .i64 0,.int .i64 0]),3,24) := by kernel_rfl
def ChsSt (t : Nat) (w0 : World) (μ : Mu) (I : Ky → Option ItemO) (xs : List Ch) (v : Value) (W : World) : Prop :=
 ∃ I' : Ky → Option ItemO,Kst w0 μ I' W∧Row I' (t,.tmp 9) v 40 3 (xs.map crow)∧∀ k,k ≠ (t,.tmp 9) → I' k = I k
theorem ChsSt.alloc {xs : List Ch} {v : Value} (h : ChsSt t w0 μ I xs v W) (o : Obj) : ChsSt t w0 μ I xs v (W.alloc o) := by
 obtain ⟨I',h1,h2,h3⟩ := h
 exact ⟨I',h1.kept0 (KeptW.alloc W o),h2,h3⟩
theorem chs_app {xs : List Ch} {v : Value} (h : ChsSt t w0 μ I xs v W) (hl : xs.length ≤ 90000) (x y z : Int) {J : Value → World → Prop} (hJ : ∀ v' W',ChsSt t w0 μ I (xs ++ [(x,y,z)]) v' W' → J v' W') : ChsApp x y z v W J := by
 obtain ⟨I',hK,hr,hf⟩ := h
 obtain ⟨I40,hI,hIz,hIs,hIb⟩ := info_parts inf40
 have hKa := hK.kept0 (KeptW.alloc W (.cells #[.int .i64 x,.int .i64 y,.int .i64 z] 40))
 obtain ⟨b',c',W2,hrun,hK2,_,_⟩ := hKa.rapp (P := Try.prog) (es := crow (x,y,z)) hr und41 hI hIz hIs (by omega) (by omega) rfl (by rw [List.length_map]; omega) (Ev.alloc_new W _) rfl (fun v hv => by
  simp only [List.mem_cons,List.not_mem_nil,or_false] at hv
  rcases hv with rfl | rfl | rfl <;> rfl) rfl fun jj u e hu he => by
  match jj with
  | 0 => cases hu; cases he; exact .v rfl
  | 1 => cases hu; cases he; exact .v rfl
  | 2 => cases hu; cases he; exact .v rfl
  | n + 3 => simp [crow] at hu
 obtain ⟨A,c,ev,_⟩ := hr.val
 rw [List.length_map] at ev hrun
 rw [ev] at hrun
 refine ⟨A,xs.length,c,b',c',W2,ev,fun ty => hrun ty,hJ _ _ ⟨_,hK2,.inr ⟨b',c',?_,?_⟩,fun k hk => ?_⟩⟩
 ·rw [List.length_map,List.length_append]; rfl
 ·rw [put_same,List.map_append]; rfl
 ·rw [put_ne _ _ hk]; exact hf k hk
theorem choices_ok (hK : Kst w0 μ I W) (hR : FbR t I fb s) (hcl : 0 < s.cl.length) (hb : s.cl.length ≤ 100∧(∀ x ∈ s.cl,x.ln.length ≤ 100)∧s.os.length ≤ 50000) :
  Calls Try.prog 21 #[ptr fb] W fun e w' => ∃ v,e = .returned v∧ChsSt t w0 μ I s.a.chs v w' := by
 obtain ⟨x0,hx0⟩ : ∃ x0,s.cl[0]? = some x0 := ⟨_,List.getElem?_eq_getElem hcl⟩
 obtain ⟨bc,cc,hcv,_,_⟩ := hR.clsAt hK hx0
 obtain ⟨OA,oc,hov⟩ := hR.ovl
 have h2 := hR.c2 hK
 rw [hcv] at h2
 obtain ⟨b1,b2,b3⟩ := hb
 have hst : ∀ {xs : List Ch} {v : Value} {W' : World},ChsSt t w0 μ I xs v W' → ∃ I',Kst w0 μ I' W'∧FbR t I' fb s := fun h => by
  obtain ⟨I',h1,_,h3⟩ := h
  exact ⟨I',h1,hR.of fun k hk => h3 _ (key_ne (hk 9))⟩
 have hlA : s.a.cl.length = s.cl.length := List.length_map ..
 have hBl : ∀ x ∈ s.a.cl,x.ln.length ≤ 100 := fun x hx => by
  obtain ⟨y,hy,rfl⟩ := List.mem_map.1 hx
  show (y.ln.map LnC.a).length ≤ 100
  rw [List.length_map]; exact b2 y hy
 refine choices_walk fb bc s.cl.length s.os.length oc OA W (fun i v W' => ChsSt t w0 μ I (chC s.a.cl i) v W') (fun i LA ll j v W' => ∃ x lc,s.cl[i]? = some x∧x.lv = .slice LA ll lc∧x.ln.length = ll∧ChsSt t w0 μ I (chC s.a.cl i ++ chL x.a.ln i j) v W')
  (fun k v W' => ChsSt t w0 μ I (chC s.a.cl s.cl.length ++ chO s.a.os k) v W') (fun v W' => ChsSt t w0 μ I s.a.chs v W') (by omega) (by omega) h2 ⟨I,hK,.inl ⟨rfl,rfl⟩,fun _ _ => rfl⟩ ⟨?_,?_,?_,?_,?_,?_⟩
 ·intro i v W' hi hJ
  obtain ⟨I',hK',hR'⟩ := hst hJ
  obtain ⟨x,hx⟩ : ∃ x,s.cl[i]? = some x := ⟨_,List.getElem?_eq_getElem hi⟩
  obtain ⟨bc',cc',e1,_,hAt⟩ := hR'.clsAt hK' hx
  rw [hcv] at e1
  injection e1 with g1 g2 g3
  injection g1 with g1
  injection g1 with g1
  subst g1 g3
  obtain ⟨LA,lc,hlv,_⟩ := (hR'.cl i x hx).ls.val
  obtain ⟨BA,bcp,hbv,_⟩ := (hR'.cl i x hx).bs.val
  rw [List.length_map] at hlv hbv
  obtain ⟨a0,a1,a2,a3,a4,a5,a6⟩ := hAt
  rw [hlv] at a2
  rw [hbv] at a3
  refine ⟨x.al,x.inc,LA,BA,x.ln.length,lc,x.ba.length,bcp,x.wt,x.tr,x.po,a0,a1,a2,a3,a4,a5,a6,_,rfl,cell_of (Ev.alloc_new W' _) rfl,x,lc,hx,hlv,rfl,?_⟩
  show ChsSt t w0 μ I (chC s.a.cl i ++ []) v _
  rw [List.append_nil]
  exact hJ.alloc _
 ·rintro i LA ll j v W' hj ⟨x,lc,hx,hlv,rfl,hJ⟩
  have hxl := b2 x (List.mem_of_getElem? hx)
  refine ⟨by omega,?_⟩
  obtain ⟨I',hK',hR'⟩ := hst hJ
  have hCl := hR'.cl i x hx
  obtain ⟨l,hl⟩ : ∃ l,x.ln[j]? = some l := ⟨_,List.getElem?_eq_getElem hj⟩
  obtain ⟨bl,ll,e2,_,d0,d1⟩ := hCl.lnAt hK' hl
  rw [hlv] at e2
  injection e2 with g1 g2 g3
  obtain ⟨PA,pc,hpv,_⟩ := (hCl.pls j l hl).val
  rw [hpv] at d1
  obtain ⟨VA,vc,hvv⟩ := hCl.prAt hK' hl
  have hla : x.a.ln[j]? = some l.a := get_map (f := LnC.a) hl
  have e : chL x.a.ln i (j + 1) = chL x.a.ln i j ++ (if l.a.p.q = [] then [] else [(-1,(i : Int),(j : Int))]) := by rw [chL,hla]
  refine ⟨bl,l.b,PA,VA,_,pc,l.a.p.q.length,vc,g1,d0,d1,_,rfl,cell_of (Ev.alloc_new W' _) rfl,alloc_cell hvv,fun h0 => ⟨x,lc,hx,hlv,rfl,?_⟩,fun h0 => ?_⟩
  ·rw [e,if_pos (List.eq_nil_of_length_eq_zero h0),List.append_nil]
   exact hJ.alloc _
  ·have q1 := chC_len hBl i
   have q2 := chL_len x.a.ln i j
   have hi := lt_of hx
   have q3 : i * 100 ≤ 100 * 100 := Nat.mul_le_mul_right _ (by omega)
   refine chs_app (hJ.alloc _) (by rw [List.length_append]; omega) _ _ _ fun v' W'' hC => ⟨x,lc,hx,hlv,rfl,?_⟩
   rw [e,if_neg (fun e => by rw [e] at h0; simp at h0),← List.append_assoc]
   exact hC
 ·rintro i LA ll v W' ⟨x,lc,hx,hlv,hll,hJ⟩
  have hxa : s.a.cl[i]? = some x.a := get_map (f := ClC.a) hx
  have e : chC s.a.cl (i + 1) = chC s.a.cl i ++ chL x.a.ln i x.a.ln.length := by rw [chC,hxa]
  rw [e,show x.a.ln.length = ll from (List.length_map ..).trans hll]
  exact hJ
 ·intro v W' hJ
  obtain ⟨I',hK',hR'⟩ := hst hJ
  have h3 := hR'.c3 hK'
  rw [hov] at h3
  refine ⟨h3,?_⟩
  show ChsSt t w0 μ I (chC s.a.cl s.cl.length ++ []) v W'
  rw [List.append_nil]
  exact hJ
 ·intro k v W' hk hJ
  obtain ⟨I',hK',hR'⟩ := hst hJ
  obtain ⟨o,ho⟩ : ∃ o,s.os[k]? = some o := ⟨_,List.getElem?_eq_getElem hk⟩
  obtain ⟨bo,co,e1,_,hp⟩ := hR'.orAt hK' ho
  rw [hov] at e1
  injection e1 with g1 g2 g3
  obtain ⟨F,hF⟩ := hR'.os k o ho
  have hoa : s.a.os[k]? = some o.p := get_map (f := OrC.p) ho
  have e : chO s.a.os (k + 1) = chO s.a.os k ++ [((k : Int),o.p.c,o.p.node)] := by rw [chO,hoa]
  refine ⟨bo,o.b,o.p.c,o.p.node,g1,hp,hK'.cell hF rfl,hK'.cell hF rfl,?_⟩
  have q1 := chC_len hBl s.cl.length
  have q2 := chO_len s.a.os k
  have q3 : s.cl.length * 100 ≤ 100 * 100 := Nat.mul_le_mul_right _ (by omega)
  refine chs_app hJ (by rw [List.length_append]; omega) _ _ _ fun v' W'' hC => ?_
  show ChsSt t w0 μ I (chC s.a.cl s.cl.length ++ chO s.a.os (k + 1)) v' W''
  rw [e,← List.append_assoc]
  exact hC
 ·intro v W' hJ
  unfold FbA.chs
  rw [hlA,show s.a.os.length = s.os.length from List.length_map ..]
  exact hJ
end Go.Proofs.Ytnjccbnlmdajkaa
namespace Go.Proofs.Ytnjccbnlmdajkaa
open Go.RowKit Go.Shelf Go.Lib Go.Ev
set_option maxRecDepth 100000
variable {w0 W : World} {μ : Mu} {I : Ky → Option ItemO} {t fb : Nat} {s : FbC}
end Go.Proofs.Ytnjccbnlmdajkaa
namespace Go.Proofs.Ytnjccbnlmdajkaa
open Go.RowKit Go.Shelf Go.Lib Go.Ev
set_option maxRecDepth 100000
variable {w0 W : World} {μ : Mu} {I : Ky → Option ItemO} {t fb : Nat} {s : FbC}
end Go.Proofs.Ytnjccbnlmdajkaa
namespace Go.Proofs.Ytnjccbnlmdajkaa
open Go.RowKit Go.Shelf Go.Lib Go.Ev
set_option maxRecDepth 100000
variable {w0 W : World} {μ : Mu} {I : Ky → Option ItemO} {t fb : Nat} {s : FbC}
end Go.Proofs.Ytnjccbnlmdajkaa
namespace Go.Proofs.Ytnjccbnlmdajkaa
open Go.RowKit Go.Shelf Go.Lib Go.Ev
set_option maxRecDepth 100000
variable {w0 W : World} {μ : Mu} {I : Ky → Option ItemO} {t fb : Nat} {a : FbA}
theorem FSt.kept0 {W' : World} (h : FSt t w0 μ I fb a W) (k : KeptW [] W W') : FSt t w0 μ I fb a W' := by
 obtain ⟨μ',I',s',hm,hK,hR,ha,hf⟩ := h
 exact ⟨μ',I',s',hm,hK.kept0 k,hR,ha,hf⟩
theorem map_get' {α β : Type} {f : α → β} {l : List α} {n : Nat} {y : β} (h : (l.map f)[n]? = some y) : ∃ x,l[n]? = some x∧f x = y := by
 rw [List.getElem?_map] at h
 cases e : l[n]? with
 | none => rw [e] at h; cases h
 | some x => rw [e] at h; exact ⟨x,rfl,Option.some.inj h⟩
theorem g_post (h : FSt t w0 μ I fb a W) {c : Nat} {x : ClA} (hc : a.cl[c]? = some x) (hal : x.al = true) (hba : x.ba = []) {n : Bool} {vs : List Vb} {v : Value} (hd : DR μ (.lst n 9 (vs.map Vb.row)) v) (hm : 1 ≤ vs.length∧vs.length ≤ 1024)
  (hg : ∀ u ∈ vs,u.Wf∧u.badN a.nd.length a.lines = 0) (hn5 : 1 ≤ a.nd.length∧a.nd.length ≤ 5) (hnl : x.ln.length = a.nd.length) (hq : ∀ l ∈ x.ln,l.p.q.length + vs.length ≤ 1024∧l.pl.length + vs.length ≤ 1024) :
  Calls Try.prog 18 #[ptr fb,.int .i64 c,v] W fun e w' => e = .returned (.int .i64 0)∧FSt t w0 μ I fb { a with cl := a.cl.set c (x.post a.lines vs) } w' := by
 obtain ⟨μ',I',s',hm',hK,hR,rfl,hf⟩ := h
 obtain ⟨xc,hxc,rfl⟩ := map_get' hc
 have e1 : s'.a.nd.length = s'.nd.length := List.length_map ..
 have e2 : xc.a.ln.length = xc.ln.length := List.length_map ..
 rw [e1] at hg hn5 hnl
 rw [e2] at hnl
 refine (post_ok hK hR hxc hal hba (hd.mono hm') hm hg hn5 hnl fun l hl => hq l.a (List.mem_map_of_mem hl)).mono fun e w' he => ⟨he.1,he.2.from hm' hf⟩
theorem g_bad (h : FSt t w0 μ I fb a W) {c : Nat} {x : ClA} (hc : a.cl[c]? = some x) (hal : x.al = true) (hba : x.ba = []) {n : Bool} {vs : List Vb} {v : Value} (hd : DR μ (.lst n 9 (vs.map Vb.row)) v) (hm : 1 ≤ vs.length∧vs.length ≤ 1024)
  (hn5 : 1 ≤ a.nd.length∧a.nd.length ≤ 5) {k : Nat} {uk : Vb} (hk : vs[k]? = some uk) (hg : ∀ i u,i < k → vs[i]? = some u → u.badN a.nd.length a.lines = 0) (hb : uk.badN a.nd.length a.lines ≠ 0) :
  Calls Try.prog 18 #[ptr fb,.int .i64 c,v] W fun e w' => e = .returned (.int .i64 (uk.badN a.nd.length a.lines))∧FSt t w0 μ I fb a w' := by
 obtain ⟨μ',I',s',hm',hK,hR,rfl,hf⟩ := h
 obtain ⟨xc,hxc,rfl⟩ := map_get' hc
 have e1 : s'.a.nd.length = s'.nd.length := List.length_map ..
 rw [e1] at hg hn5 hb ⊢
 exact (post_bad hK hR hxc hal hba (hd.mono hm') hm hn5 hk hg hb).mono fun e w' he => ⟨he.1,μ',I',s',hm',he.2,hR,rfl,hf⟩
theorem g_step (h : FSt t w0 μ I fb a W) {c nd : Nat} {x : ClA} {l : LnA} {n : NdA} (hc : a.cl[c]? = some x) (hl : x.ln[nd]? = some l) (hn : a.nd[nd]? = some n) (hq : l.p.q ≠ []) (hp : l.p.Ok) (hws : n.ws.length ≤ 100000)
  (hpl : (l.p.step n).2.1 = true → ∃ (ix : Nat) (rest : List Int),l.pl = (ix : Int) :: rest∧ix < x.ba.length∧rest.length ≤ 100000) :
  Calls Try.prog 20 #[ptr fb,.agg #[.int .i64 (-1),.int .i64 c,.int .i64 nd]] W fun e w' => e = .returned (.bool true) ∧
   FSt t w0 μ I fb { a with nd := a.nd.set nd (l.p.step n).2.2.2,cl := a.cl.set c (x.stepA nd (l.p.step n) l.pl) } w' := by
 obtain ⟨μ',I',s',hm',hK,hR,rfl,hf⟩ := h
 obtain ⟨xc,hxc,rfl⟩ := map_get' hc
 obtain ⟨lc,hlc,rfl⟩ := map_get' hl
 obtain ⟨nc,hnc,rfl⟩ := map_get' hn
 exact (step_ok hK hR hxc hlc hnc hq hp hws hpl).mono fun e w' he => ⟨he.1,he.2.from hm' hf⟩
theorem g_choices (h : FSt t w0 μ I fb a W) (hcl : 0 < a.cl.length) (hb : a.cl.length ≤ 100∧(∀ x ∈ a.cl,x.ln.length ≤ 100)∧a.os.length ≤ 50000) :
  Calls Try.prog 21 #[ptr fb] W fun e w' => ∃ (b : Nat) (A : Option Addr) (c : Nat),e = .returned (.slice A a.chs.length c)∧(0 < a.chs.length → A = some ⟨b,0,none⟩) ∧
   (∀ k x,a.chs[k]? = some x → w'.cell? ⟨b,k * 3,none⟩ = some (.int .i64 x.1)∧w'.cell? ⟨b,k * 3 + 1,none⟩ = some (.int .i64 x.2.1)∧w'.cell? ⟨b,k * 3 + 2,none⟩ = some (.int .i64 x.2.2))∧FSt t w0 μ I fb a w' := by
 obtain ⟨μ',I',s',hm',hK,hR,rfl,hf⟩ := h
 have e1 : s'.a.os.length = s'.os.length := List.length_map ..
 have e2 : s'.a.cl.length = s'.cl.length := List.length_map ..
 rw [e1,e2] at hb
 rw [e2] at hcl
 refine (choices_ok hK hR hcl ⟨hb.1,fun x hx => ?_,hb.2.2⟩).mono fun e w' he => ?_
 ·have := hb.2.1 x.a (List.mem_map_of_mem hx)
  rwa [show x.a.ln.length = x.ln.length from List.length_map ..] at this
 ·obtain ⟨v,rfl,I2,hK2,hrow,hI2⟩ := he
  have hst : FSt t w0 μ I fb s'.a w' := ⟨μ',I2,s',hm',hK2,hR.of fun k hk => hI2 _ (key_ne (hk 9)),rfl,fun k hk => (hI2 k fun e => hk (by rw [e])).trans (hf k hk)⟩
  rcases hrow with ⟨rfl,h0⟩ | ⟨b,c,rfl,hI⟩
  ·have h0 : s'.a.chs = [] := by
    cases e : s'.a.chs with
    | nil => rfl
    | cons x r => rw [e] at h0; cases h0
   refine ⟨0,none,0,by rw [h0]; rfl,fun h => by rw [h0] at h; simp at h,fun k x hx => by rw [h0] at hx; simp at hx,hst⟩
  ·refine ⟨b,some ⟨b,0,none⟩,c,by rw [List.length_map],fun _ => rfl,fun k x hx => ⟨hK2.rcell hI (get_map hx) (j := 0) rfl,hK2.rcell hI (get_map hx) rfl,hK2.rcell hI (get_map hx) rfl⟩,hst⟩
end Go.Proofs.Ytnjccbnlmdajkaa
namespace Go.Proofs.Ytnjccbnlmdajkaa
open Go.RowKit Go.Shelf Go.Lib Go.Ev
set_option maxRecDepth 100000
variable {w0 W : World} {μ : Mu} {I : Ky → Option ItemO} {t fb : Nat} {a : FbA}
theorem FSt.at (h : FSt t w0 μ I fb a W) {c : Nat} {x : ClA} (hc : a.cl[c]? = some x) : ∃ (bc cc : Nat) (lv bv : Value),c < a.cl.length∧W.cell? ⟨fb,2,none⟩ = some (.slice (some ⟨bc,0,none⟩) a.cl.length cc)∧W.cell? ⟨bc,c * 7,none⟩ = some (.bool x.al)∧W.cell? ⟨bc,c * 7 + 1,none⟩ = some (.int .i64 x.inc) ∧
  (x.ba = [] → W.cell? ⟨bc,c * 7 + 3,none⟩ = some (.slice none 0 0))∧W.cell? ⟨bc,c * 7 + 4,none⟩ = some (.int .i64 x.wt)∧W.cell? ⟨bc,c * 7 + 5,none⟩ = some (.int .i64 x.tr)∧W.cell? ⟨bc,c * 7 + 6,none⟩ = some (.int .i64 x.po) := by
 obtain ⟨μ',I',s',hm',hK,hR,rfl,hf⟩ := h
 obtain ⟨xc,hxc,rfl⟩ := map_get' hc
 obtain ⟨bc,cc,hcv,hIc,hAt⟩ := hR.clsAt hK hxc
 have h2 := hR.c2 hK
 rw [hcv] at h2
 have e2 : s'.a.cl.length = s'.cl.length := List.length_map ..
 rw [e2]
 refine ⟨bc,cc,xc.lv,xc.bv,lt_of hxc,h2,hAt.al,hAt.inc,fun hb => ?_,hAt.wt,hAt.tr,hAt.po⟩
 rw [← (hR.cl c xc hxc).bn hb]
 exact hAt.bv
theorem g_waiting (h : FSt t w0 μ I fb a W) {c : Nat} {x : ClA} (hc : a.cl[c]? = some x) : Calls Try.prog 19 #[ptr fb,.int .i64 c] W fun e w' => e = .returned (.int .i64 x.wt)∧w' = W := by
 obtain ⟨bc,cc,lv,bv,h0,h2,h3,h4,h5,h6,h7,h8⟩ := h.at hc
 exact waiting_walk fb bc c a.cl.length x.wt W h0 h2 h6
end Go.Proofs.Ytnjccbnlmdajkaa
namespace Go.Proofs.Ytnjccbnlmdajkaa
open Go.RowKit Go.Shelf Go.Lib Go.Ev
structure Ln (m : Nat) (c i : Int) (l : LnA) : Prop where
 inv : l.p.Inv
 node : l.p.node = i
 c : l.p.c = c
 pl : l.pl.length = l.p.q.length
 ix : ∀ j ∈ l.pl,∃ k : Nat,j = (k : Int)∧k < m
def LnA.stp (l : LnA) (n : NdA) : LnA := ⟨(l.p.step n).2.2.1,if (l.p.step n).2.1 then l.pl.tail else l.pl⟩
theorem Ln.stp {m : Nat} {c i : Int} {l : LnA} (h : Ln m c i l) (hq : l.p.q ≠ []) (n : NdA) : Ln m c i (l.stp n)∧(l.stp n).p.left < l.p.left∧((l.p.step n).2.1 = true → (l.stp n).p.q.length + 1 = l.p.q.length)∧((l.p.step n).2.1 = false → (l.stp n).p.q.length = l.p.q.length) := by
 obtain ⟨h1,h2,h3,h4,h5,h6,h7⟩ := h.inv.step hq n
 have hpos : 0 < l.p.q.length := List.length_pos_iff.2 hq
 cases e : (l.p.step n).2.1 with
 | true =>
  have e2 : l.stp n = ⟨(l.p.step n).2.2.1,l.pl.tail⟩ := by unfold LnA.stp; rw [e]; rfl
  rw [e2]
  have hqq := h6 e
  refine ⟨⟨h1,h4.trans h.node,h5.trans h.c,?_,fun j hj => h.ix j (List.mem_of_mem_tail hj)⟩,h2,fun _ => ?_,fun h => by cases h⟩
  ·rw [hqq]; simp only [List.length_tail]; rw [h.pl]
  ·show (l.p.step n).2.2.1.q.length + 1 = _
   rw [hqq,List.length_tail]; omega
 | false =>
  have e2 : l.stp n = ⟨(l.p.step n).2.2.1,l.pl⟩ := by unfold LnA.stp; rw [e]; rfl
  rw [e2]
  have hqq := h7 e
  refine ⟨⟨h1,h4.trans h.node,h5.trans h.c,?_,h.ix⟩,h2,fun h => by (cases h),fun _ => ?_⟩
  ·show l.pl.length = (l.p.step n).2.2.1.q.length
   rw [hqq]; exact h.pl
  ·show (l.p.step n).2.2.1.q.length = _
   rw [hqq]
structure Bt (m : Nat) (c : Int) (B : Nat) (l0 l1 : LnA) (x : ClA) : Prop where
 al : x.al = true
 ln : x.ln = [l0,l1]
 h0 : Ln m c 0 l0
 h1 : Ln m c 1 l1
 ba : x.ba.length = m
 wt : x.wt = ((l0.p.q.length + l1.p.q.length : Nat) : Int)
 left : l0.p.left + l1.p.left ≤ B
theorem stepA_eq (x : ClA) (nd : Nat) (l : LnA) (n : NdA) : x.stepA nd (l.p.step n) l.pl = { x with ln := x.ln.set nd (l.stp n),ba := if (l.p.step n).2.1 then x.ba.set (l.pl.headD 0).toNat (l.p.step n).1 else x.ba,wt := if (l.p.step n).2.1 then wrap64 (x.wt - 1) else x.wt } := by
 unfold ClA.stepA LnA.stp
 cases (l.p.step n).2.1 <;> rfl
theorem wt_step {a b : Nat} {w : Int} (hw : w = (a : Int)) (ha : a ≤ 100000) (hb : b + 1 = a) : wrap64 (w - 1) = (b : Int) := by
 rw [w64,w_i64]; omega
theorem Bt.step0 {m : Nat} {c : Int} {B : Nat} {l0 l1 : LnA} {x : ClA} (h : Bt m c B l0 l1 x) (hq : l0.p.q ≠ []) (n : NdA) : Bt m c (B - 1) (l0.stp n) l1 (x.stepA 0 (l0.p.step n) l0.pl) := by
 obtain ⟨h1,h2,h3,h4⟩ := h.h0.stp hq n
 have hl := h.left
 have b0 := h.h0.inv.ql
 have b1 := h.h1.inv.ql
 rw [stepA_eq]
 refine ⟨h.al,by simp only [h.ln]; rfl,h1,h.h1,?_,?_,by omega⟩
 ·show (if _ then _ else _ : List DnA).length = m
  split
  ·rw [List.length_set]; exact h.ba
  ·exact h.ba
 ·show (if _ then _ else _ : Int) = _
  cases e : (l0.p.step n).2.1 with
  | true =>
   have := h3 e
   rw [if_pos rfl]
   exact wt_step h.wt (by omega) (by omega)
  | false =>
   have := h4 e
   rw [if_neg (by simp),this]
   exact h.wt
theorem Bt.step1 {m : Nat} {c : Int} {B : Nat} {l0 l1 : LnA} {x : ClA} (h : Bt m c B l0 l1 x) (hq : l1.p.q ≠ []) (n : NdA) : Bt m c (B - 1) l0 (l1.stp n) (x.stepA 1 (l1.p.step n) l1.pl) := by
 obtain ⟨h1,h2,h3,h4⟩ := h.h1.stp hq n
 have hl := h.left
 have b0 := h.h0.inv.ql
 have b1 := h.h1.inv.ql
 rw [stepA_eq]
 refine ⟨h.al,by simp only [h.ln]; rfl,h.h0,h1,?_,?_,by omega⟩
 ·show (if _ then _ else _ : List DnA).length = m
  split
  ·rw [List.length_set]; exact h.ba
  ·exact h.ba
 ·show (if _ then _ else _ : Int) = _
  cases e : (l1.p.step n).2.1 with
  | true =>
   have := h3 e
   rw [if_pos rfl]
   exact wt_step h.wt (by omega) (by omega)
  | false =>
   have := h4 e
   rw [if_neg (by simp),this]
   exact h.wt
theorem Ln.head {m : Nat} {c i : Int} {l : LnA} (h : Ln m c i l) (hq : l.p.q ≠ []) : ∃ (ix : Nat) (rest : List Int),l.pl = (ix : Int) :: rest∧ix < m∧rest.length ≤ 100000 := by
 have hpos : 0 < l.p.q.length := List.length_pos_iff.2 hq
 have hpl := h.pl
 have hql := h.inv.ql
 cases e : l.pl with
 | nil => rw [e] at hpl; simp at hpl; omega
 | cons j r =>
  obtain ⟨k,rfl,hk⟩ := h.ix j (by rw [e]; simp)
  rw [e] at hpl
  simp at hpl
  exact ⟨k,r,rfl,hk,by omega⟩
theorem np_lines {v : Vb} {n lines : Int} (h : v.badN n lines = 0) (hl : lines ≤ 12) : v.np ≤ 96∧1 ≤ v.cnt∧v.cnt ≤ 1024 := by
 unfold Vb.badN at h
 split at h
 ·cases h
 split at h
 ·cases h
 rename_i h1 h2
 obtain ⟨g1,g2,g3,g4,g5,g6,g7,g8,g9⟩ := Decidable.not_not.1 h2
 have := pcs_len v.at_ v.cnt
 unfold Vb.np Vb.hi at *
 refine ⟨?_,by omega,by omega⟩
 have : v.cnt ≤ 96 := by omega
 omega
theorem Ln.post {m : Nat} {c i : Int} {l : LnA} (h : Ln m c i l) {v : Vb} {n lines : Int} (hn : n ≤ 5) (hl : lines ≤ 12) (hb : v.badN n lines = 0) (hw : v.Wf) (hv : v.node = i) (hq : l.p.q.length < 1024) {k : Nat} (hk : k < m) :
  Ln m c i ⟨l.p.post v lines,l.pl ++ [(k : Int)]⟩∧(l.p.post v lines).left ≤ l.p.left + 96∧l.p.post v lines = { l.p with qn := false,q := l.p.q ++ [v] } := by
 obtain ⟨hbad,_,_⟩ := badN_bad hn hb
 obtain ⟨hnp,hc1,hc2⟩ := np_lines hb hl
 have hpos := np_pos hc1
 have e : l.p.post v lines = { l.p with qn := false,q := l.p.q ++ [v] } := by
  have e0 : l.p.postE v lines = 0 := by
   unfold Pr.postE
   rw [if_neg (fun g => g hbad),if_neg (fun g => g (hv.trans h.node.symm)),if_neg (by omega)]
  unfold Pr.post
  rw [if_pos e0]
 refine ⟨?_,?_,e⟩
 ·rw [e]
  refine ⟨⟨h.inv.c,h.inv.inc,fun _ => rfl,?_,h.inv.ex0,h.inv.w,fun u hu => ?_,fun u r hu => ?_,fun hz => ?_⟩,h.node,h.c,?_,fun j hj => ?_⟩
  ·show (l.p.q ++ [v]).length ≤ 1024
   rw [List.length_append]; simp; omega
  ·rcases List.mem_append.1 hu with hu | hu
   ·exact h.inv.vs u hu
   ·simp at hu; subst hu; exact ⟨hc1,hc2,hw⟩
  ·have hu : l.p.q ++ [v] = u :: r := hu
   show l.p.ex.toNat < u.np
   cases e : l.p.q with
   | nil =>
    rw [e] at hu; cases hu
    rw [h.inv.z e]; exact hpos
   | cons u' r' =>
    rw [e] at hu
    cases hu
    exact h.inv.ex _ _ e
  ·have hz : l.p.q ++ [v] = [] := hz
   simp at hz
  ·show (l.pl ++ [_]).length = (l.p.q ++ [v]).length
   rw [List.length_append,List.length_append,h.pl]; rfl
  ·rcases List.mem_append.1 hj with hj | hj
   ·exact h.ix j hj
   ·simp at hj; exact ⟨k,hj,hk⟩
 ·rw [e]
  unfold Pr.left
  show ((l.p.q ++ [v]).map Vb.np).sum - l.p.ex.toNat ≤ _
  rw [List.map_append,List.sum_append]
  simp only [List.map_cons,List.map_nil,List.sum_cons,List.sum_nil]
  omega
theorem lnPosts_two {m : Nat} {c : Int} {lines : Int} (hl : lines ≤ 12) {vs : List Vb} (hg : ∀ u ∈ vs,u.Wf∧u.badN 2 lines = 0) (hm : vs.length ≤ m∧vs.length ≤ 1000) {l0 l1 : LnA} (h0 : Ln m c 0 l0) (h1 : Ln m c 1 l1) (e0 : l0.p.q = []) (e1 : l1.p.q = []) :
  ∀ i,i ≤ vs.length → ∃ k0 k1,lnPosts lines vs [l0,l1] i = [k0,k1]∧Ln m c 0 k0∧Ln m c 1 k1∧k0.p.q.length + k1.p.q.length = i∧k0.p.left + k1.p.left ≤ l0.p.left + l1.p.left + i * 96
 | 0,_ => ⟨l0,l1,rfl,h0,h1,by rw [e0,e1]; rfl,by omega⟩
 | i + 1,hi => by
  obtain ⟨k0,k1,he,g0,g1,g2,g3⟩ := lnPosts_two hl hg hm h0 h1 e0 e1 i (by omega)
  obtain ⟨v,hv⟩ : ∃ v,vs[i]? = some v := ⟨_,List.getElem?_eq_getElem (by omega)⟩
  obtain ⟨hw,hb⟩ := hg v (List.mem_of_getElem? hv)
  obtain ⟨_,n0,n1⟩ := badN_bad (n := 2) (by omega) hb
  unfold lnPosts
  rw [hv,he]
  show ∃ k0 k1,lnPost lines [_,_] i v = _∧_
  unfold lnPost
  rcases (show v.node = 0 ∨ v.node = 1 by omega) with e | e
  ·obtain ⟨p1,p2,p3⟩ := g0.post (n := 2) (by omega) hl hb hw e (by omega) (k := i) (by omega)
   rw [e]
   refine ⟨_,k1,rfl,p1,g1,?_,?_⟩
   ·show (k0.p.post v lines).q.length + _ = _
    rw [p3]
    show (k0.p.q ++ [v]).length + _ = _
    rw [List.length_append]; simp; omega
   ·show (k0.p.post v lines).left + _ ≤ _
    omega
  ·obtain ⟨p1,p2,p3⟩ := g1.post (n := 2) (by omega) hl hb hw e (by omega) (k := i) (by omega)
   rw [e]
   refine ⟨k0,_,rfl,g0,p1,?_,?_⟩
   ·show _ + (k1.p.post v lines).q.length = _
    rw [p3]
    show _ + (k1.p.q ++ [v]).length = _
    rw [List.length_append]; simp; omega
   ·show _ + (k1.p.post v lines).left ≤ _
    omega
theorem ln_new {m : Nat} {c inc i : Int} (hc : 0 ≤ c∧c ≤ 1000) (hi : 0 ≤ inc∧inc ≤ 1000) : Ln m c i ⟨prNew c inc i,[]⟩∧(prNew c inc i).left = 0∧(prNew c inc i).q = [] :=
 ⟨⟨⟨hc,hi,fun h => absurd rfl h,by simp [prNew],Int.le_refl _,by simp [prNew],fun v hv => by simp [prNew] at hv,fun v r h => by simp [prNew] at h,fun _ => rfl⟩,rfl,rfl,rfl,fun j hj => by simp at hj⟩,rfl,rfl⟩
theorem lnNew_two (c inc : Int) : lnNew c inc 2 = [⟨prNew c inc 0,[]⟩,⟨prNew c inc 1,[]⟩] := rfl
theorem Bt.post {c inc lines : Int} (hc : 0 ≤ c∧c ≤ 1000) (hi : 0 ≤ inc∧inc ≤ 1000) (hl : lines ≤ 12) {vs : List Vb} (hg : ∀ u ∈ vs,u.Wf∧u.badN 2 lines = 0) (hm : vs.length ≤ 1000) {x : ClA} (hx : x.al = true) (hln : x.ln = lnNew c inc 2) :
  ∃ l0 l1,Bt vs.length c (vs.length * 96) l0 l1 (x.post lines vs) := by
 obtain ⟨a0,a1,a2⟩ := @ln_new vs.length c inc 0 hc hi
 obtain ⟨b0,b1,b2⟩ := @ln_new vs.length c inc 1 hc hi
 obtain ⟨k0,k1,he,g0,g1,g2,g3⟩ := lnPosts_two hl hg ⟨Nat.le_refl _,hm⟩ a0 b0 a2 b2 vs.length (Nat.le_refl _)
 refine ⟨k0,k1,hx,?_,g0,g1,?_,?_,?_⟩
 ·show lnPosts lines vs x.ln vs.length = _
  rw [hln,lnNew_two]; exact he
 ·show (List.replicate _ _).length = _
  exact List.length_replicate ..
 ·show ((vs.length : Nat) : Int) = _
  rw [g2]
 ·rw [show (⟨prNew c inc 0,[]⟩ : LnA).p.left = 0 from a1,show (⟨prNew c inc 1,[]⟩ : LnA).p.left = 0 from b1] at g3
  omega
end Go.Proofs.Ytnjccbnlmdajkaa
namespace Go.Proofs.Ytnjccbnlmdajkaa
open Go.RowKit Go.Shelf Go.Lib Go.Ev
set_option maxRecDepth 100000
variable {w0 W : World} {μ : Mu} {I : Ky → Option ItemO} {t fb : Nat} {a : FbA}
theorem FSt.kept (h : FSt t w0 μ I fb a W) : KeptW [] w0 W := by
 obtain ⟨μ',I',s',hm,hK,_⟩ := h
 exact hK.kept
theorem g_verbs (h : FSt t w0 μ I fb a W) {n : Bool} {rs : List Rw} {v : Value} (hd : DR μ (.lst n 6 (rs.map Rw.row)) v) (hm : 1 ≤ rs.length∧rs.length ≤ 50000) :
  Calls Try.prog 17 #[v] W fun e w' => ∃ (μ' : Mu) (vs : List Vb) (n' : Bool) (A : Option Addr) (c : Nat),e = .returned (.slice A vs.length c)∧MuLe μ μ'∧DR μ' (.lst n' 9 (vs.map Vb.row)) (.slice A vs.length c)∧vs.length = rs.length∧(∀ u ∈ vs,u.Wf)∧FSt t w0 μ' I fb a w' := by
 obtain ⟨μ1,I1,s,hm1,hK,hR,rfl,hf⟩ := h
 refine (verbs_ok t hK (hd.mono hm1) hm).mono fun e w' he => ?_
 obtain ⟨μ2,I2,vs,n',A,c,rfl,hm2,hK2,hd2,hl,hw,hn⟩ := he
 exact ⟨μ2,vs,n',A,c,rfl,hm1.trans hm2,hd2,hl,hw,μ2,I2,s,MuLe.refl _,hK2,hR.of fun k hk => hn _ fun n e => hk n (Prod.mk.inj e).2,rfl,fun k hk => (hn k fun n e => hk (by rw [e])).trans (hf k hk)⟩
theorem first_bad {vs : List Vb} (n lines : Int) : (∀ u ∈ vs,u.badN n lines = 0) ∨ ∃ (k : Nat) (uk : Vb),vs[k]? = some uk∧(∀ (i : Nat) (u : Vb),i < k → vs[i]? = some u → u.badN n lines = 0)∧uk.badN n lines ≠ 0 := by
 induction vs with
 | nil => exact .inl fun u hu => by cases hu
 | cons v r ih =>
  by_cases hv : v.badN n lines = 0
  ·rcases ih with h | ⟨k,uk,h1,h2,h3⟩
   ·refine .inl fun u hu => ?_
    rcases List.mem_cons.1 hu with rfl | hu
    ·exact hv
    ·exact h u hu
   ·refine .inr ⟨k + 1,uk,h1,fun i u hi hu => ?_,h3⟩
    cases i with
    | zero => cases hu; exact hv
    | succ i => exact h2 i u (by omega) hu
  ·exact .inr ⟨0,v,rfl,fun i u hi => by omega,hv⟩
theorem chL_two (l0 l1 : LnA) (d : Nat) : chL [l0,l1] d [l0,l1].length = (if l0.p.q = [] then [] else [(-1,(d : Int),0)]) ++ (if l1.p.q = [] then [] else [(-1,(d : Int),1)]) := by
 simp [chL]
theorem Bt.mono {m : Nat} {c : Int} {B B' : Nat} {l0 l1 : LnA} {x : ClA} (h : Bt m c B l0 l1 x) (hB : B ≤ B') : Bt m c B' l0 l1 x := ⟨h.al,h.ln,h.h0,h.h1,h.ba,h.wt,by have := h.left; omega⟩
end Go.Proofs.Ytnjccbnlmdajkaa
namespace Go.Ev
open Go Go.Proofs
section
variable {ι : Type} [DecidableEq ι] {w W : World} {μ : Mu} {I : ι → Option ItemO} {P : Program} {C : Cfg}
theorem Kst.rowcall (h : Kst w μ I W) (hmix : P.follows .mixedOrders = true) (hx : ExtS P C) {k : ι} {v : Value} {T sz : Nat} {xs ys : List (List AV)} (hr : Row I k v T sz xs) {f : FuncId} {bs : List AV} {vals : List Value} (hev : ∀ b,evL P C f (.ow b T sz xs :: bs) = some [.ow false T sz ys]) {fn : Func} (hfn : P.funcs[f]? = some fn) (hsz : fn.resultTypes.size = 1)
  (hB : B2s μ (hf W) [] [] bs vals) (hfl : flatC (.ow false T sz ys) = true) : Calls P f (v :: vals).toArray W fun e w' => ∃ (b c : Nat),e = .returned (.slice (some ⟨b,0,none⟩) ys.length c)∧Kst w μ (put I k (some (rowI b c T sz ys))) w' := by
 obtain ⟨nb,F,hF,hnd,hown,hdis⟩ : ∃ (nb : Bool) (F : List Nat),B2 μ (hf W) F [] (.ow nb T sz xs) v∧F.Nodup∧(∀ b ∈ F,w.heap.size ≤ b)∧∀ i x,I i = some x → i ≠ k → ∀ b ∈ x.F,b ∉ F := by
  rcases hr with ⟨rfl,rfl⟩ | ⟨b,c,rfl,hk⟩
  ·exact ⟨true,[],.o (.c .own),List.nodup_nil,fun b hb => (by cases hb),fun _ _ _ _ _ _ hb => by cases hb⟩
  ·refine ⟨false,[b],.o (.c (b1_tup (h.ok k _ hk))),by simp,h.new k _ hk,fun i x hi ne y hy => h.dj i k x _ hi hk ne y hy⟩
 have hB' : B2s μ (hf W) F [] (.ow nb T sz xs :: bs) (v :: vals) := by
  have := B2s.cons hF hB
  simpa using this
 refine (call_rest hmix hx (hev nb) hfn h.imm hB' hnd (Owns.nil _ _) (fun b _ hb => by cases hb)).mono fun e w' he => ?_
 obtain ⟨ra,ro,vs,μ',F1,F2,G1,hrs,hra,rfl,hk',hm,him,hb1,hb2,hnd2,hnew,_,_,hmn⟩ := he
 rw [hsz] at hra
 have : ∃ a,ra = [a] := by
  match ra,hra with
  | [a],_ => exact ⟨a,rfl⟩
 obtain ⟨a,rfl⟩ := this
 simp only [List.singleton_append,List.cons.injEq] at hrs
 obtain ⟨rfl,rfl⟩ := hrs
 obtain ⟨u,rfl,hu⟩ := b2s_one hb1
 have hu := b2_ow hu
 have hn0 : ∀ b ∈ F1,μ b = none := fun b hb => by
  rcases hnew b (List.mem_append_left _ hb) with g | g
  ·cases hF with | o hF => cases hF with | c hF => exact (hF.ownd b g).1
  ·exact h.noMu g
 have hu0 := b0_flat (μ' := μ) hu hfl hn0
 cases hu0 with
 | d hd => cases hd
 | @ow b cap _ _ _ cur hb hmb hc hs hrw =>
  refine ⟨b,cap,rfl,?_⟩
  refine h.put1 (D := F) (y := rowI b cap T sz ys) hk' (MuLe.refl _) (fun b o hbo => him b o (hm b o hbo)) (fun b o hb => .inl hb) hown hdis (.row (.ow hb hmb hc hs hrw) (fun e => by cases e)) (by simp) fun x hx => ?_
  simp at hx
  subst hx
  exact hnew x (by simp)
end
end Go.Ev
