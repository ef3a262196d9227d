/- One operation as a call. -/
import Derived.Test.YtkefjdmoikegbaaFrsO
import Derived.Test.YtkefjdmoikegbaaTyO
import Derived.Test.YtkefjdmoikegbaaPlaysL
set_option linter.all false
namespace Go.Proofs.Ytkefjdmoikegbaa
open Go.RowKit Go.Shelf Go.Lib Go.Ev
set_option maxRecDepth 100000
theorem f23_at : Try.prog.funcs[23]? = some Try.f23 := by kernel_rfl
def Opr.vals (o : Opr) : List Value := [.int .i64 o.k,.int .i64 o.r1,.int .i64 o.r2,.int .i64 o.r3,.int .i64 o.r4,.int .i64 o.r5,.int .u64 o.r6,.int .u64 o.r7,.int .i64 o.a,.int .u64 o.w]
theorem Opr.row_vals (o : Opr) : o.row = o.vals.map AV.v := rfl
theorem b1s_vals {μ : Mu} {hp : HF} : ∀ vs : List Value,(∀ v ∈ vs,okC (.v v) = true) → B1s μ hp [] [] (vs.map AV.v) vs
 | [],_ => .nil
 | v :: vs,h => .cons (F := []) (F' := []) (G := []) (G' := []) (.c (.d (.v (h v (by simp))))) (b1s_vals vs fun x hx => h x (List.mem_cons_of_mem _ hx))
theorem isLc_cases {cr : AV} (h : isLc cr = true) : (∃ n xs,cr = .lst n 12 xs) ∨ cr = .lst true 0 [] := by
 unfold isLc at h
 split at h
 ·exact .inl ⟨_,_,rfl⟩
 ·exact .inr rfl
 ·cases h
theorem b1_lastz {μ : Mu} {hp : HF} {F : List Nat} {G : List Value} {b : Nat} {a1 a2 a3 : AV} (h : B1 μ hp F G (.ob 70 [a1,a2,a3,.lst true 0 []]) (.pointer (some ⟨b,0,none⟩))) : B1 μ hp F G (.ob 70 [a1,a2,a3,.lst true 12 []]) (.pointer (some ⟨b,0,none⟩)) := by
 cases h with
 | c h => cases h with | d h => cases h
 | @ob _ _ F0 _ cur h1 h2 h3 =>
  refine .ob h1 h2 ?_
  generalize cur.toList = L at h3 ⊢
  cases h3 with | cons g1 h3 => cases h3 with | cons g2 h3 => cases h3 with | cons g3 h3 => cases h3 with | cons g4 h3 =>
  refine .cons g1 (.cons g2 (.cons g3 (.cons ?_ h3)))
  obtain ⟨g5,rfl⟩ := b0_lst g4
  exact .d (dr_nilsz g5)
section
variable {w0 W : World} {μ : Mu} {I : Nat → Option ItemO}
theorem do_ok (h : Kst w0 μ I W) {k pb nb qb rb : Nat} {s : PS} {qn : Bool} {ws : List Int} {dn : Bool} (hs : St4 I k pb nb qb rb s qn ws dn) (hok : StOk s qn ws) (o : Opr) (ho : o.Ok) :
  Calls Try.prog 23 #[.agg #[.pointer (some ⟨pb,0,none⟩),.pointer (some ⟨nb,0,none⟩),.pointer (some ⟨qb,0,none⟩),.pointer (some ⟨rb,0,none⟩)],.agg o.vals.toArray] W fun e w' => e = .returned (.bool true) ∧
   ∃ (μ' : Mu) (I' : Nat → Option ItemO) (s' : PS) (qn' : Bool) (ws' : List Int) (dn' : Bool),MuLe μ μ'∧Kst w0 μ' I' w'∧St4 I' k pb nb qb rb s' qn' ws' dn'∧StOk s' qn' ws'∧∀ i,i ≠ k → i ≠ k + 1 → i ≠ k + 2 → i ≠ k + 3 → I' i = I i := by
 obtain ⟨s',qn',ws',dn',cr,hok',hci,⟨c1,c2,c3⟩,hev⟩ := s_doM s qn ws dn hok o.k o.r1 o.r2 o.r3 o.r4 o.r5 o.r6 o.r7 o.a o.w ho.1 ho.2.1 ho.2.2
 obtain ⟨⟨Fp,hp⟩,⟨Fn,hn⟩,⟨Fq,hq⟩,⟨Fr,hr⟩⟩ := hs
 obtain ⟨xs,hxs⟩ : ∃ xs,xs = [obI pb Fp 83 (prC (s.p qn)),obI nb Fn 93 (ndC ws dn),obI qb Fq 70 (rC s),obI rb Fr 72 (rfC ws (!dn))] := ⟨_,rfl⟩
 have hks : [k,k + 1,k + 2,k + 3].Nodup := by simp
 have hg : gets I [k,k + 1,k + 2,k + 3] xs := by unfold gets; rw [hxs]; simp [hp,hn,hq,hr]
 have hown : ∀ x ∈ xs,B1 μ (hf W) x.F [x.p] x.a x.p := fun x hx => by
  rw [hxs] at hx
  simp only [List.mem_cons,List.not_mem_nil,or_false] at hx
  rcases hx with rfl | rfl | rfl | rfl
  ·exact h.ok _ _ hp
  ·exact h.ok _ _ hn
  ·exact h.ok _ _ hq
  ·exact h.ok _ _ hr
 have hB : B2s μ (hf W) (foot xs) (xs.map ItemO.p) [.agg [pO (s.p qn),ndO ws dn,rL s,rfO ws (!dn)],.agg (opR o.k o.r1 o.r2 o.r3 o.r4 o.r5 o.r6 o.r7 o.a o.w)] [.agg #[.pointer (some ⟨pb,0,none⟩),.pointer (some ⟨nb,0,none⟩),.pointer (some ⟨qb,0,none⟩),.pointer (some ⟨rb,0,none⟩)],.agg o.vals.toArray] := by
  have h1 := own_b1s hown
  have h2 : B1s μ (hf W) [] [] (opR o.k o.r1 o.r2 o.r3 o.r4 o.r5 o.r6 o.r7 o.a o.w) o.vals := b1s_vals o.vals fun v hv => by
   unfold Opr.vals at hv
   simp only [List.mem_cons,List.not_mem_nil,or_false] at hv
   rcases hv with rfl | rfl | rfl | rfl | rfl | rfl | rfl | rfl | rfl | rfl <;> rfl
  have h3 := B2s.cons (B2.agg h1) (.cons (B2.agg h2) .nil)
  rw [List.append_nil,List.append_nil,List.append_nil,List.append_nil] at h3
  have e1 : xs.map ItemO.a = [pO (s.p qn),ndO ws dn,rL s,rfO ws (!dn)] := by rw [hxs]; rfl
  have e2 : xs.map ItemO.p = [.pointer (some ⟨pb,0,none⟩),.pointer (some ⟨nb,0,none⟩),.pointer (some ⟨qb,0,none⟩),.pointer (some ⟨rb,0,none⟩)] := by rw [hxs]; rfl
  rw [e1,e2] at h3
  rw [e2]
  exact h3
 refine (h.call mix extMOk [k,k + 1,k + 2,k + 3] hks hg (ra := [.v (.bool true)]) (ro := [pO (s'.p qn'),ndO ws' dn',.ob 70 [.v (.int .i64 s'.c),.v (.int .i64 s'.inc),.v (.int .i64 0),cr],rfO ws' (!dn')]) hev f23_at rfl hB fun a ha => by
  simp only [List.mem_cons,List.not_mem_nil,or_false] at ha
  rcases ha with rfl | rfl | rfl | rfl <;> exact ⟨_,_,rfl⟩).mono fun e w' he => ?_
 obtain ⟨vs,μ',F1,G1,xs',rfl,hb,hm,hp',ha',hK,_,_,_⟩ := he
 obtain ⟨rfl,_⟩ := b2s_vals_inv (F := F1) (G := G1) [.bool true] hb
 have h4 : ∃ x y z u,xs' = [x,y,z,u] := by
  have hl : xs'.length = 4 := by simpa using congrArg List.length ha'
  match xs',hl with
  | [x,y,z,u],_ => exact ⟨x,y,z,u,rfl⟩
 obtain ⟨x,y,z,u,rfl⟩ := h4
 rw [hxs] at hp'
 simp only [List.map_cons,List.map_nil,List.cons.injEq,and_true] at hp' ha'
 obtain ⟨p1,p2,p3,p4⟩ := hp'
 obtain ⟨a1,a2,a3,a4⟩ := ha'
 have e1 := item_eq p1 a1
 have e2 := item_eq p2 a2
 have e3 := item_eq p3 a3
 have e4 := item_eq p4 a4
 refine ⟨rfl,μ',put (puts I [k,k + 1,k + 2,k + 3] [x,y,z,u]) (k + 2) (some (obI qb z.F 70 (rC s'))),s',qn',ws',dn',hm,?_,⟨⟨x.F,?_⟩,⟨y.F,?_⟩,⟨z.F,put_same _ _ _⟩,⟨u.F,?_⟩⟩,hok',fun i h1 h2 h3 h4 => ?_⟩
 ·have hz : puts I [k,k + 1,k + 2,k + 3] [x,y,z,u] (k + 2) = some z := puts_get hks (n := 2) rfl rfl
  have hz' := hz.trans (congrArg some e3)
  have hb3 := hK.ok _ _ hz'
  refine hK.recast hz' ?_
  rcases isLc_cases c3 with ⟨n,ys,rfl⟩ | rfl
  ·have e5 : n = s'.q.isEmpty := c1
   have e6 : ys = rrows s'.q s'.ex s'.w := c2
   subst e5
   subst e6
   exact hb3
  ·have e5 : true = s'.q.isEmpty := c1
   have e6 : [] = rrows s'.q s'.ex s'.w := c2
   show B1 _ _ _ _ (.ob 70 [_,_,_,.lst s'.q.isEmpty 12 (rrows s'.q s'.ex s'.w)]) _
   rw [← e5,← e6]
   exact b1_lastz hb3
 ·refine put_get ?_ (by omega)
  rw [e1]; exact puts_get hks (n := 0) rfl rfl
 ·refine put_get ?_ (by omega)
  rw [e2]; exact puts_get hks (n := 1) rfl rfl
 ·refine put_get ?_ (by omega)
  rw [e4]; exact puts_get hks (n := 3) rfl rfl
 ·rw [put_ne _ _ h3]
  exact puts_other (by simp only [List.mem_cons,List.not_mem_nil,or_false]; omega)
end
end Go.Proofs.Ytkefjdmoikegbaa
