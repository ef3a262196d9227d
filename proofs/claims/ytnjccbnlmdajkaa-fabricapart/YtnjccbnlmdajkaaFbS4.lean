/- Step of a live pair: what it does with a fabric. -/
import Derived.Test.YtnjccbnlmdajkaaDelW
import Derived.Test.YtnjccbnlmdajkaaStpX
set_option linter.all false
namespace Go.Proofs.Ytnjccbnlmdajkaa
open Go.RowKit Go.Shelf Go.Lib Go.Ev
set_option maxRecDepth 100000
variable {w0 W : World} {μ : Mu} {I : Ky → Option ItemO} {t fb : Nat} {s : FbC}
theorem set_same' {α : Type} {l : List α} {c : Nat} {x : α} (h : l[c]? = some x) : l.set c x = l := List.ext_getElem? fun j => by
 rw [List.getElem?_set]
 by_cases e : c = j
 ·subst e; rw [if_pos rfl,if_pos (lt_of h),h]
 ·rw [if_neg e]
theorem cell_set {W : World} {b j : Nat} {v y : Value} (h : W.cell? ⟨b,j,none⟩ = some y) : (W.setCell ⟨b,j,none⟩ v).cell? ⟨b,j,none⟩ = some v := by
 unfold World.cell? at h
 split at h
 ·rename_i cs ty fz h1
  have h2 : cs[j]? = some y := by simpa using h
  refine cell_of (setCell_heap W b j v h1) ?_
  rw [Array.getElem?_setIfInBounds,if_pos rfl,if_pos (Array.getElem?_eq_some_iff.1 h2).1]
 ·cases h
theorem FbR.stepped (hR : FbR t I fb s) {c nd : Nat} {x : ClC} {l : LnC} {n : NdC} (hc : s.cl[c]? = some x) (hl : x.ln[nd]? = some l) (hn : s.nd[nd]? = some n) {p' : Pr} {n' : NdA} {J : Ky → Option ItemO} {F' E' : List Nat} (hJ : ∀ k,(∀ n,k ≠ .tmp n) → k ≠ .par c nd → k ≠ .nod nd → J (t,k) = I (t,k))
  (hp : J (t,.par c nd) = some (obI l.b F' 99 (prC p'))) (hn' : J (t,.nod nd) = some (obI n.b E' 69 (ndC n'))) :
  FbR t J fb { s with nd := s.nd.set nd ⟨n.b,n'⟩,cl := s.cl.set c { x with ln := x.ln.set nd ⟨l.b,l.v,⟨p',l.a.pl⟩⟩ } } := by
 have h1 := hR.node hn (J := put I (t,.nod nd) (some (obI n.b E' 69 (ndC n')))) (a := n') (F := E') (fun k h _ => put_ne _ _ (key_ne h)) (put_same _ _ _)
 have hCl := hR.cl c x hc
 refine h1.lane (J := J) (x := x) hc hl (l' := ⟨l.b,l.v,⟨p',l.a.pl⟩⟩) (fun k g1 g2 g3 g4 => ?_) ?_ ⟨F',hp⟩ ?_
 ·by_cases e : k = .nod nd
  ·subst e; rw [put_same]; exact hn'
  ·rw [put_ne _ _ (key_ne e)]; exact hJ k g4 g1 e
 ·rw [show (x.ln.map LnC.row).set nd (LnC.row ⟨l.b,l.v,⟨p',l.a.pl⟩⟩) = x.ln.map LnC.row from set_same' (x := LnC.row ⟨l.b,l.v,⟨p',l.a.pl⟩⟩) (by rw [List.getElem?_map,hl]; rfl)]
  exact hCl.ls.same (hJ _ (fun n e => by cases e) (fun e => by cases e) fun e => by cases e)
 ·exact (hCl.pls nd l hl).same (hJ _ (fun n e => by cases e) (fun e => by cases e) fun e => by cases e)
def ClA.stepA (x : ClA) (nd : Nat) (r : DnA × Bool × Pr × NdA) (pl : List Int) : ClA :=
 if r.2.1 then { x with ln := x.ln.set nd ⟨r.2.2.1,pl.tail⟩,ba := x.ba.set (pl.headD 0).toNat r.1,wt := wrap64 (x.wt - 1) } else { x with ln := x.ln.set nd ⟨r.2.2.1,pl⟩ }
theorem d_row_b0 {hp : HF} {d : DnA} {A : Option Addr} {cA : Nat} (h : DR μ (.lst d.wn 1 (d.w.map wr)) (.slice A d.w.length cA)) : B0s μ hp [] d.row (#[Value.int .i64 d.code,.slice A d.w.length cA]).toList :=
 .cons (F := []) (F' := []) (.d (.v rfl)) (.cons (F := []) (F' := []) (.d h) .nil)
theorem stp_all {μ0 : Mu} {I0 : Ky → Option ItemO} (hm0 : MuLe μ0 μ) (hR : FbR t I fb s) {c nd : Nat} {x : ClC} {l : LnC} {n : NdC} (hc : s.cl[c]? = some x) (hl : x.ln[nd]? = some l) (hn : s.nd[nd]? = some n) {r : DnA × Bool × Pr × NdA} {J : Ky → Option ItemO} {F' E' : List Nat} (hJ : ∀ k,(∀ n,k ≠ .tmp n) → k ≠ .par c nd → k ≠ .nod nd → J (t,k) = I (t,k))
  (hp : J (t,.par c nd) = some (obI l.b F' 99 (prC r.2.2.1))) (hn' : J (t,.nod nd) = some (obI n.b E' 69 (ndC r.2.2.2))) (hf0 : ∀ k : Ky,k.1 ≠ t → J k = I0 k) (hK : Kst w0 μ J W)
  (hpl : r.2.1 = true → ∃ (ix : Nat) (rest : List Int),l.a.pl = (ix : Int) :: rest∧ix < x.ba.length∧rest.length ≤ 100000)
  {bc cc bl ll b7 : Nat} (hcv : s.cv = .slice (some ⟨bc,0,none⟩) s.cl.length cc) (hlv : x.lv = .slice (some ⟨bl,0,none⟩) x.ln.length ll) {F7 : List Nat} (hI7 : J (t,.tmp 1) = some (obI b7 F7 67 r.1.row)) {A : Option Addr} {cA : Nat}
  (g0 : W.cell? ⟨b7,0,none⟩ = some (.int .i64 r.1.code)) (g1 : W.cell? ⟨b7,1,none⟩ = some (.slice A r.1.w.length cA)) (hdw : DR μ (.lst r.1.wn 1 (r.1.w.map wr)) (.slice A r.1.w.length cA)) :
  (r.2.1 = true → StpFin bc c bl nd b7 r.1.code A r.1.w.length cA W (FSt t w0 μ0 I0 fb { s.a with nd := s.a.nd.set nd r.2.2.2,cl := s.a.cl.set c (x.a.stepA nd r l.a.pl) })) ∧
  (r.2.1 = false → FSt t w0 μ0 I0 fb { s.a with nd := s.a.nd.set nd r.2.2.2,cl := s.a.cl.set c (x.a.stepA nd r l.a.pl) } W) := by
 have hS := hR.stepped hc hl hn hJ hp hn'
 have hcx := set_at (y := { x with ln := x.ln.set nd ⟨l.b,l.v,⟨r.2.2.1,l.a.pl⟩⟩ }) hc
 have hlx := set_at (y := (⟨l.b,l.v,⟨r.2.2.1,l.a.pl⟩⟩ : LnC)) hl
 refine ⟨fun hcm => ?_,fun hcm => ?_⟩
 ·obtain ⟨ix,rest,e1,e2,e3⟩ := hpl hcm
  have := stp_fin hm0 hf0 hK hS (x := { x with ln := x.ln.set nd ⟨l.b,l.v,⟨r.2.2.1,l.a.pl⟩⟩ }) (l := ⟨l.b,l.v,⟨r.2.2.1,l.a.pl⟩⟩) hcx hlx e1 e2 e3 (bc := bc) (cc := cc) (bl := bl) (ll := ll) (by
   show s.cv = Value.slice _ (s.cl.set c _).length cc
   rw [List.length_set]; exact hcv) (by
   show x.lv = Value.slice _ (x.ln.set nd _).length ll
   rw [List.length_set]; exact hlv) hI7 g0 g1 hdw
  have e : ({ s.a with nd := s.a.nd.set nd r.2.2.2,cl := s.a.cl.set c (x.a.stepA nd r l.a.pl) } : FbA) = { ({ s with nd := s.nd.set nd ⟨n.b,r.2.2.2⟩,cl := s.cl.set c { x with ln := x.ln.set nd ⟨l.b,l.v,⟨r.2.2.1,l.a.pl⟩⟩ } } : FbC).a with cl := ({ s with nd := s.nd.set nd ⟨n.b,r.2.2.2⟩,cl := s.cl.set c { x with ln := x.ln.set nd ⟨l.b,l.v,⟨r.2.2.1,l.a.pl⟩⟩ } } : FbC).a.cl.set c { ({ x with ln := x.ln.set nd ⟨l.b,l.v,⟨r.2.2.1,l.a.pl⟩⟩ } : ClC).a with ln := ({ x with ln := x.ln.set nd ⟨l.b,l.v,⟨r.2.2.1,l.a.pl⟩⟩ } : ClC).a.ln.set nd ⟨r.2.2.1,rest⟩,ba := x.ba.set ix r.1,wt := wrap64 (x.wt - 1) } } := by
   unfold FbC.a ClC.a ClA.stepA
   simp only [map_set',set_set',hcm,if_true,e1,List.tail_cons,List.headD_cons,Int.toNat_natCast]
  rw [e]
  exact this
 ·refine ⟨μ,J,_,hm0,hK,hS,?_,hf0⟩
  unfold FbC.a ClC.a ClA.stepA
  simp only [map_set',hcm,Bool.false_eq_true,if_false]
end Go.Proofs.Ytnjccbnlmdajkaa
namespace Go.Proofs.Ytnjccbnlmdajkaa
open Go.RowKit Go.Shelf Go.Lib Go.Ev
set_option maxRecDepth 100000
variable {w0 W : World} {μ : Mu} {I : Ky → Option ItemO} {t fb : Nat} {s : FbC}
theorem s9_of {J : Ky → Option ItemO} {c nd : Nat} {x : ClC} {l : LnC} {n : NdC} {bl ll bn cn b3 : Nat} (hK : Kst w0 μ J W) (hlx : x.ln[nd]? = some l) (hnx : s.nd[nd]? = some n) (hl : J (t,.lan c) = some (rowI bl ll 82 2 (x.ln.map LnC.row))) (hfab : ∃ F,J (t,.fab) = some (obI fb F 62 s.cells)) (hnv : s.nv = .slice (some ⟨bn,0,none⟩) s.nd.length cn)
  (ht : ∃ F,J (t,.tmp 0) = some (obI b3 F 40 [.v (.int .i64 (-1)),.v (.int .i64 c),.v (.int .i64 nd)])) (hnd : J (t,.nds) = some (rowI bn cn 28 1 (s.nd.map NdC.row))) : S9 bl nd l.b fb bn s.nd.length cn b3 n.b W := by
 obtain ⟨F,hF⟩ := hfab
 obtain ⟨G,hG⟩ := ht
 have h1 := hK.cell hF (j := 1) rfl
 rw [hnv] at h1
 have h2 := hK.rcell hnd (get_map (f := NdC.row) hnx) (j := 0) rfl
 rw [Nat.mul_one] at h2
 exact ⟨hK.rcell hl (get_map (f := LnC.row) hlx) (j := 0) rfl,h1,hK.cell hG rfl,h2⟩
theorem step_ok (hK : Kst w0 μ I W) (hR : FbR t I fb s) {c nd : Nat} {x : ClC} {l : LnC} {n : NdC} (hc : s.cl[c]? = some x) (hl : x.ln[nd]? = some l) (hn : s.nd[nd]? = some n) (hq : l.a.p.q ≠ []) (hp : l.a.p.Ok) (hws : n.a.ws.length ≤ 100000)
  (hpl : (l.a.p.step n.a).2.1 = true → ∃ (ix : Nat) (rest : List Int),l.a.pl = (ix : Int) :: rest∧ix < x.ba.length∧rest.length ≤ 100000) :
  Calls Try.prog 20 #[ptr fb,.agg #[.int .i64 (-1),.int .i64 c,.int .i64 nd]] W fun e w' => e = .returned (.bool true) ∧
   FSt t w0 μ I fb { s.a with nd := s.a.nd.set nd (l.a.p.step n.a).2.2.2,cl := s.a.cl.set c (x.a.stepA nd (l.a.p.step n.a) l.a.pl) } w' := by
 obtain ⟨bc,cc,hcv,hIc,hAt⟩ := hR.clsAt hK hc
 have hCl := hR.cl c x hc
 obtain ⟨bl,ll,hlv,hIl,hp0,hp1⟩ := hCl.lnAt hK hl
 obtain ⟨VA,vc,hpv⟩ := hCl.prAt hK hl
 obtain ⟨bn,cn,hnv,hIn,hnp⟩ := hR.ndAt hK hn
 obtain ⟨F,hIp⟩ := hCl.ps nd l hl
 obtain ⟨E,hINd⟩ := hR.nod nd n hn
 obtain ⟨F0,hfab⟩ := hR.fab
 have hlen : 0 < l.a.p.q.length := List.length_pos_iff.2 hq
 obtain ⟨w1,e1⟩ : ∃ w1,W.alloc (.cells #[.int .i64 (-1),.int .i64 c,.int .i64 nd] 40) = w1 := ⟨_,rfl⟩
 have hK1 := hK.alloc (t,.tmp 0) (cs := [.v (.int .i64 (-1)),.v (.int .i64 c),.v (.int .i64 nd)]) (cur := #[.int .i64 (-1),.int .i64 c,.int .i64 nd]) (ty := 40) (b0s_vals [.int .i64 (-1),.int .i64 c,.int .i64 nd] fun v hv => by
  simp only [List.mem_cons,List.not_mem_nil,or_false] at hv
  rcases hv with rfl | rfl | rfl <;> rfl)
 rw [e1] at hK1
 have up : ∀ {b j : Nat} {v : Value},W.cell? ⟨b,j,none⟩ = some v → w1.cell? ⟨b,j,none⟩ = some v := fun h => by rw [← e1]; exact alloc_cell h
 obtain ⟨T0,hT0⟩ : ∃ x,x = some (obI W.heap.size [W.heap.size] 40 [.v (.int .i64 (-1)),.v (.int .i64 c),.v (.int .i64 nd)]) := ⟨_,rfl⟩
 rw [← hT0] at hK1
 have ht0 : put I (t,.tmp 0) T0 (t,.tmp 0) = some (obI W.heap.size [W.heap.size] 40 [.v (.int .i64 (-1)),.v (.int .i64 c),.v (.int .i64 nd)]) := by rw [put_same]; exact hT0
 have old : ∀ {k : FK} {v : ItemO},(∀ n,k ≠ .tmp n) → I (t,k) = some v → put I (t,.tmp 0) T0 (t,k) = some v := fun hk h => put_get h (key_ne (hk 0))
 have hlvw := hAt.lv
 rw [hlv] at hlvw
 have hc1 := hR.c1 hK
 rw [hnv] at hc1
 have hc2 := hR.c2 hK
 rw [hcv] at hc2
 refine step_walk2 fb bc c s.cl.length bn s.nd.length cn nd bl x.ln.length ll l.b n.b l.a.p.q.length vc VA W w1 (FSt t w0 μ I fb { s.a with nd := s.a.nd.set nd (l.a.p.step n.a).2.2.2,cl := s.a.cl.set c (x.a.stepA nd (l.a.p.step n.a) l.a.pl) }) (lt_of hc) (lt_of hl) (lt_of hn) hlen e1 W.heap.size rfl
  (hK1.cell ht0 rfl) (hK1.cell ht0 rfl) (hK1.cell ht0 rfl) (up hc1) (up hc2) (up hlvw) (up hp0) (up hnp) (up hpv) w1.heap.size rfl ?_ ?_
 ·refine (step_call hK1.drew.drew.drew (k := (t,.par c nd)) (l := (t,.nod nd)) (key_ne fun e => by cases e) (old (fun _ e => by cases e) hIp) (old (fun _ e => by cases e) hINd) hp hws).mono fun e w' he => ?_
  obtain ⟨μ',A,cA,F',E',rfl,hm,hK2,hdw⟩ := he
  generalize l.a.p.step n.a = r at hpl hK2 hdw ⊢
  have hK3 := hK2.alloc (t,.tmp 1) (cs := r.1.row) (cur := #[.int .i64 r.1.code,.slice A r.1.w.length cA]) (ty := 67) (d_row_b0 hdw)
  have hnew := Ev.alloc_new w' (.cells #[.int .i64 r.1.code,.slice A r.1.w.length cA] 67)
  have hall := stp_all (J := put (put (put (put I (t,.tmp 0) T0) (t,.nod nd) (some (obI n.b E' 69 (ndC r.2.2.2)))) (t,.par c nd) (some (obI l.b F' 99 (prC r.2.2.1)))) (t,.tmp 1) (some (obI w'.heap.size [w'.heap.size] 67 r.1.row))) hm hR hc hl hn
   (fun k h1 h2 h3 => by rw [put_ne _ _ (key_ne (h1 1)),put_ne _ _ (key_ne h2),put_ne _ _ (key_ne h3),put_ne _ _ (key_ne (h1 0))])
   (put_get (put_same _ _ _) (key_ne fun e => by cases e)) (put_get (put_get (put_same _ _ _) (key_ne fun e => by cases e)) (key_ne fun e => by cases e)) (put_frame (put_frame (put_frame (put_frame fun _ _ => rfl)))) hK3 hpl hcv hlv (put_same _ _ _) (cell_of hnew rfl) (cell_of hnew rfl) hdw
  refine ⟨r.1.code,A,r.1.w.length,cA,r.2.1,rfl,?_,hall.1,hall.2⟩
  exact s9_of hK2 hl hn (put_get (put_get (old (fun _ e => by cases e) hIl) (key_ne fun e => by cases e)) (key_ne fun e => by cases e)) ⟨F0,put_get (put_get (old (fun _ e => by cases e) hfab) (key_ne fun e => by cases e)) (key_ne fun e => by cases e)⟩ hnv
   ⟨_,put_get (put_get ht0 (key_ne fun e => by cases e)) (key_ne fun e => by cases e)⟩ (put_get (put_get (old (fun _ e => by cases e) hIn) (key_ne fun e => by cases e)) (key_ne fun e => by cases e))
 ·have hKd := hK1.drew.drew.drew.alloc (t,.tmp 1) (cs := dn0.row) (cur := #[.int .i64 0,.slice none 0 0]) (ty := 67) (d_row_b0 (d := dn0) dr_nil)
  have h7 : (w1.drew.drew.drew).heap.size = w1.heap.size := rfl
  rw [h7] at hKd
  obtain ⟨T1,hT1⟩ : ∃ x,x = some (obI w1.heap.size [w1.heap.size] 67 dn0.row) := ⟨_,rfl⟩
  rw [← hT1] at hKd
  have old2 : ∀ {k : FK} {v : ItemO},(∀ n,k ≠ .tmp n) → I (t,k) = some v → put (put I (t,.tmp 0) T0) (t,.tmp 1) T1 (t,k) = some v := fun hk h => put_get (old hk h) (key_ne (hk 1))
  refine (step_call hKd (k := (t,.par c nd)) (l := (t,.nod nd)) (key_ne fun e => by cases e) (old2 (fun _ e => by cases e) hIp) (old2 (fun _ e => by cases e) hINd) hp hws).mono fun e w' he => ?_
  obtain ⟨μ',A,cA,F',E',rfl,hm,hK2,hdw⟩ := he
  generalize l.a.p.step n.a = r at hpl hK2 hdw ⊢
  obtain ⟨J2,hJ2⟩ : ∃ J,J = put (put (put (put I (t,.tmp 0) T0) (t,.tmp 1) T1) (t,.nod nd) (some (obI n.b E' 69 (ndC r.2.2.2)))) (t,.par c nd) (some (obI l.b F' 99 (prC r.2.2.1))) := ⟨_,rfl⟩
  rw [← hJ2] at hK2
  have oldJ : ∀ {k : FK} {v : ItemO},(∀ n,k ≠ .tmp n) → k ≠ .par c nd → k ≠ .nod nd → I (t,k) = some v → J2 (t,k) = some v := fun h1 h2 h3 h => by
   rw [hJ2]; exact put_get (put_get (old2 h1 h) (key_ne h3)) (key_ne h2)
  have hj1 : J2 (t,.tmp 1) = some (obI w1.heap.size [w1.heap.size] 67 dn0.row) := by rw [hJ2,put_ne _ _ (key_ne fun e => by cases e),put_ne _ _ (key_ne fun e => by cases e),put_same]; exact hT1
  have hj0 : J2 (t,.tmp 0) = some (obI W.heap.size [W.heap.size] 40 [.v (.int .i64 (-1)),.v (.int .i64 c),.v (.int .i64 nd)]) := by rw [hJ2]; exact put_get (put_get (put_get ht0 (key_ne fun e => by cases e)) (key_ne fun e => by cases e)) (key_ne fun e => by cases e)
  have hjp : J2 (t,.par c nd) = some (obI l.b F' 99 (prC r.2.2.1)) := by rw [hJ2,put_same]
  have hjn : J2 (t,.nod nd) = some (obI n.b E' 69 (ndC r.2.2.2)) := by rw [hJ2]; exact put_get (put_same _ _ _) (key_ne fun e => by cases e)
  have hjf : ∀ k : Ky,k.1 ≠ t → J2 k = I k := by rw [hJ2]; exact put_frame (put_frame (put_frame (put_frame fun _ _ => rfl)))
  have f0 := hK2.frozen hj1 0
  have c0 := hK2.cell hj1 (j := 0) rfl
  obtain ⟨Fa,_,hKa⟩ := hK2.set hj1 0 (a := .v (.int .i64 r.1.code)) (v := .int .i64 r.1.code) (.v rfl)
  have hja := put_same J2 (t,.tmp 1) (some (obI w1.heap.size Fa 67 (dn0.row.set 0 (.v (.int .i64 r.1.code)))))
  have f1 := hKa.frozen hja 1
  obtain ⟨v1,c1,_⟩ := hKa.cellL hja (j := 1) rfl
  obtain ⟨Fb,_,hKb⟩ := hKa.set hja 1 (a := .lst r.1.wn 1 (r.1.w.map wr)) (v := .slice A r.1.w.length cA) hdw
  rw [put_put] at hKb
  have g1 := cell_set (v := .slice A r.1.w.length cA) c1
  have g0 := hKb.cell (put_same _ _ _) (j := 0) rfl
  have hall := stp_all hm hR hc hl hn (fun k h1 h2 h3 => by
    rw [put_ne _ _ (key_ne (h1 1)),hJ2,put_ne _ _ (key_ne h2),put_ne _ _ (key_ne h3),put_ne _ _ (key_ne (h1 1)),put_ne _ _ (key_ne (h1 0))])
   (put_get hjp (key_ne fun e => by cases e)) (put_get hjn (key_ne fun e => by cases e)) (put_frame hjf) hKb hpl hcv hlv (put_same _ _ _) g0 g1 hdw
  refine ⟨r.1.code,A,r.1.w.length,cA,r.2.1,rfl,?_,f0,f1,⟨_,c0⟩,⟨_,c1⟩,?_,hall.1,hall.2⟩
  ·exact s9_of hK2 hl hn (oldJ (fun _ e => by cases e) (fun e => by cases e) (fun e => by cases e) hIl) ⟨F0,oldJ (fun _ e => by cases e) (fun e => by cases e) (fun e => by cases e) hfab⟩ hnv ⟨_,hj0⟩ (oldJ (fun _ e => by cases e) (fun e => by cases e) (fun e => by cases e) hIn)
  ·exact s9_of hKb hl hn (put_get (oldJ (fun _ e => by cases e) (fun e => by cases e) (fun e => by cases e) hIl) (key_ne fun e => by cases e)) ⟨F0,put_get (oldJ (fun _ e => by cases e) (fun e => by cases e) (fun e => by cases e) hfab) (key_ne fun e => by cases e)⟩ hnv
    ⟨_,put_get hj0 (key_ne fun e => by cases e)⟩ (put_get (oldJ (fun _ e => by cases e) (fun e => by cases e) (fun e => by cases e) hIn) (key_ne fun e => by cases e))
end Go.Proofs.Ytnjccbnlmdajkaa
