/- slices.Delete of a row of pointers: the walk. -/
import Derived.Test.YtnjccbnlmdajkaaDieW
import Derived.Sort.WalkB12
import Derived.Test.YtnjccbnlmdajkaaVld
set_option linter.all false
namespace Go.Proofs.Ytnjccbnlmdajkaa
open Go.RowKit Go.Shelf Go.Lib Go.Ev
attribute [local go_sem] Oper.semAt_some
section
variable {P : Program}
end
end Go.Proofs.Ytnjccbnlmdajkaa
namespace Go.Proofs.Ytnjccbnlmdajkaa
open Go.RowKit Go.Shelf Go.Lib Go.Ev
attribute [local go_sem] Oper.semAt_some
set_option maxRecDepth 100000
variable {w0 W : World} {μ : Mu} {I : Ky → Option ItemO} {t fb : Nat} {s : FbC}
end Go.Proofs.Ytnjccbnlmdajkaa
namespace Go.Proofs.Ytnjccbnlmdajkaa
open Go.RowKit Go.Shelf Go.Lib Go.Ev
set_option maxRecDepth 100000
variable {w0 W : World} {μ : Mu} {I : Ky → Option ItemO}
def Pr.step (p : Pr) (n : NdA) : DnA × Bool × Pr × NdA :=
 match p.q with
 | [] => (⟨0,true,[]⟩,false,p,n)
 | v :: _ =>
  if refu p.c p.inc v n.ws n.dn ≠ 0 then (⟨refu p.c p.inc v n.ws n.dn,true,[]⟩,true,p.pop,n)
  else if p.ex.toNat + 1 < (pcs v.at_ v.cnt).length then
   (⟨0,true,[]⟩,false,{ p with ex := p.ex + 1,wn := (v.out ((pcs v.at_ v.cnt).getD p.ex.toNat (0,0)) n.ws).isEmpty && p.wn,w := p.w ++ v.out ((pcs v.at_ v.cnt).getD p.ex.toNat (0,0)) n.ws },⟨v.mem ((pcs v.at_ v.cnt).getD p.ex.toNat (0,0)) n.ws,n.dn⟩)
  else (⟨0,(v.out ((pcs v.at_ v.cnt).getD p.ex.toNat (0,0)) n.ws).isEmpty && p.wn,p.w ++ v.out ((pcs v.at_ v.cnt).getD p.ex.toNat (0,0)) n.ws⟩,true,p.pop,⟨v.mem ((pcs v.at_ v.cnt).getD p.ex.toNat (0,0)) n.ws,n.dn⟩)
structure Pr.Ok (p : Pr) : Prop where
 c : 0 ≤ p.c∧p.c ≤ 1000
 inc : 0 ≤ p.inc∧p.inc ≤ 1000
 qn : p.q ≠ [] → p.qn = false
 ql : p.q.length ≤ 1024
 w : p.w.length ≤ 100000
 ex0 : 0 ≤ p.ex
 ex : ∀ v r,p.q = v :: r → 1 ≤ v.cnt → p.ex.toNat < (pcs v.at_ v.cnt).length
theorem f39_at : Try.prog.funcs[39]? = some Try.f39 := by kernel_rfl
theorem pz_rec (hK : Kst w0 μ I W) {k : Ky} {pb : Nat} {F : List Nat} {p : Pr} (hw : p.w = []∧p.wn = true) (hI : I k = some (obI pb F 99 (pzC p))) : Kst w0 μ (put I k (some (obI pb F 99 (prC p)))) W := by
 refine hK.recast hI ?_
 obtain ⟨F0,cur,rfl,h2,h3,h4⟩ := hK.ob hI
 refine .ob h2 h3 ?_
 rw [show pzC p = [.v (.int .i64 p.c),.v (.int .i64 p.inc),.v (.int .i64 p.node),.ow p.qn 50 9 (p.q.map Vb.row),.v (.int .i64 p.ex)] ++ [.lst true 0 []] from rfl] at h4
 rw [show prC p = [.v (.int .i64 p.c),.v (.int .i64 p.inc),.v (.int .i64 p.node),.ow p.qn 50 9 (p.q.map Vb.row),.v (.int .i64 p.ex)] ++ [.ow p.wn 47 1 (p.w.map wr)] from rfl]
 obtain ⟨Fa,Fb,v1,v2,rfl,ecur,r1,r2⟩ := b0s_app h4
 rw [ecur]
 refine b0s_join r1 ?_
 cases r2 with
 | @cons Fc Fd _ _ v _ r2 r3 =>
 cases r3
 obtain ⟨hd,rfl⟩ := b0_lst r2
 rw [hw.1,hw.2]
 refine .cons (F := []) (F' := []) ?_ .nil
 cases hd with
 | @lst _ _ _ A c vals hnil hA hc hsz hcell hv =>
 cases A with
 | none => obtain ⟨_,rfl⟩ := hA rfl; exact .own
 | some a => cases hnil
theorem step_call (hK : Kst w0 μ I W) {k l : Ky} (hkl : k ≠ l) {pb nb : Nat} {F E : List Nat} {p : Pr} {n : NdA} (hk : I k = some (obI pb F 99 (prC p))) (hl : I l = some (obI nb E 69 (ndC n))) (hp : p.Ok) (hn : n.ws.length ≤ 100000) :
  Calls Try.prog 39 #[ptr pb,ptr nb] W fun e w' => ∃ (μ' : Mu) (A : Option Addr) (c : Nat) (F' E' : List Nat),e = .returned (.tuple #[.agg #[.int .i64 (p.step n).1.code,.slice A (p.step n).1.w.length c],.bool (p.step n).2.1])∧MuLe μ μ' ∧
   Kst w0 μ' (put (put I l (some (obI nb E' 69 (ndC (p.step n).2.2.2)))) k (some (obI pb F' 99 (prC (p.step n).2.2.1)))) w'∧DR μ' (.lst (p.step n).1.wn 1 ((p.step n).1.w.map wr)) (.slice A (p.step n).1.w.length c) := by
 have hans : ∃ z : Bool,(z = true → (p.step n).2.2.1.w = []∧(p.step n).2.2.1.wn = true)∧ev 39 [pO p,ndO n.ws n.dn] = some ([dA (p.step n).1.code (p.step n).1.wn (p.step n).1.w,.v (.bool (p.step n).2.1)] ++ [.ob 99 (if z then pzC (p.step n).2.2.1 else prC (p.step n).2.2.1),.ob 69 (ndC (p.step n).2.2.2)]) := by
  cases hq : p.q with
  | nil =>
   have e : p.step n = (⟨0,true,[]⟩,false,p,n) := by unfold Pr.step; rw [hq]
   rw [e]
   exact ⟨false,(fun h => by cases h),s_Step_nil p n.ws n.dn hq⟩
  | cons v r =>
   have hqn := hp.qn (by rw [hq]; simp)
   by_cases hr : refu p.c p.inc v n.ws n.dn = 0
   ·obtain ⟨_,hg⟩ := refu_zero hr
    have hlt := hp.ex v r hq hg.pos
    have h0 := hp.ex0
    have hex : p.ex = (p.ex.toNat : Int) := by omega
    have hgo := s_Step_go p n.ws n.dn hq hqn hp.ql hn hp.c hp.inc hr hex hlt hp.w
    by_cases hl : p.ex.toNat + 1 < (pcs v.at_ v.cnt).length
    ·have e : p.step n = (⟨0,true,[]⟩,false,{ p with ex := p.ex + 1,wn := (v.out ((pcs v.at_ v.cnt).getD p.ex.toNat (0,0)) n.ws).isEmpty && p.wn,w := p.w ++ v.out ((pcs v.at_ v.cnt).getD p.ex.toNat (0,0)) n.ws },⟨v.mem ((pcs v.at_ v.cnt).getD p.ex.toNat (0,0)) n.ws,n.dn⟩) := by
      unfold Pr.step; rw [hq]; simp only [hr,ne_eq,not_true_eq_false,if_false,if_pos hl]
     rw [if_pos hl,← hex] at hgo
     rw [e]
     exact ⟨false,(fun h => by cases h),hgo⟩
    ·have e : p.step n = (⟨0,(v.out ((pcs v.at_ v.cnt).getD p.ex.toNat (0,0)) n.ws).isEmpty && p.wn,p.w ++ v.out ((pcs v.at_ v.cnt).getD p.ex.toNat (0,0)) n.ws⟩,true,p.pop,⟨v.mem ((pcs v.at_ v.cnt).getD p.ex.toNat (0,0)) n.ws,n.dn⟩) := by
      unfold Pr.step; rw [hq]; simp only [hr,ne_eq,not_true_eq_false,if_false,if_neg hl]
     rw [if_neg hl] at hgo
     rw [e]
     exact ⟨true,(fun _ => ⟨rfl,rfl⟩),hgo⟩
   ·have e : p.step n = (⟨refu p.c p.inc v n.ws n.dn,true,[]⟩,true,p.pop,n) := by
     unfold Pr.step; rw [hq]; simp only [ne_eq,hr,not_false_eq_true,if_true]
    rw [e]
    exact ⟨true,(fun _ => ⟨rfl,rfl⟩),s_Step_ref p n.ws n.dn hq hqn hp.ql hn hp.c hp.inc hr⟩
 obtain ⟨z,hz,hev⟩ := hans
 generalize p.step n = st at hz hev ⊢
 obtain ⟨d,cm,p',n'⟩ := st
 refine (hK.call2 mix extOk hkl hk hl (bs := []) (vs := []) .nil (ra := [dA d.code d.wn d.w,.v (.bool cm)]) hev f39_at rfl).mono fun e w' he => ?_
 obtain ⟨us,μ',F1,G1,F',E',rfl,hb,hm,hK',_,_,_⟩ := he
 cases hb with
 | @cons Fa Fb Ga Gb _ _ v vs' hb1 hb2 =>
 obtain ⟨rfl,_⟩ := b2s_vals_inv (F := Fb) (G := Gb) [.bool cm] hb2
 obtain ⟨xs,rfl,rfl,hl2,hdr⟩ := b2_aggD hb1 rfl
 match xs,hl2 with
 | [x0,x1],_ =>
 obtain rfl := dr_v (hdr 0 _ x0 rfl rfl)
 have h1 := hdr 1 _ x1 rfl rfl
 obtain ⟨A,c,rfl,_⟩ := dr_slice h1
 rw [List.length_map] at h1 ⊢
 cases z with
 | false => exact ⟨μ',A,c,F',E',rfl,hm,hK',h1⟩
 | true =>
  have hK2 := pz_rec hK' (hz rfl) (put_same _ _ _)
  rw [put_put] at hK2
  exact ⟨μ',A,c,F',E',rfl,hm,hK2,h1⟩
end Go.Proofs.Ytnjccbnlmdajkaa
namespace Go.Proofs.Ytnjccbnlmdajkaa
open Go.RowKit Go.Shelf Go.Lib Go.Ev
set_option maxRecDepth 100000
variable {w0 W : World} {μ : Mu} {I : Ky → Option ItemO} {t fb : Nat} {s : FbC}
theorem s_CloneI (xs : List Int) (h : xs.length ≤ 100000) : ev 40 [.lst false 1 (xs.map irow)] = some [.ow false 3 1 (xs.map irow)] := by
 rw [ev40]
 simp only [cond_false,Bool.and_false,List.nil_append]
 rw [leN_t (by rw [List.length_map]; omega)]
 rfl
theorem f40_at : Try.prog.funcs[40]? = some Try.f40 := by kernel_rfl
theorem irow_flat (xs : List Int) (n : Bool) : flatC (.ow n 3 1 (xs.map irow)) = true := by
 show (xs.map irow).all (fun e => e.all flatV) = true
 rw [List.all_eq_true]
 intro e he
 obtain ⟨x,_,rfl⟩ := List.mem_map.1 he
 rfl
theorem rest_dr {pp pc : Nat} {ix : Int} {rest : List Int} (hK : Kst w0 μ I W) {k : Ky} (hI : I k = some (rowI pp pc 3 1 ((ix :: rest).map irow))) (q : Value) (hq : (q = .slice (some ⟨pp,0 + 1,none⟩) (rest.length + 1 - 1) (pc - 1)∧pc ≠ 1) ∨ (q = .slice (some ⟨pp,0,none⟩) (rest.length + 1 - 1) 0∧pc = 1)) :
  DR (hf W) (.lst false 1 (rest.map irow)) q := by
 obtain ⟨cur,fz,h1,_,_,_,h5,_⟩ := hK.row hI
 rw [List.length_map,List.length_cons] at h5
 have hl : (rest.map irow).length = rest.length := List.length_map ..
 rcases hq with ⟨rfl,hpc⟩ | ⟨rfl,hpc⟩
 ·rw [show rest.length + 1 - 1 = (rest.map irow).length by rw [hl]; rfl]
  refine .lst (fun k _ => .int .i64 (rest.getD k 0)) rfl (fun e => by cases e) (by omega) (fun e he => ?_) (fun a ha k j hk hj => ?_) fun k e j u he hu => ?_
  ·obtain ⟨x,_,rfl⟩ := List.mem_map.1 he; rfl
  ·cases ha
   obtain rfl : j = 0 := by omega
   rw [hl] at hk
   rw [muCell_world,Addr.add_lit]
   have : ((ix :: rest).map irow)[k + 1]? = some (irow (rest.getD k 0)) := by
    rw [List.getElem?_map,List.getElem?_cons_succ,List.getElem?_eq_getElem hk]
    simp [List.getD,List.getElem?_eq_getElem hk]
   have := hK.rcell hI this (j := 0) rfl
   rw [show 0 + 1 + (k * 1 + 0) = (k + 1) * 1 + 0 by omega]; exact this
  ·rw [List.getElem?_map] at he
   cases hr : rest[k]? with
   | none => rw [hr] at he; cases he
   | some y =>
    rw [hr] at he
    cases he
    cases j with
    | zero => cases hu; show DR _ _ (.int .i64 (rest.getD k 0)); rw [List.getD,hr]; exact .v rfl
    | succ j => simp [irow] at hu
 ·obtain rfl : rest = [] := List.eq_nil_of_length_eq_zero (by omega)
  exact .lst (A := some ⟨pp,0,none⟩) (c := 0) (xs := []) (fun _ _ => undef) rfl (fun e => by cases e) (Nat.le_refl _) (fun e he => by cases he) (fun a ha k j hk => absurd hk (Nat.not_lt_zero _)) (fun k e j u hk => by simp at hk)
theorem clonei_call (hK : Kst w0 μ I W) (k : Ky) {rest : List Int} (hl : rest.length ≤ 100000) {q : Value} (hq : DR (hf W) (.lst false 1 (rest.map irow)) q) :
  Calls Try.prog 40 #[q] W fun e w' => ∃ (PA : Option Addr) (c' : Nat) (y : Option ItemO),e = .returned (.slice PA rest.length c')∧Kst w0 μ (put I k y) w'∧Row (put I k y) k (.slice PA rest.length c') 3 1 (rest.map irow) := by
 refine (hK.lent mix extOk (s_CloneI rest hl) f40_at (vals := [q]) (.cons (F := []) (F' := []) (G := []) (G' := []) (.o (.c (.d hq))) .nil)).mono fun e w' he => ?_
 obtain ⟨vs,μ',F1,G1,rfl,hK',hk,_,hb,hn⟩ := he
 obtain ⟨x,rfl,hb2⟩ := Go.Ev.b2s_one hb
 have hb3 := b0_flat (b2_ow hb2) (irow_flat _ _) fun b hb' => hK.noMu (hn b hb')
 have hsz := hK.kept.size
 obtain ⟨y,hK2,hr⟩ := hK'.adoptR k hb3 (fun b hb' => by have := hn b hb'; omega) (fun j x hj b hb' hm => by
  have := hn b hm
  have := hK.lt hj hb'
  omega)
 obtain ⟨A,c,rfl,_⟩ := b0_row hb3
 rw [List.length_map] at hr ⊢
 exact ⟨A,c,y,rfl,hK2,hr⟩
end Go.Proofs.Ytnjccbnlmdajkaa
namespace Go.Proofs.Ytnjccbnlmdajkaa
open Go.RowKit Go.Shelf Go.Lib Go.Ev
set_option maxRecDepth 100000
variable {w0 W : World} {μ : Mu} {I : Ky → Option ItemO} {t fb : Nat} {s : FbC}
theorem stp_fin {μ0 : Mu} {I0 : Ky → Option ItemO} (hm0 : MuLe μ0 μ) (hf0 : ∀ k : Ky,k.1 ≠ t → I k = I0 k) (hK : Kst w0 μ I W) (hR : FbR t I fb s) {c nd : Nat} {x : ClC} {l : LnC} (hc : s.cl[c]? = some x) (hl : x.ln[nd]? = some l) {ix : Nat} {rest : List Int} (hpl : l.a.pl = (ix : Int) :: rest)
  (hix : ix < x.ba.length) (hple : rest.length ≤ 100000) {bc cc bl ll b7 : Nat} (hcv : s.cv = .slice (some ⟨bc,0,none⟩) s.cl.length cc) (hlv : x.lv = .slice (some ⟨bl,0,none⟩) x.ln.length ll) {d : DnA} {F7 : List Nat} (hI7 : I (t,.tmp 1) = some (obI b7 F7 67 d.row)) {A : Option Addr} {cA : Nat}
  (g0 : W.cell? ⟨b7,0,none⟩ = some (.int .i64 d.code)) (g1 : W.cell? ⟨b7,1,none⟩ = some (.slice A d.w.length cA)) (hdw : DR μ (.lst d.wn 1 (d.w.map wr)) (.slice A d.w.length cA)) :
  StpFin bc c bl nd b7 d.code A d.w.length cA W (FSt t w0 μ0 I0 fb { s.a with cl := s.a.cl.set c { x.a with ln := x.a.ln.set nd ⟨l.a.p,rest⟩,ba := x.ba.set ix d,wt := wrap64 (x.wt - 1) } }) := by
 obtain ⟨bc',cc',e1,hIc,hAt⟩ := hR.clsAt hK hc
 rw [hcv] at e1
 injection e1 with q1 q2 q3
 injection q1 with q1
 injection q1 with q1
 subst q1 q3
 have hCl := hR.cl c x hc
 obtain ⟨bl',ll',e2,hIl,hp0,hp1⟩ := hCl.lnAt hK hl
 rw [hlv] at e2
 injection e2 with q1 q2 q3
 injection q1 with q1
 injection q1 with q1
 subst q1 q3
 have hb0 : x.ba[ix]? = some x.ba[ix] := List.getElem?_eq_getElem hix
 obtain ⟨bb,bcap,hbv,hIb⟩ := Row.at hCl.bs hb0
 have hcb := hAt.bv
 rw [hbv] at hcb
 have hrp := hCl.pls nd l hl
 rw [hpl] at hrp
 obtain ⟨pp,pc,hlvv,hIp⟩ := Row.at (n := 0) (x := (ix : Int)) hrp rfl
 rw [hlvv] at hp1
 have hpc := hK.rcell hIp (get_map (f := irow) (n := 0) (x := (ix : Int)) rfl) (j := 0) rfl
 have hbF : bb ≠ b7 := fun e => by
  obtain ⟨F',_,rfl,_⟩ := hK.ob hI7
  exact hK.dj (t,.bat c) (t,.tmp 1) _ _ hIb hI7 (key_ne fun e => by cases e) bb (by simp) (by simp [e])
 have f0 := hK.rfrozen hIb (i := ix) (j := 0) (by rw [List.length_map]; exact hix) (by omega)
 have y0 : ∃ y,W.cell? ⟨bb,ix * 2,none⟩ = some y := ⟨_,hK.rcell hIb (get_map (f := DnA.row) hb0) (j := 0) rfl⟩
 have hKa := hK.rset hIb (get_map (f := DnA.row) hb0) (j := 0) (by omega) (a := .v (.int .i64 d.code)) (v := .int .i64 d.code) (.v rfl)
 obtain ⟨Wa,hWa⟩ : ∃ Wa,W.setCell ⟨bb,ix * 2,none⟩ (.int .i64 d.code) = Wa := ⟨_,rfl⟩
 rw [show W.setCell ⟨bb,ix * 2 + 0,none⟩ (.int .i64 d.code) = Wa from hWa] at hKa
 have hIa := put_same I (t,.bat c) (some (rowI bb bcap 67 2 ((x.ba.map DnA.row).set ix (x.ba[ix].row.set 0 (.v (.int .i64 d.code))))))
 have hra := set_at (y := x.ba[ix].row.set 0 (.v (.int .i64 d.code))) (get_map (f := DnA.row) hb0)
 have f1 := hKa.rfrozen hIa (i := ix) (j := 1) (by rw [List.length_set,List.length_map]; exact hix) (by omega)
 obtain ⟨y1v,hy1,_⟩ := hKa.rcellD hIa hra (j := 1) rfl
 have hKb := hKa.rset hIa hra (j := 1) (by omega) (a := .lst d.wn 1 (d.w.map wr)) (v := .slice A d.w.length cA) hdw
 rw [put_put,set_set'] at hKb
 have hb2 : (x.ba.map DnA.row).set ix ((x.ba[ix].row.set 0 (.v (.int .i64 d.code))).set 1 (.lst d.wn 1 (d.w.map wr))) = (x.ba.set ix d).map DnA.row := by rw [map_set']; rfl
 rw [hb2] at hKb
 obtain ⟨Wb,hWb⟩ : ∃ Wb,Wa.setCell ⟨bb,ix * 2 + 1,none⟩ (.slice A d.w.length cA) = Wb := ⟨_,rfl⟩
 rw [hWb] at hKb
 have hIbb := put_same I (t,.bat c) (some (rowI bb bcap 67 2 ((x.ba.set ix d).map DnA.row)))
 have hIc2 : put I (t,.bat c) (some (rowI bb bcap 67 2 ((x.ba.set ix d).map DnA.row))) (t,.cls) = _ := put_get hIc (key_ne fun e => by cases e)
 have hIl2 : put I (t,.bat c) (some (rowI bb bcap 67 2 ((x.ba.set ix d).map DnA.row))) (t,.lan c) = _ := put_get hIl (key_ne fun e => by cases e)
 have hIp2 : put I (t,.bat c) (some (rowI bb bcap 67 2 ((x.ba.set ix d).map DnA.row))) (t,.plc c nd) = _ := put_get hIp (key_ne fun e => by cases e)
 have h7 : ∀ j,Wb.cell? ⟨b7,j,none⟩ = W.cell? ⟨b7,j,none⟩ := fun j => by
  refine cell_heap ?_ j
  rw [← hWb,setCell_other _ _ _ _ _ (Ne.symm hbF),← hWa,setCell_other _ _ _ _ _ (Ne.symm hbF)]
 have cb := (clAt hKb hIc2 hc).bv
 rw [hbv] at cb
 have cl := hKb.rcell hIl2 (get_map (f := LnC.row) hl) (j := 1) rfl
 rw [hlvv] at cl
 have cp := hKb.rcell hIp2 (get_map (f := irow) (n := 0) (x := (ix : Int)) rfl) (j := 0) rfl
 refine ⟨bb,x.ba.length,bcap,pp,0,rest.length + 1,pc,ix,x.wt,hix,by omega,⟨hcb,hp1,hpc,g0,g1⟩,f0,y0,by rw [hWa]; exact f1,by rw [hWa]; exact ⟨_,hy1⟩,by rw [hWa,hWb]; exact ⟨cb,cl,cp,(h7 0).trans g0,(h7 1).trans g1⟩,fun q hq => ?_⟩
 rw [hWa,hWb]
 have hdr := rest_dr hKb.drew hIp2 q hq
 refine (clonei_call hKb.drew (t,.plc c nd) hple hdr).mono fun e w' he => ?_
 obtain ⟨PA,c',y,rfl,hK3,hr3⟩ := he
 have hIl3 : put (put I (t,.bat c) (some (rowI bb bcap 67 2 ((x.ba.set ix d).map DnA.row)))) (t,.plc c nd) y (t,.lan c) = _ := put_get hIl2 (key_ne fun e => by cases e)
 have hln : nd < (x.ln.map LnC.row).length := by rw [List.length_map]; exact lt_of hl
 have f3 := hK3.rfrozen hIl3 hln (j := 1) (by omega)
 have c3 := hK3.rcell hIl3 (get_map (f := LnC.row) hl) (j := 1) rfl
 have hK4 := hK3.rset hIl3 (get_map (f := LnC.row) hl) (j := 1) (by omega) (a := .v (.slice PA rest.length c')) (v := .slice PA rest.length c') (.v rfl)
 obtain ⟨w2,hw2⟩ : ∃ w2,w'.setCell ⟨bl,nd * 2 + 1,none⟩ (.slice PA rest.length c') = w2 := ⟨_,rfl⟩
 rw [hw2] at hK4
 have hIc4 : put (put (put I (t,.bat c) (some (rowI bb bcap 67 2 ((x.ba.set ix d).map DnA.row)))) (t,.plc c nd) y) (t,.lan c) (some (rowI bl ll 82 2 ((x.ln.map LnC.row).set nd (l.row.set 1 (.v (.slice PA rest.length c')))))) (t,.cls) = _ := put_get (put_get hIc2 (key_ne fun e => by cases e)) (key_ne fun e => by cases e)
 have hcl : c < (s.cl.map ClC.row).length := by rw [List.length_map]; exact lt_of hc
 have f4 := hK4.rfrozen hIc4 hcl (j := 4) (by omega)
 have c4 := hK4.rcell hIc4 (get_map (f := ClC.row) hc) (j := 4) rfl
 have hK5 := hK4.rset hIc4 (get_map (f := ClC.row) hc) (j := 4) (by omega) (a := .v (.int .i64 (wrap64 (x.wt - 1)))) (v := .int .i64 (wrap64 (x.wt - 1))) (.v rfl)
 refine ⟨PA,rest.length,c',w2,rfl,f3,⟨_,c3⟩,hw2,f4,c4,μ,_,{ s with cl := s.cl.set c { x with ln := x.ln.set nd ⟨l.b,.slice PA rest.length c',⟨l.a.p,rest⟩⟩,ba := x.ba.set ix d,wt := wrap64 (x.wt - 1) } },hm0,hK5,?_,?_,put_frame (put_frame (put_frame (put_frame hf0)))⟩
 ·refine hR.client (fun k h1 h2 _ => ?_) ?_ ⟨?_,?_,fun e => ?_,fun i m hm => ?_,fun i m hm => ?_⟩
  ·rw [put_ne _ _ (key_ne h1),put_ne _ _ (key_ne fun e => by subst e; simp [FK.ofC] at h2),put_ne _ _ (key_ne fun e => by subst e; simp [FK.ofC] at h2),put_ne _ _ (key_ne fun e => by subst e; simp [FK.ofC] at h2)]
  ·rw [hcv]
   exact Row.put_same (by rw [List.length_set,List.length_map])
  ·refine .inr ⟨bl,ll,?_,?_⟩
   ·show x.lv = Value.slice _ ((x.ln.set nd _).map LnC.row).length ll
    rw [List.length_map,List.length_set]; exact hlv
   ·refine (put_ne _ _ (key_ne fun e => by cases e)).trans ((put_same _ _ _).trans ?_)
    show _ = some (rowI bl ll 82 2 ((x.ln.set nd _).map LnC.row))
    rw [map_set']; rfl
  ·refine .inr ⟨bb,bcap,?_,put_get (put_get (put_get hIbb (key_ne fun e => by cases e)) (key_ne fun e => by cases e)) (key_ne fun e => by cases e)⟩
   show x.bv = Value.slice _ ((x.ba.set ix d).map DnA.row).length bcap
   rw [List.length_map,List.length_set]; exact hbv
  ·have : (x.ba.set ix d).length = 0 := by rw [show x.ba.set ix d = [] from e]; rfl
   rw [List.length_set] at this; omega
  ·rw [put_ne _ _ (key_ne fun e => by cases e),put_ne _ _ (key_ne fun e => by cases e),put_ne _ _ (key_ne fun e => by cases e),put_ne _ _ (key_ne fun e => by cases e)]
   rcases set_get hm with ⟨rfl,rfl⟩ | ⟨ne,hm⟩
   ·exact hCl.ps i l hl
   ·exact hCl.ps i m hm
  ·rcases set_get hm with ⟨rfl,rfl⟩ | ⟨ne,hm⟩
   ·exact (hr3.put (key_ne fun e => by cases e)).put (key_ne fun e => by cases e)
   ·exact (hCl.pls i m hm).same (by
     rw [put_ne _ _ (key_ne fun e => by cases e),put_ne _ _ (key_ne fun e => by cases e),put_ne _ _ (key_ne fun e => by cases e; exact ne rfl),put_ne _ _ (key_ne fun e => by cases e)])
 ·rw [set_a]
  show _ = _
  unfold ClC.a
  simp only [map_set']
end Go.Proofs.Ytnjccbnlmdajkaa
