/- Programs made of raw numbers; what Apply's results are bounded by. -/
import Derived.Test.YtnhahcomgeeobaaPrg
set_option linter.all false
namespace Go.Proofs.Ytnhahcomgeeobaa
open Go.Ev
def QP (e : Option LR) : Prop := ∃ (f : Bool) (l : List Stm),e = some ⟨some 0,⟨[(3,.sl f 0 0 none)],[⟨1,52,12,false,l.map Stm.row⟩]⟩,[]⟩∧l.length ≤ 5∧∀ s ∈ l,s.ok
theorem QP_of {X Y : Option LR} (hX : QP X) (e : Y = X) : QP Y := by rw [e]; exact hX
theorem l_prog (b : Bool) (rs : List Raw) : ∀ (rest done : List Raw) (acc : List Stm) (f : Bool),rs = done ++ rest → acc.length ≤ done.length → acc.length ≤ 5 → (∀ s ∈ acc,s.ok) → done.length ≤ 5 →
  QP (lp 24 0 0 ⟨[(0,.lst b 7 (rs.map Raw.row)),(3,.sl f 0 0 none),(4,.v (.int .i64 ((done.length : Nat) : Int)))],[⟨1,52,12,false,acc.map Stm.row⟩]⟩)
 | [],done,acc,f,h,h1,h5,h2,h3 => by
  refine ⟨f,acc,?_,by omega,h2⟩
  rw [lp24_0]
  exact cF (ltI_f (by rw [List.length_map,h,List.append_nil]; omega)) rfl
 | r :: rest,done,acc,f,h,h1,h5,h2,h3 => by
  have hlt : done.length < rs.length := by rw [h]; simp
  by_cases hd : done.length < 5
  ·have hrow : lget (rs.map Raw.row) (Int.toNat ((done.length : Nat) : Int)) = r.row := by
    rw [Int.toNat_natCast,lget_map _ _ _ hlt]
    subst h
    simp
   have hw : IntKind.i64.wrap (((done.length : Nat) : Int) + 1) = (((done ++ [r]).length : Nat) : Int) := by rw [w_i64,List.length_append,List.length_singleton]; omega
   obtain ⟨s,hs,hof⟩ := s_of r
   have ih := l_prog b rs rest (done ++ [r]) (acc ++ [s]) false (by rw [h]; simp) (by simp; exact h1) (by simp; omega) (fun x hx => by
    rcases List.mem_append.1 hx with hx | hx
    ·exact h2 x hx
    ·rcases List.mem_singleton.1 hx with rfl; exact hs) (by simp; omega)
   refine QP_of ih ?_
   rw [List.map_append]
   rw [lp24_0,hrow,hw]
   exact cT (ltI_t (by rw [List.length_map]; omega)) (cT (ltI_t (by omega)) (cT (by rw [leI_t (by omega),ltI_t (by rw [List.length_map]; omega)]; rfl) (cT rfl (bnd hof (cT rfl (cT (leN_t (by rw [List.length_map]; omega)) rfl))))))
  ·refine ⟨f,acc,?_,h5,h2⟩
   rw [lp24_0]
   exact cT (ltI_t (by rw [List.length_map]; omega)) (cF (ltI_f (by omega)) rfl)
theorem s_program (b : Bool) (rs : List Raw) : ∃ (f : Bool) (l : List Stm),ev 24 [.lst b 7 (rs.map Raw.row)] = some [.lst f 12 (l.map Stm.row)]∧1 ≤ l.length∧l.length ≤ 5∧∀ s ∈ l,s.ok := by
 obtain ⟨f,l,h,h1,h2⟩ := l_prog b rs rs [] [] false rfl (Nat.le_refl _) (Nat.zero_le _) (fun s hs => by cases hs) (Nat.zero_le _)
 rw [ev24]
 cases l with
 | nil =>
  refine ⟨false,[⟨7,1,9,0,0,0,0,0,0,0,0,0⟩],?_,Nat.le_refl _,by decide,?_⟩
  ·exact bnd h (cT rfl (cT rfl (cT rfl (cT rfl rfl))))
  ·intro s hs
   rcases List.mem_singleton.1 hs with rfl
   unfold Stm.ok i64ok
   decide
 | cons a l =>
  refine ⟨f,a :: l,?_,by simp,h1,h2⟩
  refine bnd h (cT rfl (cT rfl (cF ?_ rfl)))
  show (((((List.length ((a :: l).map Stm.row)) - 0) : Nat) : Int) == 0) = false
  rw [List.length_map,beq_eq_false_iff_ne,List.length_cons]
  omega
def RB (rs : List Res) : Prop := ∀ r ∈ rs,r.rows.length ≤ 1000
theorem cut_len (n : Int) (F : List Rw) : (cutB n F).length ≤ F.length := by
 unfold cutB
 cases ltI 0 n with
 | true => simp only [cond_true,List.length_take]; omega
 | false => exact Nat.le_refl _
theorem stp_rows (s : Stm) (ts : List Rw) (h : ts.length ≤ 999) : (stp s ts).2.1.rows.length ≤ 1000 := by
 have hf := List.length_filter_le (selB s) ts
 unfold stp
 cases leI s.k 4 with
 | true => exact Nat.zero_le _
 | false =>
  simp only [cond_false]
  unfold rdR
  cases (s.k == 6) with
  | true => have := cut_len s.lim (ts.filter (selB s)); simp only [cond_true]; omega
  | false =>
   cases (s.k == 7) with
   | true => exact Nat.zero_le _
   | false =>
    cases (s.k == 8) with
    | true => cases sumB (tot s.col.toNat (ts.filter (selB s))) <;> exact Nat.zero_le _
    | false =>
     cases (s.k == 5) with
     | true => cases hasK ts s.key (pl ts s.key) <;> simp [r0]
     | false =>
      cases hasK ts s.key (pl ts s.key) with
      | false => exact Nat.zero_le _
      | true => cases holdB s.wc s.wo s.wv (ts.getD (pl ts s.key) rz).a (ts.getD (pl ts s.key) rz).b (ts.getD (pl ts s.key) rz).c <;> exact Nat.zero_le _
structure AppOk (t0 : List Rw) (l : List Stm) (ts : List Rw) (i : Nat) (acc : List Res) (o : List Rw × List Res × Nat × Int) : Prop where
 val : tval 0 o.1 = true
 ok : OkT o.1
 len : o.1.length ≤ max t0.length (ts.length + l.length)
 rb : RB o.2.1
 rlen : o.2.1.length ≤ acc.length + l.length
 err : o.2.2.2 ≠ 0 → o.1 = t0∧o.2.1 = []∧i ≤ o.2.2.1∧o.2.2.1 < i + l.length
theorem appR_ok (t0 : List Rw) (h0 : tval 0 t0 = true) (h00 : OkT t0) : ∀ (l : List Stm) (ts : List Rw) (i : Nat) (acc : List Res),(∀ s ∈ l,s.V∧s.ok) → tval 0 ts = true → OkT ts → ts.length + l.length ≤ 999 → RB acc → AppOk t0 l ts i acc (appR t0 l ts i acc)
 | [],ts,i,acc,_,h1,h2,h3,h4 => ⟨h1,h2,by simp [appR]; omega,h4,Nat.le_refl _,fun h => absurd rfl h⟩
 | s :: ss,ts,i,acc,hv,h1,h2,h3,h4 => by
  obtain ⟨hsv,hsok⟩ := hv s (by simp)
  obtain ⟨k1,k2,k3⟩ := w_mem hsv hsok h1 h2
  have h3' : ts.length + ss.length + 1 ≤ 999 := by simpa [Nat.add_assoc] using h3
  have ih := appR_ok t0 h0 h00 ss (stp s ts).1 (i + 1) (acc ++ [(stp s ts).2.1]) (fun x hx => hv x (by simp [hx])) k1 k2 (by omega) (fun r hr => by
   rcases List.mem_append.1 hr with hr | hr
   ·exact h4 r hr
   ·rcases List.mem_singleton.1 hr with rfl
    exact stp_rows s ts (by omega))
  unfold appR
  cases hc : ((stp s ts).2.2 == 0) with
  | true =>
   refine ⟨ih.val,ih.ok,?_,ih.rb,?_,fun h => ?_⟩
   ·have := ih.len; simp only [cond_true,List.length_cons]; omega
   ·have := ih.rlen; simp only [cond_true,List.length_cons,List.length_append,List.length_nil] at this ⊢; omega
   ·obtain ⟨e1,e2,e3,e4⟩ := ih.err h
    simp only [cond_true,List.length_cons]
    exact ⟨e1,e2,by omega,by omega⟩
  | false =>
   refine ⟨h0,h00,?_,(fun r hr => by cases hr),Nat.zero_le _,fun _ => ⟨rfl,rfl,Nat.le_refl _,?_⟩⟩
   ·simp only [cond_false]; omega
   ·simp only [cond_false,List.length_cons]; omega
theorem applyM_ok (t : List Rw) (l : List Stm) (hT : OkT t) (hok : ∀ s ∈ l,s.ok) (hl : l.length ≤ 20) (ht : t.length ≤ 900) : OkT (applyM t l).1∧(applyM t l).1.length ≤ t.length + 8∧RB (applyM t l).2.1∧(applyM t l).2.1.length ≤ 8∧(tval 0 t = true → tval 0 (applyM t l).1 = true)∧((applyM t l).2.2.2 ≠ 0 → (applyM t l).1 = t∧(applyM t l).2.1 = []∧(l ≠ [] → (applyM t l).2.2.1 < l.length)) := by
 unfold applyM
 cases hp : okP l with
 | false => exact ⟨hT,by simp,fun r hr => (by cases hr),Nat.zero_le _,fun h => h,fun _ => ⟨rfl,rfl,fun h => List.length_pos_iff.2 h⟩⟩
 | true =>
  cases hv : tval 0 t with
  | false => exact ⟨hT,by simp,fun r hr => (by cases hr),Nat.zero_le _,fun h => by simp at h,fun _ => ⟨rfl,rfl,fun h => List.length_pos_iff.2 h⟩⟩
  | true =>
   obtain ⟨hl8,hV⟩ := okP_V hp
   have := appR_ok t hv hT l t 0 [] (fun s hs => ⟨hV s hs,hok s hs⟩) hv hT (by omega) (fun r hr => by cases hr)
   refine ⟨this.ok,?_,this.rb,?_,fun _ => this.val,fun h => ?_⟩
   ·have := this.len; simp only [Bool.true_and,cond_true]; omega
   ·have := this.rlen; simp only [Bool.true_and,cond_true,List.length_nil] at this ⊢; omega
   ·obtain ⟨e1,e2,_,e4⟩ := this.err h
    exact ⟨e1,e2,fun _ => by simpa using e4⟩
theorem bdR_of {acc : List (Bool × Res)} {rs : List Res} (h : acc.map Prod.snd = rs) (hb : RB rs) : bdR acc := by
 intro p hp
 have := hb p.2 (by rw [← h]; exact List.mem_map_of_mem hp)
 omega
theorem len_of {acc : List (Bool × Res)} {rs : List Res} (h : acc.map Prod.snd = rs) : acc.length = rs.length := by rw [← h,List.length_map]
end Go.Proofs.Ytnhahcomgeeobaa
