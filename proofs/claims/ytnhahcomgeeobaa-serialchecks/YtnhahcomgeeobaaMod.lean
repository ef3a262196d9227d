/- What one statement does to a table,and what it gives. -/
import Derived.Test.YtnhahcomgeeobaaWrite
set_option linter.all false
namespace Go.Proofs.Ytnhahcomgeeobaa
open Go.Ev
def pl : List Rw → Int → Nat
 | [],_ => 0
 | r :: rs,y => bif leI y r.k then 0 else pl rs y + 1
theorem At_pl : ∀ (ts : List Rw) (y : Int) (r : Nat),At ts y r → r = pl ts y
 | [],y,r,h => by have := h.le; simp at this; exact this
 | a :: zs,y,r,h => by
  unfold pl
  by_cases c : y ≤ a.k
  ·rw [leI_t c]
   match r,h with
   | 0,_ => rfl
   | r + 1,h => exfalso; have := h.lo 0 (by omega); simp at this; omega
  ·rw [leI_f (by omega)]
   match r,h with
   | 0,h => exfalso; have := h.hi 0 (by omega) (by simp); simp at this; omega
   | r + 1,h =>
    have ih := At_pl zs y r ⟨by have := h.le; simp at this; exact this,fun i hi => by have := h.lo (i + 1) (by omega); simpa using this,fun i h1 h2 => by have := h.hi (i + 1) (by omega) (by simp; exact h2); simpa using this⟩
    rw [ih]; rfl
structure Res where
 rows : List Rw
 num : Int
def Res.cells (b : Bool) (r : Res) : List AV := [.lst b 4 (r.rows.map Rw.row),.v (.int .i64 r.num)]
def outB (l : List (Bool × Res)) : List (List AV) := l.map fun p => p.2.cells p.1
def sumB (x : Int) : Bool := decide (-9223372036854775808 ≤ x∧x ≤ 9223372036854775807)
def cutB (n : Int) (l : List Rw) : List Rw := bif ltI 0 n then l.take n.toNat else l
def r0 : Res := ⟨[],0⟩
def rdR (s : Stm) (ts : List Rw) : Res × Int :=
 bif s.k == 6 then (⟨cutB s.lim (ts.filter (selB s)),0⟩,0) else
 bif s.k == 7 then (⟨[],((ts.filter (selB s)).length : Nat)⟩,0) else
 bif s.k == 8 then (bif sumB (tot s.col.toNat (ts.filter (selB s))) then (⟨[],tot s.col.toNat (ts.filter (selB s))⟩,0) else (r0,2)) else
 bif s.k == 5 then (bif hasK ts s.key (pl ts s.key) then (⟨[ts.getD (pl ts s.key) rz],0⟩,0) else (r0,0)) else
 bif hasK ts s.key (pl ts s.key) then
  (bif holdB s.wc s.wo s.wv (ts.getD (pl ts s.key) rz).a (ts.getD (pl ts s.key) rz).b (ts.getD (pl ts s.key) rz).c then (r0,0) else (r0,20))
 else (r0,16)
def stp (s : Stm) (ts : List Rw) : List Rw × Res × Int :=
 bif leI s.k 4 then ((wrR s ts (pl ts s.key)).1,r0,(wrR s ts (pl ts s.key)).2) else (ts,rdR s ts)
def appR (t0 : List Rw) : List Stm → List Rw → Nat → List Res → List Rw × List Res × Nat × Int
 | [],ts,_,acc => (ts,acc,0,0)
 | s :: ss,ts,i,acc => bif (stp s ts).2.2 == 0 then appR t0 ss (stp s ts).1 (i + 1) (acc ++ [(stp s ts).2.1]) else (t0,[],i,(stp s ts).2.2)
def okP (l : List Stm) : Bool := decide (1 ≤ l.length∧l.length ≤ 8) && l.all Stm.valid
def applyM (t : List Rw) (l : List Stm) : List Rw × List Res × Nat × Int :=
 bif okP l && tval 0 t then appR t l t 0 [] else (t,[],0,1)
theorem tval_iff : ∀ (ts : List Rw) (last : Int),tval last ts = true ↔ (∀ r ∈ ts,last < r.k∧r.k ≤ 4294967294)∧ts.Pairwise (fun a b => a.k < b.k)
 | [],last => by simp [tval]
 | r :: rs,last => by
  unfold tval
  by_cases h1 : r.k ≤ last
  ·rw [leI_t h1]
   constructor
   ·intro h; cases h
   ·intro h; have := h.1 r (by simp); omega
  ·rw [leI_f (by omega),cond_false]
   by_cases h2 : 4294967294 < r.k
   ·rw [ltI_t h2]
    constructor
    ·intro h; cases h
    ·intro h; have := h.1 r (by simp); omega
   ·rw [ltI_f (by omega),cond_false,tval_iff rs r.k,List.pairwise_cons]
    constructor
    ·rintro ⟨h3,h4⟩
     refine ⟨fun x hx => ?_,fun x hx => (h3 x hx).1,h4⟩
     rcases List.mem_cons.1 hx with rfl | hx
     ·omega
     ·have := h3 x hx; omega
    ·rintro ⟨h3,h4,h5⟩
     exact ⟨fun x hx => ⟨h4 x hx,(h3 x (by simp [hx])).2⟩,h5⟩
theorem tval_asc {ts : List Rw} (h : tval 0 ts = true) : Asc ts := by
 have hp := ((tval_iff ts 0).1 h).2
 intro i j hij hj
 by_cases e : i = j
 ·rw [e]; exact Int.le_refl _
 ·have := List.pairwise_iff_getElem.1 hp i j (by omega) hj (by omega)
  simp [hj,show i < ts.length by omega]
  omega
theorem tval_set : ∀ (ts : List Rw) (i : Nat) (last : Int) (x : Rw),x.k = (ts.getD i rz).k → tval last (ts.set i x) = tval last ts
 | [],i,last,x,h => by simp
 | r :: rs,0,last,x,h => by
  simp at h
  simp only [List.set_cons_zero,tval,h]
 | r :: rs,i + 1,last,x,h => by
  simp at h
  simp only [List.set_cons_succ,tval]
  rw [tval_set rs i r.k x (by simpa using h)]
theorem tval_del (ts : List Rw) (i : Nat) (h : tval 0 ts = true) : tval 0 (delT ts i) = true := by
 rw [tval_iff] at h ⊢
 have hs : (delT ts i).Sublist ts := by
  unfold delT
  have : ts = ts.take i ++ ts.drop i := (List.take_append_drop i ts).symm
  have h2 : (ts.take i ++ ts.drop (i + 1)).Sublist (ts.take i ++ ts.drop i) := by
   refine List.Sublist.append_left ?_ _
   rw [← List.drop_drop]
   exact List.drop_sublist _ _
  rw [← this] at h2
  exact h2
 exact ⟨fun r hr => h.1 r (hs.subset hr),h.2.sublist hs⟩
theorem tval_ins : ∀ (ts : List Rw) (last y : Int) (x : Rw),x.k = y → last < y → y ≤ 4294967294 → tval last ts = true → hasK ts y (pl ts y) = false → tval last (insT ts (pl ts y) x) = true
 | [],last,y,x,h1,h2,h3,_,_ => by
  show tval last [x] = true
  unfold tval
  rw [h1,leI_f h2,ltI_f h3]; rfl
 | a :: zs,last,y,x,h1,h2,h3,h4,h5 => by
  unfold pl at h5 ⊢
  by_cases c : y ≤ a.k
  ·rw [leI_t c] at h5 ⊢
   simp only [cond_true] at h5 ⊢
   have hne : a.k ≠ y := by
    intro e
    simp [hasK,e] at h5
   show tval last (x :: a :: zs) = true
   unfold tval at h4
   unfold tval
   rw [h1,leI_f h2,ltI_f h3]
   simp only [cond_false]
   unfold tval
   rw [leI_f (by omega)]
   revert h4
   cases leI a.k last with
   | true => intro h; cases h
   | false => exact fun h => h
  ·rw [leI_f (by omega)] at h5 ⊢
   simp only [cond_false] at h5 ⊢
   have e : insT (a :: zs) (pl zs y + 1) x = a :: insT zs (pl zs y) x := by simp [insT]
   rw [e]
   have h5' : hasK zs y (pl zs y) = false := by
    unfold hasK at h5 ⊢
    simpa using h5
   unfold tval at h4 ⊢
   revert h4
   cases leI a.k last with
   | true => intro h; cases h
   | false =>
    simp only [cond_false]
    cases ltI 4294967294 a.k with
    | true => intro h; cases h
    | false => exact fun h => tval_ins zs a.k y x h1 (by omega) h3 h h5'
theorem set_k (r : Rw) (c : Nat) (v : Int) : (r.set c v).k = r.k := by
 unfold Rw.set
 split
 ·rfl
 ·split <;> rfl
theorem set_ok {r : Rw} (h : r.ok) (c : Nat) {v : Int} (hv : -9223372036854775808 ≤ v∧v ≤ 9223372036854775807) : (r.set c v).ok := by
 obtain ⟨h1,h2,h3,h4⟩ := h
 unfold Rw.set
 split
 ·exact ⟨h1,hv,h3,h4⟩
 ·split
  ·exact ⟨h1,h2,hv,h4⟩
  ·exact ⟨h1,h2,h3,hv⟩
def OkT (ts : List Rw) : Prop := ∀ x ∈ ts,x.ok
theorem okT_set {ts : List Rw} (h : OkT ts) (i : Nat) {x : Rw} (hx : x.ok) : OkT (ts.set i x) := by
 intro y hy
 rcases List.mem_or_eq_of_mem_set hy with h1 | rfl
 ·exact h y h1
 ·exact hx
theorem w_mem {s : Stm} {ts : List Rw} (hv : s.V) (hok : s.ok) (ht : tval 0 ts = true) (hT : OkT ts) : tval 0 (stp s ts).1 = true∧OkT (stp s ts).1∧(stp s ts).1.length ≤ ts.length + 1 := by
 unfold stp
 cases leI s.k 4 with
 | false => exact ⟨ht,hT,by simp⟩
 | true =>
  simp only [cond_true]
  unfold wrR
  cases h1 : (s.k == 1) with
  | true =>
   cases hk : hasK ts s.key (pl ts s.key) with
   | true => exact ⟨ht,hT,by simp⟩
   | false =>
    refine ⟨tval_ins ts 0 s.key _ rfl (by have := hv.2.1; omega) (by have := hv.2.1; omega) ht hk,?_,?_⟩
    ·intro x hx
     simp only [cond_true,cond_false,insT,List.mem_append,List.mem_cons] at hx
     rcases hx with hx | rfl | hx
     ·exact hT x (List.mem_of_mem_take hx)
     ·obtain ⟨_,h2,_,h3,h4,h5,_⟩ := hok
      exact ⟨h2,h3,h4,h5⟩
     ·exact hT x (List.mem_of_mem_drop hx)
    ·simp only [cond_true,cond_false,insT,List.length_append,List.length_cons,List.length_take,List.length_drop]
     omega
  | false =>
   cases hk : hasK ts s.key (pl ts s.key) with
   | false => exact ⟨ht,hT,by simp⟩
   | true =>
    have hlt := hasK_lt hk
    have hro := hT _ (mem_getD ts rz _ hlt)
    cases h4 : (s.k == 4) with
    | true =>
     refine ⟨tval_del ts _ ht,?_,?_⟩
     ·intro x hx
      simp only [cond_true,cond_false,Bool.not_true,delT,List.mem_append] at hx
      rcases hx with hx | hx
      ·exact hT x (List.mem_of_mem_take hx)
      ·exact hT x (List.mem_of_mem_drop hx)
     ·simp only [cond_true,cond_false,Bool.not_true,delT,List.length_append,List.length_take,List.length_drop]
      omega
    | false =>
     cases h2 : (s.k == 2) with
     | true =>
      refine ⟨(tval_set ts _ 0 _ (set_k _ _ _)).trans ht,okT_set hT _ (set_ok hro _ ?_),?_⟩
      ·obtain ⟨_,_,_,_,_,_,_,h,_⟩ := hok; exact h
      ·simp
     | false =>
      cases h3 : (s.k == 3) with
      | false => exact ⟨ht,hT,by simp⟩
      | true =>
       simp only [cond_true,cond_false,Bool.not_true]
       by_cases hd : -9223372036854775808 ≤ (ts.getD (pl ts s.key) rz).col s.col.toNat + s.v∧(ts.getD (pl ts s.key) rz).col s.col.toNat + s.v ≤ 9223372036854775807
       ·rw [decide_eq_true hd]
        refine ⟨(tval_set ts _ 0 _ (set_k _ _ _)).trans ht,okT_set hT _ (set_ok hro _ ?_),?_⟩
        ·rw [w_i64]; omega
        ·simp
       ·rw [decide_eq_false hd]
        exact ⟨ht,hT,by simp⟩
theorem V_of {s : Stm} (h : s.valid = true) : s.V := by unfold Stm.valid at h; exact of_decide_eq_true h
theorem s_write (s : Stm) (hv : s.V) (hok : s.ok) (hk : s.k ≤ 4) (b : Bool) (ts : List Rw) (hb : b = true → ts = []) (ht : tval 0 ts = true) (hT : OkT ts) (hlen : ts.length ≤ 1000) : ∃ b' : Bool,(b' = true → (stp s ts).1 = []) ∧
  ev 49 [.ow b 91 4 (ts.map Rw.row),.agg s.row] = some [.ow b' 91 4 ((stp s ts).1.map Rw.row),.v (.int .i64 (stp s ts).2.2)] := by
 have e1 : (stp s ts).1 = (wrR s ts (pl ts s.key)).1 := by unfold stp; rw [leI_t hk]; rfl
 have e2 : (stp s ts).2.2 = (wrR s ts (pl ts s.key)).2 := by unfold stp; rw [leI_t hk]; rfl
 rw [e1,e2]
 by_cases h14 : s.k = 1 ∨ s.k = 4
 ·obtain ⟨r,b',ha,h1,h2⟩ := s_write1 s (by simpa using h14) b ts hb (tval_asc ht) hlen
  rw [At_pl _ _ _ ha] at h1 h2
  exact ⟨b',h1,h2⟩
 ·have hc := hv.1
  have h5 := hv.2.2.2.2.1
  obtain ⟨_,_,_,_,_,_,_,hvv,_⟩ := hok
  obtain ⟨r,b',ha,h1,h2⟩ := s_write2 s (by simp; omega) (by simp; omega) (by simp; omega) (by omega) hvv b ts hb (tval_asc ht) hT hlen
  rw [At_pl _ _ _ ha] at h1 h2
  exact ⟨b',h1,h2⟩
end Go.Proofs.Ytnhahcomgeeobaa
