/- What Apply does: the program's statements one after the other. -/
import Derived.Test.YtnhahcomgeeobaaMod
set_option linter.all false
namespace Go.Proofs.Ytnhahcomgeeobaa
open Go.Ev
theorem outB_snoc (acc : List (Bool × Res)) (n : Bool) (r : Res) : outB (acc ++ [(n,r)]) = outB acc ++ [r.cells n] := by simp [outB]
theorem outB_len (acc : List (Bool × Res)) : (outB acc).length = acc.length := by simp [outB]
theorem rows_rowV (F : List Rw) : List.all (F.map Rw.row) rowV = true := by
 induction F with
 | nil => rfl
 | cons a F ih =>
  rw [List.map_cons,List.all_cons,ih,Bool.and_true]
  rfl
def S27 (tn : Bool) (t0 : List Rw) (x4 : Bool) (ts : List Rw) (x5 : Bool) (acc : List (Bool × Res)) (ln : Bool) (l : List Stm) (i : Nat) : St :=
 ⟨[(0,.lst tn 4 (t0.map Rw.row)),(4,.sl x4 0 0 none),(5,.sl x5 1 0 none),(30,.lst ln 12 (l.map Stm.row)),(31,.v (.int .i64 (((List.length (l.map Stm.row)) : Nat) : Int))),(32,.v (.int .i64 ((i : Nat) : Int)))],[⟨1,91,4,false,ts.map Rw.row⟩,⟨1,68,2,false,outB acc⟩]⟩
theorem fin27 {tn : Bool} {t0 : List Rw} {x4 : Bool} {ts : List Rw} {acc : List (Bool × Res)} {ln : Bool} {l : List Stm} {i : Nat} {r : Res} {n : Bool} {rs xs : List (List AV)} {v w : Int}
  (h1 : rs = ts.map Rw.row) (h2 : xs = r.rows.map Rw.row) (h3 : v = r.num) (h4 : w = ((i + 1 : Nat) : Int)) :
  lp 27 0 0 ⟨[(0,.lst tn 4 (t0.map Rw.row)),(4,.sl x4 0 0 none),(5,.sl false 1 0 none),(30,.lst ln 12 (l.map Stm.row)),(31,.v (.int .i64 (((List.length (l.map Stm.row)) : Nat) : Int))),(32,.v (.int .i64 w))],[⟨1,91,4,false,rs⟩,⟨1,68,2,false,outB acc ++ [[.lst n 4 xs,.v (.int .i64 v)]]⟩]⟩ =
  lp 27 0 0 (S27 tn t0 x4 ts false (acc ++ [(n,r)]) ln l (i + 1)) := by
 subst h1 h2 h3 h4
 unfold S27
 rw [outB_snoc]; rfl
def E27 (tn : Bool) (t0 : List Rw) (i : Nat) (c : Int) : Option LR := some ⟨none,⟨[],[]⟩,[.ow tn 91 4 (t0.map Rw.row),.ow true 68 2 [],.v (.int .i64 ((i : Nat) : Int)),.v (.int .i64 c)]⟩
theorem cut_take (n : Int) (h : 0 < n) (F : List Rw) : List.take (Int.toNat (if n < ((((F.map Rw.row).length - 0 : Nat)) : Int) then n else ((((F.map Rw.row).length - 0 : Nat)) : Int))) (F.map Rw.row) = (cutB n F).map Rw.row := by
 unfold cutB
 rw [ltI_t h,cond_true,List.map_take]
 split
 ·rfl
 ·rename_i hh
  rw [Nat.sub_zero,Int.toNat_natCast,List.take_length,List.take_of_length_le]
  omega
theorem l27_step (tn : Bool) (t0 : List Rw) (htn : tn = true → t0 = []) (ht0 : t0.length ≤ 1000) (x4 : Bool) (ts : List Rw) (hb : x4 = true → ts = []) (x5 : Bool) (acc : List (Bool × Res)) (ln : Bool) (l : List Stm) (i : Nat) (s : Stm) (hi : i < l.length) (hs : l[i]? = some s) (hl : l.length ≤ 8) (hacc : acc.length ≤ 100)
  (hv : s.V) (hok : s.ok) (ht : tval 0 ts = true) (hT : OkT ts) (hlen : ts.length ≤ 1000) :
  ∃ x4' nb : Bool,(x4' = true → (stp s ts).1 = [])∧lp 27 0 0 (S27 tn t0 x4 ts x5 acc ln l i) = bif (stp s ts).2.2 == 0 then lp 27 0 0 (S27 tn t0 x4' (stp s ts).1 false (acc ++ [(nb,(stp s ts).2.1)]) ln l (i + 1)) else E27 tn t0 i (stp s ts).2.2 := by
 have hrow : lget (l.map Stm.row) (Int.toNat ((i : Nat) : Int)) = s.row := by
  rw [Int.toNat_natCast,lget_map _ _ _ hi]
  rw [List.getElem?_eq_getElem hi] at hs
  rw [Option.some.inj hs]
 have hw : IntKind.i64.wrap (((i : Nat) : Int) + 1) = ((i + 1 : Nat) : Int) := by rw [w_i64]; omega
 have hleN : leN (((List.length (outB acc)) + 1) * 32) 140737488355328 = true := leN_t (by rw [outB_len]; omega)
 have hcl := s_tclone tn t0 htn (by omega)
 have hspan := s_span s x4 ts (by omega)
 have h1 : ltI ((i : Nat) : Int) (((List.length (l.map Stm.row)) : Nat) : Int) = true := ltI_t (by rw [List.length_map]; omega)
 have h2 : (leI 0 ((i : Nat) : Int) && ltI ((i : Nat) : Int) (((List.length (l.map Stm.row)) : Nat) : Int)) = true := by rw [leI_t (by omega),h1]; rfl
 by_cases hk : s.k ≤ 4
 ·obtain ⟨b',hb',hwr⟩ := s_write s hv hok hk x4 ts hb ht hT hlen
  have er : (stp s ts).2.1 = r0 := by unfold stp; rw [leI_t hk]; rfl
  refine ⟨b',true,hb',?_⟩
  unfold S27
  rw [lp27_0,hrow]
  refine cT h1 (cT h2 (cT rfl (bnd (s_Writes s) (cT rfl (cT (decide_eq_true ⟨hv.1.1,hk⟩) (bnd hwr (cT rfl (cT rfl ?_))))))))
  show cond (!((stp s ts).2.2 == 0)) _ _ = _
  cases hc : ((stp s ts).2.2 == 0) with
  | false => exact cT rfl (bnd hcl (cT rfl rfl))
  | true =>
   refine cF rfl (cT hleN ?_)
   exact fin27 rfl (by rw [er]; rfl) (by rw [er]; rfl) hw
 ·have es : stp s ts = (ts,rdR s ts) := by unfold stp; rw [leI_f (by omega)]; rfl
  rw [es]
  have hnw : decide (1 ≤ s.k∧s.k ≤ 4) = false := decide_eq_false (by omega)
  by_cases h6 : s.k = 6
  ·have hk6 : (s.k == 6) = true := by simp [h6]
   have e : rdR s ts = (⟨cutB s.lim (ts.filter (selB s)),0⟩,0) := by unfold rdR; rw [hk6]; rfl
   rw [e]
   refine ⟨x4,(ts.filter (selB s)).isEmpty,hb,?_⟩
   unfold S27
   rw [lp27_0,hrow]
   refine cT h1 (cT h2 (cT rfl (bnd (s_Writes s) (cT rfl (cF hnw (cT hk6 (bnd hspan (cT rfl (cT ?_ ?_)))))))))
   ·show (false || (List.all ((ts.filter (selB s)).map Rw.row) rowV && true)) = true
    rw [rows_rowV]; rfl
   ·show cond (ltI 0 s.lim) _ _ = _
    by_cases hlim : 0 < s.lim
    ·refine cT (ltI_t hlim) (cT ?_ (cT hleN ?_))
     ·show (leI 0 (if s.lim < ((((ts.filter (selB s)).map Rw.row).length - 0 : Nat) : Int) then s.lim else ((((ts.filter (selB s)).map Rw.row).length - 0 : Nat) : Int)) && leI (if s.lim < ((((ts.filter (selB s)).map Rw.row).length - 0 : Nat) : Int) then s.lim else ((((ts.filter (selB s)).map Rw.row).length - 0 : Nat) : Int)) ((((ts.filter (selB s)).map Rw.row).length - 0 : Nat) : Int)) = true
      split
      ·rw [leI_t (by omega),leI_t (by omega)]; rfl
      ·rw [leI_t (by omega),leI_t (by omega)]; rfl
     ·exact fin27 rfl (cut_take _ hlim _) rfl hw
    ·refine cF (ltI_f (by omega)) (cT hleN ?_)
     refine fin27 rfl ?_ rfl hw
     unfold cutB
     rw [ltI_f (by omega)]; rfl
  by_cases h7 : s.k = 7
  ·have hk6 : (s.k == 6) = false := by simp [h7]
   have hk7 : (s.k == 7) = true := by simp [h7]
   have e : rdR s ts = (⟨[],((ts.filter (selB s)).length : Nat)⟩,0) := by unfold rdR; rw [hk6,hk7]; rfl
   rw [e]
   refine ⟨x4,true,hb,?_⟩
   unfold S27
   rw [lp27_0,hrow]
   refine cT h1 (cT h2 (cT rfl (bnd (s_Writes s) (cT rfl (cF hnw (cF hk6 (cT hk7 (bnd hspan (cT rfl (cT ?_ (cT hleN ?_)))))))))))
   ·show (false || (List.all ((ts.filter (selB s)).map Rw.row) rowV && true)) = true
    rw [rows_rowV]; rfl
   ·refine fin27 rfl rfl ?_ hw
    show ((((List.length ((ts.filter (selB s)).map Rw.row)) - 0) : Nat) : Int) = (((ts.filter (selB s)).length : Nat) : Int)
    rw [List.length_map]; rfl
  by_cases h8 : s.k = 8
  ·have hk6 : (s.k == 6) = false := by simp [h8]
   have hk7 : (s.k == 7) = false := by simp [h8]
   have hk8 : (s.k == 8) = true := by simp [h8]
   have hc := hv.2.2.2.2.1
   have hcol : s.col = ((s.col.toNat : Nat) : Int) := by omega
   have htot := s_total (ts.filter (selB s)).isEmpty (ts.filter (selB s)) s.col.toNat (by omega) (fun r hr => hT r (List.mem_filter.1 hr).1) (by have := List.length_filter_le (selB s) ts; omega)
   rw [← hcol] at htot
   have hall : (false || (List.all ((ts.filter (selB s)).map Rw.row) rowV && true)) = true := by rw [rows_rowV]; rfl
   cases hsum : sumB (tot s.col.toNat (ts.filter (selB s))) with
   | true =>
    have e : rdR s ts = (⟨[],tot s.col.toNat (ts.filter (selB s))⟩,0) := by unfold rdR; rw [hk6,hk7,hk8,hsum]; rfl
    rw [e]
    refine ⟨x4,true,hb,?_⟩
    unfold S27
    rw [lp27_0,hrow]
    refine cT h1 (cT h2 (cT rfl (bnd (s_Writes s) (cT rfl (cF hnw (cF hk6 (cF hk7 (cT hk8 (bnd hspan (cT rfl (cT hall (bnd htot (cT rfl (cT rfl ?_))))))))))))))
    show cond (!(sumB (tot s.col.toNat (ts.filter (selB s))))) _ _ = _
    refine cF (by rw [hsum]; rfl) (cT hleN ?_)
    refine fin27 rfl rfl ?_ hw
    have := of_decide_eq_true hsum
    show IntKind.i64.wrap (tot s.col.toNat (ts.filter (selB s))) = tot s.col.toNat (ts.filter (selB s))
    rw [w_i64]; omega
   | false =>
    have e : rdR s ts = (r0,2) := by unfold rdR; rw [hk6,hk7,hk8,hsum]; rfl
    rw [e]
    refine ⟨x4,true,hb,?_⟩
    unfold S27
    rw [lp27_0,hrow]
    refine cT h1 (cT h2 (cT rfl (bnd (s_Writes s) (cT rfl (cF hnw (cF hk6 (cF hk7 (cT hk8 (bnd hspan (cT rfl (cT hall (bnd htot (cT rfl (cT rfl ?_))))))))))))))
    show cond (!(sumB (tot s.col.toNat (ts.filter (selB s))))) _ _ = _
    exact cT (by rw [hsum]; rfl) (bnd hcl (cT rfl rfl))
  ·have hk6 : (s.k == 6) = false := by simp [h6]
   have hk7 : (s.k == 7) = false := by simp [h7]
   have hk8 : (s.k == 8) = false := by simp [h8]
   obtain ⟨r,hf,ha⟩ := s_find x4 ts s.key (tval_asc ht) (by omega)
   have hr := At_pl _ _ _ ha
   by_cases h5 : s.k = 5
   ·have hk5 : (s.k == 5) = true := by simp [h5]
    cases hh : hasK ts s.key r with
    | true =>
     rw [hh] at hf
     have hlt := hasK_lt hh
     have e : rdR s ts = (⟨[ts.getD r rz],0⟩,0) := by unfold rdR; rw [hk6,hk7,hk8,hk5,← hr,hh]; rfl
     rw [e]
     refine ⟨x4,false,hb,?_⟩
     unfold S27
     rw [lp27_0,hrow]
     refine cT h1 (cT h2 (cT rfl (bnd (s_Writes s) (cT rfl (cF hnw (cF hk6 (cF hk7 (cF hk8 (bnd hf (cT rfl (cT rfl (cT hk5 (cT rfl (cT (ix_in ts hlt) (cT ?_ (cT hleN ?_))))))))))))))))
     ·show (ltN (0 + Int.toNat (r : Int)) (List.length (ts.map Rw.row)) && (isI .u32 (cellAt (lget (ts.map Rw.row) (0 + Int.toNat (r : Int))) 0) && (isI .i64 (cellAt (lget (ts.map Rw.row) (0 + Int.toNat (r : Int))) 1) && (isI .i64 (cellAt (lget (ts.map Rw.row) (0 + Int.toNat (r : Int))) 2) && isI .i64 (cellAt (lget (ts.map Rw.row) (0 + Int.toNat (r : Int))) 3))))) = true
      rw [ix_lt ts hlt,lget_At ts hlt]; rfl
     ·refine fin27 rfl ?_ rfl hw
      show [[AV.v (.int .u32 (avInt (cellAt (lget (ts.map Rw.row) (0 + Int.toNat (r : Int))) 0))),AV.v (.int .i64 (avInt (cellAt (lget (ts.map Rw.row) (0 + Int.toNat (r : Int))) 1))),AV.v (.int .i64 (avInt (cellAt (lget (ts.map Rw.row) (0 + Int.toNat (r : Int))) 2))),AV.v (.int .i64 (avInt (cellAt (lget (ts.map Rw.row) (0 + Int.toNat (r : Int))) 3)))]] = _
      rw [lget_At ts hlt]; rfl
    | false =>
     rw [hh] at hf
     have e : rdR s ts = (r0,0) := by unfold rdR; rw [hk6,hk7,hk8,hk5,← hr,hh]; rfl
     rw [e]
     refine ⟨x4,true,hb,?_⟩
     unfold S27
     rw [lp27_0,hrow]
     refine cT h1 (cT h2 (cT rfl (bnd (s_Writes s) (cT rfl (cF hnw (cF hk6 (cF hk7 (cF hk8 (bnd hf (cT rfl (cT rfl (cT hk5 (cF rfl (cT hk5 (cT hleN ?_)))))))))))))))
     exact fin27 rfl rfl rfl hw
   ·have hk5 : (s.k == 5) = false := by simp [h5]
    cases hh : hasK ts s.key r with
    | false =>
     rw [hh] at hf
     have e : rdR s ts = (r0,16) := by unfold rdR; rw [hk6,hk7,hk8,hk5,← hr,hh]; rfl
     rw [e]
     refine ⟨x4,true,hb,?_⟩
     unfold S27
     rw [lp27_0,hrow]
     exact cT h1 (cT h2 (cT rfl (bnd (s_Writes s) (cT rfl (cF hnw (cF hk6 (cF hk7 (cF hk8 (bnd hf (cT rfl (cT rfl (cF hk5 (cF hk5 (cT rfl (bnd hcl (cT rfl rfl))))))))))))))))
    | true =>
     rw [hh] at hf
     have hlt := hasK_lt hh
     have hidx : (ltN (0 + Int.toNat (r : Int)) (List.length (ts.map Rw.row)) && (isI .u32 (cellAt (lget (ts.map Rw.row) (0 + Int.toNat (r : Int))) 0) && (isI .i64 (cellAt (lget (ts.map Rw.row) (0 + Int.toNat (r : Int))) 1) && (isI .i64 (cellAt (lget (ts.map Rw.row) (0 + Int.toNat (r : Int))) 2) && isI .i64 (cellAt (lget (ts.map Rw.row) (0 + Int.toNat (r : Int))) 3))))) = true := by
      rw [ix_lt ts hlt,lget_At ts hlt]; rfl
     have hhold : ev 71 [.agg [.v (.int .i64 s.wc),.v (.int .i64 s.wo),.v (.int .i64 s.wv)],.agg [.v (.int .u32 (avInt (cellAt (lget (ts.map Rw.row) (0 + Int.toNat (r : Int))) 0))),.v (.int .i64 (avInt (cellAt (lget (ts.map Rw.row) (0 + Int.toNat (r : Int))) 1))),.v (.int .i64 (avInt (cellAt (lget (ts.map Rw.row) (0 + Int.toNat (r : Int))) 2))),.v (.int .i64 (avInt (cellAt (lget (ts.map Rw.row) (0 + Int.toNat (r : Int))) 3)))]] = some [.v (.bool (holdB s.wc s.wo s.wv (ts.getD r rz).a (ts.getD r rz).b (ts.getD r rz).c))] := by
      rw [lget_At ts hlt]
      exact s_Holds s.wc s.wo s.wv _ _ _ _
     cases hd : holdB s.wc s.wo s.wv (ts.getD r rz).a (ts.getD r rz).b (ts.getD r rz).c with
     | true =>
      rw [hd] at hhold
      have e : rdR s ts = (r0,0) := by unfold rdR; rw [hk6,hk7,hk8,hk5,← hr,hh,hd]; rfl
      rw [e]
      refine ⟨x4,true,hb,?_⟩
      unfold S27
      rw [lp27_0,hrow]
      refine cT h1 (cT h2 (cT rfl (bnd (s_Writes s) (cT rfl (cF hnw (cF hk6 (cF hk7 (cF hk8 (bnd hf (cT rfl (cT rfl (cF hk5 (cF hk5 (cF rfl (cT (ix_in ts hlt) (cT hidx (bnd hhold (cT rfl (cF rfl (cT hleN ?_))))))))))))))))))))
      exact fin27 rfl rfl rfl hw
     | false =>
      rw [hd] at hhold
      have e : rdR s ts = (r0,20) := by unfold rdR; rw [hk6,hk7,hk8,hk5,← hr,hh,hd]; rfl
      rw [e]
      refine ⟨x4,true,hb,?_⟩
      unfold S27
      rw [lp27_0,hrow]
      exact cT h1 (cT h2 (cT rfl (bnd (s_Writes s) (cT rfl (cF hnw (cF hk6 (cF hk7 (cF hk8 (bnd hf (cT rfl (cT rfl (cF hk5 (cF hk5 (cF rfl (cT (ix_in ts hlt) (cT hidx (bnd hhold (cT rfl (cT rfl (bnd hcl (cT rfl rfl)))))))))))))))))))))
theorem l27 (tn : Bool) (t0 : List Rw) (htn : tn = true → t0 = []) (ht0 : t0.length ≤ 900) (ln : Bool) (l : List Stm) (hl : l.length ≤ 8) (hv : ∀ s ∈ l,s.V∧s.ok) : ∀ (rest done : List Stm) (x4 : Bool) (ts : List Rw) (x5 : Bool) (acc : List (Bool × Res)),l = done ++ rest → (x4 = true → ts = []) → tval 0 ts = true → OkT ts → ts.length ≤ 900 + done.length → acc.length ≤ done.length →
  ∃ (a4 a5 : Bool) (accF : List (Bool × Res)),(a4 = true → (appR t0 rest ts done.length (acc.map Prod.snd)).1 = [])∧accF.map Prod.snd = (appR t0 rest ts done.length (acc.map Prod.snd)).2.1 ∧
   lp 27 0 0 (S27 tn t0 x4 ts x5 acc ln l done.length) = bif (appR t0 rest ts done.length (acc.map Prod.snd)).2.2.2 == 0 then
    some ⟨some 0,⟨[(4,.sl a4 0 0 none),(5,.sl a5 1 0 none)],[⟨1,91,4,false,(appR t0 rest ts done.length (acc.map Prod.snd)).1.map Rw.row⟩,⟨1,68,2,false,outB accF⟩]⟩,[]⟩ else
    some ⟨none,⟨[],[]⟩,[.ow a4 91 4 ((appR t0 rest ts done.length (acc.map Prod.snd)).1.map Rw.row),.ow a5 68 2 (outB accF),.v (.int .i64 (((appR t0 rest ts done.length (acc.map Prod.snd)).2.2.1 : Nat) : Int)),.v (.int .i64 (appR t0 rest ts done.length (acc.map Prod.snd)).2.2.2)]⟩
 | [],done,x4,ts,x5,acc,h,hb,_,_,_,_ => by
  refine ⟨x4,x5,acc,hb,rfl,?_⟩
  unfold S27
  rw [lp27_0]
  exact cF (ltI_f (by rw [List.length_map,h,List.append_nil]; omega)) rfl
 | s :: rest,done,x4,ts,x5,acc,h,hb,ht,hT,hlen,hacc => by
  have hi : done.length < l.length := by rw [h]; simp
  obtain ⟨hsv,hsok⟩ := hv s (by rw [h]; simp)
  obtain ⟨x4',nb,h1,h2⟩ := l27_step tn t0 htn (by omega) x4 ts hb x5 acc ln l done.length s hi (by rw [h]; simp) hl (by omega) hsv hsok ht hT (by omega)
  obtain ⟨k1,k2,k3⟩ := w_mem hsv hsok ht hT
  rw [h2]
  unfold appR
  cases hc : ((stp s ts).2.2 == 0) with
  | true =>
   have ih := l27 tn t0 htn ht0 ln l hl hv rest (done ++ [s]) x4' (stp s ts).1 false (acc ++ [(nb,(stp s ts).2.1)]) (by rw [h]; simp) h1 k1 k2 (by rw [List.length_append,List.length_singleton]; omega) (by simp; exact hacc)
   rw [List.length_append,List.length_singleton,List.map_append] at ih
   exact ih
  | false =>
   refine ⟨tn,true,[],htn,rfl,?_⟩
   show E27 tn t0 done.length (stp s ts).2.2 = bif ((stp s ts).2.2 == 0) then _ else _
   rw [hc]; rfl
theorem appR_at (t0 : List Rw) : ∀ (l : List Stm) (ts : List Rw) (i : Nat) (acc : List Res),(appR t0 l ts i acc).2.2.2 = 0 → (appR t0 l ts i acc).2.2.1 = 0∧True
 | [],_,_,_,_ => ⟨rfl,trivial⟩
 | s :: ss,ts,i,acc,h => by
  unfold appR at h ⊢
  cases hc : ((stp s ts).2.2 == 0) with
  | true => rw [hc] at h; exact appR_at t0 ss _ _ _ h
  | false => rw [hc] at h; simp at h; simp [h] at hc
theorem okP_V {l : List Stm} (h : okP l = true) : l.length ≤ 8∧∀ s ∈ l,s.V := by
 unfold okP at h
 rw [Bool.and_eq_true,decide_eq_true_iff,List.all_eq_true] at h
 exact ⟨h.1.2,fun s hs => V_of (h.2 s hs)⟩
theorem s_Apply (tn : Bool) (t : List Rw) (htn : tn = true → t = []) (ht : t.length ≤ 900) (hT : OkT t) (ln : Bool) (l : List Stm) (hok : ∀ s ∈ l,s.ok) :
  ∃ (a4 a5 : Bool) (accF : List (Bool × Res)),(a4 = true → (applyM t l).1 = [])∧accF.map Prod.snd = (applyM t l).2.1 ∧
   ev 27 [.lst tn 4 (t.map Rw.row),.lst ln 12 (l.map Stm.row)] = some [.ow a4 91 4 ((applyM t l).1.map Rw.row),.ow a5 68 2 (outB accF),.v (.int .i64 (((applyM t l).2.2.1 : Nat) : Int)),.v (.int .i64 (applyM t l).2.2.2)] := by
 have hF := s_Format l ln hok
 have hcl := s_tclone tn t htn (by omega)
 have hval := s_tval tn t (by omega)
 unfold applyM
 cases hp : okP l with
 | false =>
  have : ∃ x,ev 46 [.lst ln 12 (l.map Stm.row)] = some [.v (.string x),.v (.int .i64 1)] := by
   rw [hF]
   unfold okP at hp
   cases hd : decide (1 ≤ l.length∧l.length ≤ 8) with
   | false => exact ⟨_,rfl⟩
   | true =>
    rw [hd,Bool.true_and] at hp
    unfold fmtR
    rw [hp]
    exact ⟨_,rfl⟩
  obtain ⟨x,hx⟩ := this
  refine ⟨tn,true,[],htn,rfl,?_⟩
  rw [ev27]
  exact bnd hx (cT rfl (cT rfl (cT rfl (bnd hcl (cT rfl rfl)))))
 | true =>
  have : ∃ x,ev 46 [.lst ln 12 (l.map Stm.row)] = some [.v (.string x),.v (.int .i64 0)] := by
   rw [hF]
   unfold okP at hp
   rw [Bool.and_eq_true] at hp
   rw [hp.1]
   unfold fmtR
   rw [hp.2]
   exact ⟨_,rfl⟩
  obtain ⟨x,hx⟩ := this
  cases hv : tval 0 t with
  | false =>
   rw [hv] at hval
   refine ⟨tn,true,[],htn,rfl,?_⟩
   rw [ev27]
   exact bnd hx (cT rfl (cT rfl (cF rfl (bnd hval (cT rfl (cT rfl (bnd hcl (cT rfl rfl))))))))
  | true =>
   rw [hv] at hval
   obtain ⟨hl8,hV⟩ := okP_V hp
   obtain ⟨a4,a5,accF,h1,h2,h3⟩ := l27 tn t htn ht ln l hl8 (fun s hs => ⟨hV s hs,hok s hs⟩) l [] tn t true [] rfl htn hv hT (by simp; omega) (Nat.le_refl _)
   refine ⟨a4,a5,accF,h1,h2,?_⟩
   rw [ev27]
   have h3' : lp 27 0 0 (S27 tn t tn t true [] ln l 0) = bif (appR t l t 0 []).2.2.2 == 0 then
    some ⟨some 0,⟨[(4,.sl a4 0 0 none),(5,.sl a5 1 0 none)],[⟨1,91,4,false,(appR t l t 0 []).1.map Rw.row⟩,⟨1,68,2,false,outB accF⟩]⟩,[]⟩ else
    some ⟨none,⟨[],[]⟩,[.ow a4 91 4 ((appR t l t 0 []).1.map Rw.row),.ow a5 68 2 (outB accF),.v (.int .i64 (((appR t l t 0 []).2.2.1 : Nat) : Int)),.v (.int .i64 (appR t l t 0 []).2.2.2)]⟩ := h3
   show _ = some [AV.ow a4 91 4 ((appR t l t 0 []).1.map Rw.row),AV.ow a5 68 2 (outB accF),AV.v (.int .i64 (((appR t l t 0 []).2.2.1 : Nat) : Int)),AV.v (.int .i64 (appR t l t 0 []).2.2.2)]
   cases hc : ((appR t l t 0 []).2.2.2 == 0) with
   | true =>
    rw [hc] at h3'
    obtain ⟨e1,e2⟩ := appR_at t l t 0 [] (by simpa using hc)
    rw [e1]
    rw [show (appR t l t 0 []).2.2.2 = 0 by simpa using hc]
    exact bnd hx (cT rfl (cT rfl (cF rfl (bnd hval (cT rfl (cF rfl (bnd hcl (cT rfl (bnd h3' (cT rfl (cT rfl rfl)))))))))))
   | false =>
    rw [hc] at h3'
    exact bnd hx (cT rfl (cT rfl (cF rfl (bnd hval (cT rfl (cF rfl (bnd hcl (cT rfl (bnd h3' (cF rfl (cT rfl rfl)))))))))))
end Go.Proofs.Ytnhahcomgeeobaa
