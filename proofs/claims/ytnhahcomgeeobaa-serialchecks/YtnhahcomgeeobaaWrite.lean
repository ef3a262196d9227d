/- What a writing statement does to a table. -/
import Derived.Test.YtnhahcomgeeobaaBase
set_option linter.all false
namespace Go.Proofs.Ytnhahcomgeeobaa
open Go.Ev
def Rw.set (r : Rw) (c : Nat) (v : Int) : Rw := if c = 0 then { r with a := v } else if c = 1 then { r with b := v } else { r with c := v }
def delT (ts : List Rw) (i : Nat) : List Rw := ts.take i ++ ts.drop (i + 1)
def insT (ts : List Rw) (i : Nat) (r : Rw) : List Rw := ts.take i ++ r :: ts.drop i
theorem set_row (r : Rw) {c : Nat} (hc : c < 3) (v : Int) : ((List.take (1 + ((Int.toNat (c : Int)) * 1)) r.row ++ [AV.v (.int .i64 v)]) ++ List.drop ((1 + ((Int.toNat (c : Int)) * 1)) + 1) r.row) = (r.set c v).row := by
 have : c = 0 ∨ c = 1 ∨ c = 2 := by omega
 rcases this with rfl | rfl | rfl <;> rfl
theorem g_insT (ts : List Rw) (i : Nat) (r : Rw) (h : i ≤ ts.length) : insG 91 4 (ts.map Rw.row) [.v (.int .i64 (i : Int)),.lst false 4 [r.row]] = some ((insT ts i r).map Rw.row) := by
 unfold insG insT
 refine cT ?_ ?_
 ·simp only [Nat.beq_refl,Bool.true_and,Bool.and_eq_true,decide_eq_true_eq,List.length_singleton,List.length_map]
  omega
 ·simp only [Int.toNat_natCast,List.map_append,List.map_cons,List.map_take,List.map_drop,List.append_assoc,List.singleton_append]
theorem g_delT (ts : List Rw) (i : Nat) (h : i < ts.length) (hlen : ts.length ≤ 1000000) : delG 91 4 (ts.map Rw.row) [.v (.int .i64 (i : Int)),.v (.int .i64 (IntKind.i64.wrap ((i : Int) + 1)))] = some ((delT ts i).map Rw.row) := by
 rw [show IntKind.i64.wrap ((i : Int) + 1) = ((i + 1 : Nat) : Int) by rw [w_i64]; omega]
 unfold delG delT
 refine cT ?_ ?_
 ·simp only [Nat.beq_refl,Bool.true_and,Bool.and_eq_true,decide_eq_true_eq,List.length_map]
  omega
 ·simp only [Int.toNat_natCast,List.map_append,List.map_take,List.map_drop]
def wrR (s : Stm) (ts : List Rw) (r : Nat) : List Rw × Int :=
 bif s.k == 1 then (bif hasK ts s.key r then (ts,17) else (insT ts r ⟨s.key,s.c0,s.c1,s.c2⟩,0)) else
 bif !(hasK ts s.key r) then (ts,16) else
 bif s.k == 4 then (delT ts r,0) else
 bif s.k == 2 then (ts.set r ((ts.getD r rz).set s.col.toNat s.v),0) else
 bif s.k == 3 then (bif decide (-9223372036854775808 ≤ (ts.getD r rz).col s.col.toNat + s.v∧(ts.getD r rz).col s.col.toNat + s.v ≤ 9223372036854775807) then (ts.set r ((ts.getD r rz).set s.col.toNat (IntKind.i64.wrap ((ts.getD r rz).col s.col.toNat + s.v))),0) else (ts,2)) else (ts,0)
theorem hasK_lt {ts : List Rw} {y : Int} {r : Nat} (h : hasK ts y r = true) : r < ts.length := by
 unfold hasK at h
 simp only [Bool.and_eq_true,decide_eq_true_eq] at h
 exact h.1
theorem s_write1 (s : Stm) (h1 : (s.k == 1) = true ∨ (s.k == 4) = true) (b : Bool) (ts : List Rw) (hb : b = true → ts = []) (hs : Asc ts) (hlen : ts.length ≤ 1000) : ∃ (r : Nat) (b' : Bool),At ts s.key r∧(b' = true → (wrR s ts r).1 = []) ∧
  ev 49 [.ow b 91 4 (ts.map Rw.row),.agg s.row] = some [.ow b' 91 4 ((wrR s ts r).1.map Rw.row),.v (.int .i64 (wrR s ts r).2)] := by
 obtain ⟨r,hf,ha⟩ := s_find b ts s.key hs (by omega)
 unfold Stm.row
 rw [ev49]
 cases hk1 : (s.k == 1) with
 | true =>
  cases hk : hasK ts s.key r with
  | true =>
   rw [hk] at hf
   refine ⟨r,b,ha,?_,?_⟩
   ·simp only [wrR,hk1,hk,cond_true]; exact hb
   ·simp only [wrR,hk1,hk,cond_true]
    refine bnd hf (cT rfl (cT rfl (cT rfl ?_))); rfl
  | false =>
   rw [hk] at hf
   refine ⟨r,false,ha,(by intro e; cases e),?_⟩
   simp only [wrR,hk1,hk,cond_true,cond_false]
   refine bnd hf (cT rfl (cT rfl (cF rfl (bnd (g_insT ts r ⟨s.key,s.c0,s.c1,s.c2⟩ ha.le) (cT (leN_t (by rw [List.length_map]; omega)) ?_)))))
   have : List.isEmpty ((insT ts r ⟨s.key,s.c0,s.c1,s.c2⟩).map Rw.row) = false := by
    unfold insT
    rw [List.isEmpty_eq_false_iff]
    simp
   rw [this,Bool.and_false]
 | false =>
  have h4 : (s.k == 4) = true := by rcases h1 with h | h; · rw [hk1] at h; cases h
                                    · exact h
  cases hk : hasK ts s.key r with
  | false =>
   rw [hk] at hf
   refine ⟨r,b,ha,?_,?_⟩
   ·simp only [wrR,hk1,hk,cond_true,cond_false,Bool.not_false]; exact hb
   ·simp only [wrR,hk1,hk,cond_true,cond_false,Bool.not_false]
    refine bnd hf (cT rfl (cT rfl (cT rfl ?_))); rfl
  | true =>
   rw [hk] at hf
   have hr := hasK_lt hk
   have hbf : b = false := by
    cases b with
    | false => rfl
    | true => rw [hb rfl] at hr; simp at hr
   subst hbf
   refine ⟨r,false,ha,(by intro e; cases e),?_⟩
   simp only [wrR,hk1,hk,h4,cond_true,cond_false,Bool.not_true]
   refine bnd hf (cT rfl (cT rfl (cF rfl (bnd (g_delT ts r hr (by omega)) (cT (leN_t (by rw [List.length_map]; omega)) ?_)))))
   rw [Bool.false_and]
theorem lget_At (ts : List Rw) {r : Nat} (hr : r < ts.length) : lget (ts.map Rw.row) (0 + Int.toNat (r : Int)) = (ts.getD r rz).row := by rw [Int.toNat_natCast,Nat.zero_add,lget_mapD _ _ rz _ hr]
theorem set_map (ts : List Rw) (r : Nat) (x : Rw) : List.set (ts.map Rw.row) r x.row = (ts.set r x).map Rw.row := by rw [List.map_set]
theorem col_cell (r : Rw) {c : Nat} (hc : c < 3) : avInt (cellAt r.row (1 + ((Int.toNat (c : Int)) * 1))) = r.col c := by
 have : c = 0 ∨ c = 1 ∨ c = 2 := by omega
 rcases this with rfl | rfl | rfl <;> rfl
theorem col_isI (r : Rw) {c : Nat} (hc : c < 3) : isI .i64 (cellAt r.row (1 + ((Int.toNat (c : Int)) * 1))) = true := by
 have : c = 0 ∨ c = 1 ∨ c = 2 := by omega
 rcases this with rfl | rfl | rfl <;> rfl
theorem col_leN {c : Nat} (hc : c < 3) : (leN ((1 + ((Int.toNat (c : Int)) * 1)) + 1) 4 && true) = true := by
 have : c = 0 ∨ c = 1 ∨ c = 2 := by omega
 rcases this with rfl | rfl | rfl <;> rfl
theorem ix_in (ts : List Rw) {r : Nat} (hr : r < ts.length) : (leI 0 (r : Int) && ltI (r : Int) ((((List.length (ts.map Rw.row)) - 0) : Nat) : Int)) = true := by
 rw [leI_t (by omega),ltI_t (by rw [List.length_map]; omega)]; rfl
theorem ix_lt (ts : List Rw) {r : Nat} (hr : r < ts.length) : ltN (0 + Int.toNat (r : Int)) (List.length (ts.map Rw.row)) = true := ltN_t (by rw [List.length_map,Int.toNat_natCast]; omega)
theorem s_write2 (s : Stm) (h1 : (s.k == 1) = false) (h4 : (s.k == 4) = false) (h2 : (s.k == 2) = true ∨ (s.k == 3) = true) (hc : 0 ≤ s.col∧s.col < 3) (hv : -9223372036854775808 ≤ s.v∧s.v ≤ 9223372036854775807) (b : Bool) (ts : List Rw) (hb : b = true → ts = []) (hs : Asc ts) (hok : ∀ x ∈ ts,x.ok) (hlen : ts.length ≤ 1000) : ∃ (r : Nat) (b' : Bool),At ts s.key r∧(b' = true → (wrR s ts r).1 = []) ∧
  ev 49 [.ow b 91 4 (ts.map Rw.row),.agg s.row] = some [.ow b' 91 4 ((wrR s ts r).1.map Rw.row),.v (.int .i64 (wrR s ts r).2)] := by
 obtain ⟨r,hf,ha⟩ := s_find b ts s.key hs (by omega)
 obtain ⟨k,key,last,c0,c1,c2,col,v,wc,wo,wv,lim⟩ := s
 obtain ⟨c,rfl⟩ : ∃ c : Nat,col = c := ⟨col.toNat,by have := hc.1; simp only at this; omega⟩
 have hc3 : c < 3 := by have := hc.2; simp only at this; omega
 unfold Stm.row
 simp only at h1 h4 h2 hc hv hf ha ⊢
 rw [ev49]
 cases hk : hasK ts key r with
 | false =>
  rw [hk] at hf
  refine ⟨r,b,ha,?_,?_⟩
  ·simp only [wrR,h1,hk,cond_true,cond_false,Bool.not_false]; exact hb
  ·simp only [wrR,h1,hk,cond_true,cond_false,Bool.not_false]
   refine bnd hf (cT rfl (cT rfl (cT rfl ?_))); rfl
 | true =>
  rw [hk] at hf
  have hr := hasK_lt hk
  have hbf : b = false := by
   cases b with
   | false => rfl
   | true => rw [hb rfl] at hr; simp at hr
  subst hbf
  cases hk2 : (k == 2) with
  | true =>
   refine ⟨r,false,ha,(by intro e; cases e),?_⟩
   simp only [wrR,h1,hk,h4,hk2,cond_true,cond_false,Bool.not_true]
   refine bnd hf (cT rfl (cT rfl (cF rfl ?_)))
   show cond (leI 0 (r : Int) && ltI (r : Int) ((((List.length (ts.map Rw.row)) - 0) : Nat) : Int)) _ _ = _
   refine cT (ix_in ts hr) (cT (by rw [leI_t (by omega),ltI_t (by omega)]; rfl) (cT (col_leN hc3) (cT (ix_lt ts hr) ?_)))
   show some [AV.ow false 91 4 (List.set (ts.map Rw.row) (0 + Int.toNat (r : Int)) (((List.take (1 + ((Int.toNat (c : Int)) * 1)) (lget (ts.map Rw.row) (0 + Int.toNat (r : Int)))) ++ [AV.v (.int .i64 v)]) ++ List.drop ((1 + ((Int.toNat (c : Int)) * 1)) + 1) (lget (ts.map Rw.row) (0 + Int.toNat (r : Int))))),AV.v (.int .i64 0)] = _
   rw [lget_At ts hr,set_row _ hc3,Nat.zero_add,Int.toNat_natCast,Int.toNat_natCast,set_map]
  | false =>
   have hk3 : (k == 3) = true := by rcases h2 with h | h; · rw [hk2] at h; cases h
                                    · exact h
   have hro := hok _ (mem_getD ts rz r hr)
   have hpl := s_plus (col_ok hro c) hv
   have hadd : ∀ bb : Bool,decide (-9223372036854775808 ≤ (ts.getD r rz).col c + v∧(ts.getD r rz).col c + v ≤ 9223372036854775807) = bb →
    ev 68 [.v (.int .i64 (avInt (cellAt (lget (ts.map Rw.row) (0 + Int.toNat (r : Int))) (1 + ((Int.toNat (c : Int)) * 1))))),.v (.int .i64 v)] = some [.v (.int .i64 (IntKind.wrap .i64 ((ts.getD r rz).col c + v))),.v (.bool bb)] := by
    intro bb e
    rw [lget_At ts hr,col_cell _ hc3,hpl,e]
   refine ⟨r,false,ha,(by intro e; cases e),?_⟩
   simp only [wrR,h1,hk,h4,hk2,hk3,cond_true,cond_false,Bool.not_true,Int.toNat_natCast]
   cases hd : decide (-9223372036854775808 ≤ (ts.getD r rz).col c + v∧(ts.getD r rz).col c + v ≤ 9223372036854775807) with
   | false =>
    refine bnd hf (cT rfl (cT rfl (cF rfl ?_)))
    show cond (leI 0 (r : Int) && ltI (r : Int) ((((List.length (ts.map Rw.row)) - 0) : Nat) : Int)) _ _ = _
    refine cT (ix_in ts hr) (cT (by rw [leI_t (by omega),ltI_t (by omega)]; rfl) (cT ?_ (bnd (hadd false hd) (cT rfl (cT rfl (cT rfl ?_))))))
    ·show (ltN (0 + Int.toNat (r : Int)) (List.length (ts.map Rw.row)) && isI .i64 (cellAt (lget (ts.map Rw.row) (0 + Int.toNat (r : Int))) (1 + ((Int.toNat (c : Int)) * 1)))) = true
     rw [ix_lt ts hr,lget_At ts hr,col_isI _ hc3]; rfl
    ·rfl
   | true =>
    refine bnd hf (cT rfl (cT rfl (cF rfl ?_)))
    show cond (leI 0 (r : Int) && ltI (r : Int) ((((List.length (ts.map Rw.row)) - 0) : Nat) : Int)) _ _ = _
    refine cT (ix_in ts hr) (cT (by rw [leI_t (by omega),ltI_t (by omega)]; rfl) (cT ?_ (bnd (hadd true hd) (cT rfl (cT rfl (cF rfl (cT (ix_in ts hr) (cT (by rw [leI_t (by omega),ltI_t (by omega)]; rfl) (cT (col_leN hc3) (cT (ix_lt ts hr) ?_))))))))))
    ·show (ltN (0 + Int.toNat (r : Int)) (List.length (ts.map Rw.row)) && isI .i64 (cellAt (lget (ts.map Rw.row) (0 + Int.toNat (r : Int))) (1 + ((Int.toNat (c : Int)) * 1)))) = true
     rw [ix_lt ts hr,lget_At ts hr,col_isI _ hc3]; rfl
    ·show some [AV.ow false 91 4 (List.set (ts.map Rw.row) (0 + Int.toNat (r : Int)) (((List.take (1 + ((Int.toNat (c : Int)) * 1)) (lget (ts.map Rw.row) (0 + Int.toNat (r : Int)))) ++ [AV.v (.int .i64 (IntKind.wrap .i64 ((ts.getD r rz).col c + v)))]) ++ List.drop ((1 + ((Int.toNat (c : Int)) * 1)) + 1) (lget (ts.map Rw.row) (0 + Int.toNat (r : Int))))),AV.v (.int .i64 0)] = _
     rw [lget_At ts hr,set_row _ hc3,Nat.zero_add,Int.toNat_natCast,set_map]; rfl
end Go.Proofs.Ytnhahcomgeeobaa
