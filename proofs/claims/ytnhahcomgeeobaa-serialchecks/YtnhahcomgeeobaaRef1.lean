/- The reference's small parts: where a key is,validity,sums,changes,ranges. -/
import Derived.Test.YtnhahcomgeeobaaApp
set_option linter.all false
namespace Go.Proofs.Ytnhahcomgeeobaa
open Go.Ev
theorem pl_le : ∀ (ts : List Rw) (y : Int),pl ts y ≤ ts.length
 | [],_ => Nat.le_refl _
 | r :: rs,y => by
  unfold pl
  have := pl_le rs y
  cases leI y r.k <;> simp <;> omega
theorem l_rfind (b : Bool) (ts : List Rw) (y : Int) (hlen : ts.length ≤ 1000000) : ∀ (rest done : List Rw),ts = done ++ rest →
  lp 40 0 0 ⟨[(0,.lst b 4 (ts.map Rw.row)),(1,.v (.int .u32 y)),(6,.v (.int .i64 ((done.length : Nat) : Int)))],[]⟩ =
   bif decide (pl rest y < rest.length) then some ⟨none,⟨[],[]⟩,[.v (.int .i64 ((done.length + pl rest y : Nat) : Int)),.v (.bool (hasK rest y (pl rest y)))]⟩ else some ⟨some 0,⟨[(0,.lst b 4 (ts.map Rw.row))],[]⟩,[]⟩
 | [],done,h => by
  rw [lp40_0]
  exact cF (ltI_f (by rw [List.length_map,h,List.append_nil]; omega)) rfl
 | r :: rest,done,h => by
  have hlt : done.length < ts.length := by rw [h]; simp
  have hrow : lget (ts.map Rw.row) (Int.toNat ((done.length : Nat) : Int)) = r.row := by
   rw [Int.toNat_natCast,lget_map _ _ _ hlt]
   subst h
   simp
  have hw : IntKind.i64.wrap (((done.length : Nat) : Int) + 1) = (((done ++ [r]).length : Nat) : Int) := by rw [w_i64,List.length_append,List.length_singleton]; omega
  have ih := l_rfind b ts y hlen rest (done ++ [r]) (by rw [h]; simp)
  have hin : (leI 0 ((done.length : Nat) : Int) && ltI ((done.length : Nat) : Int) (((List.length (ts.map Rw.row)) : Nat) : Int)) = true := by rw [leI_t (by omega),ltI_t (by rw [List.length_map]; omega)]; rfl
  rw [lp40_0,hrow,hw]
  refine cT (ltI_t (by rw [List.length_map]; omega)) (cT hin (cT rfl ?_))
  show cond (leI y r.k) _ _ = _
  unfold pl
  cases hy : leI y r.k with
  | true =>
   refine cT rfl (cT hin (cT rfl ?_))
   have e : hasK (r :: rest) y (bif true then 0 else pl rest y + 1) = (r.k == y) := by
    show (decide (0 < (r :: rest).length) && (r.k == y)) = _
    rw [decide_eq_true (by simp)]; rfl
   rw [e]
   exact (cT (decide_eq_true (by simp)) rfl).symm
  | false =>
   refine cF rfl ?_
   rw [ih]
   have e : hasK (r :: rest) y (bif false then 0 else pl rest y + 1) = hasK rest y (pl rest y) := by
    unfold hasK
    simp
   rw [e]
   have e2 : decide ((bif false then 0 else pl rest y + 1) < (r :: rest).length) = decide (pl rest y < rest.length) := by simp
   rw [e2]
   have e3 : done.length + (bif false then 0 else pl rest y + 1) = (done ++ [r]).length + pl rest y := by simp; omega
   rw [e3]
theorem s_rfind (b : Bool) (ts : List Rw) (y : Int) (hlen : ts.length ≤ 1000000) : ev 40 [.lst b 4 (ts.map Rw.row),.v (.int .u32 y)] = some [.v (.int .i64 ((pl ts y : Nat) : Int)),.v (.bool (hasK ts y (pl ts y)))] := by
 have h := l_rfind b ts y hlen ts [] rfl
 rw [ev40]
 by_cases hl : pl ts y < ts.length
 ·rw [decide_eq_true hl] at h
  refine bnd h (cF rfl (cT rfl ?_))
  show some [AV.v (.int .i64 (((([] : List Rw).length + pl ts y : Nat)) : Int)),AV.v (.bool (hasK ts y (pl ts y)))] = _
  rw [List.length_nil,Nat.zero_add]
 ·rw [decide_eq_false hl] at h
  refine bnd h (cT rfl (cT rfl ?_))
  show some [AV.v (.int .i64 (((List.length (ts.map Rw.row) : Nat)) : Int)),AV.v (.bool false)] = _
  have := pl_le ts y
  rw [List.length_map,show ts.length = pl ts y by omega]
  have e : hasK ts y (pl ts y) = false := by unfold hasK; rw [decide_eq_false hl]; rfl
  rw [e]
theorem l_rval (b : Bool) (ts : List Rw) (hlen : ts.length ≤ 1000000) : ∀ (rest done : List Rw) (last : Int),ts = done ++ rest → ((done = []∧last = 0) ∨ (done ≠ []∧1 ≤ last∧last = (ts.getD (done.length - 1) rz).k)) →
  lp 32 0 0 ⟨[(0,.lst b 4 (ts.map Rw.row)),(3,.v (.int .i64 ((done.length : Nat) : Int)))],[]⟩ = bif tval last rest then some ⟨some 0,⟨[],[]⟩,[]⟩ else some ⟨none,⟨[],[]⟩,[.v (.bool false)]⟩
 | [],done,last,h,_ => by
  rw [lp32_0]
  exact cF (ltI_f (by rw [List.length_map,h,List.append_nil]; omega)) rfl
 | r :: rest,done,last,h,hl => by
  have hlt : done.length < ts.length := by rw [h]; simp
  have hget : ts.getD done.length rz = r := by subst h; simp
  have hrow : lget (ts.map Rw.row) (Int.toNat ((done.length : Nat) : Int)) = r.row := by
   rw [Int.toNat_natCast,lget_mapD _ _ rz _ hlt,hget]
  have hw : IntKind.i64.wrap (((done.length : Nat) : Int) + 1) = (((done ++ [r]).length : Nat) : Int) := by rw [w_i64,List.length_append,List.length_singleton]; omega
  have hin : (leI 0 ((done.length : Nat) : Int) && ltI ((done.length : Nat) : Int) (((List.length (ts.map Rw.row)) : Nat) : Int)) = true := by rw [leI_t (by omega),ltI_t (by rw [List.length_map]; omega)]; rfl
  have ih := fun h1 => l_rval b ts hlen rest (done ++ [r]) r.k (by rw [h]; simp) (.inr ⟨by simp,h1,by rw [List.length_append,List.length_singleton,Nat.add_sub_cancel,hget]⟩)
  rw [lp32_0,hrow,hw]
  refine cT (ltI_t (by rw [List.length_map]; omega)) (cT hin (cT rfl ?_))
  show cond (ltI r.k 1) _ _ = _
  unfold tval
  by_cases h1 : r.k < 1
  ·have : r.k ≤ last := by rcases hl with ⟨_,h⟩ | ⟨_,h,_⟩ <;> omega
   rw [leI_t this]
   exact cT (ltI_t h1) rfl
  ·refine cF (ltI_f (by omega)) (cT hin (cT rfl ?_))
   show cond (ltI 4294967294 r.k) _ _ = _
   by_cases h2 : 4294967294 < r.k
   ·rw [ltI_t h2]
    refine cT rfl ?_
    cases leI r.k last <;> rfl
   ·rw [ltI_f (by omega)]
    refine cF rfl ?_
    rcases hl with ⟨he,h0⟩ | ⟨he,h3,h4⟩
    ·subst he
     rw [leI_f (show last < r.k by omega)]
     exact cF (ltI_f (by simp)) (ih (by omega))
    ·have hd : 0 < done.length := List.length_pos_iff.2 he
     have hw2 : IntKind.i64.wrap (((done.length : Nat) : Int) - 1) = ((done.length - 1 : Nat) : Int) := by rw [w_i64]; omega
     have hrow2 : lget (ts.map Rw.row) (Int.toNat ((done.length - 1 : Nat) : Int)) = (ts.getD (done.length - 1) rz).row := by rw [Int.toNat_natCast,lget_mapD _ _ rz _ (by omega)]
     rw [hw2,hrow2]
     refine cT (ltI_t (by omega)) (cT (by rw [leI_t (by omega),ltI_t (by rw [List.length_map]; omega)]; rfl) (cT rfl (cT hin (cT rfl ?_))))
     show cond (leI r.k (ts.getD (done.length - 1) rz).k) _ _ = _
     rw [← h4]
     by_cases h5 : r.k ≤ last
     ·rw [leI_t h5]; exact cT rfl rfl
     ·rw [leI_f (show last < r.k by omega)]; exact cF rfl (ih (by omega))
theorem s_rval (b : Bool) (ts : List Rw) (hlen : ts.length ≤ 1000000) : ev 32 [.lst b 4 (ts.map Rw.row)] = some [.v (.bool (tval 0 ts))] := by
 have h := l_rval b ts hlen ts [] 0 rfl (.inl ⟨rfl,rfl⟩)
 rw [ev32]
 cases hv : tval 0 ts with
 | true => rw [hv] at h; exact bnd h (cT rfl (cT rfl rfl))
 | false => rw [hv] at h; exact bnd h (cF rfl (cT rfl rfl))
theorem l_rprog (b : Bool) (l : List Stm) (hlen : l.length ≤ 1000000) : ∀ (rest done : List Stm),l = done ++ rest →
  lp 25 0 0 ⟨[(0,.lst b 12 (l.map Stm.row)),(3,.v (.int .i64 ((done.length : Nat) : Int)))],[]⟩ = bif rest.all Stm.valid then some ⟨some 0,⟨[],[]⟩,[]⟩ else some ⟨none,⟨[],[]⟩,[.v (.bool false)]⟩
 | [],done,h => by
  rw [lp25_0]
  exact cF (ltI_f (by rw [List.length_map,h,List.append_nil]; omega)) rfl
 | s :: rest,done,h => by
  have hlt : done.length < l.length := by rw [h]; simp
  have hrow : lget (l.map Stm.row) (Int.toNat ((done.length : Nat) : Int)) = s.row := by
   rw [Int.toNat_natCast,lget_map _ _ _ hlt]
   subst h
   simp
  have hw : IntKind.i64.wrap (((done.length : Nat) : Int) + 1) = (((done ++ [s]).length : Nat) : Int) := by rw [w_i64,List.length_append,List.length_singleton]; omega
  have ih := l_rprog b l hlen rest (done ++ [s]) (by rw [h]; simp)
  rw [lp25_0,hrow,hw]
  refine cT (ltI_t (by rw [List.length_map]; omega)) (cT (by rw [leI_t (by omega),ltI_t (by rw [List.length_map]; omega)]; rfl) (cT rfl (bnd (s_VStatement s) (cT rfl ?_))))
  show cond (!s.valid) _ _ = _
  rw [List.all_cons]
  cases s.valid with
  | true => exact cF rfl ih
  | false => exact cT rfl rfl
theorem s_rprog (b : Bool) (l : List Stm) (hlen : l.length ≤ 1000000) : ev 25 [.lst b 12 (l.map Stm.row)] = some [.v (.bool (okP l))] := by
 have h := l_rprog b l hlen l [] rfl
 rw [ev25]
 unfold okP
 by_cases h1 : l.length < 1
 ·rw [decide_eq_false (by omega)]
  exact cT (ltI_t (by rw [List.length_map]; omega)) rfl
 ·refine cF (ltI_f (by rw [List.length_map]; omega)) ?_
  by_cases h2 : 8 < l.length
  ·rw [decide_eq_false (by omega)]
   exact cT (ltI_t (by rw [List.length_map]; omega)) rfl
  ·refine cF (ltI_f (by rw [List.length_map]; omega)) ?_
   rw [decide_eq_true (by omega),Bool.true_and]
   cases hv : l.all Stm.valid with
   | true => rw [hv] at h; exact bnd h (cT rfl (cT rfl rfl))
   | false => rw [hv] at h; exact bnd h (cF rfl (cT rfl rfl))
end Go.Proofs.Ytnhahcomgeeobaa
