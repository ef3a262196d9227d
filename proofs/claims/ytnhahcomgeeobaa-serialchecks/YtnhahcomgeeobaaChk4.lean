/- The reference's search answers the same. -/
import Derived.Test.YtnhahcomgeeobaaChk3
import Derived.Test.YtnhahcomgeeobaaEq7
set_option linter.all false
namespace Go.Proofs.Ytnhahcomgeeobaa
open Go.Ev
set_option maxRecDepth 100000
theorem lsEq_comm (xs ys : List Res) : lsEq rsEq xs ys = lsEq rsEq ys xs := by
 rw [Bool.eq_iff_iff,lsEq_iff rsEq_iff,lsEq_iff rsEq_iff]
 exact ⟨Eq.symm,Eq.symm⟩
def Eq3 (cn : Bool) (cs : List Cl) (tr mo : Int) : AV := .ep [.lst cn 7 (cs.map Cl.row),.v (.int .i64 tr),.v (.int .i64 mo)] 0
theorem l_free (cn : Bool) (cs : List Cl) (hok : ∀ c ∈ cs,c.ok) (pn : Bool) (ps : List Bool) (tr mo : Int) (hl : cs.length ≤ 1000000) (i : Nat) (hi : i < cs.length) : ∀ (rc dc : List Cl) (rp dp : List Bool),cs = dc ++ rc → ps = dp ++ rp → dc.length = dp.length → rc.length = rp.length →
  lp 56 0 0 ⟨[(0,Eq3 cn cs tr mo),(1,.lst pn 1 (ps.map bRow)),(2,.v (.int .i64 ((i : Nat) : Int))),(7,.v (.int .i64 ((dc.length : Nat) : Int)))],[]⟩ = bif mayR (cs.getD i c0).inv rc rp then some ⟨some 0,⟨[],[]⟩,[]⟩ else some ⟨none,⟨[],[]⟩,[.v (.bool false)]⟩
 | [],dc,[],dp,h1,h2,h3,_ => by
  unfold Eq3
  rw [lp56_0]
  exact cF (ltI_f (by rw [List.length_map,h1,List.append_nil]; omega)) rfl
 | [],dc,p :: rp,dp,h1,h2,h3,h4 => by simp at h4
 | c :: rc,dc,[],dp,h1,h2,h3,h4 => by simp at h4
 | c :: rc,dc,p :: rp,dp,h1,h2,h3,h4 => by
  have hx : dc.length < cs.length := by rw [h1]; simp
  have hy : dc.length < ps.length := by rw [h2,h3]; simp
  have e1 : lget (cs.map Cl.row) (Int.toNat ((dc.length : Nat) : Int)) = c.row := by
   rw [Int.toNat_natCast,lget_map _ _ _ hx]; subst h1; simp
  have e2 : lget (ps.map bRow) (Int.toNat ((dc.length : Nat) : Int)) = bRow p := by
   rw [Int.toNat_natCast,lget_map _ _ _ hy]; subst h2; simp [h3]
  have e3 : lget (cs.map Cl.row) (Int.toNat ((i : Nat) : Int)) = (cs.getD i c0).row := by rw [Int.toNat_natCast,lget_mapD _ _ c0 _ hi]
  have hw : IntKind.i64.wrap (((dc.length : Nat) : Int) + 1) = (((dc ++ [c]).length : Nat) : Int) := by rw [w_i64,List.length_append,List.length_singleton]; omega
  have ih := l_free cn cs hok pn ps tr mo hl i hi rc (dc ++ [c]) rp (dp ++ [p]) (by rw [h1]; simp) (by rw [h2]; simp) (by simp [h3]) (by simpa using h4)
  have i1 : (leI 0 ((dc.length : Nat) : Int) && ltI ((dc.length : Nat) : Int) (((List.length (cs.map Cl.row)) : Nat) : Int)) = true := by rw [leI_t (by omega),ltI_t (by rw [List.length_map]; omega)]; rfl
  have i2 : (leI 0 ((dc.length : Nat) : Int) && ltI ((dc.length : Nat) : Int) (((List.length (ps.map bRow)) : Nat) : Int)) = true := by rw [leI_t (by omega),ltI_t (by rw [List.length_map]; omega)]; rfl
  have i3 : (leI 0 ((i : Nat) : Int) && ltI ((i : Nat) : Int) (((List.length (cs.map Cl.row)) : Nat) : Int)) = true := by rw [leI_t (by omega),ltI_t (by rw [List.length_map]; omega)]; rfl
  unfold Eq3 at ih ⊢
  rw [lp56_0,e1,e2,e3,hw]
  refine cT (ltI_t (by rw [List.length_map]; omega)) (cT i2 (cT rfl ?_))
  show cond (!p) _ _ = bif (bif (c.fate == 1) then (bif !p then (bif ltI c.ret (cs.getD i c0).inv then false else mayR (cs.getD i c0).inv rc rp) else mayR (cs.getD i c0).inv rc rp) else mayR (cs.getD i c0).inv rc rp) then _ else _
  cases p with
  | true =>
   refine cF rfl (ih.trans ?_)
   cases (c.fate == 1) <;> rfl
  | false =>
   refine cT rfl (cT i1 (cT rfl ?_))
   show cond (c.fate == 1) _ _ = _
   cases (c.fate == 1) with
   | false => exact cF rfl ih
   | true =>
    refine cT rfl (cT i1 (cT rfl (cT i3 (cT rfl ?_))))
    show cond (ltI c.ret (cs.getD i c0).inv) _ _ = _
    cases ltI c.ret (cs.getD i c0).inv with
    | true => exact cT rfl rfl
    | false => exact cF rfl ih
theorem s_free (cn : Bool) (cs : List Cl) (hok : ∀ c ∈ cs,c.ok) (pn : Bool) (ps : List Bool) (hp : ps.length = cs.length) (tr mo : Int) (hl : cs.length ≤ 1000000) (i : Nat) (hi : i < cs.length) : ev 56 [Eq3 cn cs tr mo,.lst pn 1 (ps.map bRow),.v (.int .i64 ((i : Nat) : Int))] = some [.v (.bool (may cs ps i))] := by
 have h := l_free cn cs hok pn ps tr mo hl i hi cs [] ps [] rfl rfl rfl hp.symm
 have e2 : lget (ps.map bRow) (Int.toNat ((i : Nat) : Int)) = bRow (ps.getD i false) := by rw [Int.toNat_natCast,ps_get (by omega)]
 have e3 : lget (cs.map Cl.row) (Int.toNat ((i : Nat) : Int)) = (cs.getD i c0).row := by rw [Int.toNat_natCast,lget_mapD _ _ c0 _ hi]
 have i2 : (leI 0 ((i : Nat) : Int) && ltI ((i : Nat) : Int) (((List.length (ps.map bRow)) : Nat) : Int)) = true := by rw [leI_t (by omega),ltI_t (by rw [List.length_map]; omega)]; rfl
 have i3 : (leI 0 ((i : Nat) : Int) && ltI ((i : Nat) : Int) (((List.length (cs.map Cl.row)) : Nat) : Int)) = true := by rw [leI_t (by omega),ltI_t (by rw [List.length_map]; omega)]; rfl
 unfold Eq3 at h ⊢
 rw [ev56,e2,e3]
 unfold may
 refine cT i2 (cT rfl ?_)
 show cond (ps.getD i false) _ _ = _
 cases ps.getD i false with
 | true => exact cT rfl rfl
 | false =>
  refine cF rfl (cT i3 (cT rfl ?_))
  show cond ((cs.getD i c0).fate == 2) _ _ = _
  cases ((cs.getD i c0).fate == 2) with
  | true => exact cT rfl rfl
  | false =>
   refine cF rfl ?_
   show _ = some [AV.v (.bool (mayR (cs.getD i c0).inv cs ps))]
   cases hm : mayR (cs.getD i c0).inv cs ps with
   | true => rw [hm] at h; exact bnd h (cT rfl (cT rfl rfl))
   | false => rw [hm] at h; exact bnd h (cF rfl (cT rfl rfl))
def Oc (cn : Bool) (cs : List Cl) (tr mo : Int) : AV := .ob 103 [.lst cn 7 (cs.map Cl.row),.v (.int .i64 tr),.v (.int .i64 mo)]
def Us (ps : List Bool) : AV := .tup [.ow false 4 1 (ps.map bRow)]
def left : List Cl → List Bool → Nat
 | c :: cs,p :: ps => (bif (c.fate == 1) then (bif !p then 1 else 0) else 0) + left cs ps
 | _,_ => 0
theorem left_compl : ∀ (cs : List Cl) (ps : List Bool),complR cs ps = (left cs ps == 0)
 | [],[] => rfl
 | [],_ :: _ => rfl
 | _ :: _,[] => rfl
 | c :: cs,p :: ps => by
  have ih := left_compl cs ps
  show (bif (c.fate == 1) then (bif !p then false else complR cs ps) else complR cs ps) = (((bif (c.fate == 1) then (bif !p then 1 else 0) else 0) + left cs ps) == 0)
  rw [ih]
  cases (c.fate == 1) with
  | false => simp
  | true =>
   cases p with
   | true => simp
   | false =>
    show false = ((1 + left cs ps) == 0)
    symm
    rw [beq_eq_false_iff_ne]; omega
theorem left_le : ∀ (cs : List Cl) (ps : List Bool),left cs ps ≤ cs.length
 | [],_ => Nat.le_refl _
 | _ :: _,[] => Nat.zero_le _
 | c :: cs,p :: ps => by
  have ih := left_le cs ps
  show (bif (c.fate == 1) then (bif !p then 1 else 0) else 0) + left cs ps ≤ cs.length + 1
  cases (c.fate == 1) <;> cases p <;> simp <;> omega
def Bl39 (cn : Bool) (cs : List Cl) (ps : List Bool) (tr mo : Int) : List Blk := [⟨1,103,3,true,[[.lst cn 7 (cs.map Cl.row),.v (.int .i64 tr),.v (.int .i64 mo)]]⟩,⟨1,4,1,false,ps.map bRow⟩]
def S390 (tn : Bool) (t : List Rw) (cn : Bool) (cs : List Cl) (ps : List Bool) (on : Bool) (os : List Int) (tr mo n : Int) (i : Nat) : St :=
 ⟨[(0,.ptr 0 0 0),(1,.lst tn 4 (t.map Rw.row)),(2,.sl false 1 0 none),(3,.lst on 1 (os.map vRow)),(10,.v (.int .i64 n)),(11,.v (.int .i64 ((i : Nat) : Int))),(1000000,.ptr 0 0 0),(1000001,.sl false 1 0 none)],Bl39 cn cs ps tr mo⟩
def S391 (tn : Bool) (t : List Rw) (cn : Bool) (cs : List Cl) (ps : List Bool) (on : Bool) (os : List Int) (tr mo : Int) (i : Nat) : St :=
 ⟨[(0,.ptr 0 0 0),(1,.lst tn 4 (t.map Rw.row)),(2,.sl false 1 0 none),(3,.lst on 1 (os.map vRow)),(12,.v (.int .i64 ((i : Nat) : Int))),(1000000,.ptr 0 0 0),(1000001,.sl false 1 0 none)],Bl39 cn cs ps tr mo⟩
theorem l_left (tn : Bool) (t : List Rw) (cn : Bool) (cs : List Cl) (hok : ∀ c ∈ cs,c.ok) (ps : List Bool) (on : Bool) (os : List Int) (tr mo : Int) (hl : cs.length ≤ 1000000) : ∀ (rc dc : List Cl) (rp dp : List Bool) (n : Nat),cs = dc ++ rc → ps = dp ++ rp → dc.length = dp.length → rc.length = rp.length → n ≤ dc.length →
  lp 39 0 2 (S390 tn t cn cs ps on os tr mo ((n : Nat) : Int) dc.length) = some ⟨some 0,⟨[(0,.ptr 0 0 0),(1,.lst tn 4 (t.map Rw.row)),(2,.sl false 1 0 none),(3,.lst on 1 (os.map vRow)),(10,.v (.int .i64 ((n + left rc rp : Nat) : Int))),(1000000,.ptr 0 0 0),(1000001,.sl false 1 0 none)],Bl39 cn cs ps tr mo⟩,[]⟩
 | [],dc,[],dp,n,h1,h2,h3,_,_ => by
  unfold S390 Bl39
  rw [lp39_0]
  exact cF (ltI_f (by rw [List.length_map,h1,List.append_nil]; omega)) rfl
 | [],dc,p :: rp,dp,n,h1,h2,h3,h4,_ => by simp at h4
 | c :: rc,dc,[],dp,n,h1,h2,h3,h4,_ => by simp at h4
 | c :: rc,dc,p :: rp,dp,n,h1,h2,h3,h4,h5 => by
  have hx : dc.length < cs.length := by rw [h1]; simp
  have hy : dc.length < ps.length := by rw [h2,h3]; simp
  have e1 : lget (cs.map Cl.row) (Int.toNat ((dc.length : Nat) : Int)) = c.row := by
   rw [Int.toNat_natCast,lget_map _ _ _ hx]; subst h1; simp
  have e2 : lget (ps.map bRow) (0 + Int.toNat ((dc.length : Nat) : Int)) = bRow p := by
   rw [Nat.zero_add,Int.toNat_natCast,lget_map _ _ _ hy]; subst h2; simp [h3]
  have hw : IntKind.i64.wrap (((dc.length : Nat) : Int) + 1) = (((dc ++ [c]).length : Nat) : Int) := by rw [w_i64,List.length_append,List.length_singleton]; omega
  have hn : IntKind.i64.wrap (((n : Nat) : Int) + 1) = ((n + 1 : Nat) : Int) := by rw [w_i64]; omega
  have ih := fun m hm => l_left tn t cn cs hok ps on os tr mo hl rc (dc ++ [c]) rp (dp ++ [p]) m (by rw [h1]; simp) (by rw [h2]; simp) (by simp [h3]) (by simpa using h4) hm
  have ih0 := ih n (by simp; omega)
  have ih1 := ih (n + 1) (by simp; omega)
  have i1 : (leI 0 ((dc.length : Nat) : Int) && ltI ((dc.length : Nat) : Int) (((List.length (cs.map Cl.row)) : Nat) : Int)) = true := by rw [leI_t (by omega),ltI_t (by rw [List.length_map]; omega)]; rfl
  have i2 : (leI 0 ((dc.length : Nat) : Int) && ltI ((dc.length : Nat) : Int) ((((List.length (ps.map bRow)) - 0) : Nat) : Int)) = true := by rw [leI_t (by omega),ltI_t (by rw [List.length_map]; omega)]; rfl
  unfold S390 Bl39 at ih0 ih1 ⊢
  rw [lp39_0,e1,e2,hw,hn]
  refine cT (ltI_t (by rw [List.length_map]; omega)) (cT i1 (cT rfl ?_))
  show cond (c.fate == 1) _ _ = some (⟨some 0,⟨[(0,.ptr 0 0 0),(1,.lst tn 4 (t.map Rw.row)),(2,.sl false 1 0 none),(3,.lst on 1 (os.map vRow)),(10,.v (.int .i64 ((n + ((bif (c.fate == 1) then (bif !p then 1 else 0) else 0) + left rc rp) : Nat) : Int))),(1000000,.ptr 0 0 0),(1000001,.sl false 1 0 none)],_⟩,[]⟩ : LR)
  cases (c.fate == 1) with
  | false =>
   refine cF rfl (ih0.trans ?_)
   simp
  | true =>
   refine cT rfl (cT i2 (cT (by rw [ltN_t (by rw [List.length_map,Int.toNat_natCast]; omega)]; rfl) ?_))
   show cond (!p) _ _ = _
   cases p with
   | true =>
    refine cF rfl (ih0.trans ?_)
    simp
   | false =>
    refine cT rfl (ih1.trans ?_)
    simp only [Nat.add_assoc]; rfl
end Go.Proofs.Ytnhahcomgeeobaa
