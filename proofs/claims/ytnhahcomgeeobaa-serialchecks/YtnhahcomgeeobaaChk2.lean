/- The search: what run answers. -/
import Derived.Test.YtnhahcomgeeobaaChk1
set_option linter.all false
namespace Go.Proofs.Ytnhahcomgeeobaa
open Go.Ev
set_option maxRecDepth 100000
def complR : List Cl → List Bool → Bool
 | c :: cs,p :: ps => bif (c.fate == 1) then (bif !p then false else complR cs ps) else complR cs ps
 | _,_ => true
def mayR (iv : Int) : List Cl → List Bool → Bool
 | c :: cs,p :: ps => bif (c.fate == 1) then (bif !p then (bif ltI c.ret iv then false else mayR iv cs ps) else mayR iv cs ps) else mayR iv cs ps
 | _,_ => true
def may (cs : List Cl) (ps : List Bool) (i : Nat) : Bool :=
 bif ps.getD i false then false else bif ((cs.getD i c0).fate == 2) then false else mayR (cs.getD i c0).inv cs ps
inductive Out where
 | found (os : List Int)
 | limit
 | none (b : Int)
def loopM (rec : List Rw → List Bool → List Int → Int → Out) (cs : List Cl) (t : List Rw) (ps : List Bool) (os : List Int) : Nat → Nat → Int → Out
 | 0,_,b => .none b
 | k + 1,i,b =>
  bif may cs ps i then
   (bif b == 0 then .limit else
   bif agr (cs.getD i c0) (applyM t (cs.getD i c0).prog) then
    (match rec (applyM t (cs.getD i c0).prog).1 (ps.set i true) (os ++ [(i : Int)]) (b - 1) with
    | .none b' => loopM rec cs t ps os k (i + 1) b'
    | .found r => .found r
    | .limit => .limit)
   else loopM rec cs t ps os k (i + 1) (b - 1))
  else loopM rec cs t ps os k (i + 1) b
def runM (cs : List Cl) : Nat → List Rw → List Bool → List Int → Int → Out
 | 0,_,_,_,_ => .limit
 | f + 1,t,ps,os,b => bif complR cs ps then .found os else loopM (runM cs f) cs t ps os cs.length 0 b
def unp : List Bool → Nat
 | [] => 0
 | p :: ps => (bif p then 0 else 1) + unp ps
theorem unp_set : ∀ (ps : List Bool) (i : Nat),i < ps.length → ps.getD i false = false → unp (ps.set i true) + 1 = unp ps
 | [],_,h,_ => by simp at h
 | p :: ps,0,_,h => by
  have : p = false := by simpa using h
  subst this
  show (0 + unp ps) + 1 = 1 + unp ps
  omega
 | p :: ps,i + 1,h,h2 => by
  have := unp_set ps i (by simpa using h) (by simpa using h2)
  show (bif p then 0 else 1) + unp (ps.set i true) + 1 = (bif p then 0 else 1) + unp ps
  omega
def Ep (cn : Bool) (cs : List Cl) (pn : Bool) (ps : List Bool) (on : Bool) (os : List Int) (b : Int) : AV := .ep [.lst cn 7 (cs.map Cl.row),.lst pn 1 (ps.map bRow),.lst on 1 (os.map vRow),.v (.int .i64 b)] 0
theorem ps_get {ps : List Bool} {i : Nat} (h : i < ps.length) : lget (ps.map bRow) i = bRow (ps.getD i false) := lget_mapD _ _ false _ h
theorem l_compl (cn : Bool) (cs : List Cl) (hok : ∀ c ∈ cs,c.ok) (pn : Bool) (ps : List Bool) (on : Bool) (os : List Int) (b : Int) (hl : cs.length ≤ 1000000) : ∀ (rc dc : List Cl) (rp dp : List Bool),cs = dc ++ rc → ps = dp ++ rp → dc.length = dp.length → rc.length = rp.length →
  lp 53 0 0 ⟨[(0,Ep cn cs pn ps on os b),(8,.lst cn 7 (cs.map Cl.row)),(9,.v (.int .i64 (((List.length (cs.map Cl.row)) : Nat) : Int))),(10,.v (.int .i64 ((dc.length : Nat) : Int)))],[]⟩ = bif complR rc rp then some ⟨some 0,⟨[],[]⟩,[]⟩ else some ⟨none,⟨[],[]⟩,[.v (.bool false)]⟩
 | [],dc,[],dp,h1,h2,h3,_ => by
  unfold Ep
  rw [lp53_0]
  exact cF (ltI_f (by rw [List.length_map,h1,List.append_nil]; omega)) rfl
 | [],dc,p :: rp,dp,h1,h2,h3,h4 => by simp at h4
 | c :: rc,dc,[],dp,h1,h2,h3,h4 => by simp at h4
 | c :: rc,dc,p :: rp,dp,h1,h2,h3,h4 => by
  have hx : dc.length < cs.length := by rw [h1]; simp
  have hy : dc.length < ps.length := by rw [h2,h3]; simp
  have e1 : lget (cs.map Cl.row) (Int.toNat ((dc.length : Nat) : Int)) = c.row := by
   rw [Int.toNat_natCast,lget_map _ _ _ hx]; subst h1; simp
  have e2 : lget (ps.map bRow) (Int.toNat ((dc.length : Nat) : Int)) = bRow p := by
   rw [Int.toNat_natCast,lget_map _ _ _ hy]; subst h2; simp [h3]
  have hw : IntKind.i64.wrap (((dc.length : Nat) : Int) + 1) = (((dc ++ [c]).length : Nat) : Int) := by rw [w_i64,List.length_append,List.length_singleton]; omega
  have ih := l_compl cn cs hok pn ps on os b hl rc (dc ++ [c]) rp (dp ++ [p]) (by rw [h1]; simp) (by rw [h2]; simp) (by simp [h3]) (by simpa using h4)
  have i1 : (leI 0 ((dc.length : Nat) : Int) && ltI ((dc.length : Nat) : Int) (((List.length (cs.map Cl.row)) : Nat) : Int)) = true := by rw [leI_t (by omega),ltI_t (by rw [List.length_map]; omega)]; rfl
  have i2 : (leI 0 ((dc.length : Nat) : Int) && ltI ((dc.length : Nat) : Int) (((List.length (ps.map bRow)) : Nat) : Int)) = true := by rw [leI_t (by omega),ltI_t (by rw [List.length_map]; omega)]; rfl
  unfold Ep at ih ⊢
  rw [lp53_0,e1,e2,hw]
  refine cT (ltI_t (by rw [List.length_map]; omega)) (cT i1 (cT (cl_shape c (hok c (by rw [h1]; simp))) ?_))
  show cond (c.fate == 1) _ _ = bif (bif (c.fate == 1) then (bif !p then false else complR rc rp) else complR rc rp) then _ else _
  cases (c.fate == 1) with
  | false => exact cF rfl ih
  | true =>
   refine cT rfl (cT i2 (cT rfl ?_))
   cases p with
   | true => exact cF rfl ih
   | false => exact cT rfl rfl
theorem s_compl (cn : Bool) (cs : List Cl) (hok : ∀ c ∈ cs,c.ok) (pn : Bool) (ps : List Bool) (hp : ps.length = cs.length) (on : Bool) (os : List Int) (b : Int) (hl : cs.length ≤ 1000000) : ev 53 [Ep cn cs pn ps on os b] = some [.v (.bool (complR cs ps))] := by
 have h := l_compl cn cs hok pn ps on os b hl cs [] ps [] rfl rfl rfl hp.symm
 unfold Ep at h ⊢
 rw [ev53]
 cases hc : complR cs ps with
 | true => rw [hc] at h; exact bnd h (cT rfl (cT rfl rfl))
 | false => rw [hc] at h; exact bnd h (cF rfl (cT rfl rfl))
theorem l_may (cn : Bool) (cs : List Cl) (hok : ∀ c ∈ cs,c.ok) (pn : Bool) (ps : List Bool) (on : Bool) (os : List Int) (b : Int) (hl : cs.length ≤ 1000000) (i : Nat) (hi : i < cs.length) : ∀ (rc dc : List Cl) (rp dp : List Bool),cs = dc ++ rc → ps = dp ++ rp → dc.length = dp.length → rc.length = rp.length →
  lp 54 0 0 ⟨[(0,Ep cn cs pn ps on os b),(1,.v (.int .i64 ((i : Nat) : Int))),(28,.lst cn 7 (cs.map Cl.row)),(29,.v (.int .i64 (((List.length (cs.map Cl.row)) : Nat) : Int))),(30,.v (.int .i64 ((dc.length : Nat) : Int)))],[]⟩ = bif mayR (cs.getD i c0).inv rc rp then some ⟨some 0,⟨[],[]⟩,[]⟩ else some ⟨none,⟨[],[]⟩,[.v (.bool false)]⟩
 | [],dc,[],dp,h1,h2,h3,_ => by
  unfold Ep
  rw [lp54_0]
  exact cF (ltI_f (by rw [List.length_map,h1,List.append_nil]; omega)) rfl
 | [],dc,p :: rp,dp,h1,h2,h3,h4 => by simp at h4
 | c :: rc,dc,[],dp,h1,h2,h3,h4 => by simp at h4
 | c :: rc,dc,p :: rp,dp,h1,h2,h3,h4 => by
  have hx : dc.length < cs.length := by rw [h1]; simp
  have hy : dc.length < ps.length := by rw [h2,h3]; simp
  have e1 : lget (cs.map Cl.row) (Int.toNat ((dc.length : Nat) : Int)) = c.row := by
   rw [Int.toNat_natCast,lget_map _ _ _ hx]; subst h1; simp
  have e2 : lget (ps.map bRow) (Int.toNat ((dc.length : Nat) : Int)) = bRow p := by
   rw [Int.toNat_natCast,lget_map _ _ _ hy]; subst h2; simp [h3]
  have e3 : lget (cs.map Cl.row) (Int.toNat ((i : Nat) : Int)) = (cs.getD i c0).row := by rw [Int.toNat_natCast,lget_mapD _ _ c0 _ hi]
  have hw : IntKind.i64.wrap (((dc.length : Nat) : Int) + 1) = (((dc ++ [c]).length : Nat) : Int) := by rw [w_i64,List.length_append,List.length_singleton]; omega
  have ih := l_may cn cs hok pn ps on os b hl i hi rc (dc ++ [c]) rp (dp ++ [p]) (by rw [h1]; simp) (by rw [h2]; simp) (by simp [h3]) (by simpa using h4)
  have i1 : (leI 0 ((dc.length : Nat) : Int) && ltI ((dc.length : Nat) : Int) (((List.length (cs.map Cl.row)) : Nat) : Int)) = true := by rw [leI_t (by omega),ltI_t (by rw [List.length_map]; omega)]; rfl
  have i2 : (leI 0 ((dc.length : Nat) : Int) && ltI ((dc.length : Nat) : Int) (((List.length (ps.map bRow)) : Nat) : Int)) = true := by rw [leI_t (by omega),ltI_t (by rw [List.length_map]; omega)]; rfl
  have i3 : (leI 0 ((i : Nat) : Int) && ltI ((i : Nat) : Int) (((List.length (cs.map Cl.row)) : Nat) : Int)) = true := by rw [leI_t (by omega),ltI_t (by rw [List.length_map]; omega)]; rfl
  unfold Ep at ih ⊢
  rw [lp54_0,e1,e2,e3,hw]
  refine cT (ltI_t (by rw [List.length_map]; omega)) (cT i1 (cT (cl_shape c (hok c (by rw [h1]; simp))) ?_))
  show cond (c.fate == 1) _ _ = bif (bif (c.fate == 1) then (bif !p then (bif ltI c.ret (cs.getD i c0).inv then false else mayR (cs.getD i c0).inv rc rp) else mayR (cs.getD i c0).inv rc rp) else mayR (cs.getD i c0).inv rc rp) then _ else _
  cases (c.fate == 1) with
  | false => exact cF rfl ih
  | true =>
   refine cT rfl (cT i2 (cT rfl ?_))
   cases p with
   | true => exact cF rfl ih
   | false =>
    refine cT rfl (cT i3 (cT rfl ?_))
    show cond (ltI c.ret (cs.getD i c0).inv) _ _ = _
    cases ltI c.ret (cs.getD i c0).inv with
    | true => exact cT rfl rfl
    | false => exact cF rfl ih
theorem s_may (cn : Bool) (cs : List Cl) (hok : ∀ c ∈ cs,c.ok) (pn : Bool) (ps : List Bool) (hp : ps.length = cs.length) (on : Bool) (os : List Int) (b : Int) (hl : cs.length ≤ 1000000) (i : Nat) (hi : i < cs.length) : ev 54 [Ep cn cs pn ps on os b,.v (.int .i64 ((i : Nat) : Int))] = some [.v (.bool (may cs ps i))] := by
 have h := l_may cn cs hok pn ps on os b hl i hi cs [] ps [] rfl rfl rfl hp.symm
 have e2 : lget (ps.map bRow) (Int.toNat ((i : Nat) : Int)) = bRow (ps.getD i false) := by rw [Int.toNat_natCast,ps_get (by omega)]
 have e3 : lget (cs.map Cl.row) (Int.toNat ((i : Nat) : Int)) = (cs.getD i c0).row := by rw [Int.toNat_natCast,lget_mapD _ _ c0 _ hi]
 have i2 : (leI 0 ((i : Nat) : Int) && ltI ((i : Nat) : Int) (((List.length (ps.map bRow)) : Nat) : Int)) = true := by rw [leI_t (by omega),ltI_t (by rw [List.length_map]; omega)]; rfl
 have i3 : (leI 0 ((i : Nat) : Int) && ltI ((i : Nat) : Int) (((List.length (cs.map Cl.row)) : Nat) : Int)) = true := by rw [leI_t (by omega),ltI_t (by rw [List.length_map]; omega)]; rfl
 unfold Ep at h ⊢
 rw [ev54,e2,e3]
 unfold may
 refine cT i2 (cT rfl ?_)
 show cond (ps.getD i false) _ _ = _
 cases ps.getD i false with
 | true => exact cT rfl rfl
 | false =>
  refine cF rfl (cT i3 (cT rfl ?_))
  show cond ((cs.getD i c0).fate == 2) _ _ = _
  cases ((cs.getD i c0).fate == 2) with
  | true => exact cT rfl rfl
  | false =>
   refine cF rfl ?_
   show _ = some [AV.v (.bool (mayR (cs.getD i c0).inv cs ps))]
   cases hm : mayR (cs.getD i c0).inv cs ps with
   | true => rw [hm] at h; exact bnd h (cT rfl (cT rfl rfl))
   | false => rw [hm] at h; exact bnd h (cF rfl (cT rfl rfl))
def Ob (cn : Bool) (cs : List Cl) (pn : Bool) (ps : List Bool) (on : Bool) (os : List Int) (b : Int) : AV := .ob 97 [.lst cn 7 (cs.map Cl.row),.ow pn 4 1 (ps.map bRow),.ow on 3 1 (os.map vRow),.v (.int .i64 b)]
def outR (cn : Bool) (cs : List Cl) (ps : List Bool) (os : List Int) (o : Out) (e : Option (List AV)) : Prop := match o with
 | .found os' => ∃ (pn on : Bool) (ps' : List Bool) (b' : Int),e = some [.v (.bool true),.v (.int .i64 0),Ob cn cs pn ps' on os' b']
 | .limit => ∃ (pn on : Bool) (ps' : List Bool) (os' : List Int) (b' : Int),e = some [.v (.bool false),.v (.int .i64 18),Ob cn cs pn ps' on os' b']
 | .none b' => ∃ (pn on : Bool),e = some [.v (.bool false),.v (.int .i64 0),Ob cn cs pn ps on os b']
def outRl (cn : Bool) (cs : List Cl) (ps : List Bool) (os : List Int) (o : Out) (e : Option LR) : Prop := match o with
 | .found os' => ∃ (pn on : Bool) (ps' : List Bool) (b' : Int),e = some ⟨none,⟨[],[]⟩,[.v (.bool true),.v (.int .i64 0),Ob cn cs pn ps' on os' b']⟩
 | .limit => ∃ (pn on : Bool) (ps' : List Bool) (os' : List Int) (b' : Int),e = some ⟨none,⟨[],[]⟩,[.v (.bool false),.v (.int .i64 18),Ob cn cs pn ps' on os' b']⟩
 | .none b' => ∃ (pn on : Bool),e = some ⟨some 0,⟨[(1000000,.ptr 0 0 0)],[⟨1,97,4,true,[[.lst cn 7 (cs.map Cl.row),.sl pn 1 0 none,.sl on 2 0 none,.v (.int .i64 b')]]⟩,⟨1,4,1,false,ps.map bRow⟩,⟨1,3,1,false,os.map vRow⟩]⟩,[]⟩
def S37 (tn : Bool) (t : List Rw) (cn : Bool) (cs : List Cl) (pn : Bool) (ps : List Bool) (on : Bool) (os : List Int) (b : Int) (i : Nat) : St :=
 ⟨[(0,.ptr 0 0 0),(1,.lst tn 4 (t.map Rw.row)),(19,.v (.int .i64 (((List.length (cs.map Cl.row)) : Nat) : Int))),(20,.v (.int .i64 ((i : Nat) : Int))),(1000000,.ptr 0 0 0)],[⟨1,97,4,true,[[.lst cn 7 (cs.map Cl.row),.sl pn 1 0 none,.sl on 2 0 none,.v (.int .i64 b)]]⟩,⟨1,4,1,false,ps.map bRow⟩,⟨1,3,1,false,os.map vRow⟩]⟩
def GC (cs : List Cl) : Prop := ∀ c ∈ cs,c.ok∧okP c.prog = true
structure Fit (n f : Nat) (t : List Rw) (ps : List Bool) (os : List Int) : Prop where
 tl : t.length + 8 * f ≤ 500
 pl : ps.length = n
 ol : os.length + f ≤ 100
 un : unp ps < f
theorem set_back {ps : List Bool} {i : Nat} (h : i < ps.length) (h2 : ps.getD i false = false) : (ps.set i true).set i false = ps := by
 rw [List.set_set]
 refine List.ext_getElem (by simp) fun k h1 h3 => ?_
 rw [List.getElem_set]
 split
 ·rename_i e
  subst e
  simp [h] at h2
  exact h2.symm
 ·rfl
theorem l37 (cn : Bool) (cs : List Cl) (hg : GC cs) (hcs : cs.length ≤ 16) (f : Nat)
  (IH : ∀ (tn : Bool) (t : List Rw) (pn : Bool) (ps : List Bool) (on : Bool) (os : List Int) (b : Int),(tn = true → t = []) → OkT t → Fit cs.length f t ps os → (0 ≤ b∧b ≤ 1000000) → outR cn cs ps os (runM cs f t ps os b) (ev 37 [Ob cn cs pn ps on os b,.lst tn 4 (t.map Rw.row)])∧(∀ b',runM cs f t ps os b = .none b' → 0 ≤ b'∧b' ≤ b))
  (tn : Bool) (t : List Rw) (htn : tn = true → t = []) (hT : OkT t) (ps : List Bool) (os : List Int) (hf : Fit cs.length (f + 1) t ps os) : ∀ (k i : Nat) (pn on : Bool) (b : Int),i + k = cs.length → (0 ≤ b∧b ≤ 1000000) →
  outRl cn cs ps os (loopM (runM cs f) cs t ps os k i b) (lp 37 0 1 (S37 tn t cn cs pn ps on os b i))∧(∀ b',loopM (runM cs f) cs t ps os k i b = .none b' → 0 ≤ b'∧b' ≤ b)
 | 0,i,pn,on,b,h,hb => by
  refine ⟨⟨pn,on,?_⟩,fun b' e => ?_⟩
  ·unfold S37
   rw [lp37_0]
   exact cF (ltI_f (by rw [List.length_map]; omega)) rfl
  ·have : b = b' := by injection e
   omega
 | k + 1,i,pn,on,b,h,hb => by
  have hi : i < cs.length := by omega
  have hip : i < ps.length := by rw [hf.pl]; exact hi
  obtain ⟨hco,hcp⟩ := hg _ (mem_getD cs c0 i hi)
  have hcp8 := (okP_V hcp).1
  have e3 : lget (cs.map Cl.row) (Int.toNat ((i : Nat) : Int)) = (cs.getD i c0).row := by rw [Int.toNat_natCast,lget_mapD _ _ c0 _ hi]
  have hw : IntKind.i64.wrap (((i : Nat) : Int) + 1) = ((i + 1 : Nat) : Int) := by rw [w_i64]; omega
  have i1 : ltI ((i : Nat) : Int) (((List.length (cs.map Cl.row)) : Nat) : Int) = true := ltI_t (by rw [List.length_map]; omega)
  have i2 : (leI 0 ((i : Nat) : Int) && ltI ((i : Nat) : Int) (((List.length (cs.map Cl.row)) : Nat) : Int)) = true := by rw [leI_t (by omega),i1]; rfl
  have i3 : (leI 0 ((i : Nat) : Int) && ltI ((i : Nat) : Int) ((((List.length (ps.map bRow)) - 0) : Nat) : Int)) = true := by rw [leI_t (by omega),ltI_t (by rw [List.length_map]; omega)]; rfl
  have i4 : ltN (0 + Int.toNat ((i : Nat) : Int)) (List.length (ps.map bRow)) = true := ltN_t (by rw [List.length_map,Int.toNat_natCast]; omega)
  have hm := s_may cn cs (fun c hc => (hg c hc).1) pn ps hf.pl on os b (by omega) i hi
  have htl := hf.tl
  have hol := hf.ol
  obtain ⟨a4,a5,acc,an,ha,h27⟩ := s_Apply tn t htn (by omega) hT (cs.getD i c0).pn (cs.getD i c0).prog hco.pok
  obtain ⟨k1,k2,k3,k4,k5,k6⟩ := applyM_ok t (cs.getD i c0).prog hT hco.pok (by omega) (by omega)
  have hagr := s_agrees (cs.getD i c0) hco a5 acc (applyM t (cs.getD i c0).prog) ha
  have ih := l37 cn cs hg hcs f IH tn t htn hT ps os hf k (i + 1)
  unfold loopM
  have hstep : lp 37 0 1 (S37 tn t cn cs pn ps on os b i) = lp 37 0 1 (S37 tn t cn cs pn ps on os b i) := rfl
  cases hmay : may cs ps i with
  | false =>
   rw [hmay] at hm
   obtain ⟨h1,h2⟩ := ih pn on b (by omega) hb
   refine ⟨?_,h2⟩
   have : lp 37 0 1 (S37 tn t cn cs pn ps on os b i) = lp 37 0 1 (S37 tn t cn cs pn ps on os b (i + 1)) := by
    unfold S37
    rw [lp37_0,hw]
    exact cT i1 (bnd hm (cT rfl (cT rfl rfl)))
   rw [this]
   exact h1
  | true =>
   rw [hmay] at hm
   have hpi : ps.getD i false = false := by
    unfold may at hmay
    cases hx : ps.getD i false with
    | false => rfl
    | true => rw [hx] at hmay; cases hmay
   have hun := unp_set ps i hip hpi
   have hfu := hf.un
   by_cases hb0 : b = 0
   ·subst hb0
    refine ⟨⟨pn,on,ps,os,0,?_⟩,fun b' e => by cases e⟩
    unfold S37
    rw [lp37_0]
    exact cT i1 (bnd hm (cT rfl (cF rfl (cT rfl rfl))))
   ·have hbn : (b == 0) = false := by rw [beq_eq_false_iff_ne]; exact hb0
    have hwb : IntKind.i64.wrap (b - 1) = b - 1 := by rw [w_i64]; omega
    rw [hbn]
    simp only [cond_true,cond_false]
    cases ha2 : agr (cs.getD i c0) (applyM t (cs.getD i c0).prog) with
    | false =>
     rw [ha2] at hagr
     obtain ⟨h1,h2⟩ := ih pn on (b - 1) (by omega) (by omega)
     refine ⟨?_,fun b' e => by have := h2 b' e; omega⟩
     have : lp 37 0 1 (S37 tn t cn cs pn ps on os b i) = lp 37 0 1 (S37 tn t cn cs pn ps on os (b - 1) (i + 1)) := by
      unfold S37
      rw [lp37_0,hw,e3,hwb]
      exact cT i1 (bnd hm (cT rfl (cF rfl (cF hbn (cT i2 (cT rfl (bnd h27 (cT rfl (cT rfl (cT rfl (cT rfl (cT i2 (cT (cl_shape _ hco) (bnd hagr (cT rfl (cT rfl rfl))))))))))))))))
     rw [this]
     exact h1
    | true =>
     rw [ha2] at hagr
     have hfit : Fit cs.length f (applyM t (cs.getD i c0).prog).1 (ps.set i true) (os ++ [(i : Int)]) := ⟨by omega,by rw [List.length_set]; exact hf.pl,by rw [List.length_append,List.length_singleton]; omega,by omega⟩
     obtain ⟨hr,hr2⟩ := IH a4 (applyM t (cs.getD i c0).prog).1 pn (ps.set i true) false (os ++ [(i : Int)]) (b - 1) an k1 hfit (by omega)
     have harg : ev 37 [Ob cn cs pn (ps.set i true) false (os ++ [(i : Int)]) (b - 1),.lst a4 4 ((applyM t (cs.getD i c0).prog).1.map Rw.row)] = ev 37 [.ob 97 [.lst cn 7 (cs.map Cl.row),.ow pn 4 1 (List.set (ps.map bRow) (0 + Int.toNat ((i : Nat) : Int)) [.v (.bool true)]),.ow false 3 1 (os.map vRow ++ [[.v (.int .i64 ((i : Nat) : Int))]]),.v (.int .i64 (b - 1))],.lst a4 4 ((applyM t (cs.getD i c0).prog).1.map Rw.row)] := by
      unfold Ob
      rw [List.map_append,List.map_set,Nat.zero_add,Int.toNat_natCast]; rfl
     rw [harg] at hr
     have hleN : leN (((List.length (os.map vRow)) + 1) * 8) 140737488355328 = true := leN_t (by rw [List.length_map]; omega)
     have head : ∀ (r : List AV) (e : Option LR),ev 37 [.ob 97 [.lst cn 7 (cs.map Cl.row),.ow pn 4 1 (List.set (ps.map bRow) (0 + Int.toNat ((i : Nat) : Int)) [.v (.bool true)]),.ow false 3 1 (os.map vRow ++ [[.v (.int .i64 ((i : Nat) : Int))]]),.v (.int .i64 (b - 1))],.lst a4 4 ((applyM t (cs.getD i c0).prog).1.map Rw.row)] = some r →
       (cond (isB (cellAt r 0)) (cond (isI .i64 (cellAt r 1)) (cond (((isOb 97 (cellAt r 2)) && (Nat.beq (List.length (obCells (cellAt r 2))) 4)) && (likeG [(.lst cn 7 (cs.map Cl.row)),(.ow pn 4 1 (List.set (ps.map bRow) (0 + Int.toNat ((i : Nat) : Int)) [.v (.bool true)])),(.ow false 3 1 (os.map vRow ++ [[.v (.int .i64 ((i : Nat) : Int))]])),(.v (.int .i64 (b - 1)))] 0 (obCells (cellAt r 2)))) (cond (avBool (cellAt r 0)) (some ⟨none,⟨[],[]⟩,[(.v (.bool (avBool (cellAt r 0)))),(.v (.int .i64 (avInt (cellAt r 1)))),(.ob 97 [(.lst (avNil (cellAt (obCells (cellAt r 2)) 0)) 7 (avXs (cellAt (obCells (cellAt r 2)) 0))),(.ow (avNil (cellAt (obCells (cellAt r 2)) 1)) 4 1 (avXs (cellAt (obCells (cellAt r 2)) 1))),(.ow (avNil (cellAt (obCells (cellAt r 2)) 2)) 3 1 (avXs (cellAt (obCells (cellAt r 2)) 2))),(.v (.int .i64 (avInt (cellAt (obCells (cellAt r 2)) 3))))])]⟩) (cond (!((avInt (cellAt r 1)) == 0)) (some ⟨none,⟨[],[]⟩,[(.v (.bool (avBool (cellAt r 0)))),(.v (.int .i64 (avInt (cellAt r 1)))),(.ob 97 [(.lst (avNil (cellAt (obCells (cellAt r 2)) 0)) 7 (avXs (cellAt (obCells (cellAt r 2)) 0))),(.ow (avNil (cellAt (obCells (cellAt r 2)) 1)) 4 1 (avXs (cellAt (obCells (cellAt r 2)) 1))),(.ow (avNil (cellAt (obCells (cellAt r 2)) 2)) 3 1 (avXs (cellAt (obCells (cellAt r 2)) 2))),(.v (.int .i64 (avInt (cellAt (obCells (cellAt r 2)) 3))))])]⟩)
        (cond ((leI 0 ((i : Nat) : Int)) && (ltI ((i : Nat) : Int) ((((List.length (avXs (cellAt (obCells (cellAt r 2)) 1))) - 0) : Nat) : Int))) (cond (ltN (0 + (Int.toNat ((i : Nat) : Int))) (List.length (avXs (cellAt (obCells (cellAt r 2)) 1)))) (cond ((leI 0 (IntKind.wrap .i64 (((((List.length (avXs (cellAt (obCells (cellAt r 2)) 2))) - 0) : Nat) : Int) - 1))) && (leI (IntKind.wrap .i64 (((((List.length (avXs (cellAt (obCells (cellAt r 2)) 2))) - 0) : Nat) : Int) - 1)) (((List.length (avXs (cellAt (obCells (cellAt r 2)) 2))) : Nat) : Int)))
         (lp 37 0 1 ⟨[(0,(.ptr 0 0 0)),(1,(.lst tn 4 (t.map Rw.row))),(19,(.v (.int .i64 (((List.length (cs.map Cl.row)) : Nat) : Int)))),(20,(.v (.int .i64 ((i + 1 : Nat) : Int)))),(1000000,(.ptr 0 0 0))],[⟨1,97,4,true,[[(.lst (avNil (cellAt (obCells (cellAt r 2)) 0)) 7 (avXs (cellAt (obCells (cellAt r 2)) 0))),(.sl (avNil (cellAt (obCells (cellAt r 2)) 1)) 1 0 none),(.sl (avNil (cellAt (obCells (cellAt r 2)) 2)) 2 0 none),(.v (.int .i64 (avInt (cellAt (obCells (cellAt r 2)) 3))))]]⟩,⟨1,4,1,false,(List.set (avXs (cellAt (obCells (cellAt r 2)) 1)) (0 + (Int.toNat ((i : Nat) : Int))) [(.v (.bool false))])⟩,⟨1,3,1,false,(List.take (Int.toNat (IntKind.wrap .i64 (((((List.length (avXs (cellAt (obCells (cellAt r 2)) 2))) - 0) : Nat) : Int) - 1))) (avXs (cellAt (obCells (cellAt r 2)) 2)))⟩]⟩) none) none) none))) none) none) none) = e →
       lp 37 0 1 (S37 tn t cn cs pn ps on os b i) = e := by
      intro r e hr he
      unfold S37
      rw [lp37_0,hw,e3,hwb]
      exact cT i1 (bnd hm (cT rfl (cF rfl (cF hbn (cT i2 (cT rfl (bnd h27 (cT rfl (cT rfl (cT rfl (cT rfl (cT i2 (cT (cl_shape _ hco) (bnd hagr (cT rfl (cF rfl (cT i3 (cT i4 (cT hleN (bnd hr he))))))))))))))))))))
     cases ho : runM cs f (applyM t (cs.getD i c0).prog).1 (ps.set i true) (os ++ [(i : Int)]) (b - 1) with
     | found os' =>
      rw [ho] at hr
      obtain ⟨pn',on',ps',b',hr⟩ := hr
      refine ⟨⟨pn',on',ps',b',head _ _ hr ?_⟩,fun b' e => by cases e⟩
      exact cT rfl (cT rfl (cT rfl (cT rfl rfl)))
     | limit =>
      rw [ho] at hr
      obtain ⟨pn',on',ps',os',b',hr⟩ := hr
      refine ⟨⟨pn',on',ps',os',b',head _ _ hr ?_⟩,fun b' e => by cases e⟩
      exact cT rfl (cT rfl (cT rfl (cF rfl (cT rfl rfl))))
     | none b' =>
      rw [ho] at hr
      obtain ⟨pn',on',hr⟩ := hr
      have hb' := hr2 b' ho
      obtain ⟨h1,h2⟩ := ih pn' on' b' (by omega) (by omega)
      refine ⟨?_,fun b'' e => by have := h2 b'' e; omega⟩
      have : lp 37 0 1 (S37 tn t cn cs pn ps on os b i) = lp 37 0 1 (S37 tn t cn cs pn' ps on' os b' (i + 1)) := by
       refine head _ _ hr ?_
       have hwl : IntKind.i64.wrap (((((List.length ((os ++ [(i : Int)]).map vRow)) - 0) : Nat) : Int) - 1) = ((os.length : Nat) : Int) := by
        rw [List.length_map,List.length_append,List.length_singleton,w_i64]; omega
       refine cT rfl (cT rfl (cT rfl (cF rfl (cF rfl (cT ?_ (cT ?_ (cT ?_ ?_)))))))
       ·show (leI 0 ((i : Nat) : Int) && ltI ((i : Nat) : Int) ((((List.length ((ps.set i true).map bRow)) - 0) : Nat) : Int)) = true
        rw [leI_t (by omega),ltI_t (by rw [List.length_map,List.length_set]; omega)]; rfl
       ·show ltN (0 + Int.toNat ((i : Nat) : Int)) (List.length ((ps.set i true).map bRow)) = true
        exact ltN_t (by rw [List.length_map,List.length_set,Int.toNat_natCast]; omega)
       ·show (leI 0 (IntKind.i64.wrap (((((List.length ((os ++ [(i : Int)]).map vRow)) - 0) : Nat) : Int) - 1)) && leI (IntKind.i64.wrap (((((List.length ((os ++ [(i : Int)]).map vRow)) - 0) : Nat) : Int) - 1)) (((List.length ((os ++ [(i : Int)]).map vRow)) : Nat) : Int)) = true
        rw [hwl,leI_t (by omega),leI_t (by rw [List.length_map,List.length_append,List.length_singleton]; omega)]; rfl
       ·show lp 37 0 1 ⟨[(0,.ptr 0 0 0),(1,.lst tn 4 (t.map Rw.row)),(19,.v (.int .i64 (((List.length (cs.map Cl.row)) : Nat) : Int))),(20,.v (.int .i64 ((i + 1 : Nat) : Int))),(1000000,.ptr 0 0 0)],[⟨1,97,4,true,[[.lst cn 7 (cs.map Cl.row),.sl pn' 1 0 none,.sl on' 2 0 none,.v (.int .i64 b')]]⟩,⟨1,4,1,false,List.set ((ps.set i true).map bRow) (0 + Int.toNat ((i : Nat) : Int)) [.v (.bool false)]⟩,⟨1,3,1,false,List.take (Int.toNat (IntKind.i64.wrap (((((List.length ((os ++ [(i : Int)]).map vRow)) - 0) : Nat) : Int) - 1))) ((os ++ [(i : Int)]).map vRow)⟩]⟩ = _
        have q1 : List.set ((ps.set i true).map bRow) (0 + Int.toNat ((i : Nat) : Int)) [.v (.bool false)] = ps.map bRow := by
         rw [Nat.zero_add,Int.toNat_natCast]
         show List.set ((ps.set i true).map bRow) i (bRow false) = _
         rw [← List.map_set,set_back hip hpi]
        have q2 : List.take (Int.toNat (IntKind.i64.wrap (((((List.length ((os ++ [(i : Int)]).map vRow)) - 0) : Nat) : Int) - 1))) ((os ++ [(i : Int)]).map vRow) = os.map vRow := by
         rw [hwl,Int.toNat_natCast,List.map_append,List.take_left']
         rw [List.length_map]
        rw [q1,q2]
        rfl
      rw [this]
      exact h1
theorem s_run (cn : Bool) (cs : List Cl) (hg : GC cs) (hcs : cs.length ≤ 16) : ∀ (f : Nat) (tn : Bool) (t : List Rw) (pn : Bool) (ps : List Bool) (on : Bool) (os : List Int) (b : Int),(tn = true → t = []) → OkT t → Fit cs.length f t ps os → (0 ≤ b∧b ≤ 1000000) →
  outR cn cs ps os (runM cs f t ps os b) (ev 37 [Ob cn cs pn ps on os b,.lst tn 4 (t.map Rw.row)])∧(∀ b',runM cs f t ps os b = .none b' → 0 ≤ b'∧b' ≤ b)
 | 0,tn,t,pn,ps,on,os,b,h1,h2,hf,hb => absurd hf.un (by omega)
 | f + 1,tn,t,pn,ps,on,os,b,h1,h2,hf,hb => by
  have hc := s_compl cn cs (fun c hc => (hg c hc).1) pn ps hf.pl on os b (by omega)
  unfold runM
  cases hcm : complR cs ps with
  | true =>
   rw [hcm] at hc
   refine ⟨⟨pn,on,ps,b,?_⟩,fun b' e => by cases e⟩
   unfold Ob
   rw [ev37]
   exact bnd hc (cT rfl (cT rfl rfl))
  | false =>
   rw [hcm] at hc
   obtain ⟨hl,hl2⟩ := l37 cn cs hg hcs f (s_run cn cs hg hcs f) tn t h1 h2 ps os hf cs.length 0 pn on b (by omega) hb
   refine ⟨?_,hl2⟩
   simp only [cond_false]
   have hev : ∀ (r : LR) (e : List AV),lp 37 0 1 (S37 tn t cn cs pn ps on os b 0) = some r → (cond (isEx 0 r) (cond (likeStG ⟨[(1000000,.ptr 0 0 0)],[⟨1,97,4,true,[[.lst cn 7 (cs.map Cl.row),.sl pn 1 0 none,.sl on 2 0 none,.v (.int .i64 b)]]⟩,⟨1,4,1,false,ps.map bRow⟩,⟨1,3,1,false,os.map vRow⟩]⟩ r.st) (some [(.v (.bool false)),(.v (.int .i64 0)),(.ob 97 [(.lst (avNil (cellAt (lget (blAt r.st.bl 0).xs 0) 0)) 7 (avXs (cellAt (lget (blAt r.st.bl 0).xs 0) 0))),(.ow (avNil (cellAt (lget (blAt r.st.bl 0).xs 0) 1)) 4 1 (blAt r.st.bl 1).xs),(.ow (avNil (cellAt (lget (blAt r.st.bl 0).xs 0) 2)) 3 1 (blAt r.st.bl 2).xs),(.v (.int .i64 (avInt (cellAt (lget (blAt r.st.bl 0).xs 0) 3))))])]) none) (cond (isRt r) (some r.outs) none)) = some e →
     ev 37 [Ob cn cs pn ps on os b,.lst tn 4 (t.map Rw.row)] = some e := by
    intro r e hr he
    unfold Ob
    rw [ev37]
    exact bnd hc (cT rfl (cF rfl (bnd hr he)))
   cases ho : loopM (runM cs f) cs t ps os cs.length 0 b with
   | found os' =>
    rw [ho] at hl
    obtain ⟨pn',on',ps',b',hl⟩ := hl
    exact ⟨pn',on',ps',b',hev _ _ hl (cF rfl (cT rfl rfl))⟩
   | limit =>
    rw [ho] at hl
    obtain ⟨pn',on',ps',os',b',hl⟩ := hl
    exact ⟨pn',on',ps',os',b',hev _ _ hl (cF rfl (cT rfl rfl))⟩
   | none b' =>
    rw [ho] at hl
    obtain ⟨pn',on',hl⟩ := hl
    exact ⟨pn',on',hev _ _ hl (cT rfl (cT rfl rfl))⟩
end Go.Proofs.Ytnhahcomgeeobaa
