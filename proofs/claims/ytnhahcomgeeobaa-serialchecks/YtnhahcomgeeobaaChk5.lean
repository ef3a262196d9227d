/- The reference's search answers the same. -/
import Derived.Test.YtnhahcomgeeobaaChk4
import Derived.Test.YtnhahcomgeeobaaRight
set_option linter.all false
namespace Go.Proofs.Ytnhahcomgeeobaa
open Go.Ev
set_option maxRecDepth 100000
def outG (cn : Bool) (cs : List Cl) (ps : List Bool) (mo : Int) (o : Out) (e : Option (List AV)) : Prop := match o with
 | .found os' => ∃ (on : Bool) (tr : Int) (ps' : List Bool),ps'.length = ps.length∧e = some [.lst on 1 (os'.map vRow),.v (.int .i64 1),Oc cn cs tr mo,Us ps']
 | .limit => ∃ (on : Bool) (x : List (List AV)) (tr : Int) (ps' : List Bool),ps'.length = ps.length∧e = some [.lst on 1 x,.v (.int .i64 (-1)),Oc cn cs tr mo,Us ps']
 | .none b' => e = some [.lst true 1 [],.v (.int .i64 0),Oc cn cs (mo - b') mo,Us ps]
def outGl (cn : Bool) (cs : List Cl) (ps : List Bool) (mo : Int) (o : Out) (e : Option LR) : Prop := match o with
 | .found os' => ∃ (on : Bool) (tr : Int) (ps' : List Bool),ps'.length = ps.length∧e = some ⟨none,⟨[],[]⟩,[.lst on 1 (os'.map vRow),.v (.int .i64 1),Oc cn cs tr mo,Us ps']⟩
 | .limit => ∃ (on : Bool) (x : List (List AV)) (tr : Int) (ps' : List Bool),ps'.length = ps.length∧e = some ⟨none,⟨[],[]⟩,[.lst on 1 x,.v (.int .i64 (-1)),Oc cn cs tr mo,Us ps']⟩
 | .none b' => e = some ⟨some 2,⟨[(1000000,.ptr 0 0 0),(1000001,.sl false 1 0 none)],Bl39 cn cs ps (mo - b') mo⟩,[]⟩
theorem l39 (cn : Bool) (cs : List Cl) (hg : GC cs) (hva : ∀ c ∈ cs,vCall c = true) (hcs : cs.length ≤ 16) (mo : Int) (hmo : 0 ≤ mo∧mo ≤ 1000000) (f : Nat)
  (IH : ∀ (tn : Bool) (t : List Rw) (ps : List Bool) (on : Bool) (os : List Int) (b : Int),OkT t → Fit cs.length f t ps os → (0 ≤ b∧b ≤ mo) → outG cn cs ps mo (runM cs f t ps os b) (ev 39 [Oc cn cs (mo - b) mo,.lst tn 4 (t.map Rw.row),Us ps,.lst on 1 (os.map vRow)])∧(∀ b',runM cs f t ps os b = .none b' → 0 ≤ b'∧b' ≤ b))
  (tn : Bool) (t : List Rw) (hT : OkT t) (ps : List Bool) (on : Bool) (os : List Int) (hf : Fit cs.length (f + 1) t ps os) : ∀ (k i : Nat) (b : Int),i + k = cs.length → (0 ≤ b∧b ≤ mo) →
  outGl cn cs ps mo (loopM (runM cs f) cs t ps os k i b) (lp 39 1 2 (S391 tn t cn cs ps on os (mo - b) mo i))∧(∀ b',loopM (runM cs f) cs t ps os k i b = .none b' → 0 ≤ b'∧b' ≤ b)
 | 0,i,b,h,hb => by
  refine ⟨?_,fun b' e => ?_⟩
  ·show lp 39 1 2 (S391 tn t cn cs ps on os (mo - b) mo i) = _
   unfold S391 Bl39
   rw [lp39_1]
   exact cF (ltI_f (by rw [List.length_map]; omega)) rfl
  ·have : b = b' := by injection e
   omega
 | k + 1,i,b,h,hb => by
  have hi : i < cs.length := by omega
  have hip : i < ps.length := by rw [hf.pl]; exact hi
  obtain ⟨hco,hcp⟩ := hg _ (mem_getD cs c0 i hi)
  have hvc := hva _ (mem_getD cs c0 i hi)
  have hcp8 := (okP_V hcp).1
  have e3 : lget (cs.map Cl.row) (Int.toNat ((i : Nat) : Int)) = (cs.getD i c0).row := by rw [Int.toNat_natCast,lget_mapD _ _ c0 _ hi]
  have hw : IntKind.i64.wrap (((i : Nat) : Int) + 1) = ((i + 1 : Nat) : Int) := by rw [w_i64]; omega
  have i1 : ltI ((i : Nat) : Int) (((List.length (cs.map Cl.row)) : Nat) : Int) = true := ltI_t (by rw [List.length_map]; omega)
  have i2 : (leI 0 ((i : Nat) : Int) && ltI ((i : Nat) : Int) (((List.length (cs.map Cl.row)) : Nat) : Int)) = true := by rw [leI_t (by omega),i1]; rfl
  have i3 : (leI 0 ((i : Nat) : Int) && ltI ((i : Nat) : Int) ((((List.length (ps.map bRow)) - 0) : Nat) : Int)) = true := by rw [leI_t (by omega),ltI_t (by rw [List.length_map]; omega)]; rfl
  have i4 : ltN (0 + Int.toNat ((i : Nat) : Int)) (List.length (ps.map bRow)) = true := ltN_t (by rw [List.length_map,Int.toNat_natCast]; omega)
  have hm := s_free cn cs (fun c hc => (hg c hc).1) false ps hf.pl (mo - b) mo (by omega) i hi
  have htl := hf.tl
  have hol := hf.ol
  obtain ⟨a4,a5,acc,ha,h22⟩ := s_RApply tn t (by omega) hT (cs.getD i c0).pn (cs.getD i c0).prog (by omega) hco.pok
  obtain ⟨k1,k2,k3,k4,k5,k6⟩ := applyM_ok t (cs.getD i c0).prog hT hco.pok (by omega) (by omega)
  have hbl := len_of ha
  have h29 := s_sres a5 (cs.getD i c0).rn acc (cs.getD i c0).res (by omega) (bdR_of ha k3)
  rw [ha,lsEq_comm] at h29
  have ih := l39 cn cs hg hva hcs mo hmo f IH tn t hT ps on os hf k (i + 1)
  unfold loopM
  cases hmay : may cs ps i with
  | false =>
   rw [hmay] at hm
   obtain ⟨h1,h2⟩ := ih b (by omega) hb
   refine ⟨?_,h2⟩
   have : lp 39 1 2 (S391 tn t cn cs ps on os (mo - b) mo i) = lp 39 1 2 (S391 tn t cn cs ps on os (mo - b) mo (i + 1)) := by
    unfold S391 Bl39
    rw [lp39_1,hw]
    exact cT i1 (bnd hm (cT rfl (cT rfl rfl)))
   rw [this]
   exact h1
  | true =>
   rw [hmay] at hm
   have hpi : ps.getD i false = false := by
    unfold may at hmay
    cases hx : ps.getD i false with
    | false => rfl
    | true => rw [hx] at hmay; cases hmay
   have hun := unp_set ps i hip hpi
   have hfu := hf.un
   by_cases hb0 : b = 0
   ·subst hb0
    refine ⟨⟨true,[],mo - 0,ps,rfl,?_⟩,fun b' e => by cases e⟩
    unfold S391 Bl39
    rw [lp39_1]
    exact cT i1 (bnd hm (cT rfl (cF rfl (cT (by rw [Int.sub_zero]; exact beq_self_i mo) rfl))))
   ·have hbn : (b == 0) = false := by rw [beq_eq_false_iff_ne]; exact hb0
    have hwb : IntKind.i64.wrap (mo - b + 1) = mo - (b - 1) := by rw [w_i64]; omega
    have hbm : (mo - b == mo) = false := by rw [beq_eq_false_iff_ne]; omega
    rw [hbn]
    simp only [cond_true,cond_false]
    have hf2 : (cs.getD i c0).fate ≠ 2 := ((may_iff hf.pl).1 hmay).2.1
    have hfr := (vCall_facts hvc).1
    have hf13 : ((cs.getD i c0).fate = 1∧((cs.getD i c0).fate == 1) = true∧((cs.getD i c0).fate == 3) = false) ∨ (((cs.getD i c0).fate == 1) = false∧((cs.getD i c0).fate == 3) = true) := by
     by_cases h1 : (cs.getD i c0).fate = 1
     ·exact .inl ⟨h1,by rw [beq_iff_eq]; exact h1,by rw [beq_eq_false_iff_ne]; omega⟩
     ·exact .inr ⟨by rw [beq_eq_false_iff_ne]; exact h1,by rw [beq_iff_eq]; omega⟩
    cases ha2 : agr (cs.getD i c0) (applyM t (cs.getD i c0).prog) with
    | false =>
     obtain ⟨h1,h2⟩ := ih (b - 1) (by omega) (by omega)
     refine ⟨?_,fun b' e => by have := h2 b' e; omega⟩
     have : lp 39 1 2 (S391 tn t cn cs ps on os (mo - b) mo i) = lp 39 1 2 (S391 tn t cn cs ps on os (mo - (b - 1)) mo (i + 1)) := by
      unfold agr at ha2
      rcases hf13 with ⟨g0,g1,g3⟩ | ⟨g1,g3⟩
      ·rw [g3] at ha2
       simp only [cond_false] at ha2
       unfold S391 Bl39
       rw [lp39_1,hw,e3,hwb]
       refine cT i1 (bnd hm (cT rfl (cF rfl (cF hbm (cT i2 (cT (cl_shape _ hco) (bnd h22 (cT rfl (cT rfl (cT rfl (cT rfl (cT g1 ?_))))))))))))
       by_cases hcode : (cs.getD i c0).code = (applyM t (cs.getD i c0).prog).2.2.2
       ·rw [show ((cs.getD i c0).code == (applyM t (cs.getD i c0).prog).2.2.2) = true by rw [beq_iff_eq]; exact hcode] at ha2
        simp only [Bool.not_true,cond_false] at ha2
        refine cF (by show (!((applyM t (cs.getD i c0).prog).2.2.2 == (cs.getD i c0).code)) = false; rw [hcode,beq_self_i]; rfl) ?_
        by_cases hc0 : (applyM t (cs.getD i c0).prog).2.2.2 = 0
        ·have hcz : ((applyM t (cs.getD i c0).prog).2.2.2 == 0) = true := by rw [beq_iff_eq]; exact hc0
         rw [hcz] at ha2
         simp only [Bool.not_true,cond_false] at ha2
         rw [ha2] at h29
         refine cF (by show (!((applyM t (cs.getD i c0).prog).2.2.2 == 0)) = false; rw [hcz]; rfl) (cT hcz ?_)
         have h29' : ev 29 [.lst a5 2 (outB acc),.lst (cs.getD i c0).rn 2 (outB (cs.getD i c0).res)] = some [.v (.bool false)] := h29
         exact bnd h29' (cT rfl (cT rfl rfl))
        ·have hcz : ((applyM t (cs.getD i c0).prog).2.2.2 == 0) = false := by rw [beq_eq_false_iff_ne]; exact hc0
         rw [hcz] at ha2
         simp only [Bool.not_false,cond_true] at ha2
         rw [beq_eq_false_iff_ne] at ha2
         refine cT (by show (!((applyM t (cs.getD i c0).prog).2.2.2 == 0)) = true; rw [hcz]; rfl) (cT ?_ rfl)
         show (!((((applyM t (cs.getD i c0).prog).2.2.1 : Nat) : Int) == (cs.getD i c0).at_)) = true
         rw [Bool.not_eq_true',beq_eq_false_iff_ne]
         exact fun e => ha2 e.symm
       ·refine cT ?_ rfl
        show (!((applyM t (cs.getD i c0).prog).2.2.2 == (cs.getD i c0).code)) = true
        rw [Bool.not_eq_true',beq_eq_false_iff_ne]
        exact fun e => hcode e.symm
      ·rw [g3] at ha2; cases ha2
     rw [this]
     exact h1
    | true =>
     have hfit : Fit cs.length f (applyM t (cs.getD i c0).prog).1 (ps.set i true) (os ++ [(i : Int)]) := ⟨by omega,by rw [List.length_set]; exact hf.pl,by rw [List.length_append,List.length_singleton]; omega,by omega⟩
     obtain ⟨hr,hr2⟩ := IH a4 (applyM t (cs.getD i c0).prog).1 (ps.set i true) false (os ++ [(i : Int)]) (b - 1) k1 hfit (by omega)
     have harg : ev 39 [Oc cn cs (mo - (b - 1)) mo,.lst a4 4 ((applyM t (cs.getD i c0).prog).1.map Rw.row),Us (ps.set i true),.lst false 1 ((os ++ [(i : Int)]).map vRow)] = ev 39 [.ob 103 [.lst cn 7 (cs.map Cl.row),.v (.int .i64 (mo - (b - 1))),.v (.int .i64 mo)],.lst a4 4 ((applyM t (cs.getD i c0).prog).1.map Rw.row),.tup [.ow false 4 1 (List.set (ps.map bRow) (0 + Int.toNat ((i : Nat) : Int)) [.v (.bool true)])],.lst false 1 (([] ++ os.map vRow) ++ [[.v (.int .i64 ((i : Nat) : Int))]])] := by
      unfold Oc Us
      rw [List.map_append,List.map_set,Nat.zero_add,Int.toNat_natCast,List.nil_append]; rfl
     rw [harg] at hr
     have g1 : leN ((0 + List.length (os.map vRow)) * 8) 140737488355328 = true := leN_t (by rw [List.length_map]; omega)
     have g2 : leN ((List.length ([] ++ os.map vRow) + 1) * 8) 140737488355328 = true := leN_t (by rw [List.nil_append,List.length_map]; omega)
     have hb1 : List.length (List.set (ps.map bRow) (0 + Int.toNat ((i : Nat) : Int)) [.v (.bool true)]) = ps.length := by rw [List.length_set,List.length_map]
     have head : ∀ (r : List AV) (e : Option LR),ev 39 [.ob 103 [.lst cn 7 (cs.map Cl.row),.v (.int .i64 (mo - (b - 1))),.v (.int .i64 mo)],.lst a4 4 ((applyM t (cs.getD i c0).prog).1.map Rw.row),.tup [.ow false 4 1 (List.set (ps.map bRow) (0 + Int.toNat ((i : Nat) : Int)) [.v (.bool true)])],.lst false 1 (([] ++ os.map vRow) ++ [[.v (.int .i64 ((i : Nat) : Int))]])] = some r →
       (cond (isL 1 (cellAt r 0)) (cond (isI .i64 (cellAt r 1)) (cond (((isOb 103 (cellAt r 2)) && (Nat.beq (List.length (obCells (cellAt r 2))) 3)) && (likeG [(.lst cn 7 (cs.map Cl.row)),(.v (.int .i64 (mo - (b - 1)))),(.v (.int .i64 mo))] 0 (obCells (cellAt r 2)))) (cond ((isRow 4 1 (cellAt r 3)) && (Nat.beq (List.length (avXs (rowC (cellAt r 3)))) (List.length (List.set (ps.map bRow) (0 + (Int.toNat ((i : Nat) : Int))) [(.v (.bool true))]))))
        (cond ((leI 0 ((i : Nat) : Int)) && (ltI ((i : Nat) : Int) ((((List.length (avXs (rowC (cellAt r 3)))) - 0) : Nat) : Int))) (cond (ltN (0 + (Int.toNat ((i : Nat) : Int))) (List.length (avXs (rowC (cellAt r 3)))))
         (cond (!((avInt (cellAt r 1)) == 0)) (some ⟨none,⟨[],[]⟩,[(.lst (avNil (cellAt r 0)) 1 (avXs (cellAt r 0))),(.v (.int .i64 (avInt (cellAt r 1)))),(.ob 103 [(.lst (avNil (cellAt (obCells (cellAt r 2)) 0)) 7 (avXs (cellAt (obCells (cellAt r 2)) 0))),(.v (.int .i64 (avInt (cellAt (obCells (cellAt r 2)) 1)))),(.v (.int .i64 (avInt (cellAt (obCells (cellAt r 2)) 2))))]),(.tup [(.ow false 4 1 (List.set (avXs (rowC (cellAt r 3))) (0 + (Int.toNat ((i : Nat) : Int))) [(.v (.bool false))]))])]⟩)
          (lp 39 1 2 ⟨[(0,(.ptr 0 0 0)),(1,(.lst tn 4 (t.map Rw.row))),(2,(.sl false 1 0 none)),(3,(.lst on 1 (os.map vRow))),(12,(.v (.int .i64 ((i + 1 : Nat) : Int)))),(1000000,(.ptr 0 0 0)),(1000001,(.sl false 1 0 none))],[⟨1,103,3,true,[[(.lst (avNil (cellAt (obCells (cellAt r 2)) 0)) 7 (avXs (cellAt (obCells (cellAt r 2)) 0))),(.v (.int .i64 (avInt (cellAt (obCells (cellAt r 2)) 1)))),(.v (.int .i64 (avInt (cellAt (obCells (cellAt r 2)) 2))))]]⟩,⟨1,4,1,false,(List.set (avXs (rowC (cellAt r 3))) (0 + (Int.toNat ((i : Nat) : Int))) [(.v (.bool false))])⟩]⟩)) none) none) none) none) none) none) = e →
       lp 39 1 2 (S391 tn t cn cs ps on os (mo - b) mo i) = e := by
      intro r e hr he
      unfold agr at ha2
      unfold S391 Bl39
      rw [lp39_1,hw,e3,hwb]
      refine cT i1 (bnd hm (cT rfl (cF rfl (cF hbm (cT i2 (cT (cl_shape _ hco) (bnd h22 (cT rfl (cT rfl (cT rfl (cT rfl ?_)))))))))))
      rcases hf13 with ⟨g0,q1,q3⟩ | ⟨q1,q3⟩
      ·rw [q3] at ha2
       simp only [cond_false] at ha2
       refine cT q1 ?_
       by_cases hcode : (cs.getD i c0).code = (applyM t (cs.getD i c0).prog).2.2.2
       ·rw [show ((cs.getD i c0).code == (applyM t (cs.getD i c0).prog).2.2.2) = true by rw [beq_iff_eq]; exact hcode] at ha2
        simp only [Bool.not_true,cond_false] at ha2
        refine cF (by show (!((applyM t (cs.getD i c0).prog).2.2.2 == (cs.getD i c0).code)) = false; rw [hcode,beq_self_i]; rfl) ?_
        by_cases hc0 : (applyM t (cs.getD i c0).prog).2.2.2 = 0
        ·have hcz : ((applyM t (cs.getD i c0).prog).2.2.2 == 0) = true := by rw [beq_iff_eq]; exact hc0
         rw [hcz] at ha2
         simp only [Bool.not_true,cond_false] at ha2
         rw [ha2] at h29
         have h29' : ev 29 [.lst a5 2 (outB acc),.lst (cs.getD i c0).rn 2 (outB (cs.getD i c0).res)] = some [.v (.bool true)] := h29
         exact cF (by show (!((applyM t (cs.getD i c0).prog).2.2.2 == 0)) = false; rw [hcz]; rfl) (cT hcz (bnd h29' (cT rfl (cF rfl (cT i3 (cT i4 (cT g1 (cT g2 (cT rfl (bnd hr he))))))))))
        ·have hcz : ((applyM t (cs.getD i c0).prog).2.2.2 == 0) = false := by rw [beq_eq_false_iff_ne]; exact hc0
         rw [hcz] at ha2
         simp only [Bool.not_false,cond_true] at ha2
         rw [beq_iff_eq] at ha2
         exact cT (by show (!((applyM t (cs.getD i c0).prog).2.2.2 == 0)) = true; rw [hcz]; rfl) (cF (by show (!((((applyM t (cs.getD i c0).prog).2.2.1 : Nat) : Int) == (cs.getD i c0).at_)) = false; rw [ha2,beq_self_i]; rfl) (cF hcz (cT i3 (cT i4 (cT g1 (cT g2 (cT rfl (bnd hr he))))))))
       ·rw [show ((cs.getD i c0).code == (applyM t (cs.getD i c0).prog).2.2.2) = false by rw [beq_eq_false_iff_ne]; exact hcode] at ha2
        cases ha2
      ·exact cF q1 (cT i3 (cT i4 (cT g1 (cT g2 (cT rfl (bnd hr he))))))
     have hrow : ∀ ps' : List Bool,ps'.length = (ps.set i true).length → (isRow 4 1 (Us ps') && Nat.beq (List.length (avXs (rowC (Us ps')))) (List.length (List.set (ps.map bRow) (0 + Int.toNat ((i : Nat) : Int)) [.v (.bool true)]))) = true := by
      intro ps' h
      rw [List.length_set] at h
      rw [hb1]
      show (true && Nat.beq (List.length (ps'.map bRow)) ps.length) = true
      rw [List.length_map,h,Nat.beq_refl]; rfl
     have j1 : ∀ ps' : List Bool,ps'.length = (ps.set i true).length → (leI 0 ((i : Nat) : Int) && ltI ((i : Nat) : Int) ((((List.length (avXs (rowC (Us ps')))) - 0) : Nat) : Int)) = true := by
      intro ps' h
      rw [List.length_set] at h
      show (leI 0 ((i : Nat) : Int) && ltI ((i : Nat) : Int) ((((List.length (ps'.map bRow)) - 0) : Nat) : Int)) = true
      rw [leI_t (by omega),ltI_t (by rw [List.length_map]; omega)]; rfl
     have j2 : ∀ ps' : List Bool,ps'.length = (ps.set i true).length → ltN (0 + Int.toNat ((i : Nat) : Int)) (List.length (avXs (rowC (Us ps')))) = true := by
      intro ps' h
      rw [List.length_set] at h
      show ltN (0 + Int.toNat ((i : Nat) : Int)) (List.length (ps'.map bRow)) = true
      exact ltN_t (by rw [List.length_map,Int.toNat_natCast]; omega)
     have hset : ∀ ps' : List Bool,List.set (ps'.map bRow) (0 + Int.toNat ((i : Nat) : Int)) [.v (.bool false)] = (ps'.set i false).map bRow := by
      intro ps'
      rw [Nat.zero_add,Int.toNat_natCast,List.map_set]; rfl
     have hout : ∀ (ps' : List Bool),AV.tup [.ow false 4 1 (List.set (avXs (rowC (Us ps'))) (0 + Int.toNat ((i : Nat) : Int)) [.v (.bool false)])] = Us (ps'.set i false) := by
      intro ps'
      show AV.tup [.ow false 4 1 (List.set (ps'.map bRow) (0 + Int.toNat ((i : Nat) : Int)) [.v (.bool false)])] = _
      rw [hset]; rfl
     cases ho : runM cs f (applyM t (cs.getD i c0).prog).1 (ps.set i true) (os ++ [(i : Int)]) (b - 1) with
     | found os' =>
      rw [ho] at hr
      obtain ⟨on',tr,ps',hl',hr⟩ := hr
      refine ⟨⟨on',tr,ps'.set i false,by rw [List.length_set,hl',List.length_set],head _ _ hr ?_⟩,fun b' e => by cases e⟩
      refine cT rfl (cT rfl (cT rfl (cT (hrow ps' hl') (cT (j1 ps' hl') (cT (j2 ps' hl') (cT rfl ?_))))))
      rw [← hout]; rfl
     | limit =>
      rw [ho] at hr
      obtain ⟨on',x,tr,ps',hl',hr⟩ := hr
      refine ⟨⟨on',x,tr,ps'.set i false,by rw [List.length_set,hl',List.length_set],head _ _ hr ?_⟩,fun b' e => by cases e⟩
      refine cT rfl (cT rfl (cT rfl (cT (hrow ps' hl') (cT (j1 ps' hl') (cT (j2 ps' hl') (cT rfl ?_))))))
      rw [← hout]; rfl
     | none b' =>
      rw [ho] at hr
      have hb' := hr2 b' ho
      obtain ⟨h1,h2⟩ := ih b' (by omega) (by omega)
      refine ⟨?_,fun b'' e => by have := h2 b'' e; omega⟩
      have : lp 39 1 2 (S391 tn t cn cs ps on os (mo - b) mo i) = lp 39 1 2 (S391 tn t cn cs ps on os (mo - b') mo (i + 1)) := by
       refine head _ _ hr ?_
       refine cT rfl (cT rfl (cT rfl (cT (hrow _ rfl) (cT (j1 _ rfl) (cT (j2 _ rfl) (cF rfl ?_))))))
       have q1 : List.set (avXs (rowC (Us (ps.set i true)))) (0 + Int.toNat ((i : Nat) : Int)) [.v (.bool false)] = ps.map bRow := by
        show List.set ((ps.set i true).map bRow) (0 + Int.toNat ((i : Nat) : Int)) [.v (.bool false)] = ps.map bRow
        rw [hset,set_back hip hpi]
       show lp 39 1 2 ⟨[(0,.ptr 0 0 0),(1,.lst tn 4 (t.map Rw.row)),(2,.sl false 1 0 none),(3,.lst on 1 (os.map vRow)),(12,.v (.int .i64 ((i + 1 : Nat) : Int))),(1000000,.ptr 0 0 0),(1000001,.sl false 1 0 none)],[⟨1,103,3,true,[[.lst cn 7 (cs.map Cl.row),.v (.int .i64 (mo - b')),.v (.int .i64 mo)]]⟩,⟨1,4,1,false,List.set (avXs (rowC (Us (ps.set i true)))) (0 + Int.toNat ((i : Nat) : Int)) [.v (.bool false)]⟩]⟩ = _
       rw [q1]
       rfl
      rw [this]
      exact h1
theorem s_from (cn : Bool) (cs : List Cl) (hg : GC cs) (hva : ∀ c ∈ cs,vCall c = true) (hcs : cs.length ≤ 16) (mo : Int) (hmo : 0 ≤ mo∧mo ≤ 1000000) : ∀ (f : Nat) (tn : Bool) (t : List Rw) (ps : List Bool) (on : Bool) (os : List Int) (b : Int),OkT t → Fit cs.length f t ps os → (0 ≤ b∧b ≤ mo) →
  outG cn cs ps mo (runM cs f t ps os b) (ev 39 [Oc cn cs (mo - b) mo,.lst tn 4 (t.map Rw.row),Us ps,.lst on 1 (os.map vRow)])∧(∀ b',runM cs f t ps os b = .none b' → 0 ≤ b'∧b' ≤ b)
 | 0,tn,t,ps,on,os,b,h2,hf,hb => absurd hf.un (by omega)
 | f + 1,tn,t,ps,on,os,b,h2,hf,hb => by
  have hc := l_left tn t cn cs (fun c hc => (hg c hc).1) ps on os (mo - b) mo (by omega) cs [] ps [] 0 rfl rfl rfl hf.pl.symm (Nat.le_refl _)
  rw [Nat.zero_add] at hc
  have hlc := left_compl cs ps
  have hll := left_le cs ps
  unfold runM
  have entry : ∀ (e : Option (List AV)),(cond ((((left cs ps : Nat) : Int) == 0)) (some [AV.lst on 1 (os.map vRow),.v (.int .i64 1),Oc cn cs (mo - b) mo,Us ps]) ((lp 39 1 2 (S391 tn t cn cs ps on os (mo - b) mo 0)).bind fun r =>
    cond (isEx 2 r) (cond (likeStG ⟨[(1000000,(.ptr 0 0 0)),(1000001,(.sl false 1 0 none))],Bl39 cn cs ps (mo - b) mo⟩ r.st) (some [(.lst true 1 []),(.v (.int .i64 0)),(.ob 103 [(.lst (avNil (cellAt (lget (blAt r.st.bl 0).xs 0) 0)) 7 (avXs (cellAt (lget (blAt r.st.bl 0).xs 0) 0))),(.v (.int .i64 (avInt (cellAt (lget (blAt r.st.bl 0).xs 0) 1)))),(.v (.int .i64 (avInt (cellAt (lget (blAt r.st.bl 0).xs 0) 2))))]),(.tup [(.ow false 4 1 (blAt r.st.bl 1).xs)])]) none) (cond (isRt r) (some r.outs) none))) = e →
    ev 39 [Oc cn cs (mo - b) mo,.lst tn 4 (t.map Rw.row),Us ps,.lst on 1 (os.map vRow)] = e := by
   intro e he
   unfold Oc Us
   rw [ev39]
   exact bnd hc (cT rfl (cT rfl he))
  cases hcm : complR cs ps with
  | true =>
   rw [hcm] at hlc
   refine ⟨⟨on,mo - b,ps,rfl,entry _ (cT ?_ rfl)⟩,fun b' e => by cases e⟩
   have : left cs ps = 0 := by simpa using hlc.symm
   rw [this]; rfl
  | false =>
   rw [hcm] at hlc
   obtain ⟨hl,hl2⟩ := l39 cn cs hg hva hcs mo hmo f (s_from cn cs hg hva hcs mo hmo f) tn t h2 ps on os hf cs.length 0 b (by omega) hb
   refine ⟨?_,hl2⟩
   have hne : (((left cs ps : Nat) : Int) == 0) = false := by
    have := beq_eq_false_iff_ne.1 hlc.symm
    rw [beq_eq_false_iff_ne]; omega
   simp only [cond_false]
   cases ho : loopM (runM cs f) cs t ps os cs.length 0 b with
   | found os' =>
    rw [ho] at hl
    obtain ⟨on',tr,ps',hl',hl⟩ := hl
    exact ⟨on',tr,ps',hl',entry _ (cF hne (bnd hl (cF rfl (cT rfl rfl))))⟩
   | limit =>
    rw [ho] at hl
    obtain ⟨on',x,tr,ps',hl',hl⟩ := hl
    exact ⟨on',x,tr,ps',hl',entry _ (cF hne (bnd hl (cF rfl (cT rfl rfl))))⟩
   | none b' =>
    rw [ho] at hl
    exact entry _ (cF hne (bnd hl (cT rfl (cT rfl rfl))))
end Go.Proofs.Ytnhahcomgeeobaa
