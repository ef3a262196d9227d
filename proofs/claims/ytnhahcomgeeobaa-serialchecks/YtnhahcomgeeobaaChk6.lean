/- The reference's check; the calls as it is handed them. -/
import Derived.Test.YtnhahcomgeeobaaChk5
set_option linter.all false
namespace Go.Proofs.Ytnhahcomgeeobaa
open Go.Ev
set_option maxRecDepth 100000
theorem vc_step (c : Cl) : vCall c = (bif ltI c.fate 1 then false else bif ltI 3 c.fate then false else bif !(okP c.prog) then false else bif ltI c.inv 0 then false else bif !((c.fate == 3) == (c.ret == -1)) then false else bif !(c.ret == -1) then (bif leI c.ret c.inv then false else true) else true) := by
 unfold vCall
 cases ltI c.fate 1 with
 | true => rfl
 | false =>
  cases ltI 3 c.fate with
  | true => rfl
  | false =>
   cases okP c.prog with
   | false => rfl
   | true =>
    by_cases hi : c.inv < 0
    ·rw [ltI_t hi]; rfl
    ·rw [ltI_f (by omega)]
     simp only [cond_false,Bool.not_true]
     cases (c.fate == 3) with
     | true =>
      simp only [cond_true]
      by_cases h : c.ret = -1
      ·rw [show (c.ret == -1) = true by rw [beq_iff_eq]; exact h]; rfl
      ·rw [show (c.ret == -1) = false by rw [beq_eq_false_iff_ne]; exact h]; rfl
     | false =>
      simp only [cond_false]
      by_cases h : c.ret = -1
      ·rw [show (c.ret == -1) = true by rw [beq_iff_eq]; exact h]
       exact ltI_f (by omega)
      ·rw [show (c.ret == -1) = false by rw [beq_eq_false_iff_ne]; exact h]
       by_cases h2 : c.ret ≤ c.inv
       ·rw [ltI_f h2,leI_t h2]; rfl
       ·rw [ltI_t (by omega),leI_f (by omega)]; rfl
theorem l_vc (cn : Bool) (cs : List Cl) (hok : ∀ c ∈ cs,c.ok) (hpl : ∀ c ∈ cs,c.prog.length ≤ 1000000) (hl : cs.length ≤ 1000000) : ∀ (rest done : List Cl),cs = done ++ rest →
  lp 38 0 0 ⟨[(1,.lst cn 7 (cs.map Cl.row)),(7,.v (.int .i64 ((done.length : Nat) : Int)))],[]⟩ = bif rest.all vCall then some ⟨some 0,⟨[],[]⟩,[]⟩ else some ⟨none,⟨[],[]⟩,[.v (.bool false)]⟩
 | [],done,h => by
  rw [lp38_0]
  exact cF (ltI_f (by rw [List.length_map,h,List.append_nil]; omega)) rfl
 | c :: rest,done,h => by
  have hlt : done.length < cs.length := by rw [h]; simp
  have hrow : lget (cs.map Cl.row) (Int.toNat ((done.length : Nat) : Int)) = c.row := by
   rw [Int.toNat_natCast,lget_map _ _ _ hlt]
   subst h
   simp
  have hmem : c ∈ cs := by rw [h]; simp
  have hw : IntKind.i64.wrap (((done.length : Nat) : Int) + 1) = (((done ++ [c]).length : Nat) : Int) := by rw [w_i64,List.length_append,List.length_singleton]; omega
  have ih := l_vc cn cs hok hpl hl rest (done ++ [c]) (by rw [h]; simp)
  have hp := s_rprog c.pn c.prog (hpl c hmem)
  rw [lp38_0,hrow,hw,List.all_cons,vc_step]
  refine cT (ltI_t (by rw [List.length_map]; omega)) (cT (by rw [leI_t (by omega),ltI_t (by rw [List.length_map]; omega)]; rfl) (cT (cl_shape c (hok c hmem)) ?_))
  show cond (ltI c.fate 1) _ _ = _
  cases ltI c.fate 1 with
  | true => exact cT rfl rfl
  | false =>
   refine cF rfl ?_
   show cond (ltI 3 c.fate) _ _ = _
   cases ltI 3 c.fate with
   | true => exact cT rfl rfl
   | false =>
    refine cF rfl (bnd hp (cT rfl ?_))
    show cond (!(okP c.prog)) _ _ = _
    cases okP c.prog with
    | false => exact cT rfl rfl
    | true =>
     refine cF rfl ?_
     show cond (ltI c.inv 0) _ _ = _
     cases ltI c.inv 0 with
     | true => exact cT rfl rfl
     | false =>
      refine cF rfl ?_
      show cond (!((c.fate == 3) == (c.ret == -1))) _ (cond (!(c.ret == -1)) (cond (leI c.ret c.inv) _ _) _) = _
      cases ((c.fate == 3) == (c.ret == -1)) with
      | false => exact cT rfl rfl
      | true =>
       refine cF rfl ?_
       cases (c.ret == -1) with
       | true => exact cF rfl ih
       | false =>
        refine cT rfl ?_
        cases leI c.ret c.inv with
        | true => exact cT rfl rfl
        | false => exact cF rfl ih
theorem s_VC (tn : Bool) (t : List Rw) (ht : t.length ≤ 1000000) (cn : Bool) (cs : List Cl) (hok : ∀ c ∈ cs,c.ok) (hpl : ∀ c ∈ cs,c.prog.length ≤ 1000000) (hl : cs.length ≤ 1000000) (b : Int) :
  ev 38 [.lst tn 4 (t.map Rw.row),.lst cn 7 (cs.map Cl.row),.v (.int .i64 b)] = some [.v (.bool (okH t cs b))] := by
 have hv := s_rval tn t ht
 have hc := l_vc cn cs hok hpl hl cs [] rfl
 rw [ev38]
 unfold okH
 cases hvt : tval 0 t with
 | false => rw [hvt] at hv; exact bnd hv (cT rfl (cT rfl rfl))
 | true =>
  rw [hvt] at hv
  refine bnd hv (cT rfl (cF rfl ?_))
  by_cases h16 : cs.length ≤ 16
  ·rw [decide_eq_true h16]
   refine cF (ltI_f (by rw [List.length_map]; omega)) ?_
   by_cases hb1 : b < 1
   ·rw [decide_eq_false (by omega)]
    exact cT (ltI_t hb1) rfl
   ·refine cF (ltI_f (by omega)) ?_
    by_cases hb2 : 1000000 < b
    ·rw [decide_eq_false (by omega)]
     exact cT (ltI_t hb2) rfl
    ·rw [decide_eq_true (by omega)]
     refine cF (ltI_f (by omega)) ?_
     cases hva : cs.all vCall with
     | true => rw [hva] at hc; exact bnd hc (cT rfl (cT rfl rfl))
     | false => rw [hva] at hc; exact bnd hc (cF rfl (cT rfl rfl))
  ·rw [decide_eq_false h16]
   exact cT (ltI_t (by rw [List.length_map]; omega)) rfl
def outD (o : Out) (e : Option (List AV)) : Prop := match o with
 | .found os => ∃ on : Bool,e = some [.lst on 1 (os.map vRow),.v (.bool true),.v (.int .i64 0)]
 | .limit => e = some [.lst true 1 [],.v (.bool false),.v (.int .i64 18)]
 | .none _ => e = some [.lst true 1 [],.v (.bool false),.v (.int .i64 0)]
theorem s_rCheck (tn : Bool) (t : List Rw) (ht : t.length ≤ 300) (hT : OkT t) (cn : Bool) (cs : List Cl) (hok : ∀ c ∈ cs,c.ok) (hpl : ∀ c ∈ cs,c.prog.length ≤ 1000000) (hcl : cs.length ≤ 1000) (b : Int) :
  (okH t cs b = false → ev 16 [.lst tn 4 (t.map Rw.row),.lst cn 7 (cs.map Cl.row),.v (.int .i64 b)] = some [.lst true 1 [],.v (.bool false),.v (.int .i64 1)]) ∧
  (okH t cs b = true → outD (srch t cs b) (ev 16 [.lst tn 4 (t.map Rw.row),.lst cn 7 (cs.map Cl.row),.v (.int .i64 b)])) := by
 have hv := s_VC tn t (by omega) cn cs hok hpl (by omega) b
 rw [ev16]
 cases ho : okH t cs b with
 | false =>
  rw [ho] at hv
  exact ⟨fun _ => bnd hv (cT rfl (cT rfl rfl)),fun h => by cases h⟩
 | true =>
  rw [ho] at hv
  refine ⟨(fun h => by cases h),fun _ => ?_⟩
  unfold okH at ho
  simp only [Bool.and_eq_true,decide_eq_true_eq,List.all_eq_true] at ho
  obtain ⟨_,h16,hb,hva⟩ := ho
  have hg : GC cs := fun c hc => ⟨hok c hc,vCall_okP (hva c hc)⟩
  obtain ⟨hr,_⟩ := s_from cn cs hg hva h16 b (by omega) (cs.length + 1) tn t (List.replicate cs.length false) true [] b hT ⟨by omega,List.length_replicate ..,by show 0 + (cs.length + 1) ≤ 100; omega,by rw [unp_repl]; omega⟩ (by omega)
  have harg : ev 39 [Oc cn cs (b - b) b,.lst tn 4 (t.map Rw.row),Us (List.replicate cs.length false),.lst true 1 (([] : List Int).map vRow)] = ev 39 [.ob 103 [.lst cn 7 (cs.map Cl.row),.v (.int .i64 0),.v (.int .i64 b)],.lst tn 4 (t.map Rw.row),.tup [.ow false 4 1 (List.replicate (Int.toNat (((List.length (cs.map Cl.row)) : Nat) : Int)) [.v (.bool false)])],.lst true 1 []] := by
   unfold Oc Us
   rw [List.length_map,Int.toNat_natCast,repl_map,Int.sub_self]; rfl
  rw [harg] at hr
  have g : (((leI 0 (((List.length (cs.map Cl.row)) : Nat) : Int) && leI (((List.length (cs.map Cl.row)) : Nat) : Int) (((List.length (cs.map Cl.row)) : Nat) : Int)) && leI ((((List.length (cs.map Cl.row)) : Nat) : Int) * 1) 281474976710656) && leI (((List.length (cs.map Cl.row)) : Nat) : Int) 281474976710656) = true := by
   rw [List.length_map,leI_t (by omega),leI_t (by omega),leI_t (by omega),leI_t (by omega)]; rfl
  have hrow : ∀ ps' : List Bool,ps'.length = (List.replicate cs.length false).length → (isRow 4 1 (Us ps') && Nat.beq (List.length (avXs (rowC (Us ps')))) (List.length (List.replicate (Int.toNat (((List.length (cs.map Cl.row)) : Nat) : Int)) ([.v (.bool false)] : List AV)))) = true := by
   intro ps' h
   rw [List.length_replicate] at h
   rw [List.length_replicate,List.length_map,Int.toNat_natCast]
   show (true && Nat.beq (List.length (ps'.map bRow)) cs.length) = true
   rw [List.length_map,h,Nat.beq_refl]; rfl
  unfold srch
  cases ho : runM cs (cs.length + 1) t (List.replicate cs.length false) [] b with
  | found os =>
   rw [ho] at hr
   obtain ⟨on,tr,ps',hl,hr⟩ := hr
   exact ⟨on,bnd hv (cT rfl (cF rfl (cT g (bnd hr (cT rfl (cT rfl (cT rfl (cT (hrow ps' hl) (cF rfl rfl)))))))))⟩
  | limit =>
   rw [ho] at hr
   obtain ⟨on,x,tr,ps',hl,hr⟩ := hr
   exact bnd hv (cT rfl (cF rfl (cT g (bnd hr (cT rfl (cT rfl (cT rfl (cT (hrow ps' hl) (cT rfl rfl)))))))))
  | none b' =>
   rw [ho] at hr
   exact bnd hv (cT rfl (cF rfl (cT g (bnd hr (cT rfl (cT rfl (cT rfl (cT (hrow _ rfl) (cF rfl rfl)))))))))
def Cl.norm (c : Cl) : Cl := { c with pn := false,rn := false,sz := 2,res := c.res.map fun p => (false,p.2) }
theorem getD_norm (cs : List Cl) (i : Nat) : (cs.map Cl.norm).getD i c0 = (cs.getD i c0).norm ∨ (cs.map Cl.norm).getD i c0 = cs.getD i c0 := by
 by_cases h : i < cs.length
 ·refine .inl ?_
  simp only [List.getD_eq_getElem?_getD,List.getElem?_map,List.getElem?_eq_getElem h]; rfl
 ·refine .inr ?_
  rw [List.getD_eq_getElem?_getD,List.getD_eq_getElem?_getD,List.getElem?_eq_none_iff.2 (by rw [List.length_map]; omega),List.getElem?_eq_none_iff.2 (by omega)]
theorem norm_complR : ∀ (cs : List Cl) (ps : List Bool),complR (cs.map Cl.norm) ps = complR cs ps
 | [],[] => rfl
 | [],_ :: _ => rfl
 | _ :: _,[] => rfl
 | c :: cs,p :: ps => by
  show (bif (c.fate == 1) then (bif !p then false else complR (cs.map Cl.norm) ps) else complR (cs.map Cl.norm) ps) = _
  rw [norm_complR cs ps]; rfl
theorem norm_mayR (iv : Int) : ∀ (cs : List Cl) (ps : List Bool),mayR iv (cs.map Cl.norm) ps = mayR iv cs ps
 | [],[] => rfl
 | [],_ :: _ => rfl
 | _ :: _,[] => rfl
 | c :: cs,p :: ps => by
  show (bif (c.fate == 1) then (bif !p then (bif ltI c.ret iv then false else mayR iv (cs.map Cl.norm) ps) else mayR iv (cs.map Cl.norm) ps) else mayR iv (cs.map Cl.norm) ps) = _
  rw [norm_mayR iv cs ps]; rfl
theorem norm_may (cs : List Cl) (ps : List Bool) (i : Nat) : may (cs.map Cl.norm) ps i = may cs ps i := by
 unfold may
 rcases getD_norm cs i with e | e <;> rw [e,norm_mayR] <;> rfl
theorem norm_agr (c : Cl) (o : List Rw × List Res × Nat × Int) : agr c.norm o = agr c o := by
 unfold agr
 have : c.norm.res.map Prod.snd = c.res.map Prod.snd := by
  show (c.res.map fun p => (false,p.2)).map Prod.snd = _
  rw [List.map_map]; rfl
 rw [this]; rfl
theorem norm_loop (rec rec' : List Rw → List Bool → List Int → Int → Out) (hr : ∀ t ps os b,rec t ps os b = rec' t ps os b) (cs : List Cl) (t : List Rw) (ps : List Bool) (os : List Int) : ∀ (k i : Nat) (b : Int),loopM rec (cs.map Cl.norm) t ps os k i b = loopM rec' cs t ps os k i b
 | 0,_,_ => rfl
 | k + 1,i,b => by
  have hp : ((cs.map Cl.norm).getD i c0).prog = (cs.getD i c0).prog := by rcases getD_norm cs i with e | e <;> rw [e] <;> rfl
  have ha : ∀ o,agr ((cs.map Cl.norm).getD i c0) o = agr (cs.getD i c0) o := by
   intro o
   rcases getD_norm cs i with e | e <;> rw [e]
   exact norm_agr _ _
  unfold loopM
  rw [norm_may,hp,ha,hr,norm_loop rec rec' hr cs t ps os k (i + 1) b,norm_loop rec rec' hr cs t ps os k (i + 1) (b - 1)]
  have : ∀ b',loopM rec (cs.map Cl.norm) t ps os k (i + 1) b' = loopM rec' cs t ps os k (i + 1) b' := fun b' => norm_loop rec rec' hr cs t ps os k (i + 1) b'
  simp only [this]
theorem norm_run (cs : List Cl) : ∀ (f : Nat) (t : List Rw) (ps : List Bool) (os : List Int) (b : Int),runM (cs.map Cl.norm) f t ps os b = runM cs f t ps os b
 | 0,_,_,_,_ => rfl
 | f + 1,t,ps,os,b => by
  unfold runM
  rw [norm_complR,norm_loop _ _ (fun t ps os b => norm_run cs f t ps os b),List.length_map]
theorem norm_okH (t : List Rw) (cs : List Cl) (b : Int) : okH t (cs.map Cl.norm) b = okH t cs b := by
 unfold okH
 rw [List.length_map,List.all_map]; rfl
theorem norm_srch (t : List Rw) (cs : List Cl) (b : Int) : srch t (cs.map Cl.norm) b = srch t cs b := by
 unfold srch
 rw [norm_run,List.length_map]
theorem l_owns (bn : Bool) (cs : List Cl) (hok : ∀ c ∈ cs,c.ok) (hpl : ∀ c ∈ cs,c.prog.length ≤ 1000000) (hl : cs.length ≤ 1000000) : ∀ (rest done ds : List Cl) (f : Bool),cs = done ++ rest → ds.map Cl.norm = done.map Cl.norm → (∀ d ∈ ds,d.ok∧d.prog.length ≤ 1000000) →
  ∃ (f' : Bool) (es : List Cl),es.map Cl.norm = cs.map Cl.norm∧(∀ d ∈ es,d.ok∧d.prog.length ≤ 1000000)∧lp 18 0 0 ⟨[(0,.lst bn 7 (cs.map Cl.row)),(3,.sl f 0 0 none),(4,.v (.int .i64 ((done.length : Nat) : Int)))],[⟨1,107,7,false,ds.map Cl.row⟩]⟩ = some ⟨some 0,⟨[(3,.sl f' 0 0 none)],[⟨1,107,7,false,es.map Cl.row⟩]⟩,[]⟩
 | [],done,ds,f,h,hd,hk => by
  refine ⟨f,ds,by rw [hd,h,List.append_nil],hk,?_⟩
  rw [lp18_0]
  exact cF (ltI_f (by rw [List.length_map,h,List.append_nil]; omega)) rfl
 | c :: rest,done,ds,f,h,hd,hk => by
  have hlt : done.length < cs.length := by rw [h]; simp
  have hrow : lget (cs.map Cl.row) (Int.toNat ((done.length : Nat) : Int)) = c.row := by
   rw [Int.toNat_natCast,lget_map _ _ _ hlt]
   subst h
   simp
  have hmem : c ∈ cs := by rw [h]; simp
  have hco := hok c hmem
  have hw : IntKind.i64.wrap (((done.length : Nat) : Int) + 1) = (((done ++ [c]).length : Nat) : Int) := by rw [w_i64,List.length_append,List.length_singleton]; omega
  have hds : ds.length = done.length := by have := congrArg List.length hd; simpa using this
  obtain ⟨fo,ho⟩ := s_own c.pn c.prog (hpl c hmem)
  obtain ⟨fz,zs,hzs,h30⟩ := s_results c.rn c.res (by have := hco.rl; omega) (bdR_rb hco.rb)
  have hzl : zs.length = c.res.length := by have := congrArg List.length hzs; simpa using this
  let d : Cl := { c with pn := fo,rn := fz,sz := 2,res := zs }
  have hdn : d.norm = c.norm := by
   show ({ c with pn := false,rn := false,sz := 2,res := zs.map fun p => (false,p.2) } : Cl) = { c with pn := false,rn := false,sz := 2,res := c.res.map fun p => (false,p.2) }
   have : (zs.map fun p => (false,p.2)) = (c.res.map fun p => (false,p.2)) := by
    have := congrArg (List.map fun r => (false,r)) hzs
    rw [List.map_map,List.map_map] at this
    exact this
   rw [this]
  have hdok : d.ok∧d.prog.length ≤ 1000000 := ⟨⟨hco.pok,.inl rfl,by show zs.length ≤ 8; rw [hzl]; exact hco.rl,by show RB (zs.map Prod.snd); rw [hzs]; exact hco.rb⟩,hpl c hmem⟩
  obtain ⟨f',es,hes,hek,ih⟩ := l_owns bn cs hok hpl hl rest (done ++ [c]) (ds ++ [d]) false (by rw [h]; simp) (by simp [hd,hdn]) (by
   intro x hx
   rcases List.mem_append.1 hx with hx | hx
   ·exact hk x hx
   ·rw [List.mem_singleton.1 hx]; exact hdok)
  refine ⟨f',es,hes,hek,?_⟩
  rw [lp18_0,hrow,hw]
  refine cT (ltI_t (by rw [List.length_map]; omega)) (cT (by rw [leI_t (by omega),ltI_t (by rw [List.length_map]; omega)]; rfl) (cT (cl_shape c hco) (bnd ho (cT rfl (bnd h30 (cT rfl (cT (leN_t ?_) ?_)))))))
  ·rw [List.length_map]; omega
  ·rw [← ih,List.map_append]; rfl
theorem s_owns (bn : Bool) (cs : List Cl) (hok : ∀ c ∈ cs,c.ok) (hpl : ∀ c ∈ cs,c.prog.length ≤ 1000000) (hl : cs.length ≤ 1000000) :
  ∃ (f : Bool) (es : List Cl),es.map Cl.norm = cs.map Cl.norm∧(∀ d ∈ es,d.ok∧d.prog.length ≤ 1000000)∧ev 18 [.lst bn 7 (cs.map Cl.row)] = some [.ow f 107 7 (es.map Cl.row)] := by
 obtain ⟨f,es,h1,h2,h3⟩ := l_owns bn cs hok hpl hl cs [] [] true rfl rfl (fun d hd => by cases hd)
 refine ⟨f,es,h1,h2,?_⟩
 rw [ev18]
 exact bnd h3 (cT rfl (cT rfl rfl))
theorem l_ints (b1 b2 : Bool) (xs : List Int) (hl : xs.length ≤ 1000000) : ∀ (rest done : List Int),xs = done ++ rest →
  lp 19 0 0 ⟨[(0,.lst b1 1 (xs.map vRow)),(1,.lst b2 1 (xs.map vRow)),(5,.v (.int .i64 ((done.length : Nat) : Int)))],[]⟩ = some ⟨some 0,⟨[],[]⟩,[]⟩
 | [],done,h => by
  rw [lp19_0]
  exact cF (ltI_f (by rw [List.length_map,h,List.append_nil]; omega)) rfl
 | x :: rest,done,h => by
  have hlt : done.length < xs.length := by rw [h]; simp
  have hrow : lget (xs.map vRow) (Int.toNat ((done.length : Nat) : Int)) = vRow x := by
   rw [Int.toNat_natCast,lget_map _ _ _ hlt]
   subst h
   simp
  have hw : IntKind.i64.wrap (((done.length : Nat) : Int) + 1) = (((done ++ [x]).length : Nat) : Int) := by rw [w_i64,List.length_append,List.length_singleton]; omega
  have ih := l_ints b1 b2 xs hl rest (done ++ [x]) (by rw [h]; simp)
  have i1 : (leI 0 ((done.length : Nat) : Int) && ltI ((done.length : Nat) : Int) (((List.length (xs.map vRow)) : Nat) : Int)) = true := by rw [leI_t (by omega),ltI_t (by rw [List.length_map]; omega)]; rfl
  rw [lp19_0,hrow,hw]
  exact cT (ltI_t (by rw [List.length_map]; omega)) (cT i1 (cT rfl (cT i1 (cT rfl (cF (by show (!(x == x)) = false; rw [beq_self_i]; rfl) ih)))))
theorem s_ints (b1 b2 : Bool) (xs : List Int) (hl : xs.length ≤ 1000000) : ev 19 [.lst b1 1 (xs.map vRow),.lst b2 1 (xs.map vRow)] = some [.v (.bool true)] := by
 rw [ev19]
 exact cF (by rw [beq_self_i]; rfl) (bnd (l_ints b1 b2 xs hl xs [] rfl) (cT rfl (cT rfl rfl)))
end Go.Proofs.Ytnhahcomgeeobaa
