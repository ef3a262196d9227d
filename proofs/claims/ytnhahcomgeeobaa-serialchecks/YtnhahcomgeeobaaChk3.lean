/- Check,and what the search finds. -/
import Derived.Test.YtnhahcomgeeobaaChk2
set_option linter.all false
namespace Go.Proofs.Ytnhahcomgeeobaa
open Go.Ev
set_option maxRecDepth 100000
def okH (t : List Rw) (cs : List Cl) (b : Int) : Bool := tval 0 t && (decide (cs.length ≤ 16) && (decide (1 ≤ b∧b ≤ 1000000) && cs.all vCall))
def srch (t : List Rw) (cs : List Cl) (b : Int) : Out := runM cs (cs.length + 1) t (List.replicate cs.length false) [] b
def outC (o : Out) (e : Option (List AV)) : Prop := match o with
 | .found os => ∃ on : Bool,e = some [.ow on 3 1 (os.map vRow),.v (.bool true),.v (.int .i64 0)]
 | .limit => e = some [.ow true 3 1 [],.v (.bool false),.v (.int .i64 18)]
 | .none _ => e = some [.ow true 3 1 [],.v (.bool false),.v (.int .i64 0)]
theorem unp_repl (n : Nat) : unp (List.replicate n false) = n := by
 induction n with
 | zero => rfl
 | succ n ih =>
  rw [List.replicate_succ]
  show 1 + unp (List.replicate n false) = n + 1
  omega
theorem vCall_okP {c : Cl} (h : vCall c = true) : okP c.prog = true := by
 unfold vCall at h
 cases h1 : ltI c.fate 1 with
 | true => rw [h1] at h; cases h
 | false =>
  rw [h1] at h
  cases h2 : ltI 3 c.fate with
  | true => rw [h2] at h; cases h
  | false =>
   rw [h2] at h
   cases h3 : okP c.prog with
   | true => rfl
   | false => rw [h3] at h; cases h
theorem s_Check (tn : Bool) (t : List Rw) (htn : tn = true → t = []) (ht : t.length ≤ 300) (hT : OkT t) (cn : Bool) (cs : List Cl) (hok : ∀ c ∈ cs,c.ok) (hcl : cs.length ≤ 1000) (b : Int) :
  (okH t cs b = false → ev 15 [.lst tn 4 (t.map Rw.row),.lst cn 7 (cs.map Cl.row),.v (.int .i64 b)] = some [.ow true 3 1 [],.v (.bool false),.v (.int .i64 1)]) ∧
  (okH t cs b = true → outC (srch t cs b) (ev 15 [.lst tn 4 (t.map Rw.row),.lst cn 7 (cs.map Cl.row),.v (.int .i64 b)])) := by
 have hv := s_tval tn t (by omega)
 have hcf := s_contF cn cs hok (by omega)
 rw [ev15]
 unfold okH
 cases hvt : tval 0 t with
 | false =>
  rw [hvt] at hv
  exact ⟨fun _ => bnd hv (cT rfl (cT rfl rfl)),fun h => by cases h⟩
 | true =>
  rw [hvt] at hv
  by_cases h16 : cs.length ≤ 16
  ·rw [decide_eq_true h16]
   have g16 : ltI 16 (((List.length (cs.map Cl.row)) : Nat) : Int) = false := ltI_f (by rw [List.length_map]; omega)
   by_cases hb : 1 ≤ b∧b ≤ 1000000
   ·rw [decide_eq_true hb]
    have gb1 : ltI b 1 = false := ltI_f hb.1
    have gb2 : ltI 1000000 b = false := ltI_f hb.2
    cases hva : cs.all vCall with
    | false =>
     rw [hva] at hcf
     exact ⟨fun _ => bnd hv (cT rfl (cF rfl (cF g16 (cF gb1 (cF gb2 (bnd hcf (cT rfl (cT rfl rfl)))))))),fun h => by cases h⟩
    | true =>
     rw [hva] at hcf
     refine ⟨(fun h => by cases h),fun _ => ?_⟩
     rw [List.all_eq_true] at hva
     have hg : GC cs := fun c hc => ⟨hok c hc,vCall_okP (hva c hc)⟩
     obtain ⟨hr,_⟩ := s_run cn cs hg h16 (cs.length + 1) tn t false (List.replicate cs.length false) true [] b htn hT ⟨by omega,List.length_replicate ..,by show 0 + (cs.length + 1) ≤ 100; omega,by rw [unp_repl]; omega⟩ (by omega)
     have harg : ev 37 [Ob cn cs false (List.replicate cs.length false) true [] b,.lst tn 4 (t.map Rw.row)] = ev 37 [.ob 97 [.lst cn 7 (cs.map Cl.row),.ow false 4 1 (List.replicate (Int.toNat (((List.length (cs.map Cl.row)) : Nat) : Int)) [.v (.bool false)]),.ow true 3 1 [],.v (.int .i64 b)],.lst tn 4 (t.map Rw.row)] := by
      unfold Ob
      rw [List.length_map,Int.toNat_natCast,repl_map]; rfl
     rw [harg] at hr
     have g : (((leI 0 (((List.length (cs.map Cl.row)) : Nat) : Int) && leI (((List.length (cs.map Cl.row)) : Nat) : Int) (((List.length (cs.map Cl.row)) : Nat) : Int)) && leI ((((List.length (cs.map Cl.row)) : Nat) : Int) * 1) 281474976710656) && leI (((List.length (cs.map Cl.row)) : Nat) : Int) 281474976710656) = true := by
      rw [List.length_map,leI_t (by omega),leI_t (by omega),leI_t (by omega),leI_t (by omega)]; rfl
     unfold srch
     cases ho : runM cs (cs.length + 1) t (List.replicate cs.length false) [] b with
     | found os =>
      rw [ho] at hr
      obtain ⟨pn,on,ps',b',hr⟩ := hr
      exact ⟨on,bnd hv (cT rfl (cF rfl (cF g16 (cF gb1 (cF gb2 (bnd hcf (cT rfl (cF rfl (cT g (bnd hr (cT rfl (cT rfl (cT rfl (cF rfl rfl))))))))))))))⟩
     | limit =>
      rw [ho] at hr
      obtain ⟨pn,on,ps',os',b',hr⟩ := hr
      exact bnd hv (cT rfl (cF rfl (cF g16 (cF gb1 (cF gb2 (bnd hcf (cT rfl (cF rfl (cT g (bnd hr (cT rfl (cT rfl (cT rfl (cT rfl rfl))))))))))))))
     | none b' =>
      rw [ho] at hr
      obtain ⟨pn,on,hr⟩ := hr
      exact bnd hv (cT rfl (cF rfl (cF g16 (cF gb1 (cF gb2 (bnd hcf (cT rfl (cF rfl (cT g (bnd hr (cT rfl (cT rfl (cT rfl (cT rfl rfl))))))))))))))
   ·rw [decide_eq_false hb]
    refine ⟨fun _ => ?_,fun h => by cases h⟩
    by_cases hb1 : b < 1
    ·exact bnd hv (cT rfl (cF rfl (cF g16 (cT (ltI_t hb1) rfl))))
    ·exact bnd hv (cT rfl (cF rfl (cF g16 (cF (ltI_f (by omega)) (cT (ltI_t (by omega)) rfl)))))
  ·rw [decide_eq_false h16]
   exact ⟨fun _ => bnd hv (cT rfl (cF rfl (cT (ltI_t (by rw [List.length_map]; omega)) rfl))),fun h => by cases h⟩
end Go.Proofs.Ytnhahcomgeeobaa
