/- The rows of a statement's range. -/
import Derived.Test.YtnhahcomgeeobaaFmt
set_option linter.all false
namespace Go.Proofs.Ytnhahcomgeeobaa
open Go.Ev
def selB (s : Stm) (r : Rw) : Bool := leI s.key r.k && (leI r.k s.last && holdB s.wc s.wo s.wv r.a r.b r.c)
theorem l_span (s : Stm) (b : Bool) (ts : List Rw) (hlen : ts.length ≤ 1000000) : ∀ (rest done acc : List Rw) (f : Bool),ts = done ++ rest → acc.length ≤ done.length →
  lp 69 0 0 ⟨[(3,.ptr 0 0 0),(5,.sl f 1 0 none),(8,.lst b 4 (ts.map Rw.row)),(9,.v (.int .i64 (((ts.map Rw.row).length : Nat) : Int))),(10,.v (.int .i64 ((done.length : Nat) : Int)))],[⟨1,52,12,true,[s.row]⟩,⟨1,91,4,false,acc.map Rw.row⟩]⟩ =
   some ⟨some 0,⟨[(5,.sl (f && (rest.filter (selB s)).isEmpty) 0 0 none)],[⟨1,91,4,false,(acc ++ rest.filter (selB s)).map Rw.row⟩]⟩,[]⟩
 | [],done,acc,f,h,_ => by
  unfold Stm.row
  rw [lp69_0]
  refine cF (ltI_f (by rw [List.length_map,h,List.append_nil]; omega)) ?_
  simp
 | r :: rest,done,acc,f,h,ha => by
  have hlt : done.length < ts.length := by rw [h]; simp
  have hrow : lget (ts.map Rw.row) (Int.toNat ((done.length : Nat) : Int)) = r.row := by
   rw [Int.toNat_natCast,lget_map _ _ _ hlt]
   subst h
   simp
  have hw : IntKind.i64.wrap (((done.length : Nat) : Int) + 1) = (((done ++ [r]).length : Nat) : Int) := by rw [w_i64,List.length_append,List.length_singleton]; omega
  have ih := fun acc f ha => l_span s b ts hlen rest (done ++ [r]) acc f (by rw [h]; simp) ha
  have hh := s_Holds s.wc s.wo s.wv r.k r.a r.b r.c
  unfold Stm.row at ih ⊢
  rw [lp69_0,hrow,hw]
  refine cT (ltI_t (by rw [List.length_map]; omega)) (cT (by rw [leI_t (by omega),ltI_t (by rw [List.length_map]; omega)]; rfl) (cT rfl ?_))
  show cond (leI s.key r.k) _ _ = _
  rw [List.filter_cons]
  unfold selB
  cases h1 : leI s.key r.k with
  | false =>
   refine cF rfl ?_
   rw [Bool.false_and,if_neg (by decide)]
   exact ih acc f (by rw [List.length_append]; omega)
  | true =>
   refine cT rfl ?_
   show cond (leI r.k s.last) _ _ = _
   cases h2 : leI r.k s.last with
   | false =>
    refine cF rfl ?_
    rw [Bool.true_and,Bool.false_and,if_neg (by decide)]
    exact ih acc f (by rw [List.length_append]; omega)
   | true =>
    refine cT rfl (bnd hh (cT rfl ?_))
    show cond (holdB s.wc s.wo s.wv r.a r.b r.c) _ _ = _
    cases h3 : holdB s.wc s.wo s.wv r.a r.b r.c with
    | false =>
     refine cF rfl ?_
     rw [Bool.true_and,Bool.true_and,if_neg (by decide)]
     exact ih acc f (by rw [List.length_append]; omega)
    | true =>
     refine cT rfl (cT (leN_t (by rw [List.length_map]; omega)) ?_)
     have := ih (acc ++ [r]) false (by simp; omega)
     rw [List.map_append] at this
     refine this.trans ?_
     rw [Bool.true_and,Bool.true_and,if_pos rfl]
     simp only [Bool.false_and,List.append_assoc,List.singleton_append,List.isEmpty_cons,Bool.and_false]
     rfl
theorem s_span (s : Stm) (b : Bool) (ts : List Rw) (hlen : ts.length ≤ 1000000) : ev 69 [.lst b 4 (ts.map Rw.row),.agg s.row] = some [.ow (ts.filter (selB s)).isEmpty 91 4 ((ts.filter (selB s)).map Rw.row)] := by
 have h := l_span s b ts hlen ts [] [] true rfl (Nat.le_refl _)
 rw [Bool.true_and,List.nil_append] at h
 unfold Stm.row at h ⊢
 rw [ev69]
 exact bnd h (cT rfl (cT rfl rfl))
end Go.Proofs.Ytnhahcomgeeobaa
