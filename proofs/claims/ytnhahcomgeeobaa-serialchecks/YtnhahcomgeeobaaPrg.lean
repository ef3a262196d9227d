/- Results converted,programs made of raw numbers. -/
import Derived.Test.YtnhahcomgeeobaaHlp
set_option linter.all false
namespace Go.Proofs.Ytnhahcomgeeobaa
open Go.Ev
theorem l_res1 (b : Bool) (xs : List (Bool × Res)) (i : Nat) (p : Bool × Res) (hx : i < xs.length) (e1 : lget (outB xs) (Int.toNat ((i : Nat) : Int)) = p.2.cells p.1) (hl : p.2.rows.length ≤ 1000000) (x3 : Bool) (b0 : List (List AV)) (num : Int) : ∀ (rest done : List Rw) (f : Bool),p.2.rows = done ++ rest →
  ∃ f' : Bool,lp 30 1 0 ⟨[(0,.lst b 2 (outB xs)),(3,.sl x3 0 0 none),(4,.v (.int .i64 ((i : Nat) : Int))),(5,.ptr 1 0 0),(6,.v (.int .i64 ((done.length : Nat) : Int)))],[⟨1,111,2,false,b0⟩,⟨1,111,2,true,[[.sl f 2 0 none,.v (.int .i64 num)]]⟩,⟨1,61,4,false,done.map Rw.row⟩]⟩ =
   some ⟨some 2,⟨[(0,.lst b 2 (outB xs)),(3,.sl x3 0 0 none),(4,.v (.int .i64 ((i : Nat) : Int))),(5,.ptr 1 0 0)],[⟨1,111,2,false,b0⟩,⟨1,111,2,true,[[.sl f' 2 0 none,.v (.int .i64 num)]]⟩,⟨1,61,4,false,p.2.rows.map Rw.row⟩]⟩,[]⟩
 | [],done,f,h => by
  have i1 : (leI 0 ((i : Nat) : Int) && ltI ((i : Nat) : Int) (((List.length (outB xs)) : Nat) : Int)) = true := by rw [leI_t (by omega),ltI_t (by rw [outB_len]; omega)]; rfl
  refine ⟨f,?_⟩
  rw [lp30_1,e1]
  refine cT i1 (cT rfl (cF ?_ ?_))
  ·show ltI ((done.length : Nat) : Int) (((List.length (p.2.rows.map Rw.row)) : Nat) : Int) = false
   exact ltI_f (by rw [List.length_map,h,List.append_nil]; omega)
  ·rw [h,List.append_nil]
 | a :: rest,done,f,h => by
  have i1 : (leI 0 ((i : Nat) : Int) && ltI ((i : Nat) : Int) (((List.length (outB xs)) : Nat) : Int)) = true := by rw [leI_t (by omega),ltI_t (by rw [outB_len]; omega)]; rfl
  have hx' : done.length < p.2.rows.length := by rw [h]; simp
  have f1 : lget (avXs (cellAt (p.2.cells p.1) 0)) (Int.toNat ((done.length : Nat) : Int)) = a.row := by
   show lget (p.2.rows.map Rw.row) _ = _
   rw [Int.toNat_natCast,lget_map _ _ _ hx']; simp [h]
  have j1 : (leI 0 ((done.length : Nat) : Int) && ltI ((done.length : Nat) : Int) (((List.length (p.2.rows.map Rw.row)) : Nat) : Int)) = true := by rw [leI_t (by omega),ltI_t (by rw [List.length_map]; omega)]; rfl
  have hw : IntKind.i64.wrap (((done.length : Nat) : Int) + 1) = (((done ++ [a]).length : Nat) : Int) := by rw [w_i64,List.length_append,List.length_singleton]; omega
  obtain ⟨f',ih⟩ := l_res1 b xs i p hx e1 hl x3 b0 num rest (done ++ [a]) false (by rw [h]; simp)
  refine ⟨f',?_⟩
  rw [List.map_append] at ih
  rw [lp30_1,e1,f1,hw]
  exact cT i1 (cT rfl (cT (ltI_t (by show ((done.length : Nat) : Int) < (((List.length (p.2.rows.map Rw.row)) : Nat) : Int); rw [List.length_map]; omega)) (cT i1 (cT rfl (cT j1 (cT rfl (cT i1 (cT rfl (cT j1 (cT rfl (cT (leN_t (by rw [List.length_map]; omega)) ih)))))))))))
theorem l_res (b : Bool) (xs : List (Bool × Res)) (hl : xs.length ≤ 1000000) (hb : bdR xs) : ∀ (rest done ys : List (Bool × Res)) (f : Bool),xs = done ++ rest → ys.map Prod.snd = done.map Prod.snd →
  ∃ (f' : Bool) (zs : List (Bool × Res)),zs.map Prod.snd = xs.map Prod.snd∧lp 30 0 0 ⟨[(0,.lst b 2 (outB xs)),(3,.sl f 0 0 none),(4,.v (.int .i64 ((done.length : Nat) : Int)))],[⟨1,111,2,false,outB ys⟩]⟩ = some ⟨some 0,⟨[(3,.sl f' 0 0 none)],[⟨1,111,2,false,outB zs⟩]⟩,[]⟩
 | [],done,ys,f,h,hy => by
  refine ⟨f,ys,by rw [hy,h,List.append_nil],?_⟩
  rw [lp30_0]
  exact cF (ltI_f (by rw [outB_len,h,List.append_nil]; omega)) rfl
 | p :: rest,done,ys,f,h,hy => by
  have hx : done.length < xs.length := by rw [h]; simp
  have e1 := outB_get xs done rest p h
  have i1 : (leI 0 ((done.length : Nat) : Int) && ltI ((done.length : Nat) : Int) (((List.length (outB xs)) : Nat) : Int)) = true := by rw [leI_t (by omega),ltI_t (by rw [outB_len]; omega)]; rfl
  have hw : IntKind.i64.wrap (((done.length : Nat) : Int) + 1) = (((done ++ [p]).length : Nat) : Int) := by rw [w_i64,List.length_append,List.length_singleton]; omega
  obtain ⟨g,hin⟩ := l_res1 b xs done.length p hx e1 (hb p (by rw [h]; simp)) f (outB ys) p.2.num p.2.rows [] true rfl
  have hys : ys.length = done.length := by have := congrArg List.length hy; simpa using this
  obtain ⟨f',zs,hz,ih⟩ := l_res b xs hl hb rest (done ++ [p]) (ys ++ [(g,p.2)]) false (by rw [h]; simp) (by simp [hy])
  refine ⟨f',zs,hz,?_⟩
  rw [outB_snoc] at ih
  rw [lp30_0,e1]
  refine cT (ltI_t (by rw [outB_len]; omega)) (cT i1 (cT rfl (bnd hin (cT rfl (cT rfl (cT (leN_t ?_) ?_))))))
  ·show (List.length (outB ys) + 1) * 32 ≤ 140737488355328
   rw [outB_len]; omega
  ·show lp 30 0 0 ⟨[(0,.lst b 2 (outB xs)),(3,.sl false 0 0 none),(4,.v (.int .i64 (IntKind.i64.wrap (((done.length : Nat) : Int) + 1))))],[⟨1,111,2,false,outB ys ++ [[.lst g 4 (p.2.rows.map Rw.row),.v (.int .i64 p.2.num)]]⟩]⟩ = _
   rw [hw]
   exact ih
theorem s_results (b : Bool) (xs : List (Bool × Res)) (hl : xs.length ≤ 1000000) (hb : bdR xs) : ∃ (f : Bool) (zs : List (Bool × Res)),zs.map Prod.snd = xs.map Prod.snd∧ev 30 [.lst b 2 (outB xs)] = some [.ow f 111 2 (outB zs)] := by
 obtain ⟨f',zs,hz,h⟩ := l_res b xs hl hb xs [] [] true rfl rfl
 refine ⟨f',zs,hz,?_⟩
 rw [ev30]
 exact bnd h (cT rfl (cT rfl rfl))
structure Raw where
 x0 : Int
 x1 : Int
 x2 : Int
 x3 : Int
 x4 : Int
 x5 : Int
 x6 : Int
def Raw.row (r : Raw) : List AV := [.v (.int .i64 r.x0),.v (.int .i64 r.x1),.v (.int .i64 r.x2),.v (.int .i64 r.x3),.v (.int .i64 r.x4),.v (.int .i64 r.x5),.v (.int .i64 r.x6)]
def OfQ (e : Option (List AV)) : Prop := ∃ s : Stm,s.ok∧e = some [.agg s.row]
theorem qB {α : Type} {x : Option α} {a : α} {f : α → Option (List AV)} (h : x = some a) (h2 : OfQ (f a)) : OfQ (x.bind f) := by rw [h]; exact h2
theorem qT {b : Bool} {A B : Option (List AV)} (h : b = true) (h2 : OfQ A) : OfQ (cond b A B) := by rw [h]; exact h2
theorem qC {b : Bool} {A B : Option (List AV)} (h1 : OfQ A) (h2 : OfQ B) : OfQ (cond b A B) := by cases b; exact h2; exact h1
theorem qL {a b c d e f g h i j k l : Int} (hok : (⟨a,b,c,d,e,f,g,h,i,j,k,l⟩ : Stm).ok) : OfQ (some [.agg [.v (.int .i64 a),.v (.int .u32 b),.v (.int .u32 c),.v (.int .i64 d),.v (.int .i64 e),.v (.int .i64 f),.v (.int .i64 g),.v (.int .i64 h),.v (.int .i64 i),.v (.int .i64 j),.v (.int .i64 k),.v (.int .i64 l)]]) := ⟨_,hok,rfl⟩
theorem ok_w (x : Int) : i64ok (IntKind.i64.wrap x) := by unfold i64ok; rw [w_i64]; omega
theorem ok_u (x : Int) : 0 ≤ IntKind.u32.wrap x∧IntKind.u32.wrap x ≤ 4294967295 := by rw [w_u32]; omega
theorem ok_u0 : 0 ≤ (0 : Int)∧(0 : Int) ≤ 4294967295 := by decide
theorem ok_p (a m : Int) (h : 0 < m) (h2 : m ≤ 1000) : i64ok (pick a m) := by have := pick_rng a m h; unfold i64ok; omega
theorem ok_0 : i64ok 0 := by unfold i64ok; decide
theorem ok_65 : i64ok 65 := by unfold i64ok; decide
set_option maxHeartbeats 0 in
theorem s_of (r : Raw) : OfQ (ev 44 [.agg r.row]) := by
 unfold Raw.row
 rw [ev44]
 repeat' (first
  | refine qB (s_Pick _ _ (by decide) (by decide)) ?_
  | refine qT rfl ?_
  | refine qC ?_ ?_
  | refine qL ⟨?_,?_,?_,?_,?_,?_,?_,?_,?_,?_,?_,?_⟩
  | exact ok_w _
  | exact ok_u _
  | exact ok_u0
  | exact ok_p _ _ (by decide) (by decide)
  | exact ok_0
  | exact ok_65)
end Go.Proofs.Ytnhahcomgeeobaa
