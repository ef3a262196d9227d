/- Texts of statements. -/
import Derived.Test.YtnhahcomgeeobaaDec
import Derived.Test.YtnhahcomgeeobaaEq2
set_option linter.all false
namespace Go.Proofs.Ytnhahcomgeeobaa
open Go.Ev
attribute [local congr] bind_first cond_first
def Stm.ok (s : Stm) : Prop := i64ok s.k∧(0 ≤ s.key∧s.key ≤ 4294967295)∧(0 ≤ s.last∧s.last ≤ 4294967295)∧i64ok s.c0∧i64ok s.c1∧i64ok s.c2∧i64ok s.col∧i64ok s.v∧i64ok s.wc∧i64ok s.wo∧i64ok s.wv∧i64ok s.lim
def opB (o : Int) : B := if o = 1 then [61] else if o = 2 then [33,61] else if o = 3 then [60] else if o = 4 then [60,61] else if o = 5 then [62] else if o = 6 then [62,61] else []
def colB (c : Int) : B := if c = 0 then [97] else if c = 1 then [98] else [99]
def testW (s : Stm) : List B := [colB s.wc,opB s.wo,intD s.wv]
def wds (s : Stm) (p : Int) : List B :=
 if p = 0 then [intD s.key] else if p = 1 then [intD s.last] else if p = 2 then [intD s.c0,intD s.c1,intD s.c2] else if p = 3 then [colB s.col] else if p = 4 then [intD s.v] else if p = 5 then testW s
 else if p = 6 then (if s.wo = 0 then [] else [119,104,101,114,101] :: testW s) else if p = 7 then (if s.lim = 0 then [] else [[108,105,109,105,116],intD s.lim]) else []
def kwd (k : Int) : B :=
 if k = 1 then [105,110,115,101,114,116] else if k = 2 then [115,101,116] else if k = 3 then [97,100,100] else if k = 4 then [100,101,108,101,116,101] else if k = 5 then [103,101,116] else if k = 6 then [115,99,97,110]
 else if k = 7 then [99,111,117,110,116] else if k = 8 then [115,117,109] else if k = 9 then [99,104,101,99,107] else []
def stmW (s : Stm) : List B := kwd s.k :: (parts s.k).flatMap (wds s)
def stmT (s : Stm) : B := Go.Lib.join (stmW s) [32]
def fmtL (l : List Stm) : B := Go.Lib.join (l.map stmT) [59,32]
def sRow (b : B) : List AV := [.v (.string (bs b))]
def Stm.at (s : Stm) : Prop := (0 ≤ s.wc∧s.wc < 3)∧(0 ≤ s.wo∧s.wo ≤ 6)∧0 ≤ s.col∧s.col < 3
theorem V_at {s : Stm} (h : s.V) : s.at := by
 unfold Stm.V Stm.T Stm.Z at h
 unfold Stm.at
 omega
theorem strs_map : ∀ ss : List B,strsOf (ss.map sRow) = some (ss.map bs)
 | [] => rfl
 | b :: r => by rw [List.map_cons,List.map_cons]; unfold strsOf sRow; simp only; rw [show List.map (fun b => [AV.v (Value.string (bs b))]) r = r.map sRow from rfl,strs_map r]
theorem lists_back (ss : List B) : List.map (fun s : ByteArray => s.data.toList) (ss.map bs) = ss := by
 rw [List.map_map,show (fun s : ByteArray => s.data.toList) ∘ bs = id from rfl,List.map_id]
theorem join_told (nl : Bool) (sz : Nat) (ss : List B) (sep : B) (h1 : ss.length ≤ 1000000) (h2 : (Go.Lib.join ss sep).length ≤ 100000000) : joinG [.lst nl sz (ss.map sRow),.v (.string (bs sep))] = some [.v (.string (bs (Go.Lib.join ss sep)))] := by
 unfold joinG
 simp only [strs_map,lists_back,List.length_map,bs_data,decide_eq_true h1,decide_eq_true h2,Bool.and_self,cond_true]
 rfl
theorem s_Join (nl : Bool) (ss : List B) (sep : B) (h1 : ss.length ≤ 1000000) (h2 : (Go.Lib.join ss sep).length ≤ 100000000) : ev 64 [.lst nl 1 (ss.map sRow),.v (.string (bs sep))] = some [.v (.string (bs (Go.Lib.join ss sep)))] :=
 (ev_eq _ _).trans (join_told nl 1 ss sep h1 h2)
theorem s_Grow {sz : Nat} (n : Int) (h : 0 < n∧n ≤ 1000000) : ev 94 [.lst true sz [],.v (.int .i64 n)] = some [.ow false 9 1 []] :=
 (ev_eq _ _).trans (by
  show growG 9 [.lst true sz [],.v (.int .i64 n)] = _
  unfold growG
  simp only [decide_eq_true h.1,decide_eq_true h.2,Bool.and_self,cond_true])
theorem s_Concat (a b : List (List AV)) (ha : 0 < a.length∧a.length ≤ 100) (hb : b.length ≤ 100) : ev 78 [.lst false 1 [[.lst false 1 a],[.lst false 1 b]]] = some [.ow false 9 1 (a ++ b)] := by
 have w1 : IntKind.i64.wrap (0 + ((a.length : Nat) : Int)) = ((a.length : Nat) : Int) := by rw [w_i64]; omega
 have w2 : IntKind.i64.wrap (((a.length : Nat) : Int) + ((b.length : Nat) : Int)) = ((a.length + b.length : Nat) : Int) := by rw [w_i64]; omega
 refine (ev78 _ _).trans ?_
 refine bnd (a := ⟨some 0,⟨[(0,.lst false 1 [[.lst false 1 a],[.lst false 1 b]]),(3,.v (.int .i64 ((a.length + b.length : Nat) : Int)))],[]⟩,[]⟩) ?_ ?_
 ·refine (lp78_0 _ _ _ _ _ _ _).trans ?_
  refine cT rfl (cT rfl (cT rfl ?_))
  refine cF (by show ltI (IntKind.i64.wrap (0 + ((a.length : Nat) : Int))) 0 = false; rw [w1]; exact ltI_f (by omega)) ?_
  show lp 78 0 0 ⟨[(0,.lst false 1 [[.lst false 1 a],[.lst false 1 b]]),(3,.v (.int .i64 (IntKind.i64.wrap (0 + ((a.length : Nat) : Int))))),(9,.lst false 1 [[.lst false 1 a],[.lst false 1 b]]),(10,.v (.int .i64 2)),(11,.v (.int .i64 1))],[]⟩ = _
  rw [w1]
  refine (lp78_0 _ _ _ _ _ _ _).trans ?_
  refine cT rfl (cT rfl (cT rfl ?_))
  refine cF (by show ltI (IntKind.i64.wrap (((a.length : Nat) : Int) + ((b.length : Nat) : Int))) 0 = false; rw [w2]; exact ltI_f (by omega)) ?_
  show lp 78 0 0 ⟨[(0,.lst false 1 [[.lst false 1 a],[.lst false 1 b]]),(3,.v (.int .i64 (IntKind.i64.wrap (((a.length : Nat) : Int) + ((b.length : Nat) : Int))))),(9,.lst false 1 [[.lst false 1 a],[.lst false 1 b]]),(10,.v (.int .i64 2)),(11,.v (.int .i64 2))],[]⟩ = _
  rw [w2]
  exact (lp78_0 _ _ _ _ _ _ _).trans rfl
 refine cT rfl (cT rfl ?_)
 refine bnd (s_Grow _ (by show 0 < ((a.length + b.length : Nat) : Int)∧((a.length + b.length : Nat) : Int) ≤ 1000000; omega)) (cT rfl ?_)
 refine bnd (a := ⟨some 2,⟨[(6,.sl false 0 0 none)],[⟨1,9,1,false,a ++ b⟩]⟩,[]⟩) ?_ rfl
 refine (lp78_1 _ _ _ _ _ _).trans ?_
 refine cT rfl (cT rfl (cT rfl (cT (leN_t (by show (0 + a.length) * 16 ≤ 140737488355328; omega)) ?_)))
 have e : ((List.isEmpty a) && false) = false := Bool.and_false _
 show lp 78 1 0 ⟨[(6,.sl (List.isEmpty a && false) 0 0 none),(25,.lst false 1 [[.lst false 1 a],[.lst false 1 b]]),(26,.v (.int .i64 2)),(27,.v (.int .i64 1))],[⟨1,9,1,false,[] ++ a⟩]⟩ = _
 rw [Bool.and_false]
 refine (lp78_1 _ _ _ _ _ _).trans ?_
 refine cT rfl (cT rfl (cT rfl (cT (leN_t (by show (a.length + b.length) * 16 ≤ 140737488355328; omega)) ?_)))
 show lp 78 1 0 ⟨[(6,.sl (List.isEmpty b && false) 0 0 none),(25,.lst false 1 [[.lst false 1 a],[.lst false 1 b]]),(26,.v (.int .i64 2)),(27,.v (.int .i64 2))],[⟨1,9,1,false,a ++ b⟩]⟩ = _
 rw [Bool.and_false]
 exact (lp78_1 _ _ _ _ _ _).trans rfl
theorem col3 {c : Int} (h : 0 ≤ c∧c < 3) : c = 0 ∨ c = 1 ∨ c = 2 := by omega
theorem op7 {o : Int} (h : 0 ≤ o∧o ≤ 6) : o = 0 ∨ o = 1 ∨ o = 2 ∨ o = 3 ∨ o = 4 ∨ o = 5 ∨ o = 6 := by omega
def cols3 : List (List AV) := [sRow [97],sRow [98],sRow [99]]
def ops7 : List (List AV) := [sRow [],sRow [61],sRow [33,61],sRow [60],sRow [60,61],sRow [62],sRow [62,61]]
theorem cols_get {c : Int} (h : 0 ≤ c∧c < 3) : lget cols3 (0 + c.toNat) = sRow (colB c) := by rcases col3 h with rfl | rfl | rfl <;> rfl
theorem ops_get {o : Int} (h : 0 ≤ o∧o ≤ 6) : lget ops7 (0 + o.toNat) = sRow (opB o) := by rcases op7 h with rfl | rfl | rfl | rfl | rfl | rfl | rfl <;> rfl
theorem cols_in {c : Int} (h : 0 ≤ c∧c < 3) : ((leI 0 c) && (ltI c ((((List.length cols3) - 0) : Nat) : Int))) = true := by
 show ((leI 0 c) && (ltI c 3)) = true
 rw [leI_t h.1,ltI_t h.2]; rfl
theorem ops_in {c : Int} (h : 0 ≤ c∧c ≤ 6) : ((leI 0 c) && (ltI c ((((List.length ops7) - 0) : Nat) : Int))) = true := by
 show ((leI 0 c) && (ltI c 7)) = true
 rw [leI_t h.1,ltI_t (by omega)]; rfl
theorem cols_ok {c : Int} (h : 0 ≤ c∧c < 3) : ((ltN (0 + c.toNat) (List.length cols3)) && isS (cellAt (lget cols3 (0 + c.toNat)) 0)) = true := by rcases col3 h with rfl | rfl | rfl <;> rfl
theorem ops_ok {o : Int} (h : 0 ≤ o∧o ≤ 6) : ((ltN (0 + o.toNat) (List.length ops7)) && isS (cellAt (lget ops7 (0 + o.toNat)) 0)) = true := by rcases op7 h with rfl | rfl | rfl | rfl | rfl | rfl | rfl <;> rfl
theorem u32_i64 {x : Int} (h : 0 ≤ x∧x ≤ 4294967295) : IntKind.i64.wrap x = x := by rw [w_i64]; omega
def WQ (s : Stm) (p : Int) (e : Option (List AV)) : Prop := ∃ nl,e = some [.ow nl 9 1 ((wds s p).map sRow)]
theorem wT {s : Stm} {p : Int} {α : Type} {x : Option α} {a : α} {f : α → Option (List AV)} (h : x = some a) (h2 : WQ s p (f a)) : WQ s p (x.bind f) := by rw [h]; exact h2
theorem wC {s : Stm} {p : Int} {b : Bool} {A B : Option (List AV)} (h : b = true) (h2 : WQ s p A) : WQ s p (cond b A B) := by rw [h]; exact h2
theorem wD {s : Stm} {p : Int} {b : Bool} {A B : Option (List AV)} (h : b = false) (h2 : WQ s p B) : WQ s p (cond b A B) := by rw [h]; exact h2
theorem s_words (s : Stm) (p : Int) (h : s.at) (hok : s.ok) : WQ s p (ev 63 [.agg s.row,.v (.int .i64 p)]) := by
 obtain ⟨k,key,last,c0,c1,c2,col,v,wc,wo,wv,lim⟩ := s
 obtain ⟨hc,ho,hl⟩ := h
 obtain ⟨_,hkey,hlast,g0,g1,g2,_,gv,_,_,gwv,glim⟩ := hok
 simp only at hc ho hl hkey hlast g0 g1 g2 gv gwv glim
 rw [show ev 63 [.agg (Stm.mk k key last c0 c1 c2 col v wc wo wv lim).row,.v (.int .i64 p)] = _ from ev63 _ _ _ _ _ _ _ _ _ _ _ _ _]
 refine wT (ev75) (wC rfl (wC (cols_in hc) (wC (cols_ok hc) ?_)))
 refine wT (ev76) (wC rfl (wC (ops_in ho) (wC (ops_ok ho) ?_)))
 refine wT (s_decimal wv gwv) (wC rfl ?_)
 by_cases h0 : p = 0
 ·subst h0
  refine wC rfl ?_
  rw [u32_i64 hkey]
  refine wT (s_decimal key (by omega)) (wC rfl ⟨false,rfl⟩)
 refine wD (eqB_f h0) ?_
 by_cases h1 : p = 1
 ·subst h1
  refine wC rfl ?_
  rw [u32_i64 hlast]
  refine wT (s_decimal last (by omega)) (wC rfl ⟨false,rfl⟩)
 refine wD (eqB_f h1) ?_
 by_cases h2 : p = 2
 ·subst h2
  refine wC rfl ?_
  exact wT (s_decimal c0 g0) (wC rfl (wT (s_decimal c1 g1) (wC rfl (wT (s_decimal c2 g2) (wC rfl ⟨false,rfl⟩)))))
 refine wD (eqB_f h2) ?_
 by_cases h3 : p = 3
 ·subst h3
  refine wC rfl ?_
  refine wT (ev75) (wC rfl (wC (cols_in hl) (wC (cols_ok hl) ?_)))
  refine ⟨false,?_⟩
  show some [AV.ow false 9 1 [[.v (.string (avStr (cellAt (lget cols3 (0 + col.toNat)) 0)))]]] = _
  rw [cols_get hl]; rfl
 refine wD (eqB_f h3) ?_
 by_cases h4 : p = 4
 ·subst h4
  refine wC rfl ?_
  exact wT (s_decimal v gv) (wC rfl ⟨false,rfl⟩)
 refine wD (eqB_f h4) ?_
 have tw : ∀ (r : AV),r = .v (.string (bs (intD wv))) → [[AV.v (.string (avStr (cellAt (lget cols3 (0 + wc.toNat)) 0)))],[.v (.string (avStr (cellAt (lget ops7 (0 + wo.toNat)) 0)))],[.v (.string (avStr r))]] = (testW ⟨k,key,last,c0,c1,c2,col,v,wc,wo,wv,lim⟩).map sRow := fun r hr => by
  subst hr
  rw [cols_get hc,ops_get ho]; rfl
 by_cases h5 : p = 5
 ·subst h5
  refine wC rfl ⟨false,?_⟩
  show some [AV.ow false 9 1 [[AV.v (.string (avStr (cellAt (lget cols3 (0 + wc.toNat)) 0)))],[.v (.string (avStr (cellAt (lget ops7 (0 + wo.toNat)) 0)))],[.v (.string (avStr (.v (.string (bs (intD wv))))))]]] = _
  rw [tw _ rfl]; rfl
 refine wD (eqB_f h5) ?_
 by_cases h6 : p = 6
 ·subst h6
  refine wC rfl ?_
  by_cases hw : wo = 0
  ·subst hw
   exact wD rfl ⟨true,rfl⟩
  ·refine wC (by show (!(wo == 0)) = true; rw [eqB_f hw]; rfl) ?_
   refine wT (s_Concat _ _ (by decide) (by simp only [List.length_cons,List.length_nil]; omega)) (wC rfl (wC ?_ ?_))
   ·show (false || ((List.all [[AV.v (.string (bs [119,104,101,114,101]))],[AV.v (.string (avStr (cellAt (lget cols3 (0 + wc.toNat)) 0)))],[.v (.string (avStr (cellAt (lget ops7 (0 + wo.toNat)) 0)))],[.v (.string (avStr (.v (.string (bs (intD wv))))))]] rowV) && true)) = true
    rfl
   ·refine ⟨false,?_⟩
    show some [AV.ow false 9 1 (sRow [119,104,101,114,101] :: [[AV.v (.string (avStr (cellAt (lget cols3 (0 + wc.toNat)) 0)))],[.v (.string (avStr (cellAt (lget ops7 (0 + wo.toNat)) 0)))],[.v (.string (avStr (.v (.string (bs (intD wv))))))]])] = _
    rw [tw _ rfl]
    simp only [wds,Int.reduceEq,if_true,if_false,if_neg hw]
    rfl
 refine wD (eqB_f h6) ?_
 by_cases h7 : p = 7
 ·subst h7
  refine wC rfl ?_
  by_cases hw : lim = 0
  ·subst hw
   exact wD rfl ⟨true,rfl⟩
  ·refine wC (by show (!(lim == 0)) = true; rw [eqB_f hw]; rfl) ?_
   refine wT (s_decimal lim glim) (wC rfl ⟨false,?_⟩)
   simp only [wds,Int.reduceEq,if_true,if_false,if_neg hw]
   rfl
 refine wD (eqB_f h7) ⟨true,?_⟩
 simp only [wds,if_neg h0,if_neg h1,if_neg h2,if_neg h3,if_neg h4,if_neg h5,if_neg h6,if_neg h7]
 rfl
theorem wds_len (s : Stm) (p : Int) : (wds s p).length ≤ 4 := by
 unfold wds testW
 repeat' split
 all_goals simp
def B21 (b : B) : Prop := b.length ≤ 21
theorem wds_b (s : Stm) (p : Int) (hok : s.ok) : ∀ b ∈ wds s p,B21 b := by
 obtain ⟨_,hkey,hlast,g0,g1,g2,_,gv,_,_,gwv,glim⟩ := hok
 have hi : ∀ v : Int,i64ok v → B21 (intD v) := fun v h => (intD_len h).1
 have hc : ∀ c : Int, B21 (colB c) := fun c => by unfold colB B21; repeat' split
                                                  all_goals decide
 have ho : ∀ c : Int, B21 (opB c) := fun c => by unfold opB B21; repeat' split
                                                 all_goals decide
 have ht : ∀ b ∈ testW s,B21 b := fun b hb => by
  unfold testW at hb
  simp only [List.mem_cons,List.not_mem_nil,or_false] at hb
  rcases hb with rfl | rfl | rfl
  ·exact hc _
  ·exact ho _
  ·exact hi _ gwv
 have hk : i64ok s.key := by unfold i64ok; omega
 have hla : i64ok s.last := by unfold i64ok; omega
 intro b hb
 unfold wds at hb
 repeat' split at hb
 all_goals first
  | exact ht b hb
  | exact absurd hb List.not_mem_nil
  | (simp only [List.mem_cons,List.not_mem_nil,or_false] at hb
     first
     | (rcases hb with rfl | rfl | rfl <;> first | exact hi _ g0 | exact hi _ g1 | exact hi _ g2)
     | (rcases hb with rfl | rfl <;> first | (unfold B21; decide) | exact hi _ glim)
     | (rcases hb with rfl | hb
        · unfold B21; decide
        · exact ht b hb)
     | (subst hb; first | exact hi _ hk | exact hi _ hla | exact hc _ | exact hi _ gv))
theorem lens_le (l : List B) (h : ∀ b ∈ l,B21 b) : Go.Lib.lens l ≤ 21 * l.length := by
 induction l with
 | nil => simp [Go.Lib.lens]
 | cons x r ih =>
  have h1 := h x (by simp)
  have h2 := ih fun b hb => h b (by simp [hb])
  unfold B21 at h1
  simp only [Go.Lib.lens,List.map_cons,List.sum_cons,List.length_cons] at h2 ⊢
  omega
theorem join_len (l : List B) (sep : B) (hs : sep.length ≤ 2) (m : Nat) (h : Go.Lib.lens l ≤ m) : (Go.Lib.join l sep).length ≤ m + 2 * l.length := by
 cases l with
 | nil => simp [Go.Lib.join_nil]
 | cons x r =>
  rw [Go.Lib.join_cons,List.length_append,Go.Lib.joinTail_length]
  simp only [Go.Lib.lens,List.map_cons,List.sum_cons,List.length_cons] at h ⊢
  have : sep.length * r.length ≤ 2 * r.length := Nat.mul_le_mul_right _ hs
  omega
theorem parts_len (k : Int) : (parts k).length ≤ 4 := by
 unfold parts
 repeat' split
 all_goals simp
theorem fm_len (s : Stm) : ∀ ps : List Int,(ps.flatMap (wds s)).length ≤ 4 * ps.length
 | [] => by simp
 | p :: ps => by
  have := fm_len s ps
  have h := wds_len s p
  simp only [List.flatMap_cons,List.length_append,List.length_cons]
  omega
theorem stmW_len (s : Stm) : (stmW s).length ≤ 17 := by
 unfold stmW
 have := fm_len s (parts s.k)
 have h := parts_len s.k
 simp only [List.length_cons]; omega
theorem stmW_b (s : Stm) (hok : s.ok) : ∀ b ∈ stmW s,B21 b := by
 intro b hb
 unfold stmW at hb
 rcases List.mem_cons.1 hb with rfl | hb
 ·unfold kwd B21
  repeat' split
  all_goals simp
 ·obtain ⟨p,_,hp⟩ := List.mem_flatMap.1 hb
  exact wds_b s p hok b hp
theorem stmT_len (s : Stm) (hok : s.ok) : (stmT s).length ≤ 391 := by
 have h1 := stmW_len s
 have h2 := lens_le (stmW s) (stmW_b s hok)
 have := join_len (stmW s) [32] (by simp) (21 * 17) (by omega)
 unfold stmT; omega
theorem lens_stmT : ∀ (l : List Stm),(∀ s ∈ l,s.ok) → Go.Lib.lens (l.map stmT) ≤ 391 * l.length
 | [],_ => by simp [Go.Lib.lens]
 | s :: r,h => by
  have h1 := stmT_len s (h s (by simp))
  have h2 := lens_stmT r fun t ht => h t (by simp [ht])
  simp only [Go.Lib.lens,List.map_cons,List.sum_cons,List.length_cons] at h2 ⊢
  omega
theorem fmtL_len (l : List Stm) (h : ∀ s ∈ l,s.ok) : (fmtL l).length ≤ 393 * l.length := by
 have := join_len (l.map stmT) [59,32] (by simp) _ (lens_stmT l h)
 rw [List.length_map] at this
 unfold fmtL; omega
theorem l_words (s : Stm) (h : s.at) (hok : s.ok) (nl4 n19 n37 : Bool) (x19 : List (List AV)) (x20 x21 : Int) (b0 : List (List AV)) (ps : List Int) (hps : ps.length ≤ 4) : ∀ (k i : Nat) (b2 : List B),i + k = ps.length → b2.length ≤ 1 + 4 * i →
  lp 46 1 0 ⟨[(4,.sl nl4 0 0 none),(6,.ptr 1 0 0),(8,.sl false 2 0 none),(19,.lst n19 12 x19),(20,.v (.int .i64 x20)),(21,.v (.int .i64 x21)),(37,.lst n37 1 (ps.map iRow)),(38,.v (.int .i64 ((ps.length : Nat) : Int))),(39,.v (.int .i64 (i : Int)))],[⟨1,9,1,false,b0⟩,⟨1,52,12,true,[s.row]⟩,⟨1,9,1,false,b2.map sRow⟩]⟩ =
   some ⟨some 2,⟨[(4,.sl nl4 0 0 none),(8,.sl false 1 0 none),(19,.lst n19 12 x19),(20,.v (.int .i64 x20)),(21,.v (.int .i64 x21))],[⟨1,9,1,false,b0⟩,⟨1,9,1,false,(b2 ++ (ps.drop i).flatMap (wds s)).map sRow⟩]⟩,[]⟩
 | 0,i,b2,hi,hb => by
  rw [List.drop_of_length_le (by omega),List.flatMap_nil,List.append_nil]
  refine (lp46_1 _ _ _ _ _ _ _ _ _ _ _ _ _ _ _ _ _ _ _ _ _ _ _ _).trans ?_
  rw [ltI_f (by omega)]; rfl
 | k + 1,i,b2,hi,hb => by
  have e1 : IntKind.i64.wrap ((i : Int) + 1) = ((i + 1 : Nat) : Int) := by rw [w_i64]; omega
  obtain ⟨nl,hw⟩ := s_words s (ps.getD i 0) h hok
  have hwl := wds_len s (ps.getD i 0)
  have ih := l_words s h hok nl4 n19 n37 x19 x20 x21 b0 ps hps k (i + 1) (b2 ++ wds s (ps.getD i 0)) (by omega) (by rw [List.length_append]; omega)
  rw [drop_getD ps i (by omega),List.flatMap_cons,← List.append_assoc,← ih]
  refine (lp46_1 _ _ _ _ _ _ _ _ _ _ _ _ _ _ _ _ _ _ _ _ _ _ _ _).trans ?_
  rw [ltI_t (show (i : Int) < _ by omega),leI_t (show (0 : Int) ≤ (i : Int) by omega),List.length_map,ltI_t (show (i : Int) < _ by omega),Int.toNat_natCast,iRow_get ps i (by omega),e1]
  simp only [cellAt_zero,isI_v,avInt_v,Bool.and_self,cond_true]
  refine bnd hw ?_
  simp only [cellAt_zero,isOw_ok,cond_true,avXs_ow,Bool.and_false]
  rw [List.length_map,List.length_map,leN_t (by omega),List.map_append]
  rfl
theorem sRow_get (l : List Stm) (i : Nat) (h : i < l.length) : ∃ s,s ∈ l∧l[i]? = some s∧lget (l.map Stm.row) i = s.row := by
 refine ⟨l[i],List.getElem_mem h,by simp [h],?_⟩
 unfold lget; simp [h]
def fmtR (l : List Stm) : List AV := bif l.all Stm.valid then [.v (.string (bs (fmtL l))),.v (.int .i64 0)] else [.v (.string (bs [])),.v (.int .i64 1)]
theorem l_format (l : List Stm) (hok : ∀ s ∈ l,s.ok) (hl : l.length ≤ 8) (n19 : Bool) : ∀ (k i : Nat) (nl : Bool),i + k = l.length → (l.take i).all Stm.valid = true →
  lp 46 0 0 ⟨[(4,.sl nl 0 0 none),(19,.lst n19 12 (l.map Stm.row)),(20,.v (.int .i64 ((l.length : Nat) : Int))),(21,.v (.int .i64 (i : Int)))],[⟨1,9,1,false,((l.take i).map stmT).map sRow⟩]⟩ =
   (bif l.all Stm.valid then some ⟨some 0,⟨[(4,.sl (bif Nat.beq k 0 then nl else false) 0 0 none)],[⟨1,9,1,false,(l.map stmT).map sRow⟩]⟩,[]⟩ else some ⟨none,⟨[],[]⟩,[.v (.string (bs [])),.v (.int .i64 1)]⟩)
 | 0,i,nl,hi,hv => by
  rw [List.take_of_length_le (by omega)] at hv ⊢
  rw [hv]
  refine (lp46_0 _ _ _ _ _ _).trans ?_
  rw [ltI_f (by omega)]; rfl
 | k + 1,i,nl,hi,hv => by
  have e1 : IntKind.i64.wrap ((i : Int) + 1) = ((i + 1 : Nat) : Int) := by rw [w_i64]; omega
  obtain ⟨s,hs,hsi,hg⟩ := sRow_get l i (by omega)
  have hsv := s_Valid s
  have tk : l.take (i + 1) = l.take i ++ [s] := by rw [List.take_add_one,hsi]; rfl
  refine (lp46_0 _ _ _ _ _ _).trans ?_
  rw [ltI_t (show (i : Int) < _ by omega),leI_t (show (0 : Int) ≤ (i : Int) by omega),List.length_map,ltI_t (show (i : Int) < _ by omega),Int.toNat_natCast,hg]
  refine cT rfl (cT rfl (cT rfl ?_))
  refine bnd hsv (cT rfl ?_)
  cases hval : s.valid with
  | false =>
   have : l.all Stm.valid = false := by
    rw [List.all_eq_false]
    exact ⟨s,hs,by rw [hval]; simp⟩
   rw [this]; rfl
  | true =>
   refine cF rfl ?_
   have hV : s.V := of_decide_eq_true hval
   have hat := V_at hV
   have hk : 1 ≤ s.k∧s.k ≤ 9 := hV.1
   have hwd := s_Join false (stmW s) [32] (by have := stmW_len s; omega) (by have := stmT_len s (hok s hs); unfold stmT at this; omega)
   refine bnd ev62 (cT rfl (cT ?_ (cT ?_ ?_)))
   ·show ((leI 0 s.k) && (ltI s.k 10)) = true
    rw [leI_t (by omega),ltI_t (by omega)]; rfl
   ·obtain ⟨k0,key,last,c0,c1,c2,col,v,wc,wo,wv,lim⟩ := s
    simp only at hk
    rcases kinds hk with rfl | rfl | rfl | rfl | rfl | rfl | rfl | rfl | rfl <;> rfl
   refine bnd (a := ⟨some 2,⟨[(4,.sl nl 0 0 none),(8,.sl false 1 0 none),(19,.lst n19 12 (l.map Stm.row)),(20,.v (.int .i64 ((l.length : Nat) : Int))),(21,.v (.int .i64 (i : Int)))],[⟨1,9,1,false,((l.take i).map stmT).map sRow⟩,⟨1,9,1,false,(stmW s).map sRow⟩]⟩,[]⟩) ?_ ?_
   ·have lw := fun (ps : List Int) (hps : ps.length ≤ 4) (kw : B) => l_words s hat (hok s hs) nl n19 false (l.map Stm.row) ((l.length : Nat) : Int) (i : Int) (((l.take i).map stmT).map sRow) ps hps ps.length 0 [kw] (by omega) (by simp)
    simp only [List.drop_zero,List.singleton_append] at lw
    unfold stmW
    clear hsv hsi hg hs hval hV hat hwd
    obtain ⟨k0,key,last,c0,c1,c2,col,v,wc,wo,wv,lim⟩ := s
    simp only at hk
    rcases kinds hk with rfl | rfl | rfl | rfl | rfl | rfl | rfl | rfl | rfl
    ·exact lw [0,2] (by decide) (kwd 1)
    ·exact lw [0,3,4] (by decide) (kwd 2)
    ·exact lw [0,3,4] (by decide) (kwd 3)
    ·exact lw [0] (by decide) (kwd 4)
    ·exact lw [0] (by decide) (kwd 5)
    ·exact lw [0,1,6,7] (by decide) (kwd 6)
    ·exact lw [0,1,6] (by decide) (kwd 7)
    ·exact lw [3,0,1,6] (by decide) (kwd 8)
    ·exact lw [0,5] (by decide) (kwd 9)
   refine cT rfl (cT ?_ ?_)
   ·obtain ⟨k0,key,last,c0,c1,c2,col,v,wc,wo,wv,lim⟩ := s
    simp only at hk
    rcases kinds hk with rfl | rfl | rfl | rfl | rfl | rfl | rfl | rfl | rfl <;> (simp only [like_st,some_bind',obCells_agg,obCells_ob,isOb_ok,isL_ok,isOw_ok,avXs_lst,avXs_ow,avNil_lst,avNil_ow,avNil_sl,avOff_sl,avCut_sl,isAgg_agg,nat_beq_self,List.length_cons,List.length_nil,Nat.reduceAdd,Nat.zero_add,isI_v,isB_v,isS_v,avInt_v,avBool_v,avStr_v,cellAt_zero,cellAt_succ,lget_zero,lget_succ,frAt_zero,frAt_succ,blAt_zero,blAt_succ,isEx_ok,isEx_ne,isEx_none,isRt_some,isRt_none,like_st,likeFG_nil,likeFG_cons,likeBG_nil,likeBG_obj,likeBG_row,likeSG_nil,likeSG_cons,likeT_nil,likeS_nil,isNP_nil,isNP_ob,likeT_ep,isEp_ep,epCells_ep,likeT_agg,likeT_int,likeT_bool,likeT_str,likeT_lst,likeT_sl0,likeT_sl1,likeT_ptr,likeS_int,likeS_bool,likeS_str,likeS_lst,likeS_sl0,likeS_sl1,likeS_ptr,isPtr_ok,isSl_0,isSl_1,beq_self_b,Bool.and_self,Bool.and_true,Bool.true_and,Bool.and_false,Bool.false_and,cond_true,cond_false,Bool.not_true,Bool.not_false,isL,stmW]; rfl)
   refine bnd hwd (cT rfl ?_)
   have ih := l_format l hok hl n19 k (i + 1) false (by omega) (by rw [tk,List.all_append,hv]; simp [hval])
   have hlt : (List.map sRow (List.map stmT (l.take i))).length ≤ 8 := by rw [List.length_map,List.length_map,List.length_take]; omega
   refine cT (leN_t (by show ((List.map sRow (List.map stmT (l.take i))).length + 1) * 16 ≤ 140737488355328; omega)) ?_
   have e2 : List.map sRow (List.map stmT (l.take i)) ++ [[AV.v (.string (bs (Go.Lib.join (stmW s) [32])))]] = List.map sRow (List.map stmT (l.take (i + 1))) := by
    rw [tk,List.map_append,List.map_append]; rfl
   show lp 46 0 0 ⟨[(4,.sl false 0 0 none),(19,.lst n19 12 (l.map Stm.row)),(20,.v (.int .i64 ((l.length : Nat) : Int))),(21,.v (.int .i64 (IntKind.i64.wrap ((i : Int) + 1))))],[⟨1,9,1,false,List.map sRow (List.map stmT (l.take i)) ++ [[AV.v (.string (bs (Go.Lib.join (stmW s) [32])))]]⟩]⟩ = _
   rw [e2,e1,ih]
   cases k <;> rfl
theorem s_Format (l : List Stm) (nl : Bool) (hok : ∀ s ∈ l,s.ok) : ev 46 [.lst nl 12 (l.map Stm.row)] = some (bif decide (1 ≤ l.length∧l.length ≤ 8) then fmtR l else [.v (.string (bs [])),.v (.int .i64 1)]) := by
 refine (ev46 _ _).trans ?_
 rw [List.length_map]
 by_cases h1 : l.length < 1
 ·rw [ltI_t (by omega),decide_eq_false (by omega)]; rfl
 rw [ltI_f (by omega),cond_false]
 by_cases h2 : 8 < l.length
 ·rw [ltI_t (by omega),decide_eq_false (by omega)]; rfl
 rw [ltI_f (by omega),cond_false,decide_eq_true (by omega),cond_true]
 have key := l_format l hok (by omega) nl l.length 0 true (by omega) rfl
 unfold fmtR
 cases hv : l.all Stm.valid with
 | false =>
  rw [hv] at key
  exact bnd key rfl
 | true =>
  rw [hv] at key
  refine bnd key (cT rfl (cT (by simp only [like_st,some_bind',obCells_agg,obCells_ob,isOb_ok,isL_ok,isOw_ok,avXs_lst,avXs_ow,avNil_lst,avNil_ow,avNil_sl,avOff_sl,avCut_sl,isAgg_agg,nat_beq_self,List.length_cons,List.length_nil,Nat.reduceAdd,Nat.zero_add,isI_v,isB_v,isS_v,avInt_v,avBool_v,avStr_v,cellAt_zero,cellAt_succ,lget_zero,lget_succ,frAt_zero,frAt_succ,blAt_zero,blAt_succ,isEx_ok,isEx_ne,isEx_none,isRt_some,isRt_none,like_st,likeFG_nil,likeFG_cons,likeBG_nil,likeBG_obj,likeBG_row,likeSG_nil,likeSG_cons,likeT_nil,likeS_nil,isNP_nil,isNP_ob,likeT_ep,isEp_ep,epCells_ep,likeT_agg,likeT_int,likeT_bool,likeT_str,likeT_lst,likeT_sl0,likeT_sl1,likeT_ptr,likeS_int,likeS_bool,likeS_str,likeS_lst,likeS_sl0,likeS_sl1,likeS_ptr,isPtr_ok,isSl_0,isSl_1,beq_self_b,Bool.and_self,Bool.and_true,Bool.true_and,Bool.and_false,Bool.false_and,cond_true,cond_false,Bool.not_true,Bool.not_false]) ?_))
  have := fmtL_len l hok
  refine bnd (s_Join _ (l.map stmT) [59,32] (by rw [List.length_map]; omega) (by unfold fmtL at this; omega)) rfl
end Go.Proofs.Ytnhahcomgeeobaa
