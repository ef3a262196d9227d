/- Encode and Key: the bytes. -/
import Derived.Test.YtkefjdmoikegbaaImg
import Derived.Test.YtkefjdmoikegbaaEqZ
set_option linter.all false
namespace Go.Proofs.Ytkefjdmoikegbaa
open Go.Ev Go.RowKit
attribute [local congr] bind_first cond_first
set_option maxRecDepth 10000
def big : Nat := 10000000000
theorem body_cons (w : Int) (ws : List Int) : body (w :: ws) = little w.toNat ++ body ws := by unfold body; rw [List.flatMap_cons]
theorem body_app (a b : List Int) : body (a ++ b) = body a ++ body b := by unfold body; rw [List.flatMap_append]
theorem s_appW (b : Bool) (l : List Nat) (w : Nat) (hl : l.length ≤ big) : ev 82 [.ow b 5 1 (bts l),.v (.int .u64 (w : Int))] = some [.ow false 5 1 (bts (l ++ little w))] := by
 unfold big at hl
 have d : ∀ n : Nat,Int.fdiv (n : Int) 256 = ((n / 256 : Nat) : Int) := fun n => fdiv_nat n 256
 have m : ∀ n : Nat,IntKind.u8.wrap (n : Int) = ((n % 256 : Nat) : Int) := fun n => by rw [w_u8]; rfl
 have h : ∀ j : Nat,j ≤ 9 → leN ((l.length + j) * 1) 140737488355328 = true := fun j hj => leN_t (by omega)
 rw [ev82]
 simp only [d,m,List.length_append,List.length_cons,List.length_nil,bts_len,Nat.zero_add,Nat.add_assoc,Nat.reduceAdd]
 rw [h 1 (by omega),h 2 (by omega),h 3 (by omega),h 4 (by omega),h 5 (by omega),h 6 (by omega),h 7 (by omega),h 8 (by omega)]
 simp only [cond_true,List.append_assoc]
 unfold bts
 rw [List.map_append]
 rfl
theorem s_appWz (w : Nat) : ev 82 [.lst true 1 [],.v (.int .u64 (w : Int))] = some [.ow false 5 1 (bts (little w))] := by
 have d : ∀ n : Nat,Int.fdiv (n : Int) 256 = ((n / 256 : Nat) : Int) := fun n => fdiv_nat n 256
 have m : ∀ n : Nat,IntKind.u8.wrap (n : Int) = ((n % 256 : Nat) : Int) := fun n => by rw [w_u8]; rfl
 rw [ev82z]
 simp only [d,m]
 rfl
theorem l_apps (n : Bool) (ws : List Int) (hw : Wok ws) (l : List Nat) (hl : l.length + 8 * ws.length ≤ big) : ∀ (k i : Nat),i + k = ws.length →
  lp 56 0 0 ⟨[(0,(.sl false 0 0 none)),(12,(.lst n 1 (ws.map wr))),(13,(.v (.int .i64 (((ws.map wr).length : Nat) : Int)))),(14,(.v (.int .i64 (i : Int))))],[⟨1,5,1,false,bts (l ++ body (ws.take i))⟩]⟩ =
   some ⟨some 0,⟨[(0,(.sl false 0 0 none))],[⟨1,5,1,false,bts (l ++ body ws)⟩]⟩,[]⟩
 | 0,i,hi => by
  rw [lp56_0,List.length_map,ltI_f (by omega),List.take_of_length_le (by omega)]; rfl
 | k + 1,i,hi => by
  have ih := l_apps n ws hw l hl k (i + 1) (by omega)
  have hlt : i < ws.length := by omega
  have hx := hw _ (mem_getD ws 0 i hlt)
  unfold big at hl
  have e1 : IntKind.i64.wrap ((i : Int) + 1) = ((i + 1 : Nat) : Int) := by rw [w_i64]; omega
  have a := s_appW false (l ++ body (ws.take i)) (ws.getD i 0).toNat (by unfold big; rw [List.length_append,body_len,List.length_take]; omega)
  rw [show (((ws.getD i 0).toNat : Nat) : Int) = ws.getD i 0 by omega,List.append_assoc,← body_snoc,← take_succD ws i hlt] at a
  rw [lp56_0,List.length_map,ltI_t (by omega),leI_t (by omega),Int.toNat_natCast,get_wr ws i hlt,e1]
  rw [List.length_map] at ih
  exact cT rfl (cT rfl (bnd a (cT rfl ih)))
theorem s_apps (b n : Bool) (ws : List Int) (hw : Wok ws) (l : List Nat) (hl : l.length + 8 * ws.length + 8 ≤ big) : ev 56 [.ow b 5 1 (bts l),.lst n 1 (ws.map wr)] = some [.ow false 5 1 (bts (l ++ body ((ws.length : Int) :: ws)))] := by
 have hb := hl
 unfold big at hb
 have e : IntKind.u64.wrap (((ws.map wr).length : Nat) : Int) = ((ws.length : Nat) : Int) := by rw [List.length_map,w_u64]; omega
 have a := s_appW b l ws.length (by unfold big; omega)
 have hl2 := l_apps n ws hw (l ++ little ws.length) (by rw [List.length_append,little_len]; omega) ws.length 0 (by omega)
 rw [List.take_zero,show body [] = [] from rfl,List.append_nil] at hl2
 rw [ev56,e]
 refine bnd a (cT rfl (bnd hl2 (cT rfl (cT rfl ?_))))
 rw [body_cons,Int.toNat_natCast,← List.append_assoc]; rfl
theorem s_appsz (n : Bool) (ws : List Int) (hw : Wok ws) (hl : 8 * ws.length + 8 ≤ big) : ev 56 [.lst true 1 [],.lst n 1 (ws.map wr)] = some [.ow false 5 1 (bts (body ((ws.length : Int) :: ws)))] := by
 have hb := hl
 unfold big at hb
 have e : IntKind.u64.wrap (((ws.map wr).length : Nat) : Int) = ((ws.length : Nat) : Int) := by rw [List.length_map,w_u64]; omega
 have a := s_appWz ws.length
 have hl2 := l_apps n ws hw (little ws.length) (by rw [little_len]; omega) ws.length 0 (by omega)
 rw [List.take_zero,show body [] = [] from rfl,List.append_nil] at hl2
 rw [ev56z,e]
 refine bnd a (cT rfl (bnd hl2 (cT rfl (cT rfl ?_))))
 rw [body_cons,Int.toNat_natCast]; rfl
def vF (v : Vb) : List Int := [IntKind.u64.wrap v.kind,IntKind.u64.wrap v.node,IntKind.u64.wrap v.at_,v.key,IntKind.u64.wrap v.boot] ++ (if v.kind = 1 then [IntKind.u64.wrap v.n] else if v.kind = 2 then v.ws else if v.kind = 3 then [v.old,v.new] else [v.new])
def vE (v : Vb) : List Int := ((vF v).length : Int) :: vF v
theorem wok_cons {x : Int} {l : List Int} (hx : 0 ≤ x∧x < 18446744073709551616) (h : Wok l) : Wok (x :: l) := fun y hy => (List.mem_cons.1 hy).elim (fun e => e ▸ hx) (h y)
theorem wok_nil : Wok [] := fun x h => by cases h
theorem wok_app {a b : List Int} (h : Wok a) (k : Wok b) : Wok (a ++ b) := fun x hx => (List.mem_append.1 hx).elim (h x) (k x)
theorem vF_wok {v : Vb} (h : v.Nm) : Wok (vF v) := by
 unfold vF
 refine wok_app (wok_cons (wok_wrap _) (wok_cons (wok_wrap _) (wok_cons (wok_wrap _) (wok_cons h.rng.2.1 (wok_cons (wok_wrap _) wok_nil))))) ?_
 split
 ·exact wok_cons (wok_wrap _) wok_nil
 ·split
  ·exact h.ws
  ·split
   ·exact wok_cons h.rng.1 (wok_cons h.new wok_nil)
   ·exact wok_cons h.new wok_nil
theorem vF_len {v : Vb} (h : v.Nm) : (vF v).length ≤ 100007 := by
 have := h.len
 unfold vF
 rw [List.length_append]
 split
 ·simp
 ·split
  ·simp; omega
  ·split <;> simp
theorem s_appVerb (b : Bool) (l : List Nat) (v : Vb) (hg : 1 ≤ v.cnt) (hn : v.Nm) (hl : l.length + 1000000 ≤ big) : ev 57 [.ow b 5 1 (bts l),.agg v.row] = some [.ow false 5 1 (bts (l ++ body (vE v)))] := by
 have hlen := vF_len hn
 have hwk := vF_wok hn
 have h := fun n => s_apps b n (vF v) hwk l (by omega)
 have hab : (false || ((bts (l ++ body (vE v))).all rowV && true)) = true := by rw [all_btsV]; rfl
 unfold Vb.row
 rw [ev57]
 rcases Vb.kinds hg with k | k | k | k
 ·have e : vF v = [IntKind.u64.wrap v.kind,IntKind.u64.wrap v.node,IntKind.u64.wrap v.at_,v.key,IntKind.u64.wrap v.boot,IntKind.u64.wrap v.n] := by unfold vF; rw [if_pos k]; rfl
  rw [e] at h
  refine cT (beq_t k) (bnd (h false) (cT rfl ?_))
  have e2 : ((6 : Nat) : Int) :: [IntKind.u64.wrap v.kind,IntKind.u64.wrap v.node,IntKind.u64.wrap v.at_,v.key,IntKind.u64.wrap v.boot,IntKind.u64.wrap v.n] = vE v := by unfold vE; rw [e]; rfl
  show cond (false || ((bts (l ++ body (((6 : Nat) : Int) :: _))).all rowV && true)) (some [AV.ow false 5 1 (bts (l ++ body (((6 : Nat) : Int) :: _)))]) _ = _
  rw [e2]
  exact cT hab rfl
 ·have e : vF v = [IntKind.u64.wrap v.kind,IntKind.u64.wrap v.node,IntKind.u64.wrap v.at_,v.key,IntKind.u64.wrap v.boot] ++ v.ws := by unfold vF; rw [if_neg (by omega),if_pos k]
  have hwl := hn.len
  refine cF (beq_f (by omega)) (cT (beq_t k) (cT (leN_t (by rw [List.length_map]; omega)) ?_))
  refine bnd (a := [AV.ow false 5 1 (bts (l ++ body (vE v)))]) ?_ (cT rfl (cT hab rfl))
  have h2 := h (List.isEmpty (v.ws.map wr) && false)
  rw [show vE v = ((vF v).length : Int) :: vF v from rfl,← h2,e,List.map_append]
  rfl
 ·have e : vF v = [IntKind.u64.wrap v.kind,IntKind.u64.wrap v.node,IntKind.u64.wrap v.at_,v.key,IntKind.u64.wrap v.boot,v.old,v.new] := by unfold vF; rw [if_neg (by omega),if_neg (by omega),if_pos k]; rfl
  rw [e] at h
  refine cF (beq_f (by omega)) (cF (beq_f (by omega)) (cT (beq_t k) (bnd (h false) (cT rfl ?_))))
  have e2 : ((7 : Nat) : Int) :: [IntKind.u64.wrap v.kind,IntKind.u64.wrap v.node,IntKind.u64.wrap v.at_,v.key,IntKind.u64.wrap v.boot,v.old,v.new] = vE v := by unfold vE; rw [e]; rfl
  show cond (false || ((bts (l ++ body (((7 : Nat) : Int) :: _))).all rowV && true)) (some [AV.ow false 5 1 (bts (l ++ body (((7 : Nat) : Int) :: _)))]) _ = _
  rw [e2]
  exact cT hab rfl
 ·have e : vF v = [IntKind.u64.wrap v.kind,IntKind.u64.wrap v.node,IntKind.u64.wrap v.at_,v.key,IntKind.u64.wrap v.boot,v.new] := by unfold vF; rw [if_neg (by omega),if_neg (by omega),if_neg (by omega)]; rfl
  rw [e] at h
  refine cF (beq_f (by omega)) (cF (beq_f (by omega)) (cF (beq_f (by omega)) (cT (beq_t k) (bnd (h false) (cT rfl ?_)))))
  have e2 : ((6 : Nat) : Int) :: [IntKind.u64.wrap v.kind,IntKind.u64.wrap v.node,IntKind.u64.wrap v.at_,v.key,IntKind.u64.wrap v.boot,v.new] = vE v := by unfold vE; rw [e]; rfl
  show cond (false || ((bts (l ++ body (((6 : Nat) : Int) :: _))).all rowV && true)) (some [AV.ow false 5 1 (bts (l ++ body (((6 : Nat) : Int) :: _)))]) _ = _
  rw [e2]
  exact cT hab rfl
theorem vE_len {v : Vb} (h : v.Nm) : (vE v).length ≤ 100008 := by
 have := vF_len h
 unfold vE; rw [List.length_cons]; omega
def pL (c inc ex : Int) (qn : Bool) (q : List Vb) (wn : Bool) (w : List Int) : AV := .ep [.v (.int .i64 c),.v (.int .i64 inc),.v (.int .i64 0),.lst qn 9 (q.map Vb.row),.v (.int .i64 ex),.lst wn 1 (w.map wr)] 0
theorem flat_len (q : List Vb) (hq : ∀ v ∈ q,v.Nm) : (q.flatMap vE).length ≤ 100008 * q.length := by
 induction q with
 | nil => simp
 | cons v q ih =>
  have h1 := vE_len (hq v (by simp))
  have h2 := ih fun x hx => hq x (List.mem_cons_of_mem _ hx)
  rw [List.flatMap_cons,List.length_append,List.length_cons,Nat.mul_succ]
  omega
theorem flat_snoc (q : List Vb) (i : Nat) (h : i < q.length) : (q.take (i + 1)).flatMap vE = (q.take i).flatMap vE ++ vE q[i] := by
 rw [List.take_succ_eq_append_getElem h,List.flatMap_append]; simp
theorem l_Enc (c inc ex : Int) (qn : Bool) (q : List Vb) (wn : Bool) (w : List Int) (hq : ∀ v ∈ q,v.Good 40∧v.Nm) (hlq : q.length ≤ 1024) (l : List Nat) (hl : l.length ≤ 1000) : ∀ (k i : Nat),i + k = q.length →
  lp 29 0 0 ⟨[(0,pL c inc ex qn q wn w),(3,(.sl false 0 0 none)),(37,(.lst qn 9 (q.map Vb.row))),(38,(.v (.int .i64 (((q.map Vb.row).length : Nat) : Int)))),(39,(.v (.int .i64 (i : Int))))],[⟨1,5,1,false,bts (l ++ body ((q.take i).flatMap vE))⟩]⟩ =
   some ⟨some 0,⟨[(0,pL c inc ex qn q wn w),(3,(.sl false 0 0 none))],[⟨1,5,1,false,bts (l ++ body (q.flatMap vE))⟩]⟩,[]⟩
 | 0,i,hi => by
  unfold pL
  rw [lp29_0,List.length_map,ltI_f (by omega),List.take_of_length_le (by omega)]; rfl
 | k + 1,i,hi => by
  have ih := l_Enc c inc ex qn q wn w hq hlq l hl k (i + 1) (by omega)
  have hlt : i < q.length := by omega
  have hv := hq q[i] (List.getElem_mem hlt)
  have e1 : IntKind.i64.wrap ((i : Int) + 1) = ((i + 1 : Nat) : Int) := by rw [w_i64]; omega
  have hfl := flat_len (q.take i) fun v hv => (hq v (List.mem_of_mem_take hv)).2
  rw [List.length_take] at hfl
  have a := s_appVerb false (l ++ body ((q.take i).flatMap vE)) q[i] hv.1.pos hv.2 (by
   unfold big; rw [List.length_append,body_len]
   have : 100008 * min i q.length ≤ 100008 * 1024 := Nat.mul_le_mul_left _ (by omega)
   omega)
  rw [List.append_assoc,← body_app,← flat_snoc q i hlt] at a
  have hg : lget (q.map Vb.row) i = q[i].row := lget_map Vb.row q i hlt
  unfold pL at *
  rw [lp29_0,List.length_map,ltI_t (by omega),leI_t (by omega),Int.toNat_natCast,hg,e1]
  rw [List.length_map] at ih
  exact cT rfl (cT rfl (cT rfl (bnd a (cT rfl ih))))
def encW (c inc ex : Int) (q : List Vb) (w : List Int) : List Int := ((5 : Nat) : Int) :: IntKind.u64.wrap c :: IntKind.u64.wrap inc :: IntKind.u64.wrap 0 :: IntKind.u64.wrap ex :: IntKind.u64.wrap ((q.length : Nat) : Int) :: (q.flatMap vE ++ ((w.length : Int) :: w))
theorem s_Encode (c inc ex : Int) (qn : Bool) (q : List Vb) (wn : Bool) (w : List Int) (hq : ∀ v ∈ q,v.Good 40∧v.Nm) (hlq : q.length ≤ 1024) (hw : Wok w) (hwl : w.length ≤ 100000) : ev 29 [pL c inc ex qn q wn w] = some [.ow false 5 1 (bts (body (encW c inc ex q w)))] := by
 have a := s_appsz false [IntKind.u64.wrap c,IntKind.u64.wrap inc,IntKind.u64.wrap 0,IntKind.u64.wrap ex,IntKind.u64.wrap (((q.map Vb.row).length : Nat) : Int)] (wok_cons (wok_wrap _) (wok_cons (wok_wrap _) (wok_cons (wok_wrap _) (wok_cons (wok_wrap _) (wok_cons (wok_wrap _) wok_nil))))) (by unfold big; simp only [List.length_cons,List.length_nil]; omega)
 obtain ⟨H,hH⟩ : ∃ H,body (((5 : Nat) : Int) :: [IntKind.u64.wrap c,IntKind.u64.wrap inc,IntKind.u64.wrap 0,IntKind.u64.wrap ex,IntKind.u64.wrap (((q.map Vb.row).length : Nat) : Int)]) = H := ⟨_,rfl⟩
 have hHl : H.length = 48 := by rw [← hH,body_len]; rfl
 have a : ev 56 [.lst true 1 [],.lst false 1 [[.v (.int .u64 (IntKind.u64.wrap c))],[.v (.int .u64 (IntKind.u64.wrap inc))],[.v (.int .u64 (IntKind.u64.wrap 0))],[.v (.int .u64 (IntKind.u64.wrap ex))],[.v (.int .u64 (IntKind.u64.wrap (((q.map Vb.row).length : Nat) : Int)))]]] = some [.ow false 5 1 (bts H)] := by rw [← hH]; exact a
 have hl := l_Enc c inc ex qn q wn w hq hlq H (by omega) q.length 0 (by omega)
 rw [List.take_zero,List.flatMap_nil,show body [] = [] from rfl,List.append_nil] at hl
 have hfl := flat_len q fun v hv => (hq v hv).2
 have b := s_apps false wn w hw (H ++ body (q.flatMap vE)) (by
  unfold big; rw [List.length_append,body_len]
  have : 100008 * q.length ≤ 100008 * 1024 := Nat.mul_le_mul_left _ (by omega)
  omega)
 have hab : (false || ((bts H).all rowV && true)) = true := by rw [all_btsV]; rfl
 unfold pL at *
 rw [ev29]
 refine bnd a (cT rfl (cT hab (bnd hl (cT rfl (cT rfl (bnd b (cT rfl ?_)))))))
 have e : H ++ body (q.flatMap vE) ++ body ((w.length : Int) :: w) = body (encW c inc ex q w) := by
  rw [← hH,List.append_assoc,← body_app,← body_app,List.length_map]; rfl
 rw [e]; rfl
end Go.Proofs.Ytkefjdmoikegbaa
