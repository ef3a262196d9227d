/- Key: the bytes. -/
import Derived.Test.YtkefjdmoikegbaaEnc
import Derived.Test.YtkefjdmoikegbaaEqN
set_option linter.all false
namespace Go.Proofs.Ytkefjdmoikegbaa
open Go.Ev Go.RowKit
attribute [local congr] bind_first cond_first
set_option maxRecDepth 10000
theorem bts_ne (w : Nat) : (bts (little w)).isEmpty = false := rfl
theorem l_nums (b n : Bool) (ws : List Int) (hw : Wok ws) (l : List Nat) (hl : l.length + 8 * ws.length ≤ big) : ∀ (k i : Nat),i + k = ws.length →
  lp 58 0 0 ⟨[(0,(.sl (Nat.beq i 0 && b) 0 0 none)),(1,(.lst n 1 (ws.map wr))),(5,(.v (.int .i64 (i : Int))))],[⟨1,5,1,false,bts (l ++ body (ws.take i))⟩]⟩ =
   some ⟨some 0,⟨[(0,(.sl (ws.isEmpty && b) 0 0 none))],[⟨1,5,1,false,bts (l ++ body ws)⟩]⟩,[]⟩
 | 0,i,hi => by
  obtain rfl : i = ws.length := by omega
  rw [lp58_0,List.length_map,ltI_f (by omega),List.take_of_length_le (by omega)]
  have : Nat.beq ws.length 0 = ws.isEmpty := by cases ws <;> rfl
  rw [this]; rfl
 | k + 1,i,hi => by
  have ih := l_nums b n ws hw l hl k (i + 1) (by omega)
  have hlt : i < ws.length := by omega
  have hx := hw _ (mem_getD ws 0 i hlt)
  unfold big at hl
  have e1 : IntKind.i64.wrap ((i : Int) + 1) = ((i + 1 : Nat) : Int) := by rw [w_i64]; omega
  have a := s_Little (ws.getD i 0).toNat
  rw [show (((ws.getD i 0).toNat : Nat) : Int) = ws.getD i 0 by omega] at a
  have e2 : bts (l ++ body (ws.take i)) ++ bts (little (ws.getD i 0).toNat) = bts (l ++ body (ws.take (i + 1))) := by
   rw [bts_app,List.append_assoc,← body_snoc,← take_succD ws i hlt]
  have e3 : leN (((bts (l ++ body (ws.take i))).length + (bts (little (ws.getD i 0).toNat)).length) * 1) 140737488355328 = true := leN_t (by
   rw [bts_len,bts_len,List.length_append,body_len,List.length_take,little_len]; omega)
  rw [lp58_0,List.length_map,ltI_t (by omega),leI_t (by omega),Int.toNat_natCast,get_wr ws i hlt,e1]
  refine cT rfl (cT rfl (cT rfl (bnd a (cT rfl (cT e3 ?_)))))
  show lp 58 0 0 ⟨[(0,.sl ((bts (little (ws.getD i 0).toNat)).isEmpty && _) 0 0 none),_,_],[⟨1,5,1,false,bts (l ++ body (ws.take i)) ++ bts (little (ws.getD i 0).toNat)⟩]⟩ = _
  rw [e2,bts_ne]
  exact ih
theorem s_nums (b n : Bool) (ws : List Int) (hw : Wok ws) (l : List Nat) (hl : l.length + 8 * ws.length ≤ big) : ev 58 [.ow b 5 1 (bts l),.lst n 1 (ws.map wr)] = some [.ow (ws.isEmpty && b) 5 1 (bts (l ++ body ws))] := by
 have h := l_nums b n ws hw l hl ws.length 0 (by omega)
 rw [List.take_zero,show body [] = [] from rfl,List.append_nil] at h
 have h : lp 58 0 0 ⟨[(0,(.sl b 0 0 none)),(1,(.lst n 1 (ws.map wr))),(5,(.v (.int .i64 (0 : Int))))],[⟨1,5,1,false,bts l⟩]⟩ = _ := h
 rw [ev58]
 exact bnd h (cT rfl (cT rfl rfl))
structure Pnd where
 v : Vb
 ex : Int
 w : List Int
def Pnd.row (p : Pnd) : List AV := pd p.v p.ex p.w
def its : List Vb → Int → List Int → List Pnd
 | [],_,_ => []
 | v :: r,ex,w => ⟨v,ex,w⟩ :: r.map fun v => ⟨v,0,[]⟩
theorem rrows_its (q : List Vb) (ex : Int) (w : List Int) : rrows q ex w = (its q ex w).map Pnd.row := by
 cases q with
 | nil => rfl
 | cons v r => show _ :: _ = _ :: _; rw [List.map_map]; rfl
structure Pnd.Ok (p : Pnd) : Prop where
 g : p.v.Good 40
 n : p.v.Nm
 w : Wok p.w
 l : p.w.length ≤ 100000
abbrev U (x : Int) : Int := IntKind.u64.wrap x
def kW (v : Vb) : List Int := if v.kind = 2 then v.ws else []
def kH (v : Vb) (ex : Int) : List Int := [U v.kind,U v.node,U v.at_,if v.kind = 1 then U v.n else 0,if v.kind = 3 then v.old else 0,if v.kind = 3 ∨ v.kind = 4 then v.new else 0,v.key,U v.boot,U ex,U (((kW v).length : Nat) : Int)]
def kE (p : Pnd) : List Int := kH p.v p.ex ++ (kW p.v ++ ([U ((p.w.length : Nat) : Int)] ++ p.w))
theorem kW_wok {v : Vb} (h : v.Nm) : Wok (kW v) := by unfold kW; split; exact h.ws; exact wok_nil
theorem kH_wok {v : Vb} (h : v.Nm) (ex : Int) : Wok (kH v ex) := by
 have h1 := h.rng
 have h2 := h.new
 refine wok_cons (wok_wrap _) (wok_cons (wok_wrap _) (wok_cons (wok_wrap _) (wok_cons ?_ (wok_cons ?_ (wok_cons ?_ (wok_cons h1.2.1 (wok_cons (wok_wrap _) (wok_cons (wok_wrap _) (wok_cons (wok_wrap _) wok_nil)))))))))
 ·split
  ·exact wok_wrap _
  ·omega
 ·split <;> omega
 ·split <;> omega
theorem kW_len {v : Vb} (h : v.Nm) : (kW v).length ≤ 100000 := by unfold kW; have := h.len; split <;> simp; omega
theorem kE_len {p : Pnd} (h : p.Ok) : (kE p).length ≤ 300000 := by
 have h1 := kW_len h.n
 have h2 := h.l
 unfold kE kH
 simp only [List.length_append,List.length_cons,List.length_nil]; omega
theorem kfl_len (T : List Pnd) (h : ∀ p ∈ T,p.Ok) : (T.flatMap kE).length ≤ 300000 * T.length := by
 induction T with
 | nil => simp
 | cons v q ih =>
  have h1 := kE_len (h v (by simp))
  have h2 := ih fun x hx => h x (List.mem_cons_of_mem _ hx)
  rw [List.flatMap_cons,List.length_append,List.length_cons,Nat.mul_succ]
  omega
theorem kfl_snoc (q : List Pnd) (i : Nat) (h : i < q.length) : (q.take (i + 1)).flatMap kE = (q.take i).flatMap kE ++ kE q[i] := by
 rw [List.take_succ_eq_append_getElem h,List.flatMap_append]; simp
def rPk (c inc : Int) (n : Bool) (T : List Pnd) : AV := .ep [.v (.int .i64 c),.v (.int .i64 inc),.v (.int .i64 0),.lst n 12 (T.map Pnd.row)] 0
theorem l_Key (c inc : Int) (n : Bool) (T : List Pnd) (hT : ∀ p ∈ T,p.Ok) (hlT : T.length ≤ 1024) (l : List Nat) (hl : l.length ≤ 1000) : ∀ (k i : Nat),i + k = T.length →
  lpN 30 0 0 ⟨[(0,rPk c inc n T),(3,(.sl false 0 0 none)),(4,(.v (.int .i64 (i : Int))))],[⟨1,5,1,false,bts (l ++ body ((T.take i).flatMap kE))⟩]⟩ =
   some ⟨some 0,⟨[(3,(.sl false 0 0 none))],[⟨1,5,1,false,bts (l ++ body (T.flatMap kE))⟩]⟩,[]⟩
 | 0,i,hi => by
  unfold rPk
  rw [lpN30_0,List.length_map,ltI_f (by omega),List.take_of_length_le (by omega)]; rfl
 | k + 1,i,hi => by
  have ih := l_Key c inc n T hT hlT l hl k (i + 1) (by omega)
  have hlt : i < T.length := by omega
  have hv := hT T[i] (List.getElem_mem hlt)
  have e1 : IntKind.i64.wrap ((i : Int) + 1) = ((i + 1 : Nat) : Int) := by rw [w_i64]; omega
  have hfl := kfl_len (T.take i) fun v hv => hT v (List.mem_of_mem_take hv)
  rw [List.length_take] at hfl
  have hm : 300000 * min i T.length ≤ 300000 * 1024 := Nat.mul_le_mul_left _ (by omega)
  obtain ⟨L,hL⟩ : ∃ L,l ++ body ((T.take i).flatMap kE) = L := ⟨_,rfl⟩
  have hLl : L.length ≤ 3000000000 := by rw [← hL,List.length_append,body_len]; omega
  have hlast : L ++ body (kE T[i]) = l ++ body ((T.take (i + 1)).flatMap kE) := by rw [kfl_snoc T i hlt,body_app,← hL,List.append_assoc]
  rw [hL]
  rw [← hlast] at ih
  clear hlast hL hfl hm
  have hg : lget (T.map Pnd.row) i = T[i].row := lget_map Pnd.row T i hlt
  obtain ⟨p,hp⟩ : ∃ p,T[i] = p := ⟨_,rfl⟩
  rw [hp] at hg ih hv
  obtain ⟨v,ex,w⟩ := p
  obtain ⟨g,hn,hw,hwl⟩ := hv
  simp only at g hn hw hwl
  have hkl := kW_len hn
  have a1 := s_nums false false (kH v ex) (kH_wok hn ex) L (by unfold big; show L.length + 80 ≤ _; omega)
  have hkl1 : (kH v ex).length = 10 := rfl
  have a2 := fun m => s_nums false m (kW v) (kW_wok hn) (L ++ body (kH v ex)) (by unfold big; rw [List.length_append,body_len]; omega)
  have a3 := s_nums false false [U ((w.length : Nat) : Int)] (wok_cons (wok_wrap _) wok_nil) (L ++ body (kH v ex) ++ body (kW v)) (by unfold big; rw [List.length_append,List.length_append,body_len,body_len]; simp only [List.length_cons,List.length_nil]; omega)
  have a4 := s_nums false w.isEmpty w hw (L ++ body (kH v ex) ++ body (kW v) ++ body [U ((w.length : Nat) : Int)]) (by unfold big; rw [List.length_append,List.length_append,List.length_append,body_len,body_len,body_len]; simp only [List.length_cons,List.length_nil]; omega)
  rw [Bool.and_false] at a1 a3 a4
  have a2 := fun m => (a2 m).trans (by rw [Bool.and_false])
  have hab : ∀ B : List Nat,(false || ((bts B).all rowV && true)) = true := fun B => by rw [all_btsV]; rfl
  have hrng : (leI 0 (i : Int) && ltI (i : Int) ((T.length : Nat) : Int)) = true := by rw [leI_t (by omega),ltI_t (by omega)]; rfl
  have hbody : L ++ body (kE ⟨v,ex,w⟩) = L ++ body (kH v ex) ++ body (kW v) ++ body [U ((w.length : Nat) : Int)] ++ body w := by
   unfold kE; rw [body_app,body_app,body_app]; simp only [List.append_assoc]
  rw [hbody] at ih
  have el : U (((w.map wr).length : Nat) : Int) = U ((w.length : Nat) : Int) := by rw [List.length_map]
  have a3 : ev 58 [.ow false 5 1 (bts (L ++ body (kH v ex) ++ body (kW v))),.lst false 1 ([U (((w.map wr).length : Nat) : Int)].map wr)] = some [.ow false 5 1 (bts (L ++ body (kH v ex) ++ body (kW v) ++ body [U ((w.length : Nat) : Int)]))] := by rw [el]; exact a3
  unfold rPk at *
  rw [lpN30_0,List.length_map,Int.toNat_natCast,hg,e1]
  refine cT (ltI_t (by omega)) (cT hrng (cT rfl ?_))
  rcases Vb.kinds g.pos with hk | hk | hk | hk
  ·obtain ⟨kind,node,at_,n',old,new,wn,ws,key,boot⟩ := v
   simp only at hk
   subst hk
   exact cF rfl (cT rfl (cT rfl (cT rfl (cT rfl (cT hrng (cT rfl (bnd a1 (cT rfl (cT (hab _) (bnd (a2 true) (cT rfl (cT (hab _) (cT hrng (cT rfl (bnd a3 (cT rfl (cT (hab _) (cT hrng (cT rfl (bnd a4 (cT rfl ih)))))))))))))))))))))
  ·obtain ⟨kind,node,at_,n',old,new,wn,ws,key,boot⟩ := v
   simp only at hk
   subst hk
   have hwn : wn = ws.isEmpty := hn.nl
   have ek : U (((ws.map wr).length : Nat) : Int) = U ((ws.length : Nat) : Int) := by rw [List.length_map]
   have a1 : ev 58 [.ow false 5 1 (bts L),.lst false 1 ([U 2,U node,U at_,0,0,0,key,U boot,U ex,U (((ws.map wr).length : Nat) : Int)].map wr)] = some [.ow false 5 1 (bts (L ++ body (kH ⟨2,node,at_,n',old,new,wn,ws,key,boot⟩ ex)))] := by rw [ek]; exact a1
   exact cT rfl (cF rfl (cT rfl (cT rfl (cT rfl (cT hrng (cT rfl (bnd a1 (cT rfl (cT (hab _) (bnd (a2 wn) (cT rfl (cT hrng (cT rfl (bnd a3 (cT rfl (cT (hab _) (cT hrng (cT rfl (bnd a4 (cT rfl ih))))))))))))))))))))
  ·obtain ⟨kind,node,at_,n',old,new,wn,ws,key,boot⟩ := v
   simp only at hk
   subst hk
   exact cT rfl (cT rfl (cF rfl (cF rfl (cT hrng (cT rfl (bnd a1 (cT rfl (cT (hab _) (bnd (a2 true) (cT rfl (cT (hab _) (cT hrng (cT rfl (bnd a3 (cT rfl (cT (hab _) (cT hrng (cT rfl (bnd a4 (cT rfl ih))))))))))))))))))))
  ·obtain ⟨kind,node,at_,n',old,new,wn,ws,key,boot⟩ := v
   simp only at hk
   subst hk
   exact cT rfl (cT rfl (cT rfl (cT rfl (cF rfl (cT hrng (cT rfl (bnd a1 (cT rfl (cT (hab _) (bnd (a2 true) (cT rfl (cT (hab _) (cT hrng (cT rfl (bnd a3 (cT rfl (cT (hab _) (cT hrng (cT rfl (bnd a4 (cT rfl ih)))))))))))))))))))))
def keyW (c inc : Int) (T : List Pnd) : List Int := [U c,U inc,U 0,U ((T.length : Nat) : Int)] ++ T.flatMap kE
def keyB (c inc : Int) (T : List Pnd) : ByteArray := ⟨((bts (body (keyW c inc T))).map Ev.byteOf).toArray⟩
theorem s_Key (c inc : Int) (n : Bool) (T : List Pnd) (hT : ∀ p ∈ T,p.Ok) (hlT : T.length ≤ 1024) : evN 30 [rPk c inc n T] = some [.v (.string (keyB c inc T))] := by
 have a := s_nums true false [U c,U inc,U 0,U (((T.map Pnd.row).length : Nat) : Int)] (wok_cons (wok_wrap _) (wok_cons (wok_wrap _) (wok_cons (wok_wrap _) (wok_cons (wok_wrap _) wok_nil)))) [] (by unfold big; simp only [List.length_cons,List.length_nil]; omega)
 obtain ⟨H,hH⟩ : ∃ H,body [U c,U inc,U 0,U (((T.map Pnd.row).length : Nat) : Int)] = H := ⟨_,rfl⟩
 have hHl : H.length = 32 := by rw [← hH,body_len]; rfl
 rw [List.nil_append,hH] at a
 have hl := l_Key c inc n T hT hlT H (by omega) T.length 0 (by omega)
 rw [List.take_zero,List.flatMap_nil,show body [] = [] from rfl,List.append_nil] at hl
 have hab : (false || ((bts H).all rowV && true)) = true := by rw [all_btsV]; rfl
 have e : H ++ body (T.flatMap kE) = body (keyW c inc T) := by rw [← hH,← body_app,List.length_map]; rfl
 rw [e] at hl
 have hby : (bts (body (keyW c inc T))).all Ev.isByte = true := by
  rw [List.all_eq_true]
  intro x hx
  obtain ⟨y,hy,rfl⟩ := List.mem_map.1 hx
  rfl
 unfold rPk at *
 rw [evN30]
 exact bnd a (cT rfl (cT hab (bnd hl (cT rfl (cT rfl (cT hby rfl))))))
end Go.Proofs.Ytkefjdmoikegbaa
