/- Encode and Key tell the same states apart. -/
import Derived.Test.YtkefjdmoikegbaaKey
set_option linter.all false
namespace Go.Proofs.Ytkefjdmoikegbaa
open Go.Ev Go.RowKit
theorem little_val (w : Nat) (h : w < 18446744073709551616) : w = w % 256 + 256 * (w / 256 % 256) + 65536 * (w / 65536 % 256) + 16777216 * (w / 16777216 % 256) + 4294967296 * (w / 4294967296 % 256) + 1099511627776 * (w / 1099511627776 % 256) + 281474976710656 * (w / 281474976710656 % 256) + 72057594037927936 * (w / 72057594037927936 % 256) := by omega
theorem little_inj {a b : Nat} (ha : a < 18446744073709551616) (hb : b < 18446744073709551616) (h : little a = little b) : a = b := by
 rw [little_shift,little_shift] at h
 simp only [List.cons.injEq,and_true,Nat.div_one] at h
 obtain ⟨h0,h1,h2,h3,h4,h5,h6,h7⟩ := h
 rw [little_val a ha,little_val b hb,h0,h1,h2,h3,h4,h5,h6,h7]
theorem body_inj : ∀ {a b : List Int},Wok a → Wok b → body a = body b → a = b
 | [],[],_,_,_ => rfl
 | [],y :: b,_,_,h => by
  have := congrArg List.length h
  rw [body_len,body_len] at this; simp at this
 | x :: a,[],_,_,h => by
  have := congrArg List.length h
  rw [body_len,body_len] at this; simp at this
 | x :: a,y :: b,ha,hb,h => by
  rw [body_cons,body_cons] at h
  obtain ⟨h1,h2⟩ := List.append_inj h (by rw [little_len,little_len])
  have hx := ha x (by simp)
  have hy := hb y (by simp)
  have e := little_inj (by omega) (by omega) h1
  have e2 : x = y := by omega
  rw [e2,body_inj (fun z hz => ha z (List.mem_cons_of_mem _ hz)) (fun z hz => hb z (List.mem_cons_of_mem _ hz)) h2]
def bB (l : List Nat) : ByteArray := ⟨((bts l).map Ev.byteOf).toArray⟩
theorem bB_toList (l : List Nat) : (bB l).toList = l.map UInt8.ofNat := by
 unfold bB
 rw [ByteArray.toList_mk]
 unfold bts
 rw [List.map_map]
 refine List.map_congr_left fun x _ => ?_
 show UInt8.ofNat (Int.toNat (x : Int)) = _
 rw [Int.toNat_natCast]
theorem ofNat_inj {a b : Nat} (ha : a < 256) (hb : b < 256) (h : UInt8.ofNat a = UInt8.ofNat b) : a = b := by
 have := congrArg UInt8.toNat h
 simp at this
 omega
theorem mapB_inj : ∀ {a b : List Nat},(∀ x ∈ a,x < 256) → (∀ x ∈ b,x < 256) → a.map UInt8.ofNat = b.map UInt8.ofNat → a = b
 | [],[],_,_,_ => rfl
 | [],_ :: _,_,_,h => by simp at h
 | _ :: _,[],_,_,h => by simp at h
 | x :: a,y :: b,ha,hb,h => by
  simp only [List.map_cons,List.cons.injEq] at h
  rw [ofNat_inj (ha x (by simp)) (hb y (by simp)) h.1,mapB_inj (fun z hz => ha z (List.mem_cons_of_mem _ hz)) (fun z hz => hb z (List.mem_cons_of_mem _ hz)) h.2]
theorem bB_beq {a b : List Int} (ha : Wok a) (hb : Wok b) : ((bB (body a)).toList == (bB (body b)).toList) = decide (a = b) := by
 rw [bB_toList,bB_toList]
 by_cases h : a = b
 ·subst h; simp
 ·rw [decide_eq_false h]
  refine beq_eq_false_iff_ne.2 fun e => h (body_inj ha hb (mapB_inj (body_lt a) (body_lt b) e))
theorem U_inj {a b : Int} (ha : -9223372036854775808 ≤ a∧a ≤ 9223372036854775807) (hb : -9223372036854775808 ≤ b∧b ≤ 9223372036854775807) (h : U a = U b) : a = b := by
 unfold U at h
 rw [w_u64,w_u64] at h
 omega
structure Vb.R (v : Vb) : Prop where
 g : v.Good 40
 n : v.Nm
theorem Vb.R.kind {v : Vb} (h : v.R) : v.kind = 1 ∨ v.kind = 2 ∨ v.kind = 3 ∨ v.kind = 4 := Vb.kinds h.g.pos
theorem vF_kH {v v' : Vb} (h : v.R) (h' : v'.R) : vF v = vF v' ↔ (kH v 0 = kH v' 0∧kW v = kW v') := by
 have hk := h.kind
 have hk' := h'.kind
 have hkk : U v.kind = U v'.kind → v.kind = v'.kind := fun e => U_inj (by omega) (by omega) e
 constructor
 ·intro e
  unfold vF at e
  simp only [List.cons_append,List.nil_append,List.cons.injEq] at e
  obtain ⟨e1,e2,e3,e4,e5,e6⟩ := e
  have ek := hkk e1
  have e2 : U v.node = U v'.node := e2
  have e3 : U v.at_ = U v'.at_ := e3
  have e5 : U v.boot = U v'.boot := e5
  have e6 : (if v.kind = 1 then [U v.n] else if v.kind = 2 then v.ws else if v.kind = 3 then [v.old,v.new] else [v.new]) = if v'.kind = 1 then [U v'.n] else if v'.kind = 2 then v'.ws else if v'.kind = 3 then [v'.old,v'.new] else [v'.new] := e6
  unfold kH kW
  rw [← ek] at e6 ⊢
  rw [e2,e3,e4,e5]
  rcases hk with k | k | k | k
  ·rw [if_pos k,if_pos k] at e6
   simp only [List.cons.injEq,and_true] at e6
   simp [k,e6]
  ·rw [if_neg (by omega),if_pos k,if_neg (by omega),if_pos k] at e6
   simp [k,e6]
  ·rw [if_neg (by omega),if_neg (by omega),if_pos k,if_neg (by omega),if_neg (by omega),if_pos k] at e6
   simp only [List.cons.injEq,and_true] at e6
   simp [k,e6.1,e6.2]
  ·rw [if_neg (by omega),if_neg (by omega),if_neg (by omega),if_neg (by omega),if_neg (by omega),if_neg (by omega)] at e6
   simp only [List.cons.injEq,and_true] at e6
   simp [k,e6]
 ·rintro ⟨e,f⟩
  unfold kH at e
  simp only [List.cons.injEq,and_true] at e
  obtain ⟨e1,e2,e3,e4,e5,e6,e7,e8,_,_⟩ := e
  have ek := hkk e1
  unfold kW at f
  unfold vF
  rw [← ek] at e4 e5 e6 f ⊢
  show [U v.kind,U v.node,U v.at_,v.key,U v.boot] ++ _ = [U v.kind,U v'.node,U v'.at_,v'.key,U v'.boot] ++ _
  rw [e2,e3,e7,e8]
  rcases hk with k | k | k | k
  ·simp only [k,if_true] at e4 ⊢
   show _ ++ [U v.n] = _ ++ [U v'.n]
   rw [e4]
  ·simp [k] at f ⊢
   rw [f]
  ·simp [k] at e5 e6 ⊢
   rw [e5,e6]; exact ⟨rfl,rfl⟩
  ·simp [k] at e6 ⊢
   rw [e6]
theorem kH_ex {v v' : Vb} {x x' : Int} : kH v x = kH v' x' ↔ (kH v 0 = kH v' 0∧U x = U x') := by
 unfold kH
 simp only [List.cons.injEq,and_true]
 constructor
 ·rintro ⟨a,b,c,d,e,f,g,h,i,j⟩; exact ⟨⟨a,b,c,d,e,f,g,h,trivial,j⟩,i⟩
 ·rintro ⟨⟨a,b,c,d,e,f,g,h,_,j⟩,i⟩; exact ⟨a,b,c,d,e,f,g,h,i,j⟩
theorem vE_split {v v' : Vb} {r r' : List Int} : vE v ++ r = vE v' ++ r' ↔ (vF v = vF v'∧r = r') := by
 constructor
 ·intro h
  unfold vE at h
  simp only [List.cons_append,List.cons.injEq] at h
  exact List.append_inj h.2 (by omega)
 ·rintro ⟨h,rfl⟩
  unfold vE; rw [h]
theorem flat_vE : ∀ {q q' : List Vb} {r r' : List Int},q.length = q'.length → (q.flatMap vE ++ r = q'.flatMap vE ++ r' ↔ (q.map vF = q'.map vF∧r = r'))
 | [],[],r,r',_ => by simp
 | [],_ :: _,_,_,h => by simp at h
 | _ :: _,[],_,_,h => by simp at h
 | v :: q,v' :: q',r,r',h => by
  rw [List.flatMap_cons,List.flatMap_cons,List.append_assoc,List.append_assoc,vE_split,flat_vE (by simpa using h),List.map_cons,List.map_cons,List.cons.injEq]
  exact ⟨fun ⟨a,b,c⟩ => ⟨⟨a,b⟩,c⟩,fun ⟨⟨a,b⟩,c⟩ => ⟨a,b,c⟩⟩
theorem kE_split {p p' : Pnd} {r r' : List Int} (hl : p.w.length ≤ 100000) (hl' : p'.w.length ≤ 100000) (hw : (kW p.v).length ≤ 100000) (hw' : (kW p'.v).length ≤ 100000) : kE p ++ r = kE p' ++ r' ↔ ((kH p.v p.ex = kH p'.v p'.ex∧kW p.v = kW p'.v∧p.w = p'.w)∧r = r') := by
 constructor
 ·intro h
  unfold kE at h
  simp only [List.append_assoc] at h
  obtain ⟨h1,h2⟩ := List.append_inj h (by rfl)
  have h3 := h1
  unfold kH at h3
  simp only [List.cons.injEq,and_true] at h3
  have h4 := U_inj (by omega) (by omega) h3.2.2.2.2.2.2.2.2.2
  obtain ⟨h5,h6⟩ := List.append_inj h2 (by omega)
  simp only [List.cons_append,List.nil_append,List.cons.injEq] at h6
  have h7 := U_inj (by omega) (by omega) h6.1
  obtain ⟨h8,h9⟩ := List.append_inj h6.2 (by omega)
  exact ⟨⟨h1,h5,h8⟩,h9⟩
 ·rintro ⟨⟨h1,h2,h3⟩,rfl⟩
  unfold kE; rw [h1,h2,h3]
def Peq (p p' : Pnd) : Prop := kH p.v p.ex = kH p'.v p'.ex∧kW p.v = kW p'.v∧p.w = p'.w
def PeqL : List Pnd → List Pnd → Prop
 | [],[] => True
 | p :: a,p' :: b => Peq p p'∧PeqL a b
 | _,_ => False
theorem flat_kE : ∀ {a b : List Pnd},(∀ p ∈ a,p.Ok) → (∀ p ∈ b,p.Ok) → a.length = b.length → (a.flatMap kE = b.flatMap kE ↔ PeqL a b)
 | [],[],_,_,_ => by simp [PeqL]
 | [],_ :: _,_,_,h => by simp at h
 | _ :: _,[],_,_,h => by simp at h
 | p :: a,p' :: b,ha,hb,h => by
  have hp := ha p (by simp)
  have hp' := hb p' (by simp)
  rw [List.flatMap_cons,List.flatMap_cons,kE_split hp.l hp'.l (kW_len hp.n) (kW_len hp'.n),flat_kE (fun x hx => ha x (List.mem_cons_of_mem _ hx)) (fun x hx => hb x (List.mem_cons_of_mem _ hx)) (by simpa using h)]
  rfl
theorem peqL_map : ∀ {r r' : List Vb},(∀ v ∈ r,v.R) → (∀ v ∈ r',v.R) → (PeqL (r.map fun v => ⟨v,0,[]⟩) (r'.map fun v => ⟨v,0,[]⟩) ↔ r.map vF = r'.map vF)
 | [],[],_,_ => by simp [PeqL]
 | [],_ :: _,_,_ => by simp [PeqL]
 | _ :: _,[],_,_ => by simp [PeqL]
 | v :: r,v' :: r',h,h' => by
  rw [List.map_cons,List.map_cons,List.map_cons,List.map_cons,List.cons.injEq]
  show (Peq _ _∧_) ↔ _
  rw [peqL_map (fun x hx => h x (List.mem_cons_of_mem _ hx)) (fun x hx => h' x (List.mem_cons_of_mem _ hx)),vF_kH (h v (by simp)) (h' v' (by simp))]
  unfold Peq
  simp
structure PS.G (s : PS) : Prop where
 wf : s.Wf
 wok : Wok s.w
 exl : s.ex ≤ 2000
theorem PS.G.vs {s : PS} (h : s.G) : ∀ v ∈ s.q,v.R := fun v hv => ⟨(h.wf.vs v hv).1,(h.wf.vs v hv).2⟩
theorem PS.G.wl {s : PS} (h : s.G) : s.w.length ≤ 18000 := by have := h.wf.wl; have := h.exl; omega
def encS (s : PS) : List Int := encW s.c s.inc s.ex s.q s.w
def trip (s : PS) : List Pnd := its s.q s.ex s.w
def keyS (s : PS) : List Int := keyW s.c s.inc (trip s)
theorem trip_len (s : PS) : (trip s).length = s.q.length := by unfold trip; cases s.q <;> simp [its]
theorem trip_ok {s : PS} (h : s.G) : ∀ p ∈ trip s,p.Ok := fun p hp => by
 unfold trip at hp
 cases hq : s.q with
 | nil => rw [hq] at hp; cases hp
 | cons v r =>
  rw [hq] at hp
  rcases List.mem_cons.1 hp with rfl | hp
  ·have := h.vs v (by rw [hq]; simp)
   have := h.wl
   exact ⟨(h.vs v (by rw [hq]; simp)).g,(h.vs v (by rw [hq]; simp)).n,h.wok,by show s.w.length ≤ _; omega⟩
  ·obtain ⟨v',hv',rfl⟩ := List.mem_map.1 hp
   exact ⟨(h.vs v' (by rw [hq]; exact List.mem_cons_of_mem _ hv')).g,(h.vs v' (by rw [hq]; exact List.mem_cons_of_mem _ hv')).n,wok_nil,Nat.zero_le _⟩
theorem enc_key {s t : PS} (h : s.G) (k : t.G) : encS s = encS t ↔ keyS s = keyS t := by
 have a1 := h.wf.c; have a2 := h.wf.inc; have a3 := h.wf.len; have a4 := h.exl
 have b1 := k.wf.c; have b2 := k.wf.inc; have b3 := k.wf.len; have b4 := k.exl
 have hq : U ((s.q.length : Nat) : Int) = U ((t.q.length : Nat) : Int) ↔ s.q.length = t.q.length := ⟨fun e => by have := U_inj (by omega) (by omega) e; omega,fun e => by rw [e]⟩
 have hex : U (s.ex : Int) = U (t.ex : Int) ↔ s.ex = t.ex := ⟨fun e => by have := U_inj (by omega) (by omega) e; omega,fun e => by rw [e]⟩
 have key : encS s = encS t ↔ (U s.c = U t.c∧U s.inc = U t.inc∧U (s.ex : Int) = U (t.ex : Int)∧s.q.length = t.q.length∧s.q.map vF = t.q.map vF∧s.w = t.w) := by
  unfold encS encW
  simp only [List.cons.injEq,true_and]
  constructor
  ·rintro ⟨c1,c2,c3,c4,c5⟩
   have c4 := hq.1 c4
   obtain ⟨c6,c7⟩ := (flat_vE c4).1 c5
   simp only [List.cons.injEq] at c7
   exact ⟨c1,c2,c3,c4,c6,c7.2⟩
  ·rintro ⟨c1,c2,c3,c4,c5,c6⟩
   exact ⟨c1,c2,c3,hq.2 c4,(flat_vE c4).2 ⟨c5,by rw [c6]⟩⟩
 have kk : keyS s = keyS t ↔ (U s.c = U t.c∧U s.inc = U t.inc∧s.q.length = t.q.length∧PeqL (trip s) (trip t)) := by
  unfold keyS keyW
  rw [trip_len,trip_len]
  simp only [List.cons_append,List.nil_append,List.cons.injEq,true_and]
  constructor
  ·rintro ⟨c1,c2,c3,c4⟩
   have c3 := hq.1 c3
   exact ⟨c1,c2,c3,(flat_kE (trip_ok h) (trip_ok k) (by rw [trip_len,trip_len,c3])).1 c4⟩
  ·rintro ⟨c1,c2,c3,c4⟩
   exact ⟨c1,c2,hq.2 c3,(flat_kE (trip_ok h) (trip_ok k) (by rw [trip_len,trip_len,c3])).2 c4⟩
 rw [key,kk]
 refine and_congr_right fun _ => and_congr_right fun _ => ?_
 unfold trip
 cases hs : s.q with
 | nil =>
  obtain ⟨z1,z2⟩ := h.wf.z hs
  cases ht : t.q with
  | nil =>
   obtain ⟨y1,y2⟩ := k.wf.z ht
   rw [z1,z2,y1,y2]
   simp [its,PeqL]
  | cons v r => simp
 | cons v r =>
  cases ht : t.q with
  | nil => simp
  | cons v' r' =>
   have hv := h.vs v (by rw [hs]; simp)
   have hv' := k.vs v' (by rw [ht]; simp)
   have hr : ∀ x ∈ r,x.R := fun x hx => h.vs x (by rw [hs]; exact List.mem_cons_of_mem _ hx)
   have hr' : ∀ x ∈ r',x.R := fun x hx => k.vs x (by rw [ht]; exact List.mem_cons_of_mem _ hx)
   show _ ↔ _∧(Peq ⟨v,s.ex,s.w⟩ ⟨v',t.ex,t.w⟩∧PeqL (r.map fun v => ⟨v,0,[]⟩) (r'.map fun v => ⟨v,0,[]⟩))
   rw [peqL_map hr hr']
   unfold Peq
   simp only
   rw [kH_ex,List.map_cons,List.map_cons,List.cons.injEq,vF_kH hv hv']
   constructor
   ·rintro ⟨c1,c2,⟨⟨c3,c4⟩,c5⟩,c6⟩; exact ⟨c2,⟨⟨c3,c1⟩,c4,c6⟩,c5⟩
   ·rintro ⟨c2,⟨⟨c3,c1⟩,c4,c6⟩,c5⟩; exact ⟨c1,c2,⟨⟨c3,c4⟩,c5⟩,c6⟩
end Go.Proofs.Ytkefjdmoikegbaa
