/- The set-up of the laws: an empty pair and a node. -/
import Derived.Test.YtkefjdmoikegbaaPair
set_option linter.all false
namespace Go.Proofs.Ytkefjdmoikegbaa
open Go.Ev Go.RowKit
attribute [local congr] bind_first cond_first
set_option maxRecDepth 10000
theorem s_rCount (v : Vb) (h : 1 ≤ v.kind∧v.kind ≤ 4) : ev 42 [.agg v.row] = some [.v (.int .i64 v.cnt)] := by
 unfold Vb.row Vb.cnt vcnt
 rw [ev42,List.length_map]
 by_cases h1 : v.kind = 1
 ·rw [beq_t h1,if_pos h1]; rfl
 rw [beq_f h1,if_neg h1]
 by_cases h2 : v.kind = 2
 ·rw [beq_t h2,if_pos h2]; rfl
 rw [beq_f h2,if_neg h2,if_pos (by omega)]; rfl
def pieceR (l : List (Int × Int)) : List (List AV) := l.map fun x => [AV.v (.int .i64 x.1),AV.v (.int .i64 x.2)]
theorem pcN_eq (a l : Int) : (if IntKind.i64.wrap (8 - Int.tmod a 8) < l then IntKind.i64.wrap (8 - Int.tmod a 8) else l) = pcN a l := by
 unfold pcN wrap64
 rw [w_i64]
theorem l_rPieces : ∀ (k : Nat) (f : Bool) (a l : Int) (b0 : List (List AV)),l ≤ k → l ≤ 100000 → b0.length + l ≤ 1000000 → ∃ f' : Bool,
  lp 20 0 0 ⟨[(3,.sl f 0 0 none),(4,.v (.int .i64 a)),(5,.v (.int .i64 l))],[⟨1,54,2,false,b0⟩]⟩ = some ⟨some 0,⟨[(3,.sl f' 0 0 none)],[⟨1,54,2,false,b0 ++ pieceR (pcs a l)⟩]⟩,[]⟩
 | 0,f,a,l,b0,hk,hl,hb => by
  refine ⟨f,?_⟩
  rw [lp20_0,ltI_f (by omega),pcs_neg (by omega)]
  show some (LR.mk _ _ _) = some (LR.mk _ ⟨_,[⟨1,_,2,false,b0 ++ []⟩]⟩ _)
  rw [List.append_nil]
 | k + 1,f,a,l,b0,hk,hl,hb => by
  by_cases h : 0 < l
  ·have hp := pcN_pos (a := a) h
   obtain ⟨f',ih⟩ := l_rPieces k false (wrap64 (a + pcN a l)) (l - pcN a l) (b0 ++ [[AV.v (.int .i64 a),AV.v (.int .i64 (pcN a l))]]) (by omega) (by omega) (by simp only [List.length_append,List.length_cons,List.length_nil]; omega)
   refine ⟨f',?_⟩
   have e1 : IntKind.i64.wrap (a + pcN a l) = wrap64 (a + pcN a l) := by unfold wrap64; rw [w_i64]
   have e2 : IntKind.i64.wrap (l - pcN a l) = l - pcN a l := by rw [w_i64]; omega
   rw [lp20_0,pcN_eq,ltI_t h,leN_t (by omega),e1,e2]
   refine ih.trans ?_
   rw [pcs_pos h,List.append_assoc]
   rfl
  ·refine ⟨f,?_⟩
   rw [lp20_0,ltI_f (by omega),pcs_neg (by omega)]
   show some (LR.mk _ _ _) = some (LR.mk _ ⟨_,[⟨1,_,2,false,b0 ++ []⟩]⟩ _)
   rw [List.append_nil]
theorem s_rPieces (v : Vb) (h : 1 ≤ v.kind∧v.kind ≤ 4) (hc : v.cnt ≤ 100000) : ∃ f : Bool,ev 20 [.agg v.row] = some [.ow f 54 2 (pieceR (pcs v.at_ v.cnt))] := by
 have h1 := s_rCount v h
 obtain ⟨f',h2⟩ := l_rPieces v.cnt.toNat true v.at_ v.cnt [] (by omega) hc (by simp only [List.length_nil]; omega)
 refine ⟨f',?_⟩
 unfold Vb.row at *
 rw [ev20]
 exact bnd h1 (cT rfl (bnd h2 (cT rfl (cT rfl rfl))))
def wN (s : Int) (n : Nat) : List Int := (List.range n).map fun (k : Nat) => IntKind.u64.wrap (s + IntKind.u64.wrap (k : Int))
theorem wN_succ (s : Int) (n : Nat) : wN s (n + 1) = wN s n ++ [IntKind.u64.wrap (s + IntKind.u64.wrap (n : Int))] := by
 unfold wN; rw [List.range_succ,List.map_append]; rfl
theorem wN_len (s : Int) (n : Nat) : (wN s n).length = n := by unfold wN; simp
def mem0 : List Int := 1 :: 1 :: List.replicate 318 0
theorem mem0_len : mem0.length = 320 := by unfold mem0; simp
theorem splice0 : splice (List.replicate (8 * (40 : Int).toNat) 0) (0 : Int).toNat [1,1] = mem0 := by decide
theorem s_newPair (c inc : Int) (hc : 0 ≤ c∧c < 6) (hi : 0 ≤ inc∧inc ≤ 59) : ev 16 [.v (.int .i64 c),.v (.int .i64 inc),.v (.int .i64 0)] = some [pO ⟨c,inc,0,true,[],0,true,[]⟩,.v (.int .i64 0)] := by
 rw [ev16,ltI_f (by omega),leI_f (by omega),ltI_f (by omega),ltI_f (by omega)]
 rfl
theorem s_write0 : ev 33 [ndO (List.replicate (8 * (40 : Int).toNat) 0) false,.v (.int .i64 0),.lst false 1 ([1,1].map wr)] = some [.v (.int .i64 0),ndO mem0 false] := by
 rw [s_Write _ _ _ _ _ (by rw [List.length_replicate]; decide) (by unfold i64ok; omega),List.length_replicate,acc_ok (by decide) (by decide) (by decide)]
 rw [if_pos (show (if (!false) = true then (0 : Int) else 4) = 0 from rfl),splice0]; rfl
theorem ext_getD {xs ys : List Int} (hl : xs.length = ys.length) (h : ∀ i,i < xs.length → xs.getD i 0 = ys.getD i 0) : xs = ys := by
 refine List.ext_getElem hl fun i h1 h2 => ?_
 have := h i h1
 simpa [h1,h2] using this
theorem splice_getD (xs : List Int) (n : Nat) (ys : List Int) (h : n + ys.length ≤ xs.length) (i : Nat) :
  (splice xs n ys).getD i 0 = if i < n then xs.getD i 0 else if i < n + ys.length then ys.getD (i - n) 0 else xs.getD i 0 := by
 unfold splice
 simp only [List.getD_eq_getElem?_getD]
 by_cases h1 : i < n
 ·rw [if_pos h1,List.append_assoc,List.getElem?_append_left (by simp only [List.length_take]; omega),List.getElem?_take,if_pos h1]
 ·rw [if_neg h1]
  by_cases h2 : i < n + ys.length
  ·rw [if_pos h2,List.getElem?_append_left (by simp only [List.length_append,List.length_take]; omega),List.getElem?_append_right (by simp only [List.length_take]; omega)]
   simp only [List.length_take]
   rw [show min n xs.length = n by omega]
  ·rw [if_neg h2,List.getElem?_append_right (by simp only [List.length_append,List.length_take]; omega)]
   simp only [List.length_append,List.length_take,List.getElem?_drop]
   rw [show n + ys.length + (i - (min n xs.length + ys.length)) = i by omega]
theorem splice_snoc (xs : List Int) (n : Nat) (ys : List Int) (y : Int) (h : n + ys.length < xs.length) : splice xs n (ys ++ [y]) = (splice xs n ys).set (n + ys.length) y := by
 have l1 : (ys ++ [y]).length = ys.length + 1 := by simp
 have e1 := splice_len xs n ys (by omega)
 have e2 := splice_len xs n (ys ++ [y]) (by omega)
 refine ext_getD (by rw [List.length_set]; omega) fun i hi => ?_
 rw [splice_getD _ _ _ (by omega),l1]
 by_cases c : i = n + ys.length
 ·subst c
  rw [if_neg (by omega),if_pos (by omega)]
  simp only [List.getD_eq_getElem?_getD]
  rw [List.getElem?_set_self (by omega),show n + ys.length - n = ys.length by omega,List.getElem?_append_right (by omega),Nat.sub_self]
  rfl
 ·have e3 : ((splice xs n ys).set (n + ys.length) y).getD i 0 = (splice xs n ys).getD i 0 := by
   simp only [List.getD_eq_getElem?_getD]
   rw [List.getElem?_set_ne (by omega)]
  rw [e3,splice_getD _ _ _ (by omega)]
  by_cases c1 : i < n
  ·rw [if_pos c1,if_pos c1]
  ·rw [if_neg c1,if_neg c1]
   by_cases c2 : i < n + ys.length
   ·rw [if_pos (by omega),if_pos c2]
    simp only [List.getD_eq_getElem?_getD]
    rw [List.getElem?_append_left (by omega)]
   ·rw [if_neg (by omega),if_neg c2]
theorem splice_nil (b : List Int) (n : Nat) : splice b n [] = b := by
 unfold splice
 rw [List.append_nil,List.length_nil,Nat.add_zero,List.take_append_drop]
structure MemOk (ws : List Int) : Prop where
 len : ws.length = 320
 key : ws.getD 0 0 = 1
 boot : ws.getD 1 0 = 1
 door : ws.getD 24 0 = 0
theorem MemOk.splice {ws : List Int} (h : MemOk ws) {n : Nat} {ys : List Int} (hn : 40 ≤ n) (hy : n + ys.length ≤ 320) : MemOk (splice ws n ys) := by
 have hl := h.len
 refine ⟨by rw [splice_len _ _ _ (by omega)]; exact hl,?_,?_,?_⟩
 ·rw [splice_getD _ _ _ (by omega),if_pos (by omega)]; exact h.key
 ·rw [splice_getD _ _ _ (by omega),if_pos (by omega)]; exact h.boot
 ·rw [splice_getD _ _ _ (by omega),if_pos (by omega)]; exact h.door
def wV (a : Int) (w : List Int) : Vb := ⟨2,0,a,0,0,0,false,w,1,1⟩
theorem wV_cnt (a : Int) (w : List Int) : (wV a w).cnt = w.length := rfl
structure WOk (a : Int) (w : List Int) : Prop where
 lo : 40 ≤ a
 pos : 1 ≤ w.length
 hi : a + w.length ≤ 320
theorem WOk.good {a : Int} {w : List Int} (h : WOk a w) : (wV a w).Good 40 := by
 obtain ⟨h1,h2,h3⟩ := h
 refine ⟨by rw [wV_cnt]; omega,⟨by omega,by omega,(by show (0 : Int) ≤ 0; decide),(by show (0 : Int) < 5; decide),?_,?_,by rw [wV_cnt]; omega,?_,?_⟩,?_⟩
 ·show 0 ≤ a; omega
 ·show a < 40 * 8; omega
 ·show (a + w.length - 1) / 8 < 40; omega
 ·show (a + w.length - 1) / 8 - a / 8 < 128; omega
 ·left; show (2 : Int) < a / 8; omega
theorem WOk.go {a : Int} {w : List Int} (h : WOk a w) {ws : List Int} (hm : MemOk ws) : refu 0 1 (wV a w) ws false = 0 := by
 unfold refu
 rw [if_neg (by decide),hm.len,show (((320 / 8 : Nat)) : Int) = 40 from rfl,if_neg (not_not_intro (bad_zero.2 h.good)),hm.key,hm.boot,show (24 + (0 : Int)).toNat = 24 from rfl,hm.door]
 have := h.lo
 unfold Vb.chk
 have e : ¬ ((wV a w).lo ≤ (wV a w).lim) := by show ¬ (a / 8 ≤ (2 : Int)); omega
 rw [if_neg (fun g => e g.1),if_neg (by decide),if_neg e,if_neg (by show ¬ ((1 : Int) < 0); decide),if_neg (by show ¬ (IntKind.u64.wrap 1 ≠ 1); decide),if_neg (by show ¬ ((1 : Int) ≠ 1); decide)]
end Go.Proofs.Ytkefjdmoikegbaa
