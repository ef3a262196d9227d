import Derived.Test.YtnjccbnlmdajkaaPieces
import Derived.Test.YtnjccbnlmdajkaaEv10
import Derived.Test.YtnjccbnlmdajkaaRows
import Derived.Test.YtnjccbnlmdajkaaEv12
import Derived.Test.YtnjccbnlmdajkaaEv11
set_option linter.all false
namespace Go.Proofs.Ytnjccbnlmdajkaa
open Go.Ev Go.RowKit
def pieceA (l : List (Int × Int)) : AV := .ow l.isEmpty 106 2 (l.map fun x => [AV.v (.int .i64 x.1),AV.v (.int .i64 x.2)])
def pieceG : List AV → Option (List AV)
 | [.agg [.v (.int .i64 kind),.v (.int .i64 _),.v (.int .i64 a),.v (.int .i64 n),.v (.int .u64 _),.v (.int .u64 _),.lst _ _ xs,.v (.int .u64 _),.v (.int .i64 _)]] =>
  bif decide (vcnt kind n xs.length < 2147483648) then some [pieceA (pcs a (vcnt kind n xs.length))] else none
 | _ => none
theorem b1_v {μ : Mu} {hp : HF} {F : List Nat} {G : List Value} {x v : Value} (h : B1 μ hp F G (.v x) v) : F = []∧G = []∧v = x := by
 cases h with
 | c h => cases h with
  | d h => cases h with
   | v _ => exact ⟨rfl,rfl,rfl⟩
theorem b1_lst {μ : Mu} {hp : HF} {F : List Nat} {G : List Value} {nil : Bool} {sz : Nat} {xs : List (List AV)} {v : Value} (h : B1 μ hp F G (.lst nil sz xs) v) : F = []∧G = []∧∃ A c,v = .slice A xs.length c := by
 cases h with
 | c h => cases h with
  | d h => cases h with
   | lst _ _ _ _ _ _ _ => exact ⟨rfl,rfl,_,_,rfl⟩
theorem b1s_cons {μ : Mu} {hp : HF} {F : List Nat} {G : List Value} {a : AV} {cs : List AV} {vs : List Value} (h : B1s μ hp F G (a :: cs) vs) : ∃ F1 F2 G1 G2 v vs',F = F1 ++ F2∧G = G1 ++ G2∧vs = v :: vs'∧B1 μ hp F1 G1 a v∧B1s μ hp F2 G2 cs vs' := by
 cases h with
 | cons h k => exact ⟨_,_,_,_,_,_,rfl,rfl,rfl,h,k⟩
theorem b1s_nil {μ : Mu} {hp : HF} {F : List Nat} {G : List Value} {vs : List Value} (h : B1s μ hp F G [] vs) : F = []∧G = []∧vs = [] := by
 cases h; exact ⟨rfl,rfl,rfl⟩
theorem b2s_one {μ : Mu} {hp : HF} {F : List Nat} {G : List Value} {cs : List AV} {vs : List Value} (h : B2s μ hp F G [.agg cs] vs) : ∃ ws : List Value,vs = [.agg ws.toArray]∧B1s μ hp F G cs ws := by
 cases h with
 | cons h k =>
  cases k
  simp only [List.append_nil]
  cases h with
  | agg h => exact ⟨_,rfl,h⟩
  | o h => cases h with
   | c h => cases h with
    | d h => cases h
theorem prow_get (xs : List (Int × Int)) : ∀ (i : Nat) (x : Int × Int),xs[i]? = some x → (prow xs)[i * 2]? = some (.int .i64 x.1)∧(prow xs)[i * 2 + 1]? = some (.int .i64 x.2) := by
 induction xs with
 | nil => intro i x h; cases h
 | cons y ys ih =>
  intro i x h
  have e : prow (y :: ys) = .int .i64 y.1 :: .int .i64 y.2 :: prow ys := by simp [prow]
  rw [e]
  cases i with
  | zero => cases h; exact ⟨rfl,rfl⟩
  | succ i =>
   have := ih i x h
   rw [show (i + 1) * 2 = i * 2 + 1 + 1 from by omega,show i * 2 + 1 + 1 + 1 = (i * 2 + 1) + 1 + 1 from rfl]
   simpa using this
theorem piece_row {μ : Mu} {l : List (Int × Int)} {cur : Array Value} (h : cur.toList.take (l.length * 2) = prow l) : RowD μ 2 (l.map fun x => [AV.v (.int .i64 x.1),AV.v (.int .i64 x.2)]) cur := by
 refine ⟨fun e he => ?_,fun i e j c he hc => ?_⟩
 ·obtain ⟨x,_,rfl⟩ := List.mem_map.1 he; rfl
 ·rw [List.getElem?_map] at he
  obtain ⟨x,hx,rfl⟩ := Option.map_eq_some_iff.1 he
  obtain ⟨g1,g2⟩ := prow_get l i x hx
  have hi : i < l.length := (List.getElem?_eq_some_iff.1 hx).1
  have tk : ∀ (k : Nat) (v : Value),k < l.length * 2 → (prow l)[k]? = some v → cur[k]? = some v := fun k v hk hv => by
   rw [← h,List.getElem?_take,if_pos hk] at hv
   simpa using hv
  match j,hc with
  | 0,hc => cases hc; exact ⟨_,tk _ _ (by omega) g1,.v rfl⟩
  | 1,hc => cases hc; exact ⟨_,tk _ _ (by omega) g2,.v rfl⟩
theorem pieceS (bs rs : List AV) (h : pieceG bs = some rs) : ∃ fn,Try.prog.funcs[59]? = some fn ∧
  ∀ (w : World) (μ : Mu) (F : List Nat) (G vals : List Value),(∀ b o,μ b = some o → w.heap[b]? = some o) → B2s μ (hf w) F G bs vals → F.Nodup →
   Calls Try.prog 59 vals.toArray w fun e w' => ∃ (ra ro : List AV) (vs : List Value) (μ' : Mu) (F1 F2 : List Nat) (G1 : List Value),rs = ra ++ ro∧ra.length = fn.resultTypes.size∧e = .returned (retV vs)∧Frm ⟨w,(· ∈ F),μ⟩ μ' w' ∧
    (∀ b o,μ' b = some o → w'.heap[b]? = some o)∧B2s μ' (hf w') F1 G1 ra vs∧B1s μ' (hf w') F2 G ro G∧(F1 ++ F2).Nodup∧∀ b ∈ F1 ++ F2,b ∈ F ∨ w.heap.size ≤ b := by
 refine ⟨_,Try.func59,fun w μ F G vals himm hb hnd => ?_⟩
 unfold pieceG at h
 split at h
 ·rename_i kind node a n old new nil sz xs key boot
  generalize hcn : vcnt kind n xs.length = cnt at h
  obtain ⟨hcb,h⟩ := cond_some h
  have hcb : cnt < 2147483648 := of_decide_eq_true hcb
  obtain rfl := Option.some.inj h
  obtain ⟨ws,rfl,c0⟩ := b2s_one hb
  obtain ⟨F0,E0,G0,H0,v0,ws0,rfl,rfl,rfl,d0,c1⟩ := b1s_cons c0
  obtain ⟨rfl,rfl,rfl⟩ := b1_v d0
  obtain ⟨F1,E1,G1,H1,v1,ws1,rfl,rfl,rfl,d1,c2⟩ := b1s_cons c1
  obtain ⟨rfl,rfl,rfl⟩ := b1_v d1
  obtain ⟨F2,E2,G2,H2,v2,ws2,rfl,rfl,rfl,d2,c3⟩ := b1s_cons c2
  obtain ⟨rfl,rfl,rfl⟩ := b1_v d2
  obtain ⟨F3,E3,G3,H3,v3,ws3,rfl,rfl,rfl,d3,c4⟩ := b1s_cons c3
  obtain ⟨rfl,rfl,rfl⟩ := b1_v d3
  obtain ⟨F4,E4,G4,H4,v4,ws4,rfl,rfl,rfl,d4,c5⟩ := b1s_cons c4
  obtain ⟨rfl,rfl,rfl⟩ := b1_v d4
  obtain ⟨F5,E5,G5,H5,v5,ws5,rfl,rfl,rfl,d5,c6⟩ := b1s_cons c5
  obtain ⟨rfl,rfl,rfl⟩ := b1_v d5
  obtain ⟨F6,E6,G6,H6,v6,ws6,rfl,rfl,rfl,d6,c7⟩ := b1s_cons c6
  obtain ⟨rfl,rfl,A,c,rfl⟩ := b1_lst d6
  obtain ⟨F7,E7,G7,H7,v7,ws7,rfl,rfl,rfl,d7,c8⟩ := b1s_cons c7
  obtain ⟨rfl,rfl,rfl⟩ := b1_v d7
  obtain ⟨F8,E8,G8,H8,v8,ws8,rfl,rfl,rfl,d8,c9⟩ := b1s_cons c8
  obtain ⟨rfl,rfl,rfl⟩ := b1_v d8
  obtain ⟨rfl,rfl,rfl⟩ := b1s_nil c9
  refine (callsIn_wide.1 (Pieces_in Fence.wide 6 trivial trivial trivial trivial rfl (Nat.le_refl _) kind node a n old new key boot A xs.length c w (by rw [hcn]; exact hcb))).mono ?_
  rw [hcn]
  rintro e w' ⟨v,rfl,hrow,hnil,hbel⟩
  have hfrm : Frm ⟨w,(· ∈ ([] : List Nat)),μ⟩ μ w' := ⟨hbel.os,hbel.tape,hbel.output,hbel.size,fun b hb _ => hbel.block b hb,MuLe.refl μ,fun b o h => .inl h⟩
  have himm' : ∀ b o,μ b = some o → w'.heap[b]? = some o := fun b o hbo => by
   have h0 := himm b o hbo
   rw [hbel.block b (Array.getElem?_eq_some_iff.1 h0).1]; exact h0
  by_cases hp : pcs a cnt = []
  ·obtain rfl := hnil.2 hp
   refine ⟨[pieceA (pcs a cnt)],[],[.slice none 0 0],μ,[],[],[],rfl,rfl,rfl,hfrm,himm',?_,.nil,List.nodup_nil,by simp⟩
   rw [hp]
   exact .cons (F := []) (F' := []) (G := []) (G' := []) (.o (.c .own)) .nil
  ·rcases hrow.2 with ⟨rfl,_⟩ | ⟨g,cap,cur,rfl,hg,hgb,hc1,hc2,hc3,hc4⟩
   ·exact absurd (hnil.1 rfl) hp
   ·refine ⟨[pieceA (pcs a cnt)],[],[_],μ,[g],[],[],rfl,rfl,rfl,hfrm,himm',?_,.nil,by simp,fun b hb => .inr (by simp at hb; omega)⟩
    have he : (pcs a cnt).isEmpty = false := by cases hh : pcs a cnt with
     | nil => exact absurd hh hp
     | cons _ _ => rfl
    unfold pieceA
    rw [he]
    have hb0 : B0 μ (hf w') [g] (.ow false 106 2 ((pcs a cnt).map fun x => [AV.v (.int .i64 x.1),AV.v (.int .i64 x.2)])) (.slice (some ⟨g,0,none⟩) ((pcs a cnt).map fun x => [AV.v (.int .i64 x.1),AV.v (.int .i64 x.2)]).length cap) := by
     refine .ow ⟨(0,0),hgb,.inl rfl⟩ ?_ (by rw [List.length_map]; exact hc1) hc3.symm (piece_row hc4)
     cases hm : μ g with
     | none => rfl
     | some o =>
      have := (Array.getElem?_eq_some_iff.1 (himm g o hm)).1
      omega
    rw [List.length_map] at hb0
    exact .cons (F := [g]) (F' := []) (G := []) (G' := []) (.o (.c hb0)) .nil
 ·cases h
end Go.Proofs.Ytnjccbnlmdajkaa
namespace Go.Proofs.Ytnjccbnlmdajkaa
open Go.Ev
def rwF : FuncId → List Bool
 | 36 => [true] | 39 => [true,true] | 58 => [true] | 60 => [false,false,true] | 74 => [true] | 75 => [true] | 76 => [true] | _ => []
def extF : FuncId → Option (List AV → Option (List AV))
 | 59 => some pieceG
 | _ => none
def cfg0 : Cfg := { rw := rwF,dat := fun _ => false,inl := fun f => Nat.beq f 58,roll := fun _ => 8,join := fun _ => false,cl := fun f => Nat.beq f 56 || Nat.beq f 68 }
def cfg : Cfg := { cfg0 with ext := extF }
noncomputable def ev (f : FuncId) (args : List AV) : Option (List AV) := evL Try.prog cfg f args
noncomputable def lp (f k nr : Nat) (s : St) : Option LR := lpL Try.prog cfg f k nr s
theorem ev_eq (f : FuncId) (args : List AV) : ev f args = evTop cfg f args (evBodyG Try.prog cfg (evL Try.prog cfg) (inlD Try.prog cfg (evL Try.prog cfg) 5) (loopL Try.prog cfg f) f args) := evL_eq f args
theorem lp_eq (f k nr:Nat) (s : St) : lp f k nr s = evRound Try.prog cfg (evL Try.prog cfg) (inlD Try.prog cfg (evL Try.prog cfg) 5) (loopL Try.prog cfg f) (cfg.roll f) (cfg.join f) (loopAt Try.prog f k).1 (loopAt Try.prog f k).2 (retAt Try.prog cfg f nr) s := loopL_eq f _ _ _ s
theorem ev31 (a0_0:Int) : ev 31 [.v (.int .i64 a0_0)] =
 cond (ltI a0_0 1) (some [.v (.pointer none),.v (.int .i64 2)]) (cond (ltI 256 a0_0) (some [.v (.pointer none),.v (.int .i64 2)]) (cond ((((leI 0 (IntKind.wrap .i64 (a0_0 * 8)))&&(leI (IntKind.wrap .i64 (a0_0 * 8)) (IntKind.wrap .i64 (a0_0 * 8))))&&(leI ((IntKind.wrap .i64 (a0_0 * 8)) * 8) 281474976710656))&&(leI (IntKind.wrap .i64 (a0_0 * 8)) 281474976710656)) (some [.ob 69 [.ow false 47 1 (List.replicate (Int.toNat (IntKind.wrap .i64 (a0_0 * 8))) ([.v (.int .u64 0)] : List AV)),.v (.bool false)],.v (.int .i64 0)])  none)) := (ev_eq _ _).trans (by kernel_rfl)
theorem ev51 (a0_0:Int) (a1_0:Int) (a2_0:Int) : ev 51 [.v (.int .i64 a0_0),.v (.int .i64 a1_0),.v (.int .i64 a2_0)] =
 cond (ltI a0_0 0) (some [.v (.pointer none),.v (.int .i64 1)]) (cond (leI 6 a0_0) (some [.v (.pointer none),.v (.int .i64 1)]) (cond (ltI a1_0 0) (some [.v (.pointer none),.v (.int .i64 2)]) (cond (ltI 59 a1_0) (some [.v (.pointer none),.v (.int .i64 2)]) (cond (ltI a2_0 0) (some [.v (.pointer none),.v (.int .i64 2)]) (cond (leI 5 a2_0) (some [.v (.pointer none),.v (.int .i64 2)]) (some [.ob 99 [.v (.int .i64 a0_0),.v (.int .i64 a1_0),.v (.int .i64 a2_0),.ow true 50 9 [],.v (.int .i64 0),.ow true 47 1 []],.v (.int .i64 0)])))))) := (ev_eq _ _).trans (by kernel_rfl)
end Go.Proofs.Ytnjccbnlmdajkaa
namespace Go.Proofs.Ytnjccbnlmdajkaa
open Go.Ev
attribute [local congr] bind_first cond_first
def i64ok (a : Int) : Prop := -9223372036854775808 ≤ a∧a ≤ 9223372036854775807
theorem mix : Try.prog.follows .mixedOrders = true := by kernel_rfl
theorem extOk : ExtS Try.prog cfg := by
 refine ⟨fun f bs rs e => ?_,prS_none fun _ => rfl,fun f g e => by cases e⟩
 by_cases h : f = 59
 ·subst h
  exact pieceS bs rs e
 ·have hf : cfg.ext f = none := by
   show extF f = none
   unfold extF
   split
   ·exact absurd rfl h
   ·rfl
  simp only [evTop,hf] at e
  cases e
def wr (w : Int) : List AV := [.v (.int .u64 w)]
theorem wr_eq (w : Int) : wr w = [.v (.int .u64 w)] := rfl
theorem all_wr (ws : List Int) : (ws.map wr).all rowV = true := by
 simp only [List.all_eq_true,List.mem_map]
 rintro _ ⟨w,_,rfl⟩; rfl
theorem get_wr (ws : List Int) (i : Nat) (h : i < ws.length) : lget (ws.map wr) i = wr (ws.getD i 0) := lget_mapD wr ws 0 i h
theorem set_wr (ws : List Int) (i : Nat) (w : Int) : (ws.map wr).set i [.v (.int .u64 w)] = (ws.set i w).map wr := by rw [List.map_set,wr_eq]
def splice (xs : List Int) (n : Nat) (ys : List Int) : List Int := xs.take n ++ ys ++ xs.drop (n + ys.length)
theorem splice_len (xs : List Int) (n : Nat) (ys : List Int) (h : n + ys.length ≤ xs.length) : (splice xs n ys).length = xs.length := by
 unfold splice
 simp only [List.length_append,List.length_take,List.length_drop]; omega
def acc (n : Nat) (up : Bool) (a c : Int) : Int := if c < 1 ∨ a < 0 ∨ (n : Int) ≤ a ∨ (n : Int) - a < c then 2 else if up then 0 else 4
theorem acc_ok {n : Nat} {up : Bool} {a c : Int} (h1 : 1 ≤ c) (h2 : 0 ≤ a) (h3 : a + c ≤ n) : acc n up a c = if up then 0 else 4 := by
 unfold acc; rw [if_neg (by omega)]
theorem acc_bad {n : Nat} {up : Bool} {a c : Int} (h : ¬ (1 ≤ c∧0 ≤ a∧a + c ≤ n)) : acc n up a c = 2 := by
 unfold acc; rw [if_pos (by omega)]
theorem acc_zero {n : Nat} {up : Bool} {a c : Int} : acc n up a c = 0 ↔ (1 ≤ c∧0 ≤ a∧a + c ≤ n∧up = true) := by
 unfold acc
 split
 ·exact ⟨fun h => (by simp at h),fun h => by omega⟩
 ·cases up with
  | true => exact ⟨fun _ => (by simp; omega),fun _ => rfl⟩
  | false => exact ⟨fun h => (by simp at h),fun h => (by simp at h)⟩
abbrev ndO (ws : List Int) (dn : Bool) : AV := .ob 69 [.ow false 47 1 (ws.map wr),.v (.bool dn)]
abbrev ndP (ws : List Int) (dn : Bool) : AV := .ep [.lst false 1 (ws.map wr),.v (.bool dn)] 0
theorem s_New (n : Int) (h : 1 ≤ n∧n ≤ 256) : ev 31 [.v (.int .i64 n)] = some [ndO (List.replicate (8 * n.toNat) 0) false,.v (.int .i64 0)] := by
 have e : IntKind.i64.wrap (n * 8) = n * 8 := by rw [w_i64]; omega
 rw [ev31,ltI_f (by omega),ltI_f (by omega),e,leI_t (show 0 ≤ n * 8 by omega),leI_t (Int.le_refl _),leI_t (show n * 8 * 8 ≤ 281474976710656 by omega),leI_t (show n * 8 ≤ 281474976710656 by omega),show (n * 8).toNat = 8 * n.toNat by omega]
 show some [AV.ob _ [AV.ow false _ 1 (List.replicate (8 * n.toNat) (wr 0)),_],_] = _
 rw [← List.map_replicate]
end Go.Proofs.Ytnjccbnlmdajkaa
