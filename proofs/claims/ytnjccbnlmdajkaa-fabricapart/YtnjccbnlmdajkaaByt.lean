/- Encodings: the bytes. -/
import Derived.Test.YtnjccbnlmdajkaaTab2
import Derived.Test.YtnjccbnlmdajkaaEqD
import Derived.Test.YtnjccbnlmdajkaaVld
import Derived.Test.YtnjccbnlmdajkaaFbP5
import Derived.Test.YtnjccbnlmdajkaaEncW
import Derived.Test.YtnjccbnlmdajkaaStpW
set_option linter.all false
namespace Go.Proofs.Ytnjccbnlmdajkaa.B
open Go.Ev Go.RowKit
attribute [local congr] bind_first cond_first
set_option maxRecDepth 10000
def byI : Nat → Int → List Nat
 | 0,_ => []
 | k + 1,w => (w % 256).toNat :: byI k (Int.fdiv w 256)
def lit (w : Int) : List Nat := byI 8 w
def bod (ws : List Int) : List Nat := ws.flatMap lit
theorem byI_lt : ∀ (k : Nat) (w : Int),∀ x ∈ byI k w,x < 256
 | 0,_,x,h => by cases h
 | k + 1,w,x,h => by
  rcases List.mem_cons.1 h with rfl | h
  ·omega
  ·exact byI_lt k _ x h
theorem lit_len (w : Int) : (lit w).length = 8 := rfl
theorem bod_len : ∀ ws : List Int,(bod ws).length = 8 * ws.length
 | [] => rfl
 | w :: ws => by
  have := bod_len ws
  unfold bod at *
  rw [List.flatMap_cons,List.length_append,this,lit_len,List.length_cons]; omega
theorem bod_snoc (ws : List Int) (w : Int) : bod (ws ++ [w]) = bod ws ++ lit w := by unfold bod; rw [List.flatMap_append]; simp
theorem bod_lt (ws : List Int) : ∀ x ∈ bod ws,x < 256 := fun x hx => by
 unfold bod at hx
 obtain ⟨w,_,hw⟩ := List.mem_flatMap.1 hx
 exact byI_lt _ _ x hw
theorem take_succD (ws : List Int) (i : Nat) (h : i < ws.length) : ws.take (i + 1) = ws.take i ++ [ws.getD i 0] := by
 rw [List.take_succ_eq_append_getElem h]; simp [h]
theorem all_bts (l : List Nat) : (bts l).all Ev.isByte = true := by
 unfold bts
 simp only [List.all_map,List.all_eq_true]
 exact fun _ _ => rfl
theorem bts_app (a b : List Nat) : bts a ++ bts b = bts (a ++ b) := by unfold bts; rw [List.map_append]
def big : Nat := 10000000000
theorem u8m (n : Int) : IntKind.u8.wrap n = (((n % 256).toNat : Nat) : Int) := by rw [w_u8]; omega
theorem s_app62 (b : Bool) (l : List Nat) (w : Int) (hl : l.length ≤ big) : ev 62 [.ow b 5 1 (bts l),.v (.int .u64 w)] = some [.ow false 5 1 (bts (l ++ lit w))] := by
 unfold big at hl
 have h : ∀ j : Nat,j ≤ 9 → leN ((l.length + j) * 1) 140737488355328 = true := fun j hj => leN_t (by omega)
 rw [ev62]
 simp only [u8m,List.length_append,List.length_cons,List.length_nil,bts_len,Nat.zero_add,Nat.add_assoc,Nat.reduceAdd]
 rw [h 1 (by omega),h 2 (by omega),h 3 (by omega),h 4 (by omega),h 5 (by omega),h 6 (by omega),h 7 (by omega),h 8 (by omega)]
 simp only [cond_true,List.append_assoc]
 unfold bts
 rw [List.map_append]
 rfl
theorem s_app63 (b : Bool) (l : List Nat) (w : Int) (hl : l.length ≤ big) : ev 63 [.ow b 5 1 (bts l),.v (.int .u64 w)] = some [.ow false 5 1 (bts (l ++ lit w))] := by
 unfold big at hl
 have h : ∀ j : Nat,j ≤ 9 → leN ((l.length + j) * 1) 140737488355328 = true := fun j hj => leN_t (by omega)
 rw [ev63]
 simp only [u8m,List.length_append,List.length_cons,List.length_nil,bts_len,Nat.zero_add,Nat.add_assoc,Nat.reduceAdd]
 rw [h 1 (by omega),h 2 (by omega),h 3 (by omega),h 4 (by omega),h 5 (by omega),h 6 (by omega),h 7 (by omega),h 8 (by omega)]
 simp only [cond_true,List.append_assoc]
 unfold bts
 rw [List.map_append]
 rfl
theorem s_app78 (b : Bool) (l : List Nat) (w : Int) (hl : l.length ≤ big) : ev 78 [.ow b 5 1 (bts l),.v (.int .u64 w)] = some [.ow false 5 1 (bts (l ++ lit w))] := by
 unfold big at hl
 have h : ∀ j : Nat,j ≤ 9 → leN ((l.length + j) * 1) 140737488355328 = true := fun j hj => leN_t (by omega)
 rw [ev78]
 simp only [u8m,List.length_append,List.length_cons,List.length_nil,bts_len,Nat.zero_add,Nat.add_assoc,Nat.reduceAdd]
 rw [h 1 (by omega),h 2 (by omega),h 3 (by omega),h 4 (by omega),h 5 (by omega),h 6 (by omega),h 7 (by omega),h 8 (by omega)]
 simp only [cond_true,List.append_assoc]
 unfold bts
 rw [List.map_append]
 rfl
theorem s_app78z (w : Int) : ev 78 [.lst true 1 [],.v (.int .u64 w)] = some [.ow false 5 1 (bts (lit w))] := by
 rw [ev78z]
 simp only [u8m]
 rfl
theorem s_num (b : Bool) (l : List Nat) (n : Int) (hl : l.length ≤ big) : ev 46 [.ow b 5 1 (bts l),.v (.int .i64 n)] = some [.ow false 5 1 (bts (l ++ lit (IntKind.u64.wrap n)))] := by
 rw [ev46]
 exact bnd (s_app62 b l _ hl) (cT rfl rfl)
theorem s_bool (b : Bool) (l : List Nat) (x : Bool) (hl : l.length ≤ big) : ev 65 [.ow b 5 1 (bts l),.v (.bool x)] = some [.ow false 5 1 (bts (l ++ [if x then 1 else 0]))] := by
 unfold big at hl
 have h : leN (((bts l).length + 1) * 1) 140737488355328 = true := by rw [bts_len]; exact leN_t (by omega)
 rw [ev65]
 cases x with
 | true => exact cT rfl (cT h (by rw [← bts_app]; rfl))
 | false => exact cF rfl (cT h (by rw [← bts_app]; rfl))
theorem s_bytes (b c : Bool) (l m : List Nat) (hl : l.length + m.length + 8 ≤ big) : ev 47 [.ow b 5 1 (bts l),.lst c 1 (bts m)] = some [.ow false 5 1 (bts (l ++ lit (IntKind.u64.wrap (m.length : Nat)) ++ m))] := by
 have a := s_num b l (((bts m).length : Nat) : Int) (by unfold big at *; omega)
 unfold big at hl
 rw [ev47]
 refine bnd a (cT rfl ?_)
 have h : leN (((bts (l ++ lit (IntKind.u64.wrap ((bts m).length : Nat)))).length + (bts m).length) * 1) 140737488355328 = true := leN_t (by rw [bts_len,bts_len,List.length_append,lit_len]; omega)
 refine cT h ?_
 show some [AV.ow ((bts m).isEmpty && false) 5 1 (bts (l ++ lit (IntKind.u64.wrap ((bts m).length : Nat))) ++ bts m)] = _
 rw [Bool.and_false,bts_app,bts_len]
theorem l_apps (n : Bool) (ws : List Int) (l : List Nat) (hl : l.length + 8 * ws.length ≤ big) : ∀ (k i : Nat),i + k = ws.length →
  lp 66 0 0 ⟨[(0,(.sl false 0 0 none)),(12,(.lst n 1 (ws.map wr))),(13,(.v (.int .i64 (((ws.map wr).length : Nat) : Int)))),(14,(.v (.int .i64 (i : Int))))],[⟨1,5,1,false,bts (l ++ bod (ws.take i))⟩]⟩ =
   some ⟨some 0,⟨[(0,(.sl false 0 0 none))],[⟨1,5,1,false,bts (l ++ bod ws)⟩]⟩,[]⟩
 | 0,i,hi => by
  rw [lp66_0,List.length_map,ltI_f (by omega),List.take_of_length_le (by omega)]; rfl
 | k + 1,i,hi => by
  have ih := l_apps n ws l hl k (i + 1) (by omega)
  have hlt : i < ws.length := by omega
  unfold big at hl
  have e1 : IntKind.i64.wrap ((i : Int) + 1) = ((i + 1 : Nat) : Int) := by rw [w_i64]; omega
  have a := s_app78 false (l ++ bod (ws.take i)) (ws.getD i 0) (by unfold big; rw [List.length_append,bod_len,List.length_take]; omega)
  rw [List.append_assoc,← bod_snoc,← take_succD ws i hlt] at a
  rw [lp66_0,List.length_map,ltI_t (by omega),leI_t (by omega),Int.toNat_natCast,get_wr ws i hlt,e1]
  rw [List.length_map] at ih
  exact cT rfl (cT rfl (bnd a (cT rfl ih)))
theorem s_apps (b n : Bool) (ws : List Int) (l : List Nat) (hl : l.length + 8 * ws.length + 8 ≤ big) : ev 66 [.ow b 5 1 (bts l),.lst n 1 (ws.map wr)] = some [.ow false 5 1 (bts (l ++ lit ((ws.length : Nat) : Int) ++ bod ws))] := by
 have hb := hl
 unfold big at hb
 have e : IntKind.u64.wrap (((ws.map wr).length : Nat) : Int) = ((ws.length : Nat) : Int) := by rw [List.length_map,w_u64]; omega
 have a := s_app78 b l ((ws.length : Nat) : Int) (by unfold big; omega)
 have hl2 := l_apps n ws (l ++ lit ((ws.length : Nat) : Int)) (by rw [List.length_append,lit_len]; omega) ws.length 0 (by omega)
 rw [List.take_zero,show bod [] = [] from rfl,List.append_nil] at hl2
 rw [ev66,e]
 exact bnd a (cT rfl (bnd hl2 (cT rfl (cT rfl rfl))))
theorem s_appsz (n : Bool) (ws : List Int) (hl : 8 * ws.length + 8 ≤ big) : ev 66 [.lst true 1 [],.lst n 1 (ws.map wr)] = some [.ow false 5 1 (bts (lit ((ws.length : Nat) : Int) ++ bod ws))] := by
 have hb := hl
 unfold big at hb
 have e : IntKind.u64.wrap (((ws.map wr).length : Nat) : Int) = ((ws.length : Nat) : Int) := by rw [List.length_map,w_u64]; omega
 have a := s_app78z ((ws.length : Nat) : Int)
 have hl2 := l_apps n ws (lit ((ws.length : Nat) : Int)) (by rw [lit_len]; omega) ws.length 0 (by omega)
 rw [List.take_zero,show bod [] = [] from rfl,List.append_nil] at hl2
 rw [ev66z,e]
 exact bnd a (cT rfl (bnd hl2 (cT rfl (cT rfl rfl))))
def encE (c inc node ex : Int) : List Nat :=
 lit 5 ++ bod [IntKind.u64.wrap c,IntKind.u64.wrap inc,IntKind.u64.wrap node,IntKind.u64.wrap ex,0] ++ lit 0 ++ bod []
theorem s_EncE (c inc node ex : Int) (qn wn : Bool) : ev 50 [.ep [.v (.int .i64 c),.v (.int .i64 inc),.v (.int .i64 node),.lst qn 9 [],.v (.int .i64 ex),.lst wn 1 []] 0] = some [.ow false 5 1 (bts (encE c inc node ex))] := by
 have a := s_appsz false [IntKind.u64.wrap c,IntKind.u64.wrap inc,IntKind.u64.wrap node,IntKind.u64.wrap ex,0] (by show 8 * 5 + 8 ≤ 10000000000; omega)
 have b := s_apps false wn [] (lit 5 ++ bod [IntKind.u64.wrap c,IntKind.u64.wrap inc,IntKind.u64.wrap node,IntKind.u64.wrap ex,0]) (by rw [List.length_append,lit_len,bod_len]; show 8 + 8 * 5 + 8 * 0 + 8 ≤ 10000000000; omega)
 rw [ev50]
 have e0 : IntKind.u64.wrap (((([] : List (List AV)).length : Nat)) : Int) = 0 := by rw [w_u64]; rfl
 rw [e0]
 refine bnd a (cT rfl ?_)
 refine bnd (a := ⟨some 0,⟨[(0,(.ep [.v (.int .i64 c),.v (.int .i64 inc),.v (.int .i64 node),.lst qn 9 [],.v (.int .i64 ex),.lst wn 1 []] 0)),(3,(.sl false 0 0 none))],[⟨1,5,1,false,bts (lit ((5 : Nat) : Int) ++ bod [IntKind.u64.wrap c,IntKind.u64.wrap inc,IntKind.u64.wrap node,IntKind.u64.wrap ex,0])⟩]⟩,[]⟩) ((lp50_0 ..).trans (cF rfl rfl)) ?_
 refine cT rfl (cT rfl (bnd b (cT rfl rfl)))
end Go.Proofs.Ytnjccbnlmdajkaa.B
namespace Go.Proofs.Ytnjccbnlmdajkaa.B
open Go.Ev Go.RowKit
attribute [local congr] bind_first cond_first
set_option maxRecDepth 10000
theorem s_Lines (b : Bool) (xs : List (List AV)) (dn : Bool) (h : xs.length ≤ 100000) : ev 10 [.ep [.lst b 1 xs,.v (.bool dn)] 0] = some [.v (.int .i64 (xs.length / 8 : Nat))] := by
 have e : IntKind.i64.wrap (Int.tdiv (xs.length : Int) 8) = ((xs.length / 8 : Nat) : Int) := by rw [tdiv_pos _ _ (by omega),w_i64]; omega
 rw [ev10,e]
def hdr (n : Nat) (up : Bool) : List Nat := [77,69,77,49,n % 256,n / 256 % 256,bif up then 1 else 0]
theorem hdr_lt (n : Nat) (up : Bool) : ∀ x ∈ hdr n up,x < 256 := by
 intro x hx
 unfold hdr at hx
 simp only [List.mem_cons,List.not_mem_nil,or_false] at hx
 cases up <;> simp only [cond_true,cond_false] at hx <;> omega
def pre (ws : List Int) (up : Bool) : List Nat := hdr (ws.length / 8) up ++ bod ws
def img (ws : List Int) (up : Bool) : List Nat := pre ws up ++ lit ((crcX 0 (pre ws up) : Nat) : Int)
theorem pre_lt (ws : List Int) (up : Bool) : ∀ x ∈ pre ws up,x < 256 := fun x hx => by
 rcases List.mem_append.1 hx with h | h
 ·exact hdr_lt _ _ x h
 ·exact bod_lt _ x h
theorem pre_len (ws : List Int) (up : Bool) : (pre ws up).length = 7 + 8 * ws.length := by
 unfold pre; rw [List.length_append,bod_len]; rfl
theorem img_len (ws : List Int) (up : Bool) : (img ws up).length = 15 + 8 * ws.length := by
 unfold img; rw [List.length_append,pre_len,lit_len]; omega
theorem l_Image (b : Bool) (ws : List Int) (l : List Nat) (hl : ws.length ≤ 100000) (hk : l.length ≤ 100) : ∀ (k i : Nat),i + k = ws.length →
  lp 48 0 0 ⟨[(3,(.sl false 0 0 none)),(26,(.lst b 1 (ws.map wr))),(27,(.v (.int .i64 (((ws.map wr).length : Nat) : Int)))),(28,(.v (.int .i64 (i : Int))))],[⟨1,5,1,false,bts (l ++ bod (ws.take i))⟩]⟩ =
   some ⟨some 0,⟨[(3,(.sl false 0 0 none))],[⟨1,5,1,false,bts (l ++ bod ws)⟩]⟩,[]⟩
 | 0,i,hi => by
  rw [lp48_0,List.length_map,ltI_f (by omega),List.take_of_length_le (by omega)]; rfl
 | k + 1,i,hi => by
  have ih := l_Image b ws l hl hk k (i + 1) (by omega)
  have hlt : i < ws.length := by omega
  have e1 : IntKind.i64.wrap ((i : Int) + 1) = ((i + 1 : Nat) : Int) := by rw [w_i64]; omega
  have a := s_app63 false (l ++ bod (ws.take i)) (ws.getD i 0) (by unfold big; rw [List.length_append,bod_len,List.length_take]; omega)
  rw [List.append_assoc,← bod_snoc,← take_succD ws i hlt] at a
  rw [lp48_0,List.length_map,ltI_t (by omega),leI_t (by omega),Int.toNat_natCast,get_wr ws i hlt,e1]
  rw [List.length_map] at ih
  exact cT rfl (cT rfl (bnd a (cT rfl ih)))
theorem s_Image (ws : List Int) (dn : Bool) (hl : ws.length ≤ 100000) : ev 48 [ndP ws dn] = some [.ow false 5 1 (bts (img ws (!dn)))] := by
 have a := s_Lines false (ws.map wr) dn (by rw [List.length_map]; exact hl)
 rw [List.length_map] at a
 have e1 : IntKind.u8.wrap ((ws.length / 8 : Nat) : Int) = ((ws.length / 8 % 256 : Nat) : Int) := by rw [w_u8]; rfl
 have e2 : Int.fdiv ((ws.length / 8 : Nat) : Int) 256 = ((ws.length / 8 / 256 : Nat) : Int) := fdiv_nat _ 256
 have e3 : IntKind.u8.wrap ((ws.length / 8 / 256 : Nat) : Int) = ((ws.length / 8 / 256 % 256 : Nat) : Int) := by rw [w_u8]; rfl
 have hb0 : ∀ up : Bool,bts (hdr (ws.length / 8) up ++ bod (ws.take 0)) = [[.v (.int .u8 77)],[.v (.int .u8 69)],[.v (.int .u8 77)],[.v (.int .u8 49)],[.v (.int .u8 ((ws.length / 8 % 256 : Nat) : Int))],[.v (.int .u8 ((ws.length / 8 / 256 % 256 : Nat) : Int))],[.v (.int .u8 (bif up then 1 else 0))]] := fun up => by cases up <;> rfl
 have fin : ∀ up : Bool,ev 64 [.lst false 1 (bts (pre ws up))] = some [.v (.int .u64 (crcX 0 (pre ws up) : Nat))] := fun up => s_Bytes false _ (by rw [pre_len]; omega) (pre_lt ws up)
 have fin2 : ∀ up : Bool,ev 63 [.ow false 5 1 (bts (pre ws up)),.v (.int .u64 (crcX 0 (pre ws up) : Nat))] = some [.ow false 5 1 (bts (img ws up))] := fun up => s_app63 false _ _ (by rw [pre_len]; unfold big; omega)
 rw [ev48]
 refine bnd a (cT rfl (bnd a (cT rfl ?_)))
 simp only [cellAt_zero,avInt_v,e1,e2,e3]
 have lp0 : ∀ up : Bool,_ := fun up => l_Image false ws (hdr (ws.length / 8) up) hl (show 7 ≤ 100 by decide) ws.length 0 (by omega)
 cases dn with
 | true =>
  have h := lp0 false
  rw [hb0] at h
  exact cT rfl (bnd h (cT rfl (cT rfl (bnd (fin false) (cT rfl (bnd (fin2 false) (cT rfl rfl)))))))
 | false =>
  have h := lp0 true
  rw [hb0] at h
  exact cF rfl (bnd h (cT rfl (cT rfl (bnd (fin true) (cT rfl (bnd (fin2 true) (cT rfl rfl)))))))
theorem s_SameB (a b : Bool) (l : List Nat) : ev 29 [.lst a 1 (bts l),.lst b 1 (bts l)] = some [.v (.bool true)] := by
 rw [ev29]
 refine cT (all_bts l) (cT (all_bts l) ?_)
 rw [beq_self_eq_true]
theorem l_SameW (a b : Bool) (ws : List Int) (hl : ws.length ≤ 100000) : ∀ (k i : Nat),i + k = ws.length → lp 61 0 0 ⟨[(0,(.lst a 1 (ws.map wr))),(1,(.lst b 1 (ws.map wr))),(5,(.v (.int .i64 (i : Int))))],[]⟩ = some ⟨some 0,⟨[],[]⟩,[]⟩
 | 0,i,hi => by rw [lp61_0,List.length_map,ltI_f (by omega)]; rfl
 | k + 1,i,hi => by
  have ih := l_SameW a b ws hl k (i + 1) (by omega)
  have hlt : i < ws.length := by omega
  have e1 : IntKind.i64.wrap ((i : Int) + 1) = ((i + 1 : Nat) : Int) := by rw [w_i64]; omega
  rw [lp61_0,List.length_map,ltI_t (by omega),leI_t (by omega),Int.toNat_natCast,get_wr ws i hlt,e1]
  refine cT rfl (cT rfl (cT rfl (cT rfl (cT rfl (cF ?_ ih)))))
  show (!(ws.getD i 0 == ws.getD i 0)) = false
  rw [beq_self_eq_true]; rfl
theorem s_SameW (a b : Bool) (ws : List Int) (hl : ws.length ≤ 100000) : ev 61 [.lst a 1 (ws.map wr),.lst b 1 (ws.map wr)] = some [.v (.bool true)] := by
 rw [ev61]
 refine cF (by rw [beq_self_eq_true]; rfl) (bnd (l_SameW a b ws hl ws.length 0 (by omega)) (cT rfl (cT rfl rfl)))
theorem s_SameD (d : DnA) (hl : d.w.length ≤ 100000) : ev 45 [.agg d.row,.agg d.row] = some [.v (.bool true)] := by
 unfold DnA.row
 rw [ev45]
 exact cT (beq_self_eq_true _) (bnd (s_SameW d.wn d.wn d.w hl) (cT rfl rfl))
theorem get_dn (ds : List DnA) (i : Nat) {d : DnA} (h : ds[i]? = some d) : lget (ds.map DnA.row) i = d.row := by
 unfold lget
 rw [List.getD_eq_getElem?_getD,List.getElem?_map,h]; rfl
theorem l_SameDs (a b : Bool) (ds : List DnA) (hl : ds.length ≤ 100000) (hw : ∀ d ∈ ds,d.w.length ≤ 100000) : ∀ (k i : Nat),i + k = ds.length → lp 28 0 0 ⟨[(0,(.lst a 2 (ds.map DnA.row))),(1,(.lst b 2 (ds.map DnA.row))),(5,(.v (.int .i64 (i : Int))))],[]⟩ = some ⟨some 0,⟨[],[]⟩,[]⟩
 | 0,i,hi => by rw [lp28_0,List.length_map,ltI_f (by omega)]; rfl
 | k + 1,i,hi => by
  have ih := l_SameDs a b ds hl hw k (i + 1) (by omega)
  have hlt : i < ds.length := by omega
  obtain ⟨d,hd⟩ : ∃ d,ds[i]? = some d := ⟨_,List.getElem?_eq_getElem hlt⟩
  have e1 : IntKind.i64.wrap ((i : Int) + 1) = ((i + 1 : Nat) : Int) := by rw [w_i64]; omega
  have s := s_SameD d (hw d (List.mem_of_getElem? hd))
  rw [lp28_0,List.length_map,ltI_t (by omega),leI_t (by omega),Int.toNat_natCast,get_dn ds i hd,e1]
  exact cT rfl (cT rfl (cT rfl (cT rfl (cT rfl (bnd s (cT rfl (cF rfl ih)))))))
theorem s_SameDs (a b : Bool) (ds : List DnA) (hl : ds.length ≤ 100000) (hw : ∀ d ∈ ds,d.w.length ≤ 100000) : ev 28 [.lst a 2 (ds.map DnA.row),.lst b 2 (ds.map DnA.row)] = some [.v (.bool true)] := by
 rw [ev28]
 refine cF (by rw [beq_self_eq_true]; rfl) (bnd (l_SameDs a b ds hl hw ds.length 0 (by omega)) (cT rfl (cT rfl rfl)))
end Go.Proofs.Ytnjccbnlmdajkaa.B
namespace Go.Proofs.Ytnjccbnlmdajkaa
open Go.RowKit Go.Shelf Go.Lib Go.Ev
set_option maxRecDepth 100000
variable {w0 W : World} {μ : Mu} {I : Ky → Option ItemO} {t fb : Nat} {s : FbC}
theorem f46_at : Try.prog.funcs[46]? = some Try.f46 := by kernel_rfl
theorem f47_at : Try.prog.funcs[47]? = some Try.f47 := by kernel_rfl
theorem f48_at : Try.prog.funcs[48]? = some Try.f48 := by kernel_rfl
theorem f50_at : Try.prog.funcs[50]? = some Try.f50 := by kernel_rfl
theorem f65_at : Try.prog.funcs[65]? = some Try.f65 := by kernel_rfl
theorem flat_bts (l : List Nat) : flatC (.ow false 5 1 (bts l)) = true := by
 show (bts l).all (fun e => e.all flatV) = true
 rw [List.all_eq_true]
 intro e he
 unfold bts at he
 obtain ⟨x,_,rfl⟩ := List.mem_map.1 he
 rfl
def Fr2 (t : Nat) (I I' : Ky → Option ItemO) : Prop := ∀ k : Ky,k ≠ (t,.tmp 40) → k ≠ (t,.tmp 41) → I' k = I k
theorem Fr2.put40 {I I' : Ky → Option ItemO} (h : Fr2 t I I') (x : Option ItemO) : Fr2 t I (put I' (t,.tmp 40) x) := fun k h1 h2 => by rw [put_ne _ _ h1]; exact h k h1 h2
theorem Fr2.put41 {I I' : Ky → Option ItemO} (h : Fr2 t I I') (x : Option ItemO) : Fr2 t I (put I' (t,.tmp 41) x) := fun k h1 h2 => by rw [put_ne _ _ h2]; exact h k h1 h2
def BSt (t : Nat) (w0 : World) (μ : Mu) (I : Ky → Option ItemO) (l : List Nat) (v : Value) (W : World) : Prop :=
 ∃ (μ' : Mu) (I' : Ky → Option ItemO),MuLe μ μ'∧Kst w0 μ' I' W∧Row I' (t,.tmp 40) v 5 1 (bts l)∧Fr2 t I I'
theorem BSt.kept0 {l : List Nat} {v : Value} {W' : World} (h : BSt t w0 μ I l v W) (k : KeptW [] W W') : BSt t w0 μ I l v W' := by
 obtain ⟨μ',I',h1,h2,h3,h4⟩ := h
 exact ⟨μ',I',h1,h2.kept0 k,h3,h4⟩
theorem BSt.drew {l : List Nat} {v : Value} (h : BSt t w0 μ I l v W) : BSt t w0 μ I l v W.drew := h.kept0 ⟨rfl,rfl,rfl,Nat.le_refl _,fun _ _ _ => rfl⟩
theorem bst_num {l : List Nat} {v : Value} (h : BSt t w0 μ I l v W) (n : Int) (hl : l.length ≤ B.big) : Calls Try.prog 46 #[v,.int .i64 n] W fun e w' => ∃ v',e = .returned v'∧BSt t w0 μ I (l ++ B.lit (IntKind.u64.wrap n)) v' w' := by
 obtain ⟨μ',I',h1,h2,h3,h4⟩ := h
 refine (h2.rowcall mix B.extOk h3 (bs := [.v (.int .i64 n)]) (vals := [.int .i64 n]) (fun b => B.s_num b l n hl) f46_at (by kernel_rfl) (b2s_vals [.int .i64 n] fun v hv => by
  simp at hv; subst hv; rfl) (flat_bts _)).mono fun e w' he => ?_
 obtain ⟨b,c,rfl,hK⟩ := he
 exact ⟨_,rfl,μ',_,h1,hK,.inr ⟨b,c,rfl,put_same _ _ _⟩,h4.put40 _⟩
theorem bst_bool {l : List Nat} {v : Value} (h : BSt t w0 μ I l v W) (x : Bool) (hl : l.length ≤ B.big) : Calls Try.prog 65 #[v,.bool x] W fun e w' => ∃ v',e = .returned v'∧BSt t w0 μ I (l ++ [if x then 1 else 0]) v' w' := by
 obtain ⟨μ',I',h1,h2,h3,h4⟩ := h
 refine (h2.rowcall mix B.extOk h3 (bs := [.v (.bool x)]) (vals := [.bool x]) (fun b => B.s_bool b l x hl) f65_at (by kernel_rfl) (b2s_vals [.bool x] fun v hv => by
  simp at hv; subst hv; rfl) (flat_bts _)).mono fun e w' he => ?_
 obtain ⟨b,c,rfl,hK⟩ := he
 exact ⟨_,rfl,μ',_,h1,hK,.inr ⟨b,c,rfl,put_same _ _ _⟩,h4.put40 _⟩
theorem kst_bytes {P : Program} {C : Cfg} (h : Kst w0 μ I W) (hmix : P.follows .mixedOrders = true) (hx : ExtS P C) (k : Ky) {f : FuncId} {bs : List AV} {vals : List Value} {m : List Nat} (hev : evL P C f bs = some [.ow false 5 1 (bts m)]) {fn : Func} (hfn : P.funcs[f]? = some fn) (hB : B2s (hf W) (hf W) [] [] bs vals) :
  Calls P f vals.toArray W fun e w' => ∃ (u : Value) (μ' : Mu) (n : Bool),e = .returned u∧MuLe μ μ'∧Kst w0 μ' (put I k none) w'∧DR μ' (.lst n 1 (bts m)) u := by
 refine (h.lent hmix hx hev hfn hB).mono fun e w' he => ?_
 obtain ⟨vs,μ1,F1,G1,rfl,hK,hk,_,hb,hn⟩ := he
 obtain ⟨u,rfl,hu⟩ := Go.Ev.b2s_one hb
 have hu := b0_flat (μ' := μ) (b2_ow hu) (flat_bts m) fun b hb => h.noMu (hn b hb)
 obtain ⟨y,hK2,hr⟩ := hK.adoptR k hu (fun b hb => by have := hn b hb; have := h.kept.size; omega) fun j x hj b hb hm => by
  have := (h.own hj b hb).2
  have := hn b hm
  omega
 obtain ⟨μ',n,hm,hK3,hd,_⟩ := hK2.rfrz hr
 rw [put_put] at hK3
 exact ⟨u,μ',n,rfl,hm,hK3,hd⟩
theorem pair_bytes (h : Kst w0 μ I W) {k k' : Ky} {pb : Nat} {F : List Nat} {p : Pr} (hk : I k = some (obI pb F 99 (prC p))) (hq : p.q = []) (hw : p.w = []) :
  Calls Try.prog 50 #[ptr pb] W fun e w' => ∃ (u : Value) (μ' : Mu) (n : Bool),e = .returned u∧MuLe μ μ'∧Kst w0 μ' (put I k' none) w'∧DR μ' (.lst n 1 (bts (B.encE p.c p.inc p.node p.ex))) u := by
 have hd : DR (hf W) (.ep ((prC p).map lentA) 0) (ptr pb) := B1.lent h.imm (h.ok k _ hk)
 unfold prC at hd
 rw [hq,hw] at hd
 exact kst_bytes h mix B.extOk k' (vals := [ptr pb]) (B.s_EncE p.c p.inc p.node p.ex p.qn p.wn) f50_at (.cons (F := []) (F' := []) (G := []) (G' := []) (.o (.c (.d hd))) .nil)
theorem node_bytes (h : Kst w0 μ I W) {k k' : Ky} {nb : Nat} {F : List Nat} {a : NdA} (hk : I k = some (obI nb F 69 (ndC a))) (hl : a.ws.length ≤ 100000) :
  Calls Try.prog 48 #[ptr nb] W fun e w' => ∃ (u : Value) (μ' : Mu) (n : Bool),e = .returned u∧MuLe μ μ'∧Kst w0 μ' (put I k' none) w'∧DR μ' (.lst n 1 (bts (B.img a.ws (!a.dn)))) u := by
 have hd : DR (hf W) (.ep ((ndC a).map lentA) 0) (ptr nb) := B1.lent h.imm (h.ok k _ hk)
 exact kst_bytes h mix B.extOk k' (vals := [ptr nb]) (B.s_Image a.ws a.dn hl) f48_at (.cons (F := []) (F' := []) (G := []) (G' := []) (.o (.c (.d hd))) .nil)
def lb (m : List Nat) : List Nat := B.lit (IntKind.u64.wrap (m.length : Nat)) ++ m
theorem lb_len (m : List Nat) : (lb m).length = 8 + m.length := by unfold lb; rw [List.length_append,B.lit_len]
theorem bst_bytes {μ1 : Mu} {I1 : Ky → Option ItemO} {l m : List Nat} {v u : Value} {n : Bool} (hm : MuLe μ μ1) (h2 : Kst w0 μ1 I1 W) (h3 : Row I1 (t,.tmp 40) v 5 1 (bts l)) (h4 : Fr2 t I I1) (hd : DR μ1 (.lst n 1 (bts m)) u) (hl : l.length + m.length + 8 ≤ B.big) :
  Calls Try.prog 47 #[v,u] W fun e w' => ∃ v',e = .returned v'∧BSt t w0 μ I (l ++ lb m) v' w' := by
 refine (h2.rowcall mix B.extOk h3 (bs := [.lst n 1 (bts m)]) (vals := [u]) (fun b => B.s_bytes b n l m hl) f47_at (by kernel_rfl) (.cons (F := []) (F' := []) (G := []) (G' := []) (.o (.c (.d hd))) .nil) (flat_bts _)).mono fun e w' he => ?_
 obtain ⟨b,c,rfl,hK⟩ := he
 refine ⟨_,rfl,μ1,_,hm,hK,.inr ⟨b,c,?_,?_⟩,h4.put40 _⟩
 ·unfold lb; rw [List.append_assoc]
 ·unfold lb; rw [put_same,List.append_assoc]
theorem flatMap_len {α : Type} (f : α → List Nat) (N : Nat) : ∀ l : List α,(∀ x ∈ l,(f x).length ≤ N) → (l.flatMap f).length ≤ l.length * N
 | [],_ => by simp
 | x :: l,h => by
  have h1 := h x (by simp)
  have h2 := flatMap_len f N l fun y hy => h y (List.mem_cons_of_mem _ hy)
  rw [List.flatMap_cons,List.length_append,List.length_cons,Nat.succ_mul]
  omega
theorem take_flat {α : Type} (f : α → List Nat) {l : List α} {i : Nat} {x : α} (h : l[i]? = some x) : (l.take (i + 1)).flatMap f = (l.take i).flatMap f ++ f x := by
 obtain ⟨hi,he⟩ := List.getElem?_eq_some_iff.1 h
 rw [List.take_succ_eq_append_getElem hi,List.flatMap_append,he]
 simp
structure LnE (l : LnA) : Prop where
 q : l.p.q = []
 w : l.p.w = []
 pl : l.pl = []
def prE (p : Pr) : List Nat := B.encE p.c p.inc p.node p.ex
theorem prE_len (p : Pr) : (prE p).length = 56 := by
 unfold prE B.encE
 rw [List.length_append,List.length_append,List.length_append,B.lit_len,B.lit_len,B.bod_len,B.bod_len]; rfl
def lnE (l : LnA) : List Nat := lb (prE l.p)
theorem lnE_len (l : LnA) : (lnE l).length = 64 := by unfold lnE; rw [lb_len,prE_len]
def clE (x : ClA) : List Nat := [if x.al then 1 else 0] ++ B.lit (IntKind.u64.wrap x.inc) ++ [0] ++ B.lit (IntKind.u64.wrap 0) ++ x.ln.flatMap lnE
theorem clE_len (x : ClA) : (clE x).length ≤ 18 + x.ln.length * 64 := by
 have := flatMap_len lnE 64 x.ln fun l _ => Nat.le_of_eq (lnE_len l)
 unfold clE
 simp only [List.length_append,B.lit_len,List.length_cons,List.length_nil]
 omega
theorem BSt.alloc {l : List Nat} {v : Value} (h : BSt t w0 μ I l v W) (n : Nat) (hn : n ≠ 40∧n ≠ 41) {cs : List AV} {cur : Array Value} {ty : Nat} (hc : B0s (hf W) (hf W) [] cs cur.toList) (hc2 : ∀ μ' : Mu,B0s μ' (hf W) [] cs cur.toList) :
  BSt t w0 μ (put I (t,.tmp n) (some (obI W.heap.size [W.heap.size] ty cs))) l v (W.alloc (.cells cur ty (0,0))) := by
 obtain ⟨μ',I',h1,h2,h3,h4⟩ := h
 refine ⟨μ',_,h1,h2.alloc (t,.tmp n) (hc2 μ'),h3.put (tmp_ne hn.1.symm),fun k k1 k2 => ?_⟩
 by_cases e : k = (t,.tmp n)
 ·subst e; rw [put_same,put_same]
 ·rw [put_ne _ _ e,put_ne _ _ e]; exact h4 k k1 k2
theorem BSt.drop {l : List Nat} {v : Value} {n : Nat} {x : Option ItemO} (h : BSt t w0 μ (put I (t,.tmp n) x) l v W) (hn : n ≠ 40∧n ≠ 41) (hI : I (t,.tmp n) = none) : BSt t w0 μ I l v W := by
 obtain ⟨μ',I',h1,h2,h3,h4⟩ := h
 refine ⟨μ',_,h1,h2.drop (t,.tmp n),h3.put (tmp_ne hn.1.symm),fun k k1 k2 => ?_⟩
 by_cases e : k = (t,.tmp n)
 ·subst e; rw [put_same,hI]
 ·rw [put_ne _ _ e]
  have := h4 k k1 k2
  rwa [put_ne _ _ e] at this
theorem BSt.cell {l : List Nat} {v : Value} (h : BSt t w0 μ I l v W) {k : Ky} (hk : k ≠ (t,.tmp 40)∧k ≠ (t,.tmp 41)) {b ty : Nat} {F : List Nat} {cs : List AV} (hi : I k = some (obI b F ty cs)) {j : Nat} {x : Value} (hj : cs[j]? = some (.v x)) : W.cell? ⟨b,j,none⟩ = some x := by
 obtain ⟨μ',I',h1,h2,h3,h4⟩ := h
 exact h2.cell ((h4 k hk.1 hk.2).trans hi) hj
theorem BSt.rcell {l : List Nat} {v : Value} (h : BSt t w0 μ I l v W) {k : Ky} (hk : k ≠ (t,.tmp 40)∧k ≠ (t,.tmp 41)) {b c T sz : Nat} {xs : List (List AV)} (hi : I k = some (rowI b c T sz xs)) {i j : Nat} {e : List AV} {x : Value} (he : xs[i]? = some e) (hj : e[j]? = some (.v x)) : W.cell? ⟨b,i * sz + j,none⟩ = some x := by
 obtain ⟨μ',I',h1,h2,h3,h4⟩ := h
 exact h2.rcell ((h4 k hk.1 hk.2).trans hi) he hj
abbrev box74 (n0 : Nat) (al : Bool) (inc : Int) (lv : Value) (wt tr po : Int) : ItemO := obI n0 [n0] 74 ((b74 al inc lv wt tr po).toList.map AV.v)
theorem bst_box {l : List Nat} {v : Value} {n0 : Nat} {al : Bool} {inc wt tr po : Int} {lv : Value} (h : BSt t w0 μ (put I (t,.tmp 42) (some (box74 n0 al inc lv wt tr po))) l v W) : SBx n0 al inc lv W :=
 ⟨h.cell (k := (t,.tmp 42)) ⟨tmp_ne (by omega),tmp_ne (by omega)⟩ (put_same _ _ _) (j := 0) rfl,h.cell (k := (t,.tmp 42)) ⟨tmp_ne (by omega),tmp_ne (by omega)⟩ (put_same _ _ _) (j := 1) rfl,
  h.cell (k := (t,.tmp 42)) ⟨tmp_ne (by omega),tmp_ne (by omega)⟩ (put_same _ _ _) (j := 2) rfl,h.cell (k := (t,.tmp 42)) ⟨tmp_ne (by omega),tmp_ne (by omega)⟩ (put_same _ _ _) (j := 3) rfl⟩
theorem FbR.notmp {J : Ky → Option ItemO} (h : FbR t I fb s) (n : Nat) (x : Option ItemO) (hJ : J = put I (t,.tmp n) x) : FbR t J fb s := by
 subst hJ
 exact h.of fun k hk => put_ne _ _ (key_ne (hk n))
theorem cl_bytes (hI : FbR t I fb s) (h42 : I (t,.tmp 42) = none) (h43 : I (t,.tmp 43) = none) {c : Nat} {x : ClC} (hc : s.cl[c]? = some x) (hba : x.ba = []) (hln : ∀ l ∈ x.ln,LnE l.a) (hl1 : 1 ≤ x.ln.length∧x.ln.length ≤ 1000) {l : List Nat} {v : Value} (h : BSt t w0 μ I l v W) (hl : l.length + 100000 ≤ B.big) :
  Calls Try.prog 49 #[.agg #[.bool x.al,.int .i64 x.inc,x.lv,x.bv,.int .i64 x.wt,.int .i64 x.tr,.int .i64 x.po],v] W fun e w' => ∃ v',e = .returned v'∧BSt t w0 μ I (l ++ clE x.a) v' w' := by
 have hCl := hI.cl c x hc
 obtain ⟨l0,hl0⟩ : ∃ l0,x.ln[0]? = some l0 := ⟨_,List.getElem?_eq_getElem (by omega)⟩
 obtain ⟨bl,ll,hlv,hIl⟩ := Row.at hCl.ls hl0
 rw [hCl.bn hba,hlv]
 unfold B.big at hl
 have hok : ∀ v ∈ (b74 x.al x.inc (.slice (some ⟨bl,0,none⟩) x.ln.length ll) x.wt x.tr x.po).toList,okC (.v v) = true := fun v hv => by
  simp only [List.mem_cons,List.not_mem_nil,or_false] at hv
  rcases hv with rfl | rfl | rfl | rfl | rfl | rfl | rfl <;> rfl
 have hB := h.alloc 42 (by omega) (cs := (b74 x.al x.inc (.slice (some ⟨bl,0,none⟩) x.ln.length ll) x.wt x.tr x.po).toList.map AV.v) (cur := b74 x.al x.inc (.slice (some ⟨bl,0,none⟩) x.ln.length ll) x.wt x.tr x.po) (ty := 74) (b0s_vals _ hok) fun _ => b0s_vals _ hok
 obtain ⟨I1,hI1⟩ : ∃ I1,put I (t,.tmp 42) (some (box74 W.heap.size x.al x.inc (.slice (some ⟨bl,0,none⟩) x.ln.length ll) x.wt x.tr x.po)) = I1 := ⟨_,rfl⟩
 have hbx : ∀ {l : List Nat} {v : Value} {W' : World},BSt t w0 μ I1 l v W' → SBx W.heap.size x.al x.inc (.slice (some ⟨bl,0,none⟩) x.ln.length ll) W' := fun h => by subst hI1; exact bst_box h
 have hR1 : FbR t I1 fb s := hI.notmp 42 _ hI1.symm
 have h431 : I1 (t,.tmp 43) = none := by subst hI1; rw [put_ne _ _ (tmp_ne (by omega))]; exact h43
 rw [show put I (t,.tmp 42) (some (obI W.heap.size [W.heap.size] 74 ((b74 x.al x.inc (.slice (some ⟨bl,0,none⟩) x.ln.length ll) x.wt x.tr x.po).toList.map AV.v))) = I1 from hI1] at hB
 have hH : ∀ i,(l ++ [if x.al then 1 else 0] ++ B.lit (IntKind.u64.wrap x.inc) ++ [0] ++ B.lit (IntKind.u64.wrap 0) ++ (x.a.ln.take i).flatMap lnE).length ≤ l.length + 18 + 64000 := fun i => by
  have h1 := flatMap_len lnE 64 (x.a.ln.take i) fun l _ => Nat.le_of_eq (lnE_len l)
  have h2 : (x.a.ln.take i).length ≤ x.ln.length := by
   rw [List.length_take,show x.a.ln.length = x.ln.length from List.length_map ..]; omega
  simp only [List.length_append,B.lit_len,List.length_cons,List.length_nil]
  have : (x.a.ln.take i).length * 64 ≤ 1000 * 64 := Nat.mul_le_mul_right _ (by omega)
  omega
 refine (encc_walk bl x.ln.length ll x.al x.inc x.wt x.tr x.po v W (fun i v W => BSt t w0 μ I1 (l ++ [if x.al then 1 else 0] ++ B.lit (IntKind.u64.wrap x.inc) ++ [0] ++ B.lit (IntKind.u64.wrap 0) ++ (x.a.ln.take i).flatMap lnE) v W) hl1.2 ?_ ⟨fun i v W' hi hJ => ?_,fun v W' hJ => (hbx hJ).2.2.2⟩).mono fun e w' he => ?_
 ·refine ⟨hbx hB.drew,(bst_bool hB.drew x.al (by unfold B.big; omega)).mono fun e w1 he => ?_⟩
  obtain ⟨v1,rfl,k1⟩ := he
  refine ⟨v1,rfl,hbx k1,(bst_num k1 x.inc (by unfold B.big; simp only [List.length_append,List.length_cons,List.length_nil]; omega)).mono fun e w2 he => ?_⟩
  obtain ⟨v2,rfl,k2⟩ := he
  refine ⟨v2,rfl,hbx k2,hbx k2.drew,(bst_bool k2.drew false (by unfold B.big; simp only [List.length_append,B.lit_len,List.length_cons,List.length_nil]; omega)).mono fun e w3 he => ?_⟩
  obtain ⟨v3,rfl,k3⟩ := he
  refine ⟨v3,rfl,hbx k3,(bst_num k3 0 (by unfold B.big; simp only [List.length_append,B.lit_len,List.length_cons,List.length_nil]; omega)).mono fun e w4 he => ?_⟩
  obtain ⟨v4,rfl,k4⟩ := he
  refine ⟨v4,rfl,hbx k4,fun o => ?_⟩
  have k5 := k4.kept0 (KeptW.alloc w4 o)
  refine ⟨?_,(hbx k5).2.2.1⟩
  rw [List.take_zero,List.flatMap_nil,List.append_nil]
  exact k5
 ·obtain ⟨y,hy⟩ : ∃ y,x.ln[i]? = some y := ⟨_,List.getElem?_eq_getElem hi⟩
  have hya : x.a.ln[i]? = some y.a := get_map hy
  have hE := hln y (List.mem_of_getElem? hy)
  have hCl1 := hR1.cl c x hc
  obtain ⟨F,hp⟩ := hCl1.ps i y hy
  obtain ⟨PA,pc,hpl,_⟩ := (hCl1.pls i y hy).val
  rw [hE.pl] at hpl
  obtain ⟨bl',ll',hlv',hIl'⟩ := Row.at hCl1.ls hy
  rw [hlv] at hlv'
  injection hlv' with e1 e2 e3
  injection e1 with e1
  injection e1 with e1
  subst e1 e3
  have q0 := hJ.rcell (k := (t,.lan c)) ⟨key_ne (fun e => by cases e),key_ne (fun e => by cases e)⟩ hIl' (get_map hy) (j := 0) rfl
  have q1 := hJ.rcell (k := (t,.lan c)) ⟨key_ne (fun e => by cases e),key_ne (fun e => by cases e)⟩ hIl' (get_map hy) (j := 1) rfl
  rw [hpl] at q1
  have hok2 : ∀ v ∈ [Value.pointer (some ⟨y.b,0,none⟩),.slice PA 0 pc],okC (.v v) = true := fun v hv => by
   simp only [List.mem_cons,List.not_mem_nil,or_false] at hv
   rcases hv with rfl | rfl <;> rfl
  have hB2 := hJ.alloc 43 (by omega) (cs := [Value.pointer (some ⟨y.b,0,none⟩),.slice PA 0 pc].map AV.v) (cur := #[.pointer (some ⟨y.b,0,none⟩),.slice PA 0 pc]) (ty := 82) (b0s_vals _ hok2) fun _ => b0s_vals _ hok2
  refine ⟨y.b,pc,PA,q0,q1,hB2.cell (k := (t,.tmp 43)) ⟨tmp_ne (by omega),tmp_ne (by omega)⟩ (put_same _ _ _) (j := 0) rfl,?_⟩
  obtain ⟨μ2,I2,g1,g2,g3,g4⟩ := hB2
  have hp2 : I2 (t,.par c i) = some (obI y.b F 99 (prC y.a.p)) := by
   rw [g4 _ (key_ne fun e => by cases e) (key_ne fun e => by cases e),put_ne _ _ (key_ne fun e => by cases e)]; exact hp
  refine (pair_bytes g2 (k' := (t,.tmp 41)) hp2 hE.q hE.w).mono fun e w1 he => ?_
  obtain ⟨u,μ3,n,rfl,hm,hK,hd⟩ := he
  refine ⟨u,rfl,(bst_bytes (g1.trans hm) hK (g3.put (tmp_ne (by omega))) (g4.put41 _) hd (by
   have := hH i
   rw [show (B.encE y.a.p.c y.a.p.inc y.a.p.node y.a.p.ex).length = 56 from prE_len y.a.p]
   unfold B.big; omega)).mono fun e w2 he => ?_⟩
  obtain ⟨v2,rfl,hB3⟩ := he
  refine ⟨v2,rfl,hB3.cell (k := (t,.tmp 43)) ⟨tmp_ne (by omega),tmp_ne (by omega)⟩ (put_same _ _ _) (j := 1) rfl,?_⟩
  have := hB3.drop (by omega) h431
  rw [take_flat lnE hya,← List.append_assoc]
  exact this
 ·obtain ⟨v',rfl,hJ⟩ := he
  refine ⟨v',rfl,?_⟩
  subst hI1
  have := BSt.drop hJ (by omega) h42
  rw [List.take_of_length_le (by rw [show x.a.ln.length = x.ln.length from List.length_map ..]; exact Nat.le_refl _)] at this
  unfold clE
  simp only [List.append_assoc] at this ⊢
  exact this
end Go.Proofs.Ytnjccbnlmdajkaa
namespace Go.Proofs.Ytnjccbnlmdajkaa
open Go.RowKit Go.Shelf Go.Lib Go.Ev
set_option maxRecDepth 100000
variable {w0 W : World} {μ : Mu} {I : Ky → Option ItemO} {t fb : Nat} {s : FbC}
def ndE (a : NdA) : List Nat := lb (B.img a.ws (!a.dn))
theorem ndE_len (a : NdA) : (ndE a).length = 23 + 8 * a.ws.length := by unfold ndE; rw [lb_len,B.img_len]; omega
def fbH (a : FbA) : List Nat := B.lit (IntKind.u64.wrap a.lines) ++ B.lit (IntKind.u64.wrap (a.nd.length : Nat)) ++ B.lit (IntKind.u64.wrap (a.cl.length : Nat))
theorem fbH_len (a : FbA) : (fbH a).length = 24 := rfl
def fbE (a : FbA) : List Nat := fbH a ++ a.nd.flatMap ndE ++ a.cl.flatMap clE
structure FbZ (a : FbA) : Prop where
 nd : 1 ≤ a.nd.length∧a.nd.length ≤ 10
 ws : ∀ n ∈ a.nd,n.ws.length ≤ 1000
 cl : 1 ≤ a.cl.length∧a.cl.length ≤ 10
 ba : ∀ x ∈ a.cl,x.ba = []∧(∀ l ∈ x.ln,LnE l)∧1 ≤ x.ln.length∧x.ln.length ≤ 10
 os : a.os = []
theorem bst_fab {l : List Nat} {v : Value} (h : BSt t w0 μ I l v W) (hR : FbR t I fb s) : ∃ (μ' : Mu) (I' : Ky → Option ItemO),MuLe μ μ'∧Kst w0 μ' I' W∧FbR t I' fb s∧Row I' (t,.tmp 40) v 5 1 (bts l)∧Fr2 t I I' := by
 obtain ⟨μ',I',h1,h2,h3,h4⟩ := h
 exact ⟨μ',I',h1,h2,hR.of fun k hk => h4 _ (key_ne (hk 40)) (key_ne (hk 41)),h3,h4⟩
theorem encf_ok (hK : Kst w0 μ I W) (hR : FbR t I fb s) (hz : FbZ s.a) :
  Calls Try.prog 30 #[ptr fb] W fun e w' => ∃ (u : Value) (μ' : Mu) (I' : Ky → Option ItemO) (n : Bool),e = .returned u∧MuLe μ μ'∧Kst w0 μ' I' w'∧NoTmp t I I'∧DR μ' (.lst n 1 (bts (fbE s.a))) u := by
 have hnl : s.a.nd.length = s.nd.length := List.length_map ..
 have hcl : s.a.cl.length = s.cl.length := List.length_map ..
 have hol : s.os.length = 0 := by rw [← show s.a.os.length = s.os.length from List.length_map ..,hz.os]; rfl
 obtain ⟨I1,hI1⟩ : ∃ I1,put (put I (t,.tmp 42) none) (t,.tmp 43) none = I1 := ⟨_,rfl⟩
 have hK1 : Kst w0 μ I1 W := by subst hI1; exact (hK.drop _).drop _
 have hR1 : FbR t I1 fb s := by
  subst hI1
  exact hR.of fun k hk => by rw [put_ne _ _ (key_ne (hk 43)),put_ne _ _ (key_ne (hk 42))]
 have hn1 : NoTmp t I I1 := by
  subst hI1
  exact fun k hk => by rw [put_ne _ _ (hk 43),put_ne _ _ (hk 42)]
 have h42 : I1 (t,.tmp 42) = none := by subst hI1; rw [put_ne _ _ (tmp_ne (by omega)),put_same]
 have h43 : I1 (t,.tmp 43) = none := by subst hI1; rw [put_same]
 have hB0 : BSt t w0 μ I1 [] (.slice none 0 0) W := ⟨μ,put I1 (t,.tmp 40) none,MuLe.refl _,hK1.drop _,.inl ⟨rfl,rfl⟩,fun k k1 k2 => put_ne _ _ k1⟩
 obtain ⟨n0,hn0⟩ : ∃ n0,s.nd[0]? = some n0 := ⟨_,List.getElem?_eq_getElem (by have := hz.nd; omega)⟩
 obtain ⟨x0,hx0⟩ : ∃ x0,s.cl[0]? = some x0 := ⟨_,List.getElem?_eq_getElem (by have := hz.cl; omega)⟩
 obtain ⟨bn,cn,hnv,_,_⟩ := hR1.ndAt hK1 hn0
 obtain ⟨bc,cc,hcv,_,_⟩ := hR1.clsAt hK1 hx0
 obtain ⟨OA,oc,hov⟩ := hR1.ovl
 have hSF : ∀ {l : List Nat} {v : Value} {W' : World},BSt t w0 μ I1 l v W' → SFb fb s.lines (.slice (some ⟨bn,0,none⟩) s.nd.length cn) (.slice (some ⟨bc,0,none⟩) s.cl.length cc) W' := fun h => by
  obtain ⟨μ',I',_,g2,g3,_⟩ := bst_fab h hR1
  have q1 := g3.c1 g2
  have q2 := g3.c2 g2
  rw [hnv] at q1
  rw [hcv] at q2
  exact ⟨g3.c0 g2,q1,q2⟩
 have hndL : ∀ i,((s.a.nd.take i).flatMap ndE).length ≤ 10 * 8100 := fun i => by
  have h1 := flatMap_len ndE 8100 (s.a.nd.take i) fun n hn => by rw [ndE_len]; have := hz.ws n (List.mem_of_mem_take hn); omega
  have h2 : (s.a.nd.take i).length ≤ 10 := by rw [List.length_take]; have := hz.nd; omega
  have : (s.a.nd.take i).length * 8100 ≤ 10 * 8100 := Nat.mul_le_mul_right _ h2
  omega
 have hndF : (s.a.nd.flatMap ndE).length ≤ 10 * 8100 := by have := hndL s.a.nd.length; rwa [List.take_of_length_le (Nat.le_refl _)] at this
 have hclL : ∀ i,((s.a.cl.take i).flatMap clE).length ≤ 10 * 1000 := fun i => by
  have h1 := flatMap_len clE 1000 (s.a.cl.take i) fun x hx => by
   have := clE_len x
   have := (hz.ba x (List.mem_of_mem_take hx)).2.2
   omega
  have h2 : (s.a.cl.take i).length ≤ 10 := by rw [List.length_take]; have := hz.cl; omega
  have : (s.a.cl.take i).length * 1000 ≤ 10 * 1000 := Nat.mul_le_mul_right _ h2
  omega
 refine (encf_walk fb bn s.nd.length cn bc s.cl.length cc 0 oc OA s.lines W (fun i v W => BSt t w0 μ I1 (fbH s.a ++ (s.a.nd.take i).flatMap ndE) v W) (fun c v W => BSt t w0 μ I1 (fbH s.a ++ s.a.nd.flatMap ndE ++ (s.a.cl.take c).flatMap clE) v W) (fun _ v W => BSt t w0 μ I1 (fbE s.a) v W)
  (by have := hz.nd; have := hz.cl; omega) ?_ (fun v W' h => (hSF h).2.1) ⟨fun i v W' hi hJ => ?_,fun v W' hJ => ?_,fun c v W' hc hJ => ?_,fun v W' hJ => ?_,fun k v W' hk => absurd hk (Nat.not_lt_zero _)⟩).mono fun e w' he => ?_
 ·refine ⟨hSF hB0.drew,(bst_num hB0.drew s.lines (by decide)).mono fun e w1 he => ?_⟩
  obtain ⟨v1,rfl,k1⟩ := he
  refine ⟨v1,rfl,hSF k1,(bst_num k1 s.nd.length (by unfold B.big; simp only [List.length_append,B.lit_len,List.length_nil]; omega)).mono fun e w2 he => ?_⟩
  obtain ⟨v2,rfl,k2⟩ := he
  refine ⟨v2,rfl,hSF k2,(bst_num k2 s.cl.length (by unfold B.big; simp only [List.length_append,B.lit_len,List.length_nil]; omega)).mono fun e w3 he => ?_⟩
  obtain ⟨v3,rfl,k3⟩ := he
  refine ⟨v3,rfl,hSF k3,?_⟩
  rw [List.take_zero,List.flatMap_nil,List.append_nil]
  unfold fbH
  rw [hnl,hcl]
  exact k3
 ·obtain ⟨n,hn⟩ : ∃ n,s.nd[i]? = some n := ⟨_,List.getElem?_eq_getElem hi⟩
  have hna : s.a.nd[i]? = some n.a := get_map hn
  obtain ⟨μ2,I2,g1,g2,g3,g4,g5⟩ := bst_fab hJ hR1
  obtain ⟨bn',cn',hnv',_,hcell⟩ := g3.ndAt g2 hn
  rw [hnv] at hnv'
  injection hnv' with e1 e2 e3
  injection e1 with e1
  injection e1 with e1
  subst e1
  obtain ⟨F,hno⟩ := g3.nod i n hn
  have hws := hz.ws n.a (List.mem_of_getElem? hna)
  refine ⟨n.b,hcell,(node_bytes g2 (k' := (t,.tmp 41)) hno (by omega)).mono fun e w1 he => ?_⟩
  obtain ⟨u,μ3,b,rfl,hm,hK3,hd⟩ := he
  refine ⟨u,rfl,(bst_bytes (g1.trans hm) hK3 (g4.put (tmp_ne (by omega))) (g5.put41 _) hd (by
   have := hndL i
   rw [List.length_append,fbH_len,B.img_len]
   unfold B.big; omega)).mono fun e w2 he => ?_⟩
  obtain ⟨v2,rfl,hB3⟩ := he
  refine ⟨v2,rfl,?_⟩
  rw [take_flat ndE hna,← List.append_assoc]
  exact hB3
 ·rw [← hnl,List.take_of_length_le (Nat.le_refl _)] at hJ
  refine ⟨?_,(hSF hJ).2.2⟩
  rw [List.take_zero,List.flatMap_nil,List.append_nil]
  exact hJ
 ·obtain ⟨x,hx⟩ : ∃ x,s.cl[c]? = some x := ⟨_,List.getElem?_eq_getElem hc⟩
  have hxa : s.a.cl[c]? = some x.a := get_map hx
  obtain ⟨z1,z2,z3,z4⟩ := hz.ba x.a (List.mem_of_getElem? hxa)
  obtain ⟨μ2,I2,g1,g2,g3,g4,g5⟩ := bst_fab hJ hR1
  obtain ⟨bc',cc',hcv',_,hAt⟩ := g3.clsAt g2 hx
  rw [hcv] at hcv'
  injection hcv' with e1 e2 e3
  injection e1 with e1
  injection e1 with e1
  subst e1
  obtain ⟨LA,lc,hlv,_⟩ := (g3.cl c x hx).ls.val
  have hbv := (g3.cl c x hx).bn z1
  have hJ2 := hJ.kept0 (KeptW.alloc W' (.cells #[.bool x.al,.int .i64 x.inc,x.lv,x.bv,.int .i64 x.wt,.int .i64 x.tr,.int .i64 x.po] 74))
  have ha := Ev.alloc_new W' (.cells #[.bool x.al,.int .i64 x.inc,x.lv,x.bv,.int .i64 x.wt,.int .i64 x.tr,.int .i64 x.po] 74)
  have hcall := cl_bytes hR1 h42 h43 hx z1 (fun l hl => z2 l.a (List.mem_map_of_mem hl)) ⟨by rw [← show x.a.ln.length = x.ln.length from List.length_map ..]; exact z3,by rw [← show x.a.ln.length = x.ln.length from List.length_map ..]; omega⟩ hJ2 (by
   have := hclL c
   simp only [List.length_append,fbH_len]
   unfold B.big; omega)
  have a2 := hAt.lv
  have a3 := hAt.bv
  rw [hlv] at hcall ha a2
  rw [hbv] at hcall ha a3
  refine ⟨x.al,x.inc,x.wt,x.tr,x.po,LA,none,_,lc,0,0,_,hAt.al,hAt.inc,a2,a3,hAt.wt,hAt.tr,hAt.po,rfl,cell_of ha rfl,cell_of ha rfl,cell_of ha rfl,cell_of ha rfl,cell_of ha rfl,cell_of ha rfl,cell_of ha rfl,hcall.mono fun e w2 he => ?_⟩
  obtain ⟨v2,rfl,hB3⟩ := he
  refine ⟨v2,rfl,?_⟩
  rw [take_flat clE hxa,← List.append_assoc]
  exact hB3
 ·rw [← hcl,List.take_of_length_le (Nat.le_refl _)] at hJ
  obtain ⟨μ2,I2,g1,g2,g3,g4,g5⟩ := bst_fab hJ hR1
  have := g3.c3 g2
  rw [hov,hol] at this
  exact ⟨hJ,this⟩
 ·obtain ⟨u,rfl,μ2,I2,g1,g2,g3,g4⟩ := he
  obtain ⟨μ3,n,hm,hK3,hd,_⟩ := g2.rfrz g3
  exact ⟨u,μ3,_,n,rfl,g1.trans hm,hK3,fun k hk => by rw [put_ne _ _ (hk 40),g4 k (hk 40) (hk 41)]; exact hn1 k hk,hd⟩
end Go.Proofs.Ytnjccbnlmdajkaa
namespace Go.Proofs.Ytnjccbnlmdajkaa
open Go.RowKit Go.Shelf Go.Lib Go.Ev
set_option maxRecDepth 100000
variable {w0 W : World} {μ : Mu} {I : Ky → Option ItemO} {t fb : Nat} {s : FbC} {a : FbA}
theorem take_ok (hK : Kst w0 μ I W) (hR : FbR t I fb s) {c : Nat} {x : ClC} (hc : s.cl[c]? = some x) (hal : x.al = true) (hba : x.ba ≠ []) (hwt : x.wt = 0) :
  Calls Try.prog 24 #[ptr fb,.int .i64 c] W fun e w' => ∃ (A : Option Addr) (cc : Nat) (μ' : Mu) (n : Bool),e = .returned (.tuple #[.slice A x.ba.length cc,.bool true])∧MuLe μ μ'∧DR μ' (.lst n 2 (x.ba.map DnA.row)) (.slice A x.ba.length cc)∧FSt t w0 μ' I fb { s.a with cl := s.a.cl.set c { x.a with ba := [] } } w' := by
 obtain ⟨bc,cc,hcv,hIc,hAt⟩ := hR.clsAt hK hc
 have hCl := hR.cl c x hc
 have h2 := hR.c2 hK
 rw [hcv] at h2
 obtain ⟨bb,cb,hbv,hIb⟩ := hCl.bs.ne (by simpa using hba)
 rw [List.length_map] at hbv
 have hal' := hAt.al
 rw [hal] at hal'
 have hwt' := hAt.wt
 rw [hwt] at hwt'
 have hbv' := hAt.bv
 rw [hbv] at hbv'
 have hr0 : (s.cl.map ClC.row)[c]? = some x.row := get_map hc
 have hcm : c < (s.cl.map ClC.row).length := by rw [List.length_map]; exact lt_of hc
 have hfz := hK.rfrozen hIc hcm (j := 3) (by omega)
 have hK2 := hK.rset hIc hr0 (j := 3) (by omega) (a := .v (.slice none 0 0)) (v := .slice none 0 0) (.v rfl)
 refine (take_walk fb bc c s.cl.length x.ba.length cb ⟨bb,0,none⟩ W (fun W' => W' = W.setCell ⟨bc,c * 7 + 3,none⟩ (.slice none 0 0)) (lt_of hc) h2 hal' hbv' hwt' hfz rfl).mono fun e w' he => ?_
 obtain ⟨rfl,rfl⟩ := he
 obtain ⟨μ',n,hm,hK3,hd,_⟩ := hK2.rfrz (k := (t,.bat c)) (v := x.bv) ((hCl.bs).put (key_ne fun e => by cases e))
 rw [hbv] at hd
 refine ⟨_,cb,μ',n,rfl,hm,hd,μ',_,{ s with cl := s.cl.set c { x with bv := .slice none 0 0,ba := [] } },MuLe.refl _,hK3,?_,?_,put_frame (put_frame fun _ _ => rfl)⟩
 ·have hx' : x.row.set 3 (.v (.slice none 0 0)) = ClC.row { x with bv := .slice none 0 0,ba := [] } := rfl
  refine hR.client (x' := { x with bv := .slice none 0 0,ba := [] }) (fun k h1 h2 h3 => ?_) (.inr ⟨bc,cc,?_,?_⟩) ⟨?_,.inl ⟨rfl,rfl⟩,fun _ => rfl,fun i l hl => ?_,fun i l hl => ?_⟩
  ·rw [put_ne _ _ (key_ne fun e => by subst e; simp [FK.ofC] at h2),put_ne _ _ (key_ne h1)]
  ·rw [List.length_set,List.length_map]; exact hcv
  ·rw [put_ne _ _ (key_ne fun e => by cases e),put_same,hx']
  ·exact (hCl.ls.put (key_ne fun e => by cases e)).put (key_ne fun e => by cases e)
  ·rw [put_ne _ _ (key_ne fun e => by cases e),put_ne _ _ (key_ne fun e => by cases e)]; exact hCl.ps i l hl
  ·exact ((hCl.pls i l hl).put (key_ne fun e => by cases e)).put (key_ne fun e => by cases e)
 ·unfold FbC.a
  rw [map_set']; rfl
theorem g_take (h : FSt t w0 μ I fb a W) {c : Nat} {x : ClA} (hc : a.cl[c]? = some x) (hal : x.al = true) (hba : x.ba ≠ []) (hwt : x.wt = 0) :
  Calls Try.prog 24 #[ptr fb,.int .i64 c] W fun e w' => ∃ (A : Option Addr) (cc : Nat) (μ' : Mu) (n : Bool),e = .returned (.tuple #[.slice A x.ba.length cc,.bool true])∧MuLe μ μ'∧DR μ' (.lst n 2 (x.ba.map DnA.row)) (.slice A x.ba.length cc)∧FSt t w0 μ' I fb { a with cl := a.cl.set c { x with ba := [] } } w' := by
 obtain ⟨μ',I',s',hm',hK,hR,rfl,hf⟩ := h
 obtain ⟨xc,hxc,rfl⟩ := map_get' hc
 refine (take_ok hK hR hxc hal hba hwt).mono fun e w' he => ?_
 obtain ⟨A,cc,μ2,n,rfl,hm,hd,hF⟩ := he
 exact ⟨A,cc,μ2,n,rfl,hm'.trans hm,hd,hF.from (MuLe.refl _) hf⟩
theorem g_encode (h : FSt t w0 μ I fb a W) (hz : FbZ a) : Calls Try.prog 30 #[ptr fb] W fun e w' => ∃ (u : Value) (μ' : Mu) (n : Bool),e = .returned u∧MuLe μ μ'∧DR μ' (.lst n 1 (bts (fbE a))) u∧FSt t w0 μ' I fb a w' := by
 obtain ⟨μ',I',s',hm',hK,hR,rfl,hf⟩ := h
 refine (encf_ok hK hR hz).mono fun e w' he => ?_
 obtain ⟨u,μ2,I2,n,rfl,hm,hK2,hn,hd⟩ := he
 exact ⟨u,μ2,n,rfl,hm'.trans hm,hd,μ2,I2,s',MuLe.refl _,hK2,hR.of fun k hk => hn _ fun n e => hk n (Prod.mk.inj e).2,rfl,fun k hk => (hn k fun n e => hk (by rw [e])).trans (hf k hk)⟩
def F2 (w0 : World) (μ : Mu) (fb gb : Nat) (a b : FbA) (W : World) : Prop :=
 ∃ (μ' : Mu) (I : Ky → Option ItemO) (s u : FbC),MuLe μ μ'∧Kst w0 μ' I W∧FbR 0 I fb s∧s.a = a∧FbR 1 I gb u∧u.a = b
theorem F2.kept {gb : Nat} {b : FbA} (h : F2 w0 μ fb gb a b W) : KeptW [] w0 W := by
 obtain ⟨μ',I',s',u',hm,hK,_⟩ := h
 exact hK.kept
theorem F2.kept0 {gb : Nat} {b : FbA} {W' : World} (h : F2 w0 μ fb gb a b W) (k : KeptW [] W W') : F2 w0 μ fb gb a b W' := by
 obtain ⟨μ',I',s',u',hm,hK,r⟩ := h
 exact ⟨μ',I',s',u',hm,hK.kept0 k,r⟩
theorem F2.l {gb : Nat} {b : FbA} (h : F2 w0 μ fb gb a b W) : ∃ (μ' : Mu) (I : Ky → Option ItemO),MuLe μ μ'∧FSt 0 w0 μ' I fb a W∧∀ μ2 a' w',FSt 0 w0 μ2 I fb a' w' → F2 w0 μ2 fb gb a' b w' := by
 obtain ⟨μ',I',s',u',hm,hK,h1,h2,h3,h4⟩ := h
 refine ⟨μ',I',hm,⟨μ',I',s',MuLe.refl _,hK,h1,h2,fun _ _ => rfl⟩,fun μ2 a' w' h => ?_⟩
 obtain ⟨μ3,I3,s3,g1,g2,g3,g4,g5⟩ := h
 exact ⟨μ3,I3,s3,u',g1,g2,g3,g4,h3.of fun k _ => g5 (1,k) (by simp),h4⟩
theorem F2.r {gb : Nat} {b : FbA} (h : F2 w0 μ fb gb a b W) : ∃ (μ' : Mu) (I : Ky → Option ItemO),MuLe μ μ'∧FSt 1 w0 μ' I gb b W∧∀ μ2 b' w',FSt 1 w0 μ2 I gb b' w' → F2 w0 μ2 fb gb a b' w' := by
 obtain ⟨μ',I',s',u',hm,hK,h1,h2,h3,h4⟩ := h
 refine ⟨μ',I',hm,⟨μ',I',u',MuLe.refl _,hK,h3,h4,fun _ _ => rfl⟩,fun μ2 b' w' h => ?_⟩
 obtain ⟨μ3,I3,s3,g1,g2,g3,g4,g5⟩ := h
 exact ⟨μ3,I3,s',s3,g1,g2,h1.of fun k _ => g5 (0,k) (by simp),h2,g3,g4⟩
theorem F2.vals {gb : Nat} {b : FbA} {P : Program} {C : Cfg} (h : F2 w0 μ fb gb a b W) (hmix : P.follows .mixedOrders = true) (hx : ExtS P C) {f : FuncId} {bs : List AV} {xs : List Value} (hev : evL P C f bs = some (xs.map AV.v)) {fn : Func} (hfn : P.funcs[f]? = some fn) {vals : List Value}
  (hB : ∀ {μ' : Mu} {hp : HF},MuLe μ μ' → B2s μ' hp [] [] bs vals) : Calls P f vals.toArray W fun e w' => e = .returned (retV xs)∧F2 w0 μ fb gb a b w' := by
 obtain ⟨μ',I',s',u',hm,hK,r⟩ := h
 exact (hK.vals hmix hx hev hfn (hB hm)).mono fun e w' he => ⟨he.1,μ',I',s',u',hm,he.2.1,r⟩
theorem F2.mono {gb : Nat} {b : FbA} {μ' : Mu} (h : F2 w0 μ' fb gb a b W) (hm : MuLe μ μ') : F2 w0 μ fb gb a b W := by
 obtain ⟨μ2,I',s',u',hm2,r⟩ := h
 exact ⟨μ2,I',s',u',hm.trans hm2,r⟩
theorem F2.start (h : FSt 0 w0 μ I fb a W) (nodes clients : Nat) (lines : Int) (hn : 1 ≤ nodes∧nodes ≤ 5) (hc : 1 ≤ clients∧clients ≤ 6) (hl : 1 ≤ lines∧lines ≤ 256) :
  Calls Try.prog 7 #[.int .i64 nodes,.int .i64 clients,.int .i64 lines] W fun e w' => ∃ gb : Nat,e = .returned (.tuple #[ptr gb,.int .i64 0])∧F2 w0 μ fb gb a (newA nodes clients lines clients) w' := by
 obtain ⟨μ',I',s',hm,hK,hR,ha,hf⟩ := h
 refine (new_okF 1 hK nodes clients lines hn hc hl).mono fun e w' he => ?_
 obtain ⟨gb,rfl,μ3,I3,s3,g1,g2,g3,g4,g5⟩ := he
 exact ⟨gb,rfl,μ3,I3,s',s3,hm.trans g1,g2,hR.of fun k _ => g5 (0,k) (by simp),ha,g3,g4⟩
end Go.Proofs.Ytnjccbnlmdajkaa
namespace Go.Proofs.Ytnjccbnlmdajkaa
open Go.RowKit Go.Shelf Go.Lib Go.Ev
abbrev Cp := Int × DnA
def evs (l : LnA) (n : NdA) : List Cp := if (l.p.step n).2.1 then [(l.pl.headD 0,(l.p.step n).1)] else []
inductive Run : LnA → NdA → List Cp → LnA → NdA → Prop
 | nil {l : LnA} {n : NdA} : l.p.q = [] → Run l n [] l n
 | cons {l l' : LnA} {n n' : NdA} {c : List Cp} : l.p.q ≠ [] → Run (l.stp n) (l.p.step n).2.2.2 c l' n' → Run l n (evs l n ++ c) l' n'
theorem Run.ex {m : Nat} {c i : Int} : ∀ (k : Nat) (l : LnA) (n : NdA),Ln m c i l → l.p.left ≤ k → ∃ cs l' n',Run l n cs l' n'
 | 0,l,n,h,hk => by
  by_cases hq : l.p.q = []
  ·exact ⟨[],l,n,.nil hq⟩
  ·have := h.inv.left_pos hq; omega
 | k + 1,l,n,h,hk => by
  by_cases hq : l.p.q = []
  ·exact ⟨[],l,n,.nil hq⟩
  ·obtain ⟨h1,h2,_⟩ := h.stp hq n
   obtain ⟨cs,l',n',hr⟩ := Run.ex k (l.stp n) (l.p.step n).2.2.2 h1 (by omega)
   exact ⟨_,l',n',.cons hq hr⟩
theorem Run.step {l l' : LnA} {n n' : NdA} {c : List Cp} (h : Run l n c l' n') (hq : l.p.q ≠ []) : ∃ c',c = evs l n ++ c'∧Run (l.stp n) (l.p.step n).2.2.2 c' l' n' := by
 cases h with
 | nil h => exact absurd h hq
 | cons _ h => exact ⟨_,rfl,h⟩
theorem Run.fin {l l' : LnA} {n n' : NdA} {c : List Cp} (h : Run l n c l' n') (hq : l.p.q = []) : c = []∧l' = l∧n' = n := by
 cases h with
 | nil h => exact ⟨rfl,rfl,rfl⟩
 | cons h _ => exact absurd hq h
theorem Run.idx {m : Nat} {c i : Int} {l l' : LnA} {n n' : NdA} {cs : List Cp} (h : Run l n cs l' n') : Ln m c i l → cs.map Prod.fst = l.pl := by
 induction h with
 | @nil l n hq =>
  intro hl
  have := hl.pl
  rw [hq] at this
  cases e : l.pl with
  | nil => rfl
  | cons x r => rw [e] at this; simp at this
 | @cons l l' n n' c hq _ ih =>
  intro hl
  obtain ⟨h1,_,_,_⟩ := hl.stp hq n
  have := ih h1
  obtain ⟨ix,rest,e1,_,_⟩ := hl.head hq
  unfold evs
  unfold LnA.stp at this
  cases e : (l.p.step n).2.1 with
  | true =>
   rw [e] at this
   rw [if_pos rfl,e1]
   simp only [if_true,e1,List.tail_cons] at this
   simp [this]
  | false =>
   rw [e] at this
   rw [if_neg (by simp)]
   simpa using this
def ap : List Cp → List DnA → List DnA
 | [],ba => ba
 | (j,d) :: c,ba => ap c (ba.set j.toNat d)
theorem ap_app : ∀ (a b : List Cp) (ba : List DnA),ap (a ++ b) ba = ap b (ap a ba)
 | [],b,ba => rfl
 | (j,d) :: a,b,ba => ap_app a b _
theorem ap_set (j : Int) (d : DnA) : ∀ (c : List Cp) (ba : List DnA),(∀ x ∈ c,x.1.toNat ≠ j.toNat) → ap c (ba.set j.toNat d) = (ap c ba).set j.toNat d
 | [],ba,_ => rfl
 | (i,e) :: c,ba,h => by
  show ap c ((ba.set j.toNat d).set i.toNat e) = (ap c (ba.set i.toNat e)).set j.toNat d
  rw [List.set_comm _ _ (h (i,e) (by simp)).symm]
  exact ap_set j d c _ fun x hx => h x (List.mem_cons_of_mem _ hx)
theorem step_words {p : Pr} (h : p.Inv) (n : NdA) : (p.step n).1.w.length ≤ 10000 := by
 cases e : p.q with
 | nil =>
  have : (p.step n).1 = ⟨0,true,[]⟩ := by unfold Pr.step; rw [e]
  rw [this]; exact Nat.zero_le _
 | cons v r =>
  by_cases hr : refu p.c p.inc v n.ws n.dn = 0
  ·obtain ⟨_,hg⟩ := refu_zero hr
   have hlt := h.ex v r e
   unfold Vb.np at hlt
   have hx : (pcs v.at_ v.cnt).getD p.ex.toNat (0,0) ∈ pcs v.at_ v.cnt := mem_getD _ _ _ hlt
   have hf := hg.fits hx
   have hol := @Vb.out_len v ((pcs v.at_ v.cnt).getD p.ex.toNat (0,0)) n.ws
   have hle := hf.le
   have hw := h.w
   have hnp := np_le (h.vs v (by rw [e]; simp)).2.1
   unfold Vb.np at hnp
   by_cases hl : p.ex.toNat + 1 < (pcs v.at_ v.cnt).length
   ·have : (p.step n).1 = ⟨0,true,[]⟩ := by unfold Pr.step; rw [e]; simp only [hr,ne_eq,not_true_eq_false,if_false,if_pos hl]
    rw [this]; exact Nat.zero_le _
   ·have : (p.step n).1 = ⟨0,(v.out ((pcs v.at_ v.cnt).getD p.ex.toNat (0,0)) n.ws).isEmpty && p.wn,p.w ++ v.out ((pcs v.at_ v.cnt).getD p.ex.toNat (0,0)) n.ws⟩ := by unfold Pr.step; rw [e]; simp only [hr,ne_eq,not_true_eq_false,if_false,if_neg hl]
    rw [this]
    show (p.w ++ _).length ≤ _
    rw [List.length_append]; omega
  ·have : (p.step n).1 = ⟨refu p.c p.inc v n.ws n.dn,true,[]⟩ := by unfold Pr.step; rw [e]; simp only [ne_eq,hr,not_false_eq_true,if_true]
   rw [this]; exact Nat.zero_le _
structure Fin where
 m : Nat
 l0 : LnA
 n0 : NdA
 l1 : LnA
 n1 : NdA
 ba : List DnA
 inc : Int
 tr : Int
 po : Int
structure Way (E : Fin) (k : Nat) (l0 l1 : LnA) (n0 n1 : NdA) (x : ClA) : Prop where
 bt : Bt E.m 0 k l0 l1 x
 left : l0.p.left + l1.p.left = k
 run : ∃ c0 c1,Run l0 n0 c0 E.l0 E.n0∧Run l1 n1 c1 E.l1 E.n1∧ap c0 (ap c1 x.ba) = E.ba
 dj : ∀ i ∈ l0.pl,i ∉ l1.pl
 ws : n0.ws.length ≤ 1000∧n1.ws.length ≤ 1000
 ds : ∀ d ∈ x.ba,d.w.length ≤ 100000
 inc : x.inc = E.inc
 tr : x.tr = E.tr
 po : x.po = E.po
theorem Bt.exact {m k : Nat} {c : Int} {l0 l1 : LnA} {x : ClA} (h : Bt m c k l0 l1 x) : Bt m c (l0.p.left + l1.p.left) l0 l1 x := ⟨h.al,h.ln,h.h0,h.h1,h.ba,h.wt,Nat.le_refl _⟩
theorem stp_pl {l : LnA} {n : NdA} : ∀ i ∈ (l.stp n).pl,i ∈ l.pl := fun i hi => by
 unfold LnA.stp at hi
 simp only at hi
 split at hi
 ·exact List.mem_of_mem_tail hi
 ·exact hi
theorem ds_step {p : Pr} {n : NdA} (hp : p.Inv) {ba : List DnA} (h : ∀ d ∈ ba,d.w.length ≤ 100000) (j : Nat) : ∀ d ∈ (if (p.step n).2.1 then ba.set j (p.step n).1 else ba),d.w.length ≤ 100000 := fun d hd => by
 split at hd
 ·rcases List.mem_or_eq_of_mem_set hd with hd | rfl
  ·exact h d hd
  ·have := step_words hp n; omega
 ·exact h d hd
theorem Way.step0 {E : Fin} {k : Nat} {l0 l1 : LnA} {n0 n1 : NdA} {x : ClA} (h : Way E k l0 l1 n0 n1 x) (hq : l0.p.q ≠ []) : ∃ k',k' < k∧Way E k' (l0.stp n0) l1 (l0.p.step n0).2.2.2 n1 (x.stepA 0 (l0.p.step n0) l0.pl) := by
 have hb := (h.bt.step0 hq n0).exact
 obtain ⟨_,hlt,_⟩ := h.bt.h0.stp hq n0
 have hlf := h.left
 refine ⟨_,by omega,hb,rfl,?_,fun i hi => h.dj i (stp_pl i hi),⟨by rw [(h.bt.h0.inv.step hq n0).2.2.1]; exact h.ws.1,h.ws.2⟩,?_,?_,?_,?_⟩
 ·obtain ⟨c0,c1,r0,r1,ha⟩ := h.run
  obtain ⟨c0',rfl,r0'⟩ := r0.step hq
  refine ⟨c0',c1,r0',r1,?_⟩
  rw [stepA_eq,← ha,ap_app]
  unfold evs
  cases e : (l0.p.step n0).2.1 with
  | false => simp [ap]
  | true =>
   simp only [if_true,ap]
   rw [ap_set]
   intro y hy he
   obtain ⟨ix,rest,e1,_,_⟩ := h.bt.h0.head hq
   have h1 : y.1 ∈ l1.pl := by rw [← r1.idx h.bt.h1]; exact List.mem_map_of_mem hy
   obtain ⟨k1,e2,_⟩ := h.bt.h1.ix _ h1
   have h0 : (ix : Int) ∈ l0.pl := by rw [e1]; simp
   rw [e1,e2] at he
   simp at he
   subst he
   exact h.dj _ h0 (e2 ▸ h1)
 ·rw [stepA_eq]; exact ds_step h.bt.h0.inv h.ds _
 ·rw [stepA_eq]; exact h.inc
 ·rw [stepA_eq]; exact h.tr
 ·rw [stepA_eq]; exact h.po
theorem Way.step1 {E : Fin} {k : Nat} {l0 l1 : LnA} {n0 n1 : NdA} {x : ClA} (h : Way E k l0 l1 n0 n1 x) (hq : l1.p.q ≠ []) : ∃ k',k' < k∧Way E k' l0 (l1.stp n1) n0 (l1.p.step n1).2.2.2 (x.stepA 1 (l1.p.step n1) l1.pl) := by
 have hb := (h.bt.step1 hq n1).exact
 obtain ⟨_,hlt,_⟩ := h.bt.h1.stp hq n1
 have hlf := h.left
 refine ⟨_,by omega,hb,rfl,?_,fun i hi hj => h.dj i hi (stp_pl i hj),⟨h.ws.1,by rw [(h.bt.h1.inv.step hq n1).2.2.1]; exact h.ws.2⟩,?_,?_,?_,?_⟩
 ·obtain ⟨c0,c1,r0,r1,ha⟩ := h.run
  obtain ⟨c1',rfl,r1'⟩ := r1.step hq
  refine ⟨c0,c1',r0,r1',?_⟩
  rw [stepA_eq,← ha,ap_app]
  unfold evs
  cases e : (l1.p.step n1).2.1 with
  | false => simp [ap]
  | true => simp only [if_true,ap]
 ·rw [stepA_eq]; exact ds_step h.bt.h1.inv h.ds _
 ·rw [stepA_eq]; exact h.inc
 ·rw [stepA_eq]; exact h.tr
 ·rw [stepA_eq]; exact h.po
def Fin.x (E : Fin) : ClA := ⟨true,E.inc,[E.l0,E.l1],E.ba,0,E.tr,E.po⟩
theorem Way.fin {E : Fin} {k : Nat} {l0 l1 : LnA} {n0 n1 : NdA} {x : ClA} (h : Way E k l0 l1 n0 n1 x) (h0 : l0.p.q = []) (h1 : l1.p.q = []) : x = E.x∧n0 = E.n0∧n1 = E.n1∧LnE E.l0∧LnE E.l1∧E.ba.length = E.m∧(∀ d ∈ E.ba,d.w.length ≤ 100000)∧E.n0.ws.length ≤ 1000∧E.n1.ws.length ≤ 1000 := by
 obtain ⟨c0,c1,r0,r1,ha⟩ := h.run
 obtain ⟨rfl,e1,e2⟩ := r0.fin h0
 obtain ⟨rfl,e3,e4⟩ := r1.fin h1
 have hw := h.bt.wt
 rw [h0,h1] at hw
 have hba : x.ba = E.ba := ha
 have he : ∀ {i : Int} {l : LnA},Ln E.m 0 i l → l.p.q = [] → LnE l := fun {i l} hl hq => by
  refine ⟨hq,?_,?_⟩
  ·have := hl.inv.w
   rw [hl.inv.z hq] at this
   exact List.length_eq_zero_iff.1 (by simpa using this)
  ·have := hl.pl
   rw [hq] at this
   exact List.length_eq_zero_iff.1 (by simpa using this)
 refine ⟨?_,e2.symm,e4.symm,e1 ▸ he h.bt.h0 h0,e3 ▸ he h.bt.h1 h1,by rw [← hba]; exact h.bt.ba,by rw [← hba]; exact h.ds,by rw [e2]; exact h.ws.1,by rw [e4]; exact h.ws.2⟩
 have hal := h.bt.al
 have hln := h.bt.ln
 have hi := h.inc
 have ht := h.tr
 have hp := h.po
 cases x
 simp only at hal hln hba hw hi ht hp
 unfold Fin.x
 rw [hal,hln,hba,hw,hi,ht,hp,e1,e3]
 rfl
end Go.Proofs.Ytnjccbnlmdajkaa
