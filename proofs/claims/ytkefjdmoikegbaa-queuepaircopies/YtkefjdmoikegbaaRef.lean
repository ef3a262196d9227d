/- The reference's queue pair. -/
import Derived.Test.YtkefjdmoikegbaaSet
import Derived.Test.YtkefjdmoikegbaaEqP
set_option linter.all false
namespace Go.Proofs.Ytkefjdmoikegbaa
open Go.Ev Go.RowKit
attribute [local congr] bind_first cond_first
set_option maxRecDepth 10000
theorem s_rValid (v : Vb) (lines : Int) : ev 71 [.agg v.row,.v (.int .i64 5),.v (.int .i64 lines)] = some [.v (.int .i64 (v.bad lines))] := by
 have hc := s_rCount v
 have k1 : ∀ {x : Option (List AV)},v.cnt < 1 → x = some [.v (.int .i64 1)] → x = some [.v (.int .i64 (v.bad lines))] := fun h hx => by
  unfold Vb.bad; rw [if_pos h]; exact hx
 have k2 : ∀ {x : Option (List AV)},1 ≤ v.cnt → ¬ v.In lines → x = some [.v (.int .i64 2)] → x = some [.v (.int .i64 (v.bad lines))] := fun h h2 hx => by
  unfold Vb.bad; rw [if_neg (by omega),if_pos h2]; exact hx
 have k3 : ∀ {x : Option (List AV)},1 ≤ v.cnt → v.In lines → x = some [.v (.int .i64 (if v.lo ≤ v.lim∧v.lim < v.hi then 2 else 0))] → x = some [.v (.int .i64 (v.bad lines))] := fun h h2 hx => by
  unfold Vb.bad; rw [if_neg (by omega),if_neg (not_not_intro h2)]; exact hx
 have hcnt : v.cnt = if v.kind = 1 then v.n else if v.kind = 2 then (v.ws.length : Int) else if v.kind = 3 ∨ v.kind = 4 then 1 else 0 := rfl
 have hlim : v.lim = if v.kind = 1 then 3 else 2 := rfl
 have hin : v.In lines ↔ (1 ≤ lines∧lines ≤ 256∧0 ≤ v.node∧v.node < 5∧0 ≤ v.at_∧v.at_ < lines * 8∧v.cnt ≤ 1024∧v.hi < lines∧v.hi - v.lo < 128) := Iff.rfl
 have hlo : v.lo = v.at_ / 8 := rfl
 have hhi : v.hi = (v.at_ + v.cnt - 1) / 8 := rfl
 unfold Vb.row at *
 rw [ev71,List.length_map]
 by_cases h1 : v.kind < 1
 ·refine k1 ?_ (cT (ltI_t h1) rfl)
  rw [hcnt,if_neg (by omega),if_neg (by omega),if_neg (by omega)]; decide
 refine cF (ltI_f (by omega)) ?_
 by_cases h2 : 4 < v.kind
 ·refine k1 ?_ (cT (ltI_t h2) rfl)
  rw [hcnt,if_neg (by omega),if_neg (by omega),if_neg (by omega)]; decide
 refine cF (ltI_f (by omega)) ?_
 have hc := hc (by omega)
 by_cases hk1 : v.kind = 1
 case' pos =>
  rw [if_pos hk1] at hcnt hlim
  refine cT (beq_t hk1) ?_
  by_cases hn : v.n < 1
  case pos => exact k1 (by omega) (cT (ltI_t hn) rfl)
  refine cF (ltI_f (by omega)) (cF (beq_f (by omega)) ?_)
  have hpos : 1 ≤ v.cnt := by omega
 case' neg =>
  rw [if_neg hk1] at hcnt hlim
  refine cF (beq_f hk1) ?_
  by_cases hk2 : v.kind = 2
  case' pos =>
   rw [if_pos hk2] at hcnt
   refine cT (beq_t hk2) ?_
   by_cases hn : (v.ws.length : Int) < 1
   case pos => exact k1 (by omega) (cT (ltI_t hn) rfl)
   refine cF (ltI_f (by omega)) ?_
   have hpos : 1 ≤ v.cnt := by omega
  case' neg =>
   rw [if_neg hk2,if_pos (by omega)] at hcnt
   refine cF (beq_f hk2) ?_
   have hpos : 1 ≤ v.cnt := by omega
 all_goals
  refine bnd hc (cT rfl ?_)
  refine cF rfl (cF rfl ?_)
  by_cases g1 : lines < 1
  ·exact k2 hpos (fun h => by rw [hin] at h; omega) (cT (ltI_t g1) rfl)
  refine cF (ltI_f (by omega)) ?_
  by_cases g2 : 256 < lines
  ·exact k2 hpos (fun h => by rw [hin] at h; omega) (cT (ltI_t g2) rfl)
  refine cF (ltI_f (by omega)) ?_
  by_cases g3 : v.node < 0
  ·exact k2 hpos (fun h => by rw [hin] at h; omega) (cT (ltI_t g3) rfl)
  refine cF (ltI_f (by omega)) ?_
  by_cases g4 : 5 ≤ v.node
  ·exact k2 hpos (fun h => by rw [hin] at h; omega) (cT (leI_t g4) rfl)
  refine cF (leI_f (by omega)) ?_
  by_cases g5 : v.at_ < 0
  ·exact k2 hpos (fun h => by rw [hin] at h; omega) (cT (ltI_t g5) rfl)
  refine cF (ltI_f (by omega)) ?_
  rw [show IntKind.i64.wrap (lines * 8) = lines * 8 by rw [w_i64]; omega]
  by_cases g6 : lines * 8 ≤ v.at_
  ·exact k2 hpos (fun h => by rw [hin] at h; omega) (cT (leI_t g6) rfl)
  refine cF (leI_f (by omega)) ?_
  by_cases g7 : 1024 < v.cnt
  ·exact k2 hpos (fun h => by rw [hin] at h; omega) (cT (ltI_t g7) rfl)
  refine cF (ltI_f (show v.cnt ≤ 1024 by omega)) ?_
  simp -implicitDefEqProofs only [cellAt_zero,avInt_v]
  rw [show IntKind.i64.wrap (v.at_ + v.cnt) = v.at_ + v.cnt by rw [w_i64]; omega,show IntKind.i64.wrap (v.at_ + v.cnt - 1) = v.at_ + v.cnt - 1 by rw [w_i64]; omega,tdiv_pos _ _ (show 0 ≤ v.at_ + v.cnt - 1 by omega),tdiv_pos _ _ (show 0 ≤ v.at_ by omega),
   show IntKind.i64.wrap ((v.at_ + v.cnt - 1) / 8) = v.hi by rw [w_i64]; omega,show IntKind.i64.wrap (v.at_ / 8) = v.lo by rw [w_i64]; omega,show IntKind.i64.wrap (v.hi - v.lo) = v.hi - v.lo by rw [w_i64]; omega,show IntKind.i64.wrap (v.hi - v.lo + 1) = v.hi - v.lo + 1 by rw [w_i64]; omega]
  by_cases g8 : lines ≤ v.hi
  ·exact k2 hpos (fun h => by rw [hin] at h; omega) (cT (leI_t g8) rfl)
  refine cF (leI_f (by omega)) ?_
  by_cases g9 : 128 < v.hi - v.lo + 1
  ·exact k2 hpos (fun h => by rw [hin] at h; omega) (cT (ltI_t g9) rfl)
  refine cF (ltI_f (by omega)) (k3 hpos (by rw [hin]; omega) ?_)
  rw [hlim]
 all_goals
  first
  | (refine cF (by rw [beq_t hk1]; rfl) (cT (beq_t hk1) ?_)
     by_cases c1 : v.lo ≤ 3
     · refine cT (leI_t c1) ?_
       by_cases c2 : 3 < v.hi
       · rw [if_pos ⟨c1,c2⟩]; exact cT (ltI_t c2) rfl
       · rw [if_neg (fun g => c2 g.2)]; exact cF (ltI_f (by omega)) rfl
     · rw [if_neg (fun g => c1 g.1)]; exact cF (leI_f (by omega)) rfl)
  | (refine cT (by rw [beq_f hk1]; rfl) ?_
     by_cases c1 : v.lo ≤ 2
     · refine cT (ltI_t (by omega)) ?_
       by_cases c2 : 2 < v.hi
       · rw [if_pos ⟨c1,c2⟩]; exact cT (leI_t (by omega)) rfl
       · rw [if_neg (fun g => c2 g.2)]; exact cF (leI_f (by omega)) (cF (beq_f hk1) rfl)
     · rw [if_neg (fun g => c1 g.1)]; exact cF (ltI_f (by omega)) (cF (beq_f hk1) rfl))
theorem s_rControl (v : Vb) {lines : Int} (h : v.Good lines) : ev 85 [.agg v.row] = some [.v (.bool (decide (v.lo ≤ v.lim)))] := by
 obtain ⟨hp,⟨g1,g2,g3,g4,g5,g6,g7,g8,g9⟩,ho⟩ := h
 have hc := s_rCount v (by have := Vb.kinds hp; omega)
 have hlim : v.lim = if v.kind = 1 then 3 else 2 := rfl
 have hlo : v.lo = v.at_ / 8 := rfl
 have hhi : v.hi = (v.at_ + v.cnt - 1) / 8 := rfl
 unfold Vb.row at *
 rw [ev85]
 refine bnd hc (cT rfl ?_)
 simp -implicitDefEqProofs only [cellAt_zero,avInt_v]
 rw [show IntKind.i64.wrap (v.at_ + v.cnt) = v.at_ + v.cnt by rw [w_i64]; omega,show IntKind.i64.wrap (v.at_ + v.cnt - 1) = v.at_ + v.cnt - 1 by rw [w_i64]; omega,tdiv_pos _ _ (show 0 ≤ v.at_ + v.cnt - 1 by omega),show IntKind.i64.wrap ((v.at_ + v.cnt - 1) / 8) = v.hi by rw [w_i64]; omega]
 by_cases c1 : v.hi < 3
 ·refine cT (ltI_t c1) ?_
  rw [decide_eq_true]
  rw [hlim] at *; split <;> omega
 ·refine cF (ltI_f (by omega)) ?_
  by_cases hk : v.kind = 1
  ·refine cT (beq_t hk) ?_
   rw [if_pos hk] at hlim
   by_cases c2 : v.hi = 3
   ·rw [beq_t c2,decide_eq_true (by omega)]
   ·rw [beq_f c2,decide_eq_false (by omega)]
  ·refine cF (beq_f hk) ?_
   rw [if_neg hk] at hlim
   rw [decide_eq_false (by omega)]
theorem s_rCheck (v : Vb) {lines : Int} (h : v.Good lines) (inc door key boot : Int) (hi : 0 ≤ inc∧inc ≤ 1000) : ev 72 [.agg v.row,.v (.int .i64 inc),.v (.int .u64 door),.v (.int .u64 key),.v (.int .u64 boot)] = some [.v (.int .i64 (v.chk inc door key boot))] := by
 have hc := s_rControl v h
 have e1 : IntKind.u64.wrap inc = inc := by rw [w_u64]; omega
 unfold Vb.chk
 unfold Vb.row at *
 rw [ev72,e1]
 by_cases h4 : v.kind = 1
 ·refine cT (beq_t h4) (bnd hc (cT rfl ?_))
  by_cases h3 : v.lo ≤ v.lim
  ·rw [if_pos ⟨h3,h4⟩]; exact cT (decide_eq_true h3) rfl
  ·rw [if_neg h3,if_neg (fun g => h3 g.1)]
   refine cF (decide_eq_false h3) (cF (ltI_f (by omega)) ?_)
   by_cases h5 : inc < door
   ·rw [if_pos h5]; exact cT (ltI_t h5) rfl
   rw [if_neg h5]
   refine cF (ltI_f (by omega)) (bnd hc (cT rfl (cF (decide_eq_false h3) ?_)))
   by_cases h6 : v.boot < 0
   ·rw [if_pos h6]; exact cT (ltI_t h6) rfl
   rw [if_neg h6]
   refine cF (ltI_f (by omega)) ?_
   by_cases h7 : IntKind.u64.wrap v.boot = boot
   ·rw [if_neg (not_not_intro h7),h7,beq_self_i]
    refine cF rfl ?_
    by_cases h8 : v.key = key
    ·rw [if_neg (not_not_intro h8),h8,beq_self_i]; rfl
    ·rw [if_pos h8,beq_f h8]; rfl
   ·rw [if_pos h7,beq_f h7]; rfl
 ·rw [if_neg (fun g => h4 g.2)]
  refine cF (beq_f h4) (cF (ltI_f (by omega)) ?_)
  by_cases h5 : inc < door
  ·rw [if_pos h5]; exact cT (ltI_t h5) rfl
  rw [if_neg h5]
  refine cF (ltI_f (by omega)) (bnd hc (cT rfl ?_))
  by_cases h3 : v.lo ≤ v.lim
  ·rw [if_pos h3]; exact cT (decide_eq_true h3) rfl
  rw [if_neg h3]
  refine cF (decide_eq_false h3) ?_
  by_cases h6 : v.boot < 0
  ·rw [if_pos h6]; exact cT (ltI_t h6) rfl
  rw [if_neg h6]
  refine cF (ltI_f (by omega)) ?_
  by_cases h7 : IntKind.u64.wrap v.boot = boot
  ·rw [if_neg (not_not_intro h7),h7,beq_self_i]
   refine cF rfl ?_
   by_cases h8 : v.key = key
   ·rw [if_neg (not_not_intro h8),h8,beq_self_i]; rfl
   ·rw [if_pos h8,beq_f h8]; rfl
  ·rw [if_pos h7,beq_f h7]; rfl
theorem s_rAt (b : Bool) (ws : List Int) (up : Bool) (i : Int) (hi : 0 ≤ i) : ev 73 [.ep [.lst b 1 (ws.map wr),.v (.bool up)] 0,.v (.int .i64 i)] = some [.v (.int .u64 (ws.getD i.toNat 0))] := by
 rw [ev73,List.length_map]
 refine cF (ltI_f (by omega)) ?_
 by_cases h : (ws.length : Int) ≤ i
 ·rw [show ws.getD i.toNat 0 = 0 by rw [List.getD_eq_getElem?_getD,List.getElem?_eq_none (by omega)]; rfl]
  exact cT (leI_t h) rfl
 ·rw [get_wr ws i.toNat (by omega)]
  exact cF (leI_f (by omega)) (cT (by rw [leI_t hi,ltI_t (by omega)]; rfl) (cT rfl rfl))
theorem l_rExec (v : Vb) (x : Int × Int) (ws : List Int) (b : Bool) (h : v.Fits x ws.length) (hk : v.kind = 2) (hl : ws.length ≤ 100000) : ∀ (k i : Nat),(i : Int) + k = x.2 →
  lp 74 0 1 ⟨[(0,.ptr 0 0 0),(4,.ptr 2 0 0),(5,.ptr 3 0 0),(8,.v (.int .i64 (i : Int))),(1000000,.ptr 0 0 0)],
    [⟨1,72,2,true,[[.sl b 1 0 none,.v (.bool true)]]⟩,⟨1,23,1,false,(splice ws x.1.toNat ((v.ws.drop (x.1 - v.at_).toNat).take i)).map wr⟩,⟨1,38,9,true,[v.row]⟩,⟨1,54,2,true,[[.v (.int .i64 x.1),.v (.int .i64 x.2)]]⟩]⟩ =
   some ⟨some 1,⟨[(1000000,.ptr 0 0 0)],[⟨1,72,2,true,[[.sl b 1 0 none,.v (.bool true)]]⟩,⟨1,23,1,false,(splice ws x.1.toNat ((v.ws.drop (x.1 - v.at_).toNat).take x.2.toNat)).map wr⟩]⟩,[]⟩
 | 0,i,hi => by
  rw [show x.2.toNat = i by omega]
  unfold Vb.row
  rw [lp74_0,ltI_f (by omega)]; rfl
 | k + 1,i,hi => by
  have ih := l_rExec v x ws b h hk hl k (i + 1) (by omega)
  obtain ⟨h1,h2,h3,h4,⟨h5,h6⟩,h7,h8⟩ := h
  have hlen : v.cnt = v.ws.length := by unfold Vb.cnt vcnt; rw [if_neg (by omega),if_pos hk]
  have e1 : IntKind.i64.wrap ((i : Int) + 1) = ((i + 1 : Nat) : Int) := by rw [w_i64]; omega
  have e2 : IntKind.i64.wrap (x.1 - v.at_) = x.1 - v.at_ := by rw [w_i64]; omega
  have e3 : IntKind.i64.wrap (x.1 - v.at_ + (i : Int)) = x.1 - v.at_ + (i : Int) := by rw [w_i64]; omega
  have e4 : IntKind.i64.wrap (x.1 + (i : Int)) = x.1 + (i : Int) := by rw [w_i64]; omega
  have hty : ((v.ws.drop (x.1 - v.at_).toNat).take i).length = i := by simp only [List.length_take,List.length_drop]; omega
  have hsl := splice_len ws x.1.toNat ((v.ws.drop (x.1 - v.at_).toNat).take i) (by omega)
  have hg := get_wr v.ws (x.1 - v.at_ + (i : Int)).toNat (by omega)
  have hsn : (v.ws.drop (x.1 - v.at_).toNat).take (i + 1) = (v.ws.drop (x.1 - v.at_).toNat).take i ++ [v.ws.getD (x.1 - v.at_ + (i : Int)).toNat 0] := by
   rw [List.take_succ,List.getElem?_drop,show (x.1 - v.at_).toNat + i = (x.1 - v.at_ + (i : Int)).toNat by omega]
   have hlt : (x.1 - v.at_ + (i : Int)).toNat < v.ws.length := by omega
   simp [hlt]
  rw [hsn,splice_snoc _ _ _ _ (by omega),hty,← set_wr] at ih
  unfold Vb.row at *
  rw [lp74_0,e1,e2,e3,e4,List.length_map,List.length_map,hsl,hg,show 0 + (x.1 + (i : Int)).toNat = x.1.toNat + i by omega]
  exact cT (ltI_t (by omega)) (cT (by rw [leI_t (by omega),ltI_t (by omega)]; rfl) (cT rfl (cT (by rw [leI_t (by omega),ltI_t (by omega)]; rfl) (cT (ltN_t (by omega)) ih))))
theorem s_rExec (v : Vb) (x : Int × Int) (ws : List Int) (b : Bool) (h : v.Fits x ws.length) (hx : v.kind = 3 ∨ v.kind = 4 → x = (v.at_,1)) (hl : ws.length ≤ 100000) :
  ev 74 [.ob 72 [.ow b 23 1 (ws.map wr),.v (.bool true)],.agg v.row,.agg [.v (.int .i64 x.1),.v (.int .i64 x.2)]] =
   some [.ow (v.out x ws).isEmpty 23 1 ((v.out x ws).map wr),.ob 72 [.ow b 23 1 ((v.mem x ws).map wr),.v (.bool true)]] := by
 have hloop := l_rExec v x ws b h
 obtain ⟨h1,h2,h3,h4,⟨h5,h6⟩,h7,h8⟩ := h
 have hk := Vb.kinds h5
 have e1 : IntKind.i64.wrap (x.1 + x.2) = x.1 + x.2 := by rw [w_i64]; omega
 have e2 : (x.1 + x.2).toNat - x.1.toNat = x.2.toNat := by omega
 have e3 : ((ws.drop x.1.toNat).take x.2.toNat).length = x.2.toNat := by simp only [List.length_take,List.length_drop]; omega
 unfold Vb.out Vb.mem
 have hrow : v.row = v.row := rfl
 unfold Vb.row at *
 rw [ev74,e1,e2,Nat.zero_add,List.length_map,← List.map_drop,← List.map_take,List.length_map,e3]
 refine cT (by rw [leI_t (by omega),leI_t (by omega),leI_t (by omega)]; rfl) (cT (leN_t (by omega)) ?_)
 rcases hk with hk | hk | hk | hk
 ·rw [if_pos hk,if_pos hk,List.isEmpty_map]
  exact cT (beq_t hk) rfl
 ·rw [if_neg (show ¬ v.kind = 1 by omega),if_pos hk,if_neg (show ¬ v.kind = 1 by omega),if_pos hk]
  have hl2 := hloop hk hl x.2.toNat 0 (by omega)
  rw [List.take_zero,splice_nil] at hl2
  exact cF (beq_f (by omega)) (cT (beq_t hk) (bnd hl2 (cT rfl (cT rfl rfl))))
 ·have hx := hx (Or.inl hk)
  subst hx
  have hlt : v.at_.toNat < ws.length := by omega
  have ht : (ws.drop v.at_.toNat).take (1 : Int).toNat = [ws.getD v.at_.toNat 0] := by
   rw [List.drop_eq_getElem_cons hlt]
   show [ws[v.at_.toNat]] = _
   simp [hlt]
  rw [if_neg (show ¬ v.kind = 1 by omega),if_neg (show ¬ v.kind = 2 by omega),if_neg (show ¬ v.kind = 1 by omega),if_neg (show ¬ v.kind = 2 by omega),if_pos hk]
  rw [show ((v.at_,(1 : Int)) : Int × Int).1 = v.at_ from rfl,show ((v.at_,(1 : Int)) : Int × Int).2 = 1 from rfl] at *
  rw [ht]
  refine cF (beq_f (by omega)) (cF (beq_f (by omega)) (cT (beq_t hk) (cT rfl (cT rfl ?_))))
  by_cases hv : ws.getD v.at_.toNat 0 = v.old
  ·rw [if_pos hv]
   refine cT (beq_t hv) (cT (by rw [leI_t (by omega),ltI_t (by omega)]; rfl) (cT (ltN_t (by omega)) ?_))
   rw [← set_wr]; rfl
  ·rw [if_neg hv]
   exact cF (beq_f hv) rfl
 ·have hx := hx (Or.inr hk)
  subst hx
  have hlt : v.at_.toNat < ws.length := by omega
  have ht : (ws.drop v.at_.toNat).take (1 : Int).toNat = [ws.getD v.at_.toNat 0] := by
   rw [List.drop_eq_getElem_cons hlt]
   show [ws[v.at_.toNat]] = _
   simp [hlt]
  rw [if_neg (show ¬ v.kind = 1 by omega),if_neg (show ¬ v.kind = 2 by omega),if_neg (show ¬ v.kind = 1 by omega),if_neg (show ¬ v.kind = 2 by omega),if_neg (show ¬ v.kind = 3 by omega)]
  rw [show ((v.at_,(1 : Int)) : Int × Int).1 = v.at_ from rfl,show ((v.at_,(1 : Int)) : Int × Int).2 = 1 from rfl] at *
  rw [ht]
  refine cF (beq_f (by omega)) (cF (beq_f (by omega)) (cF (beq_f (by omega)) (cT (beq_t hk) (cT rfl (cT rfl (cT (by rw [leI_t (by omega),ltI_t (by omega)]; rfl) (cT (ltN_t (by omega)) ?_)))))))
  rw [← set_wr]; rfl
end Go.Proofs.Ytkefjdmoikegbaa
