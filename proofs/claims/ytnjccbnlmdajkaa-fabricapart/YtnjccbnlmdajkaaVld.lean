/- Verbs on a fabric of n nodes. -/
import Derived.Test.YtnjccbnlmdajkaaPair
import Derived.Test.YtnjccbnlmdajkaaEv13
import Derived.Test.YtnjccbnlmdajkaaSmlW
import Derived.Test.YtnjccbnlmdajkaaVrbW
import Derived.Test.YtnjccbnlmdajkaaVbsW
import Derived.Laws.MakeOwn
set_option linter.all false
namespace Go.Proofs.Ytnjccbnlmdajkaa
open Go.Ev Go.RowKit
attribute [local congr] bind_first cond_first
set_option maxRecDepth 10000
def Vb.InN (v : Vb) (n lines : Int) : Prop := 1 ≤ lines∧lines ≤ 256∧0 ≤ v.node∧v.node < n∧0 ≤ v.at_∧v.at_ < lines * 8∧v.cnt ≤ 1024∧v.hi < lines∧v.hi - v.lo < 128
instance (v : Vb) (n lines : Int) : Decidable (v.InN n lines) := by unfold Vb.InN; infer_instance
def Vb.badN (v : Vb) (n lines : Int) : Int := if v.cnt < 1 then 1 else if ¬ v.InN n lines then 2 else if v.lo ≤ v.lim∧v.lim < v.hi then 2 else 0
theorem badN_bad {v : Vb} {n lines : Int} (hn : n ≤ 5) (h : v.badN n lines = 0) : v.bad lines = 0∧0 ≤ v.node∧v.node < n := by
 unfold Vb.badN at h
 split at h
 ·cases h
 split at h
 ·cases h
 split at h
 ·cases h
 rename_i h1 h2 h3
 obtain ⟨g1,g2,g3,g4,g5⟩ := Decidable.not_not.1 h2
 refine ⟨bad_zero.2 ⟨by omega,⟨g1,g2,g3,by omega,g5⟩,by omega⟩,g3,g4⟩
theorem s_vInsideN (v : Vb) (n lines : Int) (hn : 1 ≤ n∧n ≤ 5) (h : 1 ≤ v.cnt) : ev 53 [.agg v.row,.v (.int .i64 n),.v (.int .i64 lines)] = some [.v (.bool (decide (v.InN n lines)))] := by
 have hc := s_vCount v
 have hs := s_vSpan v
 have no : ∀ {x : Option (List AV)},¬ v.InN n lines → x = some [.v (.bool false)] → x = some [.v (.bool (decide (v.InN n lines)))] := fun hn hx => by rw [decide_eq_false hn]; exact hx
 unfold Vb.row at *
 rw [ev53]
 refine cF (ltI_f (by omega)) (cF (ltI_f (by omega)) ?_)
 by_cases h1 : lines < 1
 ·exact no (fun g => by have := g.1; omega) (cT (ltI_t h1) rfl)
 refine cF (ltI_f (by omega)) ?_
 by_cases h2 : 256 < lines
 ·exact no (fun g => by have := g.2.1; omega) (cT (ltI_t h2) rfl)
 refine cF (ltI_f (by omega)) ?_
 by_cases h3 : v.node < 0
 ·exact no (fun g => by have := g.2.2.1; omega) (cT (ltI_t h3) rfl)
 refine cF (ltI_f (by omega)) ?_
 by_cases h4 : n ≤ v.node
 ·exact no (fun g => by have := g.2.2.2.1; omega) (cT (leI_t h4) rfl)
 refine cF (leI_f (by omega)) ?_
 by_cases h5 : v.at_ < 0
 ·exact no (fun g => by have := g.2.2.2.2.1; omega) (cT (ltI_t h5) rfl)
 refine cF (ltI_f (by omega)) ?_
 have e1 : IntKind.i64.wrap (lines * 8) = lines * 8 := by rw [w_i64]; omega
 rw [e1]
 by_cases h6 : lines * 8 ≤ v.at_
 ·exact no (fun g => by have := g.2.2.2.2.2.1; omega) (cT (leI_t h6) rfl)
 refine cF (leI_f (by omega)) (bnd hc (cT rfl ?_))
 by_cases h7 : 1024 < v.cnt
 ·exact no (fun g => by have := g.2.2.2.2.2.2.1; omega) (cT (ltI_t h7) rfl)
 have hs := hs (by omega) (by omega)
 refine cF (ltI_f (show v.cnt ≤ 1024 by omega)) (bnd hs (cT rfl (cT rfl ?_)))
 by_cases h8 : v.hi < lines
 ·refine cT (ltI_t h8) ?_
  have e2 : IntKind.i64.wrap (v.hi - v.lo) = v.hi - v.lo := by unfold Vb.hi Vb.lo at *; rw [w_i64]; omega
  show some [AV.v (.bool (ltI (IntKind.i64.wrap (v.hi - v.lo)) 128))] = _
  rw [e2]
  by_cases h9 : v.hi - v.lo < 128
  ·rw [ltI_t h9,decide_eq_true]; exact ⟨by omega,by omega,by omega,by omega,by omega,by omega,by omega,h8,h9⟩
  ·exact no (fun g => by have := g.2.2.2.2.2.2.2.2; omega) (by rw [ltI_f (by omega)])
 ·exact no (fun g => by have := g.2.2.2.2.2.2.2.1; omega) (cF (ltI_f (show lines ≤ v.hi by omega)) rfl)
theorem s_vValidN (v : Vb) (n lines : Int) (hn : 1 ≤ n∧n ≤ 5) : ev 35 [.agg v.row,.v (.int .i64 n),.v (.int .i64 lines)] = some [.v (.int .i64 (v.badN n lines))] := by
 have hc := s_vCount v
 have hl := s_vLast v
 have hi := s_vInsideN v n lines hn
 have hs := s_vSpan v
 unfold Vb.badN
 unfold Vb.row at *
 rw [ev35]
 refine bnd hc (cT rfl ?_)
 by_cases h1 : v.cnt < 1
 ·rw [if_pos h1]; exact cT (ltI_t h1) rfl
 rw [if_neg h1]
 refine cF (ltI_f (show 1 ≤ v.cnt by omega)) (bnd (hi (by omega)) (cT rfl ?_))
 by_cases h2 : v.InN n lines
 ·rw [if_neg (not_not_intro h2),decide_eq_true h2]
  obtain ⟨g1,g2,g3,g4,g5,g6,g7,g8,g9⟩ := h2
  refine cF rfl (bnd (hs (by omega) (by omega)) (cT rfl (cT rfl (bnd hl (cT rfl ?_)))))
  by_cases h3 : v.lo ≤ v.lim
  ·refine cT (leI_t h3) (bnd hl (cT rfl ?_))
   by_cases h4 : v.lim < v.hi
   ·rw [if_pos ⟨h3,h4⟩]; exact cT (ltI_t h4) rfl
   ·rw [if_neg (fun g => h4 g.2)]; exact cF (ltI_f (show v.hi ≤ v.lim by omega)) rfl
  ·rw [if_neg (fun g => h3 g.1)]; exact cF (leI_f (show v.lim < v.lo by omega)) rfl
 ·rw [if_pos h2,decide_eq_false h2]; exact cT rfl rfl
end Go.Proofs.Ytnjccbnlmdajkaa
namespace Go.Proofs.Ytnjccbnlmdajkaa
open Go.RowKit Go.Shelf Go.Lib Go.Ev
set_option maxRecDepth 100000
inductive FK where
 | fab | nds | cls | ors
 | nod (i : Nat) | lan (c : Nat) | bat (c : Nat) | par (c i : Nat) | plc (c i : Nat) | orp (k : Nat) | tmp (n : Nat)
 deriving DecidableEq
abbrev Ky := Nat × FK
structure NdA where
 ws : List Int
 dn : Bool
structure LnA where
 p : Pr
 pl : List Int
structure DnA where
 code : Int
 wn : Bool
 w : List Int
structure ClA where
 al : Bool
 inc : Int
 ln : List LnA
 ba : List DnA
 wt : Int
 tr : Int
 po : Int
structure FbA where
 lines : Int
 nd : List NdA
 cl : List ClA
 os : List Pr
structure NdC where
 b : Nat
 a : NdA
structure LnC where
 b : Nat
 v : Value
 a : LnA
structure ClC where
 al : Bool
 inc : Int
 lv : Value
 ln : List LnC
 bv : Value
 ba : List DnA
 wt : Int
 tr : Int
 po : Int
structure OrC where
 b : Nat
 p : Pr
structure FbC where
 lines : Int
 nv : Value
 nd : List NdC
 cv : Value
 cl : List ClC
 ov : Value
 os : List OrC
def ClC.a (x : ClC) : ClA := ⟨x.al,x.inc,x.ln.map LnC.a,x.ba,x.wt,x.tr,x.po⟩
def FbC.a (s : FbC) : FbA := ⟨s.lines,s.nd.map NdC.a,s.cl.map ClC.a,s.os.map OrC.p⟩
abbrev ptr (b : Nat) : Value := .pointer (some ⟨b,0,none⟩)
def irow (x : Int) : List AV := [.v (.int .i64 x)]
def DnA.row (d : DnA) : List AV := [.v (.int .i64 d.code),.lst d.wn 1 (d.w.map wr)]
def NdC.row (n : NdC) : List AV := [.v (ptr n.b)]
def LnC.row (l : LnC) : List AV := [.v (ptr l.b),.v l.v]
def ClC.row (x : ClC) : List AV := [.v (.bool x.al),.v (.int .i64 x.inc),.v x.lv,.v x.bv,.v (.int .i64 x.wt),.v (.int .i64 x.tr),.v (.int .i64 x.po)]
def OrC.row (o : OrC) : List AV := [.v (ptr o.b)]
def FbC.cells (s : FbC) : List AV := [.v (.int .i64 s.lines),.v s.nv,.v s.cv,.v s.ov]
def ndC (a : NdA) : List AV := [.ow false 47 1 (a.ws.map wr),.v (.bool a.dn)]
def prC (p : Pr) : List AV := [.v (.int .i64 p.c),.v (.int .i64 p.inc),.v (.int .i64 p.node),.ow p.qn 50 9 (p.q.map Vb.row),.v (.int .i64 p.ex),.ow p.wn 47 1 (p.w.map wr)]
def pzC (p : Pr) : List AV := [.v (.int .i64 p.c),.v (.int .i64 p.inc),.v (.int .i64 p.node),.ow p.qn 50 9 (p.q.map Vb.row),.v (.int .i64 p.ex),.lst true 0 []]
structure ClR (t : Nat) (I : Ky → Option ItemO) (c : Nat) (x : ClC) : Prop where
 ls : Row I (t,.lan c) x.lv 82 2 (x.ln.map LnC.row)
 bs : Row I (t,.bat c) x.bv 67 2 (x.ba.map DnA.row)
 bn : x.ba = [] → x.bv = .slice none 0 0
 ps : ∀ i l,x.ln[i]? = some l → ∃ F,I (t,.par c i) = some (obI l.b F 99 (prC l.a.p))
 pls : ∀ i l,x.ln[i]? = some l → Row I (t,.plc c i) l.v 3 1 (l.a.pl.map irow)
structure FbR (t : Nat) (I : Ky → Option ItemO) (fb : Nat) (s : FbC) : Prop where
 fab : ∃ F,I (t,.fab) = some (obI fb F 62 s.cells)
 nds : Row I (t,.nds) s.nv 28 1 (s.nd.map NdC.row)
 nod : ∀ i n,s.nd[i]? = some n → ∃ F,I (t,.nod i) = some (obI n.b F 69 (ndC n.a))
 cls : Row I (t,.cls) s.cv 74 7 (s.cl.map ClC.row)
 cl : ∀ c x,s.cl[c]? = some x → ClR t I c x
 ovs : Row I (t,.ors) s.ov 80 1 (s.os.map OrC.row)
 os : ∀ k o,s.os[k]? = some o → ∃ F,I (t,.orp k) = some (obI o.b F 99 (prC o.p))
def FK.ofC (c : Nat) : FK → Bool
 | .lan d => d == c
 | .bat d => d == c
 | .par d _ => d == c
 | .plc d _ => d == c
 | _ => false
theorem ClR.of {t : Nat} {I J : Ky → Option ItemO} {c : Nat} {x : ClC} (h : ClR t I c x) (hJ : ∀ k,k.ofC c = true → J (t,k) = I (t,k)) : ClR t J c x :=
 ⟨h.ls.same (hJ _ (by simp [FK.ofC])),h.bs.same (hJ _ (by simp [FK.ofC])),h.bn,fun i l hl => by
  rw [hJ _ (by simp [FK.ofC])]; exact h.ps i l hl,fun i l hl => (h.pls i l hl).same (hJ _ (by simp [FK.ofC]))⟩
theorem ofC_ne {c d : Nat} (h : c ≠ d) {k : FK} (hk : k.ofC c = true) : k.ofC d = false := by
 cases k <;> simp_all [FK.ofC]
theorem FbR.of {t : Nat} {I J : Ky → Option ItemO} {fb : Nat} {s : FbC} (h : FbR t I fb s) (hJ : ∀ k,(∀ n,k ≠ .tmp n) → J (t,k) = I (t,k)) : FbR t J fb s :=
 ⟨by rw [hJ _ (fun n e => by cases e)]; exact h.fab,h.nds.same (hJ _ fun n e => by cases e),fun i n hn => by
  rw [hJ _ (fun n e => by cases e)]; exact h.nod i n hn,h.cls.same (hJ _ fun n e => by cases e),fun c x hx => (h.cl c x hx).of fun k hk => hJ k fun n e => by subst e; simp [FK.ofC] at hk,h.ovs.same (hJ _ fun n e => by cases e),fun k o ho => by
  rw [hJ _ (fun n e => by cases e)]; exact h.os k o ho⟩
theorem set_get {α : Type} {l : List α} {n m : Nat} {x y : α} (h : (l.set n x)[m]? = some y) : (m = n∧y = x) ∨ (m ≠ n∧l[m]? = some y) := by
 rw [List.getElem?_set] at h
 by_cases e : n = m
 ·rw [if_pos e] at h
  by_cases g : n < l.length
  ·rw [if_pos g] at h; cases h; exact .inl ⟨e.symm,rfl⟩
  ·rw [if_neg g] at h; cases h
 ·rw [if_neg e] at h; exact .inr ⟨fun q => e q.symm,h⟩
theorem map_set' {α β : Type} (f : α → β) (l : List α) (n : Nat) (x : α) : (l.set n x).map f = (l.map f).set n (f x) := List.map_set ..
theorem FbR.client {t : Nat} {I J : Ky → Option ItemO} {fb : Nat} {s : FbC} (h : FbR t I fb s) {c : Nat} {x' : ClC} (hJ : ∀ k,k ≠ .cls → k.ofC c = false → (∀ n,k ≠ .tmp n) → J (t,k) = I (t,k))
  (hc : Row J (t,.cls) s.cv 74 7 ((s.cl.map ClC.row).set c x'.row)) (hx : ClR t J c x') : FbR t J fb { s with cl := s.cl.set c x' } := by
 refine ⟨?_,h.nds.same (hJ _ (fun e => by cases e) rfl fun n e => by cases e),fun i n hn => ?_,?_,fun d y hy => ?_,h.ovs.same (hJ _ (fun e => by cases e) rfl fun n e => by cases e),fun k o ho => ?_⟩
 ·rw [hJ _ (fun e => by cases e) rfl fun n e => by cases e]; exact h.fab
 ·rw [hJ _ (fun e => by cases e) rfl fun n e => by cases e]; exact h.nod i n hn
 ·show Row J (t,.cls) s.cv 74 7 ((s.cl.set c x').map ClC.row)
  rw [map_set']; exact hc
 ·rcases set_get hy with ⟨rfl,rfl⟩ | ⟨ne,hy⟩
  ·exact hx
  ·exact (h.cl d y hy).of fun k hk => hJ k (fun e => by subst e; simp [FK.ofC] at hk) (ofC_ne ne hk) fun n e => by subst e; simp [FK.ofC] at hk
 ·rw [hJ _ (fun e => by cases e) rfl fun n e => by cases e]; exact h.os k o ho
theorem FbR.node {t : Nat} {I J : Ky → Option ItemO} {fb : Nat} {s : FbC} (h : FbR t I fb s) {i : Nat} {n : NdC} (hn : s.nd[i]? = some n) {a : NdA} {F : List Nat} (hJ : ∀ k,k ≠ .nod i → (∀ n,k ≠ .tmp n) → J (t,k) = I (t,k)) (hi : J (t,.nod i) = some (obI n.b F 69 (ndC a))) : FbR t J fb { s with nd := s.nd.set i ⟨n.b,a⟩ } := by
 refine ⟨?_,?_,fun j m hm => ?_,h.cls.same (hJ _ (fun e => by cases e) fun n e => by cases e),fun d y hy => (h.cl d y hy).of fun k hk => hJ k (fun e => by subst e; simp [FK.ofC] at hk) (fun n e => by subst e; simp [FK.ofC] at hk),h.ovs.same (hJ _ (fun e => by cases e) fun n e => by cases e),fun k o ho => ?_⟩
 ·rw [hJ _ (fun e => by cases e) fun n e => by cases e]; exact h.fab
 ·show Row J (t,.nds) s.nv 28 1 ((s.nd.set i ⟨n.b,a⟩).map NdC.row)
  have : (s.nd.set i ⟨n.b,a⟩).map NdC.row = s.nd.map NdC.row := by
   rw [map_set']
   exact List.ext_getElem? fun j => by
    rw [List.getElem?_set]
    by_cases e : i = j
    ·subst e; rw [if_pos rfl,if_pos (by rw [List.length_map]; exact (List.getElem?_eq_some_iff.1 hn).1),List.getElem?_map,hn]; rfl
    ·rw [if_neg e]
  rw [this]
  exact h.nds.same (hJ _ (fun e => by cases e) fun n e => by cases e)
 ·rcases set_get hm with ⟨rfl,rfl⟩ | ⟨ne,hm⟩
  ·exact ⟨F,hi⟩
  ·rw [hJ _ (fun e => by cases e; exact ne rfl) fun n e => by cases e]; exact h.nod j m hm
 ·rw [hJ _ (fun e => by cases e) fun n e => by cases e]; exact h.os k o ho
end Go.Proofs.Ytnjccbnlmdajkaa
namespace Go.Proofs.Ytnjccbnlmdajkaa
open Go.RowKit Go.Shelf Go.Lib Go.Ev
set_option maxRecDepth 100000
variable {w W : World} {μ : Mu} {I : Ky → Option ItemO} {t fb : Nat} {s : FbC}
theorem get_map {α β : Type} {f : α → β} {l : List α} {n : Nat} {x : α} (h : l[n]? = some x) : (l.map f)[n]? = some (f x) := by rw [List.getElem?_map,h]; rfl
theorem FbR.c0 (h : FbR t I fb s) (hK : Kst w μ I W) : W.cell? ⟨fb,0,none⟩ = some (.int .i64 s.lines) := by obtain ⟨F,hF⟩ := h.fab; exact hK.cell hF rfl
theorem FbR.c1 (h : FbR t I fb s) (hK : Kst w μ I W) : W.cell? ⟨fb,1,none⟩ = some s.nv := by obtain ⟨F,hF⟩ := h.fab; exact hK.cell hF rfl
theorem FbR.c2 (h : FbR t I fb s) (hK : Kst w μ I W) : W.cell? ⟨fb,2,none⟩ = some s.cv := by obtain ⟨F,hF⟩ := h.fab; exact hK.cell hF rfl
theorem FbR.c3 (h : FbR t I fb s) (hK : Kst w μ I W) : W.cell? ⟨fb,3,none⟩ = some s.ov := by obtain ⟨F,hF⟩ := h.fab; exact hK.cell hF rfl
theorem ne_of {α : Type} {l : List α} {n : Nat} {x : α} (h : l[n]? = some x) : l ≠ [] := fun e => by subst e; simp at h
theorem lt_of {α : Type} {l : List α} {n : Nat} {x : α} (h : l[n]? = some x) : n < l.length := (List.getElem?_eq_some_iff.1 h).1
theorem Row.at {α : Type} {k : Ky} {v : Value} {T sz : Nat} {f : α → List AV} {l : List α} {n : Nat} {x : α} (h : Row I k v T sz (l.map f)) (hn : l[n]? = some x) : ∃ b c,v = .slice (some ⟨b,0,none⟩) l.length c∧I k = some (rowI b c T sz (l.map f)) := by
 obtain ⟨b,c,h1,h2⟩ := h.ne (by simpa using ne_of hn)
 exact ⟨b,c,by rw [h1,List.length_map],h2⟩
structure ClAt (W : World) (bc c : Nat) (x : ClC) : Prop where
 al : W.cell? ⟨bc,c * 7,none⟩ = some (.bool x.al)
 inc : W.cell? ⟨bc,c * 7 + 1,none⟩ = some (.int .i64 x.inc)
 lv : W.cell? ⟨bc,c * 7 + 2,none⟩ = some x.lv
 bv : W.cell? ⟨bc,c * 7 + 3,none⟩ = some x.bv
 wt : W.cell? ⟨bc,c * 7 + 4,none⟩ = some (.int .i64 x.wt)
 tr : W.cell? ⟨bc,c * 7 + 5,none⟩ = some (.int .i64 x.tr)
 po : W.cell? ⟨bc,c * 7 + 6,none⟩ = some (.int .i64 x.po)
theorem clAt (hK : Kst w μ I W) {k : Ky} {bc cc : Nat} {l : List ClC} (hI : I k = some (rowI bc cc 74 7 (l.map ClC.row))) {c : Nat} {x : ClC} (hc : l[c]? = some x) : ClAt W bc c x :=
 ⟨hK.rcell hI (get_map hc) (j := 0) rfl,hK.rcell hI (get_map hc) rfl,hK.rcell hI (get_map hc) rfl,hK.rcell hI (get_map hc) rfl,hK.rcell hI (get_map hc) rfl,hK.rcell hI (get_map hc) rfl,hK.rcell hI (get_map hc) rfl⟩
theorem FbR.clsAt (h : FbR t I fb s) (hK : Kst w μ I W) {c : Nat} {x : ClC} (hc : s.cl[c]? = some x) : ∃ bc cc,s.cv = .slice (some ⟨bc,0,none⟩) s.cl.length cc∧I (t,.cls) = some (rowI bc cc 74 7 (s.cl.map ClC.row))∧ClAt W bc c x := by
 obtain ⟨bc,cc,h1,h2⟩ := Row.at h.cls hc
 exact ⟨bc,cc,h1,h2,clAt hK h2 hc⟩
theorem FbR.ndAt (h : FbR t I fb s) (hK : Kst w μ I W) {i : Nat} {n : NdC} (hn : s.nd[i]? = some n) : ∃ bn cn,s.nv = .slice (some ⟨bn,0,none⟩) s.nd.length cn∧I (t,.nds) = some (rowI bn cn 28 1 (s.nd.map NdC.row))∧W.cell? ⟨bn,i,none⟩ = some (ptr n.b) := by
 obtain ⟨bc,cc,h1,h2⟩ := Row.at h.nds hn
 have := hK.rcell h2 (get_map hn) (j := 0) rfl
 rw [Nat.mul_one] at this
 exact ⟨bc,cc,h1,h2,this⟩
theorem ClR.lnAt {c : Nat} {x : ClC} (h : ClR t I c x) (hK : Kst w μ I W) {i : Nat} {l : LnC} (hl : x.ln[i]? = some l) : ∃ bl ll,x.lv = .slice (some ⟨bl,0,none⟩) x.ln.length ll∧I (t,.lan c) = some (rowI bl ll 82 2 (x.ln.map LnC.row))∧W.cell? ⟨bl,i * 2,none⟩ = some (ptr l.b)∧W.cell? ⟨bl,i * 2 + 1,none⟩ = some l.v := by
 obtain ⟨bc,cc,h1,h2⟩ := Row.at h.ls hl
 exact ⟨bc,cc,h1,h2,hK.rcell h2 (get_map hl) (j := 0) rfl,hK.rcell h2 (get_map hl) rfl⟩
theorem ClR.prAt {c : Nat} {x : ClC} (h : ClR t I c x) (hK : Kst w μ I W) {i : Nat} {l : LnC} (hl : x.ln[i]? = some l) : ∃ A cp,W.cell? ⟨l.b,3,none⟩ = some (.slice A l.a.p.q.length cp) := by
 obtain ⟨F,hF⟩ := h.ps i l hl
 obtain ⟨A,cp,e,_⟩ := hK.rowAt hF (j := 3) rfl
 rw [List.length_map] at e
 exact ⟨A,cp,e⟩
theorem FbR.orAt (h : FbR t I fb s) (hK : Kst w μ I W) {i : Nat} {o : OrC} (ho : s.os[i]? = some o) : ∃ bo co,s.ov = .slice (some ⟨bo,0,none⟩) s.os.length co∧I (t,.ors) = some (rowI bo co 80 1 (s.os.map OrC.row))∧W.cell? ⟨bo,i,none⟩ = some (ptr o.b) := by
 obtain ⟨bc,cc,h1,h2⟩ := Row.at h.ovs ho
 have := hK.rcell h2 (get_map ho) (j := 0) rfl
 rw [Nat.mul_one] at this
 exact ⟨bc,cc,h1,h2,this⟩
theorem FbR.ovl (h : FbR t I fb s) : ∃ A c,s.ov = .slice A s.os.length c := by
 obtain ⟨A,c,h1,_⟩ := h.ovs.val
 exact ⟨A,c,by rw [h1,List.length_map]⟩
theorem Row.put_same {k : Ky} {b c T sz : Nat} {xs : List (List AV)} {n : Nat} (hn : n = xs.length) : Row (put I k (some (rowI b c T sz xs))) k (.slice (some ⟨b,0,none⟩) n c) T sz xs := .inr ⟨b,c,by rw [hn],Ev.put_same _ _ _⟩
end Go.Proofs.Ytnjccbnlmdajkaa
namespace Go.Proofs.Ytnjccbnlmdajkaa
open Go.RowKit Go.Shelf Go.Lib Go.Ev
set_option maxRecDepth 100000
variable {w0 W : World} {μ : Mu} {I : Ky → Option ItemO} {t fb : Nat} {s : FbC}
def FSt (t : Nat) (w0 : World) (μ : Mu) (I : Ky → Option ItemO) (fb : Nat) (a : FbA) (W : World) : Prop :=
 ∃ (μ' : Mu) (I' : Ky → Option ItemO) (s' : FbC),MuLe μ μ'∧Kst w0 μ' I' W∧FbR t I' fb s'∧s'.a = a∧∀ k : Ky,k.1 ≠ t → I' k = I k
def lnPost (lines : Int) (ln : List LnA) (i : Nat) (v : Vb) : List LnA :=
 match ln[v.node.toNat]? with
 | some l => ln.set v.node.toNat ⟨l.p.post v lines,l.pl ++ [(i : Int)]⟩
 | none => ln
def lnPosts (lines : Int) (vs : List Vb) (ln : List LnA) : Nat → List LnA
 | 0 => ln
 | i + 1 =>
  match vs[i]? with
  | some v => lnPost lines (lnPosts lines vs ln i) i v
  | none => lnPosts lines vs ln i
def ClA.post (x : ClA) (lines : Int) (vs : List Vb) : ClA := { x with ln := lnPosts lines vs x.ln vs.length,ba := List.replicate vs.length ⟨0,true,[]⟩,wt := vs.length,tr := wrap64 (x.tr + 1),po := wrap64 (x.po + vs.length) }
theorem vCells_dr {μ : Mu} {v : Vb} {A : Option Addr} {l c : Nat} (h : DR μ (.lst v.wn 1 (v.ws.map wr)) (.slice A l c)) : ∀ (j : Nat) (a : AV) (x : Value),v.row[j]? = some a → (vCells v.kind v.node v.at_ v.n v.old v.new A l c v.key v.boot).toList[j]? = some x → DR μ a x := fun j a x ha hx => by
 match j with
 | 0 => cases ha; cases hx; exact .v rfl
 | 1 => cases ha; cases hx; exact .v rfl
 | 2 => cases ha; cases hx; exact .v rfl
 | 3 => cases ha; cases hx; exact .v rfl
 | 4 => cases ha; cases hx; exact .v rfl
 | 5 => cases ha; cases hx; exact .v rfl
 | 6 => cases ha; cases hx; exact h
 | 7 => cases ha; cases hx; exact .v rfl
 | 8 => cases ha; cases hx; exact .v rfl
 | n + 9 => simp [Vb.row] at ha
theorem vCells_one {kd nd at_ n old nw : Int} {A : Option Addr} {l c : Nat} {key bt : Int} : ∀ v ∈ (vCells kd nd at_ n old nw A l c key bt).toList,v.oneCell' = true := fun v hv => by
 simp only [List.mem_cons,List.not_mem_nil,or_false] at hv
 rcases hv with rfl | rfl | rfl | rfl | rfl | rfl | rfl | rfl | rfl <;> rfl
theorem verb_b2 {hp : HF} {u : Vb} {A : Option Addr} {l c : Nat} (hd : DR μ (.lst u.wn 1 (u.ws.map wr)) (.slice A l c)) (xs : List Value) (hx : ∀ v ∈ xs,okC (.v v) = true) : B2s μ hp [] [] (.agg u.row :: xs.map AV.v) (.agg (vCells u.kind u.node u.at_ u.n u.old u.new A l c u.key u.boot) :: xs) :=
 .cons (F := []) (F' := []) (G := []) (G' := []) (.agg (b1s_drs (vs := (vCells u.kind u.node u.at_ u.n u.old u.new A l c u.key u.boot).toList) rfl (vCells_dr hd))) (b2s_vals xs hx)
theorem verb_at (hK : Kst w0 μ I W) {n : Bool} {vs : List Vb} {vb vo m c : Nat} (hd : DR μ (.lst n 9 (vs.map Vb.row)) (.slice (some ⟨vb,vo,none⟩) m c)) {i : Nat} {u : Vb} (hi : vs[i]? = some u) :
  ∃ (A : Option Addr) (l cc : Nat),VrbAt W vb (vo + i * 9) u.kind u.node u.at_ u.n u.old u.new A l cc u.key u.boot∧DR μ (.lst u.wn 1 (u.ws.map wr)) (.slice A l cc) := by
 obtain ⟨vb',vo',c',e,hcl⟩ := dr_cells hd hK.imm (by omega) (by simpa using ne_of hi)
 cases e
 have hrow : (vs.map Vb.row)[i]? = some u.row := get_map hi
 obtain ⟨_,q0,d0⟩ := hcl i 0 _ _ hrow rfl
 obtain rfl := dr_v d0
 obtain ⟨_,q1,d1⟩ := hcl i 1 _ _ hrow rfl
 obtain rfl := dr_v d1
 obtain ⟨_,q2,d2⟩ := hcl i 2 _ _ hrow rfl
 obtain rfl := dr_v d2
 obtain ⟨_,q3,d3⟩ := hcl i 3 _ _ hrow rfl
 obtain rfl := dr_v d3
 obtain ⟨_,q4,d4⟩ := hcl i 4 _ _ hrow rfl
 obtain rfl := dr_v d4
 obtain ⟨_,q5,d5⟩ := hcl i 5 _ _ hrow rfl
 obtain rfl := dr_v d5
 obtain ⟨_,q6,d6⟩ := hcl i 6 _ _ hrow rfl
 obtain ⟨A6,c6,rfl,_⟩ := dr_slice d6
 obtain ⟨_,q7,d7⟩ := hcl i 7 _ _ hrow rfl
 obtain rfl := dr_v d7
 obtain ⟨_,q8,d8⟩ := hcl i 8 _ _ hrow rfl
 obtain rfl := dr_v d8
 exact ⟨A6,_,c6,⟨q0,q1,q2,q3,q4,q5,q6,q7,q8⟩,d6⟩
theorem FbR.lane (h : FbR t I fb s) {J : Ky → Option ItemO} {c i : Nat} {x : ClC} {l l' : LnC} (hc : s.cl[c]? = some x) (hl : x.ln[i]? = some l) (hJ : ∀ k,k ≠ .par c i → k ≠ .plc c i → k ≠ .lan c → (∀ n,k ≠ .tmp n) → J (t,k) = I (t,k))
  (hlan : Row J (t,.lan c) x.lv 82 2 ((x.ln.map LnC.row).set i l'.row)) (hpar : ∃ F,J (t,.par c i) = some (obI l'.b F 99 (prC l'.a.p))) (hplc : Row J (t,.plc c i) l'.v 3 1 (l'.a.pl.map irow)) : FbR t J fb { s with cl := s.cl.set c { x with ln := x.ln.set i l' } } := by
 refine h.client (fun k _ hk hn => hJ k (fun e => by subst e; simp [FK.ofC] at hk) (fun e => by subst e; simp [FK.ofC] at hk) (fun e => by subst e; simp [FK.ofC] at hk) hn) ?_ ⟨?_,?_,(h.cl c x hc).bn,fun j y hy => ?_,fun j y hy => ?_⟩
 ·have : (s.cl.map ClC.row).set c (ClC.row { x with ln := x.ln.set i l' }) = s.cl.map ClC.row := by
   refine List.ext_getElem? fun j => ?_
   rw [List.getElem?_set]
   by_cases e : c = j
   ·subst e; rw [if_pos rfl,if_pos (by rw [List.length_map]; exact lt_of hc),get_map hc]; rfl
   ·rw [if_neg e]
  rw [this]
  exact h.cls.same (hJ _ (fun e => by cases e) (fun e => by cases e) (fun e => by cases e) fun n e => by cases e)
 ·show Row J (t,.lan c) x.lv 82 2 ((x.ln.set i l').map LnC.row)
  rw [map_set']; exact hlan
 ·exact (h.cl c x hc).bs.same (hJ _ (fun e => by cases e) (fun e => by cases e) (fun e => by cases e) fun n e => by cases e)
 ·rcases set_get hy with ⟨rfl,rfl⟩ | ⟨ne,hy⟩
  ·exact hpar
  ·rw [hJ _ (fun e => by cases e; exact ne rfl) (fun e => by cases e) (fun e => by cases e) fun n e => by cases e]; exact (h.cl c x hc).ps j y hy
 ·rcases set_get hy with ⟨rfl,rfl⟩ | ⟨ne,hy⟩
  ·exact hplc
  ·exact ((h.cl c x hc).pls j y hy).same (hJ _ (fun e => by cases e) (fun e => by cases e; exact ne rfl) (fun e => by cases e) fun n e => by cases e)
theorem f35_at : Try.prog.funcs[35]? = some Try.f35 := by kernel_rfl
theorem f36_at : Try.prog.funcs[36]? = some Try.f36 := by kernel_rfl
theorem und52 : Try.prog.underlying 52 = some (.slice 3) := by kernel_rfl
theorem inf3 : (Try.prog.info? 3).map (fun i => (i.zero,i.size,i.bytes)) = some (some (.int .i64 0),1,8) := by kernel_rfl
theorem inf67 : (Try.prog.info? 67).map (fun i => (i.zero,i.size,i.bytes)) = some (some (.agg #[.int .i64 0,.slice none 0 0]),2,32) := by kernel_rfl
theorem valid_call (hK : Kst w0 μ I W) {u : Vb} {A : Option Addr} {l c : Nat} (hd : DR μ (.lst u.wn 1 (u.ws.map wr)) (.slice A l c)) (n lines : Int) (hn : 1 ≤ n∧n ≤ 5) :
  Calls Try.prog 35 #[.agg (vCells u.kind u.node u.at_ u.n u.old u.new A l c u.key u.boot),.int .i64 n,.int .i64 lines] W fun e w' => e = .returned (.int .i64 (u.badN n lines))∧Kst w0 μ I w'∧KeptW [] W w' :=
 hK.vals mix extOk (xs := [.int .i64 (u.badN n lines)]) (s_vValidN u n lines hn) f35_at (verb_b2 hd [.int .i64 n,.int .i64 lines] fun v hv => by
  simp only [List.mem_cons,List.not_mem_nil,or_false] at hv
  rcases hv with rfl | rfl <;> rfl)
end Go.Proofs.Ytnjccbnlmdajkaa
namespace Go.Proofs.Ytnjccbnlmdajkaa
open Go.RowKit Go.Shelf Go.Lib Go.Ev
set_option maxRecDepth 100000
variable {w0 W : World} {μ : Mu} {I : Ky → Option ItemO} {t fb : Nat} {s : FbC}
def LnSt (t : Nat) (w0 : World) (μ : Mu) (I : Ky → Option ItemO) (fb : Nat) (s : FbC) (c : Nat) (x : ClC) (ln : List LnA) (W : World) : Prop :=
 ∃ (μ' : Mu) (I' : Ky → Option ItemO) (ln' : List LnC),MuLe μ μ'∧Kst w0 μ' I' W∧FbR t I' fb { s with cl := s.cl.set c { x with ln := ln' } }∧ln'.map LnC.a = ln∧∀ k : Ky,k.1 ≠ t → I' k = I k
theorem set_set' {α : Type} (l : List α) (c : Nat) (x y : α) : (l.set c x).set c y = l.set c y := List.set_set ..
theorem set_at {α : Type} {l : List α} {c : Nat} {x y : α} (h : l[c]? = some x) : (l.set c y)[c]? = some y := by rw [List.getElem?_set,if_pos rfl,if_pos (lt_of h)]
theorem key_ne {t : Nat} {a b : FK} (h : a ≠ b) : ((t,a) : Ky) ≠ (t,b) := fun e => h (Prod.mk.inj e).2
theorem put_frame {I J : Ky → Option ItemO} {t : Nat} {k : FK} {x : Option ItemO} (h : ∀ k : Ky,k.1 ≠ t → J k = I k) : ∀ k' : Ky,k'.1 ≠ t → put J (t,k) x k' = I k' := fun k' hk => by
 rw [put_ne _ _ (fun e => hk (by rw [e]))]; exact h k' hk
theorem post_rnd {vs : List Vb} {n : Bool} {vb vo m vc : Nat} {c i bc cc : Nat} {x : ClC} {ln : List LnA} {u : Vb} (hd : DR μ (.lst n 9 (vs.map Vb.row)) (.slice (some ⟨vb,vo,none⟩) m vc)) (hi : vs[i]? = some u) (hw : u.Wf) (hg : u.badN s.nd.length s.lines = 0) (hn5 : s.nd.length ≤ 5)
  (hc : s.cl[c]? = some x) (hcv : s.cv = .slice (some ⟨bc,0,none⟩) s.cl.length cc) (hnl : ln.length = s.nd.length) (hq : ∀ l ∈ ln,l.p.q.length ≤ 1024∧l.pl.length ≤ 1024) (hL : LnSt t w0 μ I fb s c x ln W) :
  PostRnd fb bc c s.nd.length s.lines vb vo i W (LnSt t w0 μ I fb s c x (lnPost s.lines ln i u)) := by
 obtain ⟨μ1,I1,ln1,hm1,hK,hR,ha,hfr⟩ := hL
 obtain ⟨_,hn0,hnlt⟩ := badN_bad (by omega) hg
 obtain ⟨nd,hnd⟩ : ∃ nd : Nat,u.node = nd := ⟨u.node.toNat,by omega⟩
 have hlen : ln1.length = ln.length := by rw [← ha,List.length_map]
 have hlt : nd < ln1.length := by omega
 obtain ⟨l,hl⟩ : ∃ l,ln1[nd]? = some l := ⟨_,List.getElem?_eq_getElem hlt⟩
 have hla : ln[nd]? = some l.a := by rw [← ha]; exact get_map hl
 obtain ⟨hq1,hq2⟩ := hq _ (List.mem_of_getElem? hla)
 obtain ⟨A,al,ac,hV,hdw⟩ := verb_at hK (hd.mono hm1) hi
 have hcx := set_at (y := { x with ln := ln1 }) hc
 obtain ⟨bc',cc',e1,hIc,hAt⟩ := hR.clsAt hK hcx
 rw [show ({ s with cl := s.cl.set c { x with ln := ln1 } } : FbC).cv = s.cv from rfl,hcv] at e1
 injection e1 with g1 g2 g3
 injection g1 with g1
 injection g1 with g1
 subst g1 g3
 have hCl := hR.cl c _ hcx
 obtain ⟨bl,lc,e2,hIl,hp0,hp1⟩ := hCl.lnAt hK hl
 obtain ⟨F,hIp⟩ := hCl.ps nd l hl
 have e2' : x.lv = .slice (some ⟨bl,0,none⟩) ln1.length lc := e2
 have hlv := hAt.lv
 rw [show ({ x with ln := ln1 } : ClC).lv = x.lv from rfl,e2'] at hlv
 rw [hnd] at hV
 refine ⟨u.kind,nd,u.at_,u.n,u.old,u.new,A,al,ac,u.key,u.boot,bl,ln1.length,lc,l.b,hV,fun o => alloc_cell (hR.c0 hK),fun o => alloc_cell hlv,hlt,fun o => alloc_cell hp0,?_⟩
 rw [← hnd]
 have hKa := ((hK.kept0 (KeptW.alloc W (.cells (vCells u.kind u.node u.at_ u.n u.old u.new A al ac u.key u.boot) 50))).drew).drew
 refine (hKa.call1 mix extOk hIp (verb_b2 hdw [.int .i64 s.lines] fun v hv => by
  simp only [List.mem_cons,List.not_mem_nil,or_false] at hv
  subst hv; rfl) (ra := [.v (.int .i64 (l.a.p.postE u s.lines))]) (s_Post l.a.p u s.lines hw hq1) f36_at rfl).mono fun e w' he => ?_
 obtain ⟨us,μ2,F1,G1,F',rfl,hb,hm2,hK2,_,_,_⟩ := he
 obtain ⟨rfl,_⟩ := b2s_vals_inv (F := F1) (G := G1) [.int .i64 (l.a.p.postE u s.lines)] hb
 have ePrC : (match pO (l.a.p.post u s.lines) with | .ob _ cs => cs | _ => []) = prC (l.a.p.post u s.lines) := rfl
 have hplc := ((hCl.pls nd l hl).put (l := (t,.par c nd)) (x := some (obI l.b F' 99 (prC (l.a.p.post u s.lines)))) (key_ne fun e => by cases e))
 have hIl2 : put I1 (t,.par c nd) (some (obI l.b F' 99 (prC (l.a.p.post u s.lines)))) (t,.lan c) = some (rowI bl lc 82 2 (ln1.map LnC.row)) := put_get hIl (key_ne fun e => by cases e)
 have hKE := hK2.kept0 (KeptW.alloc w' (.cells #[.int .i64 i] 3))
 obtain ⟨I3,hI3,hIz,hIs,hIb⟩ := info_parts inf3
 obtain ⟨b',c',W2,hrun,hK3,_,_⟩ := hKE.rapp (P := Try.prog) (es := irow i) hplc und52 hI3 hIz hIs (by omega) (by omega) rfl (by rw [List.length_map]; omega) (Ev.alloc_new w' _) rfl (fun v hv => by simp at hv; subst hv; rfl) rfl fun jj v x hv hx => by
  cases jj with
  | zero => cases hv; cases hx; exact .v rfl
  | succ j => simp [irow] at hv
 obtain ⟨PA,pc,epl,_⟩ := hplc.val
 rw [List.length_map] at epl hrun
 rw [epl] at hrun
 have hIl3 : put (put I1 (t,.par c nd) (some (obI l.b F' 99 (prC (l.a.p.post u s.lines))))) (t,.plc c nd) (some (rowI b' c' 3 1 (l.a.pl.map irow ++ [irow i]))) (t,.lan c) = some (rowI bl lc 82 2 (ln1.map LnC.row)) := put_get hIl2 (key_ne fun e => by cases e)
 have hpc2 := hK2.rcell hIl2 (get_map (f := LnC.row) hl) (j := 1) rfl
 rw [epl] at hpc2
 have hfz := hK3.rfrozen hIl3 (i := nd) (j := 1) (by rw [List.length_map]; exact hlt) (by omega)
 have hc3 := hK3.rcell hIl3 (get_map (f := LnC.row) hl) (j := 1) rfl
 have hK4 := hK3.rset hIl3 (get_map (f := LnC.row) hl) (j := 1) (by omega) (a := .v (.slice (some ⟨b',0,none⟩) (l.a.pl.length + 1) c')) (v := .slice (some ⟨b',0,none⟩) (l.a.pl.length + 1) c') (.v rfl)
 refine ⟨_,PA,_,pc,b',c',W2,rfl,hpc2,fun ty => hrun ty,hfz,⟨_,hc3⟩,μ2,_,ln1.set nd ⟨l.b,.slice (some ⟨b',0,none⟩) (l.a.pl.length + 1) c',⟨l.a.p.post u s.lines,l.a.pl ++ [(i : Int)]⟩⟩,hm1.trans hm2,hK4,?_,?_,?_⟩
 ·have := hR.lane (J := put (put (put I1 (t,.par c nd) (some (obI l.b F' 99 (prC (l.a.p.post u s.lines))))) (t,.plc c nd) (some (rowI b' c' 3 1 (l.a.pl.map irow ++ [irow i])))) (t,.lan c) (some (rowI bl lc 82 2 ((ln1.map LnC.row).set nd (l.row.set 1 (.v (.slice (some ⟨b',0,none⟩) (l.a.pl.length + 1) c')))))))
   hcx hl (l' := ⟨l.b,.slice (some ⟨b',0,none⟩) (l.a.pl.length + 1) c',⟨l.a.p.post u s.lines,l.a.pl ++ [(i : Int)]⟩⟩) (fun k h1 h2 h3 _ => by
    rw [put_ne _ _ (key_ne h3),put_ne _ _ (key_ne h2),put_ne _ _ (key_ne h1)]) ?_ ?_ ?_
  ·rw [show ({ s with cl := s.cl.set c { x with ln := ln1 } } : FbC).cl = s.cl.set c { x with ln := ln1 } from rfl,set_set'] at this
   exact this
  ·rw [show ({ x with ln := ln1 } : ClC).lv = x.lv from rfl,e2']
   exact Row.put_same (by rw [List.length_set,List.length_map])
  ·exact ⟨F',put_get (put_get (put_same _ _ _) (key_ne fun e => by cases e)) (key_ne fun e => by cases e)⟩
  ·refine .inr ⟨b',c',?_,?_⟩
   ·show _ = Value.slice _ ((l.a.pl ++ [(i : Int)]).map irow).length c'
    rw [List.length_map,List.length_append]; rfl
   ·rw [put_ne _ _ (key_ne fun e => by cases e),put_same,List.map_append]; rfl
 ·rw [map_set',ha]
  unfold lnPost
  rw [hnd,Int.toNat_natCast,hla]
 ·exact put_frame (put_frame (put_frame hfr))
end Go.Proofs.Ytnjccbnlmdajkaa
namespace Go.Proofs.Ytnjccbnlmdajkaa
open Go.RowKit Go.Shelf Go.Lib Go.Ev
set_option maxRecDepth 100000
variable {w0 W : World} {μ : Mu} {I : Ky → Option ItemO} {t : Nat}
theorem b0s_v {hp : HF} : ∀ {F : List Nat} {vs us : List Value},B0s μ hp F (vs.map AV.v) us → us = vs
 | _,[],us,h => by cases h; rfl
 | _,v :: vs,us,h => by
  cases h with
  | cons h k => rw [b0s_v k,(b0_v h).1]
theorem Kst.setv (h : Kst w0 μ I W) {k : Ky} {b ty : Nat} {F : List Nat} {vs : List Value} (hk : I k = some (obI b F ty (vs.map AV.v))) (j : Nat) (x : Value) (hx : okC (.v x) = true) (hj : Nat.ble (j + 1) vs.length = true) :
  ∃ F',Kst w0 μ (put I k (some (obI b F' ty ((vs.set j x).map AV.v)))) (W.setCell ⟨b,j,none⟩ x)∧W.frozen? ⟨b,j,none⟩ = false∧(∃ y,W.cell? ⟨b,j,none⟩ = some y) := by
 have hj : j < vs.length := Nat.le_of_ble_eq_true hj
 obtain ⟨F',_,hK⟩ := h.set hk j (a := .v x) (v := x) (.v hx)
 refine ⟨F',?_,h.frozen hk j,_,h.cell hk (j := j) (x := vs[j]) (by rw [List.getElem?_map,List.getElem?_eq_getElem hj]; rfl)⟩
 rw [show (vs.set j x).map AV.v = (vs.map AV.v).set j (.v x) from List.map_set ..]
 exact hK
abbrev vC (a0 a1 a2 a3 a4 a5 : Int) (wv : Value) (a7 a8 : Int) : List Value := [.int .i64 a0,.int .i64 a1,.int .i64 a2,.int .i64 a3,.int .u64 a4,.int .u64 a5,wv,.int .u64 a7,.int .i64 a8]
theorem und48 : Try.prog.underlying 48 = some (.slice 47) := by kernel_rfl
theorem inf47 : (Try.prog.info? 47).map (fun i => (i.zero,i.size,i.bytes)) = some (some (.int .u64 0),1,8) := by kernel_rfl
def VbSt (t : Nat) (w0 : World) (μ : Mu) (I : Ky → Option ItemO) (b i : Nat) (W : World) : Prop :=
 ∃ (I' : Ky → Option ItemO) (F F2 : List Nat) (a0 a1 a2 a3 a4 a5 a7 a8 : Int) (wv : Value) (ws : List Int),Kst w0 μ I' W∧I' (t,.tmp 20) = some (obI (b + 1) F 50 ((vC a0 a1 a2 a3 a4 a5 wv a7 a8).map AV.v)) ∧
  I' (t,.tmp 22) = some (obI b F2 50 ((vC 0 0 0 0 0 0 (.slice none 0 0) 0 0).map AV.v))∧Row I' (t,.tmp 21) wv 47 1 (ws.map wr)∧ws.length = i∧i ≤ 23∧∀ k,k ≠ (t,.tmp 20) → k ≠ (t,.tmp 21) → k ≠ (t,.tmp 22) → I' k = I k
theorem vC_ok {a0 a1 a2 a3 a4 a5 : Int} {A : Option Addr} {l c : Nat} {a7 a8 : Int} : ∀ v ∈ vC a0 a1 a2 a3 a4 a5 (.slice A l c) a7 a8,okC (.v v) = true := fun v hv => by
 simp only [List.mem_cons,List.not_mem_nil,or_false] at hv
 rcases hv with rfl | rfl | rfl | rfl | rfl | rfl | rfl | rfl | rfl <;> rfl
theorem tmp_ne {t m n : Nat} (h : m ≠ n) : ((t,.tmp m) : Ky) ≠ (t,.tmp n) := fun e => h (by injection e with _ e; injection e)
theorem vb_rnd {b i : Nat} (hi : i < 23) (h : VbSt t w0 μ I b i W) : VbRnd (b + 1) i W (VbSt t w0 μ I b) := by
 obtain ⟨I',F,F2,a0,a1,a2,a3,a4,a5,a7,a8,wv,ws,hK,h20,h22,hr,hl,hi23,hf⟩ := h
 obtain ⟨A,c,rfl,_⟩ := hr.val
 rw [List.length_map,hl] at hr h20
 obtain ⟨I47,hI,hIz,hIs,hIb⟩ := info_parts inf47
 have hx : ∀ x : Int,∃ y : Nat × Nat × World,(∀ ty,(Builtin.append_ #[48,48] ty #[.slice A i c,.slice (some ⟨W.heap.size,0,none⟩) 1 1]).run Try.prog (W.alloc (.cells #[.int .u64 x] 47)) = .ok (.slice (some ⟨y.1,0,none⟩) (i + 1) y.2.1) y.2.2) ∧
   Kst w0 μ (put I' (t,.tmp 21) (some (rowI y.1 y.2.1 47 1 (ws.map wr ++ [wr x])))) y.2.2 := fun x => by
  have hKe := hK.kept0 (KeptW.alloc W (.cells #[.int .u64 x] 47))
  obtain ⟨b',c',W2,hrun,hK2,_,_⟩ := hKe.rapp (P := Try.prog) (es := wr x) hr und48 hI hIz hIs (by omega) (by omega) rfl (by rw [List.length_map]; omega) (Ev.alloc_new W _) rfl (fun v hv => by simp at hv; subst hv; rfl) rfl fun jj u v hu hv => by
   cases jj with
   | zero => cases hu; cases hv; exact .v rfl
   | succ j => simp [wr] at hu
  rw [List.length_map,hl] at hrun
  exact ⟨(b',c',W2),hrun,hK2⟩
 obtain ⟨Y,hY⟩ := Classical.axiomOfChoice hx
 have g20 : ∀ x,(put I' (t,.tmp 21) (some (rowI (Y x).1 (Y x).2.1 47 1 (ws.map wr ++ [wr x])))) (t,.tmp 20) = _ := fun x => put_get h20 (tmp_ne (by omega))
 refine ⟨A,i,c,fun x => (Y x).1,fun x => (Y x).2.1,fun x => (Y x).2.2,hK.cell h20 (j := 6) rfl,fun x ty => (hY x).1 ty,fun x => (hY x).2.frozen (g20 x) 6,fun x => (hY x).2.cell (g20 x) (j := 6) rfl,fun x => ?_⟩
 obtain ⟨F',hK3,_,_⟩ := Kst.setv (hY x).2 (g20 x) 6 (.slice (some ⟨(Y x).1,0,none⟩) (i + 1) (Y x).2.1) rfl rfl
 refine ⟨_,F',F2,a0,a1,a2,a3,a4,a5,a7,a8,.slice (some ⟨(Y x).1,0,none⟩) (i + 1) (Y x).2.1,ws ++ [x],hK3,put_same _ _ _,put_get (put_get h22 (tmp_ne (by omega))) (tmp_ne (by omega)),.inr ⟨(Y x).1,(Y x).2.1,?_,put_get ?_ (tmp_ne (by omega))⟩,by rw [List.length_append,hl]; rfl,by omega,fun k k1 k2 k3 => ?_⟩
 ·rw [List.length_map,List.length_append,hl]; rfl
 ·rw [put_same,List.map_append]; rfl
 ·rw [put_ne _ _ k1,put_ne _ _ k2]; exact hf k k1 k2 k3
def VbRes (t : Nat) (w0 : World) (μ : Mu) (I : Ky → Option ItemO) (v : Value) (W : World) : Prop :=
 ∃ (a0 a1 a2 a3 a4 a5 a7 a8 : Int) (A : Option Addr) (wc : Nat) (ws : List Int) (I' : Ky → Option ItemO),v = .agg #[.int .i64 a0,.int .i64 a1,.int .i64 a2,.int .i64 a3,.int .u64 a4,.int .u64 a5,.slice A ws.length wc,.int .u64 a7,.int .i64 a8] ∧
  Kst w0 μ I' W∧Row I' (t,.tmp 21) (.slice A ws.length wc) 47 1 (ws.map wr)∧ws.length ≤ 23∧∀ k,k ≠ (t,.tmp 20) → k ≠ (t,.tmp 21) → k ≠ (t,.tmp 22) → I' k = I k
theorem vb_end {b i : Nat} (h : VbSt t w0 μ I b i W) : VbEnd (b + 1) b W (VbRes t w0 μ I) := by
 obtain ⟨I',F,F2,a0,a1,a2,a3,a4,a5,a7,a8,wv,ws,hK,h20,h22,hr,hl,hi23,hf⟩ := h
 obtain ⟨A,c,rfl,_⟩ := hr.val
 rw [List.length_map] at hr h20
 have hn : ((t,.tmp 20) : Ky) ≠ (t,.tmp 22) := tmp_ne (by omega)
 obtain ⟨F0,k0,f0,c0⟩ := Kst.setv hK h22 0 (.int .i64 a0) rfl rfl
 obtain ⟨F1,k1,f1,c1⟩ := Kst.setv k0 (put_same _ _ _) 1 (.int .i64 a1) rfl rfl
 rw [put_put] at k1
 obtain ⟨F2',k2,f2,c2⟩ := Kst.setv k1 (put_same _ _ _) 2 (.int .i64 a2) rfl rfl
 rw [put_put] at k2
 obtain ⟨F3,k3,f3,c3⟩ := Kst.setv k2 (put_same _ _ _) 3 (.int .i64 a3) rfl rfl
 rw [put_put] at k3
 obtain ⟨F4,k4,f4,c4⟩ := Kst.setv k3 (put_same _ _ _) 4 (.int .u64 a4) rfl rfl
 rw [put_put] at k4
 obtain ⟨F5,k5,f5,c5⟩ := Kst.setv k4 (put_same _ _ _) 5 (.int .u64 a5) rfl rfl
 rw [put_put] at k5
 obtain ⟨F6,k6,f6,c6⟩ := Kst.setv k5 (put_same _ _ _) 6 (.slice A ws.length c) rfl rfl
 rw [put_put] at k6
 obtain ⟨F7,k7,f7,c7⟩ := Kst.setv k6 (put_same _ _ _) 7 (.int .u64 a7) rfl rfl
 rw [put_put] at k7
 obtain ⟨F8,k8,f8,c8⟩ := Kst.setv k7 (put_same _ _ _) 8 (.int .i64 a8) rfl rfl
 rw [put_put] at k8
 obtain ⟨_,cur,_,hH,_,hB⟩ := k8.ob (put_same _ _ _)
 have hc := b0s_v hB
 refine ⟨a0,a1,a2,a3,a4,a5,a7,a8,A,ws.length,c,_,_,_,_,_,_,_,_,_,hK.cell h20 (j := 0) rfl,hK.cell h20 (j := 1) rfl,hK.cell h20 (j := 2) rfl,hK.cell h20 (j := 3) rfl,hK.cell h20 (j := 4) rfl,hK.cell h20 (j := 5) rfl,hK.cell h20 (j := 6) rfl,hK.cell h20 (j := 7) rfl,hK.cell h20 (j := 8) rfl,
  f0,c0,rfl,f1,c1,rfl,f2,c2,rfl,f3,c3,rfl,f4,c4,rfl,f5,c5,rfl,f6,c6,rfl,f7,c7,rfl,f8,c8,rfl,?_,a0,a1,a2,a3,a4,a5,a7,a8,A,c,ws,_,rfl,k8,hr.put (tmp_ne (by omega)),by omega,fun k q1 q2 q3 => ?_⟩
 ·rw [hH]
  have : cur = #[.int .i64 a0,.int .i64 a1,.int .i64 a2,.int .i64 a3,.int .u64 a4,.int .u64 a5,.slice A ws.length c,.int .u64 a7,.int .i64 a8] := Array.toList_inj.1 hc
  rw [this]
 ·rw [put_ne _ _ q3]; exact hf k q1 q2 q3
theorem verb_ok (t : Nat) (hK : Kst w0 μ I W) (kind node at_ n key boot old new_ : Int) :
  Calls Try.prog 34 #[.int .i64 kind,.int .i64 node,.int .i64 at_,.int .i64 n,.int .i64 key,.int .i64 boot,.int .u64 old,.int .u64 new_] W fun e w' => ∃ v,e = .returned v∧VbRes t w0 μ I v w' := by
 refine verb_walk kind node at_ n key boot old new_ W (VbSt t w0 μ I W.heap.size) (VbRes t w0 μ I) (fun a0 a1 a2 a3 a7 a8 => ?_) ⟨fun i W' hi h => vb_rnd hi h,fun i W' h => vb_end h⟩
 have k1 := hK.alloc (t,.tmp 22) (cs := (vC 0 0 0 0 0 0 (.slice none 0 0) 0 0).map AV.v) (cur := #[.int .i64 0,.int .i64 0,.int .i64 0,.int .i64 0,.int .u64 0,.int .u64 0,.slice none 0 0,.int .u64 0,.int .i64 0]) (ty := 50) (b0s_vals (vC 0 0 0 0 0 0 (.slice none 0 0) 0 0) vC_ok)
 obtain ⟨W1,hW1⟩ : ∃ W1,W.alloc vbZ = W1 := ⟨_,rfl⟩
 have hs1 : W1.heap.size = W.heap.size + 1 := by rw [← hW1]; exact Array.size_push ..
 rw [show (W.alloc (.cells #[.int .i64 0,.int .i64 0,.int .i64 0,.int .i64 0,.int .u64 0,.int .u64 0,.slice none 0 0,.int .u64 0,.int .i64 0] 50 (0,0))) = W1 from hW1] at k1
 have k2 := k1.alloc (t,.tmp 20) (cs := (vC a0 a1 a2 a3 old new_ (.slice none 0 0) a7 a8).map AV.v) (cur := #[.int .i64 a0,.int .i64 a1,.int .i64 a2,.int .i64 a3,.int .u64 old,.int .u64 new_,.slice none 0 0,.int .u64 a7,.int .i64 a8]) (ty := 50) (b0s_vals (vC a0 a1 a2 a3 old new_ (.slice none 0 0) a7 a8) vC_ok)
 rw [hs1] at k2
 rw [hW1]
 exact ⟨_,_,_,a0,a1,a2,a3,old,new_,a7,a8,.slice none 0 0,[],k2,put_same _ _ _,put_get (put_same _ _ _) (tmp_ne (by omega)),.inl ⟨rfl,rfl⟩,rfl,by omega,fun k q1 q2 q3 => by rw [put_ne _ _ q1,put_ne _ _ q3]⟩
end Go.Proofs.Ytnjccbnlmdajkaa
namespace Go.Proofs.Ytnjccbnlmdajkaa
open Go.RowKit Go.Shelf Go.Lib Go.Ev
set_option maxRecDepth 100000
variable {w0 W : World} {μ : Mu} {I : Ky → Option ItemO} {t : Nat}
structure Rw where
 kind : Int
 node : Int
 at_ : Int
 n : Int
 old : Int
 new : Int
def Rw.row (r : Rw) : List AV := [.v (.int .i64 r.kind),.v (.int .i64 r.node),.v (.int .i64 r.at_),.v (.int .i64 r.n),.v (.int .u64 r.old),.v (.int .u64 r.new)]
theorem inf50 : (Try.prog.info? 50).map (fun i => (i.zero,i.size,i.bytes)) = some (some (.agg #[.int .i64 0,.int .i64 0,.int .i64 0,.int .i64 0,.int .u64 0,.int .u64 0,.slice none 0 0,.int .u64 0,.int .i64 0]),9,88) := by kernel_rfl
theorem und35 : Try.prog.underlying 35 = some (.slice 50) := by kernel_rfl
def NoTmp (t : Nat) (I I' : Ky → Option ItemO) : Prop := ∀ k : Ky,(∀ n,k ≠ (t,.tmp n)) → I' k = I k
def VsSt (t : Nat) (w0 : World) (μ : Mu) (I : Ky → Option ItemO) (i : Nat) (A : Option Addr) (l c : Nat) (W : World) : Prop :=
 ∃ (μ' : Mu) (I' : Ky → Option ItemO) (vs : List Vb),MuLe μ μ'∧Kst w0 μ' I' W∧Row I' (t,.tmp 30) (.slice A l c) 50 9 (vs.map Vb.row)∧vs.length = i∧l = i∧(∀ u ∈ vs,u.Wf)∧NoTmp t I I'
theorem vs_fin {i : Nat} {A : Option Addr} {l c b6 : Nat} {μ1 : Mu} {I1 : Ky → Option ItemO} {vs : List Vb} {F : List Nat} {y0 y1 y2 y3 y4 y5 : Int} {YA : Option Addr} {ws : List Int} {yc : Nat} (hi : i < 50000) (hm : MuLe μ μ1) (hl : vs.length = i) (hli : l = i) (hw : ∀ u ∈ vs,u.Wf) (hf : NoTmp t I I1)
  (hK : Kst w0 μ1 I1 W) (hr : Row I1 (t,.tmp 30) (.slice A l c) 50 9 (vs.map Vb.row)) (h23 : I1 (t,.tmp 23) = some (obI b6 F 50 ((vC y0 y1 y2 y3 y4 y5 (.slice YA ws.length yc) 0 0).map AV.v))) (hws : Row I1 (t,.tmp 21) (.slice YA ws.length yc) 47 1 (ws.map wr)) (hw1 : ws.length ≤ 1000) :
  VsFin b6 A l c y0 y1 y2 y3 y4 y5 YA ws.length yc W (VsSt t w0 μ I (i + 1)) := by
 subst hl
 subst hli
 obtain ⟨μ',wn,hm',hK',hd,hn⟩ := hK.rfrz hws
 have hKe := hK'.kept0 (KeptW.alloc W (.cells (vCells y0 y1 y2 y3 y4 y5 YA ws.length yc 0 0) 50))
 obtain ⟨I50,hI,hIz,hIs,hIb⟩ := info_parts inf50
 have hr' := hr.put (x := none) (tmp_ne (t := t) (m := 30) (n := 21) (by omega))
 have hwf : (⟨y0,y1,y2,y3,y4,y5,wn,ws,0,0⟩ : Vb).Wf := ⟨fun h => by
  have := hn h
  simpa using this,by show ws.length ≤ 100000; omega⟩
 obtain ⟨b',c',W2,hrun,hK2,_,_⟩ := hKe.rapp (P := Try.prog) (es := Vb.row ⟨y0,y1,y2,y3,y4,y5,wn,ws,0,0⟩) hr' und35 hI hIz hIs (by omega) (by omega) rfl (by rw [List.length_map]; omega) (Ev.alloc_new W _) rfl vCells_one rfl fun jj u x hu hx => vCells_dr (v := ⟨y0,y1,y2,y3,y4,y5,wn,ws,0,0⟩) hd jj u x hu (by rw [Array.getElem?_toList]; exact hx)
 rw [List.length_map] at hrun
 refine ⟨b',c',W2,⟨hK.cell h23 (j := 0) rfl,hK.cell h23 (j := 1) rfl,hK.cell h23 (j := 2) rfl,hK.cell h23 (j := 3) rfl,hK.cell h23 (j := 4) rfl,hK.cell h23 (j := 5) rfl,hK.cell h23 (j := 6) rfl,hK.cell h23 (j := 7) rfl,hK.cell h23 (j := 8) rfl⟩,fun ty => hrun ty,
  μ',_,vs ++ [⟨y0,y1,y2,y3,y4,y5,wn,ws,0,0⟩],hm.trans hm',hK2,.inr ⟨b',c',?_,?_⟩,?_,rfl,fun u hu => ?_,fun k hk => ?_⟩
 ·rw [List.length_map,List.length_append]; rfl
 ·rw [put_same,List.map_append]; rfl
 ·rw [List.length_append]; rfl
 ·rcases List.mem_append.1 hu with hu | hu
  ·exact hw u hu
  ·simp at hu; subst hu; exact hwf
 ·rw [put_ne _ _ (hk 30),put_ne _ _ (hk 21)]; exact hf k hk
theorem vs_rnd {n : Bool} {rs : List Rw} {vb vo m vc : Nat} (hd : DR μ (.lst n 6 (rs.map Rw.row)) (.slice (some ⟨vb,vo,none⟩) m vc)) (hm : rs.length ≤ 50000) {i : Nat} {A : Option Addr} {l c : Nat} (hi : i < rs.length) (h : VsSt t w0 μ I i A l c W) : VsRnd vb vo i A l c W (VsSt t w0 μ I (i + 1)) := by
 obtain ⟨μ1,I1,vs,hm1,hK,hr,hl,hli,hwf,hf⟩ := h
 obtain ⟨r,hri⟩ : ∃ r,rs[i]? = some r := ⟨_,List.getElem?_eq_getElem hi⟩
 have hne : rs.map Rw.row ≠ [] := fun e => by
  have := congrArg List.length e
  rw [List.length_map] at this
  simp at this; subst this; simp at hi
 obtain ⟨vb',vo',vc',e,hcell⟩ := dr_cells (W := W) (hd.mono hm1) hK.imm (by omega) hne
 injection e with e1 e2 e3
 injection e1 with e1
 injection e1 with e1 e4
 subst e1 e4
 have hat : ∀ (j : Nat) (x : Value),r.row[j]? = some (.v x) → W.cell? ⟨vb,vo + i * 6 + j,none⟩ = some x := fun j x hx => by
  obtain ⟨y,h1,h2⟩ := hcell i j r.row (.v x) (by rw [List.getElem?_map,hri]; rfl) hx
  rw [h1,dr_v h2]
 obtain ⟨W1,hW1⟩ : ∃ W1,W.alloc (.cells #[.int .i64 r.kind,.int .i64 r.node,.int .i64 r.at_,.int .i64 r.n,.int .u64 r.old,.int .u64 r.new] 76) = W1 := ⟨_,rfl⟩
 have kA := hK.alloc (t,.tmp 24) (cs := [Value.int .i64 r.kind,.int .i64 r.node,.int .i64 r.at_,.int .i64 r.n,.int .u64 r.old,.int .u64 r.new].map AV.v) (cur := #[.int .i64 r.kind,.int .i64 r.node,.int .i64 r.at_,.int .i64 r.n,.int .u64 r.old,.int .u64 r.new]) (ty := 76)
  (b0s_vals [.int .i64 r.kind,.int .i64 r.node,.int .i64 r.at_,.int .i64 r.n,.int .u64 r.old,.int .u64 r.new] fun v hv => by
   simp only [List.mem_cons,List.not_mem_nil,or_false] at hv
   rcases hv with rfl | rfl | rfl | rfl | rfl | rfl <;> rfl)
 rw [hW1] at kA
 refine ⟨r.kind,r.node,r.at_,r.n,r.old,r.new,hat 0 _ rfl,hat 1 _ rfl,hat 2 _ rfl,hat 3 _ rfl,hat 4 _ rfl,hat 5 _ rfl,?_⟩
 rw [hW1]
 refine (verb_ok t kA r.kind r.node r.at_ r.n 1 1 r.old r.new).mono fun e w' he => ?_
 obtain ⟨v,rfl,a0,a1,a2,a3,a4,a5,a7,a8,WA,wc,ws,I2,rfl,hK2,hrw,hwl,hf2⟩ := he
 refine ⟨a0,a1,a2,a3,a4,a5,WA,ws.length,wc,a7,a8,rfl,?_⟩
 have hf3 : ∀ k : Ky,(∀ n,k ≠ (t,.tmp n)) → I2 k = I k := fun k hk => by
  rw [hf2 k (hk _) (hk _) (hk _),put_ne _ _ (hk _)]; exact hf k hk
 have hr2 : Row I2 (t,.tmp 30) (.slice A l c) 50 9 (vs.map Vb.row) := (hr.put (x := some (obI W.heap.size [W.heap.size] 76 _)) (tmp_ne (n := 24) (by omega))).same (hf2 _ (tmp_ne (by omega)) (tmp_ne (by omega)) (tmp_ne (by omega)))
 have h24 : I2 (t,.tmp 24) = some (obI W.heap.size [W.heap.size] 76 ([Value.int .i64 r.kind,.int .i64 r.node,.int .i64 r.at_,.int .i64 r.n,.int .u64 r.old,.int .u64 r.new].map AV.v)) := (hf2 _ (tmp_ne (by omega)) (tmp_ne (by omega)) (tmp_ne (by omega))).trans (put_same _ _ _)
 have k3 := hK2.alloc (t,.tmp 23) (cs := (vC a0 a1 a2 a3 a4 a5 (.slice WA ws.length wc) a7 a8).map AV.v) (cur := vCells a0 a1 a2 a3 a4 a5 WA ws.length wc a7 a8) (ty := 50) (b0s_vals (vC a0 a1 a2 a3 a4 a5 (.slice WA ws.length wc) a7 a8) vC_ok)
 obtain ⟨F7,k7,f7,c7⟩ := Kst.setv k3 (put_same _ _ _) 7 (.int .u64 0) rfl rfl
 rw [put_put] at k7
 obtain ⟨F8,k8,f8,c8⟩ := Kst.setv k7 (put_same _ _ _) 8 (.int .i64 0) rfl rfl
 rw [put_put] at k8
 have q24 : ∀ {x},put I2 (t,.tmp 23) x (t,.tmp 24) = _ := fun {x} => put_get h24 (tmp_ne (by omega))
 have hK8 := k8.drew
 have s3 : ∀ {μ3 : Mu} {x : Option ItemO} {w : World},Kst w0 μ3 (put I2 (t,.tmp 23) x) w → S3 W.heap.size r.kind r.node r.at_ w := fun {μ3 x w} h => ⟨h.cell q24 (j := 0) rfl,h.cell q24 (j := 1) rfl,h.cell q24 (j := 2) rfl⟩
 refine ⟨_,_,⟨f7,c7,rfl⟩,⟨f8,c8,rfl⟩,k8.cell q24 (j := 3) rfl,fun _ => ?_,fun _ => ?_⟩
 ·refine vs_fin (by omega) hm1 hl hli hwf (fun k hk => ?_) k8 (hr2.put (tmp_ne (by omega))) (put_same _ _ _) (hrw.put (tmp_ne (by omega))) (by omega)
  rw [put_ne _ _ (hk _)]; exact hf3 k hk
 ·obtain ⟨G0,g0,d0,e0⟩ := Kst.setv hK8 (put_same _ _ _) 0 (.int .i64 (pick r.kind 4 + 1)) rfl rfl
  rw [put_put] at g0
  obtain ⟨G1,g1,d1,e1⟩ := Kst.setv g0 (put_same _ _ _) 1 (.int .i64 (pick r.node 2)) rfl rfl
  rw [put_put] at g1
  obtain ⟨G2,g2,d2,e2⟩ := Kst.setv g1 (put_same _ _ _) 2 (.int .i64 (pick r.at_ 60 + 32)) rfl rfl
  rw [put_put] at g2
  obtain ⟨G3,g3,d3,e3⟩ := Kst.setv g2 (put_same _ _ _) 3 (.int .i64 (pick r.n 20 + 1)) rfl rfl
  rw [put_put] at g3
  have gA := g3.kept0 (KeptW.alloc _ (.cells #[.int .u64 7] 47))
  obtain ⟨I47,hI,hIz,hIs,hIb⟩ := info_parts inf47
  obtain ⟨b',c',W4,hrun,g4,_,_⟩ := gA.rapp (P := Try.prog) (es := wr 7) (hrw.put (l := (t,.tmp 23)) (tmp_ne (by omega))) und48 hI hIz hIs (by omega) (by omega) rfl (by rw [List.length_map]; omega) (Ev.alloc_new _ _) rfl (fun v hv => by simp at hv; subst hv; rfl) rfl fun jj u v hu hv => by
   cases jj with
   | zero => cases hu; cases hv; exact .v rfl
   | succ j => simp [wr] at hu
  rw [List.length_map] at hrun
  obtain ⟨G6,g6,d6,e6⟩ := Kst.setv g4 (put_get (put_same _ _ _) (tmp_ne (by omega))) 6 (.slice (some ⟨b',0,none⟩) (ws.length + 1) c') rfl rfl
  refine ⟨_,_,_,_,W4,_,b',c',s3 hK8,⟨d0,e0,rfl⟩,s3 g0,⟨d1,e1,rfl⟩,s3 g1,⟨d2,e2,rfl⟩,s3 g2,g2.cell q24 (j := 3) rfl,⟨d3,e3,rfl⟩,g3.cell (put_same _ _ _) (j := 6) rfl,fun ty => hrun ty,⟨d6,e6,rfl⟩,?_⟩
  have el : ws.length + 1 = (ws ++ [7]).length := by rw [List.length_append]; rfl
  rw [el] at g6 ⊢
  refine vs_fin (by omega) hm1 hl hli hwf (fun k hk => ?_) g6 ((hr2.put (tmp_ne (by omega))).put (tmp_ne (by omega)) |>.put (tmp_ne (by omega))) (put_same _ _ _) (.inr ⟨b',c',by rw [List.length_map],put_get ?_ (tmp_ne (by omega))⟩) (by rw [List.length_append]; simp; omega)
  ·rw [put_ne _ _ (hk _),put_ne _ _ (hk _),put_ne _ _ (hk _)]; exact hf3 k hk
  ·rw [put_same,List.map_append]; rfl
theorem verbs_ok (t : Nat) (hK : Kst w0 μ I W) {n : Bool} {rs : List Rw} {v : Value} (hd : DR μ (.lst n 6 (rs.map Rw.row)) v) (hm : 1 ≤ rs.length∧rs.length ≤ 50000) :
  Calls Try.prog 17 #[v] W fun e w' => ∃ (μ' : Mu) (I' : Ky → Option ItemO) (vs : List Vb) (n' : Bool) (A : Option Addr) (c : Nat),e = .returned (.slice A vs.length c)∧MuLe μ μ'∧Kst w0 μ' I' w'∧DR μ' (.lst n' 9 (vs.map Vb.row)) (.slice A vs.length c)∧vs.length = rs.length∧(∀ u ∈ vs,u.Wf)∧NoTmp t I I' := by
 have hne : rs.map Rw.row ≠ [] := fun e => by
  rw [List.map_eq_nil_iff] at e
  rw [e] at hm; simp at hm
 obtain ⟨vb,vo,vc,rfl,_⟩ := dr_cells (W := W) hd hK.imm (by omega) hne
 rw [List.length_map] at hd ⊢
 refine (verbs_walk vb vo rs.length vc W (VsSt t w0 μ I) (by omega) ?_ fun i A l c W' hi h => vs_rnd hd hm.2 hi h).mono fun e w' he => ?_
 ·exact ⟨μ,put I (t,.tmp 30) none,[],MuLe.refl _,hK.drop _,.inl ⟨rfl,rfl⟩,rfl,rfl,fun u hu => by simp at hu,fun k hk => put_ne _ _ (hk _)⟩
 ·obtain ⟨A,l,c,rfl,μ1,I1,vs,hm1,hK1,hr,hl,hli,hwf,hf⟩ := he
  obtain ⟨μ2,n',hm2,hK2,hd2,_⟩ := hK1.rfrz hr
  rw [hli,← hl] at hd2 ⊢
  exact ⟨μ2,_,vs,n',A,c,rfl,hm1.trans hm2,hK2,hd2,rfl,hwf,fun k hk => by rw [put_ne _ _ (hk _)]; exact hf k hk⟩
end Go.Proofs.Ytnjccbnlmdajkaa
namespace Go.Proofs.Ytnjccbnlmdajkaa
open Go.RowKit Go.Shelf Go.Lib Go.Ev
set_option maxRecDepth 100000
variable {w0 W : World} {μ : Mu} {I : Ky → Option ItemO} {t fb : Nat} {s : FbC}
def prNew (c inc i : Int) : Pr := ⟨c,inc,i,true,[],0,true,[]⟩
def lnNew (c inc : Int) (n : Nat) : List LnA := (List.range n).map fun (i : Nat) => (⟨prNew c inc (i : Int),[]⟩ : LnA)
theorem lnNew_succ (c inc : Int) (n : Nat) : lnNew c inc (n + 1) = lnNew c inc n ++ [⟨prNew c inc n,[]⟩] := by
 unfold lnNew
 rw [List.range_succ,List.map_append]; rfl
theorem und72 : Try.prog.underlying 72 = some (.slice 82) := by kernel_rfl
theorem inf82 : (Try.prog.info? 82).map (fun i => (i.zero,i.size,i.bytes)) = some (some (.agg #[.pointer none,.slice none 0 0]),2,32) := by kernel_rfl
theorem f51_at : Try.prog.funcs[51]? = some Try.f51 := by kernel_rfl
theorem s_newPair (c inc i : Int) (hc : 0 ≤ c∧c < 6) (hn : 0 ≤ inc∧inc ≤ 59) (hi : 0 ≤ i∧i < 5) : ev 51 [.v (.int .i64 c),.v (.int .i64 inc),.v (.int .i64 i)] = some (.ob 99 (prC (prNew c inc i)) :: [Value.int .i64 0].map AV.v) := by
 rw [ev51,ltI_f (by omega),leI_f (by omega),ltI_f (by omega),ltI_f (by omega),ltI_f (by omega),leI_f (by omega)]; rfl
def CnSt (t : Nat) (w0 : World) (μ : Mu) (I : Ky → Option ItemO) (fb : Nat) (s : FbC) (c : Nat) (x : ClC) (inc : Int) (i : Nat) (W : World) : Prop :=
 ∃ (I' : Ky → Option ItemO) (lv : Value) (ln : List LnC),Kst w0 μ I' W∧FbR t I' fb { s with cl := s.cl.set c { x with al := true,inc := inc,lv := lv,ln := ln } }∧ln.map LnC.a = lnNew c inc i∧∀ k : Ky,k.1 ≠ t → I' k = I k
theorem cn_rnd {c i bc cc : Nat} {x : ClC} {inc : Int} (hc : s.cl[c]? = some x) (hcv : s.cv = .slice (some ⟨bc,0,none⟩) s.cl.length cc) (hc6 : c < 6) (hinc : 0 ≤ inc∧inc ≤ 59) (hi : i < 5) (hJ : CnSt t w0 μ I fb s c x inc i W) :
  Calls Try.prog 51 #[.int .i64 c,.int .i64 inc,.int .i64 i] W (CnPost c bc (CnSt t w0 μ I fb s c x inc (i + 1))) := by
 obtain ⟨I1,lv,ln,hK,hR,ha,hfr⟩ := hJ
 have hll : ln.length = i := by rw [← List.length_map (f := LnC.a),ha]; simp [lnNew]
 have hcx := set_at (y := { x with al := true,inc := inc,lv := lv,ln := ln }) hc
 obtain ⟨bc',cc',e1,hIc,hAt⟩ := hR.clsAt hK hcx
 rw [show ({ s with cl := s.cl.set c { x with al := true,inc := inc,lv := lv,ln := ln } } : FbC).cv = s.cv from rfl,hcv] at e1
 injection e1 with g1 g2 g3
 injection g1 with g1
 injection g1 with g1
 subst g1 g3
 have hCl := hR.cl c _ hcx
 refine (hK.mkOb mix extOk (t,.par c i) (s_newPair c inc i (by omega) hinc (by omega)) rfl f51_at (vals := [.int .i64 c,.int .i64 inc,.int .i64 i]) (b2s_vals [.int .i64 c,.int .i64 inc,.int .i64 i] fun v hv => by
  simp only [List.mem_cons,List.not_mem_nil,or_false] at hv
  rcases hv with rfl | rfl | rfl <;> rfl)).mono fun e w' he => ?_
 obtain ⟨pb,F,rfl,hK2,_,_⟩ := he
 have hls : Row (put I1 (t,.par c i) (some (obI pb F 99 (prC (prNew c inc i))))) (t,.lan c) lv 82 2 (ln.map LnC.row) := hCl.ls.put (key_ne fun e => by cases e)
 have hIc2 : put I1 (t,.par c i) (some (obI pb F 99 (prC (prNew c inc i)))) (t,.cls) = _ := put_get hIc (key_ne fun e => by cases e)
 have hKe := hK2.kept0 (KeptW.alloc w' (.cells #[.pointer (some ⟨pb,0,none⟩),.slice none 0 0] 82))
 obtain ⟨I82,hI,hIz,hIs,hIb⟩ := info_parts inf82
 obtain ⟨b',c',W4,hrun,hK4,_,_⟩ := hKe.rapp (P := Try.prog) (es := LnC.row ⟨pb,.slice none 0 0,⟨prNew c inc i,[]⟩⟩) hls und72 hI hIz hIs (by omega) (by omega) rfl (by rw [List.length_map]; omega) (Ev.alloc_new w' _) rfl (fun v hv => by
  simp only [List.mem_cons,List.not_mem_nil,or_false] at hv
  rcases hv with rfl | rfl <;> rfl) rfl fun jj u v hu hv => by
  match jj with
  | 0 => cases hu; cases hv; exact .v rfl
  | 1 => cases hu; cases hv; exact .v rfl
  | n + 2 => simp [LnC.row] at hu
 obtain ⟨LA,lc,elv,_⟩ := hls.val
 rw [List.length_map] at elv hrun
 rw [elv] at hrun
 have hIc4 : put (put I1 (t,.par c i) (some (obI pb F 99 (prC (prNew c inc i))))) (t,.lan c) (some (rowI b' c' 82 2 (ln.map LnC.row ++ [LnC.row ⟨pb,.slice none 0 0,⟨prNew c inc i,[]⟩⟩]))) (t,.cls) = _ := put_get hIc2 (key_ne fun e => by cases e)
 have hr0 := get_map (f := ClC.row) hcx
 have hcm : c < ((s.cl.set c { x with al := true,inc := inc,lv := lv,ln := ln }).map ClC.row).length := by rw [List.length_map]; exact lt_of hcx
 have cl2 := hK2.rcell hIc2 hr0 (j := 2) rfl
 rw [show ({ x with al := true,inc := inc,lv := lv,ln := ln } : ClC).lv = lv from rfl,elv] at cl2
 have f4 := hK4.rfrozen hIc4 hcm (j := 2) (by omega)
 have c4 := hK4.rcell hIc4 hr0 (j := 2) rfl
 have hK5 := hK4.rset hIc4 hr0 (j := 2) (by omega) (a := .v (.slice (some ⟨b',0,none⟩) (ln.length + 1) c')) (v := .slice (some ⟨b',0,none⟩) (ln.length + 1) c') (.v rfl)
 refine ⟨pb,0,LA,ln.length,lc,b',c',W4,rfl,cl2,fun ty => hrun ty,f4,⟨_,c4⟩,_,.slice (some ⟨b',0,none⟩) (ln.length + 1) c',ln ++ [⟨pb,.slice none 0 0,⟨prNew c inc i,[]⟩⟩],hK5,?_,?_,put_frame (put_frame (put_frame hfr))⟩
 ·have := hR.client (J := put (put (put I1 (t,.par c i) (some (obI pb F 99 (prC (prNew c inc i))))) (t,.lan c) (some (rowI b' c' 82 2 (ln.map LnC.row ++ [LnC.row ⟨pb,.slice none 0 0,⟨prNew c inc i,[]⟩⟩])))) (t,.cls) (some (rowI bc cc 74 7 (((s.cl.set c { x with al := true,inc := inc,lv := lv,ln := ln }).map ClC.row).set c ((ClC.row { x with al := true,inc := inc,lv := lv,ln := ln }).set 2 (.v (.slice (some ⟨b',0,none⟩) (ln.length + 1) c')))))))
   (c := c) (x' := { x with al := true,inc := inc,lv := .slice (some ⟨b',0,none⟩) (ln.length + 1) c',ln := ln ++ [⟨pb,.slice none 0 0,⟨prNew c inc i,[]⟩⟩] })
   (fun k h1 h2 _ => by rw [put_ne _ _ (key_ne h1),put_ne _ _ (key_ne fun e => by subst e; simp [FK.ofC] at h2),put_ne _ _ (key_ne fun e => by subst e; simp [FK.ofC] at h2)]) ?_ ⟨?_,?_,hCl.bn,fun j l hl => ?_,fun j l hl => ?_⟩
  ·rw [show ({ s with cl := s.cl.set c { x with al := true,inc := inc,lv := lv,ln := ln } } : FbC).cl = s.cl.set c { x with al := true,inc := inc,lv := lv,ln := ln } from rfl,set_set'] at this
   exact this
  ·rw [show ({ s with cl := s.cl.set c { x with al := true,inc := inc,lv := lv,ln := ln } } : FbC).cv = s.cv from rfl,hcv]
   exact Row.put_same (by rw [List.length_set,List.length_map,List.length_set])
  ·refine .inr ⟨b',c',?_,put_get ?_ (key_ne fun e => by cases e)⟩
   ·show Value.slice _ (ln.length + 1) c' = Value.slice _ ((ln ++ [_]).map LnC.row).length c'
    rw [List.length_map,List.length_append]; rfl
   ·rw [put_same,List.map_append]; rfl
  ·exact hCl.bs.same (by rw [put_ne _ _ (key_ne fun e => by cases e),put_ne _ _ (key_ne fun e => by cases e),put_ne _ _ (key_ne fun e => by cases e)])
  ·rw [put_ne _ _ (key_ne fun e => by cases e),put_ne _ _ (key_ne fun e => by cases e)]
   rcases app1_cases hl with hl | ⟨rfl,rfl⟩
   ·have := lt_of hl
    rw [put_ne _ _ (key_ne fun e => by cases e; omega)]
    exact hCl.ps j l hl
   ·rw [hll]; exact ⟨F,put_same _ _ _⟩
  ·rcases app1_cases hl with hl | ⟨rfl,rfl⟩
   ·exact (hCl.pls j l hl).same (by rw [put_ne _ _ (key_ne fun e => by cases e),put_ne _ _ (key_ne fun e => by cases e),put_ne _ _ (key_ne fun e => by cases e)])
   ·exact .inl ⟨rfl,rfl⟩
 ·rw [List.map_append,ha,lnNew_succ]; rfl
end Go.Proofs.Ytnjccbnlmdajkaa
namespace Go.Proofs.Ytnjccbnlmdajkaa
open Go.RowKit Go.Shelf Go.Lib Go.Ev
set_option maxRecDepth 100000
variable {w0 W : World} {μ : Mu} {I : Ky → Option ItemO} {t fb : Nat} {s : FbC}
abbrev dn0 : DnA := ⟨0,true,[]⟩
theorem made_get (z : Array Value) (n j : Nat) (h : j < n) : (madeCells z n)[j]? = some z[j % z.size]! := by
 rw [madeCells,Array.getElem?_map,Array.getElem?_range,if_pos h]; rfl
theorem rowD_dn (m : Nat) : RowD μ 2 ((List.replicate m dn0).map DnA.row) (madeCells (Value.agg #[.int .i64 0,.slice none 0 0]).cells (m * 2)) := by
 refine ⟨fun e he => ?_,fun k e j u he hu => ?_⟩
 ·obtain ⟨d,hd,rfl⟩ := List.mem_map.1 he
  rfl
 ·rw [List.getElem?_map,List.getElem?_replicate] at he
  by_cases hk : k < m
  ·rw [if_pos hk] at he
   cases he
   have hj := lt_of hu
   match j,hj with
   | 0,_ =>
    cases hu
    refine ⟨.int .i64 0,?_,.v rfl⟩
    rw [made_get _ _ _ (by omega),show (k * 2 + 0) % (Value.agg #[.int .i64 0,.slice none 0 0]).cells.size = 0 from Nat.mul_mod_left k 2]; rfl
   | 1,_ =>
    cases hu
    refine ⟨.slice none 0 0,?_,dr_nil⟩
    rw [made_get _ _ _ (by omega),show (k * 2 + 1) % (Value.agg #[.int .i64 0,.slice none 0 0]).cells.size = 1 from Nat.mul_add_mod_self_right k 2 1]; rfl
  ·rw [if_neg hk] at he; cases he
theorem set_a {s : FbC} {c : Nat} {x : ClC} : ({ s with cl := s.cl.set c x } : FbC).a = { s.a with cl := s.a.cl.set c x.a } := by
 unfold FbC.a; simp only [map_set']
theorem post_end {c m bc cc : Nat} {x : ClC} {ln : List LnA} (hm : 1 ≤ m∧m ≤ 1024) (hc : s.cl[c]? = some x) (hcv : s.cv = .slice (some ⟨bc,0,none⟩) s.cl.length cc) (hL : LnSt t w0 μ I fb s c x ln W) :
  PostEnd bc c m W (FSt t w0 μ I fb { s.a with cl := s.a.cl.set c { x.a with ln := ln,ba := List.replicate m dn0,wt := m,tr := wrap64 (x.tr + 1),po := wrap64 (x.po + m) } }) := by
 obtain ⟨μ1,I1,ln1,hm1,hK,hR,ha,hfr⟩ := hL
 obtain ⟨I67,hI,hIz,hIs,hIb⟩ := info_parts inf67
 have hmk := run_makeSlice (P := Try.prog) (w := W) 44 67 I67 (.agg #[.int .i64 0,.slice none 0 0]) und44 hI hIz .i64 .i64 m m (by omega) (by omega) (by rw [hIs]; omega) (by rw [hIb]; omega) (by omega)
 rw [hIs,Int.toNat_natCast] at hmk
 have hcx := set_at (y := { x with ln := ln1 }) hc
 obtain ⟨bc',cc',e1,hIc,_⟩ := hR.clsAt hK hcx
 rw [show ({ s with cl := s.cl.set c { x with ln := ln1 } } : FbC).cv = s.cv from rfl,hcv] at e1
 injection e1 with g1 g2 g3
 injection g1 with g1
 injection g1 with g1
 subst g1 g3
 have hK1 := hK.allocR (t,.bat c) (T := 67) (c := m) (sz := 2) (xs := (List.replicate m dn0).map DnA.row) (size_madeCells (Value.agg #[.int .i64 0,.slice none 0 0]).cells (m * 2)) (by rw [List.length_map,List.length_replicate]; exact Nat.le_refl _) (rowD_dn m)
 obtain ⟨W1,hW1⟩ : ∃ W1,W.alloc (.cells (madeCells (Value.agg #[.int .i64 0,.slice none 0 0]).cells (m * 2)) 67 (0,0)) = W1 := ⟨_,rfl⟩
 rw [hW1] at hK1
 have hI1 : put I1 (t,.bat c) (some (rowI W.heap.size m 67 2 ((List.replicate m dn0).map DnA.row))) (t,.cls) = some (rowI bc cc 74 7 ((s.cl.set c { x with ln := ln1 }).map ClC.row)) := put_get hIc (key_ne fun e => by cases e)
 have hcm : c < ((s.cl.set c { x with ln := ln1 }).map ClC.row).length := by rw [List.length_map]; exact lt_of hcx
 have hr0 : ((s.cl.set c { x with ln := ln1 }).map ClC.row)[c]? = some (ClC.row { x with ln := ln1 }) := get_map hcx
 have f1 := hK1.rfrozen hI1 hcm (j := 3) (by omega)
 have c1 := hK1.rcell hI1 hr0 (j := 3) rfl
 have hK2 := hK1.rset hI1 hr0 (j := 3) (by omega) (a := .v (.slice (some ⟨W.heap.size,0,none⟩) m m)) (v := .slice (some ⟨W.heap.size,0,none⟩) m m) (.v rfl)
 obtain ⟨W2,hW2⟩ : ∃ W2,W1.setCell ⟨bc,c * 7 + 3,none⟩ (.slice (some ⟨W.heap.size,0,none⟩) m m) = W2 := ⟨_,rfl⟩
 rw [hW2] at hK2
 have hI2 := put_same (put I1 (t,.bat c) (some (rowI W.heap.size m 67 2 ((List.replicate m dn0).map DnA.row)))) (t,.cls) (some (rowI bc cc 74 7 (((s.cl.set c { x with ln := ln1 }).map ClC.row).set c ((ClC.row { x with ln := ln1 }).set 3 (.v (.slice (some ⟨W.heap.size,0,none⟩) m m))))))
 have hr2 := set_at (y := (ClC.row { x with ln := ln1 }).set 3 (.v (.slice (some ⟨W.heap.size,0,none⟩) m m))) hr0
 have f2 := hK2.rfrozen hI2 (i := c) (j := 4) (by rw [List.length_set]; exact hcm) (by omega)
 have c2 := hK2.rcell hI2 hr2 (j := 4) rfl
 have hK3 := hK2.rset hI2 hr2 (j := 4) (by omega) (a := .v (.int .i64 m)) (v := .int .i64 m) (.v rfl)
 obtain ⟨W3,hW3⟩ : ∃ W3,W2.setCell ⟨bc,c * 7 + 4,none⟩ (.int .i64 m) = W3 := ⟨_,rfl⟩
 rw [hW3,put_put,set_set'] at hK3
 have hI3 := put_same (put I1 (t,.bat c) (some (rowI W.heap.size m 67 2 ((List.replicate m dn0).map DnA.row)))) (t,.cls) (some (rowI bc cc 74 7 (((s.cl.set c { x with ln := ln1 }).map ClC.row).set c (((ClC.row { x with ln := ln1 }).set 3 (.v (.slice (some ⟨W.heap.size,0,none⟩) m m))).set 4 (.v (.int .i64 m))))))
 have hr3 := set_at (y := ((ClC.row { x with ln := ln1 }).set 3 (.v (.slice (some ⟨W.heap.size,0,none⟩) m m))).set 4 (.v (.int .i64 m))) hr0
 have f3 := hK3.rfrozen hI3 (i := c) (j := 5) (by rw [List.length_set]; exact hcm) (by omega)
 have c3 := hK3.rcell hI3 hr3 (j := 5) rfl
 have hK4 := hK3.rset hI3 hr3 (j := 5) (by omega) (a := .v (.int .i64 (wrap64 (x.tr + 1)))) (v := .int .i64 (wrap64 (x.tr + 1))) (.v rfl)
 obtain ⟨W4,hW4⟩ : ∃ W4,W3.setCell ⟨bc,c * 7 + 5,none⟩ (.int .i64 (wrap64 (x.tr + 1))) = W4 := ⟨_,rfl⟩
 rw [hW4,put_put,set_set'] at hK4
 have hI4 := put_same (put I1 (t,.bat c) (some (rowI W.heap.size m 67 2 ((List.replicate m dn0).map DnA.row)))) (t,.cls) (some (rowI bc cc 74 7 (((s.cl.set c { x with ln := ln1 }).map ClC.row).set c ((((ClC.row { x with ln := ln1 }).set 3 (.v (.slice (some ⟨W.heap.size,0,none⟩) m m))).set 4 (.v (.int .i64 m))).set 5 (.v (.int .i64 (wrap64 (x.tr + 1))))))))
 have hr4 := set_at (y := (((ClC.row { x with ln := ln1 }).set 3 (.v (.slice (some ⟨W.heap.size,0,none⟩) m m))).set 4 (.v (.int .i64 m))).set 5 (.v (.int .i64 (wrap64 (x.tr + 1))))) hr0
 have f4 := hK4.rfrozen hI4 (i := c) (j := 6) (by rw [List.length_set]; exact hcm) (by omega)
 have c4 := hK4.rcell hI4 hr4 (j := 6) rfl
 have hK5 := hK4.rset hI4 hr4 (j := 6) (by omega) (a := .v (.int .i64 (wrap64 (x.po + m)))) (v := .int .i64 (wrap64 (x.po + m))) (.v rfl)
 rw [put_put,set_set'] at hK5
 refine ⟨madeCells (Value.agg #[.int .i64 0,.slice none 0 0]).cells (m * 2),W2,W3,W4,_,x.tr,x.po,hmk,by rw [hW1]; exact f1,by rw [hW1]; exact ⟨_,c1⟩,by rw [hW1]; exact hW2,f2,⟨_,c2⟩,hW3,f3,c3,hW4,f4,c4,rfl,?_⟩
 refine ⟨μ1,_,{ s with cl := s.cl.set c { x with ln := ln1,bv := .slice (some ⟨W.heap.size,0,none⟩) m m,ba := List.replicate m dn0,wt := m,tr := wrap64 (x.tr + 1),po := wrap64 (x.po + m) } },hm1,hK5,?_,?_,put_frame (put_frame hfr)⟩
 ·have hCl := hR.cl c _ hcx
  have := hR.client (J := put (put I1 (t,.bat c) (some (rowI W.heap.size m 67 2 ((List.replicate m dn0).map DnA.row)))) (t,.cls) (some (rowI bc cc 74 7 (((s.cl.set c { x with ln := ln1 }).map ClC.row).set c (ClC.row { x with ln := ln1,bv := .slice (some ⟨W.heap.size,0,none⟩) m m,ba := List.replicate m dn0,wt := m,tr := wrap64 (x.tr + 1),po := wrap64 (x.po + m) })))))
   (c := c) (x' := { x with ln := ln1,bv := .slice (some ⟨W.heap.size,0,none⟩) m m,ba := List.replicate m dn0,wt := m,tr := wrap64 (x.tr + 1),po := wrap64 (x.po + m) })
   (fun k h1 h2 _ => by rw [put_ne _ _ (key_ne h1),put_ne _ _ (key_ne fun e => by subst e; simp [FK.ofC] at h2)]) ?_ ⟨?_,?_,?_,fun i l hl => ?_,fun i l hl => ?_⟩
  ·rw [show ({ s with cl := s.cl.set c { x with ln := ln1 } } : FbC).cl = s.cl.set c { x with ln := ln1 } from rfl,set_set'] at this
   exact this
  ·rw [show ({ s with cl := s.cl.set c { x with ln := ln1 } } : FbC).cv = s.cv from rfl,hcv]
   exact Row.put_same (by rw [List.length_set,List.length_map,List.length_set])
  ·exact hCl.ls.same (by rw [put_ne _ _ (key_ne fun e => by cases e),put_ne _ _ (key_ne fun e => by cases e)])
  ·refine .inr ⟨W.heap.size,m,?_,put_get (put_same _ _ _) (key_ne fun e => by cases e)⟩
   rw [List.length_map]
   show _ = Value.slice _ (List.replicate m dn0).length m
   rw [List.length_replicate]
  ·intro e
   have : (List.replicate m dn0).length = 0 := by rw [show List.replicate m dn0 = [] from e]; rfl
   rw [List.length_replicate] at this; omega
  ·rw [put_ne _ _ (key_ne fun e => by cases e),put_ne _ _ (key_ne fun e => by cases e)]; exact hCl.ps i l hl
  ·exact (hCl.pls i l hl).same (by rw [put_ne _ _ (key_ne fun e => by cases e),put_ne _ _ (key_ne fun e => by cases e)])
 ·rw [set_a]
  show _ = _
  unfold ClC.a
  simp only [ha]
end Go.Proofs.Ytnjccbnlmdajkaa
namespace Go.Proofs.Ytnjccbnlmdajkaa
open Go.RowKit Go.Shelf Go.Lib Go.Ev
attribute [local go_sem] Oper.semAt_some
attribute [local go_sem] neq_nil neq_some eql_some eql_nil
set_option maxRecDepth 100000
variable {w0 W : World} {μ : Mu} {I : Ky → Option ItemO} {t fb : Nat} {s : FbC}
theorem connect_ok (hK : Kst w0 μ I W) (hR : FbR t I fb s) {c : Nat} {x : ClC} {inc : Int} (hc : s.cl[c]? = some x) (hc6 : c < 6) (hinc : 0 ≤ inc∧inc ≤ 59) (hn5 : s.nd.length ≤ 5) :
  Calls Try.prog 32 #[ptr fb,.int .i64 c,.int .i64 inc] W fun e w' => e = .returned (.tuple #[])∧FSt t w0 μ I fb { s.a with cl := s.a.cl.set c { x.a with al := true,inc := inc,ln := lnNew c inc s.nd.length } } w' := by
 obtain ⟨bc,cc,hcv,hIc,hAt⟩ := hR.clsAt hK hc
 have h2 := hR.c2 hK
 rw [hcv] at h2
 have hcm : c < (s.cl.map ClC.row).length := by rw [List.length_map]; exact lt_of hc
 have hr0 : (s.cl.map ClC.row)[c]? = some x.row := get_map hc
 have f1 := hK.rfrozen hIc hcm (j := 0) (by omega)
 have c1 := hK.rcell hIc hr0 (j := 0) rfl
 have hK2 := hK.rset hIc hr0 (j := 0) (by omega) (a := .v (.bool true)) (v := .bool true) (.v rfl)
 obtain ⟨W2,hW2⟩ : ∃ W2,W.setCell ⟨bc,c * 7 + 0,none⟩ (.bool true) = W2 := ⟨_,rfl⟩
 rw [hW2] at hK2
 have hI2 := put_same I (t,.cls) (some (rowI bc cc 74 7 ((s.cl.map ClC.row).set c (x.row.set 0 (.v (.bool true))))))
 have hr2 := set_at (y := x.row.set 0 (.v (.bool true))) hr0
 have f2 := hK2.rfrozen hI2 (i := c) (j := 1) (by rw [List.length_set]; exact hcm) (by omega)
 have c2 := hK2.rcell hI2 hr2 (j := 1) rfl
 have hK3 := hK2.rset hI2 hr2 (j := 1) (by omega) (a := .v (.int .i64 inc)) (v := .int .i64 inc) (.v rfl)
 obtain ⟨W3,hW3⟩ : ∃ W3,W2.setCell ⟨bc,c * 7 + 1,none⟩ (.int .i64 inc) = W3 := ⟨_,rfl⟩
 rw [hW3,put_put,set_set'] at hK3
 have hI3 := put_same I (t,.cls) (some (rowI bc cc 74 7 ((s.cl.map ClC.row).set c ((x.row.set 0 (.v (.bool true))).set 1 (.v (.int .i64 inc))))))
 have hr3 := set_at (y := (x.row.set 0 (.v (.bool true))).set 1 (.v (.int .i64 inc))) hr0
 have f3 := hK3.rfrozen hI3 (i := c) (j := 2) (by rw [List.length_set]; exact hcm) (by omega)
 have c3 := hK3.rcell hI3 hr3 (j := 2) rfl
 have hK4 := hK3.rset hI3 hr3 (j := 2) (by omega) (a := .v (.slice none 0 0)) (v := .slice none 0 0) (.v rfl)
 obtain ⟨W4,hW4⟩ : ∃ W4,W3.setCell ⟨bc,c * 7 + 2,none⟩ (.slice none 0 0) = W4 := ⟨_,rfl⟩
 rw [hW4,put_put,set_set'] at hK4
 have hx' : ((x.row.set 0 (.v (.bool true))).set 1 (.v (.int .i64 inc))).set 2 (.v (.slice none 0 0)) = ClC.row { x with al := true,inc := inc,lv := .slice none 0 0,ln := [] } := rfl
 rw [hx'] at hK4
 have hCl := hR.cl c x hc
 have hR4 := hR.client (J := put I (t,.cls) (some (rowI bc cc 74 7 ((s.cl.map ClC.row).set c (ClC.row { x with al := true,inc := inc,lv := .slice none 0 0,ln := [] }))))) (c := c) (x' := { x with al := true,inc := inc,lv := .slice none 0 0,ln := [] })
  (fun k h1 _ _ => put_ne _ _ (key_ne h1)) (by rw [hcv]; exact Row.put_same (by rw [List.length_set,List.length_map]))
  ⟨.inl ⟨rfl,rfl⟩,hCl.bs.put (key_ne fun e => by cases e),hCl.bn,fun i l hl => by simp at hl,fun i l hl => by simp at hl⟩
 have hJ0 : CnSt t w0 μ I fb s c x inc 0 W4 := ⟨_,.slice none 0 0,[],hK4,hR4,rfl,put_frame fun _ _ => rfl⟩
 obtain ⟨NA,ca,hnv,_⟩ := hR.nds.val
 rw [List.length_map] at hnv
 have hn1 := hR4.c1 hK4
 rw [show ({ s with cl := s.cl.set c { x with al := true,inc := inc,lv := .slice none 0 0,ln := [] } } : FbC).nv = s.nv from rfl,hnv] at hn1
 refine (connect_walk fb bc c s.cl.length cc s.nd.length ca NA inc W W2 W3 W4 (fun i W => CnSt t w0 μ I fb s c x inc i W) (by omega) h2 (lt_of hc) hW2 hW3 hW4 f1 f2 f3 ⟨_,c1⟩ ⟨_,c2⟩ ⟨_,c3⟩ hn1 hJ0 fun i W' hi hJ => cn_rnd hc hcv hc6 hinc (by omega) hJ).mono fun e w' he => ?_
 obtain ⟨rfl,I',lv,ln,hK',hR',ha,hfr⟩ := he
 refine ⟨rfl,μ,I',_,MuLe.refl _,hK',hR',?_,hfr⟩
 unfold FbC.a ClC.a
 simp only [map_set',ha]
end Go.Proofs.Ytnjccbnlmdajkaa
