/- The example of chapter 6: its fabric. -/
import Derived.Test.YtnjccbnlmdajkaaFabS
import Derived.Test.YtnjccbnlmdajkaaPstW
set_option linter.all false
namespace Go.Proofs.Ytnjccbnlmdajkaa
open Go.RowKit Go.Shelf Go.Lib Go.Ev
set_option maxRecDepth 100000
abbrev row1 : List AV := [.v (.int .i64 3),.v (.int .i64 0),.v (.int .i64 0),.v (.int .i64 0),.v (.int .u64 0),.v (.int .u64 4),.lst true 1 [],.v (.int .u64 0),.v (.int .i64 0)]
abbrev row2 : List AV := [.v (.int .i64 1),.v (.int .i64 0),.v (.int .i64 0),.v (.int .i64 1),.v (.int .u64 0),.v (.int .u64 0),.lst true 1 [],.v (.int .u64 0),.v (.int .i64 0)]
abbrev pAA (qn : Bool) (q : List (List AV)) (wl : AV) : AV := .ob 99 [.v (.int .i64 0),.v (.int .i64 1),.v (.int .i64 0),.ow qn 50 9 q,.v (.int .i64 0),wl]
abbrev pA0 : AV := pAA true [] (.ow true 47 1 [])
abbrev pA1 : AV := pAA false [row1] (.ow true 47 1 [])
abbrev pA2 : AV := pAA false [row1,row2] (.ow true 47 1 [])
abbrev pA3 : AV := pAA false [row2] (.lst true 0 [])
abbrev pA4 : AV := pAA false [] (.lst true 0 [])
abbrev n0 : AV := ndO (List.replicate 40 0) false
abbrev n1 : AV := ndO (4 :: List.replicate 39 0) false
theorem e35a : ev 35 [.agg row1,.v (.int .i64 1),.v (.int .i64 5)] = some [.v (.int .i64 0)] := evL_of (n := 60) (by kernel_rfl)
theorem e35b : ev 35 [.agg row2,.v (.int .i64 1),.v (.int .i64 5)] = some [.v (.int .i64 0)] := evL_of (n := 60) (by kernel_rfl)
theorem e36a : ev 36 [pA0,.agg row1,.v (.int .i64 5)] = some ([.v (.int .i64 0)] ++ [pA1]) := evL_of (n := 60) (by kernel_rfl)
theorem e36b : ev 36 [pA1,.agg row2,.v (.int .i64 5)] = some ([.v (.int .i64 0)] ++ [pA2]) := evL_of (n := 60) (by kernel_rfl)
theorem e39a : ev 39 [pA2,n0] = some ([.agg [.v (.int .i64 0),.lst false 1 [[.v (.int .u64 0)]]],.v (.bool true)] ++ [pA3,n1]) := evL_of (n := 60) (by kernel_rfl)
theorem e39b : ev 39 [pA3,n1] = some ([.agg [.v (.int .i64 0),.lst false 1 [[.v (.int .u64 4)]]],.v (.bool true)] ++ [pA4,n1]) := evL_of (n := 60) (by kernel_rfl)
structure AD where
 bn : Nat
 cn : Nat
 bc : Nat
 bl : Nat
 cl : Nat
 pn : Nat
 pp : Nat
 curf : Array Value
 curn : Array Value
 curc : Array Value
 curl : Array Value
 Fn : List Nat
 Fp : List Nat
abbrev AD.its (d : AD) (na pa : AV) : List ItemO := [⟨.pointer (some ⟨d.pn,0,none⟩),d.Fn,na⟩,⟨.pointer (some ⟨d.pp,0,none⟩),d.Fp,pa⟩]
abbrev AD.raw (d : AD) (bf : Nat) (ext : List RawB) : List RawB := rawC bf d.curf 62 :: rawC d.bn d.curn 28 :: rawC d.bc d.curc 74 :: rawC d.bl d.curl 82 :: ext
structure AK (w : World) (bf : Nat) (d : AD) (na pa : AV) (bat plc : Value) (wv tr po : Int) (ext : List RawB) (W : World) : Prop where
 st : Wst w (d.its na pa) (d.raw bf ext) W
 f : d.curf[0]? = some (.int .i64 5)∧d.curf[1]? = some (.slice (some ⟨d.bn,0,none⟩) 1 d.cn)∧d.curf[2]? = some (.slice (some ⟨d.bc,0,none⟩) 1 1)∧d.curf[3]? = some (.slice none 0 0)
 n : d.curn[0]? = some (.pointer (some ⟨d.pn,0,none⟩))
 c : d.curc[0]? = some (.bool true)∧d.curc[1]? = some (.int .i64 1)∧d.curc[2]? = some (.slice (some ⟨d.bl,0,none⟩) 1 d.cl)∧d.curc[3]? = some bat∧d.curc[4]? = some (.int .i64 wv)∧d.curc[5]? = some (.int .i64 tr)∧d.curc[6]? = some (.int .i64 po)
 l : d.curl[0]? = some (.pointer (some ⟨d.pp,0,none⟩))∧d.curl[1]? = some plc
theorem AK.kept0 {w : World} {bf : Nat} {d : AD} {na pa : AV} {bat plc : Value} {wv tr po : Int} {ext : List RawB} {W W' : World} (h : AK w bf d na pa bat plc wv tr po ext W) (k : KeptW [] W W') : AK w bf d na pa bat plc wv tr po ext W' := ⟨h.st.kept0 k,h.f,h.n,h.c,h.l⟩
theorem kept_drew (W : World) : KeptW [] W W.drew := ⟨rfl,rfl,rfl,Nat.le_refl _,fun _ _ _ => rfl⟩
theorem cell_at {w : World} {b j t : Nat} {cur : Array Value} {fz : Nat × Nat} {v : Value} (h : w.heap[b]? = some (.cells cur t fz)) (hc : w.cell? ⟨b,j,none⟩ = some v) : cur[j]? = some v := by
 simp only [World.cell?,h,Option.isSome_none,Bool.false_eq_true,if_false] at hc; exact hc
theorem one_of {α : Type} {l : List α} (h : l.length = 1) : ∃ x,l = [x] := by
 match l,h with
 | [x],_ => exact ⟨x,rfl⟩
theorem ak_new {w W : World} (h : NC w 1 1 5 1 W) : ∃ d : AD,AK w (w.heap.size + 1) d n0 pA0 (.slice none 0 0) (.slice none 0 0) 0 0 0 [] W := by
 obtain ⟨bn,cn,its,hC,hmap,hJ⟩ := h
 obtain ⟨_,hal,hinc,A,l,c,lcur,prs,hcl,rfl,hA,hAf,hO,hpm,hfr,hpt⟩ := hJ 0 rfl
 obtain ⟨curf,curn,f1,f2,f3,f4⟩ := hC.fs.hdr
 obtain ⟨curc,c1,c2,c3,c4⟩ := hC.bcs
 obtain ⟨⟨xp,xF,xa⟩,rfl⟩ := one_of (l := its) (by have := congrArg List.length hmap; rw [List.length_map] at this; exact this)
 obtain ⟨⟨yp,yF,ya⟩,rfl⟩ := one_of (l := prs) (by have := congrArg List.length hpm; rw [List.length_map] at this; exact this)
 have hxa : xa = ndO (zw 5) false := (List.cons.inj (show [xa] = [ndO (zw 5) false] from hmap)).1
 have hya : ya = pr0 0 0 := (List.cons.inj (show [ya] = [pr0 0 0] from hpm)).1
 clear hmap hpm
 subst hxa hya
 obtain ⟨pn,e1,f5⟩ := f4 0 _ rfl
 obtain ⟨pp,e2,l0,l1⟩ := hpt 0 _ rfl
 simp only at e1 e2 f5
 subst e1 e2
 rcases hA with ⟨_,h0,_⟩ | ⟨bl,rfl,hlc,hbl,hbs⟩
 ·cases h0
 ·obtain ⟨q1,q2,q3,q4,q5,q6⟩ := hAf bl rfl
  have hne : w.heap.size + 1 ≠ bn := fun e => by
   rw [← e] at f3
   have := f1.symm.trans f3
   simp only [Option.some.injEq,Obj.cells.injEq] at this
   exact absurd this.2.1 (by decide)
  have hf1 : ∀ b,b ∈ foot [(⟨.pointer (some ⟨pn,0,none⟩),xF,ndO (zw 5) false⟩ : ItemO)] → b ≠ w.heap.size + 1∧b ≠ bn∧w.heap.size ≤ b := hC.fs.apart
  have hsplit : ∀ b,b ∈ foot ([(⟨.pointer (some ⟨pn,0,none⟩),xF,ndO (zw 5) false⟩ : ItemO)] ++ [⟨.pointer (some ⟨pp,0,none⟩),yF,pr0 0 0⟩]) → b ∈ foot [(⟨.pointer (some ⟨pn,0,none⟩),xF,ndO (zw 5) false⟩ : ItemO)] ∨ b ∈ foot [(⟨.pointer (some ⟨pp,0,none⟩),yF,pr0 0 0⟩ : ItemO)] := fun b hb => foot_in_app.1 hb
  obtain ⟨d3,d4,d5,d6⟩ := c4 0 (by decide)
  obtain ⟨g0,g1⟩ := c3 0 (by decide)
  refine ⟨⟨bn,cn,w.heap.size,bl,c,pn,pp,curf,curn,curc,lcur,xF,yF⟩,⟨⟨hC.fs.kept,hO,fun i r hi => ?_,fun i j r s hi hj e => ?_,fun b hb => ?_⟩,⟨cell_at f1 hC.lin.1,f2,cell_at f1 hC.bfs,cell_at f1 hC.lin.2⟩,f5,⟨by simpa using g0,by simpa using g1,by simpa using cell_at c1 hcl,by simpa using d3,by simpa using d4,by simpa using d5,by simpa using d6⟩,by simpa using l0,by simpa using l1⟩⟩
  ·have hft : ∀ b,b ∈ foot (AD.its ⟨bn,cn,w.heap.size,bl,c,pn,pp,curf,curn,curc,lcur,xF,yF⟩ n0 pA0) → b ≠ w.heap.size + 1∧b ≠ bn∧b ≠ w.heap.size∧b ≠ bl := fun b hb => by
    rcases hsplit b hb with hb | hb
    ·exact ⟨(hf1 b hb).1,(hf1 b hb).2.1,fun e => hC.ne.2.2.2 (e ▸ hb),fun e => q3 (e ▸ hb)⟩
    ·exact ⟨(hfr b hb).1,(hfr b hb).2.1,(hfr b hb).2.2.1,fun e => q6 (e ▸ hb)⟩
   have hsz := hC.fs.kept.size
   match i,hi with
   | 0,hi => cases hi; exact ⟨f1,fun hm => (hft _ hm).1 rfl,by show w.heap.size ≤ w.heap.size + 1; omega⟩
   | 1,hi => cases hi; exact ⟨f3,fun hm => (hft _ hm).2.1 rfl,by
     exact hC.bnw⟩
   | 2,hi => cases hi; exact ⟨c1,fun hm => (hft _ hm).2.2.1 rfl,Nat.le_refl _⟩
   | 3,hi => cases hi; exact ⟨hbl,fun hm => (hft _ hm).2.2.2 rfl,q4⟩
   | i + 4,hi => simp at hi
  ·have hbs : ∀ (i : Nat) (r : RawB),(AD.raw ⟨bn,cn,w.heap.size,bl,c,pn,pp,curf,curn,curc,lcur,xF,yF⟩ (w.heap.size + 1) [])[i]? = some r → (i = 0∧r.b = w.heap.size + 1) ∨ (i = 1∧r.b = bn) ∨ (i = 2∧r.b = w.heap.size) ∨ (i = 3∧r.b = bl) := fun i r hi => by
    match i,hi with
    | 0,hi => cases hi; exact .inl ⟨rfl,rfl⟩
    | 1,hi => cases hi; exact .inr (.inl ⟨rfl,rfl⟩)
    | 2,hi => cases hi; exact .inr (.inr (.inl ⟨rfl,rfl⟩))
    | 3,hi => cases hi; exact .inr (.inr (.inr ⟨rfl,rfl⟩))
    | i + 4,hi => simp at hi
   have hn1 := hC.ne.1
   have hn2 := hC.ne.2.1
   rcases hbs i r hi with ⟨e1,r1⟩ | ⟨e1,r1⟩ | ⟨e1,r1⟩ | ⟨e1,r1⟩ <;> rcases hbs j s hj with ⟨e2,r2⟩ | ⟨e2,r2⟩ | ⟨e2,r2⟩ | ⟨e2,r2⟩ <;> first | (exfalso; omega) | (rw [e1,e2])
  ·rcases hsplit b hb with hb | hb
   ·exact (hf1 b hb).2.2
   ·exact (hfr b hb).2.2.2
end Go.Proofs.Ytnjccbnlmdajkaa
