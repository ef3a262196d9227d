/- The example of chapter 6: Post. -/
import Derived.Test.YtnjccbnlmdajkaaAwkA
import Derived.Test.YtnjccbnlmdajkaaAwkW
import Derived.Test.YtnjccbnlmdajkaaByt
import Derived.Test.YtnjccbnlmdajkaaByt
import Derived.Test.YtnjccbnlmdajkaaAptW
import Derived.Test.YtnjccbnlmdajkaaFbP5
import Derived.Test.YtnjccbnlmdajkaaPiecesS
import Derived.Test.YtnjccbnlmdajkaaEv10
set_option linter.all false
namespace Go.Proofs.Ytnjccbnlmdajkaa
open Go.RowKit Go.Shelf Go.Lib Go.Ev
set_option maxRecDepth 100000
theorem b1s_d {μ : Mu} {hp : HF} {a : AV} {v : Value} {cs : List AV} {vs : List Value} (h : DR μ a v) (k : B1s μ hp [] [] cs vs) : B1s μ hp [] [] (a :: cs) (v :: vs) := .cons (F := []) (F' := []) (G := []) (G' := []) (.c (.d h)) k
theorem b2s_d {μ : Mu} {hp : HF} {a : AV} {v : Value} {F : List Nat} {G : List Value} {cs : List AV} {vs : List Value} (h : B2 μ hp [] [] a v) (k : B2s μ hp F G cs vs) : B2s μ hp F G (a :: cs) (v :: vs) := .cons (F := []) (F' := F) (G := []) (G' := G) h k
theorem dr_nil' (μ : Mu) (sz : Nat) : DR μ (.lst true sz []) (.slice none 0 0) :=
 DR.lst (A := none) (c := 0) (xs := []) (fun _ _ => undef) rfl (fun _ => ⟨rfl,rfl⟩) (Nat.le_refl _) (fun e he => by cases he) (fun a ha => by cases ha) (fun k e j u hk => by simp at hk)
theorem vrb_b2 {μ : Mu} {hp : HF} (kd nd at_ n old nw key bt : Int) : B2 μ hp [] [] (.agg [.v (.int .i64 kd),.v (.int .i64 nd),.v (.int .i64 at_),.v (.int .i64 n),.v (.int .u64 old),.v (.int .u64 nw),.lst true 1 [],.v (.int .u64 key),.v (.int .i64 bt)]) (.agg (vCells kd nd at_ n old nw none 0 0 key bt)) :=
 .agg (vs := [.int .i64 kd,.int .i64 nd,.int .i64 at_,.int .i64 n,.int .u64 old,.int .u64 nw,.slice none 0 0,.int .u64 key,.int .i64 bt]) (b1s_d (.v rfl) (b1s_d (.v rfl) (b1s_d (.v rfl) (b1s_d (.v rfl) (b1s_d (.v rfl) (b1s_d (.v rfl) (b1s_d (dr_nil' μ 1) (b1s_d (.v rfl) (b1s_d (.v rfl) .nil)))))))))
theorem d_v {μ : Mu} {hp : HF} {v : Value} (h : okC (.v v) = true) : B2 μ hp [] [] (.v v) v := .o (.c (.d (.v h)))
section
variable {w : World} {bf : Nat} {d : AD} {na pa : AV} {bat plc : Value} {wv tr po : Int} {ext : List RawB} {V : World}
theorem s13_mk (h : AK w bf d na pa bat plc wv tr po ext V) {b : Nat} {kd nd at_ n old nw key bt : Int} {A : Option Addr} {l c : Nat} (hb : V.heap[b]? = some (.cells (vCells kd nd at_ n old nw A l c key bt) 50 (0,0))) : S13 bf d.bn 1 d.cn 5 V b kd nd at_ n old nw A l c key bt :=
 ⟨cell_of hb rfl,cell_of hb rfl,cell_of hb rfl,cell_of hb rfl,cell_of hb rfl,cell_of hb rfl,cell_of hb rfl,cell_of hb rfl,cell_of hb rfl,h.st.cell (i := 0) rfl h.f.1,h.st.cell (i := 0) rfl h.f.2.1⟩
theorem valid_ok (h : AK w bf d na pa bat plc wv tr po ext V) {kd nd at_ n old nw key bt : Int} (hev : ev 35 [.agg [.v (.int .i64 kd),.v (.int .i64 nd),.v (.int .i64 at_),.v (.int .i64 n),.v (.int .u64 old),.v (.int .u64 nw),.lst true 1 [],.v (.int .u64 key),.v (.int .i64 bt)],.v (.int .i64 1),.v (.int .i64 5)] = some [.v (.int .i64 0)]) :
  S13 bf d.bn 1 d.cn 5 (V.alloc (.cells (vCells kd nd at_ n old nw none 0 0 key bt) 50)).drew V.heap.size kd nd at_ n old nw none 0 0 key bt ∧
  Calls Try.prog 35 #[.agg (vCells kd nd at_ n old nw none 0 0 key bt),.int .i64 (1 : Nat),.int .i64 5] (V.alloc (.cells (vCells kd nd at_ n old nw none 0 0 key bt) 50)).drew fun e w' => e = .returned (.int .i64 0)∧AK w bf d na pa bat plc wv tr po ext w'∧S13 bf d.bn 1 d.cn 5 w' V.heap.size kd nd at_ n old nw none 0 0 key bt := by
 have ka := KeptW.alloc V (.cells (vCells kd nd at_ n old nw none 0 0 key bt) 50)
 have h1 := (h.kept0 ka).kept0 (kept_drew _)
 have hb := Ev.alloc_new V (.cells (vCells kd nd at_ n old nw none 0 0 key bt) 50)
 refine ⟨s13_mk h1 hb,(call_lent mix extOk hev Try.func35 (b2s_d (vrb_b2 ..) (b2s_d (d_v rfl) (b2s_d (d_v rfl) .nil)))).mono fun e w' he => ?_⟩
 obtain ⟨vs,μ',F1,G1,rfl,hk,hle,hb3⟩ := he
 obtain ⟨rfl,_⟩ := b2s_vals_inv (F := F1) (G := G1) [.int .i64 0] hb3
 exact ⟨rfl,h1.kept0 hk,s13_mk (h1.kept0 hk) (hk.get hb List.not_mem_nil)⟩
end
theorem inf3A : (Try.prog.info? 3).map (fun i => (i.zero,i.size,i.bytes)) = some (some (.int .i64 0),1,8) := by kernel_rfl
theorem und52A : Try.prog.underlying 52 = some (.slice 3) := by kernel_rfl
theorem inf67A : (Try.prog.info? 67).map (fun i => (i.zero,i.size,i.bytes)) = some (some (.agg #[.int .i64 0,.slice none 0 0]),2,32) := by kernel_rfl
def PL (i : Nat) (plc : Value) (ext : List RawB) : Prop := (i = 0∧plc = .slice none 0 0∧ext = []) ∨ (0 < i∧∃ (B c : Nat) (cur : Array Value),plc = .slice (some ⟨B,0,none⟩) i c∧i ≤ c∧ext = [rawC B cur 3]∧cur.size = c * 1∧∀ k,k < i → cur[k]? = some (.int .i64 (k : Nat)))
theorem post_okA {w : World} {bf : Nat} {d : AD} {pa pa' : AV} {plc : Value} {vb i : Nat} {ext : List RawB} {V : World} (h : AK w bf d n0 pa (.slice none 0 0) plc 0 0 0 (rawC vb vb18 50 :: ext) V) (hpl : PL i plc ext) (hi : i < 2) {kd at_ n old nw key bt : Int}
  (hev : ev 36 [pa,.agg [.v (.int .i64 kd),.v (.int .i64 0),.v (.int .i64 at_),.v (.int .i64 n),.v (.int .u64 old),.v (.int .u64 nw),.lst true 1 [],.v (.int .u64 key),.v (.int .i64 bt)],.v (.int .i64 5)] = some ([.v (.int .i64 0)] ++ [pa'])) (hfl : flatO pa' = true) :
  Calls Try.prog 36 #[.pointer (some ⟨d.pp,0,none⟩),.agg (vCells kd 0 at_ n old nw none 0 0 key bt),.int .i64 5] (V.alloc (.cells (vCells kd 0 at_ n old nw none 0 0 key bt) 50)).drew.drew fun e w' =>
   ∃ (x : Int) (PA : Option Addr) (pl pc B c' : Nat) (W4 : World),e = .returned (.int .i64 x)∧w'.cell? ⟨d.bl,0 * 2 + 1,none⟩ = some (.slice PA pl pc) ∧
    Hid (∀ ty,(Builtin.append_ #[52,52] ty #[.slice PA pl pc,.slice (some ⟨w'.heap.size,0,none⟩) 1 1]).run Try.prog (w'.alloc (.cells #[.int .i64 i] 3)) = .ok (.slice (some ⟨B,0,none⟩) (pl + 1) c') W4) ∧
    W4.frozen? ⟨d.bl,0 * 2 + 1,none⟩ = false∧(∃ y,W4.cell? ⟨d.bl,0 * 2 + 1,none⟩ = some y) ∧
    ∃ (d' : AD) (ext' : List RawB),(d'.bn = d.bn∧d'.cn = d.cn∧d'.bc = d.bc∧d'.bl = d.bl∧d'.cl = d.cl∧d'.pn = d.pn∧d'.pp = d.pp)∧PL (i + 1) (.slice (some ⟨B,0,none⟩) (pl + 1) c') ext' ∧
     AK w bf d' n0 pa' (.slice none 0 0) (.slice (some ⟨B,0,none⟩) (pl + 1) c') 0 0 0 (rawC vb vb18 50 :: ext') (W4.setCell ⟨d.bl,0 * 2 + 1,none⟩ (.slice (some ⟨B,0,none⟩) (pl + 1) c')) := by
 have ka := KeptW.alloc V (.cells (vCells kd 0 at_ n old nw none 0 0 key bt) 50)
 have h1 := ((h.kept0 ka).kept0 (kept_drew _)).kept0 (kept_drew _)
 generalize (V.alloc (.cells (vCells kd 0 at_ n old nw none 0 0 key bt) 50)).drew.drew = X at h1 ⊢
 have hpr : B1 mu0 (hf X) d.Fp [.pointer (some ⟨d.pp,0,none⟩)] pa (.pointer (some ⟨d.pp,0,none⟩)) := h1.st.own.ok ⟨_,d.Fp,pa⟩ (by simp)
 have hB : B2s mu0 (hf X) (foot [(⟨.pointer (some ⟨d.pp,0,none⟩),d.Fp,pa⟩ : ItemO)]) ([(⟨.pointer (some ⟨d.pp,0,none⟩),d.Fp,pa⟩ : ItemO)].map ItemO.p) [pa,.agg [.v (.int .i64 kd),.v (.int .i64 0),.v (.int .i64 at_),.v (.int .i64 n),.v (.int .u64 old),.v (.int .u64 nw),.lst true 1 [],.v (.int .u64 key),.v (.int .i64 bt)],.v (.int .i64 5)] [.pointer (some ⟨d.pp,0,none⟩),.agg (vCells kd 0 at_ n old nw none 0 0 key bt),.int .i64 5] :=
  .cons (F' := []) (G' := []) (.o hpr) (b2s_d (vrb_b2 ..) (b2s_d (d_v rfl) .nil))
 refine (h1.st.call mix extOk [⟨.pointer (some ⟨d.pp,0,none⟩),d.Fp,pa⟩] [⟨.pointer (some ⟨d.pn,0,none⟩),d.Fn,n0⟩] (List.Perm.swap _ _ _) hev Try.func36 (by kernel_rfl) hB (by rw [List.all_cons,hfl]; rfl)).mono fun e w' he => ?_
 obtain ⟨vs,μ',F1,G1,xs',rfl,hb1,_,hp',ha',hst,_,_⟩ := he
 obtain ⟨rfl,_⟩ := b2s_vals_inv (F := F1) (G := G1) [.int .i64 0] hb1
 obtain ⟨⟨xp,xF,xa⟩,rfl⟩ := one_of (l := xs') (by have := congrArg List.length hp'; simpa using this)
 obtain rfl : xp = .pointer (some ⟨d.pp,0,none⟩) := (List.cons.inj hp').1
 obtain rfl : xa = pa' := (List.cons.inj ha').1
 have hst2 : Wst w [⟨.pointer (some ⟨d.pn,0,none⟩),d.Fn,n0⟩,⟨.pointer (some ⟨d.pp,0,none⟩),xF,xa⟩] (d.raw bf (rawC vb vb18 50 :: ext)) w' := hst.perm (List.Perm.swap _ _ _)
 obtain ⟨I,hI,hIz,hIs,hIb⟩ := info_parts inf3A
 have hst3 := hst2.kept0 (KeptW.alloc w' (.cells #[.int .i64 i] 3))
 have hE := Ev.alloc_new w' (.cells #[.int .i64 i] 3)
 have hone : ∀ v ∈ (#[Value.int .i64 (i : Nat)] : Array Value).toList,v.oneCell' = true := fun v hv => by
  simp only [List.mem_cons,List.not_mem_nil,or_false] at hv
  subst hv; rfl
 rcases hpl with ⟨rfl,rfl,rfl⟩ | ⟨h0,B,c,cur,rfl,hic,rfl,hcs,hcv⟩
 ·obtain ⟨b',c',W4,cur',hrun,hst4,hs4,hc4,hnew⟩ := hst3.app0 (P := Try.prog) und52A hI hIz hIs (by omega) (by omega) rfl hE rfl hone
  have hst5 := hst4.set (i := 3) rfl (0 * 2 + 1) (.slice (some ⟨b',0,none⟩) (0 + 1) c')
  refine ⟨0,none,0,0,b',c',W4,rfl,hst2.cell (i := 3) rfl h.l.2,hrun,hst4.frozen (i := 3) rfl _,⟨_,hst4.cell (i := 3) rfl h.l.2⟩,{ d with Fp := xF,curl := d.curl.setIfInBounds (0 * 2 + 1) (.slice (some ⟨b',0,none⟩) (0 + 1) c') },[rawC b' cur' 3],⟨rfl,rfl,rfl,rfl,rfl,rfl,rfl⟩,
   .inr ⟨by omega,b',c',cur',rfl,hc4,rfl,hs4,fun k hk => ?_⟩,hst5,h.f,h.n,h.c,?_,?_⟩
  ·obtain rfl : k = 0 := by omega
   exact hnew 0 (by decide)
  ·rw [Array.getElem?_setIfInBounds,if_neg (by decide)]; exact h.l.1
  ·have := (Array.getElem?_eq_some_iff.1 h.l.2).1
   rw [Array.getElem?_setIfInBounds,if_pos rfl,if_pos this]
 ·obtain ⟨b',c',W4,cur',hrun,hst4,hs4,hc4,hold,hnew⟩ := hst3.app (P := Try.prog) (i := 5) rfl und52A hI hIz hIs (by omega) (by omega) rfl (l := i) (by omega) hic hcs hE rfl hone
  have hst5 := hst4.set (i := 3) rfl (0 * 2 + 1) (.slice (some ⟨b',0,none⟩) (i + 1) c')
  refine ⟨0,some ⟨B,0,none⟩,i,c,b',c',W4,rfl,hst2.cell (i := 3) rfl h.l.2,hrun,hst4.frozen (i := 3) rfl _,⟨_,hst4.cell (i := 3) rfl h.l.2⟩,{ d with Fp := xF,curl := d.curl.setIfInBounds (0 * 2 + 1) (.slice (some ⟨b',0,none⟩) (i + 1) c') },[rawC b' cur' 3],⟨rfl,rfl,rfl,rfl,rfl,rfl,rfl⟩,
   .inr ⟨by omega,b',c',cur',rfl,hc4,rfl,hs4,fun k hk => ?_⟩,hst5,h.f,h.n,h.c,?_,?_⟩
  ·by_cases hki : k < i
   ·rw [hold k (by omega)]; exact hcv k hki
   ·obtain rfl : k = i := by omega
    have := hnew 0 (by decide)
    simpa using this
  ·rw [Array.getElem?_setIfInBounds,if_neg (by decide)]; exact h.l.1
  ·have := (Array.getElem?_eq_some_iff.1 h.l.2).1
   rw [Array.getElem?_setIfInBounds,if_pos rfl,if_pos this]
end Go.Proofs.Ytnjccbnlmdajkaa
namespace Go.Proofs.Ytnjccbnlmdajkaa
open Go.RowKit Go.Shelf Go.Lib Go.Ev
set_option maxRecDepth 100000
def pAn : Nat → AV
 | 0 => pA0
 | 1 => pA1
 | _ => pA2
abbrev MB4 : Array Value := #[.int .i64 0,.slice none 0 0,.int .i64 0,.slice none 0 0]
def AK2 (w : World) (bf : Nat) (W : World) : Prop := ∃ (d : AD) (B c bb : Nat) (cur : Array Value) (r : RawB),cur.size = c * 1∧2 ≤ c∧cur[0]? = some (.int .i64 0)∧cur[1]? = some (.int .i64 1) ∧
 AK w bf d n0 pA2 (.slice (some ⟨bb,0,none⟩) 2 2) (.slice (some ⟨B,0,none⟩) 2 c) 2 1 2 [r,rawC B cur 3,rawC bb MB4 67] W
theorem ltwo {i : Nat} (h : i < 2) : i = 0 ∨ i = 1 := by omega
theorem post_endA {w : World} {bf : Nat} {d : AD} {plc : Value} {r : RawB} {ext : List RawB} {V : World} (h : AK w bf d n0 pA2 (.slice none 0 0) plc 0 0 0 (r :: ext) V) (hpl : PL 2 plc ext) : PostEnd d.bc 0 2 V (AK2 w bf) := by
 rcases hpl with ⟨e,_⟩ | ⟨_,B,c,cur,rfl,hic,rfl,hcs,hcv⟩
 ·cases e
 obtain ⟨I,hI,hIz,hIs,hIb⟩ := info_parts inf67A
 have hmk := run_make V 44 67 I _ und44 hI hIz .i64 .i64 (2 : Int) (2 : Int) (by decide) (Int.le_refl _) (by rw [hIb]; decide) (by decide)
 rw [show (2 : Int).toNat = 2 from rfl,hIs] at hmk
 have hMC : madeCells (Value.agg #[.int .i64 0,.slice none 0 0]).cells (2 * 2) = MB4 := by kernel_rfl
 rw [hMC] at hmk
 have hs1 := h.st.alloc MB4 67
 have c3 := (Array.getElem?_eq_some_iff.1 h.c.2.2.2.1).1
 have c4 := (Array.getElem?_eq_some_iff.1 h.c.2.2.2.2.1).1
 have c5 := (Array.getElem?_eq_some_iff.1 h.c.2.2.2.2.2.1).1
 have c6 := (Array.getElem?_eq_some_iff.1 h.c.2.2.2.2.2.2).1
 have hs2 := hs1.set (i := 2) rfl (0 * 7 + 3) (.slice (some ⟨V.heap.size,0,none⟩) 2 2)
 have hs3 := hs2.set (i := 2) rfl (0 * 7 + 4) (.int .i64 (2 : Nat))
 have hs4 := hs3.set (i := 2) rfl (0 * 7 + 5) (.int .i64 (wrap64 (0 + 1)))
 have hs5 := hs4.set (i := 2) rfl (0 * 7 + 6) (.int .i64 (wrap64 (0 + (2 : Nat))))
 have w1 : wrap64 (0 + 1) = 1 := by rw [w64]; decide
 have w2 : wrap64 (0 + ((2 : Nat) : Int)) = 2 := by rw [w64]; decide
 refine ⟨MB4,_,_,_,_,0,0,hmk,hs1.frozen (i := 2) rfl _,⟨_,hs1.cell (i := 2) rfl h.c.2.2.2.1⟩,rfl,hs2.frozen (i := 2) rfl _,⟨.int .i64 0,hs2.cell (i := 2) (v := .int .i64 0) rfl ?_⟩,rfl,hs3.frozen (i := 2) rfl _,hs3.cell (i := 2) (v := .int .i64 0) rfl ?_,rfl,hs4.frozen (i := 2) rfl _,hs4.cell (i := 2) (v := .int .i64 0) rfl ?_,rfl,
  { d with curc := (((d.curc.setIfInBounds (0 * 7 + 3) (.slice (some ⟨V.heap.size,0,none⟩) 2 2)).setIfInBounds (0 * 7 + 4) (.int .i64 (2 : Nat))).setIfInBounds (0 * 7 + 5) (.int .i64 (wrap64 (0 + 1)))).setIfInBounds (0 * 7 + 6) (.int .i64 (wrap64 (0 + (2 : Nat)))) },B,c,V.heap.size,cur,r,hcs,hic,hcv 0 (by decide),hcv 1 (by decide),hs5,h.f,h.n,⟨?_,?_,?_,?_,?_,?_,?_⟩,h.l⟩
 ·rw [Array.getElem?_setIfInBounds,if_neg (by decide)]; exact h.c.2.2.2.2.1
 ·rw [Array.getElem?_setIfInBounds,if_neg (by decide),Array.getElem?_setIfInBounds,if_neg (by decide)]; exact h.c.2.2.2.2.2.1
 ·rw [Array.getElem?_setIfInBounds,if_neg (by decide),Array.getElem?_setIfInBounds,if_neg (by decide),Array.getElem?_setIfInBounds,if_neg (by decide)]; exact h.c.2.2.2.2.2.2
 all_goals simp only [Array.getElem?_setIfInBounds,Array.size_setIfInBounds]
 ·rw [if_neg (by decide),if_neg (by decide),if_neg (by decide),if_neg (by decide)]; exact h.c.1
 ·rw [if_neg (by decide),if_neg (by decide),if_neg (by decide),if_neg (by decide)]; exact h.c.2.1
 ·rw [if_neg (by decide),if_neg (by decide),if_neg (by decide),if_neg (by decide)]; exact h.c.2.2.1
 ·rw [if_neg (by decide),if_neg (by decide),if_neg (by decide),if_pos trivial,if_pos c3]
 ·rw [if_neg (by decide),if_neg (by decide),if_pos trivial,if_pos c4]; rfl
 ·rw [if_neg (by decide),if_pos trivial,if_pos c5,w1]
 ·rw [if_pos trivial,if_pos c6,w2]
theorem post_all {w : World} {bf : Nat} {d : AD} {W : World} (h : AK w bf d n0 pA0 (.slice none 0 0) (.slice none 0 0) 0 0 0 [] W) :
  Calls Try.prog 18 #[.pointer (some ⟨bf,0,none⟩),.int .i64 0,.slice (some ⟨W.heap.size,0,none⟩) 2 2] (W.alloc (.cells vb18 50)) fun e w' => e = .returned (.int .i64 0)∧AK2 w bf w' := by
 have h0 : AK w bf d n0 pA0 (.slice none 0 0) (.slice none 0 0) 0 0 0 [rawC W.heap.size vb18 50] (W.alloc (.cells vb18 50)) := ⟨h.st.alloc vb18 50,h.f,h.n,h.c,h.l⟩
 generalize W.heap.size = vb at h0 ⊢
 generalize W.alloc (.cells vb18 50) = X at h0 ⊢
 refine post_walk bf d.bc 0 1 d.bn 1 d.cn vb 0 2 2 5 X (fun _ V => AK w bf d n0 pA0 (.slice none 0 0) (.slice none 0 0) 0 0 0 [rawC vb vb18 50] V)
  (fun i V => ∃ (d' : AD) (plc : Value) (ext : List RawB),(d'.bn = d.bn∧d'.cn = d.cn∧d'.bc = d.bc∧d'.bl = d.bl∧d'.cl = d.cl∧d'.pn = d.pn∧d'.pp = d.pp)∧PL i plc ext∧AK w bf d' n0 (pAn i) (.slice none 0 0) plc 0 0 0 (rawC vb vb18 50 :: ext) V)
  (AK2 w bf) (by decide) (by decide) (h0.st.cell (i := 0) rfl h0.f.2.2.1) (h0.st.cell (i := 2) rfl h0.c.1) (h0.st.cell (i := 2) rfl h0.c.2.2.2.1) h0 (fun i V hi hJ => ?_) (fun V hJ => ⟨d,_,[],⟨rfl,rfl,rfl,rfl,rfl,rfl,rfl⟩,.inl ⟨rfl,rfl,rfl⟩,hJ⟩) ⟨fun i V hi hJ => ?_,fun V hJ => ?_⟩
 ·have hc : ∀ j v,vb18[j]? = some v → V.cell? ⟨vb,j,none⟩ = some v := fun j v hv => hJ.st.cell (i := 4) rfl hv
  rcases ltwo hi with rfl | rfl
  ·obtain ⟨a,b⟩ := valid_ok hJ e35a
   exact ⟨3,0,0,0,0,4,none,0,0,0,0,⟨hc 0 _ rfl,hc 1 _ rfl,hc 2 _ rfl,hc 3 _ rfl,hc 4 _ rfl,hc 5 _ rfl,hc 6 _ rfl,hc 7 _ rfl,hc 8 _ rfl⟩,a,b⟩
  ·obtain ⟨a,b⟩ := valid_ok hJ e35b
   exact ⟨1,0,0,1,0,0,none,0,0,0,0,⟨hc 9 _ rfl,hc 10 _ rfl,hc 11 _ rfl,hc 12 _ rfl,hc 13 _ rfl,hc 14 _ rfl,hc 15 _ rfl,hc 16 _ rfl,hc 17 _ rfl⟩,a,b⟩
 ·obtain ⟨d',plc,ext,⟨g1,g2,g3,g4,g5,g6,g7⟩,hpl,hA⟩ := hJ
  rw [← g3]
  have hc : ∀ j v,vb18[j]? = some v → V.cell? ⟨vb,j,none⟩ = some v := fun j v hv => hA.st.cell (i := 4) rfl hv
  have hcf : ∀ o,(V.alloc o).cell? ⟨bf,0,none⟩ = some (.int .i64 5) := fun o => (hA.kept0 (KeptW.alloc V o)).st.cell (i := 0) rfl hA.f.1
  have hcc : ∀ o,(V.alloc o).cell? ⟨d'.bc,0 * 7 + 2,none⟩ = some (.slice (some ⟨d'.bl,0,none⟩) 1 d'.cl) := fun o => (hA.kept0 (KeptW.alloc V o)).st.cell (i := 2) rfl hA.c.2.2.1
  have hcl : ∀ o,(V.alloc o).cell? ⟨d'.bl,0 * 2,none⟩ = some (.pointer (some ⟨d'.pp,0,none⟩)) := fun o => (hA.kept0 (KeptW.alloc V o)).st.cell (i := 3) rfl hA.l.1
  rcases ltwo hi with rfl | rfl
  ·refine ⟨3,0,0,0,0,4,none,0,0,0,0,d'.bl,1,d'.cl,d'.pp,⟨hc 0 _ rfl,hc 1 _ rfl,hc 2 _ rfl,hc 3 _ rfl,hc 4 _ rfl,hc 5 _ rfl,hc 6 _ rfl,hc 7 _ rfl,hc 8 _ rfl⟩,hcf,hcc,by decide,hcl,(post_okA hA hpl (by decide) e36a rfl).mono fun e w' he => ?_⟩
   obtain ⟨x,PA,pl,pc,B,c',W4,he,q1,q2,q3,q4,d2,ext',⟨k1,k2,k3,k4,k5,k6,k7⟩,hp2,hA2⟩ := he
   exact ⟨x,PA,pl,pc,B,c',W4,he,q1,q2,q3,q4,d2,_,ext',⟨k1.trans g1,k2.trans g2,k3,k4.trans g4,k5.trans g5,k6.trans g6,k7.trans g7⟩,hp2,hA2⟩
  ·refine ⟨1,0,0,1,0,0,none,0,0,0,0,d'.bl,1,d'.cl,d'.pp,⟨hc 9 _ rfl,hc 10 _ rfl,hc 11 _ rfl,hc 12 _ rfl,hc 13 _ rfl,hc 14 _ rfl,hc 15 _ rfl,hc 16 _ rfl,hc 17 _ rfl⟩,hcf,hcc,by decide,hcl,(post_okA hA hpl (by decide) e36b rfl).mono fun e w' he => ?_⟩
   obtain ⟨x,PA,pl,pc,B,c',W4,he,q1,q2,q3,q4,d2,ext',⟨k1,k2,k3,k4,k5,k6,k7⟩,hp2,hA2⟩ := he
   exact ⟨x,PA,pl,pc,B,c',W4,he,q1,q2,q3,q4,d2,_,ext',⟨k1.trans g1,k2.trans g2,k3,k4.trans g4,k5.trans g5,k6.trans g6,k7.trans g7⟩,hp2,hA2⟩
 ·obtain ⟨d',plc,ext,⟨g1,g2,g3,g4,g5,g6,g7⟩,hpl,hA⟩ := hJ
  rw [← g3]
  exact post_endA hA hpl
end Go.Proofs.Ytnjccbnlmdajkaa
namespace Go.Proofs.Ytnjccbnlmdajkaa
open Go.RowKit Go.Shelf Go.Lib Go.Ev
set_option maxRecDepth 100000
def WdAt (r : RawB) (qo : Nat) (wd : Int) : Prop := ∃ (cur : Array Value) (t : Nat) (fz : Nat × Nat),r.o = .cells cur t fz∧cur[qo]? = some (.int .u64 wd)
theorem word_of {μ : Mu} {w : World} {wd : Int} {v : Value} (hle : MuLe μ (hf w)) (h : DR μ (.lst false 1 [[.v (.int .u64 wd)]]) v) : ∃ (q qo c : Nat) (o : Obj),v = .slice (some ⟨q,qo,none⟩) 1 c∧μ q = some o∧w.heap[q]? = some o∧WdAt ⟨q,o⟩ qo wd := by
 cases h with
 | @lst _ _ _ A c vals hnil hA hc hsz hcell hv =>
  cases A with
  | none => cases hnil
  | some a =>
   have h1 := hcell a rfl 0 0 (by simp) (by decide)
   have h2 := hv 0 _ 0 _ rfl rfl
   generalize vals 0 0 = y at h1 h2
   cases h2
   obtain ⟨q,qo,s⟩ := a
   rw [show (0 * 1 + 0 : Nat) = 0 by decide] at h1
   cases s with
   | some s =>
    simp only [Addr.add,if_true,muCell] at h1
    split at h1 <;> simp at h1
   | none =>
    rw [Addr.add_lit,Nat.add_zero] at h1
    unfold muCell at h1
    simp only at h1
    split at h1
    ·rename_i cc ty fz hm
     exact ⟨q,qo,c,_,rfl,hm,hle _ _ hm,cc,ty,fz,rfl,by simpa using h1⟩
    ·cases h1
theorem b2_agg2 {μ : Mu} {hp : HF} {F : List Nat} {G : List Value} {a b : AV} {v : Value} (h : B2 μ hp F G (.agg [a,b]) v) : ∃ (Fa Fb : List Nat) (Ga Gb : List Value) (v0 v1 : Value),v = .agg #[v0,v1]∧B1 μ hp Fa Ga a v0∧B1 μ hp Fb Gb b v1 := by
 cases h with
 | o h => cases h with | c h => cases h with | d h => cases h
 | agg h => cases h with
  | cons h0 h => cases h with
   | cons h1 h => cases h; exact ⟨_,_,_,_,_,_,rfl,h0,h1⟩
theorem core39 {w : World} {bf : Nat} {d : AD} {na pa na' pa' : AV} {bat plc : Value} {wv tr po wd : Int} {ext : List RawB} {V : World} (h : AK w bf d na pa bat plc wv tr po ext V)
  (hev : ev 39 [pa,na] = some ([.agg [.v (.int .i64 0),.lst false 1 [[.v (.int .u64 wd)]]],.v (.bool true)] ++ [pa',na'])) (hf1 : flatO pa' = true) (hf2 : flatO na' = true) :
  Calls Try.prog 39 #[.pointer (some ⟨d.pp,0,none⟩),.pointer (some ⟨d.pn,0,none⟩)] V fun e w' => ∃ (q qo c : Nat) (o : Obj) (Fn' Fp' : List Nat),e = .returned (.tuple #[.agg #[.int .i64 0,.slice (some ⟨q,qo,none⟩) 1 c],.bool true])∧WdAt ⟨q,o⟩ qo wd ∧
   AK w bf { d with Fn := Fn',Fp := Fp' } na' pa' bat plc wv tr po (ext ++ [⟨q,o⟩]) w' := by
 have hpp : B1 mu0 (hf V) d.Fp [.pointer (some ⟨d.pp,0,none⟩)] pa (.pointer (some ⟨d.pp,0,none⟩)) := h.st.own.ok ⟨_,d.Fp,pa⟩ (by simp)
 have hpn : B1 mu0 (hf V) d.Fn [.pointer (some ⟨d.pn,0,none⟩)] na (.pointer (some ⟨d.pn,0,none⟩)) := h.st.own.ok ⟨_,d.Fn,na⟩ (by simp)
 have hB : B2s mu0 (hf V) (foot [(⟨.pointer (some ⟨d.pp,0,none⟩),d.Fp,pa⟩ : ItemO),⟨.pointer (some ⟨d.pn,0,none⟩),d.Fn,na⟩]) ([(⟨.pointer (some ⟨d.pp,0,none⟩),d.Fp,pa⟩ : ItemO),⟨.pointer (some ⟨d.pn,0,none⟩),d.Fn,na⟩].map ItemO.p) [pa,na] [.pointer (some ⟨d.pp,0,none⟩),.pointer (some ⟨d.pn,0,none⟩)] :=
  .cons (.o hpp) (.cons (F' := []) (G' := []) (.o hpn) .nil)
 refine (h.st.call mix extOk [⟨.pointer (some ⟨d.pp,0,none⟩),d.Fp,pa⟩,⟨.pointer (some ⟨d.pn,0,none⟩),d.Fn,na⟩] [] (List.Perm.swap _ _ _) hev Try.func39 (by kernel_rfl) hB (by rw [List.all_cons,hf1,List.all_cons,hf2]; rfl)).mono fun e w' he => ?_
 obtain ⟨vs,μ',F1,G1,xs',rfl,hb1,hle,hp',ha',hst,hap,_⟩ := he
 obtain ⟨_,_,_,_,v0,vs',_,_,rfl,hv0,hr⟩ := b2s_cons hb1
 obtain ⟨u,rfl,hu⟩ := Go.Ev.b2s_one hr
 obtain ⟨_,_,rfl⟩ := b2_v hu
 obtain ⟨_,_,_,_,y0,y1,rfl,hy0,hy1⟩ := b2_agg2 hv0
 obtain ⟨_,_,rfl⟩ := b1_v hy0
 obtain ⟨_,_,hy1⟩ := Go.Ev.b1_lst hy1
 obtain ⟨q,qo,c,o,rfl,hm,hq,hwd⟩ := word_of hle hy1
 match xs',hp',ha' with
 | [⟨x1,F1',a1⟩,⟨x2,F2',a2⟩],hp',ha' =>
  obtain rfl : x1 = .pointer (some ⟨d.pp,0,none⟩) := (List.cons.inj hp').1
  obtain rfl : x2 = .pointer (some ⟨d.pn,0,none⟩) := (List.cons.inj (List.cons.inj hp').2).1
  obtain rfl : a1 = pa' := (List.cons.inj ha').1
  obtain rfl : a2 = na' := (List.cons.inj (List.cons.inj ha').2).1
  obtain ⟨r1,r2,r3⟩ := hap q (.inr ⟨o,hm⟩)
  have hst2 := (hst.addOld hq r1 r2 r3).perm (List.Perm.swap _ _ _)
  exact ⟨q,qo,c,o,F2',F1',rfl,hwd,hst2,h.f,h.n,h.c,h.l⟩
end Go.Proofs.Ytnjccbnlmdajkaa
namespace Go.Proofs.Ytnjccbnlmdajkaa
open Go.RowKit Go.Shelf Go.Lib Go.Ev
set_option maxRecDepth 100000
def StA (w : World) (bf : Nat) (na pa : AV) (ps : List Nat) (wv : Int) (bb : Nat) (bcur : Array Value) (more : List RawB) (W : World) : Prop := ∃ (d : AD) (Bp po pc : Nat) (pcur : Array Value) (fz : Nat × Nat) (r : RawB),ps.length ≤ pc∧bcur.size = 4∧(∀ k x,ps[k]? = some x → pcur[po + k]? = some (.int .i64 (x : Nat))) ∧
 AK w bf d na pa (.slice (some ⟨bb,0,none⟩) 2 2) (.slice (some ⟨Bp,po,none⟩) ps.length pc) wv 1 2 (r :: ⟨Bp,.cells pcur 3 fz⟩ :: rawC bb bcur 67 :: more) W
theorem e40 (l : List AV) (h : l = [] ∨ l = [.v (.int .i64 1)]) : ev 40 [.lst false 1 (l.map fun a => [a])] = some [.ow false 3 1 (l.map fun a => [a])] := by
 rcases h with rfl | rfl
 ·exact evL_of (n := 12) (by kernel_rfl)
 ·exact evL_of (n := 12) (by kernel_rfl)
theorem AK.drop {w : World} {bf : Nat} {d : AD} {na pa : AV} {bat plc : Value} {wv tr po : Int} {ext ext' : List RawB} {W : World} (h : AK w bf d na pa bat plc wv tr po (ext ++ ext') W) : AK w bf d na pa bat plc wv tr po ext W :=
 ⟨h.st.drop (raw := d.raw bf ext) (raw' := ext'),h.f,h.n,h.c,h.l⟩
theorem lent_ints {W : World} {B po len c : Nat} {pcur : Array Value} {fz : Nat × Nat} {xs : List Nat} (hb : W.heap[B]? = some (.cells pcur 3 fz)) (hl : xs.length = len) (hc : len ≤ c) (hx : ∀ k x,xs[k]? = some x → pcur[po + k]? = some (.int .i64 (x : Nat))) :
  DR (hf W) (.lst false 1 ((xs.map fun x : Nat => AV.v (.int .i64 (x : Nat))).map fun a => [a])) (.slice (some ⟨B,po,none⟩) len c) := by
 have hlen : ((xs.map fun x : Nat => AV.v (.int .i64 (x : Nat))).map fun a => [a]).length = len := by simp [hl]
 rw [← hlen]
 refine .lst (fun k _ => (xs[k]?.map fun x : Nat => Value.int .i64 (x : Nat)).getD undef) rfl (fun e => by cases e) (by rw [hlen]; exact hc) (fun e he => ?_) (fun a ha k j hk hj => ?_) (fun k e j u hk hj => ?_)
 ·simp only [List.map_map,List.mem_map] at he
  obtain ⟨x,_,rfl⟩ := he
  rfl
 ·cases ha
  rw [hlen,← hl] at hk
  have hxk := List.getElem?_eq_getElem hk
  have hj0 : j = 0 := by omega
  subst hj0
  rw [Addr.add_lit]
  unfold muCell
  have hb' : hf W B = some (.cells pcur 3 fz) := hb
  simp only [hb',hxk,Option.map_some,Option.getD_some]
  have := hx k _ hxk
  rw [Nat.mul_one,Nat.add_zero]
  simpa using this
 ·rw [List.getElem?_map,List.getElem?_map] at hk
  cases hxk : xs[k]? with
  | none => rw [hxk] at hk; cases hk
  | some x =>
   rw [hxk] at hk
   obtain rfl := Option.some.inj hk
   match j,hj with
   | 0,hj => cases hj; exact .v rfl
   | j + 1,hj => simp at hj
theorem fin_ok {w : World} {bf : Nat} {d : AD} {na pa : AV} {x : Nat} {rest : List Nat} {wv : Int} {bb : Nat} {bcur : Array Value} {more : List RawB} {W : World} {Bp po pc : Nat} {pcur : Array Value} {fz : Nat × Nat} {r : RawB} {t7 q qo cq : Nat} (hpc : (x :: rest).length ≤ pc) (hbs : bcur.size = 4) (hx2 : x < 2)
  (hps : ∀ k y,(x :: rest)[k]? = some y → pcur[po + k]? = some (.int .i64 (y : Nat))) (hrest : rest = [] ∨ rest = [1])
  (h : AK w bf d na pa (.slice (some ⟨bb,0,none⟩) 2 2) (.slice (some ⟨Bp,po,none⟩) (x :: rest).length pc) wv 1 2 (r :: ⟨Bp,.cells pcur 3 fz⟩ :: rawC bb bcur 67 :: (more ++ [rawC t7 #[.int .i64 0,.slice (some ⟨q,qo,none⟩) 1 cq] 67])) W)
  (K : World → Prop) (hK : ∀ W',StA w bf na pa rest (wrap64 (wv - 1)) bb ((bcur.setIfInBounds (x * 2) (.int .i64 0)).setIfInBounds (x * 2 + 1) (.slice (some ⟨q,qo,none⟩) 1 cq)) more W' → K W') :
  StpFin d.bc 0 d.bl 0 t7 0 (some ⟨q,qo,none⟩) 1 cq W K := by
 have hit : (d.raw bf (r :: ⟨Bp,.cells pcur 3 fz⟩ :: rawC bb bcur 67 :: (more ++ [rawC t7 #[.int .i64 0,.slice (some ⟨q,qo,none⟩) 1 cq] 67])))[7 + more.length]? = some (rawC t7 #[.int .i64 0,.slice (some ⟨q,qo,none⟩) 1 cq] 67) := by
  show (_ :: _ :: _ :: _ :: _ :: _ :: _ :: (more ++ [_]))[7 + more.length]? = _
  rw [Nat.add_comm]
  simp
 have hs1 := h.st.set (i := 6) rfl (x * 2) (.int .i64 0)
 have hs2 := hs1.set (i := 6) rfl (x * 2 + 1) (.slice (some ⟨q,qo,none⟩) 1 cq)
 have hit2 : ∀ a b : RawB,(((d.raw bf (r :: ⟨Bp,.cells pcur 3 fz⟩ :: rawC bb bcur 67 :: (more ++ [rawC t7 #[.int .i64 0,.slice (some ⟨q,qo,none⟩) 1 cq] 67]))).set 6 a).set 6 b)[7 + more.length]? = some (rawC t7 #[.int .i64 0,.slice (some ⟨q,qo,none⟩) 1 cq] 67) := fun a b => by
  rw [List.getElem?_set_ne (by omega),List.getElem?_set_ne (by omega)]; exact hit
 have hp0 := hps 0 x rfl
 rw [Nat.add_zero] at hp0
 refine ⟨bb,2,2,Bp,po,(x :: rest).length,pc,x,wv,hx2,by rw [List.length_cons]; omega,⟨h.st.cell (i := 2) rfl h.c.2.2.2.1,h.st.cell (i := 3) rfl h.l.2,h.st.cell (i := 5) rfl hp0,h.st.cell hit rfl,h.st.cell hit rfl⟩,h.st.frozen (i := 6) rfl _,⟨_,h.st.cell (i := 6) (v := bcur[x * 2]) rfl (Array.getElem?_eq_getElem (by omega))⟩,hs1.frozen (i := 6) rfl _,
  ⟨_,hs1.cell (i := 6) (v := bcur[x * 2 + 1]) rfl (by rw [Array.getElem?_setIfInBounds,if_neg (by omega)]; exact Array.getElem?_eq_getElem (by omega))⟩,⟨hs2.cell (i := 2) rfl h.c.2.2.2.1,hs2.cell (i := 3) rfl h.l.2,hs2.cell (i := 5) rfl hp0,hs2.cell (hit2 _ _) rfl,hs2.cell (hit2 _ _) rfl⟩,fun qv hqv => ?_⟩
 have hs3 := hs2.drew
 generalize ((W.setCell ⟨bb,x * 2,none⟩ (.int .i64 0)).setCell ⟨bb,x * 2 + 1,none⟩ (.slice (some ⟨q,qo,none⟩) 1 cq)).drew = X at hs3 ⊢
 have hbp := (hs3.blk 5 ⟨Bp,.cells pcur 3 fz⟩ rfl).1
 have hdr : DR (hf X) (.lst false 1 ((rest.map fun y : Nat => AV.v (.int .i64 (y : Nat))).map fun a => [a])) qv := by
  rcases hqv with ⟨rfl,hp1⟩ | ⟨rfl,hp1⟩
  ·exact lent_ints hbp (by simp) (by rw [List.length_cons] at hpc ⊢; omega) fun k y hy => by
    have := hps (k + 1) y (by simpa using hy)
    rw [← this]; congr 1; omega
  ·have : rest = [] := by rw [List.length_cons] at hpc; exact List.eq_nil_of_length_eq_zero (by omega)
   subst this
   exact lent_ints hbp rfl (by simp) fun k y hy => by simp at hy
 have hev := e40 (rest.map fun y : Nat => AV.v (.int .i64 (y : Nat))) (by rcases hrest with rfl | rfl; exact .inl rfl; exact .inr rfl)
 refine (call_lentN mix extOk hev Try.func40 (.cons (F := []) (F' := []) (G := []) (G' := []) (.o (.c (.d hdr))) .nil)).mono fun e w' he => ?_
 obtain ⟨vs,μ',F1,G1,rfl,hk,hle,hb2,hnw⟩ := he
 obtain ⟨v,rfl,hv⟩ := Go.Ev.b2s_one hb2
 obtain ⟨b,c,cur,fz',rfl,rfl,hcell,hlc,hcv⟩ := ow_new hv
 have hbn := hnw b (by simp)
 have hs4 := hs3.kept0 hk
 have hs5 := hs3.repl (i := 5) (r' := ⟨b,.cells cur 3 fz'⟩) rfl (hk.mono fun x hx => by cases hx) hcell (.inr hbn)
 ·have hs6 := hs5.set (i := 3) rfl (0 * 2 + 1) (.slice (some ⟨b,0,none⟩) ((rest.map fun y : Nat => AV.v (.int .i64 (y : Nat))).map fun a => [a]).length c)
  have hs7 := hs6.set (i := 2) rfl (0 * 7 + 4) (.int .i64 (wrap64 (wv - 1)))
  have hl1 := (Array.getElem?_eq_some_iff.1 h.l.2).1
  have hc4 := (Array.getElem?_eq_some_iff.1 h.c.2.2.2.2.1).1
  have hlen : ((rest.map fun y : Nat => AV.v (.int .i64 (y : Nat))).map fun a => [a]).length = rest.length := by simp
  rw [hlen] at hs7 hs6 hlc ⊢
  refine ⟨some ⟨b,0,none⟩,rest.length,c,_,rfl,hs4.frozen (i := 3) rfl _,⟨_,hs4.cell (i := 3) rfl h.l.2⟩,rfl,hs6.frozen (i := 2) rfl _,hs6.cell (i := 2) rfl h.c.2.2.2.2.1,hK _ ?_⟩
  refine ⟨{ d with curl := d.curl.setIfInBounds (0 * 2 + 1) (.slice (some ⟨b,0,none⟩) rest.length c),curc := d.curc.setIfInBounds (0 * 7 + 4) (.int .i64 (wrap64 (wv - 1))) },b,0,c,cur,fz',r,hlc,by rw [Array.size_setIfInBounds,Array.size_setIfInBounds]; exact hbs,fun k y hy => ?_,AK.drop (ext' := [rawC t7 #[.int .i64 0,.slice (some ⟨q,qo,none⟩) 1 cq] 67]) ⟨hs7,h.f,h.n,⟨?_,?_,?_,?_,?_,?_,?_⟩,?_,?_⟩⟩
  ·have := hcv k 0 [AV.v (.int .i64 (y : Nat))] _ (by rw [List.getElem?_map,List.getElem?_map,hy]; rfl) rfl
   rw [Nat.zero_add]
   simpa using this
  ·rw [Array.getElem?_setIfInBounds,if_neg (by decide)]; exact h.c.1
  ·rw [Array.getElem?_setIfInBounds,if_neg (by decide)]; exact h.c.2.1
  ·rw [Array.getElem?_setIfInBounds,if_neg (by decide)]; exact h.c.2.2.1
  ·rw [Array.getElem?_setIfInBounds,if_neg (by decide)]; exact h.c.2.2.2.1
  ·rw [Array.getElem?_setIfInBounds,if_pos rfl,if_pos hc4]
  ·rw [Array.getElem?_setIfInBounds,if_neg (by decide)]; exact h.c.2.2.2.2.2.1
  ·rw [Array.getElem?_setIfInBounds,if_neg (by decide)]; exact h.c.2.2.2.2.2.2
  ·rw [Array.getElem?_setIfInBounds,if_neg (by decide)]; exact h.l.1
  ·rw [Array.getElem?_setIfInBounds,if_pos rfl,if_pos hl1]
theorem pair_cell {W : World} {pp : Nat} {F : List Nat} {qn : Bool} {qs : List (List AV)} {wl : AV} (h : B1 mu0 (hf W) F [.pointer (some ⟨pp,0,none⟩)] (pAA qn qs wl) (.pointer (some ⟨pp,0,none⟩))) : ∃ (VA : Option Addr) (vc : Nat),W.cell? ⟨pp,3,none⟩ = some (.slice VA qs.length vc) := by
 cases h with
 | @ob _ _ _ _ cur hb hm hc =>
  have hlen := hc.len
  obtain ⟨l,hl⟩ : ∃ l,cur.toList = l := ⟨_,rfl⟩
  rw [hl] at hc hlen
  match l,hlen with
  | [v0,v1,v2,v3,v4,v5],_ =>
   have c3 : cur[3]? = some v3 := by have := congrArg (fun l => l[3]?) hl; simpa using this
   have hb' : W.heap[pp]? = some (.cells cur 99 (0,0)) := hb
   cases hc with
   | cons _ hc => cases hc with
    | cons _ hc => cases hc with
     | cons _ hc => cases hc with
      | cons h3 hc =>
       cases h3 with
       | d h => cases h
       | own => exact ⟨none,0,cell_of hb' c3⟩
       | ow => exact ⟨_,_,cell_of hb' c3⟩
theorem nodup_b {raw : List RawB} (h : ∀ (i j : Nat) (r s : RawB),raw[i]? = some r → raw[j]? = some s → r.b = s.b → i = j) : (raw.map RawB.b).Nodup := by
 rw [List.Nodup,List.pairwise_iff_getElem]
 intro i j hi hj hij e
 rw [List.length_map] at hi hj
 rw [List.getElem_map,List.getElem_map] at e
 have := h i j _ _ (List.getElem?_eq_getElem hi) (List.getElem?_eq_getElem hj) e
 omega
theorem nodup_b' {raw : List RawB} (h : (raw.map RawB.b).Nodup) (i j : Nat) (r s : RawB) (hi : raw[i]? = some r) (hj : raw[j]? = some s) (e : r.b = s.b) : i = j := by
 rw [List.Nodup,List.pairwise_iff_getElem] at h
 obtain ⟨hi1,hi2⟩ := List.getElem?_eq_some_iff.1 hi
 obtain ⟨hj1,hj2⟩ := List.getElem?_eq_some_iff.1 hj
 rcases Nat.lt_trichotomy i j with hl | hl | hl
 ·exact absurd (by rw [List.getElem_map,List.getElem_map,hi2,hj2]; exact e) (h i j (by rw [List.length_map]; exact hi1) (by rw [List.length_map]; exact hj1) hl)
 ·exact hl
 ·exact absurd (by rw [List.getElem_map,List.getElem_map,hi2,hj2]; exact e.symm) (h j i (by rw [List.length_map]; exact hj1) (by rw [List.length_map]; exact hi1) hl)
theorem wst_rawp {w W : World} {its : List ItemO} {raw raw' : List RawB} (h : Wst w its raw W) (hp : raw.Perm raw') : Wst w its raw' W :=
 ⟨h.kept,h.own,fun i r hi => by
  obtain ⟨j,hj⟩ := List.getElem?_of_mem (hp.mem_iff.2 (List.mem_of_getElem? hi))
  exact h.blk j r hj,fun i j r s hi hj e => nodup_b' ((hp.map RawB.b).nodup_iff.1 (nodup_b h.nd)) i j r s hi hj e,h.new⟩
theorem step_okA {w : World} {bf : Nat} {na na' pa' : AV} {qn : Bool} {qs : List (List AV)} {wl : AV} {x : Nat} {rest : List Nat} {wv wd : Int} {bb : Nat} {bcur : Array Value} {more : List RawB} {V : World} (h : StA w bf na (pAA qn qs wl) (x :: rest) wv bb bcur more V) (hq : 0 < qs.length) (hx2 : x < 2) (hrest : rest = [] ∨ rest = [1])
  (hev : ev 39 [pAA qn qs wl,na] = some ([.agg [.v (.int .i64 0),.lst false 1 [[.v (.int .u64 wd)]]],.v (.bool true)] ++ [pa',na'])) (hf1 : flatO pa' = true) (hf2 : flatO na' = true) (K : World → Prop)
  (hK : ∀ (q qo cq : Nat) (o : Obj) (mid : List RawB) (W' : World),WdAt ⟨q,o⟩ qo wd → StA w bf na' pa' rest (wrap64 (wv - 1)) bb ((bcur.setIfInBounds (x * 2) (.int .i64 0)).setIfInBounds (x * 2 + 1) (.slice (some ⟨q,qo,none⟩) 1 cq)) ((more ++ mid) ++ [⟨q,o⟩]) W' → K W') :
  Calls Try.prog 20 #[.pointer (some ⟨bf,0,none⟩),.agg #[.int .i64 (-1),.int .i64 (0 : Nat),.int .i64 (0 : Nat)]] V fun e w' => e = .returned (.bool true)∧K w' := by
 obtain ⟨d,Bp,po,pc,pcur,fz,r,hpc,hbs,hps,hA⟩ := h
 obtain ⟨b3k,hb3k⟩ : ∃ b3k,rawC V.heap.size #[.int .i64 (-1),.int .i64 (0 : Nat),.int .i64 (0 : Nat)] 40 = b3k := ⟨_,rfl⟩
 have h1 : AK w bf d na (pAA qn qs wl) (.slice (some ⟨bb,0,none⟩) 2 2) (.slice (some ⟨Bp,po,none⟩) (x :: rest).length pc) wv 1 2 (r :: ⟨Bp,.cells pcur 3 fz⟩ :: rawC bb bcur 67 :: (more ++ [b3k])) (V.alloc (.cells #[.int .i64 (-1),.int .i64 (0 : Nat),.int .i64 (0 : Nat)] 40)) :=
  ⟨hb3k ▸ hA.st.alloc #[.int .i64 (-1),.int .i64 (0 : Nat),.int .i64 (0 : Nat)] 40,hA.f,hA.n,hA.c,hA.l⟩
 obtain ⟨w1,hw1⟩ : ∃ w1,V.alloc (.cells #[.int .i64 (-1),.int .i64 (0 : Nat),.int .i64 (0 : Nat)] 40) = w1 := ⟨_,rfl⟩
 rw [hw1] at h1
 obtain ⟨VA,vc,hvc⟩ := pair_cell (h1.st.own.ok ⟨.pointer (some ⟨d.pp,0,none⟩),d.Fp,pAA qn qs wl⟩ (by simp))
 have h2 := ((h1.kept0 (kept_drew _)).kept0 (kept_drew _)).kept0 (kept_drew _)
 have i3 : ∀ tl : List RawB,(d.raw bf (r :: ⟨Bp,.cells pcur 3 fz⟩ :: rawC bb bcur 67 :: ((more ++ [b3k]) ++ tl)))[7 + more.length]? = some b3k := fun tl => by
  show (_ :: _ :: _ :: _ :: _ :: _ :: _ :: ((more ++ [b3k]) ++ tl))[7 + more.length]? = _
  rw [Nat.add_comm]
  simp
 have hc3 : ∀ {X : World} {its : List ItemO} {tl : List RawB},Wst w its (d.raw bf (r :: ⟨Bp,.cells pcur 3 fz⟩ :: rawC bb bcur 67 :: ((more ++ [b3k]) ++ tl))) X → ∀ j v,(#[.int .i64 (-1),.int .i64 (0 : Nat),.int .i64 (0 : Nat)] : Array Value)[j]? = some v → X.cell? ⟨V.heap.size,j,none⟩ = some v := fun {X its tl} hX j v hv =>
  hX.cell (i := 7 + more.length) (t := 40) (fz := (0,0)) (by rw [i3,← hb3k]) hv
 have h1' : Wst w (d.its na (pAA qn qs wl)) (d.raw bf (r :: ⟨Bp,.cells pcur 3 fz⟩ :: rawC bb bcur 67 :: ((more ++ [b3k]) ++ []))) w1 := by rw [List.append_nil]; exact h1.st
 have hs9 : ∀ {ext' : List RawB} {d' : AD} {na2 pa2 : AV} {b2 p2 : Value} {x1 x2 x3 : Int} {W' : World},d'.bn = d.bn∧d'.cn = d.cn∧d'.bl = d.bl∧d'.pn = d.pn∧d'.pp = d.pp → AK w bf d' na2 pa2 b2 p2 x1 x2 x3 ext' W' → W'.cell? ⟨V.heap.size,2,none⟩ = some (.int .i64 (0 : Nat)) → S9 d.bl 0 d.pp bf d.bn 1 d.cn V.heap.size d.pn W' := fun {ext' d' na2 pa2 b2 p2 x1 x2 x3 W'} he hA' hc => by
  obtain ⟨g1,g2,g3,g4,g5⟩ := he
  have a1 := hA'.st.cell (i := 3) rfl hA'.l.1
  have a2 := hA'.st.cell (i := 0) rfl hA'.f.2.1
  have a3 := hA'.st.cell (i := 1) rfl hA'.n
  rw [g3,g5] at a1
  rw [g1,g2] at a2
  rw [g1,g4] at a3
  exact ⟨a1,a2,hc,a3⟩
 refine step_walk bf d.bc 0 1 d.bn 1 d.cn 0 d.bl 1 d.cl d.pp d.pn qs.length vc VA V w1 K (by decide) (by decide) (by decide) hq hw1 V.heap.size rfl (hc3 h1' 0 _ rfl) (hc3 h1' 1 _ rfl) (hc3 h1' 2 _ rfl) (h1.st.cell (i := 0) rfl h1.f.2.1) (h1.st.cell (i := 0) rfl h1.f.2.2.1) (h1.st.cell (i := 2) rfl h1.c.2.2.1) (h1.st.cell (i := 3) rfl h1.l.1) (h1.st.cell (i := 1) rfl h1.n) hvc
  w1.heap.size rfl ((core39 h2 hev hf1 hf2).mono fun e w' he => ?_) ?_
 ·obtain ⟨q,qo,c,o,Fn',Fp',rfl,hwd,hA'⟩ := he
  have hst : Wst w (AD.its { d with Fn := Fn',Fp := Fp' } na' pa') (d.raw bf (r :: ⟨Bp,.cells pcur 3 fz⟩ :: rawC bb bcur 67 :: ((more ++ [b3k]) ++ [⟨q,o⟩]))) w' := hA'.st
  refine ⟨0,some ⟨q,qo,none⟩,1,c,rfl,hs9 (d' := { d with Fn := Fn',Fp := Fp' }) ⟨rfl,rfl,rfl,rfl,rfl⟩ hA' (hc3 hst 2 _ rfl),?_⟩
  refine fin_ok (d := { d with Fn := Fn',Fp := Fp' }) (more := (more ++ [b3k]) ++ [⟨q,o⟩]) hpc hbs hx2 hps hrest ⟨hst.alloc #[.int .i64 0,.slice (some ⟨q,qo,none⟩) 1 c] 67,hA'.f,hA'.n,hA'.c,hA'.l⟩ K fun W' hW' => hK q qo c o [b3k] W' hwd hW'
 ·have h3 : AK w bf d na (pAA qn qs wl) (.slice (some ⟨bb,0,none⟩) 2 2) (.slice (some ⟨Bp,po,none⟩) (x :: rest).length pc) wv 1 2 ((r :: ⟨Bp,.cells pcur 3 fz⟩ :: rawC bb bcur 67 :: (more ++ [b3k])) ++ [rawC w1.heap.size #[.int .i64 0,.slice none 0 0] 67]) (w1.drew.drew.drew.alloc (.cells #[.int .i64 0,.slice none 0 0] 67)) :=
   ⟨h2.st.alloc #[.int .i64 0,.slice none 0 0] 67,h2.f,h2.n,h2.c,h2.l⟩
  refine (core39 h3 hev hf1 hf2).mono fun e w' he => ?_
  obtain ⟨q,qo,c,o,Fn',Fp',rfl,hwd,hA'⟩ := he
  have hst : Wst w (AD.its { d with Fn := Fn',Fp := Fp' } na' pa') (d.raw bf (r :: ⟨Bp,.cells pcur 3 fz⟩ :: rawC bb bcur 67 :: ((more ++ [b3k]) ++ ([⟨q,o⟩] ++ [rawC w1.heap.size #[.int .i64 0,.slice none 0 0] 67])))) w' := by
   refine wst_rawp hA'.st ?_
   show (_ :: _ :: _ :: _ :: _ :: _ :: _ :: (((more ++ [b3k]) ++ [_]) ++ [_])).Perm (_ :: _ :: _ :: _ :: _ :: _ :: _ :: ((more ++ [b3k]) ++ ([_] ++ [_])))
   rw [List.append_assoc]
   exact (((((((List.Perm.append_left _ (List.Perm.swap _ _ _)).cons _).cons _).cons _).cons _).cons _).cons _).cons _
  have i7 : ∀ z : RawB,(d.raw bf (r :: ⟨Bp,.cells pcur 3 fz⟩ :: rawC bb bcur 67 :: ((more ++ [b3k]) ++ ([⟨q,o⟩] ++ [z]))))[9 + more.length]? = some z := fun z => by
   show (_ :: _ :: _ :: _ :: _ :: _ :: _ :: ((more ++ [b3k]) ++ ([_] ++ [z])))[9 + more.length]? = _
   rw [Nat.add_comm]
   simp
  have s7 : ∀ z z' : RawB,(d.raw bf (r :: ⟨Bp,.cells pcur 3 fz⟩ :: rawC bb bcur 67 :: ((more ++ [b3k]) ++ ([⟨q,o⟩] ++ [z])))).set (9 + more.length) z' = d.raw bf (r :: ⟨Bp,.cells pcur 3 fz⟩ :: rawC bb bcur 67 :: ((more ++ [b3k]) ++ ([⟨q,o⟩] ++ [z']))) := fun z z' => by
   show (_ :: _ :: _ :: _ :: _ :: _ :: _ :: ((more ++ [b3k]) ++ ([_] ++ [z]))).set (9 + more.length) z' = _
   rw [Nat.add_comm]
   simp
  have t1 := hst.set (i7 _) 0 (.int .i64 0)
  rw [s7] at t1
  have t2 := t1.set (i7 _) 1 (.slice (some ⟨q,qo,none⟩) 1 c)
  rw [s7] at t2
  refine ⟨0,some ⟨q,qo,none⟩,1,c,rfl,hs9 (d' := { d with Fn := Fn',Fp := Fp' }) ⟨rfl,rfl,rfl,rfl,rfl⟩ hA' (hc3 hst 2 _ rfl),hst.frozen (i7 _) _,t1.frozen (i7 _) _,⟨_,hst.cell (i7 _) rfl⟩,⟨_,t1.cell (v := .slice none 0 0) (i7 _) rfl⟩,
   hs9 (d' := { d with Fn := Fn',Fp := Fp' }) (ext' := r :: ⟨Bp,.cells pcur 3 fz⟩ :: rawC bb bcur 67 :: ((more ++ [b3k]) ++ ([⟨q,o⟩] ++ [_]))) ⟨rfl,rfl,rfl,rfl,rfl⟩ ⟨t2,hA'.f,hA'.n,hA'.c,hA'.l⟩ (hc3 t2 2 _ rfl),?_⟩
  refine fin_ok (fz := fz) (r := r) (d := { d with Fn := Fn',Fp := Fp' }) (more := (more ++ [b3k]) ++ [⟨q,o⟩]) hpc hbs hx2 hps hrest ⟨?_,hA'.f,hA'.n,hA'.c,hA'.l⟩ K fun W' hW' => hK q qo c o [b3k] W' hwd hW'
  rw [List.append_assoc]
  exact t2
end Go.Proofs.Ytnjccbnlmdajkaa
namespace Go.Proofs.Ytnjccbnlmdajkaa
open Go.RowKit Go.Shelf Go.Lib Go.Ev
set_option maxRecDepth 100000
theorem inf40A : (Try.prog.info? 40).map (fun i => (i.zero,i.size,i.bytes)) = some (some (.agg #[.int .i64 0,.int .i64 0,.int .i64 0]),3,24) := by kernel_rfl
theorem und41A : Try.prog.underlying 41 = some (.slice 40) := by kernel_rfl
theorem choices_okA {w : World} {bf : Nat} {W : World} (h : AK2 w bf W) : Calls Try.prog 21 #[.pointer (some ⟨bf,0,none⟩)] W fun e w' => (∃ A c,e = .returned (.slice A 1 c))∧AK2 w bf w' := by
 obtain ⟨d,B,c,bb,cur,r,hcs,hc2,hc0,hc1,hA⟩ := h
 obtain ⟨VA,vc,hvc⟩ := pair_cell (hA.st.own.ok ⟨.pointer (some ⟨d.pp,0,none⟩),d.Fp,pA2⟩ (by simp))
 have ha := hA.kept0 (KeptW.alloc W (.cells #[.bool true,.int .i64 1,.slice (some ⟨d.bl,0,none⟩) 1 d.cl,.slice (some ⟨bb,0,none⟩) 2 2,.int .i64 2,.int .i64 1,.int .i64 2] 74))
 have hna := Ev.alloc_new W (.cells #[.bool true,.int .i64 1,.slice (some ⟨d.bl,0,none⟩) 1 d.cl,.slice (some ⟨bb,0,none⟩) 2 2,.int .i64 2,.int .i64 1,.int .i64 2] 74)
 obtain ⟨wa,hwa⟩ : ∃ wa,W.alloc (.cells #[.bool true,.int .i64 1,.slice (some ⟨d.bl,0,none⟩) 1 d.cl,.slice (some ⟨bb,0,none⟩) 2 2,.int .i64 2,.int .i64 1,.int .i64 2] 74) = wa := ⟨_,rfl⟩
 rw [hwa] at ha hna
 have hb := ha.kept0 (KeptW.alloc wa (.cells #[.pointer (some ⟨d.pp,0,none⟩),.slice (some ⟨B,0,none⟩) 2 c] 82))
 have hnb := Ev.alloc_new wa (.cells #[.pointer (some ⟨d.pp,0,none⟩),.slice (some ⟨B,0,none⟩) 2 c] 82)
 obtain ⟨wb,hwb⟩ : ∃ wb,wa.alloc (.cells #[.pointer (some ⟨d.pp,0,none⟩),.slice (some ⟨B,0,none⟩) 2 c] 82) = wb := ⟨_,rfl⟩
 rw [hwb] at hb hnb
 obtain ⟨VA',vc',hvc'⟩ := pair_cell (hb.st.own.ok ⟨.pointer (some ⟨d.pp,0,none⟩),d.Fp,pA2⟩ (by simp))
 have hd := hb.kept0 (KeptW.alloc wb (.cells #[.int .i64 (-1),.int .i64 0,.int .i64 0] 40))
 obtain ⟨I,hI,hIz,hIs,hIb⟩ := info_parts inf40A
 obtain ⟨b',c',W4,cur',hrun,hst4,_,_,_⟩ := hd.st.app0 (P := Try.prog) und41A hI hIz hIs (by omega) (by omega) rfl (Ev.alloc_new wb _) rfl (fun v hv => by
  simp only [List.mem_cons,List.not_mem_nil,or_false] at hv
  rcases hv with rfl | rfl | rfl <;> rfl)
 have h4 : AK w bf d n0 pA2 (.slice (some ⟨bb,0,none⟩) 2 2) (.slice (some ⟨B,0,none⟩) 2 c) 2 1 2 ([r,rawC B cur 3,rawC bb MB4 67] ++ [rawC b' cur' 40]) W4 := ⟨hst4,hA.f,hA.n,hA.c,hA.l⟩
 exact choices1_walk bf d.bc d.bl d.cl d.pp 2 vc' b' c' VA' (some ⟨B,0,none⟩) (some ⟨bb,0,none⟩) 2 c 2 2 true 1 2 1 2 W wa wb W4 (AK2 w bf) (by decide) (hA.st.cell (i := 0) rfl hA.f.2.2.1) (hA.st.cell (i := 2) rfl hA.c.1) (hA.st.cell (i := 2) rfl hA.c.2.1) (hA.st.cell (i := 2) rfl hA.c.2.2.1) (hA.st.cell (i := 2) rfl hA.c.2.2.2.1) (hA.st.cell (i := 2) rfl hA.c.2.2.2.2.1) (hA.st.cell (i := 2) rfl hA.c.2.2.2.2.2.1) (hA.st.cell (i := 2) rfl hA.c.2.2.2.2.2.2)
  hwa (cell_of hna rfl) (ha.st.cell (i := 3) rfl ha.l.1) (ha.st.cell (i := 3) rfl ha.l.2) hwb (cell_of hnb rfl) hvc' hrun (h4.st.cell (i := 0) rfl h4.f.2.2.2) ⟨d,B,c,bb,cur,r,hcs,hc2,hc0,hc1,h4.drop⟩
def AK3 (w : World) (bf : Nat) (W : World) : Prop := ∃ (bb q qo cq : Nat) (more : List RawB),StA w bf n1 pA3 [1] 1 bb ((MB4.setIfInBounds 0 (.int .i64 0)).setIfInBounds 1 (.slice (some ⟨q,qo,none⟩) 1 cq)) more W
def AK4 (w : World) (bf : Nat) (W : World) : Prop := ∃ (bb q qo cq q2 qo2 cq2 : Nat) (o : Obj) (more : List RawB),WdAt ⟨q2,o⟩ qo2 4 ∧
 StA w bf n1 pA4 [] 0 bb ((((MB4.setIfInBounds 0 (.int .i64 0)).setIfInBounds 1 (.slice (some ⟨q,qo,none⟩) 1 cq)).setIfInBounds 2 (.int .i64 0)).setIfInBounds 3 (.slice (some ⟨q2,qo2,none⟩) 1 cq2)) (more ++ [⟨q2,o⟩]) W
theorem awake_ok (w : World) : Calls Try.prog 8 #[] w fun e w' => e = .returned (.bool true)∧KeptW [] w w' := by
 have v1 : wrap64 (2 - 1) = 1 := by rw [w64]; decide
 have v2 : wrap64 (1 - 1) = 0 := by rw [w64]; decide
 refine awake_walk (w.heap.size + 1) 0 0 w (fun W => NC w 1 1 5 1 W) (AK2 w (w.heap.size + 1)) (AK2 w (w.heap.size + 1)) (AK3 w (w.heap.size + 1)) (AK4 w (w.heap.size + 1)) (KeptW [] w)
  (new_ok w 1 1 5 (by decide) (by decide) (by decide)) (fun W hW => ?_) (fun W hW => choices_okA hW) (fun W hW => ?_) (fun W hW => ?_) (fun W hW => ?_)
 ·obtain ⟨d,hd⟩ := ak_new hW
  exact post_all hd
 ·obtain ⟨d,B,c,bb,cur,r,hcs,hc2,hc0,hc1,hA⟩ := hW
  refine step_okA (na := n0) (na' := n1) (pa' := pA3) (x := 0) (rest := [1]) (wv := 2) (wd := 0) (bb := bb) (bcur := MB4) (more := []) (qs := [row1,row2]) ⟨d,B,0,c,cur,(0,0),r,hc2,rfl,fun k y hy => ?_,hA⟩ (by decide) (by decide) (.inr rfl) e39a rfl rfl _ fun q qo cq o mid W' hwd hS => ?_
  ·match k,hy with
   | 0,hy => cases hy; exact hc0
   | 1,hy => cases hy; exact hc1
   | k + 2,hy => simp at hy
  ·rw [v1] at hS
   exact ⟨bb,q,qo,cq,_,hS⟩
 ·obtain ⟨bb,q,qo,cq,more,hS⟩ := hW
  refine step_okA (na' := n1) (pa' := pA4) (wd := 4) (qs := [row2]) hS (by decide) (by decide) (.inl rfl) e39b rfl rfl _ fun q2 qo2 cq2 o mid W' hwd hS2 => ?_
  rw [v2] at hS2
  exact ⟨bb,q,qo,cq,q2,qo2,cq2,o,_,hwd,hS2⟩
 ·obtain ⟨bb,q,qo,cq,q2,qo2,cq2,o,more,⟨wc,wt,wfz,ho,hwd⟩,d,Bp,po,pc,pcur,fz,r,hpc,hbs,hps,hA⟩ := hW
  simp only at ho
  subst ho
  have hs := hA.st.set (i := 2) rfl (0 * 7 + 3) (.slice none 0 0)
  refine (take_walk (w.heap.size + 1) d.bc 0 1 2 2 ⟨bb,0,none⟩ W (fun V => Wst w (d.its n1 pA4) ((d.raw (w.heap.size + 1) (r :: ⟨Bp,.cells pcur 3 fz⟩ :: rawC bb _ 67 :: (more ++ [⟨q2,.cells wc wt wfz⟩]))).set 2 _) V) (by decide) (hA.st.cell (i := 0) rfl hA.f.2.2.1) (hA.st.cell (i := 2) rfl hA.c.1) (hA.st.cell (i := 2) rfl hA.c.2.2.2.1) (hA.st.cell (i := 2) rfl hA.c.2.2.2.2.1) (hA.st.frozen (i := 2) rfl _) hs).mono fun e w' he => ?_
  obtain ⟨rfl,hs'⟩ := he
  refine ⟨bb,2,some ⟨q,qo,none⟩,cq,q2,qo2,cq2,rfl,hs'.cell (i := 6) rfl rfl,hs'.cell (i := 6) rfl rfl,hs'.cell (i := 7 + more.length) (t := wt) (fz := wfz) ?_ hwd,hs'.kept⟩
  rw [List.getElem?_set_ne (by omega)]
  show (_ :: _ :: _ :: _ :: _ :: _ :: _ :: (more ++ [_]))[7 + more.length]? = _
  rw [Nat.add_comm 7]
  simp
end Go.Proofs.Ytnjccbnlmdajkaa
namespace Go.Proofs.Ytnjccbnlmdajkaa
open Go.RowKit Go.Shelf Go.Lib Go.Ev
set_option maxRecDepth 100000
variable {w0 W : World} {μ : Mu} {I : Ky → Option ItemO} {t fb gb : Nat}
abbrev st1 (n0 n1 : NdA) (x : ClA) : FbA := ⟨12,[n0,n1],[x],[]⟩
theorem chs1 {m k : Nat} {l0 l1 : LnA} {x : ClA} (h : Bt m 0 k l0 l1 x) (n0 n1 : NdA) : (st1 n0 n1 x).chs = (if l0.p.q = [] then [] else [(-1,0,0)]) ++ (if l1.p.q = [] then [] else [(-1,0,1)]) := by
 have h2 := chL_two l0 l1 0
 unfold FbA.chs
 show ([] ++ chL x.ln 0 x.ln.length) ++ [] = _
 rw [h.ln,h2]
 simp
theorem wt_left {m k : Nat} {l0 l1 : LnA} {x : ClA} (h : Bt m 0 k l0 l1 x) (hw : 0 < x.wt) : l0.p.q ≠ [] ∨ l1.p.q ≠ [] := by
 by_cases h0 : l0.p.q = []
 ·by_cases h1 : l1.p.q = []
  ·have := h.wt
   rw [h0,h1] at this
   simp at this
   omega
  ·exact .inr h1
 ·exact .inl h0
theorem wt_zero {m k : Nat} {l0 l1 : LnA} {x : ClA} (h : Bt m 0 k l0 l1 x) (hw : ¬ 0 < x.wt) : l0.p.q = []∧l1.p.q = [] := by
 have := h.wt
 refine ⟨List.length_eq_zero_iff.1 ?_,List.length_eq_zero_iff.1 ?_⟩ <;> omega
theorem ap_run {E : Fin} {n : Nat} {l0 l1 : LnA} {n0 n1 : NdA} {x : ClA} (hF : FSt t w0 μ I fb (st1 n0 n1 x) W) (hW : Way E n l0 l1 n0 n1 x) :
  (Calls Try.prog 19 #[ptr fb,.int .i64 0] W fun e w' => e = .returned (.int .i64 x.wt)∧w' = W) ∧
  (0 < x.wt → Calls Try.prog 21 #[ptr fb] W fun e w' => ∃ (b l c : Nat),e = .returned (.slice (some ⟨b,0,none⟩) l c)∧0 < l∧l ≤ 1000∧0 < n∧FSt t w0 μ I fb (st1 n0 n1 x) w' ∧
   ∀ k,k < l → ∃ x y z : Int,w'.cell? ⟨b,k * 3,none⟩ = some (.int .i64 x)∧w'.cell? ⟨b,k * 3 + 1,none⟩ = some (.int .i64 y)∧w'.cell? ⟨b,k * 3 + 2,none⟩ = some (.int .i64 z) ∧
    Calls Try.prog 20 #[ptr fb,.agg #[.int .i64 x,.int .i64 y,.int .i64 z]] w' fun e w2 => (∃ q,e = .returned (.bool q))∧∃ n',n' < n∧∃ l0' l1' n0' n1' x',Way E n' l0' l1' n0' n1' x'∧FSt t w0 μ I fb (st1 n0' n1' x') w2) := by
 have hB := hW.bt
 have hx : (st1 n0 n1 x).cl[0]? = some x := rfl
 refine ⟨g_waiting hF (c := 0) hx,fun hw => ?_⟩
 have hb2 : ∀ z ∈ (st1 n0 n1 x).cl,z.ln.length ≤ 100 := fun z hz => by
  have : z ∈ [x] := hz
  simp only [List.mem_cons,List.not_mem_nil,or_false] at this
  subst this
  rw [hB.ln]; exact Nat.le_of_ble_eq_true rfl
 refine (g_choices hF (show 0 < 1 by decide) ⟨show 1 ≤ 100 by decide,hb2,show 0 ≤ 50000 by decide⟩).mono fun e w' he => ?_
 obtain ⟨b,A,c,rfl,hA,hc,hF'⟩ := he
 have hne := wt_left hB hw
 have hlen : 0 < (st1 n0 n1 x).chs.length∧(st1 n0 n1 x).chs.length ≤ 2 := by
  rw [chs1 hB]
  by_cases h0 : l0.p.q = [] <;> by_cases h1 : l1.p.q = []
  ·rcases hne with g | g
   ·exact absurd h0 g
   ·exact absurd h1 g
  ·rw [if_pos h0,if_neg h1]; decide
  ·rw [if_neg h0,if_pos h1]; decide
  ·rw [if_neg h0,if_neg h1]; decide
 obtain rfl := hA hlen.1
 have hpos : 0 < n := by
  have := hW.left
  rcases hne with g | g
  ·have := hB.h0.inv.left_pos g; omega
  ·have := hB.h1.inv.left_pos g; omega
 refine ⟨b,_,c,rfl,hlen.1,by omega,hpos,hF',fun k hk => ?_⟩
 obtain ⟨ch,hch⟩ : ∃ ch,(st1 n0 n1 x).chs[k]? = some ch := ⟨_,List.getElem?_eq_getElem hk⟩
 obtain ⟨c0,c1,c2⟩ := hc k ch hch
 have hmem := List.mem_of_getElem? hch
 rw [chs1 hB] at hmem
 have hcase : (ch = (-1,0,0)∧l0.p.q ≠ []) ∨ (ch = (-1,0,1)∧l1.p.q ≠ []) := by
  rcases List.mem_append.1 hmem with g | g
  ·by_cases h0 : l0.p.q = []
   ·rw [if_pos h0] at g; cases g
   ·rw [if_neg h0] at g; exact .inl ⟨by simpa using g,h0⟩
  ·by_cases h1 : l1.p.q = []
   ·rw [if_pos h1] at g; cases g
   ·rw [if_neg h1] at g; exact .inr ⟨by simpa using g,h1⟩
 rcases hcase with ⟨rfl,hq⟩ | ⟨rfl,hq⟩
 ·have hl0 : x.ln[0]? = some l0 := by rw [hB.ln]; rfl
  refine ⟨-1,0,0,c0,c1,c2,(g_step hF' (c := 0) (nd := 0) hx hl0 (n := n0) rfl hq hB.h0.inv.ok (by have := hW.ws; omega) fun _ => ?_).mono fun e w2 he => ⟨⟨true,he.1⟩,?_⟩⟩
  ·obtain ⟨ix,rest,q1,q2,q3⟩ := hB.h0.head hq
   exact ⟨ix,rest,q1,by rw [hB.ba]; exact q2,q3⟩
  ·obtain ⟨n',h1,h2⟩ := hW.step0 hq
   exact ⟨n',h1,_,_,_,_,_,h2,he.2⟩
 ·have hl1 : x.ln[1]? = some l1 := by rw [hB.ln]; rfl
  refine ⟨-1,0,1,c0,c1,c2,(g_step hF' (c := 0) (nd := 1) hx hl1 (n := n1) rfl hq hB.h1.inv.ok (by have := hW.ws; omega) fun _ => ?_).mono fun e w2 he => ⟨⟨true,he.1⟩,?_⟩⟩
  ·obtain ⟨ix,rest,q1,q2,q3⟩ := hB.h1.head hq
   exact ⟨ix,rest,q1,by rw [hB.ba]; exact q2,q3⟩
  ·obtain ⟨n',h1,h2⟩ := hW.step1 hq
   exact ⟨n',h1,_,_,_,_,_,h2,he.2⟩
theorem lnPosts_dj {lines : Int} {vs : List Vb} {l0 l1 : LnA} (e0 : l0.pl = []) (e1 : l1.pl = []) (hg : ∀ u ∈ vs,u.node = 0 ∨ u.node = 1) : ∀ (i : Nat) (k0 k1 : LnA),lnPosts lines vs [l0,l1] i = [k0,k1] →
  (∀ j ∈ k0.pl,∃ k : Nat,j = (k : Int)∧k < i)∧(∀ j ∈ k1.pl,∃ k : Nat,j = (k : Int)∧k < i)∧∀ j ∈ k0.pl,j ∉ k1.pl
 | 0,k0,k1,h => by
  have h : [l0,l1] = [k0,k1] := h
  injection h with h1 h2
  injection h2 with h2 _
  subst h1 h2
  rw [e0,e1]
  exact ⟨fun j hj => (by cases hj),fun j hj => (by cases hj),fun j hj => (by cases hj)⟩
 | i + 1,k0,k1,h => by
  have hl := lnPosts_len lines vs [l0,l1] i
  obtain ⟨p0,p1,hp⟩ : ∃ p0 p1,lnPosts lines vs [l0,l1] i = [p0,p1] := by
   match hq : lnPosts lines vs [l0,l1] i,hl with
   | [a,b],_ => exact ⟨a,b,rfl⟩
  obtain ⟨h1,h2,h3⟩ := lnPosts_dj e0 e1 hg i p0 p1 hp
  have w1 : ∀ j ∈ p0.pl,∃ k : Nat,j = (k : Int)∧k < i + 1 := fun j hj => by obtain ⟨k,q1,q2⟩ := h1 j hj; exact ⟨k,q1,by omega⟩
  have w2 : ∀ j ∈ p1.pl,∃ k : Nat,j = (k : Int)∧k < i + 1 := fun j hj => by obtain ⟨k,q1,q2⟩ := h2 j hj; exact ⟨k,q1,by omega⟩
  have n1 : (i : Int) ∉ p0.pl := fun hm => by obtain ⟨k,q1,q2⟩ := h1 _ hm; omega
  have n2 : (i : Int) ∉ p1.pl := fun hm => by obtain ⟨k,q1,q2⟩ := h2 _ hm; omega
  unfold lnPosts at h
  cases hv : vs[i]? with
  | none =>
   rw [hv,hp] at h
   injection h with g1 g2
   injection g2 with g2 _
   subst g1 g2
   exact ⟨w1,w2,h3⟩
  | some v =>
   rw [hv,hp] at h
   have h : lnPost lines [p0,p1] i v = [k0,k1] := h
   unfold lnPost at h
   rcases hg v (List.mem_of_getElem? hv) with e | e
   ·rw [e] at h
    have h : [(⟨p0.p.post v lines,p0.pl ++ [(i : Int)]⟩ : LnA),p1] = [k0,k1] := h
    injection h with g1 g2
    injection g2 with g2 _
    subst g1 g2
    refine ⟨fun j hj => ?_,w2,fun j hj => ?_⟩
    ·rcases List.mem_append.1 hj with hj | hj
     ·exact w1 j hj
     ·simp at hj; exact ⟨i,hj,by omega⟩
    ·rcases List.mem_append.1 hj with hj | hj
     ·exact h3 j hj
     ·simp at hj; subst hj; exact n2
   ·rw [e] at h
    have h : [p0,(⟨p1.p.post v lines,p1.pl ++ [(i : Int)]⟩ : LnA)] = [k0,k1] := h
    injection h with g1 g2
    injection g2 with g2 _
    subst g1 g2
    refine ⟨w1,fun j hj => ?_,fun j hj hm => ?_⟩
    ·rcases List.mem_append.1 hj with hj | hj
     ·exact w2 j hj
     ·simp at hj; exact ⟨i,hj,by omega⟩
    ·rcases List.mem_append.1 hm with hm | hm
     ·exact h3 j hj hm
     ·simp at hm; subst hm; exact n1 hj
theorem way_start {vs : List Vb} (hm : 1 ≤ vs.length∧vs.length ≤ 10) (hg : ∀ u ∈ vs,u.Wf∧u.badN 2 12 = 0) : ∃ (E : Fin) (n : Nat) (l0 l1 : LnA),E.m = vs.length∧n ≤ 960∧Way E n l0 l1 (nd0 12) (nd0 12) ((clUp 0 2).post 12 vs) := by
 obtain ⟨l0,l1,hB⟩ := Bt.post (c := 0) (inc := 1) (lines := 12) (by omega) (by omega) (by omega) hg (by omega) (x := clUp 0 2) rfl rfl
 obtain ⟨c0,l0',n0',r0⟩ := Run.ex _ l0 (nd0 12) hB.h0 (Nat.le_refl _)
 obtain ⟨c1,l1',n1',r1⟩ := Run.ex _ l1 (nd0 12) hB.h1 (Nat.le_refl _)
 have hl := hB.left
 have hln : lnPosts 12 vs [⟨prNew 0 1 0,[]⟩,⟨prNew 0 1 1,[]⟩] vs.length = [l0,l1] := hB.ln
 obtain ⟨_,_,hdj⟩ := lnPosts_dj rfl rfl (fun u hu => by
  obtain ⟨_,h0,h1⟩ := badN_bad (n := 2) (by omega) (hg u hu).2
  omega) vs.length l0 l1 hln
 have e1 : wrap64 (0 + 1) = 1 := by rw [w64]; decide
 have e2 : wrap64 (0 + (vs.length : Int)) = vs.length := by rw [w64,w_i64]; omega
 refine ⟨⟨vs.length,l0',n0',l1',n1',ap c0 (ap c1 (List.replicate vs.length ⟨0,true,[]⟩)),1,1,vs.length⟩,l0.p.left + l1.p.left,l0,l1,rfl,by omega,hB.exact,rfl,⟨c0,c1,r0,r1,rfl⟩,hdj,⟨by rw [nd_eq']; decide,by rw [nd_eq']; decide⟩,fun d hd => ?_,rfl,e1,e2⟩
 obtain ⟨_,rfl⟩ := List.mem_replicate.1 hd
 exact Nat.zero_le _
where nd_eq' : (nd0 12).ws.length = 96 := List.length_replicate ..
end Go.Proofs.Ytnjccbnlmdajkaa
namespace Go.Proofs.Ytnjccbnlmdajkaa
open Go.RowKit Go.Shelf Go.Lib Go.Ev
set_option maxRecDepth 100000
variable {w0 W : World} {fb m VC : Nat} {VA : Option Addr}
abbrev I0 : Ky → Option ItemO := fun _ => none
structure Bs (m : Nat) (inc tr : Int) (x : ClA) : Prop where
 inc : x.inc = inc
 tr : x.tr = tr
 po : x.po = (m : Int)
end Go.Proofs.Ytnjccbnlmdajkaa
namespace Go.Proofs.Ytnjccbnlmdajkaa
open Go.RowKit Go.Shelf Go.Lib Go.Ev
set_option maxRecDepth 100000
variable {w0 W : World} {fb gb m VC : Nat} {VA : Option Addr}
theorem f28_at : Try.prog.funcs[28]? = some Try.f28 := by kernel_rfl
theorem f29_at : Try.prog.funcs[29]? = some Try.f29 := by kernel_rfl
abbrev new1 : FbA := st1 (nd0 12) (nd0 12) (clUp 0 2)
def AP1 (w0 : World) (m fb gb : Nat) (VA : Option Addr) (VC : Nat) (W : World) : Prop := ∃ (μ : Mu) (vs : List Vb) (n : Bool),MuLe (hf w0) μ∧DR μ (.lst n 9 (vs.map Vb.row)) (.slice VA m VC)∧vs.length = m∧(∀ u ∈ vs,u.Wf)∧F2 w0 μ fb gb new1 new1 W
def AQ1 (w0 : World) (m fb gb n : Nat) (W : World) : Prop :=
 ∃ (E : Fin) (nb : Nat) (l0 l1 k0 k1 : LnA) (n0 n1 m0 m1 : NdA) (x y : ClA),E.m = m∧nb ≤ 960∧Way E n l0 l1 n0 n1 x∧Way E nb k0 k1 m0 m1 y∧F2 w0 (hf w0) fb gb (st1 n0 n1 x) (st1 m0 m1 y) W
structure FinOk (E : Fin) : Prop where
 l0 : LnE E.l0
 l1 : LnE E.l1
 ba : E.ba.length = E.m
 ds : ∀ d ∈ E.ba,d.w.length ≤ 100000
 w0 : E.n0.ws.length ≤ 1000
 w1 : E.n1.ws.length ≤ 1000
def AQ2 (w0 : World) (m fb gb n : Nat) (W : World) : Prop :=
 ∃ (E : Fin) (k0 k1 : LnA) (m0 m1 : NdA) (y : ClA),E.m = m∧FinOk E∧Way E n k0 k1 m0 m1 y∧F2 w0 (hf w0) fb gb (st1 E.n0 E.n1 E.x) (st1 m0 m1 y) W
def AR (w0 : World) (m fb gb : Nat) (W : World) : Prop := ∃ E : Fin,E.m = m∧FinOk E∧F2 w0 (hf w0) fb gb (st1 E.n0 E.n1 E.x) (st1 E.n0 E.n1 E.x) W
theorem ap_post (hm : 1 ≤ m∧m ≤ 10) (h : AP1 w0 m fb gb VA VC W) : Calls Try.prog 18 #[ptr fb,.int .i64 0,.slice VA m VC] W fun e w' => ∃ z : Int,e = .returned (.int .i64 z)∧Calls Try.prog 18 #[ptr gb,.int .i64 0,.slice VA m VC] w' fun e w2 => e = .returned (.int .i64 z)∧(z ≠ 0 → KeptW [] w0 w2)∧(z = 0 → ∃ n,n ≤ 960∧AQ1 w0 m fb gb n w2) := by
 obtain ⟨μ,vs,b,hmw,hd,rfl,hw,hF⟩ := h
 have hx : new1.cl[0]? = some (clUp 0 2) := rfl
 obtain ⟨μ1,I1,hm1,hL,back⟩ := hF.l
 rcases first_bad (vs := vs) 2 12 with hg | ⟨k,uk,h1,h2,h3⟩
 ·have hq : ∀ l ∈ (clUp 0 2).ln,l.p.q.length + vs.length ≤ 1024∧l.pl.length + vs.length ≤ 1024 := fun l hl => by
   have : l ∈ [(⟨prNew 0 1 0,[]⟩ : LnA),⟨prNew 0 1 1,[]⟩] := hl
   simp only [List.mem_cons,List.not_mem_nil,or_false] at this
   rcases this with rfl | rfl
   ·show 0 + vs.length ≤ 1024∧0 + vs.length ≤ 1024; omega
   ·show 0 + vs.length ≤ 1024∧0 + vs.length ≤ 1024; omega
  refine (g_post hL (c := 0) hx rfl rfl (hd.mono hm1) (by omega) (fun u hu => ⟨hw u hu,hg u hu⟩) (by decide) rfl hq).mono fun e w' he => ⟨0,he.1,?_⟩
  have hF2 := back _ _ _ he.2
  obtain ⟨μ2,I2,hm2,hL2,back2⟩ := hF2.r
  refine (g_post hL2 (c := 0) hx rfl rfl (hd.mono (hm1.trans hm2)) (by omega) (fun u hu => ⟨hw u hu,hg u hu⟩) (by decide) rfl hq).mono fun e w2 he => ⟨he.1,fun h => absurd rfl h,fun _ => ?_⟩
  obtain ⟨E,n,l0,l1,q1,q2,q3⟩ := way_start hm fun u hu => ⟨hw u hu,hg u hu⟩
  have hF3 := back2 _ _ _ he.2
  refine ⟨n,q2,E,n,l0,l1,l0,l1,_,_,_,_,_,_,q1,q2,q3,q3,hF3.mono (hmw.trans (hm1.trans hm2))⟩
 ·refine (g_bad hL (c := 0) hx rfl rfl (hd.mono hm1) (by omega) (by decide) h1 h2 h3).mono fun e w' he => ⟨_,he.1,?_⟩
  have hF2 := back _ _ _ he.2
  obtain ⟨μ2,I2,hm2,hL2,back2⟩ := hF2.r
  exact (g_bad hL2 (c := 0) hx rfl rfl (hd.mono (hm1.trans hm2)) (by omega) (by decide) h1 h2 h3).mono fun e w2 he => ⟨he.1,fun _ => he.2.kept,fun h => absurd h h3⟩
variable {no ob oo : Nat}
def Ords (w0 : World) (no ob oo : Nat) : Prop := ∀ W,KeptW [] w0 W → ∀ i,i < no → ∃ x : Int,W.cell? ⟨ob,oo + i,none⟩ = some (.int .i64 x)
theorem ap_q1 (hO : Ords w0 no ob oo) {n : Nat} (h : AQ1 w0 m fb gb n W) : ApQ fb n no ob oo (AQ1 w0 m fb gb) (fun W => ∃ n,n ≤ 960∧AQ2 w0 m fb gb n W) W := by
 obtain ⟨E,nb,l0,l1,k0,k1,n0,n1,m0,m1,x,y,hm,hnb,hW,hV,hF⟩ := h
 obtain ⟨μ1,I1,hm1,hL,back⟩ := hF.l
 obtain ⟨r1,r2⟩ := ap_run hL hW
 refine ⟨x.wt,r1,fun hw => ?_,fun hw => ?_⟩
 ·refine (r2 hw).mono fun e w' he => ?_
  obtain ⟨b,l,c,rfl,q1,q2,q3,q4,q5⟩ := he
  refine ⟨b,l,c,rfl,q1,q2,q3,fun i hi => hO w' (back _ _ _ q4).kept i hi,fun k hk => ?_⟩
  obtain ⟨a1,a2,a3,c1,c2,c3,hc⟩ := q5 k hk
  refine ⟨a1,a2,a3,c1,c2,c3,hc.mono fun e w2 he => ⟨he.1,?_⟩⟩
  obtain ⟨n',h1,l0',l1',n0',n1',x',h2,h3⟩ := he.2
  exact ⟨n',h1,E,nb,l0',l1',k0,k1,n0',n1',m0,m1,x',y,hm,hnb,h2,hV,(back _ _ _ h3).mono hm1⟩
 ·obtain ⟨z0,z1⟩ := wt_zero hW.bt hw
  obtain ⟨rfl,rfl,rfl,f1,f2,f3,f4,f5,f6⟩ := hW.fin z0 z1
  exact ⟨nb,hnb,E,k0,k1,m0,m1,y,hm,⟨f1,f2,f3,f4,f5,f6⟩,hV,hF⟩
theorem ap_q2 (hO : Ords w0 no ob oo) {n : Nat} (h : AQ2 w0 m fb gb n W) : ApQ gb n no ob oo (AQ2 w0 m fb gb) (AR w0 m fb gb) W := by
 obtain ⟨E,k0,k1,m0,m1,y,hm,hE,hV,hF⟩ := h
 obtain ⟨μ1,I1,hm1,hL,back⟩ := hF.r
 obtain ⟨r1,r2⟩ := ap_run hL hV
 refine ⟨y.wt,r1,fun hw => ?_,fun hw => ?_⟩
 ·refine (r2 hw).mono fun e w' he => ?_
  obtain ⟨b,l,c,rfl,q1,q2,q3,q4,q5⟩ := he
  refine ⟨b,l,c,rfl,q1,q2,q3,fun i hi => hO w' (back _ _ _ q4).kept i hi,fun k hk => ?_⟩
  obtain ⟨a1,a2,a3,c1,c2,c3,hc⟩ := q5 k hk
  refine ⟨a1,a2,a3,c1,c2,c3,hc.mono fun e w2 he => ⟨he.1,?_⟩⟩
  obtain ⟨n',h1,l0',l1',n0',n1',x',h2,h3⟩ := he.2
  exact ⟨n',h1,E,l0',l1',n0',n1',x',hm,hE,h2,(back _ _ _ h3).mono hm1⟩
 ·obtain ⟨z0,z1⟩ := wt_zero hV.bt hw
  obtain ⟨rfl,rfl,rfl,_⟩ := hV.fin z0 z1
  exact ⟨E,hm,hE,hF⟩
abbrev st2 (E : Fin) : FbA := st1 E.n0 E.n1 { E.x with ba := [] }
theorem st2_z {E : Fin} (h : FinOk E) : FbZ (st2 E) := by
 refine ⟨by show 1 ≤ 2∧2 ≤ 10; omega,fun n hn => ?_,by show 1 ≤ 1∧1 ≤ 10; omega,fun x hx => ?_,rfl⟩
 ·have : n ∈ [E.n0,E.n1] := hn
  simp only [List.mem_cons,List.not_mem_nil,or_false] at this
  rcases this with rfl | rfl
  ·exact h.w0
  ·exact h.w1
 ·have : x ∈ [{ E.x with ba := [] }] := hx
  simp only [List.mem_cons,List.not_mem_nil,or_false] at this
  subst this
  refine ⟨rfl,fun l hl => ?_,by show 1 ≤ 2∧2 ≤ 10; omega⟩
  have : l ∈ [E.l0,E.l1] := hl
  simp only [List.mem_cons,List.not_mem_nil,or_false] at this
  rcases this with rfl | rfl
  ·exact h.l0
  ·exact h.l1
theorem ap_r (hm : 1 ≤ m∧m ≤ 10) (h : AR w0 m fb gb W) : ApR fb gb m W (KeptW [] w0) := by
 obtain ⟨E,rfl,hE,hF⟩ := h
 have hx : (st1 E.n0 E.n1 E.x).cl[0]? = some E.x := rfl
 have hne : E.x.ba ≠ [] := fun e => by
  have := hE.ba
  rw [show E.ba = [] from e] at this
  simp at this; omega
 have hlen : E.x.ba.length = E.m := hE.ba
 obtain ⟨μ1,I1,hm1,hL,back⟩ := hF.l
 refine (g_take hL (c := 0) hx rfl hne rfl).mono fun e w1 he => ?_
 obtain ⟨A1,c1,μ2,b1,rfl,hm2,hd1,hL2⟩ := he
 have hF2 : F2 w0 μ2 fb gb (st2 E) (st1 E.n0 E.n1 E.x) w1 := back _ _ _ hL2
 rw [hlen] at hd1 ⊢
 refine ⟨A1,c1,rfl,?_⟩
 obtain ⟨μ3,I3,hm3,hL3,back3⟩ := hF2.r
 refine (g_take hL3 (c := 0) hx rfl hne rfl).mono fun e w2 he => ?_
 obtain ⟨A2,c2,μ4,b2,rfl,hm4,hd2,hL4⟩ := he
 have hF4 : F2 w0 μ4 fb gb (st2 E) (st2 E) w2 := back3 _ _ _ hL4
 rw [hlen] at hd2 ⊢
 refine ⟨A2,c2,rfl,?_⟩
 have hd1 := hd1.mono (hm3.trans hm4)
 refine (hF4.vals mix B.extOk (xs := [.bool true]) (B.s_SameDs b1 b2 E.ba (by have := hE.ba; omega) hE.ds) f28_at (vals := [.slice A1 E.m c1,.slice A2 E.m c2]) fun {μ' hp} hle => .cons (F := []) (F' := []) (G := []) (G' := []) (.o (.c (.d (hd1.mono hle)))) (.cons (F := []) (F' := []) (G := []) (G' := []) (.o (.c (.d (hd2.mono hle)))) .nil)).mono fun e w3 he => ?_
 obtain ⟨rfl,hF5⟩ := he
 refine ⟨rfl,?_⟩
 obtain ⟨μ5,I5,hm5,hL5,back5⟩ := hF5.l
 refine (g_encode hL5 (st2_z hE)).mono fun e w4 he => ?_
 obtain ⟨u1,μ6,b3,rfl,hm6,hd3,hL6⟩ := he
 have hF6 : F2 w0 μ6 fb gb (st2 E) (st2 E) w4 := back5 _ _ _ hL6
 refine ⟨u1,rfl,?_⟩
 obtain ⟨μ7,I7,hm7,hL7,back7⟩ := hF6.r
 refine (g_encode hL7 (st2_z hE)).mono fun e w5 he => ?_
 obtain ⟨u2,μ8,b4,rfl,hm8,hd4,hL8⟩ := he
 have hF8 : F2 w0 μ8 fb gb (st2 E) (st2 E) w5 := back7 _ _ _ hL8
 refine ⟨u2,rfl,?_⟩
 have hd3 := hd3.mono (hm7.trans hm8)
 refine (hF8.vals mix B.extOk (xs := [.bool true]) (B.s_SameB b3 b4 (fbE (st2 E))) f29_at (vals := [u1,u2]) fun {μ' hp} hle => .cons (F := []) (F' := []) (G := []) (G' := []) (.o (.c (.d (hd3.mono hle)))) (.cons (F := []) (F' := []) (G := []) (G' := []) (.o (.c (.d (hd4.mono hle)))) .nil)).mono fun e w6 he => ?_
 exact ⟨he.1,he.2.kept⟩
theorem apart_ok (w : World) {n n2 : Bool} {rs : List Rw} {os : List Int} {A0 OA : Option Addr} {vc oc : Nat} (hd : DR (hf w) (.lst n 6 (rs.map Rw.row)) (.slice A0 rs.length vc)) (hd2 : DR (hf w) (.lst n2 1 (os.map irow)) (.slice OA os.length oc)) (hm : 1 ≤ rs.length∧rs.length ≤ 10) (hno : os.length ≤ 100) :
  Calls Try.prog 5 #[.slice A0 rs.length vc,.slice OA os.length oc] w fun e w' => e = .returned (.bool true)∧KeptW [] w w' := by
 obtain ⟨ob,oo,hOA,hO⟩ : ∃ ob oo : Nat,(0 < os.length → OA = some ⟨ob,oo,none⟩)∧Ords w os.length ob oo := by
  by_cases h0 : os = []
  ·subst h0
   exact ⟨0,0,fun h => absurd h (by simp),fun W _ i hi => absurd hi (by simp)⟩
  ·have hne : os.map irow ≠ [] := by simpa using h0
   obtain ⟨ob,oo,oc',e,_⟩ := dr_cells (W := w) hd2 (MuLe.refl _) (by omega) hne
   injection e with e1 e2 e3
   refine ⟨ob,oo,fun _ => e1,fun W hk i hi => ?_⟩
   obtain ⟨ob',oo',oc2,e',hcell⟩ := dr_cells (W := W) (hd2.mono hk.hf) (MuLe.refl _) (by omega) hne
   injection e' with e1' e2' e3'
   rw [e1] at e1'
   injection e1' with e1'
   injection e1' with e4 e5
   subst e4 e5
   obtain ⟨x,hx⟩ : ∃ x,os[i]? = some x := ⟨_,List.getElem?_eq_getElem hi⟩
   obtain ⟨y,q1,q2⟩ := hcell i 0 (irow x) (.v (.int .i64 x)) (get_map hx) rfl
   rw [dr_v q2,Nat.mul_one] at q1
   exact ⟨x,q1⟩
 refine apart_walk A0 OA ob oo rs.length vc os.length oc w (fun fb W => FSt 0 w (hf w) I0 fb new1 W) (fun fb gb W => F2 w (hf w) fb gb new1 new1 W) (AP1 w rs.length) (fun fb gb n W => AQ1 w rs.length fb gb n W) (fun fb gb n W => AQ2 w rs.length fb gb n W) (AR w rs.length) (KeptW [] w) hm hno hOA
  (new_okF 0 (Kst.start w) 2 1 12 (by decide) (by decide) (by decide)) (fun fb W h => F2.start h 2 1 12 (by decide) (by decide) (by decide)) (fun fb gb W h => (awake_ok W).mono fun e w' he => ⟨he.1,h.kept0 he.2⟩) (fun fb gb W h => ?_) (fun fb gb VA VC W h => ap_post hm h) (fun fb gb n W h => ap_q1 hO h) (fun fb gb n W h => ap_q2 hO h) fun fb gb W h => ap_r hm h
 obtain ⟨μ1,I1,hm1,hL,back⟩ := h.l
 refine (g_verbs hL (hd.mono hm1) (by omega)).mono fun e w' he => ?_
 obtain ⟨μ',vs,n',A,c,rfl,hm',hd',hl,hw,hF⟩ := he
 rw [hl] at hd' ⊢
 exact ⟨A,c,rfl,μ',vs,n',hm1.trans hm',hd',hl,hw,back _ _ _ hF⟩
end Go.Proofs.Ytnjccbnlmdajkaa
namespace Go.Proofs.Ytnjccbnlmdajkaa
open Go.Ev
set_option maxRecDepth 100000
set_option maxHeartbeats 0
theorem openC3 {N n : Nat} {c : List AV} (h : TypC Try.prog N (n + 1) 3 c) : ∃ (x : Int),c = [.v (.int .i64 x)]∧((-9223372036854775808) ≤ x∧x ≤ 9223372036854775807) := by
 obtain ⟨x,rfl,fx⟩ := typC_int (k := IntKind.i64) (by kernel_rfl) h
 exact ⟨x,rfl,(lim_i64 fx)⟩
end Go.Proofs.Ytnjccbnlmdajkaa
namespace Go.Proofs.Ytnjccbnlmdajkaa
open Go.Ev
set_option maxRecDepth 100000
set_option maxHeartbeats 0
theorem openC76 {N n : Nat} {c : List AV} (h : TypC Try.prog N (n + 2) 76 c) : ∃ (x_0 : Int) (x_1 : Int) (x_2 : Int) (x_3 : Int) (x_4 : Int) (x_5 : Int),c = [.v (.int .i64 x_0),.v (.int .i64 x_1),.v (.int .i64 x_2),.v (.int .i64 x_3),.v (.int .u64 x_4),.v (.int .u64 x_5)]∧((-9223372036854775808) ≤ x_0∧x_0 ≤ 9223372036854775807)∧((-9223372036854775808) ≤ x_1∧x_1 ≤ 9223372036854775807)∧((-9223372036854775808) ≤ x_2∧x_2 ≤ 9223372036854775807)∧((-9223372036854775808) ≤ x_3∧x_3 ≤ 9223372036854775807)∧(0 ≤ x_4∧x_4 ≤ 18446744073709551615)∧(0 ≤ x_5∧x_5 ≤ 18446744073709551615) := by
 have lx := typC_st (ts := [3,3,3,3,47,47]) (by kernel_rfl) h
 obtain ⟨_,_,rfl,hx_0,lx⟩ := lx
 obtain ⟨_,_,rfl,hx_1,lx⟩ := lx
 obtain ⟨_,_,rfl,hx_2,lx⟩ := lx
 obtain ⟨_,_,rfl,hx_3,lx⟩ := lx
 obtain ⟨_,_,rfl,hx_4,lx⟩ := lx
 obtain ⟨_,_,rfl,hx_5,lx⟩ := lx
 cases lx
 obtain ⟨x_0,rfl,fx_0⟩ := typC_int (k := IntKind.i64) (by kernel_rfl) hx_0
 obtain ⟨x_1,rfl,fx_1⟩ := typC_int (k := IntKind.i64) (by kernel_rfl) hx_1
 obtain ⟨x_2,rfl,fx_2⟩ := typC_int (k := IntKind.i64) (by kernel_rfl) hx_2
 obtain ⟨x_3,rfl,fx_3⟩ := typC_int (k := IntKind.i64) (by kernel_rfl) hx_3
 obtain ⟨x_4,rfl,fx_4⟩ := typC_int (k := IntKind.u64) (by kernel_rfl) hx_4
 obtain ⟨x_5,rfl,fx_5⟩ := typC_int (k := IntKind.u64) (by kernel_rfl) hx_5
 exact ⟨x_0,x_1,x_2,x_3,x_4,x_5,rfl,(lim_i64 fx_0),(lim_i64 fx_1),(lim_i64 fx_2),(lim_i64 fx_3),(lim_u64 fx_4),(lim_u64 fx_5)⟩
theorem openC34 {N n : Nat} {c : List AV} (h : TypC Try.prog N (n + 1) 34 c) : ∃ (xn : Bool) (x : List (List AV)),c = [.lst xn 6 x]∧((xn = true → x = [])∧x.length ≤ N∧∀ y ∈ x,TypC Try.prog N n 76 y) := by
 obtain ⟨xn,x,rfl,fx⟩ := typC_slice (e := 76) (by kernel_rfl) h
 exact ⟨xn,x,rfl,fx⟩
theorem openV34 {N : Nat} {a : AV} (h : TypV Try.prog N 34 a) : ∃ (xn : Bool) (x : List (List AV)),a = .lst xn 6 x∧((xn = true → x = [])∧x.length ≤ N∧∀ y ∈ x,TypC Try.prog N 11 76 y) := by
 obtain ⟨c,h1,rfl⟩ := h
 obtain ⟨xn,x,rfl,hx⟩ := openC34 (n := 11) h1
 exact ⟨xn,x,by rw [show aggT Try.prog 34 = false by kernel_rfl]; rfl,hx⟩
theorem openC52 {N n : Nat} {c : List AV} (h : TypC Try.prog N (n + 1) 52 c) : ∃ (xn : Bool) (x : List (List AV)),c = [.lst xn 1 x]∧((xn = true → x = [])∧x.length ≤ N∧∀ y ∈ x,TypC Try.prog N n 3 y) := by
 obtain ⟨xn,x,rfl,fx⟩ := typC_slice (e := 3) (by kernel_rfl) h
 exact ⟨xn,x,rfl,fx⟩
theorem openV52 {N : Nat} {a : AV} (h : TypV Try.prog N 52 a) : ∃ (xn : Bool) (x : List (List AV)),a = .lst xn 1 x∧((xn = true → x = [])∧x.length ≤ N∧∀ y ∈ x,TypC Try.prog N 11 3 y) := by
 obtain ⟨c,h1,rfl⟩ := h
 obtain ⟨xn,x,rfl,hx⟩ := openC52 (n := 11) h1
 exact ⟨xn,x,by rw [show aggT Try.prog 52 = false by kernel_rfl]; rfl,hx⟩
end Go.Proofs.Ytnjccbnlmdajkaa
namespace Go.Proofs.Ytnjccbnlmdajkaa
open Go.RowKit Go.Shelf Go.Lib Go.Ev
attribute [local go_sem] Oper.semAt_some
set_option maxRecDepth 100000
def rwB : List AV → Bool
 | [.v (.int .i64 _),.v (.int .i64 _),.v (.int .i64 _),.v (.int .i64 _),.v (.int .u64 _),.v (.int .u64 _)] => true
 | _ => false
theorem rwB_row {e : List AV} (h : rwB e = true) : ∃ r : Rw,e = r.row := by
 unfold rwB at h
 split at h
 ·rename_i a b c d e f
  exact ⟨⟨a,b,c,d,e,f⟩,rfl⟩
 ·cases h
theorem rows_rw : ∀ l : List (List AV),l.all rwB = true → ∃ rs : List Rw,l = rs.map Rw.row
 | [],_ => ⟨[],rfl⟩
 | e :: l,h => by
  rw [List.all_cons,Bool.and_eq_true] at h
  obtain ⟨r,rfl⟩ := rwB_row h.1
  obtain ⟨rs,rfl⟩ := rows_rw l h.2
  exact ⟨r :: rs,rfl⟩
theorem rw_typ {N : Nat} {y : List AV} (hy : TypC Try.prog N 11 76 y) : rwB y = true := by
 obtain ⟨x0,x1,x2,x3,x4,x5,rfl,h⟩ := openC76 (n := 9) hy
 rfl
end Go.Proofs.Ytnjccbnlmdajkaa
namespace Go.Proofs.Ytnjccbnlmdajkaa
open Go.RowKit Go.Shelf Go.Lib Go.Ev
attribute [local go_sem] Oper.semAt_some
set_option maxRecDepth 100000
set_option maxHeartbeats 4000000 in
set_option maxRecDepth 1000000 in
theorem apart_out (A0 A1 : Option Addr) (m vc k oc : Nat) (w : World) (hm : ¬ (1 ≤ m∧m ≤ 10∧k ≤ 100)) : Calls Try.prog 5 #[.slice A0 m vc,.slice A1 k oc] w fun e w' => e = .returned (.bool true)∧KeptW [] w w' := by
 by_cases h1 : 10 < m
 ·have g1 : (10 : Int) < (m : Int) := by omega
  go_enter Try.func5,Try.ntmps5
  go_wp2
  go_ret
  exact ⟨rfl,KeptW.refl _ _⟩
 ·have g1 : ¬ (10 : Int) < (m : Int) := by omega
  by_cases h2 : m < 1
  ·have g2 : (m : Int) < 1 := by omega
   go_enter Try.func5,Try.ntmps5
   go_wp2
   go_ret
   exact ⟨rfl,KeptW.refl _ _⟩
  ·have g2 : ¬ (m : Int) < 1 := by omega
   have g3 : (100 : Int) < (k : Int) := by omega
   go_enter Try.func5,Try.ntmps5
   go_wp2
   go_ret
   exact ⟨rfl,KeptW.refl _ _⟩
def inB : List AV → Bool
 | [.v (.int .i64 _)] => true
 | _ => false
theorem inB_row {e : List AV} (h : inB e = true) : ∃ x : Int,e = irow x := by
 unfold inB at h
 split at h
 ·exact ⟨_,rfl⟩
 ·cases h
theorem rows_in : ∀ l : List (List AV),l.all inB = true → ∃ xs : List Int,l = xs.map irow
 | [],_ => ⟨[],rfl⟩
 | e :: l,h => by
  rw [List.all_cons,Bool.and_eq_true] at h
  obtain ⟨r,rfl⟩ := inB_row h.1
  obtain ⟨rs,rfl⟩ := rows_in l h.2
  exact ⟨r :: rs,rfl⟩
theorem in_typ {N : Nat} {y : List AV} (hy : TypC Try.prog N 11 3 y) : inB y = true := by
 obtain ⟨x0,rfl,h⟩ := openC3 (n := 10) hy
 rfl
def apG : List AV → Option (List AV)
 | [.lst _ 6 X,.lst _ 1 Y] => cond (X.all rwB && Y.all inB) (some [.v (.bool true)]) none
 | _ => none
theorem ap_told : TellS Try.prog 5 apG := by
 intro bs rs h
 refine ⟨Try.f5,Try.func5,fun w μ F G vals himm hb hnd => ?_⟩
 unfold apG at h
 split at h
 ·rename_i nx X ny Y
  obtain ⟨hc,h⟩ := cond_some h
  obtain rfl := Option.some.inj h
  rw [Bool.and_eq_true] at hc
  obtain ⟨o1,rfl⟩ := rows_rw _ hc.1
  obtain ⟨o2,rfl⟩ := rows_in _ hc.2
  obtain ⟨F1,F2,G1,G2,va,vs,rfl,rfl,rfl,b1,b2⟩ := b2s_cons hb
  obtain ⟨F3,F4,G3,G4,vb,vs',rfl,rfl,rfl,b3,b4⟩ := b2s_cons b2
  obtain ⟨rfl,rfl,rfl⟩ := Go.Ev.b2s_nil b4
  obtain ⟨rfl,rfl,hd1⟩ := b2_lst b1
  obtain ⟨rfl,rfl,hd2⟩ := b2_lst b3
  obtain ⟨A1,c1,rfl,_⟩ := dr_slice hd1
  obtain ⟨A2,c2,rfl,_⟩ := dr_slice hd2
  rw [List.length_map] at hd1 hd2
  have hsz : (1 : Nat) = Try.f5.resultTypes.size := by kernel_rfl
  rw [List.length_map,List.length_map]
  have key : Calls Try.prog 5 #[.slice A1 o1.length c1,.slice A2 o2.length c2] w fun e w' => e = .returned (.bool true)∧KeptW [] w w' := by
   by_cases hl : 1 ≤ o1.length∧o1.length ≤ 10∧o2.length ≤ 100
   ·exact apart_ok w (hd1.mono himm) (hd2.mono himm) ⟨hl.1,hl.2.1⟩ hl.2.2
   ·exact apart_out A1 A2 _ c1 _ c2 w hl
  refine key.mono fun e w' he => ?_
  obtain ⟨rfl,hk⟩ := he
  exact ⟨[.v (.bool true)],[],[.bool true],μ,[],[],[],rfl,hsz,rfl,⟨hk.os,hk.tape,hk.output,hk.size,fun b hb _ => hk.keep b hb List.not_mem_nil,MuLe.refl μ,fun _ _ h => .inl h⟩,
   fun b o hbo => hk.get (himm b o hbo) List.not_mem_nil,.cons (F := []) (F' := []) (G := []) (G' := []) (.o (.c (.d (.v rfl)))) .nil,.nil,by simp,fun b hb => by simp at hb⟩
 ·cases h
def ext5 : FuncId → Option (List AV → Option (List AV))
 | 5 => some apG
 | _ => none
def cfg5 : Cfg := { rw := fun _ => [],dat := fun _ => false,inl := fun _ => false,roll := fun _ => 8,join := fun _ => false,ext := ext5 }
theorem ext5Ok : ExtS Try.prog cfg5 := by
 refine ⟨fun f bs rs e => ?_,updS_none fun _ => rfl⟩
 by_cases h9 : f = 5
 ·subst h9; exact ap_told bs rs e
 ·have hf : cfg5.ext f = none := by
   show ext5 f = none
   unfold ext5
   split
   ·exact absurd rfl h9
   ·rfl
  simp only [evTop,hf] at e
  cases e
theorem fabricApart_all {N : Nat} (l : List AV) (h : TypA Try.prog N Try.f5.params.toList l) : ∃ n,evF Try.prog cfg5 n 5 l = some [.v (.bool true)] := by
 rw [show Try.f5.params.toList = [34,52] by kernel_rfl] at h
 obtain ⟨a0,r,rfl,h0,h⟩ := h
 obtain ⟨a1,r,rfl,h1,h⟩ := h
 obtain rfl : r = [] := h
 obtain ⟨f0,x0,rfl,_,_,g0⟩ := openV34 h0
 obtain ⟨f1,x1,rfl,_,_,g1⟩ := openV52 h1
 refine ⟨1,?_⟩
 have e0 : x0.all rwB = true := List.all_eq_true.2 fun e he => rw_typ (g0 e he)
 have e1 : x1.all inB = true := List.all_eq_true.2 fun e he => in_typ (g1 e he)
 show cond (x0.all rwB && x1.all inB) _ _ = _
 rw [e0,e1]; rfl
end Go.Proofs.Ytnjccbnlmdajkaa
