/- QueuepairCopies: the parts of the law. -/
import Derived.Test.YtkefjdmoikegbaaCpS
import Derived.Test.YtkefjdmoikegbaaCpW
set_option linter.all false
namespace Go.Proofs.Ytkefjdmoikegbaa
open Go.RowKit Go.Shelf Go.Lib Go.Ev
set_option maxRecDepth 100000
theorem f9_at : Try.prog.funcs[9]? = some Try.f9 := by kernel_rfl
theorem f28_at : Try.prog.funcs[28]? = some Try.f28 := by kernel_rfl
theorem f29_at : Try.prog.funcs[29]? = some Try.f29 := by kernel_rfl
theorem f30_at : Try.prog.funcs[30]? = some Try.f30 := by kernel_rfl
theorem s_SameB (a b : Bool) (l m : List Nat) : ev 28 [.lst a 1 (bts l),.lst b 1 (bts m)] = some [.v (.bool ((bB l).toList == (bB m).toList))] := by
 have h : ∀ l : List Nat,(bts l).all Ev.isByte = true := fun l => by
  rw [List.all_eq_true]
  intro x hx
  obtain ⟨y,_,rfl⟩ := List.mem_map.1 hx
  rfl
 rw [ev28]
 exact cT (h l) (cT (h m) rfl)
section
variable {w0 W : World} {μ : Mu} {I : Nat → Option ItemO}
theorem enc_call (h : Kst w0 μ I W) {k pb : Nat} {F : List Nat} {s : PS} {qn : Bool} (hk : I k = some (obI pb F 83 (prC (s.p qn)))) (hG : s.G) :
  Calls Try.prog 29 #[.pointer (some ⟨pb,0,none⟩)] W fun e w' => ∃ (A : Option Addr) (l c : Nat) (b : Bool),e = .returned (.slice A l c)∧Kst w0 μ I w'∧KeptW [] W w'∧DR (hf w') (.lst b 1 (bts (body (encS s)))) (.slice A l c) := by
 have hd : DR (hf W) (.ep ((prC (s.p qn)).map lentA) 0) (.pointer (some ⟨pb,0,none⟩)) := B1.lent h.imm (h.ok k _ hk)
 have hwl := hG.wl
 refine (h.lent mix extOk (s_Encode s.c s.inc s.ex qn s.q s.w.isEmpty s.w (fun v hv => hG.wf.vs v hv) hG.wf.len hG.wok (by omega)) f29_at (vals := [.pointer (some ⟨pb,0,none⟩)]) (.cons (F := []) (F' := []) (G := []) (G' := []) (.o (.c (.d hd))) .nil)).mono fun e w' he => ?_
 obtain ⟨vs,μ',F1,G1,rfl,hK,hk',hle,hb,_⟩ := he
 obtain ⟨x,rfl,hb2⟩ := Go.Ev.b2s_one hb
 obtain ⟨A,n,c,b,rfl,hdr⟩ := dr_ow hle hb2
 exact ⟨A,n,c,b,rfl,hK,hk',hdr⟩
theorem key_call (h : Kst w0 μ I W) {k qb : Nat} {F : List Nat} {s : PS} (hk : I k = some (obI qb F 70 (rC s))) (hG : s.G) :
  Calls Try.prog 30 #[.pointer (some ⟨qb,0,none⟩)] W fun e w' => e = .returned (.string (bB (body (keyS s))))∧Kst w0 μ I w' := by
 have hd : DR (hf W) (.ep ((rC s).map lentA) 0) (.pointer (some ⟨qb,0,none⟩)) := B1.lent h.imm (h.ok k _ hk)
 have hd : DR (hf W) (rPk s.c s.inc s.q.isEmpty (trip s)) (.pointer (some ⟨qb,0,none⟩)) := by
  unfold rPk trip
  rw [← rrows_its]
  exact hd
 refine (h.lent mix extNOk (s_Key s.c s.inc s.q.isEmpty (trip s) (trip_ok hG) (by rw [trip_len]; exact hG.wf.len)) f30_at (vals := [.pointer (some ⟨qb,0,none⟩)]) (.cons (F := []) (F' := []) (G := []) (G' := []) (.o (.c (.d hd))) .nil)).mono fun e w' he => ?_
 obtain ⟨vs,μ',F1,G1,rfl,hK,hk',hle,hb,_⟩ := he
 obtain ⟨rfl,_⟩ := b2s_vals_inv (F := F1) (G := G1) [.string (keyB s.c s.inc (trip s))] hb
 exact ⟨rfl,hK⟩
theorem same_call (h : Kst w0 μ I W) {A B : Option Addr} {l c m d : Nat} {a b : Bool} {x y : List Nat} (ha : DR (hf W) (.lst a 1 (bts x)) (.slice A l c)) (hb : DR (hf W) (.lst b 1 (bts y)) (.slice B m d)) :
  Calls Try.prog 28 #[.slice A l c,.slice B m d] W fun e w' => e = .returned (.bool ((bB x).toList == (bB y).toList))∧Kst w0 μ I w' := by
 refine (h.lent mix extOk (s_SameB a b x y) f28_at (vals := [.slice A l c,.slice B m d]) (.cons (F := []) (F' := []) (G := []) (G' := []) (.o (.c (.d ha))) (.cons (F := []) (F' := []) (G := []) (G' := []) (.o (.c (.d hb))) .nil))).mono fun e w' he => ?_
 obtain ⟨vs,μ',F1,G1,rfl,hK,hk',hle,hb,_⟩ := he
 obtain ⟨rfl,_⟩ := b2s_vals_inv (F := F1) (G := G1) [.bool ((bB x).toList == (bB y).toList)] hb
 exact ⟨rfl,hK⟩
theorem rnd_ok (h : Kst w0 μ I W) {k b p n q r : Nat} {s : PS} {qn : Bool} {ws : List Int} {dn : Bool} (hf4 : Fz4 μ b p n q r) (hs : St4 I k p n q r s qn ws dn) (hok : StOk s qn ws) {f : Bool} {ops : List Opr} {A : Option Addr} {m c : Nat} (hd : DR (hf w0) (.lst f 10 (ops.map Opr.row)) (.slice A m c)) (ho : ∀ o ∈ ops,o.Ok) {i : Nat} (hi : i < ops.length) {J : World → Prop}
  (hJ : ∀ (μ' : Mu) (I' : Nat → Option ItemO) (s' : PS) (qn' : Bool) (ws' : List Int) (dn' : Bool) (w' : World),MuLe μ μ' → Kst w0 μ' I' w' → St4 I' k p n q r s' qn' ws' dn' → StOk s' qn' ws' → (∀ i,i ≠ k → i ≠ k + 1 → i ≠ k + 2 → i ≠ k + 3 → I' i = I i) → J w') : LpRnd b p n q r A i W J := by
 obtain ⟨ab,ao,rfl,hc⟩ := opr_at hd h.kept hi
 refine ⟨ab,ao,ops[i],rfl,hf4.cells h,⟨hc 0 _ rfl,hc 1 _ rfl,hc 2 _ rfl,hc 3 _ rfl,hc 4 _ rfl,hc 5 _ rfl,hc 6 _ rfl,hc 7 _ rfl,hc 8 _ rfl,hc 9 _ rfl⟩,(do_ok h.drew hs hok ops[i] (ho _ (List.getElem_mem hi))).mono fun e w' he => ?_⟩
 obtain ⟨rfl,μ',I',s',qn',ws',dn',hm,hK,hs',hok',hoth⟩ := he
 exact ⟨rfl,hJ μ' I' s' qn' ws' dn' w' hm hK hs' hok' hoth⟩
def JA (w0 : World) (b7 p n q r : Nat) (W : World) : Prop := ∃ (μ : Mu) (I : Nat → Option ItemO) (s : PS) (qn : Bool) (ws : List Int) (dn : Bool),Kst w0 μ I W∧Fz4 μ b7 p n q r∧St4 I 0 p n q r s qn ws dn∧StOk s qn ws
def JB (w0 : World) (b7 p n q r t y z u v : Nat) (W : World) : Prop := ∃ (μ : Mu) (I : Nat → Option ItemO) (s : PS) (qn : Bool) (ws : List Int) (dn : Bool) (s' : PS) (qn' : Bool) (ws' : List Int) (dn' : Bool),Kst w0 μ I W∧Fz4 μ b7 p n q r∧Fz4 μ t y z u v∧St4 I 0 p n q r s qn ws dn∧StOk s qn ws∧St4 I 4 y z u v s' qn' ws' dn'∧StOk s' qn' ws'
def JM (w0 : World) (b7 p n q r t y z u v : Nat) (qd : Bool) (W : World) : Prop := ∃ (μ : Mu) (I : Nat → Option ItemO) (s : PS) (qn : Bool) (ws : List Int) (dn : Bool),Kst w0 μ I W∧Fz4 μ b7 p n q r∧Fz4 μ t y z u v∧St4 I 0 p n q r s qn ws dn∧StOk s qn ws∧(∃ F,I 4 = some (obI y F 83 (prC (s.p s.q.isEmpty))))∧(∃ F,I 5 = some (obI z F 93 (ndC ws dn))) ∧
 (∃ F,I 6 = some (obI u F 70 (if qd then rC s else [.v (.int .i64 0),.v (.int .i64 0),.v (.int .i64 0),.v (.slice none 0 0)])))∧∃ F,I 7 = some (obI v F 72 [.v (.slice none 0 0),.v (.bool false)])
theorem fin11 {b7 p n q r y z u v t : Nat} (h : RrD w0 b7 p n q r (some y) (some z) (some u) (some v) (some t) W) :
  JM w0 b7 p n q r t y z u v false (st4W W t (.pointer (some ⟨y,0,none⟩)) (.pointer (some ⟨z,0,none⟩)) (.pointer (some ⟨u,0,none⟩)) (.pointer (some ⟨v,0,none⟩))) := by
 obtain ⟨μ,I,s,qn,ws,dn,hK,hf,hs,hok,h4,h5,h6,h7,h9⟩ := h
 obtain ⟨F4,h4⟩ := h4 _ rfl
 obtain ⟨F5,h5⟩ := h5 _ rfl
 obtain ⟨F6,h6⟩ := h6 _ rfl
 obtain ⟨F7,h7⟩ := h7 _ rfl
 obtain ⟨F9,h9⟩ := h9 _ rfl
 obtain ⟨G0,_,hK0⟩ := hK.set h9 0 (a := .v (.pointer (some ⟨y,0,none⟩))) (v := .pointer (some ⟨y,0,none⟩)) (.v rfl)
 obtain ⟨G1,_,hK1⟩ := hK0.set (put_same _ _ _) 1 (a := .v (.pointer (some ⟨z,0,none⟩))) (v := .pointer (some ⟨z,0,none⟩)) (.v rfl)
 obtain ⟨G2,_,hK2⟩ := hK1.set (put_same _ _ _) 2 (a := .v (.pointer (some ⟨u,0,none⟩))) (v := .pointer (some ⟨u,0,none⟩)) (.v rfl)
 obtain ⟨G3,_,hK3⟩ := hK2.set (put_same _ _ _) 3 (a := .v (.pointer (some ⟨v,0,none⟩))) (v := .pointer (some ⟨v,0,none⟩)) (.v rfl)
 rw [put_put,put_put,put_put] at hK3
 obtain ⟨μ',hm,hf',hK4⟩ := frz4 (F := G3) (k := 9) (p := y) (n := z) (q := u) (r := v) (t := t) hK3 (put_same _ _ _)
 rw [put_put] at hK4
 exact ⟨μ',_,s,qn,ws,dn,hK4,hf.mono hm,hf',hs.put (by omega),hok,⟨F4,put_get h4 (by decide)⟩,⟨F5,put_get h5 (by decide)⟩,⟨F6,put_get h6 (by decide)⟩,⟨F7,put_get h7 (by decide)⟩⟩
theorem pk12 {b7 p n q r t y z u v : Nat} (h : JM w0 b7 p n q r t y z u v false W) : Pk12 b7 t p y z W (JM w0 b7 p n q r t y z u v false) := by
 obtain ⟨μ,I,s,qn,ws,dn,hK,hf,hf',hs,hok,⟨F4,h4⟩,h5,h6,h7⟩ := h
 obtain ⟨Fp,hp⟩ := hs.p
 have hS : ∀ {w : World},Kst w0 μ I w → S12 b7 t p y z w := fun hK => ⟨(hf'.cells hK).1,(hf'.cells hK).2.1,(hf.cells hK).1⟩
 refine ⟨hS hK.drew,(enc_call hK.drew hp hok.G).mono fun e w1 he => ?_⟩
 obtain ⟨A,l,c,a,rfl,hK1,_,d1⟩ := he
 refine ⟨A,l,c,rfl,hS hK1,(enc_call hK1 h4 hok.G).mono fun e w2 he => ?_⟩
 obtain ⟨B,m,d,b,rfl,hK2,k2,d2⟩ := he
 refine ⟨B,m,d,rfl,hS hK2,(same_call hK2 (d1.mono k2.hf) d2).mono fun e w3 he => ?_⟩
 obtain ⟨rfl,hK3⟩ := he
 exact ⟨by simp,hS hK3,μ,I,s,qn,ws,dn,hK3,hf,hf',hs,hok,⟨F4,h4⟩,h5,h6,h7⟩
theorem pk14 {b7 p n q r t y z u v : Nat} (h : JM w0 b7 p n q r t y z u v false W) : Pk14 b7 t q u W (JM w0 b7 p n q r t y z u v true) := by
 obtain ⟨μ,I,s,qn,ws,dn,hK,hf,hf',hs,hok,⟨F4,h4⟩,⟨F5,h5⟩,⟨F6,h6⟩,⟨F7,h7⟩⟩ := h
 obtain ⟨Fq,hq⟩ := hs.q
 have hKd := hK.drew
 have h6 : I 6 = some (obI u F6 70 [.v (.int .i64 0),.v (.int .i64 0),.v (.int .i64 0),.v (.slice none 0 0)]) := h6
 obtain ⟨x,e3,d3⟩ := hKd.cellL hq (j := 3) rfl
 obtain ⟨A,c,rfl,_⟩ := dr_slice d3
 obtain ⟨G0,_,hK0⟩ := hKd.set h6 0 (a := .v (.int .i64 s.c)) (v := .int .i64 s.c) (.v rfl)
 obtain ⟨G1,_,hK1⟩ := hK0.set (put_same _ _ _) 1 (a := .v (.int .i64 s.inc)) (v := .int .i64 s.inc) (.v rfl)
 obtain ⟨G2,_,hK2⟩ := hK1.set (put_same _ _ _) 2 (a := .v (.int .i64 0)) (v := .int .i64 0) (.v rfl)
 obtain ⟨G3,_,hK3⟩ := hK2.set (put_same _ _ _) 3 (a := .lst s.q.isEmpty 12 (rrows s.q s.ex s.w)) (v := .slice A (rrows s.q s.ex s.w).length c) d3
 have f0 := hKd.frozen h6 0
 have f1 := hK0.frozen (put_same _ _ _) 1
 have f2 := hK1.frozen (put_same _ _ _) 2
 have f3 := hK2.frozen (put_same _ _ _) 3
 have c0 := hKd.cell h6 (j := 0) rfl
 have c1 := hK0.cell (put_same _ _ _) (j := 1) rfl
 have c2 := hK1.cell (put_same _ _ _) (j := 2) rfl
 have c3 := hK2.cell (put_same _ _ _) (j := 3) rfl
 rw [put_put,put_put,put_put] at hK3
 have hqq : put I 6 (some (obI u G3 70 (rC s))) 2 = some (obI q Fq 70 (rC s)) := put_get hq (by decide)
 obtain ⟨B0,B1,B2,B3⟩ := hf'.cells hKd
 obtain ⟨C0,C1,C2,C3⟩ := hf.cells hKd
 obtain ⟨B0',B1',B2',B3'⟩ := hf'.cells hK3
 obtain ⟨C0',C1',C2',C3'⟩ := hf.cells hK3
 have e3' : (((((W.drew.setCell ⟨u,0,none⟩ (.int .i64 s.c)).setCell ⟨u,1,none⟩ (.int .i64 s.inc)).setCell ⟨u,2,none⟩ (.int .i64 0)).setCell ⟨u,3,none⟩ (.slice A (rrows s.q s.ex s.w).length c))).cell? ⟨q,3,none⟩ = some (.slice A (rrows s.q s.ex s.w).length c) := by
  have hne : q ≠ u := fun e => by
   obtain ⟨_,_,e1,_⟩ := hKd.ob hq
   obtain ⟨_,_,e2,_⟩ := hKd.ob h6
   exact hKd.dj 2 6 _ _ hq h6 (by decide) q (by simp only; rw [e1]; simp) (by simp only; rw [e2,e]; simp)
  rw [cell_heap (setCell_other _ _ _ _ _ hne),cell_heap (setCell_other _ _ _ _ _ hne),cell_heap (setCell_other _ _ _ _ _ hne),cell_heap (setCell_other _ _ _ _ _ hne)]
  exact e3
 exact ⟨s.c,s.inc,0,A,_,c,_,_,_,_,⟨B2,C2,hKd.cell hq rfl,hKd.cell hq rfl,hKd.cell hq rfl,e3⟩,f0,⟨_,c0⟩,rfl,f1,⟨_,c1⟩,rfl,f2,⟨_,c2⟩,rfl,f3,⟨_,c3⟩,rfl,⟨B2',C2',hK3.cell hqq rfl,hK3.cell hqq rfl,hK3.cell hqq rfl,e3'⟩,
  μ,_,s,qn,ws,dn,hK3,hf,hf',hs.put (by omega),hok,⟨F4,put_get h4 (by decide)⟩,⟨F5,put_get h5 (by decide)⟩,⟨G3,put_same _ _ _⟩,⟨F7,put_get h7 (by decide)⟩⟩
end
end Go.Proofs.Ytkefjdmoikegbaa
