/- QueuepairCopies: the region that makes y. -/
import Derived.Test.YtkefjdmoikegbaaDoC
import Derived.Test.YtkefjdmoikegbaaEv13
set_option linter.all false
namespace Go.Proofs.Ytkefjdmoikegbaa
open Go.RowKit Go.Shelf Go.Lib Go.Ev
attribute [local go_sem] Oper.semAt_some
set_option maxRecDepth 100000
abbrev ptr4 (p n q r : Nat) : Array Value := #[.pointer (some ⟨p,0,none⟩),.pointer (some ⟨n,0,none⟩),.pointer (some ⟨q,0,none⟩),.pointer (some ⟨r,0,none⟩)]
def putsA (a : Act) : List Tmp → List Value → Act
 | d :: ds,v :: vs => putsA (a.put (some d) v) ds vs
 | _,_ => a
theorem op_val {P : Program} {o : Oper} {a : Act} {w w' : World} {K : Act → World → Prop} {Q : Exit → Act → World → Prop} {v : Value} (h : (execOp a.eval o).run P w = .ok (.value v) w') (hK : K (a.put o.dst v) w') : Oper.wp P o a w K Q := by
 unfold Oper.wp
 rw [h]
 exact hK
theorem op_skip {P : Program} {o : Oper} {a : Act} {w w' : World} {K : Act → World → Prop} {Q : Exit → Act → World → Prop} (h : (execOp a.eval o).run P w = .ok .skip w') (hK : K (a.put o.dst undef) w') : Oper.wp P o a w K Q := by
 unfold Oper.wp
 rw [h]
 exact hK
theorem op_call {P : Program} {o : Oper} {a : Act} {w : World} {K : Act → World → Prop} {Q : Exit → Act → World → Prop} (hg : o.guard = none) (f : FuncId) (xs : Array Operand) (ts : Array TypeId) (hop : o.op = Op.call { callee := Callee.value (.func f), args := xs, argTypes := ts }) (vals : Array Value) (hv : xs.map a.eval = vals) {R : Ending → World → Prop} (hc : Calls P f vals w R) {fn : Func} (hfn : P.funcs[f]? = some fn) (hn : (fn.name == "runtime.NumGoroutine") = false) (hb : fn.body.isSome = true)
  (hK : ∀ e w',R e w' → ∃ v,e = .returned v∧K (a.put o.dst v) w') : Oper.wp P o a w K Q := by
 have := step_callE (ops := #[]) (Q := Q) (E := K (a.put o.dst undef) w) (K := K) hg f xs ts hop vals hv hc hfn hn hb hK
 have hw : Region.wanted o (yielded #[] a.tmps) = true := by simp [Region.wanted,hg]
 rwa [if_pos hw] at this
structure MkY (b7 pb nb : Nat) (Rr : Option Nat → Option Nat → Option Nat → Option Nat → Option Nat → World → Prop) : Prop where
 cp : ∀ cn c1 c2 c3 W,Rr none cn c1 c2 c3 W → Calls Try.prog 26 #[.pointer (some ⟨pb,0,none⟩)] W fun e w' => ∃ y,e = .returned (.pointer (some ⟨y,0,none⟩))∧Rr (some y) cn c1 c2 c3 w'
 cn : ∀ cp c1 c2 c3 W,Rr cp none c1 c2 c3 W → Calls Try.prog 27 #[.pointer (some ⟨nb,0,none⟩)] W fun e w' => ∃ y,e = .returned (.pointer (some ⟨y,0,none⟩))∧Rr cp (some y) c1 c2 c3 w'
 a1 : ∀ cp cn c2 c3 W,Rr cp cn none c2 c3 W → Rr cp cn (some W.heap.size) c2 c3 (W.alloc (.cells #[.int .i64 0,.int .i64 0,.int .i64 0,.slice none 0 0] 70))
 a2 : ∀ cp cn c1 c3 W,Rr cp cn c1 none c3 W → Rr cp cn c1 (some W.heap.size) c3 (W.alloc (.cells #[.slice none 0 0,.bool false] 72))
 a3 : ∀ cp cn c1 c2 W,Rr cp cn c1 c2 none W → Rr cp cn c1 c2 (some W.heap.size) (W.alloc (.cells #[.pointer none,.pointer none,.pointer none,.pointer none] 29))
 p7 : ∀ cp cn c1 c2 c3 W,Rr cp cn c1 c2 c3 W → W.cell? ⟨b7,0,none⟩ = some (.pointer (some ⟨pb,0,none⟩))∧W.cell? ⟨b7,1,none⟩ = some (.pointer (some ⟨nb,0,none⟩))
 st : ∀ cp cn c1 c2 t W,Rr cp cn c1 c2 (some t) W → W.heap[t]? = some (.cells #[.pointer none,.pointer none,.pointer none,.pointer none] 29 (0,0))
def ptrB : Value → Option Nat
 | .pointer (some ⟨b,_,_⟩) => some b
 | _ => none
def optB (L : Nat → Bool) (vs : Nat → Value) (i : Nat) : Option Nat := if L i then ptrB (vs i) else none
def st4W (W : World) (t : Nat) (a b c d : Value) : World := (((W.setCell ⟨t,0,none⟩ a).setCell ⟨t,1,none⟩ b).setCell ⟨t,2,none⟩ c).setCell ⟨t,3,none⟩ d
structure G11 (b7 pb nb : Nat) (Rr : Option Nat → Option Nat → Option Nat → Option Nat → Option Nat → World → Prop) (L : Nat → Bool) (vs : Nat → Value) (W : World) : Prop where
 v0 : L 0 = true → vs 0 = .pointer (some ⟨b7,0,none⟩)
 v1 : L 1 = true → vs 1 = .pointer (some ⟨pb,0,none⟩)
 v2 : L 2 = true → ∃ y,vs 2 = .pointer (some ⟨y,0,none⟩)
 v3 : L 3 = true → vs 3 = .pointer (some ⟨b7,1,none⟩)
 v4 : L 4 = true → vs 4 = .pointer (some ⟨nb,0,none⟩)
 v5 : L 5 = true → ∃ y,vs 5 = .pointer (some ⟨y,0,none⟩)
 v6 : L 6 = true → vs 6 = .agg #[.int .i64 0,.int .i64 0,.int .i64 0,.slice none 0 0]
 v7 : L 7 = true → ∃ y,vs 7 = .pointer (some ⟨y,0,none⟩)
 v8 : L 8 = true → vs 8 = .agg #[.slice none 0 0,.bool false]
 v9 : L 9 = true → ∃ y,vs 9 = .pointer (some ⟨y,0,none⟩)
 v10 : L 10 = true → vs 10 = .agg #[vs 2,vs 5,vs 7,vs 9]∧L 2 = true∧L 5 = true∧L 7 = true∧L 9 = true
 v11 : L 11 = true → ∃ y,vs 11 = .pointer (some ⟨y,0,none⟩)
 r : L 12 = false → Rr (optB L vs 2) (optB L vs 5) (optB L vs 7) (optB L vs 9) (optB L vs 11) W
 al : L 12 = true → ∀ j,j < 12 → L j = true
 f : L 12 = true → ∃ y z u v t W',vs 2 = .pointer (some ⟨y,0,none⟩)∧vs 5 = .pointer (some ⟨z,0,none⟩)∧vs 7 = .pointer (some ⟨u,0,none⟩)∧vs 9 = .pointer (some ⟨v,0,none⟩)∧vs 11 = .pointer (some ⟨t,0,none⟩)∧Rr (some y) (some z) (some u) (some v) (some t) W'∧W = st4W W' t (.pointer (some ⟨y,0,none⟩)) (.pointer (some ⟨z,0,none⟩)) (.pointer (some ⟨u,0,none⟩)) (.pointer (some ⟨v,0,none⟩))
def ds11 : List (Nat × Option Tmp) := [(0,some 49),(1,some 50),(2,some 51),(3,some 52),(4,some 53),(5,some 54),(6,some 55),(7,some 56),(8,some 57),(9,some 58),(10,some 59),(11,some 10),(12,none)]
def ops11 : Array Oper := #[{ dst := some 49, op := Op.fieldAddr 29 (Operand.tmp 7) 0, type := 0, pos := "law.go:250", after := #[], guard := none }, { dst := some 50, op := Op.load 24 (Operand.tmp 49), type := 24, pos := "law.go:250", after := #[{ on := 0, ground := Ground.data }], guard := none }, { dst := some 51, op := Op.call { callee := Callee.value (Operand.func 26), args := #[Operand.tmp 50], argTypes := #[24] }, type := 24, pos := "law.go:250", after := #[{ on := 1, ground := Ground.data }], guard := none }, { dst := some 52, op := Op.fieldAddr 29 (Operand.tmp 7) 1, type := 0, pos := "law.go:250", after := #[], guard := none }, { dst := some 53, op := Op.load 25 (Operand.tmp 52), type := 25, pos := "law.go:250", after := #[{ on := 3, ground := Ground.data }], guard := none }, { dst := some 54, op := Op.call { callee := Callee.value (Operand.func 27), args := #[Operand.tmp 53], argTypes := #[25] }, type := 25, pos := "law.go:250", after := #[{ on := 4, ground := Ground.data }, { on := 2, ground := Ground.chain }], guard := none }, { dst := some 55, op := Op.build 70 #[], type := 70, pos := "law.go:250", after := #[], guard := none }, { dst := some 56, op := Op.box 70 (Operand.tmp 55), type := 26, pos := "law.go:250", after := #[{ on := 6, ground := Ground.data }], guard := none }, { dst := some 57, op := Op.build 72 #[], type := 72, pos := "law.go:250", after := #[], guard := none }, { dst := some 58, op := Op.box 72 (Operand.tmp 57), type := 27, pos := "law.go:250", after := #[{ on := 8, ground := Ground.data }], guard := none }, { dst := some 59, op := Op.build 29 #[(0, Operand.tmp 51), (1, Operand.tmp 54), (2, Operand.tmp 56), (3, Operand.tmp 58)], type := 29, pos := "law.go:250", after := #[{ on := 2, ground := Ground.data }, { on := 5, ground := Ground.data }, { on := 7, ground := Ground.data }, { on := 9, ground := Ground.data }], guard := none }, { dst := some 10, op := Op.alloc 29, type := 0, pos := "law.go:250", after := #[], guard := none }, { dst := none, op := Op.store 29 (Operand.tmp 10) (Operand.tmp 59), type := 0, pos := "law.go:250", after := #[{ on := 11, ground := Ground.data }, { on := 10, ground := Ground.data }, { on := 5, ground := Ground.chain }, { on := 0, ground := Ground.phase }, { on := 1, ground := Ground.phase }, { on := 2, ground := Ground.phase }, { on := 3, ground := Ground.phase }, { on := 4, ground := Ground.phase }, { on := 5, ground := Ground.phase }, { on := 6, ground := Ground.phase }, { on := 7, ground := Ground.phase }, { on := 8, ground := Ground.phase }, { on := 9, ground := Ground.phase }, { on := 10, ground := Ground.phase }, { on := 11, ground := Ground.phase }], guard := none }]
theorem ops11_ok : (ops11.toList.zipIdx.all fun p => (p.1.guard.isNone && ds11.contains (p.2,p.1.dst)) && p.1.after.toList.all fun e => decide (e.on < p.2)) = true := by kernel_rfl
theorem v10k {L : Nat → Bool} {vs : Nat → Value} {v : Value} (i : Nat) (hi : i = 2 ∨ i = 5 ∨ i = 7 ∨ i = 9) (hL : L i = false) (h : L 10 = true → vs 10 = .agg #[vs 2,vs 5,vs 7,vs 9]∧L 2 = true∧L 5 = true∧L 7 = true∧L 9 = true) :
  updL L i 10 = true → updV vs i v 10 = .agg #[updV vs i v 2,updV vs i v 5,updV vs i v 7,updV vs i v 9]∧updL L i 2 = true∧updL L i 5 = true∧updL L i 7 = true∧updL L i 9 = true := fun h10 => by
 have : L 10 = true := by rcases hi with rfl | rfl | rfl | rfl <;> simpa [updL] using h10
 obtain ⟨_,h2,h5,h7,h9⟩ := h this
 rcases hi with rfl | rfl | rfl | rfl
 ·rw [hL] at h2; cases h2
 ·rw [hL] at h5; cases h5
 ·rw [hL] at h7; cases h7
 ·rw [hL] at h9; cases h9
theorem step11 {a0 : Act} {b7 pb nb : Nat} {Rr : Option Nat → Option Nat → Option Nat → Option Nat → Option Nat → World → Prop} {Q : Exit → Act → World → Prop} (hsz : a0.tmps.size = 141) (h7 : a0.eval (.tmp 7) = .pointer (some ⟨b7,0,none⟩)) (hmk : MkY b7 pb nb Rr)
  (L : Nat → Bool) (vs : Nat → Value) (w : World) (i : Nat) (o : Oper) (ho : ops11[i]? = some o) (hLi : L i = false) (hdep : ∀ e ∈ o.after.toList,Region.binds .any e = true → L e.on = true) (hG : G11 b7 pb nb Rr L vs w) (A : Act) (hA : A = actL a0 L vs ds11) :
  Oper.wp Try.prog o A w (fun a' w' => ∃ v,a' = A.put o.dst v∧G11 b7 pb nb Rr (updL L i) (updV vs i v) w') Q := by
 have h12 : i < 12 → L i = false → L 12 = false := fun h1 h2 => by
  cases h : L 12 with
  | false => rfl
  | true => rw [hG.al h i h1] at h2; cases h2
 subst hA
 match i,ho with
 | 0,ho =>
  obtain rfl : ({ dst := some 49, op := Op.fieldAddr 29 (Operand.tmp 7) 0, type := 0, pos := "law.go:250", after := #[], guard := none } : Oper) = o := Option.some.inj ho
  have e7 : (actL a0 L vs ds11).eval (.tmp 7) = .pointer (some ⟨b7,0,none⟩) := (actL_other (by decide)).trans h7
  refine op_val (v := .pointer (some ⟨b7,0,none⟩)) (w' := w) ?_ ⟨_,rfl,?_⟩
  ·generalize (actL a0 L vs ds11).eval = ev at *; go_simp
  ·exact ⟨fun _ => rfl,by simpa [updL,updV] using hG.v1,by simpa [updL,updV] using hG.v2,by simpa [updL,updV] using hG.v3,by simpa [updL,updV] using hG.v4,by simpa [updL,updV] using hG.v5,by simpa [updL,updV] using hG.v6,by simpa [updL,updV] using hG.v7,by simpa [updL,updV] using hG.v8,by simpa [updL,updV] using hG.v9,by simpa [updL,updV] using hG.v10,by simpa [updL,updV] using hG.v11,fun h => by have := hG.r (by simpa [updL] using h); simpa [optB,updL,updV] using this,fun h => absurd (hG.al (by simpa [updL] using h) 0 (by decide)) (by rw [hLi]; decide),fun h => absurd (hG.al (by simpa [updL] using h) 0 (by decide)) (by rw [hLi]; decide)⟩
 | 1,ho =>
  obtain rfl : ({ dst := some 50, op := Op.load 24 (Operand.tmp 49), type := 24, pos := "law.go:250", after := #[{ on := 0, ground := Ground.data }], guard := none } : Oper) = o := Option.some.inj ho
  have d0 := hdep ⟨0,.data⟩ (by simp) rfl
  have e49 : (actL a0 L vs ds11).eval (.tmp 49) = .pointer (some ⟨b7,0,none⟩) := (actL_at d0 (by rw [hsz]; decide) (by decide) (by decide)).trans (hG.v0 d0)
  have hr := hG.r (h12 (by decide) hLi)
  have c0 := (hmk.p7 _ _ _ _ _ _ hr).1
  refine op_val (v := .pointer (some ⟨pb,0,none⟩)) (w' := w) ?_ ⟨_,rfl,?_⟩
  ·generalize (actL a0 L vs ds11).eval = ev at *; go_simp
  ·exact ⟨by simpa [updL,updV] using hG.v0,fun _ => rfl,by simpa [updL,updV] using hG.v2,by simpa [updL,updV] using hG.v3,by simpa [updL,updV] using hG.v4,by simpa [updL,updV] using hG.v5,by simpa [updL,updV] using hG.v6,by simpa [updL,updV] using hG.v7,by simpa [updL,updV] using hG.v8,by simpa [updL,updV] using hG.v9,by simpa [updL,updV] using hG.v10,by simpa [updL,updV] using hG.v11,fun h => by have := hG.r (by simpa [updL] using h); simpa [optB,updL,updV] using this,fun h => absurd (hG.al (by simpa [updL] using h) 1 (by decide)) (by rw [hLi]; decide),fun h => absurd (hG.al (by simpa [updL] using h) 1 (by decide)) (by rw [hLi]; decide)⟩
 | 2,ho =>
  obtain rfl : ({ dst := some 51, op := Op.call { callee := Callee.value (Operand.func 26), args := #[Operand.tmp 50], argTypes := #[24] }, type := 24, pos := "law.go:250", after := #[{ on := 1, ground := Ground.data }], guard := none } : Oper) = o := Option.some.inj ho
  have d0 := hdep ⟨1,.data⟩ (by simp) rfl
  have e50 : (actL a0 L vs ds11).eval (.tmp 50) = .pointer (some ⟨pb,0,none⟩) := (actL_at d0 (by rw [hsz]; decide) (by decide) (by decide)).trans (hG.v1 d0)
  have hr := hG.r (h12 (by decide) hLi)
  have hn : optB L vs 2 = none := by unfold optB; rw [hLi]; rfl
  rw [hn] at hr
  refine op_call rfl 26 #[.tmp 50] _ rfl #[.pointer (some ⟨pb,0,none⟩)] (by simp [e50]) (hmk.cp _ _ _ _ w hr) (fn := Try.f26) (by kernel_rfl) (by kernel_rfl) (by kernel_rfl) fun e w' he => ?_
  obtain ⟨y,rfl,hr2⟩ := he
  refine ⟨_,rfl,_,rfl,?_⟩
  exact ⟨by simpa [updL,updV] using hG.v0,by simpa [updL,updV] using hG.v1,fun _ => ⟨y,rfl⟩,by simpa [updL,updV] using hG.v3,by simpa [updL,updV] using hG.v4,by simpa [updL,updV] using hG.v5,by simpa [updL,updV] using hG.v6,by simpa [updL,updV] using hG.v7,by simpa [updL,updV] using hG.v8,by simpa [updL,updV] using hG.v9,v10k 2 (by decide) hLi hG.v10,by simpa [updL,updV] using hG.v11,fun h => by simpa [optB,updL,updV,ptrB] using hr2,fun h => absurd (hG.al (by simpa [updL] using h) 2 (by decide)) (by rw [hLi]; decide),fun h => absurd (hG.al (by simpa [updL] using h) 2 (by decide)) (by rw [hLi]; decide)⟩
 | 3,ho =>
  obtain rfl : ({ dst := some 52, op := Op.fieldAddr 29 (Operand.tmp 7) 1, type := 0, pos := "law.go:250", after := #[], guard := none } : Oper) = o := Option.some.inj ho
  have e7 : (actL a0 L vs ds11).eval (.tmp 7) = .pointer (some ⟨b7,0,none⟩) := (actL_other (by decide)).trans h7
  refine op_val (v := .pointer (some ⟨b7,1,none⟩)) (w' := w) ?_ ⟨_,rfl,?_⟩
  ·generalize (actL a0 L vs ds11).eval = ev at *; go_simp
  ·exact ⟨by simpa [updL,updV] using hG.v0,by simpa [updL,updV] using hG.v1,by simpa [updL,updV] using hG.v2,fun _ => rfl,by simpa [updL,updV] using hG.v4,by simpa [updL,updV] using hG.v5,by simpa [updL,updV] using hG.v6,by simpa [updL,updV] using hG.v7,by simpa [updL,updV] using hG.v8,by simpa [updL,updV] using hG.v9,by simpa [updL,updV] using hG.v10,by simpa [updL,updV] using hG.v11,fun h => by have := hG.r (by simpa [updL] using h); simpa [optB,updL,updV] using this,fun h => absurd (hG.al (by simpa [updL] using h) 3 (by decide)) (by rw [hLi]; decide),fun h => absurd (hG.al (by simpa [updL] using h) 3 (by decide)) (by rw [hLi]; decide)⟩
 | 4,ho =>
  obtain rfl : ({ dst := some 53, op := Op.load 25 (Operand.tmp 52), type := 25, pos := "law.go:250", after := #[{ on := 3, ground := Ground.data }], guard := none } : Oper) = o := Option.some.inj ho
  have d0 := hdep ⟨3,.data⟩ (by simp) rfl
  have e52 : (actL a0 L vs ds11).eval (.tmp 52) = .pointer (some ⟨b7,1,none⟩) := (actL_at d0 (by rw [hsz]; decide) (by decide) (by decide)).trans (hG.v3 d0)
  have hr := hG.r (h12 (by decide) hLi)
  have c0 := (hmk.p7 _ _ _ _ _ _ hr).2
  refine op_val (v := .pointer (some ⟨nb,0,none⟩)) (w' := w) ?_ ⟨_,rfl,?_⟩
  ·generalize (actL a0 L vs ds11).eval = ev at *; go_simp
  ·exact ⟨by simpa [updL,updV] using hG.v0,by simpa [updL,updV] using hG.v1,by simpa [updL,updV] using hG.v2,by simpa [updL,updV] using hG.v3,fun _ => rfl,by simpa [updL,updV] using hG.v5,by simpa [updL,updV] using hG.v6,by simpa [updL,updV] using hG.v7,by simpa [updL,updV] using hG.v8,by simpa [updL,updV] using hG.v9,by simpa [updL,updV] using hG.v10,by simpa [updL,updV] using hG.v11,fun h => by have := hG.r (by simpa [updL] using h); simpa [optB,updL,updV] using this,fun h => absurd (hG.al (by simpa [updL] using h) 4 (by decide)) (by rw [hLi]; decide),fun h => absurd (hG.al (by simpa [updL] using h) 4 (by decide)) (by rw [hLi]; decide)⟩
 | 5,ho =>
  obtain rfl : ({ dst := some 54, op := Op.call { callee := Callee.value (Operand.func 27), args := #[Operand.tmp 53], argTypes := #[25] }, type := 25, pos := "law.go:250", after := #[{ on := 4, ground := Ground.data }, { on := 2, ground := Ground.chain }], guard := none } : Oper) = o := Option.some.inj ho
  have d0 := hdep ⟨4,.data⟩ (by simp) rfl
  have e50 : (actL a0 L vs ds11).eval (.tmp 53) = .pointer (some ⟨nb,0,none⟩) := (actL_at d0 (by rw [hsz]; decide) (by decide) (by decide)).trans (hG.v4 d0)
  have hr := hG.r (h12 (by decide) hLi)
  have hn : optB L vs 5 = none := by unfold optB; rw [hLi]; rfl
  rw [hn] at hr
  refine op_call rfl 27 #[.tmp 53] _ rfl #[.pointer (some ⟨nb,0,none⟩)] (by simp [e50]) (hmk.cn _ _ _ _ w hr) (fn := Try.f27) (by kernel_rfl) (by kernel_rfl) (by kernel_rfl) fun e w' he => ?_
  obtain ⟨y,rfl,hr2⟩ := he
  refine ⟨_,rfl,_,rfl,?_⟩
  exact ⟨by simpa [updL,updV] using hG.v0,by simpa [updL,updV] using hG.v1,by simpa [updL,updV] using hG.v2,by simpa [updL,updV] using hG.v3,by simpa [updL,updV] using hG.v4,fun _ => ⟨y,rfl⟩,by simpa [updL,updV] using hG.v6,by simpa [updL,updV] using hG.v7,by simpa [updL,updV] using hG.v8,by simpa [updL,updV] using hG.v9,v10k 5 (by decide) hLi hG.v10,by simpa [updL,updV] using hG.v11,fun h => by simpa [optB,updL,updV,ptrB] using hr2,fun h => absurd (hG.al (by simpa [updL] using h) 5 (by decide)) (by rw [hLi]; decide),fun h => absurd (hG.al (by simpa [updL] using h) 5 (by decide)) (by rw [hLi]; decide)⟩
 | 6,ho =>
  obtain rfl : ({ dst := some 55, op := Op.build 70 #[], type := 70, pos := "law.go:250", after := #[], guard := none } : Oper) = o := Option.some.inj ho
  refine op_val (v := .agg #[.int .i64 0,.int .i64 0,.int .i64 0,.slice none 0 0]) (w' := w) ?_ ⟨_,rfl,?_⟩
  ·generalize (actL a0 L vs ds11).eval = ev at *; go_simp
  ·exact ⟨by simpa [updL,updV] using hG.v0,by simpa [updL,updV] using hG.v1,by simpa [updL,updV] using hG.v2,by simpa [updL,updV] using hG.v3,by simpa [updL,updV] using hG.v4,by simpa [updL,updV] using hG.v5,fun _ => rfl,by simpa [updL,updV] using hG.v7,by simpa [updL,updV] using hG.v8,by simpa [updL,updV] using hG.v9,by simpa [updL,updV] using hG.v10,by simpa [updL,updV] using hG.v11,fun h => by have := hG.r (by simpa [updL] using h); simpa [optB,updL,updV] using this,fun h => absurd (hG.al (by simpa [updL] using h) 6 (by decide)) (by rw [hLi]; decide),fun h => absurd (hG.al (by simpa [updL] using h) 6 (by decide)) (by rw [hLi]; decide)⟩
 | 7,ho =>
  obtain rfl : ({ dst := some 56, op := Op.box 70 (Operand.tmp 55), type := 26, pos := "law.go:250", after := #[{ on := 6, ground := Ground.data }], guard := none } : Oper) = o := Option.some.inj ho
  have d0 := hdep ⟨6,.data⟩ (by simp) rfl
  have e55 := (actL_at (vs := vs) d0 (ds := ds11) (a0 := a0) (s := 55) (by rw [hsz]; decide) (by decide) (by decide)).trans (hG.v6 d0)
  have hr := hG.r (h12 (by decide) hLi)
  have hn : optB L vs 7 = none := by unfold optB; rw [hLi]; rfl
  rw [hn] at hr
  have hr2 := hmk.a1 _ _ _ _ w hr
  refine op_val (v := .pointer (some ⟨w.heap.size,0,none⟩)) (w' := w.alloc (.cells #[.int .i64 0,.int .i64 0,.int .i64 0,.slice none 0 0] 70)) ?_ ⟨_,rfl,?_⟩
  ·generalize (actL a0 L vs ds11).eval = ev at *; go_simp
  ·exact ⟨by simpa [updL,updV] using hG.v0,by simpa [updL,updV] using hG.v1,by simpa [updL,updV] using hG.v2,by simpa [updL,updV] using hG.v3,by simpa [updL,updV] using hG.v4,by simpa [updL,updV] using hG.v5,by simpa [updL,updV] using hG.v6,fun _ => ⟨_,rfl⟩,by simpa [updL,updV] using hG.v8,by simpa [updL,updV] using hG.v9,v10k 7 (by decide) hLi hG.v10,by simpa [updL,updV] using hG.v11,fun h => by simpa [optB,updL,updV,ptrB] using hr2,fun h => absurd (hG.al (by simpa [updL] using h) 7 (by decide)) (by rw [hLi]; decide),fun h => absurd (hG.al (by simpa [updL] using h) 7 (by decide)) (by rw [hLi]; decide)⟩
 | 8,ho =>
  obtain rfl : ({ dst := some 57, op := Op.build 72 #[], type := 72, pos := "law.go:250", after := #[], guard := none } : Oper) = o := Option.some.inj ho
  refine op_val (v := .agg #[.slice none 0 0,.bool false]) (w' := w) ?_ ⟨_,rfl,?_⟩
  ·generalize (actL a0 L vs ds11).eval = ev at *; go_simp
  ·exact ⟨by simpa [updL,updV] using hG.v0,by simpa [updL,updV] using hG.v1,by simpa [updL,updV] using hG.v2,by simpa [updL,updV] using hG.v3,by simpa [updL,updV] using hG.v4,by simpa [updL,updV] using hG.v5,by simpa [updL,updV] using hG.v6,by simpa [updL,updV] using hG.v7,fun _ => rfl,by simpa [updL,updV] using hG.v9,by simpa [updL,updV] using hG.v10,by simpa [updL,updV] using hG.v11,fun h => by have := hG.r (by simpa [updL] using h); simpa [optB,updL,updV] using this,fun h => absurd (hG.al (by simpa [updL] using h) 8 (by decide)) (by rw [hLi]; decide),fun h => absurd (hG.al (by simpa [updL] using h) 8 (by decide)) (by rw [hLi]; decide)⟩
 | 9,ho =>
  obtain rfl : ({ dst := some 58, op := Op.box 72 (Operand.tmp 57), type := 27, pos := "law.go:250", after := #[{ on := 8, ground := Ground.data }], guard := none } : Oper) = o := Option.some.inj ho
  have d0 := hdep ⟨8,.data⟩ (by simp) rfl
  have e55 := (actL_at (vs := vs) d0 (ds := ds11) (a0 := a0) (s := 57) (by rw [hsz]; decide) (by decide) (by decide)).trans (hG.v8 d0)
  have hr := hG.r (h12 (by decide) hLi)
  have hn : optB L vs 9 = none := by unfold optB; rw [hLi]; rfl
  rw [hn] at hr
  have hr2 := hmk.a2 _ _ _ _ w hr
  refine op_val (v := .pointer (some ⟨w.heap.size,0,none⟩)) (w' := w.alloc (.cells #[.slice none 0 0,.bool false] 72)) ?_ ⟨_,rfl,?_⟩
  ·generalize (actL a0 L vs ds11).eval = ev at *; go_simp
  ·exact ⟨by simpa [updL,updV] using hG.v0,by simpa [updL,updV] using hG.v1,by simpa [updL,updV] using hG.v2,by simpa [updL,updV] using hG.v3,by simpa [updL,updV] using hG.v4,by simpa [updL,updV] using hG.v5,by simpa [updL,updV] using hG.v6,by simpa [updL,updV] using hG.v7,by simpa [updL,updV] using hG.v8,fun _ => ⟨_,rfl⟩,v10k 9 (by decide) hLi hG.v10,by simpa [updL,updV] using hG.v11,fun h => by simpa [optB,updL,updV,ptrB] using hr2,fun h => absurd (hG.al (by simpa [updL] using h) 9 (by decide)) (by rw [hLi]; decide),fun h => absurd (hG.al (by simpa [updL] using h) 9 (by decide)) (by rw [hLi]; decide)⟩
 | 10,ho =>
  obtain rfl : ({ dst := some 59, op := Op.build 29 #[(0, Operand.tmp 51), (1, Operand.tmp 54), (2, Operand.tmp 56), (3, Operand.tmp 58)], type := 29, pos := "law.go:250", after := #[{ on := 2, ground := Ground.data }, { on := 5, ground := Ground.data }, { on := 7, ground := Ground.data }, { on := 9, ground := Ground.data }], guard := none } : Oper) = o := Option.some.inj ho
  have d2 := hdep ⟨2,.data⟩ (by simp) rfl
  obtain ⟨y2,q2⟩ := hG.v2 d2
  have e2 := (actL_at (vs := vs) d2 (ds := ds11) (a0 := a0) (s := 51) (by rw [hsz]; decide) (by decide) (by decide)).trans q2
  have d5 := hdep ⟨5,.data⟩ (by simp) rfl
  obtain ⟨y5,q5⟩ := hG.v5 d5
  have e5 := (actL_at (vs := vs) d5 (ds := ds11) (a0 := a0) (s := 54) (by rw [hsz]; decide) (by decide) (by decide)).trans q5
  have d7 := hdep ⟨7,.data⟩ (by simp) rfl
  obtain ⟨y7,q7⟩ := hG.v7 d7
  have e7 := (actL_at (vs := vs) d7 (ds := ds11) (a0 := a0) (s := 56) (by rw [hsz]; decide) (by decide) (by decide)).trans q7
  have d9 := hdep ⟨9,.data⟩ (by simp) rfl
  obtain ⟨y9,q9⟩ := hG.v9 d9
  have e9 := (actL_at (vs := vs) d9 (ds := ds11) (a0 := a0) (s := 58) (by rw [hsz]; decide) (by decide) (by decide)).trans q9
  refine op_val (v := .agg (ptr4 y2 y5 y7 y9)) (w' := w) ?_ ⟨_,rfl,?_⟩
  ·generalize (actL a0 L vs ds11).eval = ev at *; go_simp
  ·exact ⟨by simpa [updL,updV] using hG.v0,by simpa [updL,updV] using hG.v1,by simpa [updL,updV] using hG.v2,by simpa [updL,updV] using hG.v3,by simpa [updL,updV] using hG.v4,by simpa [updL,updV] using hG.v5,by simpa [updL,updV] using hG.v6,by simpa [updL,updV] using hG.v7,by simpa [updL,updV] using hG.v8,by simpa [updL,updV] using hG.v9,fun _ => ⟨by simp [updV,q2,q5,q7,q9],by simpa [updL] using d2,by simpa [updL] using d5,by simpa [updL] using d7,by simpa [updL] using d9⟩,by simpa [updL,updV] using hG.v11,fun h => by have := hG.r (by simpa [updL] using h); simpa [optB,updL,updV] using this,fun h => absurd (hG.al (by simpa [updL] using h) 10 (by decide)) (by rw [hLi]; decide),fun h => absurd (hG.al (by simpa [updL] using h) 10 (by decide)) (by rw [hLi]; decide)⟩
 | 11,ho =>
  obtain rfl : ({ dst := some 10, op := Op.alloc 29, type := 0, pos := "law.go:250", after := #[], guard := none } : Oper) = o := Option.some.inj ho
  have hr := hG.r (h12 (by decide) hLi)
  have hn : optB L vs 11 = none := by unfold optB; rw [hLi]; rfl
  rw [hn] at hr
  have hr2 := hmk.a3 _ _ _ _ w hr
  refine op_val (v := .pointer (some ⟨w.heap.size,0,none⟩)) (w' := w.alloc (.cells #[.pointer none,.pointer none,.pointer none,.pointer none] 29)) ?_ ⟨_,rfl,?_⟩
  ·generalize (actL a0 L vs ds11).eval = ev at *; go_simp
  ·exact ⟨by simpa [updL,updV] using hG.v0,by simpa [updL,updV] using hG.v1,by simpa [updL,updV] using hG.v2,by simpa [updL,updV] using hG.v3,by simpa [updL,updV] using hG.v4,by simpa [updL,updV] using hG.v5,by simpa [updL,updV] using hG.v6,by simpa [updL,updV] using hG.v7,by simpa [updL,updV] using hG.v8,by simpa [updL,updV] using hG.v9,by simpa [updL,updV] using hG.v10,fun _ => ⟨_,rfl⟩,fun h => by simpa [optB,updL,updV,ptrB] using hr2,fun h => absurd (hG.al (by simpa [updL] using h) 11 (by decide)) (by rw [hLi]; decide),fun h => absurd (hG.al (by simpa [updL] using h) 11 (by decide)) (by rw [hLi]; decide)⟩
 | 12,ho =>
  obtain rfl : ({ dst := none, op := Op.store 29 (Operand.tmp 10) (Operand.tmp 59), type := 0, pos := "law.go:250", after := #[{ on := 11, ground := Ground.data }, { on := 10, ground := Ground.data }, { on := 5, ground := Ground.chain }, { on := 0, ground := Ground.phase }, { on := 1, ground := Ground.phase }, { on := 2, ground := Ground.phase }, { on := 3, ground := Ground.phase }, { on := 4, ground := Ground.phase }, { on := 5, ground := Ground.phase }, { on := 6, ground := Ground.phase }, { on := 7, ground := Ground.phase }, { on := 8, ground := Ground.phase }, { on := 9, ground := Ground.phase }, { on := 10, ground := Ground.phase }, { on := 11, ground := Ground.phase }], guard := none } : Oper) = o := Option.some.inj ho
  have d10 := hdep ⟨10,.data⟩ (by simp) rfl
  have d11 := hdep ⟨11,.data⟩ (by simp) rfl
  obtain ⟨q10,d2,d5,d7,d9⟩ := hG.v10 d10
  obtain ⟨y2,q2⟩ := hG.v2 d2
  obtain ⟨y5,q5⟩ := hG.v5 d5
  obtain ⟨y7,q7⟩ := hG.v7 d7
  obtain ⟨y9,q9⟩ := hG.v9 d9
  obtain ⟨y11,q11⟩ := hG.v11 d11
  have e10 := (actL_at (vs := vs) d11 (ds := ds11) (a0 := a0) (s := 10) (by rw [hsz]; decide) (by decide) (by decide)).trans q11
  have e59 := (actL_at (vs := vs) d10 (ds := ds11) (a0 := a0) (s := 59) (by rw [hsz]; decide) (by decide) (by decide)).trans q10
  rw [q2,q5,q7,q9] at e59
  have hr := hG.r hLi
  unfold optB at hr
  rw [if_pos d2,if_pos d5,if_pos d7,if_pos d9,if_pos d11,q2,q5,q7,q9,q11] at hr
  have hst := hmk.st _ _ _ _ _ _ hr
  obtain ⟨_,s1⟩ := KeptW.set (j := 0) (v := .pointer (some ⟨y2,0,none⟩)) hst
  obtain ⟨_,s2⟩ := KeptW.set (j := 1) (v := .pointer (some ⟨y5,0,none⟩)) s1
  obtain ⟨_,s3⟩ := KeptW.set (j := 2) (v := .pointer (some ⟨y7,0,none⟩)) s2
  have f0 := frozen_of hst 0; have f1 := frozen_of s1 1; have f2 := frozen_of s2 2; have f3 := frozen_of s3 3
  have c0 := cell_of hst (j := 0) rfl; have c1 := cell_of s1 (j := 1) (v := .pointer none) rfl; have c2 := cell_of s2 (j := 2) (v := .pointer none) rfl; have c3 := cell_of s3 (j := 3) (v := .pointer none) rfl
  clear hst s1 s2 s3
  refine op_skip (w' := st4W w y11 (.pointer (some ⟨y2,0,none⟩)) (.pointer (some ⟨y5,0,none⟩)) (.pointer (some ⟨y7,0,none⟩)) (.pointer (some ⟨y9,0,none⟩))) ?_ ⟨_,rfl,?_⟩
  ·unfold st4W; generalize (actL a0 L vs ds11).eval = ev at *; go_simp
  ·refine ⟨by simpa [updL,updV] using hG.v0,by simpa [updL,updV] using hG.v1,by simpa [updL,updV] using hG.v2,by simpa [updL,updV] using hG.v3,by simpa [updL,updV] using hG.v4,by simpa [updL,updV] using hG.v5,by simpa [updL,updV] using hG.v6,by simpa [updL,updV] using hG.v7,by simpa [updL,updV] using hG.v8,by simpa [updL,updV] using hG.v9,by simpa [updL,updV] using hG.v10,by simpa [updL,updV] using hG.v11,fun h => by simp [updL] at h,fun _ j hj => ?_,fun _ => ⟨y2,y5,y7,y9,y11,w,by simpa [updV] using q2,by simpa [updV] using q5,by simpa [updV] using q7,by simpa [updV] using q9,by simpa [updV] using q11,by simpa [ptrB] using hr,rfl⟩⟩
   have hL : ∀ k,k < 12 → L k = true := fun k hk => by
    match k with
    | 0 => exact hdep ⟨0,.phase⟩ (by simp) rfl
    | 1 => exact hdep ⟨1,.phase⟩ (by simp) rfl
    | 2 => exact hdep ⟨2,.phase⟩ (by simp) rfl
    | 3 => exact hdep ⟨3,.phase⟩ (by simp) rfl
    | 4 => exact hdep ⟨4,.phase⟩ (by simp) rfl
    | 5 => exact hdep ⟨5,.phase⟩ (by simp) rfl
    | 6 => exact hdep ⟨6,.phase⟩ (by simp) rfl
    | 7 => exact hdep ⟨7,.phase⟩ (by simp) rfl
    | 8 => exact hdep ⟨8,.phase⟩ (by simp) rfl
    | 9 => exact hdep ⟨9,.phase⟩ (by simp) rfl
    | 10 => exact d10
    | 11 => exact d11
    | n + 12 => omega
   have := hL j hj
   simp [updL,this]
 | n + 13,ho => simp [ops11] at ho
set_option maxHeartbeats 2000000 in
theorem region11 {a0 : Act} {w0 : World} {b7 pb nb : Nat} {Rr : Option Nat → Option Nat → Option Nat → Option Nat → Option Nat → World → Prop} {Q : Exit → Act → World → Prop} (mixed : Try.prog.follows .mixedOrders = true) (hsz : a0.tmps.size = 141) (h7 : a0.eval (.tmp 7) = .pointer (some ⟨b7,0,none⟩)) (hmk : MkY b7 pb nb Rr)
  (hR0 : Rr none none none none none w0.drew)
  (hQ : ∀ y z u v t w4,Rr (some y) (some z) (some u) (some v) (some t) w4 → Q .normal (putsA a0 [49,50,51,52,53,54,55,56,57,58,59,10] [.pointer (some ⟨b7,0,none⟩),.pointer (some ⟨pb,0,none⟩),.pointer (some ⟨y,0,none⟩),.pointer (some ⟨b7,1,none⟩),.pointer (some ⟨nb,0,none⟩),.pointer (some ⟨z,0,none⟩),
    .agg #[.int .i64 0,.int .i64 0,.int .i64 0,.slice none 0 0],.pointer (some ⟨u,0,none⟩),.agg #[.slice none 0 0,.bool false],.pointer (some ⟨v,0,none⟩),.agg (ptr4 y z u v),.pointer (some ⟨t,0,none⟩)])
    (st4W w4 t (.pointer (some ⟨y,0,none⟩)) (.pointer (some ⟨z,0,none⟩)) (.pointer (some ⟨u,0,none⟩)) (.pointer (some ⟨v,0,none⟩)))) : (Code.region 11 ops11 true).wp Try.prog Q a0 w0 := by
 refine region_inv ds11 (G11 b7 pb nb Rr) mixed (fun i o ho => ?_) (by decide) (by decide) ?_ (fun L vs w i o ho hLi hdep hG => step11 hsz h7 hmk L vs w i o ho hLi hdep hG _ rfl) (fun L vs w hL hG => ?_) fun i o ho e he => ?_
 ·have h := ops11_ok
  have hi := (Array.getElem?_eq_some_iff.1 ho).1
  have := List.all_eq_true.1 h (o,i) (List.mem_zipIdx_iff_getElem?.2 (by rw [Array.getElem?_toList]; exact ho))
  simp only [Bool.and_eq_true,Option.isNone_iff_eq_none,List.contains_iff_mem] at this
  exact ⟨this.1.1,this.1.2⟩
 ·exact ⟨fun _ => undef,⟨fun h => (by cases h),fun h => (by cases h),fun h => (by cases h),fun h => (by cases h),fun h => (by cases h),fun h => (by cases h),fun h => (by cases h),fun h => (by cases h),fun h => (by cases h),fun h => (by cases h),fun h => (by cases h),fun h => (by cases h),fun _ => hR0,fun h => (by cases h),fun h => (by cases h)⟩⟩
 ·have h12 : ops11.size = 13 := by rfl
  have hl : ∀ j,j < 13 → L j = true := fun j hj => hL j (by omega)
  obtain ⟨y,z,u,v,t,W',q2,q5,q7,q9,q11,hr,rfl⟩ := hG.f (hl 12 (by decide))
  have e := hQ y z u v t W' hr
  have e10 := (hG.v10 (hl 10 (by decide))).1
  have e10' : vs 10 = .agg (ptr4 y z u v) := by rw [q2,q5,q7,q9] at e10; exact e10
  have ha : actL a0 L vs ds11 = putsA a0 [49,50,51,52,53,54,55,56,57,58,59,10] [.pointer (some ⟨b7,0,none⟩),.pointer (some ⟨pb,0,none⟩),.pointer (some ⟨y,0,none⟩),.pointer (some ⟨b7,1,none⟩),.pointer (some ⟨nb,0,none⟩),.pointer (some ⟨z,0,none⟩),
    .agg #[.int .i64 0,.int .i64 0,.int .i64 0,.slice none 0 0],.pointer (some ⟨u,0,none⟩),.agg #[.slice none 0 0,.bool false],.pointer (some ⟨v,0,none⟩),.agg (ptr4 y z u v),.pointer (some ⟨t,0,none⟩)] := by
   rw [actL_all fun p hp => hl p.1 (by have : ∀ p ∈ ds11,p.1 < 13 := (by decide); exact this p hp)]
   have e0 := hG.v0 (hl 0 (by decide)); have e1 := hG.v1 (hl 1 (by decide)); have e3 := hG.v3 (hl 3 (by decide)); have e4 := hG.v4 (hl 4 (by decide)); have e6 := hG.v6 (hl 6 (by decide)); have e8 := hG.v8 (hl 8 (by decide))
   rw [← e0,← e1,← q2,← e3,← e4,← q5,← e6,← q7,← e8,← q9,← q11,← e10']
   rfl
  rw [ha]
  exact e
 ·have h := ops11_ok
  have := List.all_eq_true.1 h (o,i) (List.mem_zipIdx_iff_getElem?.2 (by rw [Array.getElem?_toList]; exact ho))
  simp only [Bool.and_eq_true] at this
  have := List.all_eq_true.1 this.2 e he
  simpa using this
end Go.Proofs.Ytkefjdmoikegbaa
