/- Arguments by their types; the two forms of a law's statement. -/
import Derived.ProofKit
import Derived.JoinedCond
import Derived.Test.YtjbpbidlcegopaaDoorEv09
set_option linter.all false
namespace Go.Ev
variable [Gl]
section
variable {P : Program} {N : Nat}
theorem typC_int {n : Nat} {t : TypeId} {k : IntKind} {cs : List AV} (hu : P.underlying t = some (.int k)) (h : TypC P N (n + 1) t cs) : ∃ m, cs = [.v (.int k m)] ∧ k.min ≤ m ∧ m ≤ k.max := by
  rw [TypC, hu] at h; exact h
theorem typC_bool {n : Nat} {t : TypeId} {cs : List AV} (hu : P.underlying t = some .bool) (h : TypC P N (n + 1) t cs) : ∃ b, cs = [.v (.bool b)] := by
  rw [TypC, hu] at h; exact h
theorem typC_slice {n : Nat} {t e : TypeId} {cs : List AV} (hu : P.underlying t = some (.slice e)) (h : TypC P N (n + 1) t cs) :
    ∃ nil xs, cs = [.lst nil (P.cellsOf e) xs] ∧ (nil = true → xs = []) ∧ xs.length ≤ N ∧ ∀ x ∈ xs, TypC P N n e x := by
  rw [TypC, hu] at h; exact h
def TypL (P : Program) (N n : Nat) : List TypeId → List AV → Prop
  | [], cs => cs = []
  | t :: ts, cs => ∃ p r, cs = p ++ r ∧ TypC P N n t p ∧ TypL P N n ts r
theorem typL_of {n : Nat} : ∀ (ts : List TypeId) (parts : List (List AV)), parts.length = ts.length → (∀ (i : Nat) (t : TypeId) (p : List AV), ts[i]? = some t → parts[i]? = some p → TypC P N n t p) → TypL P N n ts parts.flatten
  | [], parts, hl, _ => by
    have : parts = [] := List.eq_nil_of_length_eq_zero hl
    subst this; rfl
  | t :: ts, [], hl, _ => by simp at hl
  | t :: ts, p :: parts, hl, h => ⟨p, parts.flatten, rfl, h 0 t p rfl rfl, typL_of ts parts (by simpa using hl) fun i t' p' h1 h2 => h (i + 1) t' p' (by simpa using h1) (by simpa using h2)⟩
theorem typC_struct {n : Nat} {t : TypeId} {fs : Array Field} {cs : List AV} (hu : P.underlying t = some (.struct fs)) (h : TypC P N (n + 1) t cs) : TypL P N n (fs.toList.map (·.type)) cs := by
  rw [TypC, hu] at h
  obtain ⟨parts, rfl, hl, hp⟩ := h
  refine typL_of _ _ (by simpa using hl) fun i t' p h1 h2 => ?_
  rw [List.getElem?_map, Option.map_eq_some_iff] at h1
  obtain ⟨f, hf, e⟩ := h1
  subst e
  exact hp i f p (by rw [← Array.getElem?_toList]; exact hf) h2
theorem typC_array {n len : Nat} {t e : TypeId} {cs : List AV} (hu : P.underlying t = some (.array len e)) (h : TypC P N (n + 1) t cs) : TypL P N n (List.replicate len e) cs := by
  rw [TypC, hu] at h
  obtain ⟨parts, rfl, hl, hp⟩ := h
  refine typL_of _ _ (by simpa using hl) fun i t' p h1 h2 => ?_
  have : t' = e := by
    have := List.mem_of_getElem? h1
    exact (List.mem_replicate.1 this).2
  subst this
  exact hp p (List.mem_of_getElem? h2)
end
section
open Go.ChangeShapes
variable {H : Type} {enc : TypeId × Value → H} {N : Nat} {bulk : DataW H → Nat}
def parOk (P : Program) (ts : List TypeId) : Bool := ts.all fun t => rdOk P 12 t && P.readableRec t && Nat.blt t P.types.size
theorem law_step' {P : Program} {W : World} (hB : BulkOf bulk) (hmix : P.follows .mixedOrders = true) (C : Cfg) (hx : ExtS P C) {f : FuncId} {fn : Func} (hfn : P.funcs[f]? = some fn) {tb : TypeId} (hres : fn.resultTypes = #[tb]) (htb : P.underlying tb = some .bool) {s : ChangeSpec} (hvars : s.vars = [])
    {ts : List TypeId} (hts : fn.params.toList = ts) (hs : ∀ ds : List (DataW H), ds.length = ts.length → s.fn H (ds ++ []) = { results := [.lit (.bool true)], args := ds }) (hl : laidOutB P = true) (hrd : parOk P ts = true)
    (hev : ∀ as, TypA P N ts as → ∃ n, evF P C n f as = some [.v (.bool true)]) (base : Nat) (args : Array Value) (ds gs : List (DataW H)) (before : List MemPlace)
    (hval : ∀ (j : Nat) t v, fn.params[j]? = some t → args[j]? = some v → Value.okWide P W .any base t v) (hW : DataW.Whole enc P fn.params.toList s.vars false W args.toList ds gs before) (hb : N = maxLen ∨ ∀ d ∈ ds, bulk d ≤ N) (hg : Gl.ok (hf W)) :
    Calls P f args W fun e W' => ∃ v, e = .returned v ∧ s.post enc P fn false true false false W args v W' := by
  refine law_step hB hmix C hx hfn hres htb hvars (by rw [hts]; exact hs) hl (fun t ht => ?_) (by rw [hts]; exact hev) base args ds gs before hval hW hb hg
  rw [hts] at ht
  have := List.all_eq_true.1 hrd t ht
  simp only [Bool.and_eq_true] at this
  exact ⟨this.1.1, this.1.2, by simpa [Nat.blt_eq] using this.2⟩
end
end Go.Ev
namespace Go.Ev
variable [Gl]
open Go
theorem bind_first {α β : Type} {x x' : Option α} {f : α → Option β} (h : x = x') : x.bind f = x'.bind f := by rw [h]
theorem cond_first {α : Type} {c c' : Bool} {x y : α} (h : c = c') : cond c x y = cond c' x y := by rw [h]
theorem bnd {α β : Type} {x : Option α} {a : α} {f : α → Option β} {r : Option β} (h : x = some a) (h2 : f a = r) : x.bind f = r := by rw [h]; exact h2
theorem isOw_ok (b : Bool) (t sz : Nat) (xs : List (List AV)) : isOw t sz (.ow b t sz xs) = true := by simp [isOw]
theorem beq_self_i (b : Int) : (b == b) = true := by simp
theorem bits_or_comm (k : IntKind) (a b : Int) : bits .or k a b = bits .or k b a := by
  simp only [bits, BitVec.or_comm]
/-! ## Arguments by their types -/
section
variable {P : Program} {N : Nat}
def fieldsT (P : Program) (t : TypeId) : Option (List TypeId) := match P.underlying t with | some (.struct fs) => some (fs.toList.map (·.type)) | _ => none
def elemsT (P : Program) (t : TypeId) : Option (List TypeId) := match P.underlying t with | some (.array n e) => some (List.replicate n e) | _ => none
theorem typC_st {n : Nat} {t : TypeId} {ts : List TypeId} {cs : List AV} (hu : fieldsT P t = some ts) (h : TypC P N (n + 1) t cs) : TypL P N n ts cs := by
  unfold fieldsT at hu
  split at hu
  · rename_i fs hu2
    obtain rfl := Option.some.inj hu
    exact typC_struct hu2 h
  · cases hu
theorem typC_ar {n : Nat} {t : TypeId} {ts : List TypeId} {cs : List AV} (hu : elemsT P t = some ts) (h : TypC P N (n + 1) t cs) : TypL P N n ts cs := by
  unfold elemsT at hu
  split at hu
  · rename_i m e hu2
    obtain rfl := Option.some.inj hu
    exact typC_array hu2 h
  · cases hu
theorem lim_i64 {m : Int} (h : IntKind.i64.min ≤ m ∧ m ≤ IntKind.i64.max) : -9223372036854775808 ≤ m ∧ m ≤ 9223372036854775807 := by rw [min_i64, max_i64] at h; exact h
theorem lim_u64 {m : Int} (h : IntKind.u64.min ≤ m ∧ m ≤ IntKind.u64.max) : 0 ≤ m ∧ m ≤ 18446744073709551615 := by rw [min_u64, max_u64] at h; exact h
end
end Go.Ev
namespace Go.Ev
open Go
structure Pg where
  l : Int
  h : Int
  d0 : Int
  d1 : Int
  d2 : Int
  d3 : Int
  d4 : Int
  d5 : Int
  d6 : Int
abbrev pgl (l h d0 d1 d2 d3 d4 d5 d6 : Int) : List AV := [.v (.int .i64 l), .v (.int .u64 h), .v (.int .u64 d0), .v (.int .u64 d1), .v (.int .u64 d2), .v (.int .u64 d3), .v (.int .u64 d4), .v (.int .u64 d5), .v (.int .u64 d6)]
def Pg.row (p : Pg) : List AV := pgl p.l p.h p.d0 p.d1 p.d2 p.d3 p.d4 p.d5 p.d6
def pz : Pg := ⟨0, 0, 0, 0, 0, 0, 0, 0, 0⟩
def u64ok (x : Int) : Prop := 0 ≤ x ∧ x ≤ 18446744073709551615
def i64ok (x : Int) : Prop := -9223372036854775808 ≤ x ∧ x ≤ 9223372036854775807
def Pg.ok (p : Pg) : Prop := i64ok p.l ∧ u64ok p.h ∧ u64ok p.d0 ∧ u64ok p.d1 ∧ u64ok p.d2 ∧ u64ok p.d3 ∧ u64ok p.d4 ∧ u64ok p.d5 ∧ u64ok p.d6
theorem rows_of {α : Type} (f : α → List AV) (Q : α → Prop) : ∀ (xs : List (List AV)), (∀ y ∈ xs, ∃ p, y = f p ∧ Q p) → ∃ ps : List α, xs = ps.map f ∧ ∀ p ∈ ps, Q p
  | [], _ => ⟨[], rfl, fun _ h => by cases h⟩
  | y :: r, h => by
    obtain ⟨p, rfl, hp⟩ := h y (List.mem_cons_self ..)
    obtain ⟨ps, rfl, hps⟩ := rows_of f Q r fun z hz => h z (List.mem_cons_of_mem _ hz)
    exact ⟨p :: ps, rfl, fun q hq => by
      rcases List.mem_cons.1 hq with hq | hq
      · subst hq; exact hp
      · exact hps q hq⟩
theorem lget_map {α : Type} (f : α → List AV) (ps : List α) (i : Nat) (h : i < ps.length) : lget (ps.map f) i = f ps[i] := by
  unfold lget
  simp [h]
theorem lget_mapD {α : Type} (f : α → List AV) (ps : List α) (d : α) (i : Nat) (h : i < ps.length) : lget (ps.map f) i = f (ps.getD i d) := by
  rw [lget_map f ps i h]; simp [h]
end Go.Ev
namespace Go.Ev
open Go
structure Lim {α : Type} (a : Nat → Option α) (b : Option α) : Prop where
  mono : ∀ n m r, n ≤ m → a n = some r → a m = some r
  up : ∀ n r, a n = some r → b = some r
  down : ∀ r, b = some r → ∃ n, a n = some r
section lim
variable {α β : Type}
theorem Lim.const (b : Option α) : Lim (fun _ => b) b := ⟨fun _ _ _ _ h => h, fun _ _ h => h, fun _ h => ⟨0, h⟩⟩
theorem Lim.cond {c : Bool} {a a' : Nat → Option α} {b b' : Option α} (h : Lim a b) (h' : Lim a' b') : Lim (fun n => bif c then a n else a' n) (bif c then b else b') := by
  cases c
  · exact h'
  · exact h
theorem Lim.bind {a : Nat → Option α} {b : Option α} {f : Nat → α → Option β} {g : α → Option β} (h : Lim a b) (hf : ∀ x, Lim (fun n => f n x) (g x)) : Lim (fun n => (a n).bind (f n)) (b.bind g) := by
  refine ⟨fun n m r hl h1 => ?_, fun n r h1 => ?_, fun r h1 => ?_⟩
  · obtain ⟨x, h2, h3⟩ := Option.bind_eq_some_iff.1 h1
    rw [h.mono n m x hl h2]
    exact (hf x).mono n m r hl h3
  · obtain ⟨x, h2, h3⟩ := Option.bind_eq_some_iff.1 h1
    rw [h.up n x h2]
    exact (hf x).up n r h3
  · obtain ⟨x, h2, h3⟩ := Option.bind_eq_some_iff.1 h1
    obtain ⟨n, h4⟩ := h.down x h2
    obtain ⟨m, h5⟩ := (hf x).down r h3
    refine ⟨max n m, ?_⟩
    show (a (max n m)).bind (f (max n m)) = some r
    rw [h.mono n _ x (Nat.le_max_left ..) h4]
    exact (hf x).mono m _ r (Nat.le_max_right ..) h5
theorem Lim.unique {a : Nat → Option α} {b c : Option α} (h : Lim a b) (h' : Lim a c) : b = c := by
  cases hb : b with
  | some r => obtain ⟨n, h1⟩ := h.down r hb; exact (h'.up n r h1).symm
  | none =>
    cases hc : c with
    | none => rfl
    | some r => obtain ⟨n, h1⟩ := h'.down r hc; rw [h.up n r h1] at hb; cases hb
theorem Lim.shift {a : Nat → Option α} {b : Option α} (h : Lim a b) : Lim (fun n => a (n + 1)) b :=
  ⟨fun n m r hl h1 => h.mono _ _ r (Nat.succ_le_succ hl) h1, fun n r h1 => h.up _ r h1, fun r h1 => let ⟨n, h2⟩ := h.down r h1; ⟨n, h.mono n _ r (Nat.le_succ n) h2⟩⟩
theorem Lim.squeeze {a c : Nat → Option α} {b : Option α} (h : Lim a b) (hm : ∀ n m r, n ≤ m → c n = some r → c m = some r) (h1 : ∀ n r, a n = some r → c n = some r) (h2 : ∀ n r, c n = some r → a (n + 1) = some r) : Lim c b :=
  ⟨hm, fun n r e => h.up _ r (h2 n r e), fun r e => let ⟨n, h3⟩ := h.down r e; ⟨n, h1 n r h3⟩⟩
open Classical in
noncomputable def lim (a : Nat → Option α) : Option α := if h : ∃ r, ∃ n, a n = some r then some (Classical.choose h) else none
theorem lim_lim {a : Nat → Option α} (hm : ∀ n m r, n ≤ m → a n = some r → a m = some r) : Lim a (lim a) := by
  refine ⟨hm, fun n r h => ?_, fun r h => ?_⟩
  · have hx : ∃ r, ∃ n, a n = some r := ⟨r, n, h⟩
    unfold lim
    rw [dif_pos hx]
    obtain ⟨m, h2⟩ := Classical.choose_spec hx
    have h3 := hm n (max n m) r (Nat.le_max_left ..) h
    have h4 := hm m (max n m) _ (Nat.le_max_right ..) h2
    rw [h3] at h4
    exact h4.symm
  · unfold lim at h
    split at h
    · rename_i hx
      injection h with h
      subst h
      exact Classical.choose_spec hx
    · cases h
def Le (x y : Option α) : Prop := ∀ r, x = some r → y = some r
def two (x y : Option α) : Nat → Option α := fun n => match n with | 0 => x | _ + 1 => y
theorem lim_two {x y : Option α} (h : Le x y) : Lim (two x y) y := by
  refine ⟨fun n m r hl h1 => ?_, fun n r h1 => ?_, fun r h1 => ⟨1, h1⟩⟩
  · cases n with
    | zero => cases m with
      | zero => exact h1
      | succ m => exact h r h1
    | succ n => cases m with
      | zero => omega
      | succ m => exact h1
  · cases n with
    | zero => exact h r h1
    | succ n => exact h1
end lim
abbrev LimK {R : Type} (K : Nat → AV → Store → Option R) (K' : AV → Store → Option R) : Prop := ∀ a σ, Lim (fun n => K n a σ) (K' a σ)
section ops
variable {R : Type} {P : Program} {σ : Store} {K : Nat → AV → Store → Option R} {K' : AV → Store → Option R}
theorem newBox_lim (h : LimK K K') (t : TypeId) (cs : List AV) : Lim (fun n => newBox P σ (K n) t cs) (newBox P σ K' t cs) := by
  unfold newBox; repeat' first | exact Lim.const _ | exact h _ _ | apply Lim.cond | split
theorem evAlloc_lim (h : LimK K K') (t : TypeId) : Lim (fun n => evAlloc P σ (K n) t) (evAlloc P σ K' t) := by
  unfold evAlloc; repeat' first | exact Lim.const _ | exact newBox_lim h _ _ | apply Lim.cond | split
theorem evBox_lim (h : LimK K K') (t : TypeId) (a : AV) : Lim (fun n => evBox P σ (K n) t a) (evBox P σ K' t a) := by
  unfold evBox; repeat' first | exact Lim.const _ | exact newBox_lim h _ _ | apply Lim.cond | split
theorem evBuild_lim (h : LimK K K') (t : TypeId) (ps : List (Nat × AV)) : Lim (fun n => evBuild P σ (K n) t ps) (evBuild P σ K' t ps) := by
  unfold evBuild; repeat' first | exact Lim.const _ | exact h _ _ | apply Lim.cond | split
theorem evBuildSlice_lim (h : LimK K K') (t : TypeId) (m : Nat) (ps : List (Nat × AV)) : Lim (fun n => evBuildSlice P σ (K n) t m ps) (evBuildSlice P σ K' t m ps) := by
  unfold evBuildSlice; repeat' first | exact Lim.const _ | exact h _ _ | apply Lim.cond | split
theorem evLoad_lim (h : LimK K K') (t : TypeId) (a : AV) : Lim (fun n => evLoad P σ (K n) t a) (evLoad P σ K' t a) := by
  unfold evLoad; repeat' first | exact Lim.const _ | exact h _ _ | apply Lim.cond | split
theorem evStore_lim {L : Nat → Store → Option R} {L' : Store → Option R} (h : ∀ σ, Lim (fun n => L n σ) (L' σ)) (t : TypeId) (a x : AV) : Lim (fun n => evStore P σ t a x (L n)) (evStore P σ t a x L') := by
  unfold evStore; repeat' first | exact Lim.const _ | exact h _ | apply Lim.cond | split
theorem evBin_lim (h : LimK K K') (op : BinOp) (t : TypeId) (a b : AV) : Lim (fun n => evBin P σ (K n) op t a b) (evBin P σ K' op t a b) := by
  unfold evBin; repeat' first | exact Lim.const _ | exact h _ _ | apply Lim.cond | split
theorem evUn_lim (h : LimK K K') (op : UnOp) (a : AV) : Lim (fun n => evUn σ (K n) op a) (evUn σ K' op a) := by
  unfold evUn; repeat' first | exact Lim.const _ | exact h _ _ | apply Lim.cond | split
theorem evMark_lim (h : LimK K K') (s t : TypeId) (a : AV) : Lim (fun n => evMark P σ (K n) s t a) (evMark P σ K' s t a) := by
  unfold evMark; repeat' first | exact Lim.const _ | exact h _ _ | apply Lim.cond | split
theorem evConv_lim (h : LimK K K') (s t : TypeId) (a : AV) : Lim (fun n => evConv P σ (K n) s t a) (evConv P σ K' s t a) := by
  unfold evConv; repeat' first | exact Lim.const _ | exact h _ _ | apply Lim.cond | split
theorem evView_lim (h : LimK K K') (t : TypeId) (a lo : AV) (hi : Option AV) : Lim (fun n => evView P σ (K n) t a lo hi) (evView P σ K' t a lo hi) := by
  unfold evView; repeat' first | exact Lim.const _ | exact h _ _ | apply Lim.cond | split
theorem evEat_lim (h : LimK K K') (t : TypeId) (a : AV) (hi : Option AV) : Lim (fun n => evEat P σ (K n) t a hi) (evEat P σ K' t a hi) := by
  unfold evEat; repeat' first | exact Lim.const _ | exact h _ _ | apply Lim.cond | split
theorem evSlice_lim (h : LimK K K') (t : TypeId) (a : AV) (lo hi : Option AV) : Lim (fun n => evSlice P σ (K n) t a lo hi) (evSlice P σ K' t a lo hi) := by
  unfold evSlice; repeat' first | exact Lim.const _ | exact h _ _ | apply Lim.cond | split
theorem evFieldAddr_lim (h : LimK K K') (t : TypeId) (a : AV) (f : Nat) : Lim (fun n => evFieldAddr P σ (K n) t a f) (evFieldAddr P σ K' t a f) := by
  unfold evFieldAddr; repeat' first | exact Lim.const _ | exact h _ _ | apply Lim.cond | split
theorem evField_lim (h : LimK K K') (t : TypeId) (a : AV) (f : Nat) : Lim (fun n => evField P σ (K n) t a f) (evField P σ K' t a f) := by
  unfold evField; repeat' first | exact Lim.const _ | exact h _ _ | apply Lim.cond | split
theorem evIndexAddr_lim (h : LimK K K') (t : TypeId) (a i : AV) (c : Bool) : Lim (fun n => evIndexAddr P σ (K n) t a i c) (evIndexAddr P σ K' t a i c) := by
  unfold evIndexAddr; repeat' first | exact Lim.const _ | exact h _ _ | apply Lim.cond | split
theorem evIndex_lim (h : LimK K K') (t : TypeId) (a i : AV) (c : Bool) : Lim (fun n => evIndex P σ (K n) t a i c) (evIndex P σ K' t a i c) := by
  unfold evIndex; repeat' first | exact Lim.const _ | exact h _ _ | apply Lim.cond | split
theorem evMakeSlice_lim (h : LimK K K') (t : TypeId) (a b : AV) : Lim (fun n => evMakeSlice P σ (K n) t a b) (evMakeSlice P σ K' t a b) := by
  unfold evMakeSlice; repeat' first | exact Lim.const _ | exact h _ _ | apply Lim.cond | split
theorem evLen_lim (h : LimK K K') (t : TypeId) (a : AV) : Lim (fun n => evLen P σ (K n) t a) (evLen P σ K' t a) := by
  unfold evLen; repeat' first | exact Lim.const _ | exact h _ _ | apply Lim.cond | split
theorem evAppend_lim (h : LimK K K') (t u : TypeId) (a b : AV) : Lim (fun n => evAppend P σ (K n) t u a b) (evAppend P σ K' t u a b) := by
  unfold evAppend; repeat' first | exact Lim.const _ | exact h _ _ | apply Lim.cond | split
theorem evCopy_lim (h : LimK K K') (t : TypeId) (a b : AV) : Lim (fun n => evCopy P σ (K n) t a b) (evCopy P σ K' t a b) := by
  unfold evCopy; repeat' first | exact Lim.const _ | exact h _ _ | apply Lim.cond | split
end ops
section shape
variable {R : Type} {P : Program}
theorem shR_lim {K : Nat → AV → Option R} {K' : AV → Option R} (h : ∀ a, Lim (fun n => K n a) (K' a)) (dat : Bool) (t : TypeId) (r : AV) : Lim (fun n => shR P dat t r (K n)) (shR P dat t r K') := by
  unfold shR; repeat' first | exact Lim.const _ | exact h _ | apply Lim.cond | split
theorem shRs_lim (dat : Bool) : ∀ (ts : List TypeId) (j : Nat) (rs : List AV) (K : Nat → List AV → Option R) (K' : List AV → Option R), (∀ a, Lim (fun n => K n a) (K' a)) → Lim (fun n => shRs P dat ts j rs (K n)) (shRs P dat ts j rs K')
  | [], j, rs, K, K', h => h []
  | t :: ts, j, rs, K, K', h => by
    simp only [shRs]
    exact shR_lim (K := fun n a => shRs P dat ts (j + 1) rs fun as => K n (a :: as)) (fun a => shRs_lim dat ts (j + 1) rs (fun n as => K n (a :: as)) _ fun as => h _) dat t _
theorem shOuts_lim : ∀ (ts : List (Nat × List AV)) (j : Nat) (rs : List AV) (K : Nat → List (List AV) → Option R) (K' : List (List AV) → Option R), (∀ a, Lim (fun n => K n a) (K' a)) → Lim (fun n => shOuts ts j rs (K n)) (shOuts ts j rs K')
  | [], j, rs, K, K', h => h []
  | (ty, tcs) :: ts, j, rs, K, K', h => by
    simp only [shOuts]
    split
    · rename_i t z _
      exact Lim.cond (shOuts_lim ts (j + 1) rs (fun n os => K n ([.tup [.ow false t z (avXs (rowC (cellAt rs j)))]] :: os)) _ fun os => h _) (Lim.const _)
    exact Lim.cond (shOuts_lim ts (j + 1) rs (fun n os => K n (likeV tcs 0 (obCells (cellAt rs j)) :: os)) _ fun os => h _) (Lim.const _)
end shape
abbrev LimC (call : Nat → CallT) (call' : CallT) : Prop := ∀ f as, Lim (fun n => call n f as) (call' f as)
abbrev LimI (inl : Nat → InlT) (inl' : InlT) : Prop := ∀ (R : Type) f as σ (K : Nat → List AV → Store → Option R) (K' : List AV → Store → Option R), (∀ a σ, Lim (fun n => K n a σ) (K' a σ)) → Lim (fun n => inl n R f as σ (K n)) (inl' R f as σ K')
abbrev LimL (loop : Nat → LoopT) (loop' : LoopT) : Prop := ∀ c E retK s, Lim (fun n => loop n c E retK s) (loop' c E retK s)
section call
variable {R : Type} {P : Program} {C : Cfg} {call : Nat → CallT} {call' : CallT} {inl : Nat → InlT} {inl' : InlT} {K : Nat → AV → Store → Option R} {K' : AV → Store → Option R}
theorem evCall_lim (hc : LimC call call') (hi : LimI inl inl') (h : LimK K K') (σ : Store) (f : FuncId) (args : List AV) : Lim (fun n => evCall P C (call n) (inl n) σ (K n) f args) (evCall P C call' inl' σ K' f args) := by
  unfold evCall
  split
  · exact Lim.const _
  · refine Lim.cond (Lim.const _) ?_
    split
    · unfold evUpd evRow evMv
      repeat' first | exact Lim.const _ | exact h _ _ | apply Lim.cond | split
    refine (Lim.cond (hi _ _ _ _ _ _ fun a σ => h _ _) (Lim.cond ?_ (Lim.const _)))
    split
    · exact Lim.const _
    · refine Lim.cond (Lim.const _) <| Lim.cond (Lim.const _) (Lim.bind (hc _ _) fun rs => shRs_lim _ _ _ _ _ _ fun as => shOuts_lim _ _ _ _ _ fun os => Lim.cond ?_ (Lim.const _))
      split
      · exact Lim.const _
      · split
        · exact Lim.const _
        · exact h _ _
theorem evPr_lim {σ : Store} (h : LimK K K') (g : (List Value → Bool) × (List Value → List Value)) (args : List AV) : Lim (fun n => evPr g σ (K n) args) (evPr g σ K' args) := by
  unfold evPr; repeat' first | exact Lim.const _ | exact h _ _ | apply Lim.cond | split
theorem evOp_lim (hc : LimC call call') (hi : LimI inl inl') (h : LimK K K') (o : Oper) (fr : List (Nat × AV)) (σ : Store) : Lim (fun n => evOp P C (call n) (inl n) o fr σ (K n)) (evOp P C call' inl' o fr σ K') := by
  unfold evOp
  dsimp only
  repeat' first
    | exact Lim.const _ | exact h _ _ | exact evAlloc_lim h _ | exact evBox_lim h _ _ | exact evBuild_lim h _ _ | exact evBuildSlice_lim h _ _ _ | exact evLoad_lim h _ _
    | exact evStore_lim (L := fun n σ' => K n .un σ') (fun σ => h _ _) _ _ _ | exact evBin_lim h _ _ _ _ | exact evUn_lim h _ _ | exact evMark_lim h _ _ _ | exact evConv_lim h _ _ _ | exact evSlice_lim h _ _ _ _ | exact evEat_lim h _ _ _ | exact evView_lim h _ _ _ _
    | exact evFieldAddr_lim h _ _ _ | exact evField_lim h _ _ _ | exact evIndexAddr_lim h _ _ _ _ | exact evIndex_lim h _ _ _ _ | exact evMakeSlice_lim h _ _ _ | exact evLen_lim h _ _
    | exact evAppend_lim h _ _ _ _ | exact evCopy_lim h _ _ _ | exact evCall_lim hc hi h _ _ _ | exact evPr_lim h _ _
    | apply Lim.cond | split
theorem evOps_lim (hc : LimC call call') (hi : LimI inl inl') (ops : Array Oper) : ∀ (l : List Oper) (s : St) (K : Nat → St → Option R) (K' : St → Option R), (∀ s, Lim (fun n => K n s) (K' s)) → Lim (fun n => evOps P C (call n) (inl n) ops l s (K n)) (evOps P C call' inl' ops l s K')
  | [], s, K, K', h => h s
  | o :: rest, s, K, K', h => by
    have op : ∀ fr σ dst fr', Lim (fun n => evOp P C (call n) (inl n) o fr σ fun a σ => evOps P C (call n) (inl n) ops rest ⟨putF fr' dst a, σ⟩ (K n)) (evOp P C call' inl' o fr σ fun a σ => evOps P C call' inl' ops rest ⟨putF fr' dst a, σ⟩ K') := fun fr σ dst fr' =>
      evOp_lim (K := fun n a σ => evOps P C (call n) (inl n) ops rest ⟨putF fr' dst a, σ⟩ (K n)) hc hi (fun a σ => evOps_lim hc hi ops rest _ K K' h) o fr σ
    simp only [evOps]
    repeat' first | exact Lim.const _ | exact op _ _ _ _ | exact evOps_lim hc hi ops rest _ K K' h | apply Lim.cond | split
theorem evOpsD_lim (hc : LimC call call') (hi : LimI inl inl') (ops : Array Oper) : ∀ (l : List Oper) (cls : List (List Nat)) (acc : List Trace) (s : St) (K : Nat → St → Option R) (K' : St → Option R), (∀ s, Lim (fun n => K n s) (K' s)) → Lim (fun n => evOpsD P C (call n) (inl n) ops l cls acc s (K n)) (evOpsD P C call' inl' ops l cls acc s K')
  | [], cls, acc, s, K, K', h => h s
  | o :: rest, cls, acc, s, K, K', h => by
    have op : ∀ fr σ dst fr' f lo ld, Lim (fun n => evOp P C (call n) (inl n) o fr σ fun a σ' => evOpsD P C (call n) (inl n) ops rest cls.tail (acc ++ [⟨f, lo, σ'.length, ld⟩]) ⟨putF fr' dst a, σ'⟩ (K n)) (evOp P C call' inl' o fr σ fun a σ' => evOpsD P C call' inl' ops rest cls.tail (acc ++ [⟨f, lo, σ'.length, ld⟩]) ⟨putF fr' dst a, σ'⟩ K') := fun fr σ dst fr' f lo ld =>
      evOp_lim (K := fun n a σ' => evOpsD P C (call n) (inl n) ops rest cls.tail (acc ++ [⟨f, lo, σ'.length, ld⟩]) ⟨putF fr' dst a, σ'⟩ (K n)) hc hi (fun a σ => evOpsD_lim hc hi ops rest _ _ _ K K' h) o fr σ
    simp only [evOpsD]
    repeat' first | exact Lim.const _ | exact op _ _ _ _ _ _ _ | exact evOpsD_lim hc hi ops rest _ _ _ K K' h | apply Lim.cond | split
end call
section code
variable {P : Program} {C : Cfg} {call : Nat → CallT} {call' : CallT} {inl : Nat → InlT} {inl' : InlT} {loop : Nat → LoopT} {loop' : LoopT}
theorem reenter_lim {R : Type} (T : List Nat → St) (E : LE) {K : Nat → Ex → St → Option R} {K' : Ex → St → Option R} (h : ∀ e s, Lim (fun n => K n e s) (K' e s)) (fin : List AV → Option R) (r : LR) : ∀ ids, Lim (fun n => reenter T E (K n) fin r ids) (reenter T E K' fin r ids)
  | [] => Lim.const _
  | id :: ids => by
    simp only [reenter]
    exact Lim.cond (Lim.cond (h _ _) (Lim.const _)) (reenter_lim T E h fin r ids)
theorem rollN_lim {R : Type} {step : Nat → St → (Ex → St → Option R) → Option R} {step' : St → (Ex → St → Option R) → Option R} (hs : ∀ s (K : Nat → Ex → St → Option R) (K' : Ex → St → Option R), (∀ e s, Lim (fun n => K n e s) (K' e s)) → Lim (fun n => step n s (K n)) (step' s K')) :
    ∀ (k : Nat) (s : St) (K : Nat → Ex → St → Option R) (K' : Ex → St → Option R), (∀ e s, Lim (fun n => K n e s) (K' e s)) → Lim (fun n => rollN (step n) k s (K n)) (rollN step' k s K')
  | 0, s, K, K', h => Lim.const _
  | k + 1, s, K, K', h => by
    simp only [rollN]
    refine hs s (fun n e s' => match e with | .normal => rollN (step n) k s' (K n) | e => K n e s') _ fun e s' => ?_
    cases e with
    | normal => exact rollN_lim hs k s' K K' h
    | exit i => exact h _ _
    | ret => exact h _ _
theorem evCode_lim (hc : LimC call call') (hi : LimI inl inl') (hl : LimL loop loop') (rmax : Nat) (jn : Bool) (retK : St → Option (List AV)) : ∀ (c : Code) (R : Type) (fin : List AV → Option R) (out : List Nat) (E : LE) (s : St) (K : Nat → Ex → St → Option R) (K' : Ex → St → Option R), (∀ e s, Lim (fun n => K n e s) (K' e s)) →
    Lim (fun n => evCode P C (call n) (inl n) (loop n) rmax jn retK c R fin out E s (K n)) (evCode P C call' inl' loop' rmax jn retK c R fin out E s K') := by
  intro c
  induction c with
  | skip => intro R fin out E s K K' h; exact h _ _
  | region id ops d =>
    intro R fin out E s K K' h
    simp only [evCode]
    exact Lim.cond (Lim.cond (evOpsD_lim hc hi ops _ _ _ s (fun n => K n .normal) _ fun s => h _ _) (Lim.const _)) (evOps_lim hc hi ops _ s (fun n => K n .normal) _ fun s => h _ _)
  | seq a b iha ihb =>
    intro R fin out E s K K' h
    simp only [evCode]
    refine Lim.cond (Lim.bind (iha _ _ _ _ _ (fun _ => joinK retK (live b out E) E) _ fun e s => Lim.const _) fun r => Lim.cond (Lim.cond (ihb _ _ _ _ _ K K' h) (Lim.const _)) (reenter_lim _ _ h _ _ _)) ?_
    refine iha R fin _ E s (fun n e s' => match e with | .normal => evCode P C (call n) (inl n) (loop n) rmax jn retK b R fin out E s' (K n) | e => K n e s') _ fun e s' => ?_
    cases e with
    | normal => exact ihb _ _ _ _ _ K K' h
    | exit i => exact h _ _
    | ret => exact h _ _
  | cond c a b iha ihb =>
    intro R fin out E s K K' h
    simp only [evCode]
    split
    · exact Lim.cond (iha _ _ _ _ _ K K' h) (ihb _ _ _ _ _ K K' h)
    · exact Lim.const _
  | block id c ih =>
    intro R fin out E s K K' h
    simp only [evCode]
    refine ih R fin _ _ s (fun n e s' => match e with | .exit i => bif Nat.beq i id then K n .normal s' else K n (.exit i) s' | e => K n e s') _ fun e s' => ?_
    cases e with
    | normal => exact h _ _
    | exit i => exact Lim.cond (h _ _) (h _ _)
    | ret => exact h _ _
  | loop c ih =>
    intro R fin out E s K K' h
    simp only [evCode]
    refine Lim.cond (rollN_lim (step := fun n s K => evCode P C (call n) (inl n) (loop n) rmax jn retK c R fin (keepL c E) E s K) (fun s K K' h => ih _ _ _ _ s K K' h) _ s K K' h) (Lim.bind (hl _ _ _ _) fun r => reenter_lim _ _ h _ _ _)
  | exit id => intro R fin out E s K K' h; exact h _ _
  | ret => intro R fin out E s K K' h; exact h _ _
  | _ => intro R fin out E s K K' h; exact Lim.const _
theorem inlBody_lim (hc : LimC call call') (hi : LimI inl inl') : LimI (fun n R f as σ K => inlBody P C (call n) (inl n) R f as σ K) (fun R f as σ K => inlBody P C call' inl' R f as σ K) := by
  intro R f as σ K K' h
  simp only [inlBody]
  split
  · exact Lim.const _
  · rename_i fn hfn
    split
    · refine Lim.cond (Lim.const _) (evCode_lim (loop := fun _ _ _ _ _ => none) hc hi (fun _ _ _ _ => Lim.const _) 0 false _ _ R _ _ _ _ (fun n e s => match e with | .exit _ => none | _ => match resVals P s fn.results.toList with | none => none | some vs => K n vs s.bl) _ fun e s => ?_)
      cases e with
      | exit i => exact Lim.const _
      | normal =>
        generalize resVals P s fn.results.toList = z
        cases z with
        | none => exact Lim.const _
        | some vs => exact h vs s.bl
      | ret =>
        generalize resVals P s fn.results.toList = z
        cases z with
        | none => exact Lim.const _
        | some vs => exact h vs s.bl
    · exact Lim.const _
theorem inlD_lim (hc : LimC call call') : ∀ k, LimI (fun n => inlD P C (call n) k) (inlD P C call' k)
  | 0 => fun R f as σ K K' h => Lim.const _
  | k + 1 => fun R f as σ K K' h => inlBody_lim (inl := fun n => inlD P C (call n) k) hc (inlD_lim hc k) R f as σ K K' h
def evBodyG (P : Program) (C : Cfg) (call : CallT) (inl : InlT) (loop : LoopT) (f : FuncId) (args : List AV) : Option (List AV) :=
  match P.funcs[f]? with
  | none => none
  | some fn =>
    match fn.body, impArgs [] args with
    | some c, some (vs, σ, roots) =>
      bif !(dstOk fn.ntmps c && Nat.ble args.length fn.ntmps && Nat.ble fn.ntmps 1000000 && Nat.beq fn.results.size fn.resultTypes.size) then none else
      let retK := retOuts P C f fn roots.length
      evCode P C call inl loop (C.roll f) (C.join f) retK c (List AV) some (retLive fn) ⟨[], retLive fn⟩
        ⟨startFr 0 vs ++ startFr 1000000 roots, σ⟩ fun e s =>
          match e with
          | .exit _ => none
          | _ => retK s
    | _, _ => none
theorem evBodyG_lim (hc : LimC call call') (hi : LimI inl inl') (hl : LimL loop loop') (f : FuncId) (args : List AV) : Lim (fun n => evBodyG P C (call n) (inl n) (loop n) f args) (evBodyG P C call' inl' loop' f args) := by
  unfold evBodyG
  split
  · exact Lim.const _
  · split
    · exact Lim.cond (Lim.const _) (evCode_lim hc hi hl _ _ _ _ _ _ _ _ _ (fun _ e s => match e with | .exit _ => none | _ => retOuts P C f _ _ s) _ fun e s => Lim.const _)
    · exact Lim.const _
def evRound (P : Program) (C : Cfg) (call : CallT) (inl : InlT) (loop : LoopT) (rmax : Nat) (jn : Bool) : LoopT := fun c E retK s =>
  evCode P C call inl loop rmax jn retK c LR (fun outs => some ⟨none, ⟨[], []⟩, outs⟩) (keepL c E) E s fun e s' =>
    match e with
    | .normal => loop c E retK (canon (keepL c E) s')
    | .exit id => some ⟨some id, canon (lookL E.blk id) s', []⟩
    | .ret => (retK s').bind fun outs => some ⟨none, ⟨[], []⟩, outs⟩
theorem evRound_lim (hc : LimC call call') (hi : LimI inl inl') (hl : LimL loop loop') (rmax : Nat) (jn : Bool) : LimL (fun n => evRound P C (call n) (inl n) (loop n) rmax jn) (evRound P C call' inl' loop' rmax jn) := by
  intro c E retK s
  unfold evRound
  refine evCode_lim hc hi hl rmax jn retK c LR _ _ E s (fun n e s' => match e with
    | .normal => loop n c E retK (canon (keepL c E) s')
    | .exit id => some ⟨some id, canon (lookL E.blk id) s', []⟩
    | .ret => (retK s').bind fun outs => some ⟨none, ⟨[], []⟩, outs⟩) _ fun e s' => ?_
  cases e with
  | normal => exact hl _ _ _ _
  | exit i => exact Lim.const _
  | ret => exact Lim.const _
end code
section whole
variable (P : Program) (C : Cfg)
def LeC (c d : CallT) : Prop := ∀ f as, Le (c f as) (d f as)
def LeL (c d : LoopT) : Prop := ∀ a b e s, Le (c a b e s) (d a b e s)
variable {P C}
theorem le_of_two {α : Type} {x y : Option α} {a : Nat → Option α} (h : Lim a y) (e : a 0 = x) : Le x y := fun r hr => h.up 0 r (e.trans hr)
theorem round_le {c d : CallT} (h : LeC c d) {l k : LoopT} (hl : LeL l k) (rmax : Nat) (jn : Bool) : LeL (evRound P C c (inlD P C c 5) l rmax jn) (evRound P C d (inlD P C d 5) k rmax jn) := fun a b e s => by
  have hc : LimC (fun n f as => two (c f as) (d f as) n) d := fun f as => lim_two (h f as)
  have := evRound_lim (P := P) (C := C) (loop := fun n a b e s => two (l a b e s) (k a b e s) n) hc (inlD_lim (P := P) (C := C) hc 5) (fun a b e s => lim_two (hl a b e s)) rmax jn a b e s
  exact le_of_two this rfl
theorem body_le {c d : CallT} (h : LeC c d) {l k : LoopT} (hl : LeL l k) : LeC (evBodyG P C c (inlD P C c 5) l) (evBodyG P C d (inlD P C d 5) k) := fun f as => by
  have hc : LimC (fun n f as => two (c f as) (d f as) n) d := fun f as => lim_two (h f as)
  have := evBodyG_lim (P := P) (C := C) (loop := fun n a b e s => two (l a b e s) (k a b e s) n) hc (inlD_lim (P := P) (C := C) hc 5) (fun a b e s => lim_two (hl a b e s)) f as
  exact le_of_two this rfl
theorem loop_le {c d : CallT} (h : LeC c d) (rmax : Nat) (jn : Bool) : ∀ n m, n ≤ m → LeL (evLoop P C c (inlD P C c 5) rmax jn n) (evLoop P C d (inlD P C d 5) rmax jn m)
  | 0, _, _ => fun _ _ _ _ _ e => by cases e
  | n + 1, 0, hl => by omega
  | n + 1, m + 1, hl => round_le h (loop_le h rmax jn n m (by omega)) rmax jn
theorem top_le {f : FuncId} {as : List AV} {x y : Option (List AV)} (h : Le x y) : Le (evTop C f as x) (evTop C f as y) := by
  unfold evTop; split
  · exact fun r hr => hr
  · exact h
theorem top_lim {f : FuncId} {as : List AV} {x : Nat → Option (List AV)} {y : Option (List AV)} (h : Lim x y) : Lim (fun n => evTop C f as (x n)) (evTop C f as y) := by
  unfold evTop; split
  · exact Lim.const _
  · exact h
theorem evF_step (n : Nat) (f : FuncId) (as : List AV) : evF P C (n + 1) f as = evTop C f as (evBodyG P C (evF P C n) (inlD P C (evF P C n) 5) (evLoop P C (evF P C n) (inlD P C (evF P C n) 5) (C.roll f) (C.join f) n) f as) := rfl
theorem evF_le : ∀ n, LeC (evF P C n) (evF P C (n + 1))
  | 0 => fun _ _ _ e => by cases e
  | n + 1 => fun f as => by
    rw [evF_step n, evF_step (n + 1)]
    exact top_le (body_le (evF_le n) (loop_le (evF_le n) _ _ n (n + 1) (by omega)) f as)
theorem evF_mono {n m : Nat} (h : n ≤ m) : LeC (evF P C n) (evF P C m) := by
  induction m with
  | zero => obtain rfl : n = 0 := by omega
            exact fun _ _ _ h => h
  | succ m ih =>
    by_cases e : n = m + 1
    · subst e; exact fun _ _ _ h => h
    · exact fun f as r hr => evF_le m f as r (ih (by omega) f as r hr)
variable (P C)
noncomputable def evL : CallT := fun f as => lim fun n => evF P C n f as
noncomputable def loopL (f : FuncId) : LoopT := fun c E retK s => lim fun n => evLoop P C (evF P C n) (inlD P C (evF P C n) 5) (C.roll f) (C.join f) n c E retK s
noncomputable def lpL (f k nr : Nat) (s : St) : Option LR := loopL P C f (loopAt P f k).1 (loopAt P f k).2 (retAt P C f nr) s
variable {P C}
theorem evL_lim : LimC (evF P C) (evL P C) := fun f as => lim_lim fun _ _ r h e => evF_mono h f as r e
theorem loopL_lim (f : FuncId) : LimL (fun n => evLoop P C (evF P C n) (inlD P C (evF P C n) 5) (C.roll f) (C.join f) n) (loopL P C f) := fun c E retK s =>
  lim_lim fun n m r h e => loop_le (evF_mono h) _ _ n m h c E retK s r e
theorem loopL_lim' (f : FuncId) : LimL (fun n => evLoop P C (evF P C (n + 1)) (inlD P C (evF P C (n + 1)) 5) (C.roll f) (C.join f) n) (loopL P C f) := fun c E retK s =>
  (loopL_lim f c E retK s).squeeze (fun n m r h e => loop_le (evF_mono (by omega)) _ _ n m h c E retK s r e) (fun n r e => loop_le (evF_le n) _ _ n n (Nat.le_refl n) c E retK s r e)
    (fun n r e => loop_le (fun _ _ _ h => h) _ _ n (n + 1) (by omega) c E retK s r e)
theorem evL_eq (f : FuncId) (as : List AV) : evL P C f as = evTop C f as (evBodyG P C (evL P C) (inlD P C (evL P C) 5) (loopL P C f) f as) :=
  ((evL_lim f as).shift).unique (top_lim (evBodyG_lim evL_lim (inlD_lim evL_lim 5) (loopL_lim f) f as))
theorem loopL_eq (f : FuncId) (c : Code) (E : LE) (retK : St → Option (List AV)) (s : St) : loopL P C f c E retK s = evRound P C (evL P C) (inlD P C (evL P C) 5) (loopL P C f) (C.roll f) (C.join f) c E retK s :=
  ((loopL_lim f c E retK s).shift).unique (evRound_lim (call := fun n => evF P C (n + 1)) (loop := fun n => evLoop P C (evF P C (n + 1)) (inlD P C (evF P C (n + 1)) 5) (C.roll f) (C.join f) n)
    (fun f as => (evL_lim f as).shift) (inlD_lim (fun f as => (evL_lim f as).shift) 5) (loopL_lim' f) (C.roll f) (C.join f) c E retK s)
theorem evF_of_evL {f : FuncId} {as r : List AV} (h : evL P C f as = some r) : ∃ n, evF P C n f as = some r := (evL_lim f as).down r h
variable (P C)
noncomputable def callX : CallT := fun f as => evTop C f as (evL P C f as)
variable {P C}
theorem callX_eq : callX P C = evL P C := by
  funext f as
  unfold callX
  rw [evL_eq]
  unfold evTop
  split <;> rfl
theorem evL_eqX (f : FuncId) (as : List AV) : evL P C f as = evTop C f as (evBodyG P C (callX P C) (inlD P C (callX P C) 5) (loopL P C f) f as) := by
  rw [callX_eq]; exact evL_eq f as
theorem loopL_eqX (f : FuncId) (c : Code) (E : LE) (retK : St → Option (List AV)) (s : St) : loopL P C f c E retK s = evRound P C (callX P C) (inlD P C (callX P C) 5) (loopL P C f) (C.roll f) (C.join f) c E retK s := by
  rw [callX_eq]; exact loopL_eq f c E retK s
end whole
end Go.Ev
