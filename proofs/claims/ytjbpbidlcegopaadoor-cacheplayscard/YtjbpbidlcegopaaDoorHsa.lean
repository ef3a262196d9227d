/- btree.Node: what its functions answer. -/
import Derived.Test.YtjbpbidlcegopaaDoorEqH
import Derived.Test.YtjbpbidlcegopaaDoorEv10
import Derived.Laws.BitsAllLaws
set_option linter.all false
namespace Go.Proofs.YtjbpbidlcegopaaDoor.H
open Go.Ev
theorem cT {α : Type} {c : Bool} {A B : α} {r : α} (h : c = true) (h2 : A = r) : cond c A B = r := by rw [h]; exact h2
theorem cF {α : Type} {c : Bool} {A B : α} {r : α} (h : c = false) (h2 : B = r) : cond c A B = r := by rw [h]; exact h2
theorem bits_or_comm (k : IntKind) (x y : Int) : bits .or k x y = bits .or k y x := by simp [bits, BitVec.or_comm]
theorem and_bit (i : Nat) (hi : i < 32) (x : Int) (h0 : 0 ≤ x) (h1 : x < 4294967296) : bits .and .u32 x (2 ^ i) = x / 2 ^ i % 2 * 2 ^ i := by
  obtain ⟨a, rfl⟩ := Int.eq_ofNat_of_zero_le h0
  have h2 : (2 : Nat) ^ i < 2 ^ 32 := Nat.pow_lt_pow_right (by decide) hi
  have := (bits_nat .u32 32 (by decide) wraps_u32 a (2 ^ i) (by omega) h2).1
  rw [show ((2 : Int) ^ i) = ((2 ^ i : Nat) : Int) by simp, this, nat_bit]
  simp
structure En where
  k : Int
  l : Int
  g : Int
def En.row (e : En) : List AV := [.v (.int .u32 e.k), .v (.int .i64 e.l), .v (.int .i64 e.g)]
def En.of (w : Int) : En := ⟨w / 4294967296, w % 4294967296 % 256, w % 4294967296 / 256⟩
def vpB (l g : Int) : Bool := leI 104 l && (ltI l 256 && (leI 1 g && leI g 16777215))
theorem s64 (l g : Int) : ev 64 [.agg [.v (.int .i64 l), .v (.int .i64 g)]] = some [.v (.bool (vpB l g))] := by
  have h67 : ev 67 [.v (.int .i64 l)] = some [.v (.bool (leI 104 l && ltI l 256))] := by
    rw [ev67]; cases leI 104 l <;> rfl
  rw [ev64]
  refine bnd h67 (cT rfl ?_)
  show cond (leI 104 l && ltI l 256) _ _ = _
  unfold vpB
  cases leI 104 l <;> cases ltI l 256 <;> cases leI 1 g <;> rfl
theorem s57 (w : Int) (h0 : 0 ≤ w) (h1 : w < 4294967296) : ev 57 [.v (.int .u32 w)] = some [.agg [.v (.int .i64 (w % 256)), .v (.int .i64 (w / 256))]] := by
  rw [ev57, and_u32 8 (by decide) w 255 (by decide) h0 h1, fdiv_pos _ _ (by decide)]
  rw [show IntKind.i64.wrap (w % 2 ^ 8) = w % 256 by rw [w_i64]; omega, show IntKind.i64.wrap (w / 256) = w / 256 by rw [w_i64]; omega]
theorem s48 (w : Int) (h : u64ok w) : ev 48 [.v (.int .u64 w)] = some [.agg [.v (.int .i64 (w % 256)), .v (.int .i64 (w / 256 % 16777216)), .v (.int .u32 (w / 4294967296))]] := by
  obtain ⟨h0, h1⟩ := h
  rw [ev48, and_u64 8 (by decide) w 255 (by decide) h0 (by omega), fdiv_pos _ _ (by decide), fdiv_pos _ _ (by decide), and_u64 24 (by decide) (w / 256) 16777215 (by decide) (by omega) (by omega)]
  rw [show IntKind.i64.wrap (w % 2 ^ 8) = w % 256 by rw [w_i64]; omega, show IntKind.i64.wrap (w / 256 % 2 ^ 24) = w / 256 % 16777216 by rw [w_i64]; omega, show IntKind.u32.wrap (w / 4294967296) = w / 4294967296 by rw [w_u32]; omega]
def pk (l g : Int) : Int := bif vpB l g then g * 256 + l else 0
theorem vpB_iff {l g : Int} : vpB l g = true ↔ 104 ≤ l ∧ l < 256 ∧ 1 ≤ g ∧ g ≤ 16777215 := by
  simp [vpB, leI, ltI]
theorem s66 (l g : Int) : ev 66 [.agg [.v (.int .i64 l), .v (.int .i64 g)]] = some [.v (.int .u32 (pk l g))] := by
  rw [ev66]
  refine bnd (s64 l g) (cT rfl ?_)
  show cond (!vpB l g) _ _ = _
  unfold pk
  cases h : vpB l g with
  | false => rfl
  | true =>
    obtain ⟨h1, h2, h3, h4⟩ := vpB_iff.1 h
    refine cF rfl ?_
    rw [w_u32 l, w_u32 g, w_u32, or_u32 8 _ _ (by omega) (by omega) (by omega) (by omega) (by omega) (by omega)]
    show some [AV.v (Value.int .u32 (g % 4294967296 * 256 % 4294967296 + l % 4294967296))] = some [AV.v (Value.int .u32 (g * 256 + l))]
    congr 4
    omega
theorem s65 (k g a : Int) (hk : 0 ≤ k ∧ k < 256) (hg : 0 ≤ g ∧ g < 16777216) (ha : 0 ≤ a ∧ a < 4294967296) : ev 65 [.agg [.v (.int .i64 k), .v (.int .i64 g), .v (.int .u32 a)]] = some [.v (.int .u64 (k + g * 256 + a * 4294967296))] := by
  have e1 : IntKind.u64.wrap k = k := by rw [w_u64]; omega
  have e2 : IntKind.u64.wrap g = g := by rw [w_u64]; omega
  have e3 : IntKind.u64.wrap a = a := by rw [w_u64]; omega
  have e4 : IntKind.u64.wrap (g * 256) = g * 256 := by rw [w_u64]; omega
  have e5 : IntKind.u64.wrap (a * 4294967296) = a * 4294967296 := by rw [w_u64]; omega
  rw [ev65, e1, e2, e3, and_u64 8 (by decide) k 255 (by decide) (by omega) (by omega), and_u64 24 (by decide) g 16777215 (by decide) (by omega) (by omega)]
  rw [show k % 2 ^ 8 = k by omega, show g % 2 ^ 24 = g by omega, e4, e5]
  rw [bits_or_comm .u64 k, or_u64 8 (g * 256) k (by omega) (by omega) (by omega) (by omega) (by omega) (by omega)]
  rw [bits_or_comm .u64 (g * 256 + k), or_u64 32 (a * 4294967296) (g * 256 + k) (by omega) (by omega) (by omega) (by omega) (by omega) (by omega)]
  rw [show a * 4294967296 + (g * 256 + k) = k + g * 256 + a * 4294967296 by omega]
theorem row_at {α : Type} {f : α → List AV} {ps done rest : List α} {p : α} (h : ps = done ++ p :: rest) : lget (ps.map f) (Int.toNat ((done.length : Nat) : Int)) = f p := by
  rw [Int.toNat_natCast, lget_map _ _ _ (by rw [h]; simp)]
  subst h
  simp
theorem len_at {α : Type} {f : α → List AV} {ps done rest : List α} {p : α} (h : ps = done ++ p :: rest) : done.length < (ps.map f).length := by subst h; simp
theorem next_at {α : Type} {done : List α} {p : α} (h : done.length ≤ 1000000) : IntKind.i64.wrap (((done.length : Nat) : Int) + 1) = (((done ++ [p]).length : Nat) : Int) := by rw [w_i64, List.length_append, List.length_singleton]; omega
def risB : Int → List En → Bool
  | _, [] => true
  | last, e :: r => !(leI e.k last) && (vpB e.l e.g && risB e.k r)
theorem l63 (f : Bool) (es : List En) (hlen : es.length ≤ 1000) : ∀ (rest done : List En) (last : Int), es = done ++ rest →
    lp 63 0 0 ⟨[(3, .v (.int .u32 last)), (6, .lst f 3 (es.map En.row)), (7, .v (.int .i64 (((es.map En.row).length : Nat) : Int))), (8, .v (.int .i64 ((done.length : Nat) : Int)))], []⟩ = some (bif risB last rest then ⟨some 0, ⟨[], []⟩, []⟩ else ⟨none, ⟨[], []⟩, [.v (.bool false)]⟩)
  | [], done, last, h => by
    rw [lp63_0]
    exact cF (ltI_f (by rw [List.length_map, h, List.append_nil]; omega)) rfl
  | e :: rest, done, last, h => by
    have hl := len_at (f := En.row) h
    have ih := l63 f es hlen rest (done ++ [e]) e.k (by rw [h]; simp)
    rw [lp63_0, row_at h]
    refine cT (ltI_t (by omega)) (cT (by rw [leI_t (by omega), ltI_t (by omega)]; rfl) (cT rfl ?_))
    show cond (leI e.k last) _ _ = some (bif !(leI e.k last) && (vpB e.l e.g && risB e.k rest) then _ else _)
    cases leI e.k last with
    | true => rfl
    | false =>
      refine cF rfl (bnd (s64 e.l e.g) (cT rfl ?_))
      show cond (!vpB e.l e.g) _ _ = _
      cases vpB e.l e.g with
      | false => rfl
      | true =>
        refine cF rfl ?_
        rw [next_at (by rw [List.length_map] at hl; omega)]
        exact ih
theorem s63 (f : Bool) (es : List En) (hlen : es.length ≤ 1000) : ev 63 [.lst f 3 (es.map En.row)] = some [.v (.bool (risB 0 es))] := by
  rw [ev63]
  refine bnd (l63 f es hlen es [] 0 rfl) ?_
  cases risB 0 es with
  | true => exact cT rfl (cT rfl rfl)
  | false => exact cF rfl (cT rfl rfl)
def lastK (es : List En) : Int := match es.getLast? with | some e => e.k | none => 0
def v58 (lvl : Int) (lm dd : Bool) (hi rl rg : Int) (es : List En) : Bool :=
  bif ltI lvl 0 then false else bif ltI 8 lvl then false else bif ltI 5 ((es.length : Nat) : Int) then false else
  bif !(risB 0 es) then false else bif hi == 0 then false else bif !((rl == 0) && (rg == 0)) && !(vpB rl rg) then false else
  bif !((hi == 4294967295) == ((rl == 0) && (rg == 0))) then false else
  bif ltI 0 lvl then !dd && (lastK es == hi) else
  bif dd && (ltI 0 ((es.length : Nat) : Int) || (lm || ((rl == 0) && (rg == 0)))) then false else leI (lastK es) hi && leI (lastK es) 4294967294
theorem s58 (lvl : Int) (lm dd : Bool) (hi rl rg : Int) (f : Bool) (es : List En) (hlen : es.length ≤ 1000) (hhi : 0 ≤ hi) :
    ev 58 [.agg [.v (.int .i64 lvl), .v (.bool lm), .v (.bool dd), .v (.int .u32 hi), .v (.int .i64 rl), .v (.int .i64 rg), .lst f 3 (es.map En.row)]] = some [.v (.bool (v58 lvl lm dd hi rl rg es))] := by
  rw [ev58, s63 f es hlen, s64]
  simp only [List.length_map, Option.bind_some, cellAt_zero, isB_v, avBool_v, cond_true]
  unfold v58
  cases h1 : ltI lvl 0 with
  | true => rfl
  | false =>
  cases h2 : ltI 8 lvl with
  | true => rfl
  | false =>
  cases h3 : ltI 5 ((es.length : Nat) : Int) with
  | true => rfl
  | false =>
  cases h4 : risB 0 es with
  | false => rfl
  | true =>
  cases h5 : (hi == 0) with
  | true => rfl
  | false =>
  rcases List.eq_nil_or_concat es with rfl | ⟨init, e, rfl⟩
  · have e0 : ltI 0 ((([] : List En).length : Nat) : Int) = false := by decide
    have e1 : lastK [] = 0 := rfl
    have e2 : leI 0 hi = true := leI_t hhi
    have e3 : leI 0 4294967294 = true := by decide
    rw [e0, e1, e2, e3]
    cases ((rl == 0) && (rg == 0)) <;> cases vpB rl rg <;> cases (hi == 4294967295) <;> cases ltI 0 lvl <;> cases dd <;> cases lm <;> rfl
  · rw [List.concat_eq_append] at *
    have e0 : ltI 0 (((init ++ [e]).length : Nat) : Int) = true := ltI_t (by simp)
    have e1 : lastK (init ++ [e]) = e.k := by simp [lastK]
    have ew : IntKind.i64.wrap ((((init ++ [e]).length : Nat) : Int) - 1) = ((init.length : Nat) : Int) := by
      rw [w_i64]; simp at hlen ⊢; omega
    have e2 : lget ((init ++ [e]).map En.row) (Int.toNat ((init.length : Nat) : Int)) = e.row := row_at (ps := init ++ [e]) rfl
    have e3 : (leI 0 ((init.length : Nat) : Int) && ltI ((init.length : Nat) : Int) (((init ++ [e]).length : Nat) : Int)) = true := by
      rw [leI_t (by omega), ltI_t (by simp; omega)]; rfl
    rw [e0, e1, ew, e2, e3]
    show _ = _
    have e4 : isI .u32 (cellAt e.row 0) = true := rfl
    have e5 : avInt (cellAt e.row 0) = e.k := rfl
    rw [e4, e5]
    cases ((rl == 0) && (rg == 0)) <;> cases vpB rl rg <;> cases (hi == 4294967295) <;> cases ltI 0 lvl <;> cases dd <;> cases lm <;> cases leI e.k hi <;> rfl
def wordE (e : En) : Int := e.k * 4294967296 + pk e.l e.g
def fillW : Nat → List En → (Nat → Int) → Nat → Int
  | _, [], wd => wd
  | i, e :: r, wd => fillW (i + 1) r (fun k => bif Nat.beq (2 + i) k then wordE e else wd k)
def wst (l h : Int) (wd : Nat → Int) : Blk := ⟨1, 42, 9, true, [[.v (.int .i64 l), .v (.int .u64 h), .v (.int .u64 (wd 0)), .v (.int .u64 (wd 1)), .v (.int .u64 (wd 2)), .v (.int .u64 (wd 3)), .v (.int .u64 (wd 4)), .v (.int .u64 (wd 5)), .v (.int .u64 (wd 6))]]⟩
theorem pk_ok (l g : Int) : 0 ≤ pk l g ∧ pk l g < 4294967296 := by
  unfold pk
  cases h : vpB l g with
  | false => exact ⟨Int.le_refl 0, show (0 : Int) < 4294967296 by decide⟩
  | true =>
    obtain ⟨h1, h2, h3, h4⟩ := vpB_iff.1 h
    show 0 ≤ g * 256 + l ∧ g * 256 + l < 4294967296
    omega
theorem l59 (f : Bool) (l h : Int) (es : List En) (hlen : es.length ≤ 5) (hk : ∀ e ∈ es, 0 ≤ e.k ∧ e.k < 4294967296) : ∀ (rest done : List En) (wd : Nat → Int), es = done ++ rest →
    lp 59 0 0 ⟨[(3, .ptr 0 0 0), (4, .ptr 1 0 0), (48, .lst f 3 (es.map En.row)), (49, .v (.int .i64 (((es.map En.row).length : Nat) : Int))), (50, .v (.int .i64 ((done.length : Nat) : Int)))], [wst l h wd, wst 0 0 fun _ => 0]⟩ =
      some ⟨some 0, ⟨[(3, .ptr 0 0 0), (4, .ptr 1 0 0)], [wst l h (fillW done.length rest wd), wst 0 0 fun _ => 0]⟩, []⟩
  | [], done, wd, he => by
    show lp 59 0 0 ⟨_, [⟨1, 42, 9, true, [[_, _, _, _, _, _, _, _, _]]⟩, ⟨1, 42, 9, true, [[_, _, _, _, _, _, _, _, _]]⟩]⟩ = _
    rw [lp59_0]
    exact cF (ltI_f (by rw [List.length_map, he, List.append_nil]; omega)) rfl
  | e :: rest, done, wd, he => by
    have hl := len_at (f := En.row) he
    have hd : done.length ≤ 4 := by rw [List.length_map] at hl; omega
    obtain ⟨hk0, hk1⟩ := hk e (by rw [he]; simp)
    obtain ⟨hp0, hp1⟩ := pk_ok e.l e.g
    have ih := l59 f l h es hlen hk rest (done ++ [e]) (fun k => bif Nat.beq (2 + done.length) k then wordE e else wd k) (by rw [he]; simp)
    have hw : IntKind.i64.wrap (2 + ((done.length : Nat) : Int)) = ((2 + done.length : Nat) : Int) := by rw [w_i64]; omega
    have ev1 : bits .or .u64 (IntKind.u64.wrap (IntKind.u64.wrap e.k * 4294967296)) (IntKind.u64.wrap (pk e.l e.g)) = wordE e := by
      have a1 : IntKind.u64.wrap e.k = e.k := by rw [w_u64]; omega
      have a2 : IntKind.u64.wrap (e.k * 4294967296) = e.k * 4294967296 := by rw [w_u64]; omega
      have a3 : IntKind.u64.wrap (pk e.l e.g) = pk e.l e.g := by rw [w_u64]; omega
      rw [a1, a2, a3, or_u64 32 _ _ (by omega) (by omega) (by omega) (by omega) (by omega) (by omega)]
      rfl
    show lp 59 0 0 ⟨_, [⟨1, 42, 9, true, [[_, _, _, _, _, _, _, _, _]]⟩, ⟨1, 42, 9, true, [[_, _, _, _, _, _, _, _, _]]⟩]⟩ = _
    rw [lp59_0, row_at he, hw]
    refine cT (ltI_t (by omega)) (cT (by rw [leI_t (by omega), ltI_t (by omega)]; rfl) (cT rfl (bnd (s66 e.l e.g) (cT rfl (cT (by rw [leI_t (by omega), ltI_t (by omega)]; rfl) ?_)))))
    rw [next_at (p := e) (by omega)]
    have e6 : avInt (cellAt e.row 0) = e.k := rfl
    have e7 : ∀ x : Int, avInt (cellAt [AV.v (Value.int .u32 x)] 0) = x := fun _ => rfl
    rw [e6, e7, ev1, Int.toNat_natCast]
    rw [List.length_append, List.length_singleton] at ih
    rw [List.length_append, List.length_singleton]
    exact ih
end Go.Proofs.YtjbpbidlcegopaaDoor.H
