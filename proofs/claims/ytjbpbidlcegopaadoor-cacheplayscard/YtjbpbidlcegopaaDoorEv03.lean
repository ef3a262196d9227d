/- Operations that look at their operands alone. -/
import Derived.Laws.StructEq
import Derived.ChangeKeysEq
import Derived.Test.YtjbpbidlcegopaaDoorEv02
set_option linter.all false
namespace Go.Ev
variable [Gl]
section
variable {P : Program} {μ : Mu} {ρ : Rho}
theorem VR.v_eq {x y : Value} (h : VR μ ρ (.v x) y) : y = x := by
  cases h with
  | c hx => cases hx with | d hd => cases hd; rfl
  | sk => rfl
theorem VR.ofOk {x : Value} (h : okC (.v x) = true) : VR μ ρ (.v x) x := .c (.d (.v h))
theorem VR.int (k : IntKind) (n : Int) : VR μ ρ (.v (.int k n)) (.int k n) := .c (.d (.v rfl))
theorem VR.bool (b : Bool) : VR μ ρ (.v (.bool b)) (.bool b) := .c (.d (.v rfl))
theorem VR.str (s : ByteArray) : VR μ ρ (.v (.string s)) (.string s) := .c (.d (.v rfl))
theorem ofC_ok {v : Value} (h : okC (.v v) = true) : CR μ ρ (ofC v) v := by
  unfold ofC
  split
  · exact .d (.lst (xs := []) (fun _ _ => undef) rfl (fun _ => ⟨rfl, rfl⟩) (Nat.le_refl 0) (fun e he => by cases he) (fun a ha => by cases ha) (fun i e j u he => by simp at he))
  · exact .d (.v h)
theorem ofV_sound (v : Value) : VR μ ρ (ofV v) v := by
  unfold ofV
  split
  · rename_i cs
    cases hc : cs.toList.all fun c => okC (.v c) with
    | false => exact .un
    | true =>
      simp only [cond]
      have : (Value.agg cs) = .agg cs.toList.toArray := by simp
      rw [this]
      refine .agg ⟨by simp, fun k u v hu hv => ?_⟩
      simp only [List.getElem?_map] at hu
      rw [hv] at hu
      simp only [Option.map_some, Option.some.injEq] at hu
      subst hu
      exact ofC_ok (List.all_eq_true.1 hc _ (List.mem_of_getElem? hv))
  · exact .un
  · rename_i x h1 h2
    exact .c (ofC_ok (by cases v <;> first | rfl | exact absurd rfl (h1 _) | exact absurd rfl (h2 _)))
theorem run_isAgg {t : TypeId} {d : TypeDesc} (h : P.underlying t = some d) (w : World) : (Go.isAgg t).run P w = .ok (aggT P t) w := by
  simp only [Go.isAgg, Sem.run_bind, run_underlying h, Result.andThen_ok, aggT, h]
  cases d <;> rfl
theorem run_sizeOf' {t : TypeId} (h : (P.info? t).isSome = true) (w : World) : (sizeOf t).run P w = .ok (P.cellsOf t) w := by
  cases hi : P.info? t with
  | none => rw [hi] at h; cases h
  | some i => simp [sizeOf, typeInfo, hi, Program.cellsOf]
theorem tyL_spec {t : TypeId} (h : tyL P t = true) : (∃ d, P.underlying t = some d) ∧ (cks P t).length = P.cellsOf t ∧ (aggT P t = true ∨ P.cellsOf t = 1) ∧ (P.info? t).isSome = true := by
  simp only [tyL, Bool.and_eq_true, Bool.or_eq_true] at h
  obtain ⟨⟨⟨h1, h2⟩, h3⟩, h4⟩ := h
  refine ⟨Option.isSome_iff_exists.1 h1, Nat.eq_of_beq_eq_true h2, h3.imp id Nat.eq_of_beq_eq_true, h4⟩
theorem CRs.sub {cs : List AV} {vs : List Value} (h : CRs μ ρ cs vs) (o n : Nat) : CRs μ ρ ((cs.drop o).take n) ((vs.drop o).take n) := by
  refine ⟨by simp [h.1], fun k u v hu hv => ?_⟩
  simp only [List.getElem?_take] at hu hv
  split at hu
  · rename_i hk
    simp only [hk, if_true, List.getElem?_drop] at hu hv
    exact h.2 _ u v hu hv
  · cases hu
theorem mkV_sound {t : TypeId} (ht : tyL P t = true) {cs : List AV} {vs : List Value} (h : CRs μ ρ cs vs) (hl : cs.length = P.cellsOf t) :
    VR μ ρ (mkV (aggT P t) cs) (bif aggT P t then .agg vs.toArray else vs.headD undef) := by
  cases hc : aggT P t with
  | true => exact .agg h
  | false =>
    have h1 : P.cellsOf t = 1 := by
      rcases (tyL_spec ht).2.2.1 with e | e
      · rw [hc] at e; cases e
      · exact e
    match cs, vs, h, hl with
    | [c], [v], h, _ => exact .c (h.2 0 c v rfl rfl)
    | [], _, _, hl => rw [h1] at hl; cases hl
    | _ :: _ :: _, _, _, hl => rw [h1] at hl; simp at hl
    | [c], [], h, _ => exact absurd h.1 (by simp)
    | [c], _ :: _ :: _, h, _ => exact absurd h.1 (by simp)
theorem run_part {t : TypeId} (ht : tyL P t = true) (cs : List Value) (off : Nat) (h : off + P.cellsOf t ≤ cs.length) (w : World) :
    (part t cs.toArray off).run P w = .ok (bif aggT P t then .agg ((cs.drop off).take (P.cellsOf t)).toArray else ((cs.drop off).take (P.cellsOf t)).headD undef) w := by
  obtain ⟨⟨d, hd⟩, _, h2, h3⟩ := tyL_spec ht
  simp only [part, Sem.run_bind, run_isAgg hd, Result.andThen_ok]
  cases hc : aggT P t with
  | true =>
    simp only [if_true, Sem.run_bind, run_sizeOf' h3, Result.andThen_ok, Sem.run_pure, cond]
    congr 2
    apply Array.ext'
    simp [List.extract_eq_take_drop]
  | false =>
    rcases h2 with e | e
    · rw [hc] at e; cases e
    rw [e] at h ⊢
    simp only [Bool.false_eq_true, if_false, cond, List.getElem?_toArray]
    rw [List.getElem?_eq_getElem (by omega)]
    simp only [Sem.run_pure]
    congr 1
    rw [List.headD_eq_head?_getD, List.head?_take]
    simp [List.head?_drop, List.getElem?_eq_getElem (show off < cs.length by omega)]
theorem run_eqGuard {op : BinOp} {t : TypeId} {x y : Operand} {a b : Value} (w : World) (h : ∀ c, a ≠ .agg c) (h' : a ≠ .nilIface) : (eqGuard op t x y a b).run P w = .ok () w := by
  unfold eqGuard
  cases a <;> first | exact absurd rfl h' | exact absurd rfl (h _) | (cases op <;> rfl)
theorem avIte_eq (b : Bool) (x y : AV) : avIte b x y = cond b x y := by
  unfold avIte
  split
  · rename_i k n k' m
    split
    · rename_i e; subst e; cases b <;> rfl
    · cases b <;> rfl
  · cases b <;> rfl
  · cases b <;> rfl
  · cases b <;> rfl
theorem nbeq_false {i q : Nat} (h : i ≠ q) : Nat.beq i q = false := by
  cases e : Nat.beq i q with
  | false => rfl
  | true => exact absurd (Nat.eq_of_beq_eq_true e) h
theorem avSel_eq (i : Nat) : ∀ (cs : List AV) (q : Nat), q ≤ i → i < q + cs.length → avSel i q cs = cs.getD (i - q) .un
  | [], q, h, h' => absurd h' (by simp; omega)
  | [c], q, h, h' => by
    have : i - q = 0 := by simp at h'; omega
    rw [this]; rfl
  | c :: d :: cs, q, h, h' => by
    simp only [avSel, avIte_eq]
    by_cases e : i = q
    · subst e
      simp [Nat.beq_refl]
    · rw [nbeq_false e]
      simp only [cond]
      rw [avSel_eq i (d :: cs) (q + 1) (by omega) (by simp at h' ⊢; omega), show i - q = (i - (q + 1)) + 1 by omega]
      rfl
theorem avPut_no (i : Nat) (p : AV) : ∀ (cs : List AV) (q : Nat), i < q → avPut i p q cs = cs
  | [], _, _ => rfl
  | c :: cs, q, h => by
    simp only [avPut, avIte_eq]
    rw [nbeq_false (by omega), avPut_no i p cs (q + 1) (by omega)]
    rfl
theorem avPut_eq (i : Nat) (p : AV) : ∀ (cs : List AV) (q : Nat), q ≤ i → i < q + cs.length → avPut i p q cs = cs.set (i - q) p
  | [], q, h, h' => absurd h' (by simp; omega)
  | c :: cs, q, h, h' => by
    simp only [avPut, avIte_eq]
    by_cases e : i = q
    · subst e
      simp [Nat.beq_refl, avPut_no i p cs (i + 1) (by omega)]
    · rw [nbeq_false e]
      simp only [cond]
      rw [avPut_eq i p cs (q + 1) (by omega) (by simp at h' ⊢; omega), show i - q = (i - (q + 1)) + 1 by omega]
      rfl
theorem equal_succ (t : TypeId) (x y : Value) : Op.equal t x y = Op.equalIn (9999 + 1) t x y := rfl
theorem run_equal_bool {t : TypeId} (hu : P.underlying t = some .bool) (a b : Bool) (w : World) : (Op.equal t (.bool a) (.bool b)).run P w = .ok (a == b) w := by
  rw [equal_succ]; generalize 9999 = d
  simp only [Op.equalIn, Sem.run_bind, run_underlying hu, Result.andThen_ok, Sem.run_pure]
theorem run_equal_ptr {t e : TypeId} (hu : P.underlying t = some (.pointer e)) (a : Option Addr) (w : World) :
    (Op.equal t (.pointer a) (.pointer none)).run P w = .ok a.isNone w ∧ (Op.equal t (.pointer none) (.pointer a)).run P w = .ok a.isNone w := by
  simp only [equal_succ]; generalize 9999 = d
  cases a <;> simp only [Op.equalIn, Sem.run_bind, run_underlying hu, Result.andThen_ok, Sem.run_pure, Option.isNone, and_self]
theorem run_equal_slice {t e : TypeId} (hu : P.underlying t = some (.slice e)) (a : Option Addr) (n c : Nat) (w : World) :
    (Op.equal t (.slice a n c) (.slice none 0 0)).run P w = .ok a.isNone w := by
  simp only [equal_succ]; generalize 9999 = d
  cases a <;> simp only [Op.equalIn, Sem.run_bind, run_underlying hu, Result.andThen_ok, Sem.run_pure, Option.isNone]
theorem run_equal_func {t : TypeId} {ps rs : Array TypeId} {vv : Bool} (hu : P.underlying t = some (.func ps rs vv)) (f : Fn) (x y : Array Value) (w : World) :
    (Op.equal t (.func f x y) .nilFunc).run P w = .ok false w := by
  simp only [equal_succ]; generalize 9999 = d
  simp only [Op.equalIn, Sem.run_bind, run_underlying hu, Result.andThen_ok, Sem.run_pure]
theorem eqAV_sound {t : TypeId} {a b : AV} {x : Bool} (h : eqAV P t a b = some x) {va vb : Value} (ha : VR μ ρ a va) (hb : VR μ ρ b vb) (w : World) :
    (binOp .eql t va vb).run P w = .ok (.bool x) w ∧ (binOp .neq t va vb).run P w = .ok (.bool (!x)) w ∧ (∀ c, va ≠ .agg c) ∧ va ≠ .nilIface := by
  have fin : ∀ {y : Bool}, (Op.equal t va vb).run P w = .ok y w → y = x → (binOp .eql t va vb = (do pure (.bool (← Op.equal t va vb)) : Sem Value)) → (binOp .neq t va vb = (do pure (.bool (!(← Op.equal t va vb))) : Sem Value)) →
      (binOp .eql t va vb).run P w = .ok (.bool x) w ∧ (binOp .neq t va vb).run P w = .ok (.bool (!x)) w := fun {y} h1 h2 h3 h4 => by
    subst h2
    rw [h3, h4]
    simp only [Sem.run_bind, h1, Result.andThen_ok, Sem.run_pure, and_self]
  unfold eqAV at h
  split at h
  · rename_i k n k' m
    have := ha.v_eq; subst this
    have := hb.v_eq; subst this
    split at h
    · rename_i e; subst e
      injection h with h; subst h
      simp [binOp, Op.intCmp, bne]
    · cases h
  · have := ha.v_eq; subst this
    have := hb.v_eq; subst this
    injection h with h; subst h
    simp [binOp, Op.stringOp]
  · split at h
    · rename_i hu
      split at h
      · have := ha.v_eq; subst this
        have := hb.v_eq; subst this
        injection h with h
        exact ⟨(fin (run_equal_bool hu _ _ w) h rfl rfl).1, (fin (run_equal_bool hu _ _ w) h rfl rfl).2, fun c e => (by cases e), fun e => (by cases e)⟩
      · cases h
    · rename_i e hu
      split at h
      · have := ha.v_eq; subst this
        have := hb.v_eq; subst this
        injection h with h
        exact ⟨(fin (run_equal_ptr hu none w).1 h rfl rfl).1, (fin (run_equal_ptr hu none w).1 h rfl rfl).2, fun c e => (by cases e), fun e => (by cases e)⟩
      · have := hb.v_eq; subst this
        injection h with h
        cases ha with
        | c hx => cases hx with
          | d hd => cases hd
          | ptr => exact ⟨(fin (run_equal_ptr hu _ w).1 h rfl rfl).1, (fin (run_equal_ptr hu _ w).1 h rfl rfl).2, fun c e => (by cases e), fun e => (by cases e)⟩
      · have := ha.v_eq; subst this
        injection h with h
        cases hb with
        | c hx => cases hx with
          | d hd => cases hd
          | ptr => exact ⟨(fin (run_equal_ptr hu _ w).2 h rfl rfl).1, (fin (run_equal_ptr hu _ w).2 h rfl rfl).2, fun c e => (by cases e), fun e => (by cases e)⟩
      · have := hb.v_eq; subst this
        injection h with h
        cases ha with
        | c hx => cases hx with
          | d hd => cases hd with
            | ep => exact ⟨(fin (run_equal_ptr hu _ w).1 h rfl rfl).1, (fin (run_equal_ptr hu _ w).1 h rfl rfl).2, fun c e => (by cases e), fun e => (by cases e)⟩
      · cases h
    · rename_i e hu
      have hnil : ∀ {sz : Nat} {vb : Value}, VR μ ρ (.lst true sz []) vb → vb = .slice none 0 0 := fun hv => by
        cases hv with
        | c hx => cases hx with
          | d hd => cases hd with
            | @lst _ _ _ A c vals hnil hA _ _ _ _ =>
              cases A with
              | none => rw [(hA rfl).2]; rfl
              | some a => cases hnil
      split at h
      · have := hnil hb; subst this
        injection h with h
        cases ha with
        | c hx => cases hx with
          | d hd => cases hd
          | sl => exact ⟨(fin (run_equal_slice hu _ _ _ w) h rfl rfl).1, (fin (run_equal_slice hu _ _ _ w) h rfl rfl).2, fun c e => (by cases e), fun e => (by cases e)⟩
          | sln => exact ⟨(fin (run_equal_slice hu _ _ _ w) h rfl rfl).1, (fin (run_equal_slice hu _ _ _ w) h rfl rfl).2, fun c e => (by cases e), fun e => (by cases e)⟩
      · have := hnil hb; subst this
        injection h with h
        cases ha with
        | c hx => cases hx with
          | d hd => cases hd with
            | @lst _ _ _ A c vals hnil hA _ _ _ _ =>
              exact ⟨(fin (run_equal_slice hu _ _ _ w) (hnil.symm.trans h) rfl rfl).1, (fin (run_equal_slice hu _ _ _ w) (hnil.symm.trans h) rfl rfl).2, fun c e => (by cases e), fun e => (by cases e)⟩
      · cases h
    · rename_i hu
      split at h
      · have := hb.v_eq; subst this
        injection h with h
        cases ha with
        | c hx => cases hx with
          | d hd => cases hd with
            | clo => exact ⟨(fin (run_equal_func hu _ _ _ w) h rfl rfl).1, (fin (run_equal_func hu _ _ _ w) h rfl rfl).2, fun c e => (by cases e), fun e => (by cases e)⟩
          | clo => exact ⟨(fin (run_equal_func hu _ _ _ w) h rfl rfl).1, (fin (run_equal_func hu _ _ _ w) h rfl rfl).2, fun c e => (by cases e), fun e => (by cases e)⟩
      · cases h
    · cases h
theorem run_binOp' {op : BinOp} {t : TypeId} {x y : Operand} {a b v : Value} {w : World} (h : ∀ c, a ≠ .agg c) (h' : a ≠ .nilIface) (hr : (binOp op t a b).run P w = .ok v w) :
    (do eqGuard op t x y a b; binOp op t a b : Sem Value).run P w = .ok v w := by
  simp only [Sem.run_bind, run_eqGuard w h h', Result.andThen_ok, hr]
def valS (agg : Bool) (vs : List Value) : Value := bif agg then .agg vs.toArray else vs.headD undef
theorem eqCs_cons {k : CK} {ks : List CK} {as bs : List AV} {r : Bool} (h : eqCs (k :: ks) as bs = some r) :
    ∃ x xs y ys a b, as = x :: xs ∧ bs = y :: ys ∧ eqC1 k x y = some a ∧ eqCs ks xs ys = some b ∧ r = (a && b) := by
  cases as with
  | nil => cases ks <;> cases bs <;> simp [eqCs] at h
  | cons x xs =>
    cases bs with
    | nil => cases ks <;> cases xs <;> simp [eqCs] at h
    | cons y ys =>
      refine ⟨x, xs, y, ys, ?_⟩
      cases ks with
      | nil =>
        cases xs with
        | nil =>
          cases ys with
          | nil => exact ⟨r, true, rfl, rfl, h, rfl, by simp⟩
          | cons y' ys => simp only [eqCs] at h; split at h <;> first | (cases h; done) | (rename_i h1 h2; simp [eqCs] at h2)
        | cons x' xs => simp only [eqCs] at h; split at h <;> first | (cases h; done) | (rename_i h1 h2; cases ys <;> simp [eqCs] at h2)
      | cons k' ks =>
        simp only [eqCs] at h
        split at h
        · rename_i a b h1 h2
          injection h with h
          exact ⟨a, b, rfl, rfl, h1, h2, h.symm⟩
        · cases h
theorem eqCs_app : ∀ {k1 k2 : List CK} {as bs : List AV} {r : Bool}, eqCs (k1 ++ k2) as bs = some r →
    ∃ r1 r2, eqCs k1 (as.take k1.length) (bs.take k1.length) = some r1 ∧ eqCs k2 (as.drop k1.length) (bs.drop k1.length) = some r2 ∧ r = (r1 && r2)
  | [], k2, as, bs, r, h => ⟨true, r, by simp [eqCs], by simpa using h, by simp⟩
  | k :: k1, k2, as, bs, r, h => by
    obtain ⟨x, xs, y, ys, a, b, rfl, rfl, h1, h2, h3⟩ := eqCs_cons (ks := k1 ++ k2) (by simpa using h)
    obtain ⟨r1, r2, h4, h5, h6⟩ := eqCs_app h2
    refine ⟨a && r1, r2, ?_, by simpa using h5, by rw [h3, h6, Bool.and_assoc]⟩
    simp only [List.length_cons, List.take_succ_cons]
    generalize hx : xs.take k1.length = xs' at h4
    generalize hy : ys.take k1.length = ys' at h4
    cases k1 with
    | nil =>
      cases xs' with
      | nil =>
        cases ys' with
        | nil =>
          simp [eqCs] at h4
          subst h4
          simpa [eqCs] using h1
        | cons y' ys' => simp [eqCs] at h4
      | cons x' xs' => cases ys' <;> simp [eqCs] at h4
    | cons k' k1 => simp only [eqCs, h1, h4]
theorem offs_sum {tot : Nat} : ∀ {l : List Field} {o : Nat}, offsB P tot o l = true → o + (l.map fun f => P.cellsOf f.type).sum = tot
  | [], o, h => by simpa using Nat.eq_of_beq_eq_true h
  | f :: l, o, h => by
    simp only [offsB, Bool.and_eq_true] at h
    have := offs_sum h.2
    simp only [List.map_cons, List.sum_cons]
    omega
theorem ckN_len : ∀ (n : Nat) (t : TypeId), eqT P n t = true → (ckN P n t).length = P.cellsOf t
  | 0, _, h => by cases h
  | n + 1, t, h => by
    rw [eqT] at h
    rw [ckN]
    cases hu : P.underlying t with
    | none => rw [hu] at h; cases h
    | some d =>
      rw [hu] at h
      cases d with
      | bool => exact (Nat.eq_of_beq_eq_true h).symm
      | int k => exact (Nat.eq_of_beq_eq_true h).symm
      | string => exact (Nat.eq_of_beq_eq_true h).symm
      | array len e =>
        simp only [Bool.and_eq_true] at h
        simp only [List.length_flatten, List.map_replicate, ckN_len n e h.1.2, List.sum_replicate_nat]
        exact Nat.eq_of_beq_eq_true h.1.1
      | struct fs =>
        simp only [Bool.and_eq_true, List.all_eq_true] at h
        simp only [List.length_flatMap]
        rw [← offs_sum h.1.1, Nat.zero_add]
        congr 1
        refine List.map_congr_left fun f hf => ?_
        exact ckN_len n f.type (h.1.2 f hf).1.2
      | _ => cases h
theorem eqIn_sound (w : World) : ∀ (n d : Nat) (t : TypeId) (as bs : List AV) (vs us : List Value) (r : Bool), eqT P n t = true → CRs μ ρ as vs → CRs μ ρ bs us → as.length = P.cellsOf t → bs.length = P.cellsOf t → eqCs (ckN P n t) as bs = some r →
    (Op.equalIn (d + n) t (valS (aggT P t) vs) (valS (aggT P t) us)).run P w = .ok r w
  | 0, _, _, _, _, _, _, _, h, _, _, _, _, _ => by cases h
  | n + 1, d, t, as, bs, vs, us, r, h, hv, hu', hal, hbl, he => by
    rw [eqT] at h
    rw [ckN] at he
    have one : ∀ {k : CK}, eqCs [k] as bs = some r → ∃ a b v u, as = [a] ∧ bs = [b] ∧ vs = [v] ∧ us = [u] ∧ CR μ ρ a v ∧ CR μ ρ b u ∧ eqC1 k a b = some r := fun {k} he => by
      obtain ⟨x, xs, y, ys, a, b, rfl, rfl, h1, h2, h3⟩ := eqCs_cons he
      have hxs : xs = [] ∧ ys = [] ∧ b = true := by
        cases xs with
        | nil => cases ys with
          | nil => simp [eqCs] at h2; exact ⟨rfl, rfl, h2⟩
          | cons y' ys => simp [eqCs] at h2
        | cons x' xs => cases ys <;> simp [eqCs] at h2
      obtain ⟨rfl, rfl, rfl⟩ := hxs
      obtain ⟨v, rfl⟩ := List.length_eq_one_iff.1 hv.1
      obtain ⟨u, rfl⟩ := List.length_eq_one_iff.1 hu'.1
      exact ⟨x, y, v, u, rfl, rfl, rfl, rfl, hv.2 0 x v rfl rfl, hu'.2 0 y u rfl rfl, by rw [h1, h3, Bool.and_true]⟩
    have hd : ∀ {x : Value} {v : Value}, CR μ ρ (.v x) v → v = x := fun h => by cases h with | d h => cases h; rfl
    cases hu : P.underlying t with
    | none => rw [hu] at h; cases h
    | some k =>
      rw [hu] at h he
      cases k with
      | bool =>
        obtain ⟨a, b, v, u, rfl, rfl, rfl, rfl, ha, hb, h1⟩ := one he
        rw [show aggT P t = false by unfold aggT; rw [hu]]
        unfold eqC1 at h1
        split at h1
        · rename_i hk; cases hk
        · have := hd ha; subst this
          have := hd hb; subst this
          injection h1 with h1; subst h1
          exact run_equalIn_bool' w (d + n) t _ _ hu
        · rename_i hk; cases hk
        · cases h1
      | int q =>
        obtain ⟨a, b, v, u, rfl, rfl, rfl, rfl, ha, hb, h1⟩ := one he
        rw [show aggT P t = false by unfold aggT; rw [hu]]
        unfold eqC1 at h1
        split at h1
        · have := hd ha; subst this
          have := hd hb; subst this
          split at h1
          · rename_i e; subst e
            injection h1 with h1; subst h1
            exact run_equalIn_int w (d + n) t _ _ _ _ hu
          · cases h1
        · rename_i hk; cases hk
        · rename_i hk; cases hk
        · cases h1
      | string =>
        obtain ⟨a, b, v, u, rfl, rfl, rfl, rfl, ha, hb, h1⟩ := one he
        rw [show aggT P t = false by unfold aggT; rw [hu]]
        unfold eqC1 at h1
        split at h1
        · rename_i hk; cases hk
        · rename_i hk; cases hk
        · have := hd ha; subst this
          have := hd hb; subst this
          injection h1 with h1; subst h1
          exact run_equalIn_string w (d + n) t _ _ hu
        · cases h1
      | array len e =>
        simp only [Bool.and_eq_true] at h
        obtain ⟨⟨hsz, hte⟩, hty⟩ := h
        have hsz := Nat.eq_of_beq_eq_true hsz
        have hlen := ckN_len n e hte
        obtain ⟨i, hi⟩ := Option.isSome_iff_exists.1 (tyL_spec hty).2.2.2
        rw [show aggT P t = true by unfold aggT; rw [hu]]
        show (Op.equalIn (d + n + 1) t (.agg vs.toArray) (.agg us.toArray)).run P w = _
        rw [run_equalIn_array w (d + n) vs.toArray us.toArray hu hi]
        have items : ∀ (m k : Nat) (r : Bool), (k + m) * P.cellsOf e ≤ vs.length → (k + m) * P.cellsOf e ≤ us.length → eqCs ((List.replicate m (ckN P n e)).flatten) ((as.drop (k * P.cellsOf e)).take (m * P.cellsOf e)) ((bs.drop (k * P.cellsOf e)).take (m * P.cellsOf e)) = some r →
            (Op.eqItems (d + n) e (P.cellsOf e) vs.toArray us.toArray (List.range' k m)).run P w = .ok r w := by
          intro m
          induction m with
          | zero =>
            intro k r _ _ he
            simp [eqCs] at he
            subst he
            simp [Op.eqItems]
          | succ m ih =>
            intro k r hl1 hl2 he
            rw [List.replicate_succ, List.flatten_cons] at he
            obtain ⟨r1, r2, h1, h2, h3⟩ := eqCs_app he
            rw [hlen] at h1 h2
            have hmul : (m + 1) * P.cellsOf e = P.cellsOf e + m * P.cellsOf e := by rw [Nat.add_mul, Nat.one_mul, Nat.add_comm]
            have hk1 : (k + 1) * P.cellsOf e = k * P.cellsOf e + P.cellsOf e := by rw [Nat.add_mul, Nat.one_mul]
            have hkm : (k + (m + 1)) * P.cellsOf e = k * P.cellsOf e + (P.cellsOf e + m * P.cellsOf e) := by rw [Nat.add_mul, hmul]
            rw [List.take_take, hmul, Nat.min_eq_left (Nat.le_add_right _ _), List.take_take, Nat.min_eq_left (Nat.le_add_right _ _)] at h1
            rw [hmul, List.drop_take, List.drop_take, List.drop_drop, List.drop_drop, Nat.add_sub_cancel_left, ← hk1] at h2
            have p1 := run_part hty vs (k * P.cellsOf e) (by omega) w
            have p2 := run_part hty us (k * P.cellsOf e) (by omega) w
            have hav := hv.1
            have hau := hu'.1
            have q := eqIn_sound w n d e _ _ _ _ r1 hte (hv.sub (k * P.cellsOf e) (P.cellsOf e)) (hu'.sub (k * P.cellsOf e) (P.cellsOf e)) (by simp; omega) (by simp; omega) h1
            rw [List.range'_succ, Op.eqItems]
            simp only [Sem.run_bind, p1, p2, Result.andThen_ok]
            simp only [valS] at q
            rw [q]
            simp only [Result.andThen_ok]
            subst h3
            cases r1 with
            | true =>
              simp only [Bool.not_true, Bool.false_eq_true, if_false, Bool.true_and]
              exact ih (k + 1) r2 (by rw [show k + 1 + m = k + (m + 1) by omega]; exact hl1) (by rw [show k + 1 + m = k + (m + 1) by omega]; exact hl2) h2
            | false => simp
        have hvl := hv.1
        have hul := hu'.1
        have := items len 0 r (by rw [Nat.zero_add, hsz]; omega) (by rw [Nat.zero_add, hsz]; omega) (by
          rw [Nat.zero_mul, List.drop_zero, List.drop_zero, List.take_of_length_le (by omega), List.take_of_length_le (by omega)]; exact he)
        rwa [← List.range_eq_range'] at this
      | struct fs =>
        simp only [Bool.and_eq_true, List.all_eq_true, Bool.not_eq_true'] at h
        obtain ⟨⟨hoff, hall⟩, hst⟩ := h
        rw [show aggT P t = true by unfold aggT; rw [hu]]
        show (Op.equalIn (d + n + 1) t (.agg vs.toArray) (.agg us.toArray)).run P w = _
        have hfs : P.fieldsOf t = fs := by simp [Program.fieldsOf, hu]
        rw [run_equalIn_struct w (d + n) t vs.toArray us.toArray (by rw [hfs]; exact hu) hst, hfs]
        have hvl := hv.1
        have hul := hu'.1
        have fields : ∀ (l : List Field) (o : Nat) (r : Bool), (∀ f ∈ l, ((f.name != "_") = true ∧ eqT P n f.type = true) ∧ tyL P f.type = true) → offsB P (P.cellsOf t) o l = true → eqCs (l.flatMap fun f => ckN P n f.type) (as.drop o) (bs.drop o) = some r →
            (Op.eqFields (d + n) vs.toArray us.toArray l).run P w = .ok r w := by
          intro l
          induction l with
          | nil =>
            intro o r _ hof he
            have := offs_sum hof
            simp at this
            rw [List.drop_eq_nil_of_le (by omega), List.drop_eq_nil_of_le (by omega)] at he
            simp [eqCs] at he
            subst he
            simp [Op.eqFields]
          | cons f l ih =>
            intro o r hall hof he
            obtain ⟨⟨hn, hte⟩, hty⟩ := hall f (by simp)
            have hn : f.name ≠ "_" := by simpa using hn
            have htot := offs_sum hof
            simp only [List.map_cons, List.sum_cons] at htot
            simp only [offsB, Bool.and_eq_true] at hof
            have hoo := Nat.eq_of_beq_eq_true hof.1
            have hlen := ckN_len n f.type hte
            rw [List.flatMap_cons] at he
            obtain ⟨r1, r2, h1, h2, h3⟩ := eqCs_app he
            rw [hlen] at h1 h2
            rw [List.drop_drop, List.drop_drop] at h2
            have p1 := run_part hty vs f.offset (by omega) w
            have p2 := run_part hty us f.offset (by omega) w
            rw [hoo] at p1 p2
            have q := eqIn_sound w n d f.type _ _ _ _ r1 hte (hv.sub o (P.cellsOf f.type)) (hu'.sub o (P.cellsOf f.type)) (by simp; omega) (by simp; omega) h1
            simp only [valS] at q
            simp only [Op.eqFields, hn, ne_eq, not_false_eq_true, if_true, Sem.run_bind, hoo, p1, p2, Result.andThen_ok, q]
            subst h3
            cases r1 with
            | true =>
              simp only [Bool.not_true, Bool.false_eq_true, if_false, Bool.true_and]
              exact ih (o + P.cellsOf f.type) r2 (fun f hf => hall f (by simp [hf])) hof.2 h2
            | false => simp
        exact fields fs.toList 0 r (fun f hf => hall f hf) hoff (by simpa using he)
      | _ => cases h
theorem eqAny_sound {t : TypeId} {a b : AV} {x : Bool} (h : eqAny P t a b = some x) {va vb : Value} (ha : VR μ ρ a va) (hb : VR μ ρ b vb) (x' y' : Operand) (w : World) :
    (do eqGuard .eql t x' y' va vb; binOp .eql t va vb : Sem Value).run P w = .ok (.bool x) w ∧ (do eqGuard .neq t x' y' va vb; binOp .neq t va vb : Sem Value).run P w = .ok (.bool (!x)) w := by
  unfold eqAny at h
  split at h
  · rename_i xs ys
    unfold eqAgg at h
    obtain ⟨h1, h2⟩ : (aggT P t && eqT P 12 t && !(P.eqGuardType P.depth t) && Nat.beq xs.length (P.cellsOf t) && Nat.beq ys.length (P.cellsOf t)) = true ∧ eqCs (cks P t) xs ys = some x := by
      cases hc : (aggT P t && eqT P 12 t && !(P.eqGuardType P.depth t) && Nat.beq xs.length (P.cellsOf t) && Nat.beq ys.length (P.cellsOf t)) with
      | true => rw [hc] at h; exact ⟨rfl, h⟩
      | false => rw [hc] at h; cases h
    simp only [Bool.and_eq_true, Bool.not_eq_true'] at h1
    obtain ⟨⟨⟨⟨g1, g2⟩, g3⟩, g4⟩, g5⟩ := h1
    have key : ∀ {vs us : List Value}, CRs μ ρ xs vs → CRs μ ρ ys us → (Op.equalIn 10000 t (.agg vs.toArray) (.agg us.toArray)).run P w = .ok x w := fun {vs us} hv hu => by
      have := eqIn_sound w 12 9988 t xs ys vs us x g2 hv hu (Nat.eq_of_beq_eq_true g4) (Nat.eq_of_beq_eq_true g5) h2
      rw [g1] at this
      exact this
    cases ha with
    | c ha => cases ha with | d ha => cases ha
    | agg ha =>
      cases hb with
      | c hb => cases hb with | d hb => cases hb
      | agg hb =>
        have hk := key ha hb
        constructor
        · simp only [Sem.run_bind, run_eqGuard_agg w _ t x' y' _ _ g3, Result.andThen_ok, run_eql_struct, hk]
        · simp only [Sem.run_bind, run_eqGuard_agg w _ t x' y' _ _ g3, Result.andThen_ok, run_neq_struct, hk]
  · obtain ⟨h1, h2, h3, h4⟩ := eqAV_sound h ha hb w
    exact ⟨run_binOp' h3 h4 h1, run_binOp' h3 h4 h2⟩
theorem evBin_sound {R : Type} {σ : Store} {K : AV → Store → Option R} {r : R} {op : BinOp} {t : TypeId} {a b : AV} (h : evBin P σ K op t a b = some r) :
    ∃ av, K av σ = some r ∧ ∀ (μ : Mu) (ρ : Rho) (va vb : Value) (x y : Operand) (w : World), VR μ ρ a va → VR μ ρ b vb →
      ∃ v, (do eqGuard op t x y va vb; binOp op t va vb : Sem Value).run P w = .ok v w ∧ VR μ ρ av v := by
  unfold evBin at h
  split at h
  · split at h
    · rename_i e he
      exact ⟨_, h, fun μ ρ va vb x y w ha hb => ⟨_, (eqAny_sound he ha hb x y w).1, .bool _⟩⟩
    · cases h
  · split at h
    · rename_i e he
      exact ⟨_, h, fun μ ρ va vb x y w ha hb => ⟨_, (eqAny_sound he ha hb x y w).2, .bool _⟩⟩
    · cases h
  · rename_i hne1 hne2
    split at h
    · rename_i k x k' y
      have fin : ∀ v : Value, (∀ w : World, (binOp op t (.int k x) (.int k' y)).run P w = .ok v w) → okC (.v v) = true → K (.v v) σ = some r →
          ∃ av, K av σ = some r ∧ ∀ (μ : Mu) (ρ : Rho) (va vb : Value) (x' y' : Operand) (w : World), VR μ ρ (.v (.int k x)) va → VR μ ρ (.v (.int k' y)) vb →
            ∃ v, (do eqGuard op t x' y' va vb; binOp op t va vb : Sem Value).run P w = .ok v w ∧ VR μ ρ av v := fun v h1 h2 h3 =>
        ⟨_, h3, fun μ ρ va vb x' y' w ha hb => by
          have := ha.v_eq; subst this
          have := hb.v_eq; subst this
          exact ⟨v, run_binOp' (fun c => by simp) (by simp) (h1 w), .ofOk h2⟩⟩
      split at h
      · cases hy : decide (y < 0) with
        | true => rw [hy] at h; cases h
        | false =>
          rw [hy] at h
          have hy := of_decide_eq_false hy
          exact fin _ (fun w => by simp [binOp, Op.shift, hy]) rfl h
      · cases hy : decide (y < 0) with
        | true => rw [hy] at h; cases h
        | false =>
          rw [hy] at h
          have hy := of_decide_eq_false hy
          exact fin _ (fun w => by simp [binOp, Op.shift, hy]) rfl h
      · split at h
        · rename_i e; subst e
          split at h
          · exact fin _ (fun w => by simp [binOp, Op.intArith]) rfl h
          · exact fin _ (fun w => by simp [binOp, Op.intArith]) rfl h
          · exact fin _ (fun w => by simp [binOp, Op.intArith]) rfl h
          · cases hy : decide (y = 0) with
            | true => rw [hy] at h; cases h
            | false =>
              rw [hy] at h
              have hy := of_decide_eq_false hy
              exact fin _ (fun w => by simp [binOp, Op.intDiv, hy]) rfl h
          · cases hy : decide (y = 0) with
            | true => rw [hy] at h; cases h
            | false =>
              rw [hy] at h
              have hy := of_decide_eq_false hy
              exact fin _ (fun w => by simp [binOp, Op.intDiv, hy]) rfl h
          · exact fin _ (fun w => by simp [binOp, Op.intBits, bits]) rfl h
          · exact fin _ (fun w => by simp [binOp, Op.intBits, bits]) rfl h
          · exact fin _ (fun w => by simp [binOp, Op.intBits, bits]) rfl h
          · exact fin _ (fun w => by simp [binOp, Op.intBits, bits]) rfl h
          · exact fin _ (fun w => by simp [binOp, Op.intCmp]) rfl h
          · exact fin _ (fun w => by simp [binOp, Op.intCmp]) rfl h
          · exact fin _ (fun w => by simp [binOp, Op.intCmp]) rfl h
          · exact fin _ (fun w => by simp [binOp, Op.intCmp]) rfl h
          · cases h
        · cases h
    · rename_i x y
      have fin : ∀ v : Value, (∀ w : World, (binOp op t (.string x) (.string y)).run P w = .ok v w) → okC (.v v) = true → K (.v v) σ = some r →
          ∃ av, K av σ = some r ∧ ∀ (μ : Mu) (ρ : Rho) (va vb : Value) (x' y' : Operand) (w : World), VR μ ρ (.v (.string x)) va → VR μ ρ (.v (.string y)) vb →
            ∃ v, (do eqGuard op t x' y' va vb; binOp op t va vb : Sem Value).run P w = .ok v w ∧ VR μ ρ av v := fun v h1 h2 h3 =>
        ⟨_, h3, fun μ ρ va vb x' y' w ha hb => by
          have := ha.v_eq; subst this
          have := hb.v_eq; subst this
          exact ⟨v, run_binOp' (fun c => by simp) (by simp) (h1 w), .ofOk h2⟩⟩
      split at h
      · cases hy : decide (x.size + y.size ≤ 9223372036854775807) with
        | false => rw [hy] at h; cases h
        | true =>
          rw [hy] at h
          have hy := of_decide_eq_true hy
          refine fin _ (fun w => ?_) rfl h
          have : ¬ (((x.size + y.size : Nat) : Int) > IntKind.i64.max) := by
            show ¬ (((x.size + y.size : Nat) : Int) > 9223372036854775807)
            omega
          simp only [binOp, Op.stringOp, this, if_false]
          rfl
      · exact fin _ (fun w => by simp [binOp, Op.stringOp]) rfl h
      · cases h
    · cases h
theorem evUn_sound {R : Type} {σ : Store} {K : AV → Store → Option R} {r : R} {op : UnOp} {a : AV} (h : evUn σ K op a = some r) :
    ∃ av, K av σ = some r ∧ ∀ (μ : Mu) (ρ : Rho) (va : Value) (w : World), VR μ ρ a va → ∃ v, (Op.unary op va).run P w = .ok v w ∧ VR μ ρ av v := by
  unfold evUn at h
  split at h
  · exact ⟨_, h, fun μ ρ va w ha => by have := ha.v_eq; subst this; exact ⟨_, by simp [Op.unary], .bool _⟩⟩
  · exact ⟨_, h, fun μ ρ va w ha => by have := ha.v_eq; subst this; exact ⟨_, by simp [Op.unary, Op.intArith], .int _ _⟩⟩
  · exact ⟨_, h, fun μ ρ va w ha => by have := ha.v_eq; subst this; exact ⟨_, by simp [Op.unary, Op.intBits, bits], .int _ _⟩⟩
  · cases h
theorem evFieldAddr_sound {R : Type} {σ : Store} {K : AV → Store → Option R} {r : R} {t : TypeId} {a : AV} {f : Nat} (h : evFieldAddr P σ K t a f = some r) :
    ∃ av, K av σ = some r ∧ ∀ (μ : Mu) (ρ : Rho) (va : Value) (w : World), VR μ ρ a va → ∃ v, (Instr.fieldAt t va f).run P w = .ok v w ∧ VR μ ρ av v := by
  unfold evFieldAddr at h
  split at h
  · rename_i fs hu
    split at h
    · cases h
    · rename_i fd hfd
      cases hz : Nat.beq (P.cellsOf fd.type) 0 with
      | true => rw [hz] at h; cases h
      | false =>
        rw [hz] at h
        have hne : P.cellsOf fd.type ≠ 0 := fun e => by rw [e] at hz; cases hz
        have hi : (P.info? fd.type).isSome = true := by
          cases e : P.info? fd.type with
          | none => exact absurd (by simp [Program.cellsOf, e]) hne
          | some i => rfl
        have hrun : ∀ (ad : Addr) (w : World), (Instr.fieldAt t (.pointer (some ad)) f).run P w = .ok (.pointer (some (ad.add fd.offset))) w := fun ad w => by
          simp only [Instr.fieldAt, Sem.run_bind, run_underlying hu, Result.andThen_ok, hfd, Instr.sureAddr, Sem.run_pure, fieldPlace, run_sizeOf' hi, hne, if_false]
        simp only [cond] at h
        split at h
        · rename_i l i j
          refine ⟨_, h, fun μ ρ va w ha => ?_⟩
          cases ha with
          | c hx => cases hx with
            | d hd => cases hd
            | @ptr _ _ _ rb hl hp =>
              refine ⟨_, hrun _ w, ?_⟩
              rw [addr_add, Nat.add_assoc]
              exact .c (.ptr hl hp)
        · rename_i cs off
          refine ⟨_, h, fun μ ρ va w ha => ?_⟩
          cases ha with
          | c hx => cases hx with
            | d hd => cases hd with
              | ep vals hcell hv =>
                refine ⟨_, hrun _ w, ?_⟩
                rw [addr_add, Nat.add_assoc]
                exact .c (.d (.ep vals hcell hv))
        · cases h
  · cases h
theorem evField_sound {R : Type} {σ : Store} {K : AV → Store → Option R} {r : R} {t : TypeId} {a : AV} {f : Nat} (h : evField P σ K t a f = some r) :
    ∃ av, K av σ = some r ∧ ∀ (μ : Mu) (ρ : Rho) (va : Value) (w : World), VR μ ρ a va → ∃ v, (Instr.field t va f).run P w = .ok v w ∧ VR μ ρ av v := by
  unfold evField at h
  split at h
  · rename_i fs cs hu
    split at h
    · cases h
    · rename_i fd hfd
      cases hz : (Nat.ble (fd.offset + P.cellsOf fd.type) cs.length && tyL P fd.type) with
      | false => rw [hz] at h; cases h
      | true =>
        rw [hz] at h
        simp only [Bool.and_eq_true] at hz
        have hle := Nat.le_of_ble_eq_true hz.1
        refine ⟨_, h, fun μ ρ va w ha => ?_⟩
        cases ha with
        | c hx => cases hx with
          | d hd => cases hd
        | @agg _ vs hvs =>
          refine ⟨_, by simp only [Instr.field, Sem.run_bind, run_underlying hu, Result.andThen_ok, hfd, asAgg, Sem.run_pure]; exact run_part hz.2 vs _ (by rw [hvs.1]; exact hle) w, ?_⟩
          exact mkV_sound hz.2 (hvs.sub _ _) (by simp; omega)
  · cases h
theorem cond_some {α : Type} {b : Bool} {x : Option α} {r : α} (h : cond b x none = some r) : b = true ∧ x = some r := by
  cases b with
  | true => exact ⟨rfl, h⟩
  | false => cases h
theorem cond_some' {α : Type} {b : Bool} {x : Option α} {r : α} (h : cond b none x = some r) : b = false ∧ x = some r := by
  cases b with
  | false => exact ⟨rfl, h⟩
  | true => cases h
theorem range_of {n : Int} {len : Nat} (h : (decide (0 ≤ n) && decide (n < (len : Int))) = true) : 0 ≤ n ∧ n < (len : Int) ∧ n.toNat < len := by
  simp only [Bool.and_eq_true, decide_eq_true_eq] at h
  refine ⟨h.1, h.2, by omega⟩
theorem evIndex_sound {R : Type} {σ : Store} {K : AV → Store → Option R} {r : R} {t : TypeId} {a i : AV} {ct : Bool} (h : evIndex P σ K t a i ct = some r) :
    ∃ av, K av σ = some r ∧ ∀ (μ : Mu) (ρ : Rho) (va vi : Value) (w : World), VR μ ρ a va → VR μ ρ i vi → ∃ v, (Instr.index t va vi).run P w = .ok v w ∧ VR μ ρ av v := by
  unfold evIndex at h
  split at h
  · rename_i len e cs k n hu
    replace h := cond_some h
    obtain ⟨hz, h⟩ := h
    simp only [Bool.and_eq_true] at hz
    have hlen := Nat.eq_of_beq_eq_true hz.1
    have hle : ∀ m, m < len → m * P.cellsOf e + P.cellsOf e ≤ cs.length := fun m hm => by
      calc m * P.cellsOf e + P.cellsOf e = (m + 1) * P.cellsOf e := by rw [Nat.add_mul, Nat.one_mul]
        _ ≤ len * P.cellsOf e := Nat.mul_le_mul_right _ hm
        _ = cs.length := hlen
    have hI := (tyL_spec hz.2).2.2.2
    cases ct with
    | true =>
      simp only [cond] at h
      replace h := cond_some h
      obtain ⟨hr, h⟩ := h
      obtain ⟨h0, h1, h2⟩ := range_of hr
      refine ⟨_, h, fun μ ρ va vi w ha hi => ?_⟩
      have := hi.v_eq; subst this
      cases ha with
      | c hx => cases hx with
        | d hd => cases hd
      | @agg _ vs hvs =>
        refine ⟨_, by simp only [Instr.index, asIntOf, Sem.run_bind, run_underlying hu, Result.andThen_ok, Sem.run_pure, h0, h1, and_self, if_true, run_sizeOf' hI]; exact run_part hz.2 vs _ (by rw [hvs.1]; exact hle _ h2) w, ?_⟩
        exact mkV_sound hz.2 (hvs.sub _ _) (by have := hle _ h2; simp; omega)
    | false =>
      simp only [cond] at h
      replace h := cond_some h
      obtain ⟨h3, h⟩ := h
      simp only [Bool.and_eq_true, Bool.not_eq_true'] at h3
      have hone := Nat.eq_of_beq_eq_true h3.1
      replace h := cond_some h
      obtain ⟨hr, h⟩ := h
      obtain ⟨h0, h1, h2⟩ := range_of hr
      refine ⟨_, h, fun μ ρ va vi w ha hi => ?_⟩
      have := hi.v_eq; subst this
      have hle := hle
      simp only [hone, Nat.mul_one] at hlen hle
      cases ha with
      | c hx => cases hx with
        | d hd => cases hd
      | @agg _ vs hvs =>
        refine ⟨_, by simp only [Instr.index, asIntOf, Sem.run_bind, run_underlying hu, Result.andThen_ok, Sem.run_pure, h0, h1, and_self, if_true, run_sizeOf' hI]; exact run_part hz.2 vs _ (by rw [hvs.1, hone, Nat.mul_one]; exact hle _ h2) w, ?_⟩
        have hlt : n.toNat < cs.length := by omega
        have hltv : n.toNat < vs.length := by rw [hvs.1]; exact hlt
        rw [avSel_eq n.toNat cs 0 (Nat.zero_le _) (by omega), h3.2, hone, Nat.mul_one, Nat.sub_zero]
        simp only [cond, List.getD_eq_getElem?_getD, List.getElem?_eq_getElem hlt, Option.getD_some]
        rw [List.headD_eq_head?_getD, List.head?_take]
        simp only [List.head?_drop, List.getElem?_eq_getElem hltv]
        exact .c (hvs.2 _ _ _ (List.getElem?_eq_getElem hlt) (List.getElem?_eq_getElem hltv))
  · rename_i s k n hu
    replace h := cond_some h
    obtain ⟨hr, h⟩ := h
    obtain ⟨h0, h1, h2⟩ := range_of hr
    refine ⟨_, h, fun μ ρ va vi w ha hi => ?_⟩
    have := ha.v_eq; subst this
    have := hi.v_eq; subst this
    refine ⟨_, ?_, .int _ _⟩
    have hs : s[n.toNat]? = some s.data[n.toNat] := by
      show (if h : n.toNat < s.size then some _ else none) = _
      rw [dif_pos h2]; rfl
    have hd : s.data.getD n.toNat 0 = s.data[n.toNat] := by
      rw [Array.getD]; exact dif_pos h2
    simp only [Instr.index, asIntOf, Sem.run_bind, run_underlying hu, Result.andThen_ok, Sem.run_pure, h0, if_true, hs, hd]
  · cases h
theorem args_list {α : Type} {a : Array α} {l : List α} (h : a.toList = l) : a = l.toArray := by rw [← h]
theorem run_builtin {o : Oper} {c : Call} {b : Builtin} (hop : o.op = .call c) (hc : c.callee = .builtin b) (a : Act) :
    ∃ cs, ∀ w : World, (execOp a.eval o).run P w = (builtin b c.argTypes o.type cs (c.args.map a.eval)).run P w := by
  refine ⟨c.args.map fun | .const _ => true | _ => false, fun w => ?_⟩
  simp only [execOp, hop, resolve, hc, Sem.run_bind, Sem.run_pure, Result.andThen_ok, invoke]
  rfl
def PureR (P : Program) (o : Oper) (fr : List (Nat × AV)) (av : AV) : Prop :=
  ∀ (μ : Mu) (ρ : Rho) (a : Act) (w : World), (∀ x ∈ o.op.operands, VR μ ρ (getO fr x) (a.eval x)) → ∃ v, (execOp a.eval o).run P w = .ok (.value v) w ∧ VR μ ρ av v
theorem run_value {P : Program} {s : Sem Value} {v : Value} {w w' : World} (h : s.run P w = .ok v w') : (do pure (.value (← s)) : Sem Next).run P w = .ok (.value v) w' := by
  simp only [Sem.run_bind, h, Result.andThen_ok, Sem.run_pure]
section
variable {R : Type} {C : Cfg} {call : CallT} {inl : InlT} {o : Oper} {fr : List (Nat × AV)} {σ : Store} {K : AV → Store → Option R} {r : R}
theorem move_pure {x : Operand} (ho : o.op = .move x ∨ o.op = .assign x) : PureR P o fr (getO fr x) := by
  intro μ ρ a w hx
  refine ⟨a.eval x, ?_, hx x ?_⟩
  · rcases ho with ho | ho <;> simp [execOp, ho]
  · rcases ho with ho | ho <;> simp [ho, Op.operands]
theorem cls_ne {b : Bool} {m n : Nat} (h : (bif b then m + 1 else n + 1) = 0) : False := by cases b <;> cases h
theorem evOp_pure (h : evOp P C call inl o fr σ K = some r) (hc : opClass P C o = 0) : ∃ av, K av σ = some r ∧ PureR P o fr av := by
  have one : ∀ {x : Operand} {a : Act} {μ : Mu} {ρ : Rho}, (∀ y ∈ o.op.operands, VR μ ρ (getO fr y) (a.eval y)) → x ∈ o.op.operands → VR μ ρ (getO fr x) (a.eval x) := fun h hx => h _ hx
  cases ho : o.op with
  | move x =>
    simp only [evOp, ho] at h
    split at h
    · simp [opClass, ho] at hc
    · exact ⟨_, h, move_pure (.inl ho)⟩
  | assign x =>
    simp only [evOp, ho] at h
    split at h
    · simp [opClass, ho] at hc
    · exact ⟨_, h, move_pure (.inr ho)⟩
  | pick c x y =>
    simp only [evOp, ho] at h
    split at h
    · rename_i t ht
      have key : ∀ b : Bool, t = b → K (getO fr (if b then x else y)) σ = some r → ∃ av, K av σ = some r ∧ PureR P o fr av := fun b hb hk => by
        refine ⟨_, hk, fun μ ρ a w hx => ?_⟩
        have h1 := hx c (by simp [ho, Op.operands])
        rw [ht] at h1
        refine ⟨a.eval (if b then x else y), ?_, hx _ (by cases b <;> simp [ho, Op.operands])⟩
        simp only [execOp, ho, h1.v_eq, asBool, Sem.run_bind, Sem.run_pure, Result.andThen_ok, hb]
        cases b <;> rfl
      cases t with
      | true => exact key true rfl h
      | false => exact key false rfl h
    · cases h
  | nilCheck x =>
    simp only [evOp, ho] at h
    have hx0 : x ∈ o.op.operands := by simp [ho, Op.operands]
    split at h
    · rename_i l i j hg
      refine ⟨_, h, fun μ ρ a w hx => ?_⟩
      have h1 := hx x hx0
      rw [hg] at h1
      refine ⟨a.eval x, ?_, h1⟩
      generalize hv : a.eval x = v at h1
      cases h1 with
      | c h2 => cases h2 with
        | d hd => cases hd
        | ptr => simp only [execOp, ho, hv, Sem.run_pure]
    · rename_i cs off hg
      refine ⟨_, h, fun μ ρ a w hx => ?_⟩
      have h1 := hx x hx0
      rw [hg] at h1
      refine ⟨a.eval x, ?_, h1⟩
      generalize hv : a.eval x = v at h1
      cases h1 with
      | c h2 => cases h2 with
        | d hd => cases hd with
          | ep => simp only [execOp, ho, hv, Sem.run_pure]
    · rename_i f p q hg
      refine ⟨_, h, fun μ ρ a w hx => ?_⟩
      have h1 := hx x hx0
      rw [hg] at h1
      refine ⟨a.eval x, ?_, h1⟩
      generalize hv : a.eval x = v at h1
      cases h1 with
      | c h2 => cases h2 with
        | d hd => cases hd with
          | clo => simp only [execOp, ho, hv, Sem.run_pure]
        | clo => simp only [execOp, ho, hv, Sem.run_pure]
    · cases h
  | binOp op t x y yt =>
    simp only [evOp, ho] at h
    obtain ⟨av, hk, hs⟩ := evBin_sound h
    refine ⟨av, hk, fun μ ρ a w hx => ?_⟩
    obtain ⟨v, hr, hv⟩ := hs μ ρ _ _ x y w (hx x (by simp [ho, Op.operands])) (hx y (by simp [ho, Op.operands]))
    exact ⟨v, by simp only [execOp, ho]; exact run_value hr, hv⟩
  | unOp op t x =>
    simp only [evOp, ho] at h
    obtain ⟨av, hk, hs⟩ := evUn_sound h
    refine ⟨av, hk, fun μ ρ a w hx => ?_⟩
    obtain ⟨v, hr, hv⟩ := hs μ ρ _ w (hx x (by simp [ho, Op.operands]))
    exact ⟨v, by simp only [execOp, ho]; exact run_value hr, hv⟩
  | fieldAddr t x f =>
    simp only [evOp, ho] at h
    obtain ⟨av, hk, hs⟩ := evFieldAddr_sound h
    refine ⟨av, hk, fun μ ρ a w hx => ?_⟩
    obtain ⟨v, hr, hv⟩ := hs μ ρ _ w (hx x (by simp [ho, Op.operands]))
    exact ⟨v, by simp only [execOp, ho]; exact run_value hr, hv⟩
  | field t x f =>
    simp only [evOp, ho] at h
    obtain ⟨av, hk, hs⟩ := evField_sound h
    refine ⟨av, hk, fun μ ρ a w hx => ?_⟩
    obtain ⟨v, hr, hv⟩ := hs μ ρ _ w (hx x (by simp [ho, Op.operands]))
    exact ⟨v, by simp only [execOp, ho]; exact run_value hr, hv⟩
  | index t x i =>
    simp only [evOp, ho] at h
    obtain ⟨av, hk, hs⟩ := evIndex_sound h
    refine ⟨av, hk, fun μ ρ a w hx => ?_⟩
    obtain ⟨v, hr, hv⟩ := hs μ ρ _ _ w (hx x (by simp [ho, Op.operands])) (hx i (by simp [ho, Op.operands]))
    exact ⟨v, by simp only [execOp, ho]; exact run_value hr, hv⟩
  | extract x i =>
    simp only [evOp, ho] at h
    split at h
    · rename_i vs hg
      replace h := cond_some h
      obtain ⟨hb, h⟩ := h
      have hlt : i < vs.length := by simpa [Nat.blt_eq] using hb
      refine ⟨_, h, fun μ ρ a w hx => ?_⟩
      have h1 := hx x (by simp [ho, Op.operands])
      rw [hg] at h1
      generalize hv : a.eval x = v at h1
      cases h1 with
      | c h2 => cases h2 with | d hd => cases hd
      | @tup _ us hl hu =>
        have hlt' : i < us.length := by omega
        refine ⟨us[i], ?_, ?_⟩
        · simp only [execOp, ho, hv]
          refine run_value ?_
          simp only [Instr.extract, List.getElem?_toArray, List.getElem?_eq_getElem hlt', Sem.run_pure]
        · simp only [cellAt, List.getD_eq_getElem?_getD, List.getElem?_eq_getElem hlt, Option.getD_some]
          exact hu i _ _ (List.getElem?_eq_getElem hlt) (List.getElem?_eq_getElem hlt')
    · cases h
  | makeFunc fn first caps =>
    cases fn with
    | func f =>
      simp only [evOp, ho] at h
      replace h := cond_some h
      obtain ⟨hb, h⟩ := h
      simp only [Bool.and_eq_true, List.all_eq_true] at hb
      refine ⟨_, h, fun μ ρ a w hx => ?_⟩
      refine ⟨.func (.func f) (first.toList.map a.eval).toArray (caps.toList.map a.eval).toArray, ?_, ?_⟩
      · simp only [execOp, ho]
        refine run_value ?_
        simp only [Instr.makeFunc, Sem.run_pure]
        congr 2 <;> (apply Array.ext'; simp)
      · refine .c (.clo (by simp) (by simp) (fun k u v hu hv => ?_) (fun k u v hu hv => ?_))
        · have hm := List.mem_of_getElem? hu
          simp only [List.getElem?_map, Option.map_eq_some_iff] at hu hv
          obtain ⟨x, hx1, hx2⟩ := hu
          obtain ⟨y, hy1, hy2⟩ := hv
          rw [hx1] at hy1; injection hy1 with hy1; subst hy1; subst hx2; subst hy2
          refine (hx x ?_).cell (hb.1 _ hm)
          rw [ho]; simp only [Op.operands, Array.mem_append]
          exact .inl (Array.mem_toList_iff.1 (List.mem_of_getElem? hx1))
        · have hm := List.mem_of_getElem? hu
          simp only [List.getElem?_map, Option.map_eq_some_iff] at hu hv
          obtain ⟨x, hx1, hx2⟩ := hu
          obtain ⟨y, hy1, hy2⟩ := hv
          rw [hx1] at hy1; injection hy1 with hy1; subst hy1; subst hx2; subst hy2
          refine (hx x ?_).cell (hb.2 _ hm)
          rw [ho]; simp only [Op.operands, Array.mem_append]
          exact .inr (Array.mem_toList_iff.1 (List.mem_of_getElem? hx1))
    | _ => simp only [evOp, ho] at h; cases h
  | call c =>
    simp only [opClass, ho] at hc
    split at hc
    · cases hc
    · rename_i hcal
      simp only [evOp, ho, hcal] at h
      split at h
      · rename_i x y hargs
        split at h
        · rename_i av he
          refine ⟨av, h, fun μ ρ a w hx => ?_⟩
          have hargs' := args_list hargs
          have hx1 := hx x (by simp [ho, Op.operands, Call.operands, hcal, hargs'])
          have hx2 := hx y (by simp [ho, Op.operands, Call.operands, hcal, hargs'])
          obtain ⟨cs, hb⟩ := run_builtin (P := P) ho hcal a
          unfold evMin2 at he
          split at he
          · rename_i k p k' q hp hq
            rw [hp] at hx1; rw [hq] at hx2
            injection he with he; subst he
            refine ⟨_, ?_, .int _ _⟩
            rw [hb, hargs']
            simp only [builtin]
            refine run_value ?_
            simp [Builtin.min_, hx1.v_eq, hx2.v_eq, Builtin.min2]
          · cases he
        · cases h
      · cases h
    · rename_i hcal
      simp only [evOp, ho, hcal] at h
      split at h
      · rename_i x y hargs
        split at h
        · rename_i av he
          refine ⟨av, h, fun μ ρ a w hx => ?_⟩
          have hargs' := args_list hargs
          have hx1 := hx x (by simp [ho, Op.operands, Call.operands, hcal, hargs'])
          have hx2 := hx y (by simp [ho, Op.operands, Call.operands, hcal, hargs'])
          obtain ⟨cs, hb⟩ := run_builtin (P := P) ho hcal a
          unfold evMax2 at he
          split at he
          · rename_i k p k' q hp hq
            rw [hp] at hx1; rw [hq] at hx2
            injection he with he; subst he
            refine ⟨_, ?_, .int _ _⟩
            rw [hb, hargs']
            simp only [builtin]
            refine run_value ?_
            simp [Builtin.max_, hx1.v_eq, hx2.v_eq, Builtin.max2]
          · cases he
        · cases h
      · cases h
    · split at hc
      · exact (cls_ne (m := 1) (n := 0) hc).elim
      · cases hc
    · cases hc
  | buildSlice t n ps =>
    simp only [opClass, ho] at hc
    split at hc
    · exact (cls_ne (m := 0) (n := 1) hc).elim
    · cases hc
  | makeSlice t x y =>
    simp only [opClass, ho] at hc
    split at hc
    · exact (cls_ne (m := 0) (n := 1) hc).elim
    · cases hc
  | convert a b x =>
    simp only [opClass, ho] at hc
    cases hs : slsl P a b <;> rw [hs] at hc <;> cases hc
  | slice t x lo hi mx =>
    simp only [opClass, ho] at hc
    cases hs : eatB C o <;> rw [hs] at hc <;> cases hc
  | _ => first | (simp only [opClass, ho] at hc; cases hc; done) | (simp [opClass, ho] at hc)
end
end
end Go.Ev
