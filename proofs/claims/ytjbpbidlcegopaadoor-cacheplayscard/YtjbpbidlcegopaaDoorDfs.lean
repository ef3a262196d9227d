/- slices.DeleteFunc at rows of pages: what is told of it. -/
import Derived.Test.YtjbpbidlcegopaaDoorDfw
set_option linter.all false
namespace Go.Proofs.YtjbpbidlcegopaaDoor
open Go.RowKit Go.Shelf Go.Lib Go.Ev
def TellS (P : Program) (f : FuncId) (g : List AV → Option (List AV)) : Prop := ∀ bs rs, g bs = some rs → ∃ fn, P.funcs[f]? = some fn ∧
    ∀ (w : World) (μ : Mu) (F : List Nat) (G vals : List Value), (∀ b o, μ b = some o → w.heap[b]? = some o) → B2s μ (hf w) F G bs vals → F.Nodup → (hg : Gl.ok μ) →
      Calls P f vals.toArray w fun e w' => ∃ (ra ro : List AV) (vs : List Value) (μ' : Mu) (F1 F2 : List Nat) (G1 : List Value), rs = ra ++ ro ∧ ra.length = fn.resultTypes.size ∧ e = .returned (retV vs) ∧ Frm ⟨w, (· ∈ F), μ, hg⟩ μ' w' ∧
        (∀ b o, μ' b = some o → w'.heap[b]? = some o) ∧ B2s μ' (hf w') F1 G1 ra vs ∧ B1s μ' (hf w') F2 G ro G ∧ (F1 ++ F2).Nodup ∧ ∀ b ∈ F1 ++ F2, b ∈ F ∨ w.heap.size ≤ b
theorem b2s_cons {μ : Mu} {hp : HF} {F : List Nat} {G : List Value} {a : AV} {cs : List AV} {vs : List Value} (h : B2s μ hp F G (a :: cs) vs) : ∃ F1 F2 G1 G2 v vs', F = F1 ++ F2 ∧ G = G1 ++ G2 ∧ vs = v :: vs' ∧ B2 μ hp F1 G1 a v ∧ B2s μ hp F2 G2 cs vs' := by
  cases h with
  | cons h k => exact ⟨_, _, _, _, _, _, rfl, rfl, rfl, h, k⟩
theorem b2s_nil {μ : Mu} {hp : HF} {F : List Nat} {G : List Value} {vs : List Value} (h : B2s μ hp F G [] vs) : F = [] ∧ G = [] ∧ vs = [] := by
  cases h; exact ⟨rfl, rfl, rfl⟩
theorem b2_owx {μ : Mu} {hp : HF} {F : List Nat} {G : List Value} {n : Bool} {T sz : Nat} {xs : List (List AV)} {v : Value} (h : B2 μ hp F G (.ow n T sz xs) v) : B0 μ hp F (.ow n T sz xs) v ∧ G = [] := by
  cases h with
  | o h => cases h with
    | c h => exact ⟨h, rfl⟩
theorem b2_clo {μ : Mu} {hp : HF} {F : List Nat} {G : List Value} {k : FuncId} {caps : List AV} {v : Value} (h : B2 μ hp F G (.clo k [] caps) v) (hc : caps = [] ∨ ∃ c o, caps = [.ep c o]) : ∃ cs : List Value, v = .func (.func k) #[] cs.toArray ∧ F = [] ∧ G = [] ∧ DRs μ caps cs := by
  cases h with
  | o h => cases h with
    | c h => cases h with
      | d h => cases h with
        | clo h1 h2 h3 h4 =>
          have := List.eq_nil_of_length_eq_zero h1
          subst this
          exact ⟨_, rfl, rfl, rfl, h2, h4⟩
  | clo h1 h =>
    rename_i fs cs
    have e : fs = [] := List.eq_nil_of_length_eq_zero h1.1
    subst e
    rcases hc with rfl | ⟨c, o, rfl⟩
    · cases h
      exact ⟨[], rfl, rfl, rfl, rfl, fun k u v hu _ => by simp at hu⟩
    · cases h with
      | cons h k =>
        cases k
        cases h with
        | c h => cases h with
          | d h =>
            refine ⟨_, rfl, rfl, rfl, rfl, fun k u v hu hv => ?_⟩
            cases k with
            | zero => simp at hu hv; subst hu; subst hv; exact h
            | succ k => simp at hu
def isPg (e : List AV) : Bool := Nat.beq e.length 9 && (isI .i64 (cellAt e 0) && (isI .u64 (cellAt e 1) && (isI .u64 (cellAt e 2) && (isI .u64 (cellAt e 3) && (isI .u64 (cellAt e 4) && (isI .u64 (cellAt e 5) && (isI .u64 (cellAt e 6) && (isI .u64 (cellAt e 7) && isI .u64 (cellAt e 8)))))))))
def pgN (e : List AV) (k : Nat) : Int := avInt (cellAt e k)
def rowOf (y : Nat → Int) : List AV := [.v (.int .i64 (y 0)), .v (.int .u64 (y 1)), .v (.int .u64 (y 2)), .v (.int .u64 (y 3)), .v (.int .u64 (y 4)), .v (.int .u64 (y 5)), .v (.int .u64 (y 6)), .v (.int .u64 (y 7)), .v (.int .u64 (y 8))]
theorem isPg_row {e : List AV} (h : isPg e = true) : e = rowOf (pgN e) := by
  simp only [isPg, Bool.and_eq_true] at h
  obtain ⟨h, h0, h1, h2, h3, h4, h5, h6, h7, h8⟩ := h
  have hl := Nat.eq_of_beq_eq_true h
  match e, hl with
  | [a0, a1, a2, a3, a4, a5, a6, a7, a8], _ =>
    simp only [cellAt, List.getD_cons_zero, List.getD_cons_succ] at h0 h1 h2 h3 h4 h5 h6 h7 h8
    simp only [rowOf, pgN, cellAt, List.getD_cons_zero, List.getD_cons_succ]
    rw [← isI_eq h0, ← isI_eq h1, ← isI_eq h2, ← isI_eq h3, ← isI_eq h4, ← isI_eq h5, ← isI_eq h6, ← isI_eq h7, ← isI_eq h8]
def keepM (call : FuncId → List AV → Option (List AV)) (k : FuncId) (caps : List AV) : List (List AV) → Option (List (List AV))
  | [] => some []
  | x :: r => match call k (.agg x :: caps), keepM call k caps r with
    | some [.v (.bool d)], some ys => some (bif d then ys else x :: ys)
    | _, _ => none
def okCl (k : FuncId) (caps : List AV) : Bool := (Nat.beq k 30 || Nat.beq k 34) && (match caps with | [] => true | [.ep _ _] => true | _ => false)
def dfG (call : FuncId → List AV → Option (List AV)) (bs : List AV) : Option (List AV) :=
  match bs with
  | [.ow nl 42 9 xs, .clo k [] caps] => bif okCl k caps && (xs.all isPg && decide (xs.length ≤ 1000000)) then (keepM call k caps xs).map fun ys => [.ow (nl && ys.isEmpty) 42 9 ys] else none
  | _ => none
def kept : List (List AV) → List Bool → List (List AV)
  | x :: xs, d :: ds => bif d then kept xs ds else x :: kept xs ds
  | _, _ => []
theorem keepM_kept {call : FuncId → List AV → Option (List AV)} {k : FuncId} {caps : List AV} : ∀ {xs ys : List (List AV)}, keepM call k caps xs = some ys → ∃ ds : List Bool, ds.length = xs.length ∧ ys = kept xs ds ∧ ∀ (i : Nat) (x : List AV) (d : Bool), xs[i]? = some x → ds[i]? = some d → call k (.agg x :: caps) = some [.v (.bool d)]
  | [], ys, h => by
    simp only [keepM, Option.some.injEq] at h
    exact ⟨[], rfl, h.symm, fun i x d hx => by simp at hx⟩
  | x :: xs, ys, h => by
    simp only [keepM] at h
    split at h
    · rename_i d zs hc hz
      simp only [Option.some.injEq] at h
      obtain ⟨ds, h1, h2, h3⟩ := keepM_kept hz
      refine ⟨d :: ds, by simp [h1], by rw [← h, h2]; rfl, fun i y e hy he => ?_⟩
      cases i with
      | zero => simp at hy he; subst hy; subst he; exact hc
      | succ i => exact h3 i y e (by simpa using hy) (by simpa using he)
    · cases h
theorem kept_take : ∀ (xs : List (List AV)) (ds : List Bool) (j : Nat) (x : List AV) (d : Bool), xs[j]? = some x → ds[j]? = some d → kept (xs.take (j + 1)) (ds.take (j + 1)) = kept (xs.take j) (ds.take j) ++ (bif d then [] else [x])
  | [], _, j, x, d, h, _ => by simp at h
  | _ :: _, [], j, x, d, _, h => by simp at h
  | y :: xs, e :: ds, 0, x, d, h1, h2 => by
    simp at h1 h2; subst h1; subst h2
    cases e <;> simp [kept]
  | y :: xs, e :: ds, j + 1, x, d, h1, h2 => by
    have ih := kept_take xs ds j x d (by simpa using h1) (by simpa using h2)
    simp only [List.take_succ_cons, kept]
    rw [ih]
    cases e <;> rfl
theorem kept_none : ∀ (xs : List (List AV)) (ds : List Bool), ds.length = xs.length → (∀ i, i < xs.length → ds.getD i false = false) → kept xs ds = xs
  | [], ds, _, _ => by cases ds <;> rfl
  | x :: xs, [], h, _ => by simp at h
  | x :: xs, d :: ds, h, hd => by
    have h0 := hd 0 (by simp)
    simp at h0; subst h0
    show x :: kept xs ds = x :: xs
    rw [kept_none xs ds (by simpa using h) fun i hi => by simpa using hd (i + 1) (by simpa using hi)]
theorem RowD_set {μ : Mu} {sz : Nat} {L : List (List AV)} {cur : Array Value} {i j : Nat} {e : List AV} {a : AV} {v : Value} (h : RowD μ sz L cur) (he : L[i]? = some e) (hj : j < sz) (hd : DR μ a v) : RowD μ sz (L.set i (e.set j a)) (cur.setIfInBounds (i * sz + j) v) := by
  have hel : e.length = sz := h.1 e (List.mem_of_getElem? he)
  have hi := (List.getElem?_eq_some_iff.1 he).1
  refine ⟨fun x hx => ?_, fun i' e' j' c h1 h2 => ?_⟩
  · rcases List.mem_or_eq_of_mem_set hx with hx | hx
    · exact h.1 x hx
    · rw [hx, List.length_set]; exact hel
  · have hcj : ∀ (i' j' : Nat) (e' : List AV) (c : AV), L[i']? = some e' → e'[j']? = some c → i' * sz + j' < cur.size ∧ j' < sz := fun i' j' e' c h1 h2 => by
      obtain ⟨u, hu, _⟩ := h.2 i' e' j' c h1 h2
      have := h.1 e' (List.mem_of_getElem? h1)
      have := (List.getElem?_eq_some_iff.1 h2).1
      exact ⟨(Array.getElem?_eq_some_iff.1 hu).1, by omega⟩
    have hin : i * sz + j < cur.size := (hcj i j e _ he (List.getElem?_eq_getElem (by omega : j < e.length))).1
    rw [List.getElem?_set] at h1
    by_cases hii : i = i'
    · subst hii
      rw [if_pos rfl, if_pos hi] at h1
      obtain rfl := Option.some.inj h1
      rw [List.getElem?_set] at h2
      by_cases hjj : j = j'
      · subst hjj
        rw [if_pos rfl, if_pos (by omega)] at h2
        obtain rfl := Option.some.inj h2
        exact ⟨v, by rw [Array.getElem?_setIfInBounds, if_pos rfl, if_pos hin], hd⟩
      · rw [if_neg hjj] at h2
        obtain ⟨u, hu, hd'⟩ := h.2 i e j' c he h2
        refine ⟨u, ?_, hd'⟩
        rw [Array.getElem?_setIfInBounds, if_neg (by omega)]; exact hu
    · rw [if_neg hii] at h1
      obtain ⟨u, hu, hd'⟩ := h.2 i' e' j' c h1 h2
      refine ⟨u, ?_, hd'⟩
      have hj2 := (hcj i' j' e' c h1 h2).2
      have hne : i * sz + j ≠ i' * sz + j' := by
        intro heq
        rcases Nat.lt_trichotomy i i' with h3 | h3 | h3
        · have := Nat.mul_le_mul_right sz (show i + 1 ≤ i' by omega)
          rw [Nat.succ_mul] at this; omega
        · exact hii h3
        · have := Nat.mul_le_mul_right sz (show i' + 1 ≤ i by omega)
          rw [Nat.succ_mul] at this; omega
      rw [Array.getElem?_setIfInBounds, if_neg hne]; exact hu
theorem cell_at {W : World} {B j : Nat} {cur : Array Value} {ty : Nat} {v : Value} (h : W.heap[B]? = some (.cells cur ty (0, 0))) (hv : cur[j]? = some v) : W.cell? ⟨B, j, none⟩ = some v := by
  simp [World.cell?, h, hv]
theorem fro_at {W : World} {B : Nat} {cur : Array Value} {ty : Nat} (h : W.heap[B]? = some (.cells cur ty (0, 0))) (j : Nat) : W.frozen? ⟨B, j, none⟩ = false := by
  simp [World.frozen?, h]
structure DS (w : World) (μ : Mu) (b c : Nat) (L : List (List AV)) (W : World) : Prop where
  os : W.os = w.os
  tape : W.tape = w.tape
  output : W.output = w.output
  size : w.heap.size ≤ W.heap.size
  keep : ∀ x, x < w.heap.size → x ≠ b → W.heap[x]? = w.heap[x]?
  row : ∃ cur : Array Value, W.heap[b]? = some (.cells cur 42 (0, 0)) ∧ cur.size = c * 9 ∧ RowD μ 9 L cur
section
variable {w W W' : World} {μ : Mu} {b c : Nat} {L : List (List AV)}
theorem DS.imm (h : DS w μ b c L W) (himm : ∀ x o, μ x = some o → w.heap[x]? = some o) (hb : μ b = none) : ∀ x o, μ x = some o → W.heap[x]? = some o := fun x o hx => by
  have h0 := himm x o hx
  rw [h.keep x (Array.getElem?_eq_some_iff.1 h0).1 (fun e => by rw [e, hb] at hx; cases hx)]
  exact h0
theorem DS.next (h : DS w μ b c L W) (ho : W'.os = W.os) (ht : W'.tape = W.tape) (hu : W'.output = W.output) (hz : W.heap.size ≤ W'.heap.size) (hk : ∀ x, x < W.heap.size → W'.heap[x]? = W.heap[x]?) : DS w μ b c L W' := by
  obtain ⟨cur, h1, h2, h3⟩ := h.row
  exact ⟨ho.trans h.os, ht.trans h.tape, hu.trans h.output, Nat.le_trans h.size hz, fun x hx hb => by rw [hk x (Nat.lt_of_lt_of_le hx h.size)]; exact h.keep x hx hb,
    cur, by rw [hk b (Array.getElem?_eq_some_iff.1 h1).1]; exact h1, h2, h3⟩
theorem DS.set1 (h : DS w μ b c L W) {i j : Nat} {e : List AV} (he : L[i]? = some e) (hj : j < 9) {v : Value} (hv : okC (.v v) = true) (hc : L.length ≤ c) : St1 W b (i * 9 + j) v (W.setCell ⟨b, i * 9 + j, none⟩ v) ∧ DS w μ b c (L.set i (e.set j (.v v))) (W.setCell ⟨b, i * 9 + j, none⟩ v) := by
  obtain ⟨cur, h1, h2, h3⟩ := h.row
  have hi := (List.getElem?_eq_some_iff.1 he).1
  have hin : i * 9 + j < cur.size := by omega
  refine ⟨⟨fro_at h1 _, ⟨cur[i * 9 + j], cell_at h1 (Array.getElem?_eq_getElem hin)⟩, rfl⟩, ?_⟩
  rw [setCell_eq_setRow W _ _ cur 42 _ v h1]
  exact ⟨h.os, h.tape, h.output, by rw [setRow_size]; exact h.size, fun x hx hb => by rw [heap_keep (fun e => hb e.symm)]; exact h.keep x hx hb,
    _, setRow_heap _ _ _ _ _ _ h1, by rw [Array.size_setIfInBounds]; exact h2, RowD_set h3 he hj (.v hv)⟩
theorem set_set9 {i : Nat} {e e' : List AV} (he : L[i]? = some e) : (L.set i e')[i]? = some e' := by
  rw [List.getElem?_set, if_pos rfl, if_pos (List.getElem?_eq_some_iff.1 he).1]
theorem DS.st9 (h : DS w μ b c L W) {i : Nat} {e : List AV} (he : L[i]? = some e) (hl : e.length = 9) (hc : L.length ≤ c) (y : Nat → Int) : ∃ W', St9 W b (i * 9) y W' ∧ DS w μ b c (L.set i (rowOf y)) W' := by
  have s0 := h.set1 he (j := 0) (by omega) (v := .int .i64 (y 0)) rfl hc
  have s1 := s0.2.set1 (set_set9 he) (j := 1) (by omega) (v := .int .u64 (y 1)) rfl (by rw [List.length_set]; exact hc)
  rw [List.set_set] at s1
  have s2 := s1.2.set1 (set_set9 he) (j := 2) (by omega) (v := .int .u64 (y 2)) rfl (by rw [List.length_set]; exact hc)
  rw [List.set_set] at s2
  have s3 := s2.2.set1 (set_set9 he) (j := 3) (by omega) (v := .int .u64 (y 3)) rfl (by rw [List.length_set]; exact hc)
  rw [List.set_set] at s3
  have s4 := s3.2.set1 (set_set9 he) (j := 4) (by omega) (v := .int .u64 (y 4)) rfl (by rw [List.length_set]; exact hc)
  rw [List.set_set] at s4
  have s5 := s4.2.set1 (set_set9 he) (j := 5) (by omega) (v := .int .u64 (y 5)) rfl (by rw [List.length_set]; exact hc)
  rw [List.set_set] at s5
  have s6 := s5.2.set1 (set_set9 he) (j := 6) (by omega) (v := .int .u64 (y 6)) rfl (by rw [List.length_set]; exact hc)
  rw [List.set_set] at s6
  have s7 := s6.2.set1 (set_set9 he) (j := 7) (by omega) (v := .int .u64 (y 7)) rfl (by rw [List.length_set]; exact hc)
  rw [List.set_set] at s7
  have s8 := s7.2.set1 (set_set9 he) (j := 8) (by omega) (v := .int .u64 (y 8)) rfl (by rw [List.length_set]; exact hc)
  rw [List.set_set] at s8
  refine ⟨_, ⟨_, _, _, _, _, _, _, _, s0.1, s1.1, s2.1, s3.1, s4.1, s5.1, s6.1, s7.1, s8.1⟩, ?_⟩
  have e9 : ((((((((e.set 0 (.v (.int .i64 (y 0)))).set 1 (.v (.int .u64 (y 1)))).set 2 (.v (.int .u64 (y 2)))).set 3 (.v (.int .u64 (y 3)))).set 4 (.v (.int .u64 (y 4)))).set 5 (.v (.int .u64 (y 5)))).set 6 (.v (.int .u64 (y 6)))).set 7 (.v (.int .u64 (y 7)))).set 8 (.v (.int .u64 (y 8))) = rowOf y := by
    match e, hl with
    | [_, _, _, _, _, _, _, _, _], _ => rfl
  rw [e9] at s8
  exact s8.2
theorem DS.at9 (h : DS w μ b c L W) {i : Nat} {y : Nat → Int} (he : L[i]? = some (rowOf y)) : At9 W b (i * 9) y := by
  obtain ⟨cur, h1, h2, h3⟩ := h.row
  have hx : ∀ (j : Nat) (v : Value), (rowOf y)[j]? = some (.v v) → W.cell? ⟨b, i * 9 + j, none⟩ = some v := fun j v hj => by
    obtain ⟨u, hu, hd⟩ := h3.2 i _ j _ he hj
    cases hd
    exact cell_at h1 hu
  exact ⟨hx 0 _ rfl, hx 1 _ rfl, hx 2 _ rfl, hx 3 _ rfl, hx 4 _ rfl, hx 5 _ rfl, hx 6 _ rfl, hx 7 _ rfl, hx 8 _ rfl⟩
end
theorem drs_b2s {μ : Mu} {hp : HF} : ∀ {l : List AV} {vs : List Value}, DRs μ l vs → B2s μ hp [] [] l vs
  | [], vs, h => by
    have : vs = [] := List.eq_nil_of_length_eq_zero h.1
    subst this; exact .nil
  | a :: l, [], h => by have := h.1; simp at this
  | a :: l, v :: vs, h => .cons (F := []) (G := []) (.o (.c (.d (h.2 0 a v rfl rfl)))) (drs_b2s ⟨by simpa using h.1, fun k u x hu hx => h.2 (k + 1) u x (by simpa using hu) (by simpa using hx)⟩)
theorem clo_call {call : FuncId → List AV → Option (List AV)} (HS : CallS Tryd.prog call) {k : FuncId} (hone : ∀ fn, Tryd.prog.funcs[k]? = some fn → fn.resultTypes.size = 1) {caps : List AV} {cs : List Value} {μ : Mu} (hg : Gl.ok μ) (hd : DRs μ caps cs) {y : Nat → Int} {d : Bool} (hc : call k (.agg (rowOf y) :: caps) = some [.v (.bool d)]) (W : World) (himm : ∀ x o, μ x = some o → W.heap[x]? = some o) :
    Calls Tryd.prog k (#[.agg (nine y)] ++ cs.toArray) W fun e w' => e = .returned (.bool d) ∧ w'.os = W.os ∧ w'.tape = W.tape ∧ w'.output = W.output ∧ W.heap.size ≤ w'.heap.size ∧ ∀ x, x < W.heap.size → w'.heap[x]? = W.heap[x]? := by
  obtain ⟨fn, hfn, hspec⟩ := HS _ _ _ hc
  have hb1 : B1s μ (hf W) [] [] (rowOf y) (nine y).toList := .cons (F := []) (G := []) (.c (.d (.v rfl))) (.cons (F := []) (G := []) (.c (.d (.v rfl))) (.cons (F := []) (G := []) (.c (.d (.v rfl))) (.cons (F := []) (G := []) (.c (.d (.v rfl))) (.cons (F := []) (G := []) (.c (.d (.v rfl))) (.cons (F := []) (G := []) (.c (.d (.v rfl))) (.cons (F := []) (G := []) (.c (.d (.v rfl))) (.cons (F := []) (G := []) (.c (.d (.v rfl))) (.cons (F := []) (G := []) (.c (.d (.v rfl))) .nil))))))))
  have hB : B2s μ (hf W) [] [] (.agg (rowOf y) :: caps) (.agg (nine y).toList.toArray :: cs) := .cons (F := []) (G := []) (.agg hb1) (drs_b2s hd)
  have h := hspec W μ [] [] _ himm hB List.nodup_nil hg
  have e : (Value.agg (nine y).toList.toArray :: cs).toArray = #[.agg (nine y)] ++ cs.toArray := by simp
  rw [e] at h
  refine h.mono ?_
  rintro e w' ⟨ra, ro, vs, μ', F1, F2, G1, h1, h2, rfl, hF, _, h3, h4, _, _⟩
  rw [hone fn hfn] at h2
  have hra : ra = [.v (.bool d)] := by
    obtain ⟨x, hx⟩ := List.length_eq_one_iff.1 h2
    subst hx
    simp at h1
    rw [h1.1]
  subst hra
  have hvs : vs = [.bool d] := by
    cases h3 with
    | cons a b =>
      cases b
      cases a with
      | o a => cases a with
        | c a => cases a with
          | d a => cases a with
            | v => rfl
  subst hvs
  exact ⟨rfl, hF.os, hF.tape, hF.output, hF.size, fun x hx => hF.keep x hx (by simp)⟩
theorem eg30 (args : Array Value) (w : World) : (callFunc 30 args).run Tryd.prog w = .ok (.enter 30 args) w := (enters_of Tryd.func30 (by kernel_rfl) rfl) args w
theorem eg34 (args : Array Value) (w : World) : (callFunc 34 args).run Tryd.prog w = .ok (.enter 34 args) w := (enters_of Tryd.func34 (by kernel_rfl) rfl) args w
set_option maxRecDepth 100000 in
theorem df_told {call : FuncId → List AV → Option (List AV)} (HS : CallS Tryd.prog call) : TellS Tryd.prog 29 (dfG call) := by
  intro bs rs h
  unfold dfG at h
  split at h
  · rename_i nl xs k caps
    obtain ⟨hc, h2⟩ := cond_some h
    clear h
    simp only [Bool.and_eq_true, decide_eq_true_eq] at hc
    obtain ⟨hcl, hpg, hlen⟩ := hc
    obtain ⟨ys, hk, rfl⟩ := Option.map_eq_some_iff.1 h2
    clear h2
    obtain ⟨ds, hdl, hys, hd⟩ := keepM_kept hk
    have hsz : (1 : Nat) = Tryd.f29.resultTypes.size := by kernel_rfl
    refine ⟨Tryd.f29, Tryd.func29, fun w μ F G vals himm hB hnd hg => ?_⟩
    obtain ⟨F1, F2, G1, G2, v, vs', rfl, rfl, rfl, b1, b2⟩ := b2s_cons hB
    obtain ⟨F3, F4, G3, G4, v', vs'', rfl, rfl, rfl, b3, b4⟩ := b2s_cons b2
    obtain ⟨rfl, rfl, rfl⟩ := b2s_nil b4
    obtain ⟨b0, rfl⟩ := b2_owx b1
    clear b1 b2 hB
    have hcc : (k = 30 ∨ k = 34) ∧ (caps = [] ∨ ∃ c o, caps = [.ep c o]) := by
      unfold okCl at hcl
      simp only [Bool.and_eq_true, Bool.or_eq_true] at hcl
      refine ⟨hcl.1.imp Nat.eq_of_beq_eq_true Nat.eq_of_beq_eq_true, ?_⟩
      have := hcl.2
      split at this
      · exact .inl rfl
      · exact .inr ⟨_, _, rfl⟩
      · cases this
    obtain ⟨cs, rfl, rfl, rfl, hdr⟩ := b2_clo b3 hcc.2
    have hone : ∀ fn, Tryd.prog.funcs[k]? = some fn → fn.resultTypes.size = 1 := by
      rcases hcc.1 with rfl | rfl
      · intro fn hfn
        obtain rfl := Option.some.inj (Tryd.func30.symm.trans hfn)
        kernel_rfl
      · intro fn hfn
        obtain rfl := Option.some.inj (Tryd.func34.symm.trans hfn)
        kernel_rfl
    have eg : ∀ args w, (callFunc k args).run Tryd.prog w = .ok (.enter k args) w := by
      rcases hcc.1 with rfl | rfl
      · exact eg30
      · exact eg34
    cases b0 with
    | own =>
      have : ys = [] := by rw [hys]; cases ds <;> rfl
      subst this
      refine (df_nil k cs.toArray w).mono ?_
      rintro e w' ⟨rfl, rfl⟩
      exact ⟨[.ow true 42 9 []], [], [_], μ, [], [], [], rfl, hsz, rfl, ⟨rfl, rfl, rfl, Nat.le_refl _, fun _ _ _ => rfl, MuLe.refl μ, fun _ _ h => .inl h⟩, himm, .cons (F := []) (F' := []) (G := []) (G' := []) (.o (.c .own)) .nil, .nil, by simp, fun b hb => by simp at hb⟩
    | @ow b cap _ _ _ cur h hm hcp hs hr =>
      have hH := has_own h
      have hb : b < w.heap.size := (Array.getElem?_eq_some_iff.1 hH).1
      obtain ⟨x, hx⟩ : ∃ x : Nat → Nat → Int, x = fun i => pgN (xs.getD i []) := ⟨_, rfl⟩
      obtain ⟨d, hdd⟩ : ∃ d : Nat → Bool, d = fun i => ds.getD i false := ⟨_, rfl⟩
      have hxr : ∀ i, i < xs.length → xs[i]? = some (rowOf (x i)) := fun i hi => by
        rw [List.getElem?_eq_getElem hi, hx]
        have := isPg_row (List.all_eq_true.1 hpg xs[i] (List.getElem_mem hi))
        simp only [List.getD_eq_getElem?_getD, List.getElem?_eq_getElem hi, Option.getD_some]
        rw [← this]
      have hdr' : ∀ i, i < xs.length → ds[i]? = some (d i) := fun i hi => by
        rw [hdd]
        simp only [List.getD_eq_getElem?_getD]
        rw [List.getElem?_eq_getElem (by omega)]; rfl
      have hcall : ∀ i, i < xs.length → call k (.agg (rowOf (x i)) :: caps) = some [.v (.bool (d i))] := fun i hi => hd i _ _ (hxr i hi) (hdr' i hi)
      have start : DS w μ b cap xs w := ⟨rfl, rfl, rfl, Nat.le_refl _, fun _ _ _ => rfl, cur, hH, hs.symm, hr⟩
      have hcl : ∀ (L : List (List AV)) W i, i < xs.length → DS w μ b cap L W → Calls Tryd.prog k (#[.agg (nine (x i))] ++ cs.toArray) W fun e w' => e = .returned (.bool (d i)) ∧ DS w μ b cap L w' := fun L W i hi hW =>
        (clo_call HS hone hg hdr (hcall i hi) W (hW.imm himm hm)).mono fun e w' ⟨h1, h2, h3, h4, h5, h6⟩ => ⟨h1, hW.next h2 h3 h4 h5 h6⟩
      refine (df_walk k cs.toArray eg b xs.length cap w x d hlen hcp (fun W => DS w μ b cap xs W) (fun i j W => ∃ L : List (List AV), L.length = xs.length ∧ L.take i = kept (xs.take j) (ds.take j) ∧ L.drop j = xs.drop j ∧ DS w μ b cap L W)
        (fun i W => (kept xs ds).length = i ∧ DS w μ b cap (kept xs ds) W) start (fun W i hi hW => hW.at9 (hxr i hi)) (fun W i hi hW => hcl _ W i hi hW) ?_ ?_ ?_ ?_).mono ?_
      · intro W i hi hdi hbe hW
        refine ⟨xs, rfl, ?_, rfl, hW⟩
        rw [kept_take xs ds i _ _ (hxr i hi) (hdr' i hi), hdi]
        have : kept (xs.take i) (ds.take i) = xs.take i := kept_none _ _ (by simp; omega) fun j hj => by
          rw [List.length_take] at hj
          have hji : j < i := by omega
          have := hbe j hji
          rw [hdd] at this
          rw [List.getD_eq_getElem?_getD, List.getElem?_take, if_pos hji, ← List.getD_eq_getElem?_getD]
          exact this
        rw [this]; simp
      · intro W i j hij hj ⟨L, l1, l2, l3, hW⟩
        refine hW.at9 ?_
        have : L[j]? = (L.drop j)[0]? := by simp
        rw [this, l3]
        simpa using hxr j hj
      · intro W i j hij hj ⟨L, l1, l2, l3, hW⟩
        have hLj : L[j]? = some (rowOf (x j)) := by
          have : L[j]? = (L.drop j)[0]? := by simp
          rw [this, l3]
          simpa using hxr j hj
        have hW2 : DS w μ b cap L (W.alloc (.cells (nine (x j)) 42)) := hW.next rfl rfl rfl (by show W.heap.size ≤ (W.heap.push _).size; rw [Array.size_push]; omega) (fun z hz => Ev.alloc_old W _ z hz)
        refine (clo_call HS hone hg hdr (hcall j hj) _ (hW2.imm himm hm)).mono ?_
        rintro e w' ⟨rfl, h2, h3, h4, h5, h6⟩
        have hW3 := hW2.next h2 h3 h4 h5 h6
        have hnew : w'.heap[W.heap.size]? = some (.cells (nine (x j)) 42) := by
          rw [h6 _ (by show W.heap.size < (W.heap.push _).size; rw [Array.size_push]; omega)]
          exact Ev.alloc_new W _
        refine ⟨rfl, ⟨cell_at hnew rfl, cell_at hnew rfl, cell_at hnew rfl, cell_at hnew rfl, cell_at hnew rfl, cell_at hnew rfl, cell_at hnew rfl, cell_at hnew rfl, cell_at hnew rfl⟩, fun hdj => ?_, fun hdj => ⟨L, l1, ?_, ?_, hW3⟩⟩
        · have hi : i < L.length := by omega
          obtain ⟨W', hs', hW'⟩ := hW3.st9 (List.getElem?_eq_getElem hi) (by
            obtain ⟨_, _, _, hrr⟩ := hW3.row
            exact hrr.1 _ (List.getElem_mem hi)) (by omega) (x j)
          refine ⟨W', hs', L.set i (rowOf (x j)), by rw [List.length_set]; exact l1, ?_, ?_, hW'⟩
          · rw [kept_take xs ds j _ _ (hxr j hj) (hdr' j hj), hdj, ← l2]
            show _ = L.take i ++ [rowOf (x j)]
            rw [List.take_succ_eq_append_getElem (by rw [List.length_set]; exact hi), List.getElem_set_self, List.take_set_of_le (Nat.le_refl _)]
          · rw [List.drop_set_of_lt (by omega)]
            have := congrArg (List.drop 1) l3
            simpa [List.drop_drop, Nat.add_comm] using this
        · rw [kept_take xs ds j _ _ (hxr j hj) (hdr' j hj), hdj, ← l2]; simp
        · have := congrArg (List.drop 1) l3
          simpa [List.drop_drop, Nat.add_comm] using this
      · intro W i hi ⟨L, l1, l2, l3, hW⟩
        obtain ⟨cur2, r1, r2, r3⟩ := hW.row
        rw [List.take_length, show ds.take xs.length = ds from List.take_of_length_le (by omega)] at l2
        have hzz : (Value.agg zc).cells = zc := rfl
        have hzs : zc.size = 9 := rfl
        have hcs := fun ty => clear_row r1 22 42 ty (.agg zc) undE zeroE (i * 9) (xs.length - i) (cap - i) (by omega) (by rw [hzz, hzs]; omega) (by decide)
        refine ⟨_, hcs, ?_, ?_⟩
        · rw [← l2, List.length_take]; omega
        · have hz9 : (Builtin.zeroCells zc (xs.length - i)).toList.length = (xs.length - i) * 9 := by simp [Builtin.zeroCells, hzs]
          refine ⟨hW.os, hW.tape, hW.output, by rw [setRow_size]; exact hW.size, fun z hz hne => by rw [heap_keep (fun e => hne e.symm)]; exact hW.keep z hz hne, _, setRow_heap _ _ _ _ _ _ r1, ?_, ?_⟩
          · rw [wrL_size (by rw [hzz, hz9]; omega)]; exact r2
          · rw [← l2]
            have hlen2 : (L.take i).length = i := by rw [List.length_take]; omega
            refine rowD_pre (L := cur2.toList.take (i * 9)) ?_ (r3.take i)
            rw [hlen2]
            simp only [wrL]
            rw [List.append_assoc, List.take_append_of_le_length (by simp; omega), List.take_take, Nat.min_self]
      · rintro e w' (⟨rfl, hW, hall⟩ | ⟨i, hi, rfl, hki, hW⟩)
        · have : ys = xs := by
            rw [hys]
            exact kept_none xs ds hdl fun i hi => by have := hall i hi; rw [hdd] at this; exact this
          subst this
          obtain ⟨cur2, r1, r2, r3⟩ := hW.row
          exact ⟨[.ow false 42 9 ys], [], [_], μ, [b], [], [], rfl, hsz, rfl, ⟨hW.os, hW.tape, hW.output, hW.size, fun z hz hne => hW.keep z hz (fun e => hne (by simp [e])), MuLe.refl μ, fun _ _ h => .inl h⟩, hW.imm himm hm,
            .cons (F := [b]) (F' := []) (G := []) (G' := []) (.o (.c (.ow ⟨(0, 0), r1, .inl rfl⟩ hm hcp r2.symm r3))) .nil, .nil, by simp, fun z hz => .inl (by simpa using hz)⟩
        · rw [← hys] at hki hW
          subst hki
          obtain ⟨cur2, r1, r2, r3⟩ := hW.row
          exact ⟨[.ow false 42 9 ys], [], [_], μ, [b], [], [], rfl, hsz, rfl, ⟨hW.os, hW.tape, hW.output, hW.size, fun z hz hne => hW.keep z hz (fun e => hne (by simp [e])), MuLe.refl μ, fun _ _ h => .inl h⟩, hW.imm himm hm,
            .cons (F := [b]) (F' := []) (G := []) (G' := []) (.o (.c (.ow ⟨(0, 0), r1, .inl rfl⟩ hm (by omega) r2.symm r3))) .nil, .nil, by simp, fun z hz => .inl (by simpa using hz)⟩
    | d hd => cases hd
  · cases h
end Go.Proofs.YtjbpbidlcegopaaDoor
