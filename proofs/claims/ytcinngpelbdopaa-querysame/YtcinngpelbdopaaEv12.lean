/- Calls of Go's library that are told to the evaluator: what the shelf's contracts say, in the evaluator's words. -/
import Derived.Shelf.Strings.OnBuilder
import Derived.Shelf.Strings.IndexAnyAll
import Derived.Shelf.Spec.SlicesGrow
import Derived.Shelf.SlicesE.Reverse
import Derived.Test.YtcinngpelbdopaaEv11
set_option linter.all false
namespace Go.Ev
open Go Go.Proofs Go.Shelf Go.RowKit
def bs (l : List UInt8) : ByteArray := ⟨l.toArray⟩
def strsOf : List (List AV) → Option (List ByteArray)
  | [] => some []
  | [.v (.string s)] :: r => match strsOf r with | some l => some (s :: l) | none => none
  | _ => none
def joinG : List AV → Option (List AV)
  | [.lst _ _ xs, .v (.string sep)] =>
    match strsOf xs with
    | none => none
    | some ss => cond (decide (ss.length ≤ 1000000) && decide ((Go.Lib.join (ss.map (·.data.toList)) sep.data.toList).length ≤ 100000000)) (some [.v (.string ⟨(Go.Lib.join (ss.map (·.data.toList)) sep.data.toList).toArray⟩)]) none
  | _ => none
def anyG : List AV → Option (List AV)
  | [.v (.string s), .v (.string c)] =>
    cond (decide (s.size < 4294967281) && decide (c.size < 4294967281) && (s.data.toList.all (fun b => decide (b.toNat < 128)) || decide (c.size = 2)) && c.data.toList.all (fun b => decide (b.toNat < 128))) (some [.v (.int .i64 (Go.Lib.indexAny s.data.toList c.data.toList))]) none
  | _ => none
def growG (ty : Nat) : List AV → Option (List AV)
  | [.lst true _ [], .v (.int .i64 n)] => cond (decide (0 < n) && decide (n ≤ 1000000)) (some [.ow false ty 1 []]) none
  | _ => none
def revG (xs : List (List AV)) : Option (List (List AV)) := some xs.reverse
theorem b1_v {μ : Mu} {hp : HF} {F : List Nat} {G : List Value} {x v : Value} (h : B1 μ hp F G (.v x) v) : F = [] ∧ G = [] ∧ v = x := by
  cases h with
  | c h => cases h with
    | d h => cases h with
      | v _ => exact ⟨rfl, rfl, rfl⟩
theorem b1_lst {μ : Mu} {hp : HF} {F : List Nat} {G : List Value} {nil : Bool} {sz : Nat} {xs : List (List AV)} {v : Value} (h : B1 μ hp F G (.lst nil sz xs) v) : F = [] ∧ G = [] ∧ DR μ (.lst nil sz xs) v := by
  cases h with
  | c h => cases h with
    | d h => exact ⟨rfl, rfl, h⟩
theorem b2_v {μ : Mu} {hp : HF} {F : List Nat} {G : List Value} {x v : Value} (h : B2 μ hp F G (.v x) v) : F = [] ∧ G = [] ∧ v = x := by
  cases h with
  | o h => exact b1_v h
theorem b2_lst {μ : Mu} {hp : HF} {F : List Nat} {G : List Value} {nil : Bool} {sz : Nat} {xs : List (List AV)} {v : Value} (h : B2 μ hp F G (.lst nil sz xs) v) : F = [] ∧ G = [] ∧ DR μ (.lst nil sz xs) v := by
  cases h with
  | o h => exact b1_lst h
theorem b2s_cons {μ : Mu} {hp : HF} {F : List Nat} {G : List Value} {a : AV} {cs : List AV} {vs : List Value} (h : B2s μ hp F G (a :: cs) vs) : ∃ F1 F2 G1 G2 v vs', F = F1 ++ F2 ∧ G = G1 ++ G2 ∧ vs = v :: vs' ∧ B2 μ hp F1 G1 a v ∧ B2s μ hp F2 G2 cs vs' := by
  cases h with
  | cons h k => exact ⟨_, _, _, _, _, _, rfl, rfl, rfl, h, k⟩
theorem b2s_nil {μ : Mu} {hp : HF} {F : List Nat} {G : List Value} {vs : List Value} (h : B2s μ hp F G [] vs) : F = [] ∧ G = [] ∧ vs = [] := by
  cases h; exact ⟨rfl, rfl, rfl⟩
def TellS (P : Program) (f : FuncId) (g : List AV → Option (List AV)) : Prop := ∀ bs rs, g bs = some rs → ∃ fn, P.funcs[f]? = some fn ∧
    ∀ (w : World) (μ : Mu) (F : List Nat) (G vals : List Value), (∀ b o, μ b = some o → w.heap[b]? = some o) → B2s μ (hf w) F G bs vals → F.Nodup →
      Calls P f vals.toArray w fun e w' => ∃ (ra ro : List AV) (vs : List Value) (μ' : Mu) (F1 F2 : List Nat) (G1 : List Value), rs = ra ++ ro ∧ ra.length = fn.resultTypes.size ∧ e = .returned (retV vs) ∧ Frm ⟨w, (· ∈ F), μ⟩ μ' w' ∧
        (∀ b o, μ' b = some o → w'.heap[b]? = some o) ∧ B2s μ' (hf w') F1 G1 ra vs ∧ B1s μ' (hf w') F2 G ro G ∧ (F1 ++ F2).Nodup ∧ ∀ b ∈ F1 ++ F2, b ∈ F ∨ w.heap.size ≤ b
section
variable {P : Program}
theorem frm_below {μ : Mu} {w w' : World} (h : Below w.heap.size w w') (himm : ∀ b o, μ b = some o → w.heap[b]? = some o) (F : List Nat) : Frm ⟨w, (· ∈ F), μ⟩ μ w' ∧ ∀ b o, μ b = some o → w'.heap[b]? = some o :=
  ⟨⟨h.os, h.tape, h.output, h.size, fun b hb _ => h.block b hb, MuLe.refl μ, fun _ _ e => .inl e⟩, fun b o e => by
    have h0 := himm b o e
    rw [h.block b (Array.getElem?_eq_some_iff.1 h0).1]; exact h0⟩
theorem tell_one {f : FuncId} {fn : Func} (hsz : fn.resultTypes.size = 1) {x : Value} (hx : okC (.v x) = true) {w : World} {μ : Mu} (himm : ∀ b o, μ b = some o → w.heap[b]? = some o) {vals : Array Value}
    (hc : Calls P f vals w fun e w' => e = .returned x ∧ Below w.heap.size w w') :
    Calls P f vals w fun e w' => ∃ (ra ro : List AV) (vs : List Value) (μ' : Mu) (F1 F2 : List Nat) (G1 : List Value), [AV.v x] = ra ++ ro ∧ ra.length = fn.resultTypes.size ∧ e = .returned (retV vs) ∧ Frm ⟨w, (· ∈ ([] : List Nat)), μ⟩ μ' w' ∧
        (∀ b o, μ' b = some o → w'.heap[b]? = some o) ∧ B2s μ' (hf w') F1 G1 ra vs ∧ B1s μ' (hf w') F2 [] ro [] ∧ (F1 ++ F2).Nodup ∧ ∀ b ∈ F1 ++ F2, b ∈ ([] : List Nat) ∨ w.heap.size ≤ b := by
  refine hc.mono fun e w' he => ?_
  obtain ⟨rfl, hb⟩ := he
  obtain ⟨h1, h2⟩ := frm_below hb himm []
  exact ⟨[.v x], [], [x], μ, [], [], [], rfl, hsz.symm, rfl, h1, h2, .cons (F := []) (F' := []) (G := []) (G' := []) (.o (.c (.d (.v hx)))) .nil, .nil, by simp, by simp⟩
theorem strsOf_len : ∀ (xs : List (List AV)) (ss : List ByteArray), strsOf xs = some ss → ss.length = xs.length ∧ ∀ (j : Nat) s, ss[j]? = some s → xs[j]? = some [.v (.string s)]
  | [], ss, h => by obtain rfl := Option.some.inj h; exact ⟨rfl, fun j s e => by simp at e⟩
  | x :: r, ss, h => by
    unfold strsOf at h
    split at h
    · rename_i e; cases e
    · rename_i s r' e
      injection e with e1 e2
      subst e1; subst e2
      split at h
      · rename_i l hl
        obtain rfl := Option.some.inj h
        obtain ⟨h1, h2⟩ := strsOf_len r l hl
        refine ⟨by simp [h1], fun j s' e => ?_⟩
        cases j with
        | zero => simp at e; subst e; rfl
        | succ j => simpa using h2 j s' (by simpa using e)
      · cases h
    · cases h
theorem join_tell {f : FuncId} {fn : Func} (hfn : P.funcs[f]? = some fn) (hsz : fn.resultTypes.size = 1)
    (h0 : ∀ (a : Option Addr) (c : Nat) (sep : ByteArray) (w : World), Calls P f #[.slice a 0 c, .string sep] w fun e w' => e = .returned (.string ⟨#[]⟩) ∧ w' = w)
    (h1 : ∀ (bk o c : Nat) (xs : List ByteArray) (sep : ByteArray) (w : World) (_ : ∀ (j : Nat) x, xs[j]? = some x → w.cell? ⟨bk, o + j, none⟩ = some (.string x)) (_ : bk < w.heap.size) (_ : xs.length ≤ 140737488355328) (_ : xs.length ≤ c) (_ : (Lib.join (xs.map (·.data.toList)) sep.data.toList).length ≤ 140737488355328),
      Calls P f #[.slice (some ⟨bk, o, none⟩) xs.length c, .string sep] w fun e w' => e = .returned (.string ⟨(Lib.join (xs.map (·.data.toList)) sep.data.toList).toArray⟩) ∧ Below w.heap.size w w') : TellS P f joinG := fun bs rs h => by
  refine ⟨fn, hfn, fun w μ F G vals himm hb hnd => ?_⟩
  unfold joinG at h
  split at h
  · rename_i nil sz xs sep
    split at h
    · cases h
    · rename_i ss hss
      obtain ⟨hc, h⟩ := cond_some h
      obtain rfl := Option.some.inj h
      simp only [Bool.and_eq_true, decide_eq_true_eq] at hc
      obtain ⟨F1, F2, G1, G2, v, vs, rfl, rfl, rfl, b1, b2⟩ := b2s_cons hb
      obtain ⟨F3, F4, G3, G4, v', vs', rfl, rfl, rfl, b3, b4⟩ := b2s_cons b2
      obtain ⟨rfl, rfl, rfl⟩ := b2s_nil b4
      obtain ⟨rfl, rfl, hd⟩ := b2_lst b1
      obtain ⟨rfl, rfl, rfl⟩ := b2_v b3
      obtain ⟨hl, hg⟩ := strsOf_len xs ss hss
      refine tell_one hsz rfl himm ?_
      cases hd with
      | @lst _ _ _ A c cvals hnil hA hcap hesz hcell hv =>
        cases ss with
        | nil =>
          have hx0 : xs.length = 0 := by simpa using hl.symm
          rw [hx0]
          exact (h0 A c sep w).mono fun e w' ⟨e1, e2⟩ => ⟨e1, e2 ▸ Below.refl _ _⟩
        | cons s0 sr =>
          cases A with
          | none => rw [(hA rfl).1] at hl; cases hl
          | some a =>
            have hx0 := hg 0 s0 rfl
            have hs1 : sz = 1 := by have := hesz _ (List.mem_of_getElem? hx0); simpa using this.symm
            subst hs1
            have hlt : 0 < xs.length := (List.getElem?_eq_some_iff.1 hx0).1
            have hc0 := hcell a rfl 0 0 hlt (by decide)
            have hsp : a.spot = none := by
              unfold muCell at hc0
              split at hc0
              · rename_i c t g hm
                split at hc0
                · cases hc0
                · rename_i hsp
                  cases hs : a.spot with
                  | none => rfl
                  | some sp => exact absurd (by simp [Addr.add, hs]) hsp
              · cases hc0
            obtain ⟨b, o, spot⟩ := a
            simp only at hsp
            subst hsp
            have hcl : ∀ (j : Nat) x, (s0 :: sr)[j]? = some x → w.cell? ⟨b, o + j, none⟩ = some (.string x) := fun j x hx => by
              have hj : j < xs.length := by rw [← hl]; exact (List.getElem?_eq_some_iff.1 hx).1
              have h3 := hcell _ rfl j 0 hj (by decide)
              rw [addr_add] at h3
              have h4 := hv j _ 0 _ (hg j x hx) rfl
              have h5 := muCell_cell himm h3
              generalize cvals j 0 = y at h4 h5
              cases h4 with
              | v _ => simpa using h5
            have hbk : b < w.heap.size := by
              have := hcl 0 s0 rfl
              unfold World.cell? at this
              split at this
              · rename_i hh; exact (Array.getElem?_eq_some_iff.1 hh).1
              · cases this
            have := h1 b o c (s0 :: sr) sep w hcl hbk (by omega) (by rw [hl]; exact hcap) (by omega)
            rw [hl] at this
            exact this
  · cases h
theorem any_tell {f : FuncId} {fn : Func} (hfn : P.funcs[f]? = some fn) (hsz : fn.resultTypes.size = 1)
    (h1 : ∀ (s chars : ByteArray) (w : World) (_ : s.size < 4294967281) (_ : chars.size < 4294967281) (_ : (∀ (j : Nat) b, s.data.toList[j]? = some b → b.toNat < 128) ∨ chars.size = 2) (_ : ∀ (j : Nat) b, chars.data.toList[j]? = some b → b.toNat < 128),
      Calls P f #[.string s, .string chars] w fun e w' => e = .returned (.int .i64 (Lib.indexAny s.data.toList chars.data.toList)) ∧ Below w.heap.size w w') : TellS P f anyG := fun bs rs h => by
  refine ⟨fn, hfn, fun w μ F G vals himm hb hnd => ?_⟩
  unfold anyG at h
  split at h
  · rename_i s c
    obtain ⟨hc, h⟩ := cond_some h
    obtain rfl := Option.some.inj h
    simp only [Bool.and_eq_true, Bool.or_eq_true, decide_eq_true_eq, List.all_eq_true] at hc
    obtain ⟨F1, F2, G1, G2, v, vs, rfl, rfl, rfl, b1, b2⟩ := b2s_cons hb
    obtain ⟨F3, F4, G3, G4, v', vs', rfl, rfl, rfl, b3, b4⟩ := b2s_cons b2
    obtain ⟨rfl, rfl, rfl⟩ := b2s_nil b4
    obtain ⟨rfl, rfl, rfl⟩ := b2_v b1
    obtain ⟨rfl, rfl, rfl⟩ := b2_v b3
    exact tell_one hsz rfl himm (h1 s c w hc.1.1.1 hc.1.1.2 (hc.1.2.imp (fun h j b e => h b (List.mem_of_getElem? e)) id) (fun j b e => hc.2 b (List.mem_of_getElem? e)))
  · cases h
theorem grow_tell {f : FuncId} {fn : Func} (hfn : P.funcs[f]? = some fn) (hsz : fn.resultTypes.size = 1) {ty : Nat} {i0 : TypeInfo} {z : Value} (hi0 : P.info? ty = some i0) (hz0 : i0.zero = some z) (hs0 : i0.size = 1) (hzc : z.cells.size = 1) (hby : i0.bytes ≤ 16)
    (h1 : ∀ (n : Nat) (w : World) (_ : 0 < 0 + n) (_ : (0 + n) * i0.bytes ≤ 140737488355328), Calls P f #[.slice none 0 0, .int .i64 n] w fun e w' =>
      e = .returned (.slice (some ⟨w.heap.size, 0, none⟩) 0 (grownCap w (0 + n) 0 ty)) ∧
      w' = w.drew.alloc (.cells (#[] ++ Builtin.zeroCells z.cells (0 + n - 0) ++ Builtin.zeroCells z.cells (grownCap w (0 + n) 0 ty - (0 + n))) ty)) : TellS P f (growG ty) := fun bs rs h => by
  refine ⟨fn, hfn, fun w μ F G vals himm hb hnd => ?_⟩
  unfold growG at h
  split at h
  · rename_i sz n
    obtain ⟨hc, h⟩ := cond_some h
    obtain rfl := Option.some.inj h
    simp only [Bool.and_eq_true, decide_eq_true_eq] at hc
    obtain ⟨F1, F2, G1, G2, v, vs, rfl, rfl, rfl, b1, b2⟩ := b2s_cons hb
    obtain ⟨F3, F4, G3, G4, v', vs', rfl, rfl, rfl, b3, b4⟩ := b2s_cons b2
    obtain ⟨rfl, rfl, rfl⟩ := b2s_nil b4
    obtain ⟨rfl, rfl, hd⟩ := b2_lst b1
    obtain ⟨rfl, rfl, rfl⟩ := b2_v b3
    cases hd with
    | @lst _ _ _ A c cvals hnil hA hcp hesz hcell hv =>
      obtain rfl : A = none := by
        cases A with
        | none => rfl
        | some a => cases hnil
      obtain rfl := (hA rfl).2
      obtain ⟨m, rfl⟩ := Int.eq_ofNat_of_zero_le (show 0 ≤ n by omega)
      have hm : m * i0.bytes ≤ 1000000 * 16 := Nat.mul_le_mul (by omega) hby
      refine (h1 m w (by omega) (by rw [Nat.zero_add]; omega)).mono fun e w' he => ?_
      obtain ⟨rfl, rfl⟩ := he
      have hbel : Below w.heap.size w (w.drew.alloc (.cells (#[] ++ Builtin.zeroCells z.cells (0 + m - 0) ++ Builtin.zeroCells z.cells (grownCap w (0 + m) 0 ty - (0 + m))) ty)) :=
        ⟨rfl, rfl, rfl, by show w.heap.size ≤ (w.heap.push _).size; rw [Array.size_push]; omega, fun k hk => alloc_old w.drew _ k hk⟩
      obtain ⟨g1, g2⟩ := frm_below hbel himm []
      have hnew := alloc_new w.drew (.cells (#[] ++ Builtin.zeroCells z.cells (0 + m - 0) ++ Builtin.zeroCells z.cells (grownCap w (0 + m) 0 ty - (0 + m))) ty)
      refine ⟨[.ow false ty 1 []], [], [_], μ, [w.heap.size], [], [], rfl, hsz.symm, rfl, g1, g2, ?_, .nil, by simp, fun b hb => .inr (by simp at hb; omega)⟩
      have hzl : ∀ k, (Builtin.zeroCells z.cells k).size = k := fun k => by rw [size_zeroCells, hzc, Nat.mul_one]
      have hb0 : B0 μ (hf (w.drew.alloc (.cells (#[] ++ Builtin.zeroCells z.cells (0 + m - 0) ++ Builtin.zeroCells z.cells (grownCap w (0 + m) 0 ty - (0 + m))) ty))) [w.heap.size] (.ow false ty 1 []) (.slice (some ⟨w.heap.size, 0, none⟩) ([] : List (List AV)).length (grownCap w (0 + m) 0 ty)) := by
        refine .ow ⟨(0, 0), hnew, .inl rfl⟩ ?_ (by simp) ?_ ⟨fun e he => (by cases he), fun i e j c he => (by simp at he)⟩
        · cases hm : μ w.heap.size with
          | none => rfl
          | some o =>
            have := (Array.getElem?_eq_some_iff.1 (himm _ o hm)).1
            omega
        · have := grownCap_ge w (0 + m) 0 ty
          simp only [Array.size_append, hzl, Array.size_empty]
          omega
      exact .cons (F := [w.heap.size]) (F' := []) (G := []) (G' := []) (.o (.c hb0)) .nil
  · cases h
def oneV (v : Value) : {v : Value // v.oneCell' = true} := if h : v.oneCell' = true then ⟨v, h⟩ else ⟨.bool false, rfl⟩
theorem oneV_val {v : Value} (h : v.oneCell' = true) : (oneV v).val = v := by unfold oneV; rw [dif_pos h]
theorem rev_upd {f : FuncId} (h0 : ∀ (a : Option Addr) (cap : Nat) (w : World), Calls P f #[.slice a 0 cap] w fun e w' => e = .returned (.tuple #[]) ∧ w' = w)
    (h1 : ∀ (blk off cap : Nat) (zs : List {v : Value // v.oneCell' = true}) (w : World) (_ : @Sort.Holds {v : Value // v.oneCell' = true} ⟨⟨.bool false, rfl⟩⟩ Subtype.val w blk off zs.toArray) (_ : zs.length ≤ 9223372036854775807),
      Calls P f #[.slice (some ⟨blk, off, none⟩) zs.length cap] w fun e w' => e = .returned (.tuple #[]) ∧ ∃ n, w' = @Sort.putRow {v : Value // v.oneCell' = true} ⟨⟨.bool false, rfl⟩⟩ Subtype.val (Sort.ahead w n) blk off zs.reverse.toArray) :
    ∀ xs ys, revG xs = some ys → ys.length = xs.length ∧
  (xs = [] → ∀ w, Calls P f #[.slice none 0 0] w fun e w' => e = .returned (.tuple #[]) ∧ w'.heap = w.heap ∧ w'.os = w.os ∧ w'.tape = w.tape ∧ w'.output = w.output) ∧
  ∀ (μ : Mu) (w : World) (b c ty : Nat) (cur : Array Value), xs.length ≤ 1000000 → Has w b cur ty false → RowD μ 1 xs cur → xs.length ≤ c → c = cur.size →
    Calls P f #[.slice (some ⟨b, 0, none⟩) xs.length c] w fun e w' => e = .returned (.tuple #[]) ∧ ∃ cur', cur'.size = cur.size ∧ RowD μ 1 ys cur' ∧ w'.heap = (w.setRow b cur').heap ∧ w'.os = w.os ∧ w'.tape = w.tape ∧ w'.output = w.output := by
  intro xs ys h
  obtain rfl := Option.some.inj h
  refine ⟨by simp, fun _ w => (h0 none 0 w).mono fun e w' ⟨e1, e2⟩ => by subst e2; exact ⟨e1, rfl, rfl, rfl, rfl⟩, fun μ w b c ty cur hbig hheap hrow hc hcap => ?_⟩
  obtain ⟨fz, hg, hfz⟩ := hheap
  have hle : xs.length ≤ cur.size := by omega
  have hone : ∀ j, j < xs.length → ∃ u, cur[j]? = some u ∧ u.oneCell' = true := fun j hj => hrow.at_ (by omega)
  letI : Inhabited {v : Value // v.oneCell' = true} := ⟨⟨.bool false, rfl⟩⟩
  let zs : List {v : Value // v.oneCell' = true} := (List.range xs.length).map fun j => oneV ((cur[j]?).getD (.bool false))
  have hzl : zs.length = xs.length := by simp [zs]
  have hzg : ∀ j, j < xs.length → ∃ h : j < zs.length, cur[j]? = some (zs[j]'h).val := fun j hj => by
    obtain ⟨u, hu, h1u⟩ := hone j hj
    refine ⟨by omega, ?_⟩
    simp only [zs, List.getElem_map, List.getElem_range]
    rw [hu, Option.getD_some, oneV_val h1u]
  have hH : Sort.Holds Subtype.val w b 0 zs.toArray := fun j hj => by
    have hj' : j < xs.length := by simpa [hzl] using hj
    obtain ⟨hjz, he⟩ := hzg j hj'
    have hjc : j < cur.size := by omega
    refine ⟨?_, ?_⟩
    · rw [Nat.zero_add]
      unfold World.cell?
      rw [hg]
      simp only [he]
      rw [getElem!_pos _ j (by simpa using hjz)]
      simp
    · rcases hfz with hfz | ⟨_, hfz⟩
      · subst hfz; simp [World.frozen?, hg]
      · obtain ⟨lo, hi'⟩ := fz
        simp only [World.frozen?, hg, Bool.and_eq_false_iff, decide_eq_false_iff_not]
        left
        simp only at hfz
        omega
  have key := h1 b 0 c zs w hH (by omega)
  rw [hzl] at key
  refine key.mono fun e w' he => ?_
  obtain ⟨rfl, n, rfl⟩ := he
  refine ⟨rfl, Sort.putCells Subtype.val 0 zs.reverse.toArray cur, by simp [Sort.putCells], ?_, ?_, rfl, rfl, rfl⟩
  · refine ⟨fun e he => hrow.1 e (List.mem_reverse.1 he), fun i e j cc he hcc => ?_⟩
    have hi : i < xs.length := by have := (List.getElem?_eq_some_iff.1 he).1; simpa using this
    have he' : xs[xs.length - 1 - i]? = some e := by
      rw [List.getElem?_reverse hi] at he; exact he
    have hel := hrow.1 e (List.mem_of_getElem? he')
    have hj : j = 0 := by have := (List.getElem?_eq_some_iff.1 hcc).1; omega
    subst hj
    obtain ⟨u, hu, hd⟩ := hrow.2 _ _ _ _ he' hcc
    refine ⟨u, ?_, hd⟩
    rw [Nat.mul_one, Nat.add_zero] at hu ⊢
    have hic : i < cur.size := by omega
    simp only [Sort.putCells, Array.getElem?_mapIdx, Array.getElem?_eq_getElem hic, Option.map_some, Nat.zero_le, true_and, List.size_toArray, List.length_reverse, hzl, Nat.zero_add, if_pos hi, Nat.sub_zero]
    obtain ⟨hjz, hz⟩ := hzg (xs.length - 1 - i) (by omega)
    rw [hu] at hz
    rw [getElem!_pos _ i (by simpa [hzl] using hi)]
    simp only [List.getElem_toArray, List.getElem_reverse]
    rw [hz]
    congr 2
    congr 1
    · omega
  · unfold Sort.putRow Sort.mapBlock World.setRow
    apply Array.ext_getElem?
    intro k
    simp only [Array.getElem?_modify, Sort.heap_ahead]
    by_cases hk : b = k
    · subst hk
      simp only [if_true, hg, Option.map_some, Sort.onCells]
    · simp [hk]
end
end Go.Ev
namespace Go.Ev
open Go
abbrev B := List UInt8
end Go.Ev
