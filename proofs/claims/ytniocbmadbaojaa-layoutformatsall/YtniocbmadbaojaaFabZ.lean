/- LayoutFormatsAll's function answers true. -/
import Derived.Test.YtniocbmadbaojaaFabQ
set_option linter.all false
namespace Go.Proofs.Ytniocbmadbaojaa
open Go.RowKit Go.Shelf Go.Lib Go.Ev
def PN (w : World) (n : Nat) (g : Nat → AV) (W : World) : Prop := ∃ (bn cn : Nat) (its : List ItemO), FS w (w.heap.size + 1) bn n cn its W ∧ its.map ItemO.a = (List.range n).map g
theorem PN.congr {w W : World} {n : Nat} {g g' : Nat → AV} (h : PN w n g W) (hg : ∀ k, k < n → g k = g' k) : PN w n g' W := by
  obtain ⟨bn, cn, its, h1, h2⟩ := h
  refine ⟨bn, cn, its, h1, h2.trans (List.map_congr_left fun k hk => hg k (List.mem_range.1 hk))⟩
theorem PN.kept {w W W' : World} {n : Nat} {g : Nat → AV} (h : PN w n g W) (k : KeptW [] W W') : PN w n g W' := by
  obtain ⟨bn, cn, its, h1, h2⟩ := h
  exact ⟨bn, cn, its, h1.kept0 k, h2⟩
theorem PN.base {w W : World} {n : Nat} {g : Nat → AV} (h : PN w n g W) : KeptW [] w W := by
  obtain ⟨bn, cn, its, h1, h2⟩ := h
  exact h1.kept
theorem range_set (n i : Nat) (g : Nat → AV) (v : AV) : ((List.range n).map g).set i v = (List.range n).map fun k => if k = i then v else g k := by
  apply List.ext_getElem?
  intro k
  rw [List.getElem?_set, List.getElem?_map, List.getElem?_map]
  by_cases hk : k < n
  · rw [List.getElem?_range hk]
    by_cases e : i = k
    · subst e; simp [hk]
    · have e' : ¬ k = i := fun h => e h.symm
      rw [if_neg e]; simp [e']
  · rw [List.getElem?_eq_none (by simpa using hk)]
    by_cases e : i = k
    · subst e; simp [hk]
    · rw [if_neg e]; rfl
theorem PN.item {w W : World} {n i : Nat} {g : Nat → AV} (h : PN w n g W) (hi : i < n) : ∃ (bn cn pb : Nat) (its : List ItemO) (x : ItemO), FS w (w.heap.size + 1) bn n cn its W ∧ its.map ItemO.a = (List.range n).map g ∧ its[i]? = some x ∧ x.a = g i ∧ x.p = .pointer (some ⟨pb, 0, none⟩) ∧
    W.cell? ⟨w.heap.size + 1, 1, none⟩ = some (.slice (some ⟨bn, 0, none⟩) n cn) ∧ W.cell? ⟨bn, i, none⟩ = some (.pointer (some ⟨pb, 0, none⟩)) := by
  obtain ⟨bn, cn, its, h1, h2⟩ := h
  have hlen : its.length = n := by have := congrArg List.length h2; simpa using this
  have hx := List.getElem?_eq_getElem (l := its) (i := i) (by omega)
  obtain ⟨x, hxe⟩ : ∃ x, its[i]'(by omega) = x := ⟨_, rfl⟩
  rw [hxe] at hx
  obtain ⟨pb, hp, c1, c2⟩ := h1.cells hx
  refine ⟨bn, cn, pb, its, x, h1, h2, hx, ?_, hp, c1, c2⟩
  have := congrArg (fun l => l[i]?) h2
  simp only [List.getElem?_map, hx, List.getElem?_range hi, Option.map_some, Option.some.injEq] at this
  exact this
theorem PN.call {w W : World} {n i : Nat} {g : Nat → AV} (h : PN w n g W) (hi : i < n) {f : FuncId} {fn : Func} {dv rv : List Value} {a' : AV}
    (hev : ev f (g i :: dv.map AV.v) = some (rv.map AV.v ++ [a'])) (hfn : Try.prog.funcs[f]? = some fn) (hsz : fn.resultTypes.size = rv.length) (hok : ∀ v ∈ dv, okC (.v v) = true) (hfl : flatO a' = true) :
    ∃ pb bn cn : Nat, W.cell? ⟨w.heap.size + 1, 1, none⟩ = some (.slice (some ⟨bn, 0, none⟩) n cn) ∧ W.cell? ⟨bn, i, none⟩ = some (.pointer (some ⟨pb, 0, none⟩)) ∧
      Calls Try.prog f (.pointer (some ⟨pb, 0, none⟩) :: dv).toArray W fun e w' => e = .returned (retV rv) ∧ PN w n (fun k => if k = i then a' else g k) w' := by
  obtain ⟨bn, cn, pb, its, x, h1, h2, hx, hxa, hp, c1, c2⟩ := h.item hi
  refine ⟨pb, bn, cn, c1, c2, ?_⟩
  have := h1.call hx (hxa ▸ hev) hfn hsz hok hfl
  rw [hp] at this
  refine this.mono fun e w' he => ⟨he.1, ?_⟩
  obtain ⟨F', hF⟩ := he.2
  exact ⟨bn, cn, _, hF, by rw [List.map_set, h2, range_set]⟩
theorem flat_nd (ws : List Int) (dn : Bool) : flatO (ndO ws dn) = true := by
  show ((AV.ow false 29 1 (List.map wr ws)) :: [AV.v (.bool dn)]).all flatC = true
  rw [List.all_cons, Bool.and_eq_true]
  refine ⟨?_, rfl⟩
  show (List.map wr ws).all _ = true
  rw [List.all_eq_true]
  intro e he
  obtain ⟨x, _, rfl⟩ := List.mem_map.1 he
  rfl
abbrev Z98 : List Int := List.replicate 784 0
def RowO (b : Nat) (ws : List Int) (W : World) : Prop := ∃ (A : Option Addr) (l c : Nat) (nb : Bool), W.heap[b]? = some (.cells #[.slice A l c, .bool true] 47 (0, 0)) ∧ DR (hf W) (.lst nb 1 (ws.map wr)) (.slice A l c)
theorem RowO.kept {b : Nat} {ws : List Int} {W W' : World} (h : RowO b ws W) (k : KeptW [] W W') : RowO b ws W' := by
  obtain ⟨A, l, c, nb, h1, h2⟩ := h
  exact ⟨A, l, c, nb, k.get h1 List.not_mem_nil, h2.mono k.hf⟩
theorem img_ok {w W : World} {n j : Nat} {g : Nat → AV} {ws : List Int} {dn up : Bool} {A1 : Option Addr} {l1 c1 : Nat} {nb : Bool} {K : World → Prop} (h : PN w n g W) (hj : j < n) (hg : g j = ndO ws dn) (hup : up = !dn) (hok : Wok ws) (hl : ws.length ≤ 100000)
    (hr : DR (hf W) (.lst nb 1 (ws.map wr)) (.slice A1 l1 c1)) (hK : ∀ W', KeptW [] W W' → K W') :
    ∃ pb bn cn : Nat, W.cell? ⟨w.heap.size + 1, 1, none⟩ = some (.slice (some ⟨bn, 0, none⟩) n cn) ∧ W.cell? ⟨bn, j, none⟩ = some (.pointer (some ⟨pb, 0, none⟩)) ∧
      Calls Try.prog 34 #[.pointer (some ⟨pb, 0, none⟩)] (W.alloc (.cells #[.slice A1 l1 c1, .bool up] 47)) fun e w' => ∃ A l c, e = .returned (.slice A l c) ∧
        Calls Try.prog 38 #[.slice A l c, .pointer (some ⟨W.heap.size, 0, none⟩)] w' fun e w'' => e = .returned (.bool true) ∧ K w'' := by
  obtain ⟨bn, cn, pb, its, x, h1, h2, hx, hxa, hp, k1, k2⟩ := h.item hj
  refine ⟨pb, bn, cn, k1, k2, ?_⟩
  have hka := KeptW.alloc W (.cells #[.slice A1 l1 c1, .bool up] 47)
  have h1a := h1.kept0 hka
  have hb := h1a.own.ok x (List.mem_of_getElem? hx)
  rw [hxa, hg, hp] at hb
  refine (call_lent mix extOk (s_Image ws dn hok hl) Try.func34 (lent1 (nd_lent hb))).mono fun e w' he => ?_
  obtain ⟨vs, μ', F1, G1, rfl, hk, hle, hb2⟩ := he
  obtain ⟨v, rfl, hv⟩ := b2s_one hb2
  obtain ⟨A, l, c, b, rfl, hd⟩ := dr_ow hle hv
  refine ⟨A, l, c, rfl, ?_⟩
  have hkk := hka.trans hk fun x hx => by cases hx
  have hro := hk.get (Ev.alloc_new W (.cells #[.slice A1 l1 c1, .bool up] 47)) List.not_mem_nil
  have hr' := hr.mono hkk.hf
  have hep : DR (hf w') (.ep [.lst nb 1 (ws.map wr), .v (.bool up)] 0) (.pointer (some ⟨W.heap.size, 0, none⟩)) := by
    refine .ep (o := 0) (fun j => if j = 0 then .slice A1 l1 c1 else .bool up) (fun j hj => ?_) (fun j u hj => ?_)
    · unfold muCell
      have hro' : hf w' W.heap.size = some (.cells #[.slice A1 l1 c1, .bool up] 47 (0, 0)) := hro
      simp only [hro']
      match j, hj with
      | 0, _ => rfl
      | 1, _ => rfl
    · match j, hj with
      | 0, hj => cases hj; exact hr'
      | 1, hj => cases hj; exact .v rfl
      | j + 2, hj => simp at hj
  subst hup
  refine (call_lent mix extOk (s_SameImg nb b ws (!dn) hok hl) Try.func38 (lent2 hd hep)).mono fun e w'' he => ?_
  obtain ⟨vs, μ', F1, G1, rfl, hk2, hle, hb3⟩ := he
  obtain ⟨rfl, _⟩ := b2s_vals_inv (F := F1) (G := G1) [.bool true] hb3
  exact ⟨rfl, hK w'' (hkk.trans hk2 fun x hx => by cases hx)⟩
theorem b2_agg2 {μ : Mu} {hp : HF} {F : List Nat} {G : List Value} {a b : AV} {v : Value} (h : B2 μ hp F G (.agg [a, b]) v) : ∃ (Fa Fb : List Nat) (Ga Gb : List Value) (v0 v1 : Value), v = .agg #[v0, v1] ∧ B1 μ hp Fa Ga a v0 ∧ B1 μ hp Fb Gb b v1 := by
  cases h with
  | o h => cases h with | c h => cases h with | d h => cases h
  | agg h => cases h with
    | cons h0 h => cases h with
      | cons h1 h => cases h; exact ⟨_, _, _, _, _, _, rfl, h0, h1⟩
theorem wokZ : Wok Z98 := fun x hx => by obtain ⟨_, rfl⟩ := List.mem_replicate.1 hx; exact ⟨by decide, by decide⟩
theorem ev42_98 : ev 42 [.v (.int .i64 98)] = some [.agg [.lst false 1 (Z98.map wr), .v (.bool true)]] := by
  rw [ev42, List.map_replicate]; rfl
theorem cell_alloc {W : World} {o : Obj} {b j : Nat} {v : Value} (h : W.cell? ⟨b, j, none⟩ = some v) : (W.alloc o).cell? ⟨b, j, none⟩ = some v := kept_cell (KeptW.alloc W o) h List.not_mem_nil
theorem law_ok (nodes down : Int) (w : World) : Calls Try.prog 6 #[.int .i64 nodes, .int .i64 down] w fun e w' => e = .returned (.bool true) ∧ KeptW [] w w' := by
  have hr := pick_range (n := nodes) (m := 5) (by decide)
  obtain ⟨n, hn⟩ : ∃ n : Nat, pick nodes 5 + 1 = (n : Int) := ⟨(pick nodes 5 + 1).toNat, by omega⟩
  have hr2 := pick_range (n := down) (m := (n : Int) + 3) (by omega)
  obtain ⟨d, hd⟩ : ∃ d : Nat, pick down ((n : Int) + 3) = (d : Int) := ⟨(pick down ((n : Int) + 3)).toNat, by omega⟩
  have hn5 : 1 ≤ n ∧ n ≤ 5 := by omega
  let gL : Nat → AV := fun k => if k < d then ndO (fmt 98 n) false else ndO Z98 (decide (k = d))
  let gF : Nat → Nat → AV := fun i k => if k < i then ndO (fmt 98 n) false else ndO Z98 (decide (k = d))
  let gJ : Nat → Nat → AV := fun i k => ndO Z98 (decide (k = d) && decide (k < i))
  let L2 : World → Prop := PN w n gL
  have hfl : (fmt 98 n).length = 784 := fmt_len 98 n
  refine law_walk (KeptW [] w) nodes down w n d (w.heap.size + 1) (fun i => PN w n (gJ i)) (PN w n fun _ => ndO Z98 false) hn hn5 hd ((new_ok w n 1 98 hn5 (by decide) (by decide)).mono fun e w' he => ⟨he.1, ?_⟩) (fun W hW => ?_) (fun i W hi hJ => ?_)
    (if d < n then 4 else 0) (by by_cases h : d < n <;> simp [h] <;> omega) L2 (fun b W => L2 W ∧ RowO b Z98 W) (fun _ b10 b11 W => L2 W ∧ RowO b10 Z98 W ∧ RowO b11 (fmt 98 n) W) (fun W hW => ?_) (fun W hW => ?_) (fun b W hW => ?_) (fun j b10 b11 W hj hW => ?_) (fun b10 b11 W hW => hW.1.base)
  · obtain ⟨bn, cn, its, hC, hm⟩ := he.2
    exact ⟨bn, cn, its, hC.fs, by rw [hm, List.map_const', List.length_range]⟩
  · refine (call_lent mix extOk s_awake7 Try.func8 .nil).mono fun e w' he => ?_
    obtain ⟨vs, μ', F1, G1, rfl, hk, hle, hb3⟩ := he
    obtain ⟨rfl, _⟩ := b2s_vals_inv (F := F1) (G := G1) [.bool true] hb3
    exact ⟨rfl, (hW.kept hk).congr fun k hk => by simp [gJ]⟩
  · by_cases hid : i = d
    · subst hid
      have hg : gJ i i = ndO Z98 false := by simp [gJ]
      obtain ⟨pb, bn, cn, c1, c2, hc⟩ := hJ.call hi (f := 33) (dv := []) (rv := []) (a' := ndO Z98 true) (by rw [hg]; exact s_Fail Z98 false) Try.func33 (by kernel_rfl) (fun v hv => by cases hv) (flat_nd _ _)
      refine ⟨pb, bn, cn, c1, c2, fun h => absurd rfl h, fun _ => hc.mono fun e w' he => ⟨he.1, he.2.congr fun k hk => ?_⟩⟩
      show (if k = i then ndO Z98 true else gJ i k) = gJ (i + 1) k
      by_cases e : k = i
      · subst e; simp [gJ]
      · simp [gJ, e]
    · obtain ⟨bn, cn, pb, its, x, h1, h2, hx, hxa, hp, c1, c2⟩ := hJ.item hi
      refine ⟨pb, bn, cn, c1, c2, fun _ => hJ.congr fun k hk => ?_, fun h => absurd h hid⟩
      show gJ i k = gJ (i + 1) k
      by_cases e : k = d
      · subst e
        have : decide (k < i) = decide (k < i + 1) := by rw [decide_eq_decide]; omega
        simp only [gJ, this]
      · simp [gJ, e]
  · refine (fmtall_walk (w.heap.size + 1) n W (fun i V => i ≤ d ∧ PN w n (gF i) V) (fun x V => x = (if d < n then 4 else 0) ∧ L2 V) hn5.2 ⟨Nat.zero_le _, hW.congr fun k hk => by simp [gJ, gF, hk]⟩ (fun i V hi hJ => ?_) (fun V hJ => ?_)).mono fun e w' he => by
      obtain ⟨x, rfl, rfl, h2⟩ := he
      exact ⟨rfl, h2⟩
    · obtain ⟨hid, hP⟩ := hJ
      by_cases hin : i < n
      · obtain ⟨bn, cn, pb, its, x, h1, h2, hx, hxa, hp, c1, c2⟩ := hP.item hin
        refine ⟨bn, cn, c1, fun _ => ?_⟩
        have hg : gF i i = ndO Z98 (decide (i = d)) := by simp [gF]
        have hF := s_Format Z98 (decide (i = d)) 98 (n : Int) (by decide) (by simp)
        by_cases e : i = d
        · subst e
          have he : fmtE 98 (n : Int) (decide (i = i)) = 4 := by unfold fmtE; rw [if_neg (by omega), if_neg (by omega)]; simp
          rw [he, if_neg (by decide)] at hF
          obtain ⟨pb', bn', cn', c1', c2', hc⟩ := hP.call hin (f := 35) (dv := [.int .i64 n]) (rv := [.int .i64 4]) (a' := ndO Z98 (decide (i = i))) (by rw [hg]; exact hF) Try.func35 (by kernel_rfl) (fun v hv => by simp at hv; subst hv; rfl) (flat_nd _ _)
          have e1 := c1.symm.trans c1'
          simp only [Option.some.injEq, Value.slice.injEq, Addr.mk.injEq] at e1
          obtain ⟨⟨rfl, _⟩, _, rfl⟩ := e1
          have e2 := c2.symm.trans c2'
          simp only [Option.some.injEq, Value.pointer.injEq, Addr.mk.injEq] at e2
          obtain ⟨rfl, _⟩ := e2
          refine ⟨pb, c2, .inr ⟨4, by decide, hc.mono fun e w' he => ⟨he.1, by rw [if_pos hin], he.2.congr fun k hk => ?_⟩⟩⟩
          show (if k = i then ndO Z98 (decide (i = i)) else gF i k) = gL k
          by_cases ek : k = i
          · subst ek; simp [gL]
          · simp [gF, gL, ek]
        · have he : fmtE 98 (n : Int) (decide (i = d)) = 0 := by unfold fmtE; rw [if_neg (by omega), if_neg (by omega)]; simp [e]
          rw [he, if_pos rfl] at hF
          obtain ⟨pb', bn', cn', c1', c2', hc⟩ := hP.call hin (f := 35) (dv := [.int .i64 n]) (rv := [.int .i64 0]) (a' := ndO (fmt 98 n) (decide (i = d))) (by rw [hg]; exact hF) Try.func35 (by kernel_rfl) (fun v hv => by simp at hv; subst hv; rfl) (flat_nd _ _)
          have e1 := c1.symm.trans c1'
          simp only [Option.some.injEq, Value.slice.injEq, Addr.mk.injEq] at e1
          obtain ⟨⟨rfl, _⟩, _, rfl⟩ := e1
          have e2 := c2.symm.trans c2'
          simp only [Option.some.injEq, Value.pointer.injEq, Addr.mk.injEq] at e2
          obtain ⟨rfl, _⟩ := e2
          refine ⟨pb, c2, .inl (hc.mono fun e' w' he => ⟨he.1, by omega, he.2.congr fun k hk => ?_⟩)⟩
          show (if k = i then ndO (fmt 98 n) (decide (i = d)) else gF i k) = gF (i + 1) k
          by_cases ek : k = i
          · subst ek; simp [gF, e]
          · have : (k < i + 1) ↔ k < i := by omega
            simp [gF, ek, this]
      · obtain ⟨bn, cn, its, h1, h2⟩ := hP
        exact ⟨bn, cn, h1.cell1, fun h => absurd h hin⟩
    · obtain ⟨hnd, hP⟩ := hJ
      refine ⟨by rw [if_neg (by omega)], hP.congr fun k hk => ?_⟩
      show gF n k = gL k
      simp only [gF, gL]
      rw [if_pos hk, if_pos (by omega)]
  · refine (call_lent mix extOk ev42_98 Try.func42 (lent1 (.v rfl))).mono fun e w' he => ?_
    obtain ⟨vs, μ', F1, G1, rfl, hk, hle, hb⟩ := he
    obtain ⟨v, rfl, hv⟩ := b2s_one hb
    obtain ⟨_, _, _, _, v0, v1, rfl, h0, h1⟩ := b2_agg2 hv
    obtain ⟨_, _, h0⟩ := b1_lst h0
    obtain ⟨_, _, rfl⟩ := b1_v h1
    obtain ⟨A, c, hv0⟩ : ∃ A c, v0 = .slice A 784 c := by
      cases h0 with
      | @lst _ _ _ A c => exact ⟨A, c, by rw [List.length_map, List.length_replicate]⟩
    subst hv0
    have hka := KeptW.alloc w' (.cells #[.slice A 784 c, .bool true] 47)
    exact ⟨A, 784, c, rfl, (hW.kept hk).kept hka, A, 784, c, false, Ev.alloc_new w' _, (h0.mono hle).mono hka.hf⟩
  · obtain ⟨hW1, hW2⟩ := hW
    refine (call_lent mix extOk (s_Formatted 98 (n : Int) (by decide) ⟨by omega, by omega⟩) Try.func37 (lent2 (.v rfl) (.v rfl))).mono fun e w' he => ?_
    obtain ⟨vs, μ', F1, G1, rfl, hk, hle, hb⟩ := he
    obtain ⟨v, rfl, hv⟩ := b2s_one hb
    obtain ⟨A, l, c, b', rfl, hdr⟩ := dr_ow hle hv
    have hka := KeptW.alloc w' (.cells #[.slice A l c, .bool true] 47)
    exact ⟨A, l, c, rfl, (hW1.kept hk).kept hka, (hW2.kept hk).kept hka, A, l, c, b', Ev.alloc_new w' _, hdr.mono hka.hf⟩
  · obtain ⟨hW1, hW2, hW3⟩ := hW
    have hKK : ∀ W', KeptW [] W W' → L2 W' ∧ RowO b10 Z98 W' ∧ RowO b11 (fmt 98 n) W' := fun W' hk => ⟨hW1.kept hk, hW2.kept hk, hW3.kept hk⟩
    obtain ⟨A1, l1, c1, nb1, q1, q2⟩ := hW2
    obtain ⟨A2, l2, c2, nb2, q3, q4⟩ := hW3
    obtain ⟨bn, cn, pb, its, x, h1, h2, hx, hxa, hp, k1, k2⟩ := hW1.item hj
    refine ⟨A1, l1, c1, A2, l2, c2, pb, bn, cn, cell_of q1 rfl, cell_of q1 rfl, cell_of q3 rfl, cell_of q3 rfl, (Array.getElem?_eq_some_iff.1 q1).1, (Array.getElem?_eq_some_iff.1 q3).1, fun o => cell_alloc k1, fun o => cell_alloc k2, fun hdj => ?_, fun hdj => ?_⟩
    · obtain ⟨pb', bn', cn', k1', k2', hc⟩ := img_ok (up := (j : Int) != (d : Int)) (A1 := A1) (l1 := l1) (c1 := c1) hW1 hj (ws := Z98) (dn := decide (j = d)) (by simp only [gL]; rw [if_neg (by omega)]) (by
        by_cases e : j = d
        · subst e; simp
        · have : (j : Int) ≠ (d : Int) := by omega
          simp [e, this]) wokZ (by simp) q2 hKK
      have e1 := k1.symm.trans k1'
      simp only [Option.some.injEq, Value.slice.injEq, Addr.mk.injEq] at e1
      obtain ⟨⟨rfl, _⟩, _, rfl⟩ := e1
      have e2 := k2.symm.trans k2'
      simp only [Option.some.injEq, Value.pointer.injEq, Addr.mk.injEq] at e2
      obtain ⟨rfl, _⟩ := e2
      exact hc
    · obtain ⟨pb', bn', cn', k1', k2', hc⟩ := img_ok (up := true) (A1 := A2) (l1 := l2) (c1 := c2) hW1 hj (ws := fmt 98 n) (dn := false) (by simp only [gL]; rw [if_pos hdj]) rfl (fmt_ok 98 n) (by rw [hfl]; decide) q4 hKK
      have e1 := k1.symm.trans k1'
      simp only [Option.some.injEq, Value.slice.injEq, Addr.mk.injEq] at e1
      obtain ⟨⟨rfl, _⟩, _, rfl⟩ := e1
      have e2 := k2.symm.trans k2'
      simp only [Option.some.injEq, Value.pointer.injEq, Addr.mk.injEq] at e2
      obtain ⟨rfl, _⟩ := e2
      exact hc
end Go.Proofs.Ytniocbmadbaojaa
