/- QuerySame: the calls of its last line, and its changes. -/
import Derived.Test.YtcinngpelbdopaaSmx
set_option linter.all false
namespace Go.Proofs.Ytcinngpelbdopaa
open Go.RowKit Go.Shelf Go.Lib Go.Ev
structure Ext (W0 W : World) : Prop where
  os : W.os = W0.os
  tape : W.tape = W0.tape
  output : W.output = W0.output
  size : W0.heap.size ≤ W.heap.size
  keep : ∀ b, b < W0.heap.size → W.heap[b]? = W0.heap[b]?
theorem Ext.refl (W : World) : Ext W W := ⟨rfl, rfl, rfl, Nat.le_refl _, fun _ _ => rfl⟩
theorem Ext.trans {a b c : World} (h : Ext a b) (k : Ext b c) : Ext a c :=
  ⟨k.os.trans h.os, k.tape.trans h.tape, k.output.trans h.output, Nat.le_trans h.size k.size, fun x hx => (k.keep x (Nat.lt_of_lt_of_le hx h.size)).trans (h.keep x hx)⟩
theorem Ext.imm {μ : Mu} {W0 W : World} (h : Ext W0 W) (hi : ∀ b o, μ b = some o → W0.heap[b]? = some o) : ∀ b o, μ b = some o → W.heap[b]? = some o := fun b o hb => by
  have h0 := hi b o hb
  rw [h.keep b (Array.getElem?_eq_some_iff.1 h0).1]; exact h0
theorem Ext.frm {μ μ' : Mu} {W W' : World} {F : List Nat} (hF : F = []) (h : Frm ⟨W, (· ∈ F), μ⟩ μ' W') : Ext W W' :=
  ⟨h.os, h.tape, h.output, h.size, fun b hb => h.keep b hb (by subst hF; exact List.not_mem_nil)⟩
theorem b1s_nilv {μ : Mu} {hp : HF} {F : List Nat} {G : List Value} {ro : List AV} {vs : List Value} (h : B1s μ hp F G ro vs) (e : vs = []) : ro = [] ∧ F = [] := by
  cases h with
  | nil => exact ⟨rfl, rfl⟩
  | cons _ _ => cases e
theorem call_data {f : FuncId} {fn : Func} (hfn : Try.prog.funcs[f]? = some fn) {ar rs : List AV} (h : ev f ar = some rs) {W : World} {μ : Mu} (himm : ∀ b o, μ b = some o → W.heap[b]? = some o) {vals : List Value} (hB : B2s μ (hf W) [] [] ar vals) :
    Calls Try.prog f vals.toArray W fun e w' => ∃ (vs : List Value) (μ' : Mu) (F1 : List Nat) (G1 : List Value), e = .returned (retV vs) ∧ Ext W w' ∧ MuLe μ μ' ∧ (∀ b o, μ' b = some o → w'.heap[b]? = some o) ∧ B2s μ' (hf w') F1 G1 rs vs ∧ F1.Nodup ∧ ∀ b ∈ F1, W.heap.size ≤ b := by
  obtain ⟨n, hn⟩ := evF_of_evL h
  obtain ⟨fn', h1, h2⟩ := evF_sound mix extOk n f ar rs hn
  refine (h2 W μ [] [] vals himm hB List.nodup_nil).mono fun e w' he => ?_
  obtain ⟨ra, ro, vs, μ', F1, F2, G1, hrs, hsz, rfl, hfr, hi, hb1, hb2, hnd, hnew⟩ := he
  have hro := b1s_nilv hb2 rfl
  obtain ⟨rfl, rfl⟩ := hro
  rw [List.append_nil] at hrs hnd hnew
  subst hrs
  exact ⟨vs, μ', F1, G1, rfl, Ext.frm rfl hfr, hfr.mu, hi, hb1, hnd, fun b hb => (hnew b hb).resolve_left List.not_mem_nil⟩
theorem b2s_d1 {μ : Mu} {hp : HF} {a : AV} {v : Value} (h : DR μ a v) : B2s μ hp [] [] [a] [v] := .cons (F := []) (F' := []) (G := []) (G' := []) (.o (.c (.d h))) .nil
theorem b2s_d2 {μ : Mu} {hp : HF} {a b : AV} {v u : Value} (h : DR μ a v) (k : DR μ b u) : B2s μ hp [] [] [a, b] [v, u] := .cons (F := []) (F' := []) (G := []) (G' := []) (.o (.c (.d h))) (b2s_d1 k)
theorem call_bool {f : FuncId} {fn : Func} (hfn : Try.prog.funcs[f]? = some fn) {ar : List AV} {b : Bool} (h : ev f ar = some [.v (.bool b)]) {W : World} {μ : Mu} (himm : ∀ b o, μ b = some o → W.heap[b]? = some o) {vals : List Value} (hB : B2s μ (hf W) [] [] ar vals) :
    Calls Try.prog f vals.toArray W fun e w' => e = .returned (.bool b) ∧ Ext W w' := by
  refine (call_data hfn h himm hB).mono fun e w' he => ?_
  obtain ⟨vs, μ', F1, G1, rfl, hx, _, _, hb, _⟩ := he
  obtain ⟨_, _, _, _, v, vs', _, _, rfl, h1, h2⟩ := b2s_cons hb
  obtain ⟨_, _, rfl⟩ := b2s_nil h2
  obtain ⟨_, _, rfl⟩ := b2_v h1
  exact ⟨rfl, hx⟩
theorem call_row {f : FuncId} {fn : Func} (hfn : Try.prog.funcs[f]? = some fn) {ar : List AV} {fr : Bool} {zs : List (Bool × Res)} (h : ev f ar = some [.ow fr 117 2 (outB zs)]) {W : World} {μ : Mu} (himm : ∀ b o, μ b = some o → W.heap[b]? = some o) {vals : List Value} (hB : B2s μ (hf W) [] [] ar vals) :
    Calls Try.prog f vals.toArray W fun e w' => ∃ (A : Option Addr) (n c : Nat) (μ' : Mu) (b : Bool), e = .returned (.slice A n c) ∧ Ext W w' ∧ MuLe μ μ' ∧ (∀ b o, μ' b = some o → w'.heap[b]? = some o) ∧ DR μ' (.lst b 2 (outB zs)) (.slice A n c) := by
  refine (call_data hfn h himm hB).mono fun e w' he => ?_
  obtain ⟨vs, μ', F1, G1, rfl, hx, hle, hi, hb, hnd, hnew⟩ := he
  obtain ⟨_, _, _, _, v, vs', _, _, rfl, h1, h2⟩ := b2s_cons hb
  obtain ⟨_, _, rfl⟩ := b2s_nil h2
  generalize hzs : outB zs = es at h1 ⊢
  cases h1 with
  | o h1 => cases h1 with
    | c h1 => cases h1 with
      | d h1 => cases h1
      | own => exact ⟨none, 0, 0, μ', true, rfl, hx, hle, hi, dr_nil _ _⟩
      | @ow b cap _ _ _ cur hbb hm hc hs hr =>
        obtain ⟨fz, hcell, hok⟩ := hbb
        refine ⟨_, _, _, fun x => if x = b then some (.cells cur 117 fz) else μ' x, false, rfl, hx, hle.trans ?_, ?_, ?_⟩
        · intro x o hxo
          show (if x = b then _ else _) = _
          by_cases e : x = b
          · subst e; rw [hm] at hxo; cases hxo
          · rw [if_neg e]; exact hxo
        · intro x o hxo
          replace hxo : (if x = b then some (Obj.cells cur 117 fz) else μ' x) = some o := hxo
          by_cases e : x = b
          · subst e; rw [if_pos rfl] at hxo; rw [← hxo]; exact hcell
          · rw [if_neg e] at hxo; exact hi _ _ hxo
        · refine dr_block (cur := cur) (t := 117) (fz := fz) (if_pos rfl) rfl hc (hr.mono fun x o hxo => ?_)
          show (if x = b then _ else _) = _
          by_cases e : x = b
          · subst e; rw [hm] at hxo; cases hxo
          · rw [if_neg e]; exact hxo
def shortR (xs : List (Bool × Res)) : Prop := xs.length ≤ 1000000 ∧ bdR xs
theorem lsEq_refl (xs : List Res) : lsEq rsEq xs xs = true := (lsEq_iff rsEq_iff xs xs).2 rfl
theorem bd_map {xs zs : List (Bool × Res)} (h : zs.map Prod.snd = xs.map Prod.snd) (hb : shortR xs) : shortR zs := by
  refine ⟨?_, fun p hp => ?_⟩
  · have := congrArg List.length h
    rw [List.length_map, List.length_map] at this
    rw [this]; exact hb.1
  · have : p.2 ∈ xs.map Prod.snd := by rw [← h]; exact List.mem_map_of_mem hp
    obtain ⟨q, hq, hq2⟩ := List.mem_map.1 this
    rw [← hq2]; exact hb.2 q hq
theorem fin_ok {R : World → Prop} {W0 : World} {μ : Mu} {nx ny nc : Bool} {xs ys cs : List (Bool × Res)} {va vb vc : Value} (himm : ∀ b o, μ b = some o → W0.heap[b]? = some o) (ha : DR μ (.lst nx 2 (outB xs)) va) (hb : DR μ (.lst ny 2 (outB ys)) vb) (hc : DR μ (.lst nc 2 (outB cs)) vc)
    (bx : shortR xs) (byy : shortR ys) (bc : shortR cs) (hR : ∀ W, Ext W0 W → R W) : Fin R va vb vc W0 := by
  obtain ⟨fx, zx, hzx, evx⟩ := s_results nx xs bx.1 bx.2
  obtain ⟨fy, zy, hzy, evy⟩ := s_results ny ys byy.1 byy.2
  obtain ⟨fc, zc, hzc, evc⟩ := s_results nc cs bc.1 bc.2
  have bzx := bd_map hzx bx
  let G1 : World → Mu → Value → Prop := fun W m v => Ext W0 W ∧ MuLe μ m ∧ (∀ b o, m b = some o → W.heap[b]? = some o) ∧ ∃ nb, DR m (.lst nb 2 (outB zx)) v
  refine ⟨Ext W0, fun W v => ∃ m, G1 W m v, fun W v u => ∃ m, G1 W m v ∧ ∃ nb, DR m (.lst nb 2 (outB zy)) u, fun W v u => ∃ m, G1 W m v ∧ ∃ nb, DR m (.lst nb 2 (outB zc)) u,
    lsEq rsEq (xs.map Prod.snd) (ys.map Prod.snd), lsEq rsEq (xs.map Prod.snd) (cs.map Prod.snd), Ext.refl _, hR, fun W hW => ?_, fun W hW => ?_, fun W hW => ?_, fun W hW => ?_, fun W hW => ?_, fun W v hW => ?_, fun W v hW => ?_, fun W v u hW => ?_, fun W v u hW => ?_⟩
  · exact (call_bool Try.func14 s_awake (hW.imm himm) .nil).mono fun e w' he => ⟨he.1, hW.trans he.2⟩
  · exact (call_bool Try.func30 (s_qsame nx ny xs ys bx.1 bx.2) (hW.imm himm) (b2s_d2 ha hb)).mono fun e w' he => ⟨he.1, hW.trans he.2⟩
  · exact (call_bool Try.func30 (s_qsame nx nc xs cs bx.1 bx.2) (hW.imm himm) (b2s_d2 ha hc)).mono fun e w' he => ⟨he.1, hW.trans he.2⟩
  · have := s_qsame nx nx xs xs bx.1 bx.2
    rw [lsEq_refl] at this
    exact (call_bool Try.func30 this (hW.imm himm) (b2s_d2 ha ha)).mono fun e w' he => ⟨he.1, hW.trans he.2⟩
  · refine (call_row Try.func32 evx (hW.imm himm) (b2s_d1 ha)).mono fun e w' he => ?_
    obtain ⟨A, n, c, m, b, rfl, hx, hle, hi, hd⟩ := he
    exact ⟨A, n, c, rfl, m, hW.trans hx, hle, hi, b, hd⟩
  · obtain ⟨m, hW0, hle0, hi0, nb, hd0⟩ := hW
    refine (call_row Try.func32 evy hi0 (b2s_d1 (hb.mono hle0))).mono fun e w' he => ?_
    obtain ⟨A, n, c, m', b, rfl, hx, hle, hi, hd⟩ := he
    exact ⟨A, n, c, rfl, m', ⟨hW0.trans hx, hle0.trans hle, hi, nb, hd0.mono hle⟩, b, hd⟩
  · obtain ⟨m, hW0, hle0, hi0, nb, hd0⟩ := hW
    refine (call_row Try.func32 evc hi0 (b2s_d1 (hc.mono hle0))).mono fun e w' he => ?_
    obtain ⟨A, n, c, m', b, rfl, hx, hle, hi, hd⟩ := he
    exact ⟨A, n, c, rfl, m', ⟨hW0.trans hx, hle0.trans hle, hi, nb, hd0.mono hle⟩, b, hd⟩
  · obtain ⟨m, ⟨hW0, hle0, hi0, nb, hd0⟩, nb2, hd2⟩ := hW
    have := s_sres nb nb2 zx zy bzx.1 bzx.2
    rw [hzx, hzy] at this
    exact (call_bool Try.func31 this hi0 (b2s_d2 hd0 hd2)).mono fun e w' he => ⟨he.1, hW0.trans he.2⟩
  · obtain ⟨m, ⟨hW0, hle0, hi0, nb, hd0⟩, nb2, hd2⟩ := hW
    have := s_sres nb nb2 zx zc bzx.1 bzx.2
    rw [hzx, hzc] at this
    exact (call_bool Try.func31 this hi0 (b2s_d2 hd0 hd2)).mono fun e w' he => ⟨he.1, hW0.trans he.2⟩
end Go.Proofs.Ytcinngpelbdopaa
