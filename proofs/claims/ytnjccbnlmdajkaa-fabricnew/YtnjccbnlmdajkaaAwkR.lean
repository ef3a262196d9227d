/- The example of chapter 6: Step of the pair. -/
import Derived.Test.YtnjccbnlmdajkaaAwkQ
set_option linter.all false
namespace Go.Proofs.Ytnjccbnlmdajkaa
open Go.RowKit Go.Shelf Go.Lib Go.Ev
set_option maxRecDepth 100000
def WdAt (r : RawB) (qo : Nat) (wd : Int) : Prop := ∃ (cur : Array Value) (t : Nat) (fz : Nat × Nat), r.o = .cells cur t fz ∧ cur[qo]? = some (.int .u64 wd)
theorem word_of {μ : Mu} {w : World} {wd : Int} {v : Value} (hle : MuLe μ (hf w)) (h : DR μ (.lst false 1 [[.v (.int .u64 wd)]]) v) : ∃ (q qo c : Nat) (o : Obj), v = .slice (some ⟨q, qo, none⟩) 1 c ∧ μ q = some o ∧ w.heap[q]? = some o ∧ WdAt ⟨q, o⟩ qo wd := by
  cases h with
  | @lst _ _ _ A c vals hnil hA hc hsz hcell hv =>
    cases A with
    | none => cases hnil
    | some a =>
      have h1 := hcell a rfl 0 0 (by simp) (by decide)
      have h2 := hv 0 _ 0 _ rfl rfl
      generalize vals 0 0 = y at h1 h2
      cases h2
      obtain ⟨q, qo, s⟩ := a
      rw [show (0 * 1 + 0 : Nat) = 0 by decide] at h1
      cases s with
      | some s =>
        simp only [Addr.add, if_true, muCell] at h1
        split at h1 <;> simp at h1
      | none =>
        rw [Addr.add_lit, Nat.add_zero] at h1
        unfold muCell at h1
        simp only at h1
        split at h1
        · rename_i cc ty fz hm
          exact ⟨q, qo, c, _, rfl, hm, hle _ _ hm, cc, ty, fz, rfl, by simpa using h1⟩
        · cases h1
theorem b2_agg2 {μ : Mu} {hp : HF} {F : List Nat} {G : List Value} {a b : AV} {v : Value} (h : B2 μ hp F G (.agg [a, b]) v) : ∃ (Fa Fb : List Nat) (Ga Gb : List Value) (v0 v1 : Value), v = .agg #[v0, v1] ∧ B1 μ hp Fa Ga a v0 ∧ B1 μ hp Fb Gb b v1 := by
  cases h with
  | o h => cases h with | c h => cases h with | d h => cases h
  | agg h => cases h with
    | cons h0 h => cases h with
      | cons h1 h => cases h; exact ⟨_, _, _, _, _, _, rfl, h0, h1⟩
theorem core39 {w : World} {bf : Nat} {d : AD} {na pa na' pa' : AV} {bat plc : Value} {wv tr po wd : Int} {ext : List RawB} {V : World} (h : AK w bf d na pa bat plc wv tr po ext V)
    (hev : ev 39 [pa, na] = some ([.agg [.v (.int .i64 0), .lst false 1 [[.v (.int .u64 wd)]]], .v (.bool true)] ++ [pa', na'])) (hf1 : flatO pa' = true) (hf2 : flatO na' = true) :
    Calls Try.prog 39 #[.pointer (some ⟨d.pp, 0, none⟩), .pointer (some ⟨d.pn, 0, none⟩)] V fun e w' => ∃ (q qo c : Nat) (o : Obj) (Fn' Fp' : List Nat), e = .returned (.tuple #[.agg #[.int .i64 0, .slice (some ⟨q, qo, none⟩) 1 c], .bool true]) ∧ WdAt ⟨q, o⟩ qo wd ∧
      AK w bf { d with Fn := Fn', Fp := Fp' } na' pa' bat plc wv tr po (ext ++ [⟨q, o⟩]) w' := by
  have hpp : B1 mu0 (hf V) d.Fp [.pointer (some ⟨d.pp, 0, none⟩)] pa (.pointer (some ⟨d.pp, 0, none⟩)) := h.st.own.ok ⟨_, d.Fp, pa⟩ (by simp)
  have hpn : B1 mu0 (hf V) d.Fn [.pointer (some ⟨d.pn, 0, none⟩)] na (.pointer (some ⟨d.pn, 0, none⟩)) := h.st.own.ok ⟨_, d.Fn, na⟩ (by simp)
  have hB : B2s mu0 (hf V) (foot [(⟨.pointer (some ⟨d.pp, 0, none⟩), d.Fp, pa⟩ : ItemO), ⟨.pointer (some ⟨d.pn, 0, none⟩), d.Fn, na⟩]) ([(⟨.pointer (some ⟨d.pp, 0, none⟩), d.Fp, pa⟩ : ItemO), ⟨.pointer (some ⟨d.pn, 0, none⟩), d.Fn, na⟩].map ItemO.p) [pa, na] [.pointer (some ⟨d.pp, 0, none⟩), .pointer (some ⟨d.pn, 0, none⟩)] :=
    .cons (.o hpp) (.cons (F' := []) (G' := []) (.o hpn) .nil)
  refine (h.st.call mix extOk [⟨.pointer (some ⟨d.pp, 0, none⟩), d.Fp, pa⟩, ⟨.pointer (some ⟨d.pn, 0, none⟩), d.Fn, na⟩] [] (List.Perm.swap _ _ _) hev Try.func39 (by kernel_rfl) hB (by rw [List.all_cons, hf1, List.all_cons, hf2]; rfl)).mono fun e w' he => ?_
  obtain ⟨vs, μ', F1, G1, xs', rfl, hb1, hle, hp', ha', hst, hap, _⟩ := he
  obtain ⟨_, _, _, _, v0, vs', _, _, rfl, hv0, hr⟩ := b2s_cons hb1
  obtain ⟨u, rfl, hu⟩ := Go.Ev.b2s_one hr
  obtain ⟨_, _, rfl⟩ := b2_v hu
  obtain ⟨_, _, _, _, y0, y1, rfl, hy0, hy1⟩ := b2_agg2 hv0
  obtain ⟨_, _, rfl⟩ := b1_v hy0
  obtain ⟨_, _, hy1⟩ := Go.Ev.b1_lst hy1
  obtain ⟨q, qo, c, o, rfl, hm, hq, hwd⟩ := word_of hle hy1
  match xs', hp', ha' with
  | [⟨x1, F1', a1⟩, ⟨x2, F2', a2⟩], hp', ha' =>
    obtain rfl : x1 = .pointer (some ⟨d.pp, 0, none⟩) := (List.cons.inj hp').1
    obtain rfl : x2 = .pointer (some ⟨d.pn, 0, none⟩) := (List.cons.inj (List.cons.inj hp').2).1
    obtain rfl : a1 = pa' := (List.cons.inj ha').1
    obtain rfl : a2 = na' := (List.cons.inj (List.cons.inj ha').2).1
    obtain ⟨r1, r2, r3⟩ := hap q (.inr ⟨o, hm⟩)
    have hst2 := (hst.addOld hq r1 r2 r3).perm (List.Perm.swap _ _ _)
    exact ⟨q, qo, c, o, F2', F1', rfl, hwd, hst2, h.f, h.n, h.c, h.l⟩
end Go.Proofs.Ytnjccbnlmdajkaa
