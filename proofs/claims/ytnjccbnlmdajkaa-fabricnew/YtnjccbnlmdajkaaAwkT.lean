/- The example of chapter 6: Step. -/
import Derived.Test.YtnjccbnlmdajkaaAwkR
set_option linter.all false
namespace Go.Proofs.Ytnjccbnlmdajkaa
open Go.RowKit Go.Shelf Go.Lib Go.Ev
set_option maxRecDepth 100000
def StA (w : World) (bf : Nat) (na pa : AV) (ps : List Nat) (wv : Int) (bb : Nat) (bcur : Array Value) (more : List RawB) (W : World) : Prop := ∃ (d : AD) (Bp po pc : Nat) (pcur : Array Value) (fz : Nat × Nat) (r : RawB), ps.length ≤ pc ∧ bcur.size = 4 ∧ (∀ k x, ps[k]? = some x → pcur[po + k]? = some (.int .i64 (x : Nat))) ∧
  AK w bf d na pa (.slice (some ⟨bb, 0, none⟩) 2 2) (.slice (some ⟨Bp, po, none⟩) ps.length pc) wv 1 2 (r :: ⟨Bp, .cells pcur 3 fz⟩ :: rawC bb bcur 67 :: more) W
theorem e40 (l : List AV) (h : l = [] ∨ l = [.v (.int .i64 1)]) : ev 40 [.lst false 1 (l.map fun a => [a])] = some [.ow false 3 1 (l.map fun a => [a])] := by
  rcases h with rfl | rfl
  · exact evL_of (n := 12) (by kernel_rfl)
  · exact evL_of (n := 12) (by kernel_rfl)
theorem AK.drop {w : World} {bf : Nat} {d : AD} {na pa : AV} {bat plc : Value} {wv tr po : Int} {ext ext' : List RawB} {W : World} (h : AK w bf d na pa bat plc wv tr po (ext ++ ext') W) : AK w bf d na pa bat plc wv tr po ext W :=
  ⟨h.st.drop (raw := d.raw bf ext) (raw' := ext'), h.f, h.n, h.c, h.l⟩
theorem lent_ints {W : World} {B po len c : Nat} {pcur : Array Value} {fz : Nat × Nat} {xs : List Nat} (hb : W.heap[B]? = some (.cells pcur 3 fz)) (hl : xs.length = len) (hc : len ≤ c) (hx : ∀ k x, xs[k]? = some x → pcur[po + k]? = some (.int .i64 (x : Nat))) :
    DR (hf W) (.lst false 1 ((xs.map fun x : Nat => AV.v (.int .i64 (x : Nat))).map fun a => [a])) (.slice (some ⟨B, po, none⟩) len c) := by
  have hlen : ((xs.map fun x : Nat => AV.v (.int .i64 (x : Nat))).map fun a => [a]).length = len := by simp [hl]
  rw [← hlen]
  refine .lst (fun k _ => (xs[k]?.map fun x : Nat => Value.int .i64 (x : Nat)).getD undef) rfl (fun e => by cases e) (by rw [hlen]; exact hc) (fun e he => ?_) (fun a ha k j hk hj => ?_) (fun k e j u hk hj => ?_)
  · simp only [List.map_map, List.mem_map] at he
    obtain ⟨x, _, rfl⟩ := he
    rfl
  · cases ha
    rw [hlen, ← hl] at hk
    have hxk := List.getElem?_eq_getElem hk
    have hj0 : j = 0 := by omega
    subst hj0
    rw [Addr.add_lit]
    unfold muCell
    have hb' : hf W B = some (.cells pcur 3 fz) := hb
    simp only [hb', hxk, Option.map_some, Option.getD_some]
    have := hx k _ hxk
    rw [Nat.mul_one, Nat.add_zero]
    simpa using this
  · rw [List.getElem?_map, List.getElem?_map] at hk
    cases hxk : xs[k]? with
    | none => rw [hxk] at hk; cases hk
    | some x =>
      rw [hxk] at hk
      obtain rfl := Option.some.inj hk
      match j, hj with
      | 0, hj => cases hj; exact .v rfl
      | j + 1, hj => simp at hj
theorem fin_ok {w : World} {bf : Nat} {d : AD} {na pa : AV} {x : Nat} {rest : List Nat} {wv : Int} {bb : Nat} {bcur : Array Value} {more : List RawB} {W : World} {Bp po pc : Nat} {pcur : Array Value} {fz : Nat × Nat} {r : RawB} {t7 q qo cq : Nat} (hpc : (x :: rest).length ≤ pc) (hbs : bcur.size = 4) (hx2 : x < 2)
    (hps : ∀ k y, (x :: rest)[k]? = some y → pcur[po + k]? = some (.int .i64 (y : Nat))) (hrest : rest = [] ∨ rest = [1])
    (h : AK w bf d na pa (.slice (some ⟨bb, 0, none⟩) 2 2) (.slice (some ⟨Bp, po, none⟩) (x :: rest).length pc) wv 1 2 (r :: ⟨Bp, .cells pcur 3 fz⟩ :: rawC bb bcur 67 :: (more ++ [rawC t7 #[.int .i64 0, .slice (some ⟨q, qo, none⟩) 1 cq] 67])) W)
    (K : World → Prop) (hK : ∀ W', StA w bf na pa rest (wrap64 (wv - 1)) bb ((bcur.setIfInBounds (x * 2) (.int .i64 0)).setIfInBounds (x * 2 + 1) (.slice (some ⟨q, qo, none⟩) 1 cq)) more W' → K W') :
    StpFin d.bc 0 d.bl 0 t7 0 (some ⟨q, qo, none⟩) 1 cq W K := by
  have hit : (d.raw bf (r :: ⟨Bp, .cells pcur 3 fz⟩ :: rawC bb bcur 67 :: (more ++ [rawC t7 #[.int .i64 0, .slice (some ⟨q, qo, none⟩) 1 cq] 67])))[7 + more.length]? = some (rawC t7 #[.int .i64 0, .slice (some ⟨q, qo, none⟩) 1 cq] 67) := by
    show (_ :: _ :: _ :: _ :: _ :: _ :: _ :: (more ++ [_]))[7 + more.length]? = _
    rw [Nat.add_comm]
    simp
  have hs1 := h.st.set (i := 6) rfl (x * 2) (.int .i64 0)
  have hs2 := hs1.set (i := 6) rfl (x * 2 + 1) (.slice (some ⟨q, qo, none⟩) 1 cq)
  have hit2 : ∀ a b : RawB, (((d.raw bf (r :: ⟨Bp, .cells pcur 3 fz⟩ :: rawC bb bcur 67 :: (more ++ [rawC t7 #[.int .i64 0, .slice (some ⟨q, qo, none⟩) 1 cq] 67]))).set 6 a).set 6 b)[7 + more.length]? = some (rawC t7 #[.int .i64 0, .slice (some ⟨q, qo, none⟩) 1 cq] 67) := fun a b => by
    rw [List.getElem?_set_ne (by omega), List.getElem?_set_ne (by omega)]; exact hit
  have hp0 := hps 0 x rfl
  rw [Nat.add_zero] at hp0
  refine ⟨bb, 2, 2, Bp, po, (x :: rest).length, pc, x, wv, hx2, by rw [List.length_cons]; omega, ⟨h.st.cell (i := 2) rfl h.c.2.2.2.1, h.st.cell (i := 3) rfl h.l.2, h.st.cell (i := 5) rfl hp0, h.st.cell hit rfl, h.st.cell hit rfl⟩, h.st.frozen (i := 6) rfl _, ⟨_, h.st.cell (i := 6) (v := bcur[x * 2]) rfl (Array.getElem?_eq_getElem (by omega))⟩, hs1.frozen (i := 6) rfl _,
    ⟨_, hs1.cell (i := 6) (v := bcur[x * 2 + 1]) rfl (by rw [Array.getElem?_setIfInBounds, if_neg (by omega)]; exact Array.getElem?_eq_getElem (by omega))⟩, ⟨hs2.cell (i := 2) rfl h.c.2.2.2.1, hs2.cell (i := 3) rfl h.l.2, hs2.cell (i := 5) rfl hp0, hs2.cell (hit2 _ _) rfl, hs2.cell (hit2 _ _) rfl⟩, fun qv hqv => ?_⟩
  have hs3 := hs2.drew
  generalize ((W.setCell ⟨bb, x * 2, none⟩ (.int .i64 0)).setCell ⟨bb, x * 2 + 1, none⟩ (.slice (some ⟨q, qo, none⟩) 1 cq)).drew = X at hs3 ⊢
  have hbp := (hs3.blk 5 ⟨Bp, .cells pcur 3 fz⟩ rfl).1
  have hdr : DR (hf X) (.lst false 1 ((rest.map fun y : Nat => AV.v (.int .i64 (y : Nat))).map fun a => [a])) qv := by
    rcases hqv with ⟨rfl, hp1⟩ | ⟨rfl, hp1⟩
    · exact lent_ints hbp (by simp) (by rw [List.length_cons] at hpc ⊢; omega) fun k y hy => by
        have := hps (k + 1) y (by simpa using hy)
        rw [← this]; congr 1; omega
    · have : rest = [] := by rw [List.length_cons] at hpc; exact List.eq_nil_of_length_eq_zero (by omega)
      subst this
      exact lent_ints hbp rfl (by simp) fun k y hy => by simp at hy
  have hev := e40 (rest.map fun y : Nat => AV.v (.int .i64 (y : Nat))) (by rcases hrest with rfl | rfl; exact .inl rfl; exact .inr rfl)
  refine (call_lentN mix extOk hev Try.func40 (.cons (F := []) (F' := []) (G := []) (G' := []) (.o (.c (.d hdr))) .nil)).mono fun e w' he => ?_
  obtain ⟨vs, μ', F1, G1, rfl, hk, hle, hb2, hnw⟩ := he
  obtain ⟨v, rfl, hv⟩ := Go.Ev.b2s_one hb2
  obtain ⟨b, c, cur, fz', rfl, rfl, hcell, hlc, hcv⟩ := ow_new hv
  have hbn := hnw b (by simp)
  have hs4 := hs3.kept0 hk
  have hs5 := hs3.repl (i := 5) (r' := ⟨b, .cells cur 3 fz'⟩) rfl (hk.mono fun x hx => by cases hx) hcell (.inr hbn)
  · have hs6 := hs5.set (i := 3) rfl (0 * 2 + 1) (.slice (some ⟨b, 0, none⟩) ((rest.map fun y : Nat => AV.v (.int .i64 (y : Nat))).map fun a => [a]).length c)
    have hs7 := hs6.set (i := 2) rfl (0 * 7 + 4) (.int .i64 (wrap64 (wv - 1)))
    have hl1 := (Array.getElem?_eq_some_iff.1 h.l.2).1
    have hc4 := (Array.getElem?_eq_some_iff.1 h.c.2.2.2.2.1).1
    have hlen : ((rest.map fun y : Nat => AV.v (.int .i64 (y : Nat))).map fun a => [a]).length = rest.length := by simp
    rw [hlen] at hs7 hs6 hlc ⊢
    refine ⟨some ⟨b, 0, none⟩, rest.length, c, _, rfl, hs4.frozen (i := 3) rfl _, ⟨_, hs4.cell (i := 3) rfl h.l.2⟩, rfl, hs6.frozen (i := 2) rfl _, hs6.cell (i := 2) rfl h.c.2.2.2.2.1, hK _ ?_⟩
    refine ⟨{ d with curl := d.curl.setIfInBounds (0 * 2 + 1) (.slice (some ⟨b, 0, none⟩) rest.length c), curc := d.curc.setIfInBounds (0 * 7 + 4) (.int .i64 (wrap64 (wv - 1))) }, b, 0, c, cur, fz', r, hlc, by rw [Array.size_setIfInBounds, Array.size_setIfInBounds]; exact hbs, fun k y hy => ?_, AK.drop (ext' := [rawC t7 #[.int .i64 0, .slice (some ⟨q, qo, none⟩) 1 cq] 67]) ⟨hs7, h.f, h.n, ⟨?_, ?_, ?_, ?_, ?_, ?_, ?_⟩, ?_, ?_⟩⟩
    · have := hcv k 0 [AV.v (.int .i64 (y : Nat))] _ (by rw [List.getElem?_map, List.getElem?_map, hy]; rfl) rfl
      rw [Nat.zero_add]
      simpa using this
    · rw [Array.getElem?_setIfInBounds, if_neg (by decide)]; exact h.c.1
    · rw [Array.getElem?_setIfInBounds, if_neg (by decide)]; exact h.c.2.1
    · rw [Array.getElem?_setIfInBounds, if_neg (by decide)]; exact h.c.2.2.1
    · rw [Array.getElem?_setIfInBounds, if_neg (by decide)]; exact h.c.2.2.2.1
    · rw [Array.getElem?_setIfInBounds, if_pos rfl, if_pos hc4]
    · rw [Array.getElem?_setIfInBounds, if_neg (by decide)]; exact h.c.2.2.2.2.2.1
    · rw [Array.getElem?_setIfInBounds, if_neg (by decide)]; exact h.c.2.2.2.2.2.2
    · rw [Array.getElem?_setIfInBounds, if_neg (by decide)]; exact h.l.1
    · rw [Array.getElem?_setIfInBounds, if_pos rfl, if_pos hl1]
theorem pair_cell {W : World} {pp : Nat} {F : List Nat} {qn : Bool} {qs : List (List AV)} {wl : AV} (h : B1 mu0 (hf W) F [.pointer (some ⟨pp, 0, none⟩)] (pA qn qs wl) (.pointer (some ⟨pp, 0, none⟩))) : ∃ (VA : Option Addr) (vc : Nat), W.cell? ⟨pp, 3, none⟩ = some (.slice VA qs.length vc) := by
  cases h with
  | @ob _ _ _ _ cur hb hm hc =>
    have hlen := hc.len
    obtain ⟨l, hl⟩ : ∃ l, cur.toList = l := ⟨_, rfl⟩
    rw [hl] at hc hlen
    match l, hlen with
    | [v0, v1, v2, v3, v4, v5], _ =>
      have c3 : cur[3]? = some v3 := by have := congrArg (fun l => l[3]?) hl; simpa using this
      have hb' : W.heap[pp]? = some (.cells cur 99 (0, 0)) := hb
      cases hc with
      | cons _ hc => cases hc with
        | cons _ hc => cases hc with
          | cons _ hc => cases hc with
            | cons h3 hc =>
              cases h3 with
              | d h => cases h
              | own => exact ⟨none, 0, cell_of hb' c3⟩
              | ow => exact ⟨_, _, cell_of hb' c3⟩
theorem nodup_b {raw : List RawB} (h : ∀ (i j : Nat) (r s : RawB), raw[i]? = some r → raw[j]? = some s → r.b = s.b → i = j) : (raw.map RawB.b).Nodup := by
  rw [List.Nodup, List.pairwise_iff_getElem]
  intro i j hi hj hij e
  rw [List.length_map] at hi hj
  rw [List.getElem_map, List.getElem_map] at e
  have := h i j _ _ (List.getElem?_eq_getElem hi) (List.getElem?_eq_getElem hj) e
  omega
theorem nodup_b' {raw : List RawB} (h : (raw.map RawB.b).Nodup) (i j : Nat) (r s : RawB) (hi : raw[i]? = some r) (hj : raw[j]? = some s) (e : r.b = s.b) : i = j := by
  rw [List.Nodup, List.pairwise_iff_getElem] at h
  obtain ⟨hi1, hi2⟩ := List.getElem?_eq_some_iff.1 hi
  obtain ⟨hj1, hj2⟩ := List.getElem?_eq_some_iff.1 hj
  rcases Nat.lt_trichotomy i j with hl | hl | hl
  · exact absurd (by rw [List.getElem_map, List.getElem_map, hi2, hj2]; exact e) (h i j (by rw [List.length_map]; exact hi1) (by rw [List.length_map]; exact hj1) hl)
  · exact hl
  · exact absurd (by rw [List.getElem_map, List.getElem_map, hi2, hj2]; exact e.symm) (h j i (by rw [List.length_map]; exact hj1) (by rw [List.length_map]; exact hi1) hl)
theorem wst_rawp {w W : World} {its : List ItemO} {raw raw' : List RawB} (h : Wst w its raw W) (hp : raw.Perm raw') : Wst w its raw' W :=
  ⟨h.kept, h.own, fun i r hi => by
    obtain ⟨j, hj⟩ := List.getElem?_of_mem (hp.mem_iff.2 (List.mem_of_getElem? hi))
    exact h.blk j r hj, fun i j r s hi hj e => nodup_b' ((hp.map RawB.b).nodup_iff.1 (nodup_b h.nd)) i j r s hi hj e, h.new⟩
theorem step_ok {w : World} {bf : Nat} {na na' pa' : AV} {qn : Bool} {qs : List (List AV)} {wl : AV} {x : Nat} {rest : List Nat} {wv wd : Int} {bb : Nat} {bcur : Array Value} {more : List RawB} {V : World} (h : StA w bf na (pA qn qs wl) (x :: rest) wv bb bcur more V) (hq : 0 < qs.length) (hx2 : x < 2) (hrest : rest = [] ∨ rest = [1])
    (hev : ev 39 [pA qn qs wl, na] = some ([.agg [.v (.int .i64 0), .lst false 1 [[.v (.int .u64 wd)]]], .v (.bool true)] ++ [pa', na'])) (hf1 : flatO pa' = true) (hf2 : flatO na' = true) (K : World → Prop)
    (hK : ∀ (q qo cq : Nat) (o : Obj) (mid : List RawB) (W' : World), WdAt ⟨q, o⟩ qo wd → StA w bf na' pa' rest (wrap64 (wv - 1)) bb ((bcur.setIfInBounds (x * 2) (.int .i64 0)).setIfInBounds (x * 2 + 1) (.slice (some ⟨q, qo, none⟩) 1 cq)) ((more ++ mid) ++ [⟨q, o⟩]) W' → K W') :
    Calls Try.prog 20 #[.pointer (some ⟨bf, 0, none⟩), .agg #[.int .i64 (-1), .int .i64 (0 : Nat), .int .i64 (0 : Nat)]] V fun e w' => e = .returned (.bool true) ∧ K w' := by
  obtain ⟨d, Bp, po, pc, pcur, fz, r, hpc, hbs, hps, hA⟩ := h
  obtain ⟨b3k, hb3k⟩ : ∃ b3k, rawC V.heap.size #[.int .i64 (-1), .int .i64 (0 : Nat), .int .i64 (0 : Nat)] 40 = b3k := ⟨_, rfl⟩
  have h1 : AK w bf d na (pA qn qs wl) (.slice (some ⟨bb, 0, none⟩) 2 2) (.slice (some ⟨Bp, po, none⟩) (x :: rest).length pc) wv 1 2 (r :: ⟨Bp, .cells pcur 3 fz⟩ :: rawC bb bcur 67 :: (more ++ [b3k])) (V.alloc (.cells #[.int .i64 (-1), .int .i64 (0 : Nat), .int .i64 (0 : Nat)] 40)) :=
    ⟨hb3k ▸ hA.st.alloc #[.int .i64 (-1), .int .i64 (0 : Nat), .int .i64 (0 : Nat)] 40, hA.f, hA.n, hA.c, hA.l⟩
  obtain ⟨w1, hw1⟩ : ∃ w1, V.alloc (.cells #[.int .i64 (-1), .int .i64 (0 : Nat), .int .i64 (0 : Nat)] 40) = w1 := ⟨_, rfl⟩
  rw [hw1] at h1
  obtain ⟨VA, vc, hvc⟩ := pair_cell (h1.st.own.ok ⟨.pointer (some ⟨d.pp, 0, none⟩), d.Fp, pA qn qs wl⟩ (by simp))
  have h2 := ((h1.kept0 (kept_drew _)).kept0 (kept_drew _)).kept0 (kept_drew _)
  have i3 : ∀ tl : List RawB, (d.raw bf (r :: ⟨Bp, .cells pcur 3 fz⟩ :: rawC bb bcur 67 :: ((more ++ [b3k]) ++ tl)))[7 + more.length]? = some b3k := fun tl => by
    show (_ :: _ :: _ :: _ :: _ :: _ :: _ :: ((more ++ [b3k]) ++ tl))[7 + more.length]? = _
    rw [Nat.add_comm]
    simp
  have hc3 : ∀ {X : World} {its : List ItemO} {tl : List RawB}, Wst w its (d.raw bf (r :: ⟨Bp, .cells pcur 3 fz⟩ :: rawC bb bcur 67 :: ((more ++ [b3k]) ++ tl))) X → ∀ j v, (#[.int .i64 (-1), .int .i64 (0 : Nat), .int .i64 (0 : Nat)] : Array Value)[j]? = some v → X.cell? ⟨V.heap.size, j, none⟩ = some v := fun {X its tl} hX j v hv =>
    hX.cell (i := 7 + more.length) (t := 40) (fz := (0, 0)) (by rw [i3, ← hb3k]) hv
  have h1' : Wst w (d.its na (pA qn qs wl)) (d.raw bf (r :: ⟨Bp, .cells pcur 3 fz⟩ :: rawC bb bcur 67 :: ((more ++ [b3k]) ++ []))) w1 := by rw [List.append_nil]; exact h1.st
  have hs9 : ∀ {ext' : List RawB} {d' : AD} {na2 pa2 : AV} {b2 p2 : Value} {x1 x2 x3 : Int} {W' : World}, d'.bn = d.bn ∧ d'.cn = d.cn ∧ d'.bl = d.bl ∧ d'.pn = d.pn ∧ d'.pp = d.pp → AK w bf d' na2 pa2 b2 p2 x1 x2 x3 ext' W' → W'.cell? ⟨V.heap.size, 2, none⟩ = some (.int .i64 (0 : Nat)) → S9 d.bl 0 d.pp bf d.bn 1 d.cn V.heap.size d.pn W' := fun {ext' d' na2 pa2 b2 p2 x1 x2 x3 W'} he hA' hc => by
    obtain ⟨g1, g2, g3, g4, g5⟩ := he
    have a1 := hA'.st.cell (i := 3) rfl hA'.l.1
    have a2 := hA'.st.cell (i := 0) rfl hA'.f.2.1
    have a3 := hA'.st.cell (i := 1) rfl hA'.n
    rw [g3, g5] at a1
    rw [g1, g2] at a2
    rw [g1, g4] at a3
    exact ⟨a1, a2, hc, a3⟩
  refine step_walk bf d.bc 0 1 d.bn 1 d.cn 0 d.bl 1 d.cl d.pp d.pn qs.length vc VA V w1 K (by decide) (by decide) (by decide) hq hw1 V.heap.size rfl (hc3 h1' 0 _ rfl) (hc3 h1' 1 _ rfl) (hc3 h1' 2 _ rfl) (h1.st.cell (i := 0) rfl h1.f.2.1) (h1.st.cell (i := 0) rfl h1.f.2.2.1) (h1.st.cell (i := 2) rfl h1.c.2.2.1) (h1.st.cell (i := 3) rfl h1.l.1) (h1.st.cell (i := 1) rfl h1.n) hvc
    w1.heap.size rfl ((core39 h2 hev hf1 hf2).mono fun e w' he => ?_) ?_
  · obtain ⟨q, qo, c, o, Fn', Fp', rfl, hwd, hA'⟩ := he
    have hst : Wst w (AD.its { d with Fn := Fn', Fp := Fp' } na' pa') (d.raw bf (r :: ⟨Bp, .cells pcur 3 fz⟩ :: rawC bb bcur 67 :: ((more ++ [b3k]) ++ [⟨q, o⟩]))) w' := hA'.st
    refine ⟨0, some ⟨q, qo, none⟩, 1, c, rfl, hs9 (d' := { d with Fn := Fn', Fp := Fp' }) ⟨rfl, rfl, rfl, rfl, rfl⟩ hA' (hc3 hst 2 _ rfl), ?_⟩
    refine fin_ok (d := { d with Fn := Fn', Fp := Fp' }) (more := (more ++ [b3k]) ++ [⟨q, o⟩]) hpc hbs hx2 hps hrest ⟨hst.alloc #[.int .i64 0, .slice (some ⟨q, qo, none⟩) 1 c] 67, hA'.f, hA'.n, hA'.c, hA'.l⟩ K fun W' hW' => hK q qo c o [b3k] W' hwd hW'
  · have h3 : AK w bf d na (pA qn qs wl) (.slice (some ⟨bb, 0, none⟩) 2 2) (.slice (some ⟨Bp, po, none⟩) (x :: rest).length pc) wv 1 2 ((r :: ⟨Bp, .cells pcur 3 fz⟩ :: rawC bb bcur 67 :: (more ++ [b3k])) ++ [rawC w1.heap.size #[.int .i64 0, .slice none 0 0] 67]) (w1.drew.drew.drew.alloc (.cells #[.int .i64 0, .slice none 0 0] 67)) :=
      ⟨h2.st.alloc #[.int .i64 0, .slice none 0 0] 67, h2.f, h2.n, h2.c, h2.l⟩
    refine (core39 h3 hev hf1 hf2).mono fun e w' he => ?_
    obtain ⟨q, qo, c, o, Fn', Fp', rfl, hwd, hA'⟩ := he
    have hst : Wst w (AD.its { d with Fn := Fn', Fp := Fp' } na' pa') (d.raw bf (r :: ⟨Bp, .cells pcur 3 fz⟩ :: rawC bb bcur 67 :: ((more ++ [b3k]) ++ ([⟨q, o⟩] ++ [rawC w1.heap.size #[.int .i64 0, .slice none 0 0] 67])))) w' := by
      refine wst_rawp hA'.st ?_
      show (_ :: _ :: _ :: _ :: _ :: _ :: _ :: (((more ++ [b3k]) ++ [_]) ++ [_])).Perm (_ :: _ :: _ :: _ :: _ :: _ :: _ :: ((more ++ [b3k]) ++ ([_] ++ [_])))
      rw [List.append_assoc]
      exact (((((((List.Perm.append_left _ (List.Perm.swap _ _ _)).cons _).cons _).cons _).cons _).cons _).cons _).cons _
    have i7 : ∀ z : RawB, (d.raw bf (r :: ⟨Bp, .cells pcur 3 fz⟩ :: rawC bb bcur 67 :: ((more ++ [b3k]) ++ ([⟨q, o⟩] ++ [z]))))[9 + more.length]? = some z := fun z => by
      show (_ :: _ :: _ :: _ :: _ :: _ :: _ :: ((more ++ [b3k]) ++ ([_] ++ [z])))[9 + more.length]? = _
      rw [Nat.add_comm]
      simp
    have s7 : ∀ z z' : RawB, (d.raw bf (r :: ⟨Bp, .cells pcur 3 fz⟩ :: rawC bb bcur 67 :: ((more ++ [b3k]) ++ ([⟨q, o⟩] ++ [z])))).set (9 + more.length) z' = d.raw bf (r :: ⟨Bp, .cells pcur 3 fz⟩ :: rawC bb bcur 67 :: ((more ++ [b3k]) ++ ([⟨q, o⟩] ++ [z']))) := fun z z' => by
      show (_ :: _ :: _ :: _ :: _ :: _ :: _ :: ((more ++ [b3k]) ++ ([_] ++ [z]))).set (9 + more.length) z' = _
      rw [Nat.add_comm]
      simp
    have t1 := hst.set (i7 _) 0 (.int .i64 0)
    rw [s7] at t1
    have t2 := t1.set (i7 _) 1 (.slice (some ⟨q, qo, none⟩) 1 c)
    rw [s7] at t2
    refine ⟨0, some ⟨q, qo, none⟩, 1, c, rfl, hs9 (d' := { d with Fn := Fn', Fp := Fp' }) ⟨rfl, rfl, rfl, rfl, rfl⟩ hA' (hc3 hst 2 _ rfl), hst.frozen (i7 _) _, t1.frozen (i7 _) _, ⟨_, hst.cell (i7 _) rfl⟩, ⟨_, t1.cell (v := .slice none 0 0) (i7 _) rfl⟩,
      hs9 (d' := { d with Fn := Fn', Fp := Fp' }) (ext' := r :: ⟨Bp, .cells pcur 3 fz⟩ :: rawC bb bcur 67 :: ((more ++ [b3k]) ++ ([⟨q, o⟩] ++ [_]))) ⟨rfl, rfl, rfl, rfl, rfl⟩ ⟨t2, hA'.f, hA'.n, hA'.c, hA'.l⟩ (hc3 t2 2 _ rfl), ?_⟩
    refine fin_ok (fz := fz) (r := r) (d := { d with Fn := Fn', Fp := Fp' }) (more := (more ++ [b3k]) ++ [⟨q, o⟩]) hpc hbs hx2 hps hrest ⟨?_, hA'.f, hA'.n, hA'.c, hA'.l⟩ K fun W' hW' => hK q qo c o [b3k] W' hwd hW'
    rw [List.append_assoc]
    exact t2
end Go.Proofs.Ytnjccbnlmdajkaa
