/- The program's and the reference's hints are the same pages. -/
import Derived.Test.YtjbpbidlcegopaaDoorRfb
set_option linter.all false
namespace Go.Proofs.YtjbpbidlcegopaaDoor
open Go.Ev
open H (ws aux cnt lvl lmB ddB hiW riW ents En vpB vpB_iff risB lastK)
theorem ris_last : ∀ (es : List En) (last : Int), risB last es = true → es ≠ [] → last < lastK es
  | [], _, _, h => absurd rfl h
  | [e], last, h, _ => by
    simp only [H.risB, Bool.and_eq_true, Bool.not_eq_true'] at h
    have : ¬ (e.k ≤ last) := of_decide_eq_false h.1
    show last < e.k
    omega
  | e :: e2 :: r, last, h, _ => by
    have h0 : (!(leI e.k last) && (vpB e.l e.g && risB e.k (e2 :: r))) = true := h
    simp only [Bool.and_eq_true, Bool.not_eq_true'] at h0
    have h1 : ¬ (e.k ≤ last) := of_decide_eq_false h0.1
    have h2 := ris_last (e2 :: r) e.k h0.2.2 (by simp)
    have h3 : lastK (e :: e2 :: r) = lastK (e2 :: r) := by simp [H.lastK]
    rw [h3]
    omega
theorem ris_vn (lv hi : Int) (hl : 0 < lv) : ∀ (es : List En) (last : Int) (prev : Option Int), 0 ≤ last → (prev = none ∨ prev = some last) → risB last es = true → lastK es ≤ hi → vnL lv hi prev es = true
  | [], _, _, _, _, _, _ => rfl
  | e :: r, last, prev, h0, hp, h, hk => by
    have h1 : (!(leI e.k last) && (vpB e.l e.g && risB e.k r)) = true := h
    simp only [Bool.and_eq_true, Bool.not_eq_true'] at h1
    obtain ⟨h2, h3, h4⟩ := h1
    have h2 : ¬ (e.k ≤ last) := of_decide_eq_false h2
    have h5 : e.k ≤ hi := by
      rcases r with _ | ⟨e2, r⟩
      · exact hk
      · have := ris_last (e2 :: r) e.k h4 (by simp)
        have h6 : lastK (e :: e2 :: r) = lastK (e2 :: r) := by simp [H.lastK]
        omega
    have h7 : lastK r ≤ hi := by
      rcases r with _ | ⟨e2, r⟩
      · show (0 : Int) ≤ hi; omega
      · have h6 : lastK (e :: e2 :: r) = lastK (e2 :: r) := by simp [H.lastK]
        omega
    have ih := ris_vn lv hi hl r e.k (some e.k) (by omega) (.inr rfl) h4 h7
    show (chk lv hi prev e && vnL lv hi (some e.k) r) = true
    rw [ih, Bool.and_true]
    unfold chk
    rw [ltI_f (by omega), ltI_f h5, h3, show (lv == 0) = false from beq_eq_false_iff_ne.2 (by omega)]
    rcases hp with rfl | rfl
    · rfl
    · show (!false && (!false && (true && (!(false && _) && !(leI e.k last))))) = true
      rw [leI_f (by omega)]; rfl
theorem vn_ris (lv hi : Int) : ∀ (es : List En) (last : Int) (prev : Option Int), (prev = none ∧ last = 0 ∨ prev = some last) → vnL lv hi prev es = true → risB last es = true
  | [], _, _, _, _ => rfl
  | e :: r, last, prev, hp, h => by
    have h1 : (chk lv hi prev e && vnL lv hi (some e.k) r) = true := h
    rw [Bool.and_eq_true] at h1
    obtain ⟨h2, h3⟩ := h1
    unfold chk at h2
    simp only [Bool.and_eq_true, Bool.not_eq_true'] at h2
    obtain ⟨a1, a2, a3, a4, a5⟩ := h2
    have ih := vn_ris lv hi r e.k (some e.k) (.inr rfl) h3
    show (!(leI e.k last) && (vpB e.l e.g && risB e.k r)) = true
    have a1 : ¬ (e.k < 1) := of_decide_eq_false a1
    rw [a3, ih]
    rcases hp with ⟨rfl, rfl⟩ | rfl
    · rw [leI_f (by omega)]; rfl
    · simp only [Bool.not_eq_true'] at a5
      rw [a5]; rfl
theorem ris_all : ∀ (es : List En) (last : Int), risB last es = true → ∀ e ∈ es, vpB e.l e.g = true
  | [], _, _, e, he => by cases he
  | x :: r, last, h, e, he => by
    have h1 : (!(leI x.k last) && (vpB x.l x.g && risB x.k r)) = true := h
    simp only [Bool.and_eq_true] at h1
    rcases List.mem_cons.1 he with rfl | he
    · exact h1.2.1
    · exact ris_all r x.k h1.2.2 e he
theorem word_of {w : Int} (hw : u64ok w) (h : vpB (En.of w).l (En.of w).g = true) : H.wordE (En.of w) = w := by
  obtain ⟨h0, h1⟩ := hw
  show w / 4294967296 * 4294967296 + H.pk (w % 4294967296 % 256) (w % 4294967296 / 256) = w
  unfold H.pk
  rw [show vpB (w % 4294967296 % 256) (w % 4294967296 / 256) = true from h]
  show w / 4294967296 * 4294967296 + (w % 4294967296 / 256 * 256 + w % 4294967296 % 256) = w
  omega
theorem rn_eq (p : Pg) (h : 0 ≤ riW p) : ((riW p % 256 == 0) && (riW p / 256 == 0)) = (riW p == 0) := by
  rw [Bool.eq_iff_iff]
  simp only [Bool.and_eq_true, beq_iff_eq]
  omega
theorem data_eq (p : Pg) (hp : p.ok) (hc : cnt p ≤ 5) (hr : ∀ e ∈ ents p, vpB e.l e.g = true) (hri : ((riW p == 0) || vpB (riW p % 256) (riW p / 256)) = true) : H.dataB p = ((aux p / 262144 == 0) && zr (cnt p) 0 (ws p)) := by
  obtain ⟨_, _, ok0, ok1, ok2, ok3, ok4, ok5, ok6⟩ := hp
  obtain ⟨k0, k1⟩ := ok0
  obtain ⟨j0, j1⟩ := ok1
  have x0 : 0 ≤ aux p ∧ aux p < 4294967296 := by unfold H.aux; omega
  have hc0 : 0 ≤ cnt p := by unfold H.cnt; omega
  have hpk : H.pk (riW p % 256) (riW p / 256) = riW p := by
    have hr0 : 0 ≤ riW p := by unfold H.riW; omega
    unfold H.pk
    cases h : vpB (riW p % 256) (riW p / 256) with
    | true => show riW p / 256 * 256 + riW p % 256 = riW p; omega
    | false => rw [h, Bool.or_false] at hri; have := eq_of_beq hri; show (0 : Int) = riW p; omega
  have hd1 : hiW p + H.pk (riW p % 256) (riW p / 256) * 4294967296 = p.d1 := by rw [hpk]; unfold H.hiW H.riW; omega
  have hW : ∀ w, w ∈ (ws p).take (cnt p).toNat → u64ok w → H.wordE (En.of w) = w := fun w hw ho => word_of ho (hr _ (List.mem_map_of_mem hw))
  have hlen : (ents p).length = (cnt p).toNat := by unfold H.ents H.ws; rw [List.length_map, List.length_take]; simp only [List.length_cons, List.length_nil]; omega
  have haux : H.auxN (lvl p) (lmB p) (ddB p) (ents p) = aux p % 256 + cnt p * 256 + aux p / 65536 % 2 * 65536 + aux p / 131072 % 2 * 131072 := by
    unfold H.auxN
    rw [hlen, show (((cnt p).toNat : Nat) : Int) = cnt p by omega]
    have e1 : (bif lmB p then (65536 : Int) else 0) = aux p / 65536 % 2 * 65536 := by
      unfold H.lmB
      rcases Int.emod_two_eq (aux p / 65536) with h | h
      · rw [h]; rfl
      · rw [h]; rfl
    have e2 : (bif ddB p then (131072 : Int) else 0) = aux p / 131072 % 2 * 131072 := by
      unfold H.ddB
      rcases Int.emod_two_eq (aux p / 131072) with h | h
      · rw [h]; rfl
      · rw [h]; rfl
    rw [e1, e2]; rfl
  have htag : (p.d0 % 256 + p.d0 / 256 % 16777216 * 256 + H.auxN (lvl p) (lmB p) (ddB p) (ents p) * 4294967296 == p.d0) = (aux p / 262144 == 0) := by
    rw [haux, Bool.eq_iff_iff, beq_iff_eq, beq_iff_eq]
    unfold H.cnt H.aux
    omega
  obtain ⟨n, hn⟩ : ∃ n : Nat, cnt p = (n : Int) := ⟨(cnt p).toNat, by omega⟩
  have hn5 : n ≤ 5 := by omega
  rw [hn, Int.toNat_natCast] at hW
  unfold H.dataB H.filW
  rw [hd1, hn]
  have hes : ents p = ((ws p).take n).map En.of := by unfold H.ents; rw [hn, Int.toNat_natCast]
  have key : ∀ (T : Int) (B : Bool), (T == p.d0) = B → (let W := H.fillW 0 (((ws p).take n).map En.of) (H.wd0 T p.d1); ((W 0 == p.d0) && ((W 1 == p.d1) && ((W 2 == p.d2) && ((W 3 == p.d3) && ((W 4 == p.d4) && ((W 5 == p.d5) && (W 6 == p.d6)))))))) = (B && zr (n : Int) 0 (ws p)) := by
    intro T B hT
    subst hT
    match n, hn5, hW with
    | 0, _, _ =>
      show ((T == p.d0) && ((p.d1 == p.d1) && ((0 == p.d2) && ((0 == p.d3) && ((0 == p.d4) && ((0 == p.d5) && (0 == p.d6))))))) = ((T == p.d0) && ((p.d2 == 0) && ((p.d3 == 0) && ((p.d4 == 0) && ((p.d5 == 0) && ((p.d6 == 0) && true))))))
      rw [Bool.eq_iff_iff]; simp only [Bool.and_eq_true, beq_iff_eq, eq_self, true_and, and_true]; omega
    | 1, _, hW =>
      have e1 := hW p.d2 (by simp [H.ws]) ok2
      show ((T == p.d0) && ((p.d1 == p.d1) && ((H.wordE (En.of p.d2) == p.d2) && ((0 == p.d3) && ((0 == p.d4) && ((0 == p.d5) && (0 == p.d6))))))) = ((T == p.d0) && (true && ((p.d3 == 0) && ((p.d4 == 0) && ((p.d5 == 0) && ((p.d6 == 0) && true))))))
      rw [e1, Bool.eq_iff_iff]; simp only [Bool.and_eq_true, beq_iff_eq, eq_self, true_and, and_true]; omega
    | 2, _, hW =>
      have e1 := hW p.d2 (by simp [H.ws]) ok2
      have e2 := hW p.d3 (by simp [H.ws]) ok3
      show ((T == p.d0) && ((p.d1 == p.d1) && ((H.wordE (En.of p.d2) == p.d2) && ((H.wordE (En.of p.d3) == p.d3) && ((0 == p.d4) && ((0 == p.d5) && (0 == p.d6))))))) = ((T == p.d0) && (true && (true && ((p.d4 == 0) && ((p.d5 == 0) && ((p.d6 == 0) && true))))))
      rw [e1, e2, Bool.eq_iff_iff]; simp only [Bool.and_eq_true, beq_iff_eq, eq_self, true_and, and_true]; omega
    | 3, _, hW =>
      have e1 := hW p.d2 (by simp [H.ws]) ok2
      have e2 := hW p.d3 (by simp [H.ws]) ok3
      have e3 := hW p.d4 (by simp [H.ws]) ok4
      show ((T == p.d0) && ((p.d1 == p.d1) && ((H.wordE (En.of p.d2) == p.d2) && ((H.wordE (En.of p.d3) == p.d3) && ((H.wordE (En.of p.d4) == p.d4) && ((0 == p.d5) && (0 == p.d6))))))) = ((T == p.d0) && (true && (true && (true && ((p.d5 == 0) && ((p.d6 == 0) && true))))))
      rw [e1, e2, e3, Bool.eq_iff_iff]; simp only [Bool.and_eq_true, beq_iff_eq, eq_self, true_and, and_true]; omega
    | 4, _, hW =>
      have e1 := hW p.d2 (by simp [H.ws]) ok2
      have e2 := hW p.d3 (by simp [H.ws]) ok3
      have e3 := hW p.d4 (by simp [H.ws]) ok4
      have e4 := hW p.d5 (by simp [H.ws]) ok5
      show ((T == p.d0) && ((p.d1 == p.d1) && ((H.wordE (En.of p.d2) == p.d2) && ((H.wordE (En.of p.d3) == p.d3) && ((H.wordE (En.of p.d4) == p.d4) && ((H.wordE (En.of p.d5) == p.d5) && (0 == p.d6))))))) = ((T == p.d0) && (true && (true && (true && (true && ((p.d6 == 0) && true))))))
      rw [e1, e2, e3, e4, Bool.eq_iff_iff]; simp only [Bool.and_eq_true, beq_iff_eq, eq_self, true_and, and_true]; omega
    | 5, _, hW =>
      have e1 := hW p.d2 (by simp [H.ws]) ok2
      have e2 := hW p.d3 (by simp [H.ws]) ok3
      have e3 := hW p.d4 (by simp [H.ws]) ok4
      have e4 := hW p.d5 (by simp [H.ws]) ok5
      have e5 := hW p.d6 (by simp [H.ws]) ok6
      show ((T == p.d0) && ((p.d1 == p.d1) && ((H.wordE (En.of p.d2) == p.d2) && ((H.wordE (En.of p.d3) == p.d3) && ((H.wordE (En.of p.d4) == p.d4) && ((H.wordE (En.of p.d5) == p.d5) && (H.wordE (En.of p.d6) == p.d6))))))) = ((T == p.d0) && (true && (true && (true && (true && (true && true))))))
      rw [e1, e2, e3, e4, e5, Bool.eq_iff_iff]; simp only [Bool.and_eq_true, beq_iff_eq, eq_self, true_and, and_true]
  rw [← hes] at key
  exact key _ _ htag
theorem tree_eq (p : Pg) (hp : p.ok) : treeR p = H.treeP p := by
  have hp2 := hp
  obtain ⟨_, _, ⟨k0, k1⟩, ⟨j0, j1⟩, _⟩ := hp2
  have hr0 : 0 ≤ riW p := by unfold H.riW; omega
  have hh0 : 0 ≤ hiW p := by unfold H.hiW; omega
  have hl0 : 0 ≤ lvl p := by unfold H.lvl H.aux; omega
  have hrn := rn_eq p hr0
  unfold treeR H.treeP
  cases h1 : (p.d0 % 256 == 4) with
  | false => rfl
  | true =>
  cases h2 : ltI 5 (cnt p) with
  | true => simp
  | false =>
  have hc5 : cnt p ≤ 5 := Int.not_lt.1 (of_decide_eq_false h2)
  cases h3 : ltI 0 (lvl p) with
  | false => simp
  | true =>
  have hl1 : 0 < lvl p := of_decide_eq_true h3
  have hel : ltI 5 (((ents p).length : Nat) : Int) = false := ltI_f (by unfold H.ents H.ws; rw [List.length_map, List.length_take]; simp only [List.length_cons, List.length_nil]; omega)
  unfold v52P H.v58P v52 H.v58
  rw [ltI_f hl0, hel, hrn, h3]
  cases h4 : ltI 8 (lvl p) with
  | true => simp
  | false =>
  simp only [Bool.true_and, Bool.not_false, Bool.and_true, cond_false, cond_true]
  by_cases hh : hiW p = 0
  · rw [hh]; simp [ltI]
  · rw [show ltI (hiW p) 1 = false from ltI_f (by omega), show (hiW p == 0) = false from beq_eq_false_iff_ne.2 hh]
    simp only [cond_false]
    cases h5 : ((riW p == 0) || vpB (riW p % 256) (riW p / 256)) with
    | false =>
      have : (!(riW p == 0) && !(vpB (riW p % 256) (riW p / 256))) = true := by
        cases hx : (riW p == 0) <;> cases hy : vpB (riW p % 256) (riW p / 256) <;> rw [hx, hy] at h5 <;> first | rfl | cases h5
      rw [this]
      cases risB 0 (ents p) <;> simp
    | true =>
    have e5 : (!(riW p == 0) && !(vpB (riW p % 256) (riW p / 256))) = false := by
      cases hx : (riW p == 0) <;> cases hy : vpB (riW p % 256) (riW p / 256) <;> rw [hx, hy] at h5 <;> first | rfl | cases h5
    rw [e5, show ((hiW p == 4294967295) == (riW p == 0)) = ((riW p == 0) == (hiW p == 4294967295)) from Bool.beq_comm]
    cases h6 : ((riW p == 0) == (hiW p == 4294967295)) with
    | false => cases risB 0 (ents p) <;> simp
    | true =>
    simp only [Bool.true_and, Bool.not_true, cond_false]
    have e8 : (lvl p == 0) = false := beq_eq_false_iff_ne.2 (by omega)
    rw [e8]
    cases h7 : (lastK (ents p) == hiW p) with
    | false =>
      simp only [Bool.not_false, Bool.or_true, cond_true, Bool.and_false]
      cases risB 0 (ents p) <;> cases vnL (lvl p) (hiW p) none (ents p) <;> simp
    | true =>
    have hk : lastK (ents p) = hiW p := eq_of_beq h7
    have hne : ents p ≠ [] := fun e => by rw [e] at hk; exact hh hk.symm
    have e9 : ((((ents p).length : Nat) : Int) == 0) = false := beq_eq_false_iff_ne.2 (by
      have : (ents p).length ≠ 0 := fun h => hne (List.eq_nil_of_length_eq_zero h)
      omega)
    rw [e9]
    have hrv : vnL (lvl p) (hiW p) none (ents p) = risB 0 (ents p) := by
      rw [Bool.eq_iff_iff]
      exact ⟨fun h => vn_ris _ _ _ 0 none (.inl ⟨rfl, rfl⟩) h, fun h => ris_vn _ _ hl1 _ 0 none (Int.le_refl 0) (.inl rfl) h (by omega)⟩
    rw [hrv]
    cases h8 : risB 0 (ents p) with
    | false => simp
    | true =>
      rw [data_eq p hp hc5 (ris_all _ _ h8) h5]
      cases ddB p <;> cases (aux p / 262144 == 0) <;> cases zr (cnt p) 0 (ws p) <;> rfl
end Go.Proofs.YtjbpbidlcegopaaDoor
