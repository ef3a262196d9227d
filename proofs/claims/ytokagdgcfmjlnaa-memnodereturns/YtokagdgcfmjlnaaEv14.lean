/- Appending, copying. -/
import Derived.Test.YtokagdgcfmjlnaaEv13
set_option linter.all false
namespace Go.Ev

theorem RowD.nil {μ : Mu} {sz : Nat} {cur : Array Value} : RowD μ sz [] cur := ⟨fun e he => (by cases he), fun i e j c he => (by simp at he)⟩

/-- Rows beside one another. -/
theorem RowD.app {μ : Mu} {sz : Nat} {xs ys : List (List AV)} {L1 L2 L3 : List Value} (h1 : RowD μ sz xs L1.toArray) (l1 : L1.length = xs.length * sz) (h2 : RowD μ sz ys L2.toArray) : RowD μ sz (xs ++ ys) (L1 ++ L2 ++ L3).toArray := by
  refine ⟨fun e he => ?_, fun i e j c he hc => ?_⟩
  · rcases List.mem_append.1 he with h | h
    · exact h1.1 e h
    · exact h2.1 e h
  · rcases Nat.lt_or_ge i xs.length with hi | hi
    · rw [List.getElem?_append_left hi] at he
      obtain ⟨u, h3, h4⟩ := h1.2 i e j c he hc
      refine ⟨u, ?_, h4⟩
      rw [List.getElem?_toArray] at h3 ⊢
      have hlt := (List.getElem?_eq_some_iff.1 h3).1
      rw [List.append_assoc, List.getElem?_append_left hlt]
      exact h3
    · rw [List.getElem?_append_right hi] at he
      obtain ⟨u, h3, h4⟩ := h2.2 _ e j c he hc
      refine ⟨u, ?_, h4⟩
      rw [List.getElem?_toArray] at h3 ⊢
      have hlt := (List.getElem?_eq_some_iff.1 h3).1
      have hij : L1.length ≤ i * sz + j := by rw [l1]; exact Nat.le_trans (Nat.mul_le_mul_right _ hi) (Nat.le_add_right _ _)
      have e1 : i * sz + j - L1.length = (i - xs.length) * sz + j := by
        rw [l1, Nat.mul_sub_right_distrib]
        have : xs.length * sz ≤ i * sz := Nat.mul_le_mul_right _ hi
        omega
      rw [List.append_assoc, List.getElem?_append_right hij, e1, List.getElem?_append_left hlt]
      exact h3
theorem RowD.take {μ : Mu} {sz : Nat} {xs : List (List AV)} {cur : Array Value} (h : RowD μ sz xs cur) (n : Nat) : RowD μ sz (xs.take n) (cur.toList.take (n * sz)).toArray := by
  refine ⟨fun e he => h.1 e (List.mem_of_mem_take he), fun i e j c he hc => ?_⟩
  rw [List.getElem?_take] at he
  split at he
  · rename_i hi
    obtain ⟨u, h1, h2⟩ := h.2 i e j c he hc
    have hj : j < sz := by rw [← h.1 e (List.mem_of_getElem? he)]; exact (List.getElem?_eq_some_iff.1 hc).1
    refine ⟨u, ?_, h2⟩
    rw [List.getElem?_toArray, List.getElem?_take, if_pos (idx_lt hi hj).1, Array.getElem?_toList]
    exact h1
  · cases he
theorem RowD.drop {μ : Mu} {sz : Nat} {xs : List (List AV)} {cur : Array Value} (h : RowD μ sz xs cur) (n : Nat) : RowD μ sz (xs.drop n) (cur.toList.drop (n * sz)).toArray := by
  refine ⟨fun e he => h.1 e (List.mem_of_mem_drop he), fun i e j c he hc => ?_⟩
  rw [List.getElem?_drop] at he
  obtain ⟨u, h1, h2⟩ := h.2 _ e j c he hc
  refine ⟨u, ?_, h2⟩
  rw [List.getElem?_toArray, List.getElem?_drop, Array.getElem?_toList, ← Nat.add_assoc, ← Nat.add_mul]
  exact h1
theorem RowD.take' {μ : Mu} {sz : Nat} {xs : List (List AV)} {L : List Value} (h : RowD μ sz xs L.toArray) (n : Nat) : RowD μ sz (xs.take n) (L.take (n * sz)).toArray := by
  have := h.take n; simpa using this

section
variable {P : Program} {E : Env} {μ : Mu} {ρ : Rho} {σ : Store} {w : World}

/-- What is appended or copied, as the model reads it. -/
theorem app_view {a : AV} {ysz : Nat} {ys : List (List AV)} {v : Value} (h : appXs σ a = some (ysz, ys)) (hv : VR μ ρ a v) (hs : SR E μ ρ σ w) :
    ∃ news : List Value, (∀ w' : World, (Builtin.lenOf v).run P w' = .ok ys.length w') ∧ news.length = ys.length * ysz ∧ RowD μ ysz ys news.toArray ∧
      ∀ (size n : Nat) (w' : World), (size = ysz ∨ ys = []) → n ≤ ys.length → w'.heap = w.heap → (Builtin.firstCells size n v).run P w' = .ok (news.take (n * size)).toArray w' := by
  have slc : ∀ (nil : Bool) (A : Option Addr) (c : Nat) (news : List Value), v = .slice A ys.length c → SV μ w nil ysz ys A c news → ∃ news : List Value, (∀ w' : World, (Builtin.lenOf v).run P w' = .ok ys.length w') ∧ news.length = ys.length * ysz ∧ RowD μ ysz ys news.toArray ∧
      ∀ (size n : Nat) (w' : World), (size = ysz ∨ ys = []) → n ≤ ys.length → w'.heap = w.heap → (Builtin.firstCells size n v).run P w' = .ok (news.take (n * size)).toArray w' := fun nil A c news hva hsv => by
    subst hva
    refine ⟨news, fun w' => rfl, hsv.len, hsv.row, fun size n w' hsz hn hw => ?_⟩
    cases A with
    | none =>
      have hx := (hsv.hA rfl).1
      have : news = [] := List.eq_nil_of_length_eq_zero (by rw [hsv.len, hx]; simp)
      subst this
      simp [Builtin.firstCells]
    | some ad =>
      simp only [Builtin.firstCells]
      have hlen : (news.take (n * size)).length = n * size := by
        rw [List.length_take, hsv.len]
        rcases hsz with e | e
        · rw [e]; have := Nat.mul_le_mul_right ysz hn; omega
        · rw [e] at hn ⊢; simp at hn; simp [hn]
      have := run_loadCells_list (P := P) w' ad (news.take (n * size)) fun j u hu => ?_
      · rw [hlen] at this; exact this
      rw [List.getElem?_take] at hu
      split at hu
      · have := hsv.cell ad rfl j u hu
        unfold World.cell? at this ⊢
        rw [hw]; exact this
      · cases hu
  unfold appXs at h
  split at h
  · rename_i s
    injection h with h; injection h with h1 h2; subst h1; subst h2
    have := hv.v_eq; subst this
    refine ⟨s.data.toList.map fun b => .int .u8 b.toNat, fun w' => by simp [Builtin.lenOf], by simp, ⟨fun e he => ?_, fun i e j c he hc => ?_⟩, fun size n w' hsz hn hw => ?_⟩
    · obtain ⟨b, _, hb⟩ := List.mem_map.1 he; rw [← hb]; rfl
    · simp only [List.getElem?_map, Option.map_eq_some_iff] at he
      obtain ⟨b, hb, e1⟩ := he
      subst e1
      have hj : j = 0 := by have := (List.getElem?_eq_some_iff.1 hc).1; simp [ofByte] at this; exact this
      subst hj
      simp only [ofByte, List.getElem?_cons_zero, Option.some.injEq] at hc
      subst hc
      refine ⟨.int .u8 b.toNat, ?_, .v rfl⟩
      simp only [Nat.mul_one, Nat.add_zero, List.getElem?_toArray, List.getElem?_map, hb, Option.map_some]
    · have hnn : n * size = n := by
        rcases hsz with e | e
        · rw [e, Nat.mul_one]
        · rw [e] at hn; simp at hn; rw [hn]; simp
      rw [hnn]
      simp only [Builtin.firstCells, Sem.run_pure]
      congr 1
      apply Array.ext'
      simp [ByteArray.data_extract, List.extract_eq_take_drop, List.map_take]
  · injection h with h; injection h with h1 h2; subst h1; subst h2
    cases hv with
    | c hx => cases hx with
      | d hd =>
        obtain ⟨A, c, news, h1, h2⟩ := hd.view hs.imm
        exact slc _ A c news h1 h2
  · split at h
    · cases h
    · rename_i b hb
      replace h := cond_some' h
      obtain ⟨hm, h⟩ := h
      obtain ⟨hm, ho⟩ := blk_mode hm
      injection h with h; injection h with h1 h2; subst h1; subst h2
      cases hv with
      | c hx =>
        obtain ⟨A, c, news, h1, h2, _⟩ := hx.slView hs hb hm ho
        exact slc _ A c news h1 h2
  · cases h


theorem isSS_spec {d : TypeDesc} (h : isSS d = true) : d = .string ∨ ∃ e, d = .slice e := by
  cases d <;> first | exact .inl rfl | exact .inr ⟨_, rfl⟩ | cases h

theorem run_app_room {t u ty e : TypeId} {d : TypeDesc} {i : TypeInfo} (ht : P.underlying t = some (.slice e)) (hu : P.underlying u = some d) (hd : isSS d = true) (hi : P.info? e = some i)
    {base : Option Addr} {sLen sCap : Nat} {x : Value} {n : Nat} {news : List Value} {w' : World} (hlen : ∀ w : World, (Builtin.lenOf x).run P w = .ok n w) (hfirst : (Builtin.firstCells i.size n x).run P w = .ok news.toArray w) (hroom : sLen + n ≤ sCap)
    (hst : ((match base with | some a => storeCells (a.add (sLen * i.size)) news | none => pure ()) : Sem Unit).run P w = .ok () w') :
    (Builtin.append_ #[t, u] ty #[.slice base sLen sCap, x]).run P w = .ok (.slice base (sLen + n) sCap) w' := by
  rcases isSS_spec hd with rfl | ⟨e', rfl⟩ <;> cases base with
  | none =>
    simp only [Sem.run_pure, Result.ok.injEq, true_and] at hst; subst hst
    simp [Builtin.append_, run_underlying ht, run_underlying hu, sizeOf, typeInfo, hi, hlen, hroom, hfirst]
  | some a =>
    simp only at hst
    simp [Builtin.append_, run_underlying ht, run_underlying hu, sizeOf, typeInfo, hi, hlen, hroom, hfirst, hst]

theorem run_app_grow {t u ty e : TypeId} {d : TypeDesc} {i : TypeInfo} {z : Value} (ht : P.underlying t = some (.slice e)) (hu : P.underlying u = some d) (hd : isSS d = true) (hi : P.info? e = some i) (hz : i.zero = some z) (hby : 0 < i.bytes)
    {base : Option Addr} {sLen sCap : Nat} {x : Value} {n : Nat} {olds news : List Value} (hlen : ∀ w : World, (Builtin.lenOf x).run P w = .ok n w) (hfirst : (Builtin.firstCells i.size n x).run P w.drew = .ok news.toArray w.drew)
    (hold : (Builtin.firstCells i.size sLen (.slice base sLen sCap)).run P w.drew = .ok olds.toArray w.drew) (hg : sCap < sLen + n) (hb : (sLen + n) * i.bytes ≤ 140737488355328) :
    (Builtin.append_ #[t, u] ty #[.slice base sLen sCap, x]).run P w =
      .ok (.slice (some ⟨w.heap.size, 0, none⟩) (sLen + n) (grownCap w (sLen + n) sCap e)) (w.drew.alloc (.cells (olds ++ news ++ (Builtin.zeroCells z.cells (grownCap w (sLen + n) sCap e - (sLen + n))).toList).toArray e)) := by
  have hn : ¬ (sLen + n ≤ sCap) := by omega
  have h1 : sLen + n ≤ (sLen + n) * i.bytes := Nat.le_mul_of_pos_right _ hby
  have h63' : ¬ (9223372036854775807 < ((sLen : Int) + (n : Int))) := by omega
  have hfit := growslice_fits hg hb
  have h48' : ¬ (281474976710656 < Builtin.nextslicecap (sLen + n) sCap * i.bytes) := by omega
  rcases isSS_spec hd with rfl | ⟨e', rfl⟩ <;> simp [Builtin.append_, run_underlying ht, run_underlying hu, sizeOf, typeInfo, zeroValue, hi, hz, hlen, hn, h63', h48', Question.forced, hfirst, hold, newRow, grownCap]
  all_goals
    congr 2
    apply Array.ext'
    simp
end
end Go.Ev
