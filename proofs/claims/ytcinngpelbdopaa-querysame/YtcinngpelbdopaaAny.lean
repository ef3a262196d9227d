/- strings.IndexAny with two plain bytes, on any text. -/
import Derived.Test.YtcinngpelbdopaaShelf
import Derived.Lib.OthersKept
import Derived.Laws.Runes
import Derived.WalkMore
import Derived.Shelf.RegionOpenPlain
import Derived.Shelf.Small.Utf8
set_option linter.all false
namespace Go.Proofs
open Go.Shelf Go.RowKit Go.Lib
variable {P : Program} {ρ : Ren}
theorem encode_high (r : Int) (h0 : 128 ≤ r) (hv : Lib.validRune r = true) : ((Utf8.encode r).size = 2 ∧ ∀ (hr : 1 < (Utf8.encode r).size), 128 ≤ ((Utf8.encode r)[1]'hr).toNat) ∨ (Utf8.encode r).size = 3 ∨ (Utf8.encode r).size = 4 := by
  have hval : Utf8.valid r = true := by rw [Go.validRune_eq]; exact hv
  have h1 : ¬ r.toNat < 128 := by omega
  by_cases h2 : r.toNat < 2048
  · left
    have e : Utf8.encode r = ⟨#[UInt8.ofNat (192 + r.toNat / 64), UInt8.ofNat (128 + r.toNat % 64)]⟩ := by
      unfold Utf8.encode
      simp only [hval, if_true]
      rw [if_neg h1, if_pos h2]
    rw [e]
    refine ⟨rfl, fun hr => ?_⟩
    show 128 ≤ (UInt8.ofNat (128 + r.toNat % 64)).toNat
    rw [UInt8.toNat_ofNat']; omega
  · right
    unfold Utf8.encode
    simp only [hval, if_true]
    rw [if_neg h1, if_neg h2]
    split
    · exact .inl rfl
    · exact .inr rfl
set_option maxHeartbeats 8000000 in
set_option maxRecDepth 1000000 in
theorem Any.strings_IndexRune_high (L : Lays.n152 P ρ) (s : ByteArray) (r : Int) (w : World) (h2 : s.size = 2) (hascii : ∀ (j : Nat) b, s.data.toList[j]? = some b → b.toNat < 128) (h0 : 128 ≤ r) (h1 : r ≤ 2147483647) :
    Calls P (ρ.f 152) #[.string s, .int .i32 r] w fun e w' => e = .returned (.int .i64 (-1)) ∧ Below w.heap.size w w' := by
  have mixed := L.mixed
  have t3 := L.t3; have a3 := L.a3; have z3 := L.z3; have v3 := L.v3
  have t4 := L.t4; have a4 := L.a4; have z4 := L.z4; have v4 := L.v4
  have t5 := L.t5; have a5 := L.a5; have z5 := L.z5; have v5 := L.v5
  have t9 := L.t9; have a9 := L.a9; have z9 := L.z9; have v9 := L.v9
  have t21 := L.t21; have a21 := L.a21; have z21 := L.z21; have v21 := L.v21
  have e137 : ∀ args w, (callFunc (ρ.f 137) args).run P w = .ok (.enter (ρ.f 137) args) w := enters_of L.f137 (by kernel_rfl) rfl
  have e119 : ∀ args w, (callFunc (ρ.f 119) args).run P w = .ok (.enter (ρ.f 119) args) w := enters_of L.f119 (by kernel_rfl) rfl
  have HA : Aside (∀ (j : Nat) b, s.data.toList[j]? = some b → b.toNat < 128) := hascii
  clear hascii
  have hn128 : ¬ (r < 128) := by omega
  have hn0 : (0 : Int) ≤ r := by omega
  by_cases hre : r = 65533
  · subst hre
    clear h2
    go_enter L.f152, Body.n152_ntmps ρ
    go_wp2
    go_loopg [5, 6] s.size (fun g _ _ wx => ∃ i : Nat, i + g = s.size ∧ wx = w.iter s i)
    case atStart => exact ⟨0, by omega, rfl⟩
    case round =>
      obtain ⟨i, hig, rfl⟩ := hrel
      cases gk with
      | zero =>
        obtain rfl : i = s.size := by omega
        have hnx := run_next_end (P := P) w s s.size
        go_wp2
        go_ret
        exact ⟨rfl, (Below.refl _ _).alloc (Nat.le_refl _) _⟩
      | succ g =>
        have hi : i < s.size := by omega
        obtain ⟨x, hx⟩ : ∃ x : UInt8, s[i]'hi = x := ⟨_, rfl⟩
        have hxl : s.data.toList[i]? = some x := by rw [← hx]; exact Lib.data_getElem? s i hi
        have hx128 : x.toNat < 128 := HA.out i x hxl
        have hnx := fun ty => run_next_ascii (P := P) w s i ty hi (by rw [hx]; exact hx128)
        rw [hx] at hnx
        have hne : ((x.toNat : Int) == 65533) = false := beq_eq_false_iff_ne.2 (by omega)
        clear hxl hx
        go_wp2
        go_roundg g
        case measure => omega
        case rel => exact ⟨i + 1, by omega, rfl⟩
  · have hreb : (r == 65533) = false := beq_eq_false_iff_ne.2 hre
    have hv := Any.utf8_ValidRune (P := P) (ρ := ρ) { L with } r w
    by_cases hval : Lib.validRune r = true
    · rw [hval] at hv
      have hib := fun (c : Int) (w : World) => Any.strings_IndexByte (P := P) (ρ := ρ) { L with } ⟨#[]⟩ c w
      obtain ⟨rs, hrs⟩ : ∃ rs, Utf8.encode r = rs := ⟨_, rfl⟩
      have hsz : (rs.size = 2 ∧ ∀ (hr : 1 < rs.size), 128 ≤ (rs[1]'hr).toNat) ∨ rs.size = 3 ∨ rs.size = 4 := by rw [← hrs]; exact encode_high r h0 hval
      have hib2 : ∀ (c : Int) (w : World), Calls P (ρ.f 137) #[.string ByteArray.empty, .int .u8 c] w fun e w' => e = .returned (.int .i64 (-1)) ∧ w' = w := hib
      rcases hsz with ⟨hsz, hb⟩ | hsz | hsz
      · have h12 : 1 < rs.size := by omega
        obtain ⟨c, hc⟩ : ∃ c : UInt8, rs[1]'h12 = c := ⟨_, rfl⟩
        have hc128 := hb h12
        rw [hc] at hc128
        clear hb
        have hs1 : 1 < s.size := by omega
        obtain ⟨x, hx⟩ : ∃ x : UInt8, s[1]'hs1 = x := ⟨_, rfl⟩
        have hxl : s.data.toList[1]? = some x := by rw [← hx]; exact Lib.data_getElem? s 1 hs1
        have hx128 : x.toNat < 128 := HA.out 1 x hxl
        have hxc : ((x.toNat : Int) == (c.toNat : Int)) = false := beq_eq_false_iff_ne.2 (by omega)
        clear hxl
        go_enter L.f152, Body.n152_ntmps ρ
        go_wp2_with (go_at_fn (ρ.f 119); refine hv.mono ?_; rintro e w' ⟨rfl, hw⟩; rw [hw])
        go_step3
        go_wp2
        go_loopg [9] 0 (fun g s9 wx => s9 = .int .i64 1 ∧ wx = w)
        case atStart => exact ⟨rfl, rfl⟩
        case round =>
          obtain ⟨rfl, rfl⟩ := hrel
          go_wp2
          go_step3
          go_wp2
          go_region_o
          go_wp2
          go_region_with_o (go_at_fn (ρ.f 137); refine (hib2 _ _).mono ?_; rintro e w' ⟨rfl, hw⟩; rw [hw])
          all_goals
            go_wp2
            simp only [go_sem]
            go_ret
            exact ⟨rfl, ((Below.refl _ _).drew).drew⟩
      · go_enter L.f152, Body.n152_ntmps ρ
        go_wp2_with (go_at_fn (ρ.f 119); refine hv.mono ?_; rintro e w' ⟨rfl, hw⟩; rw [hw])
        go_step3
        go_wp2
        go_loopg [9] 0 (fun g s9 wx => s9 = .int .i64 2 ∧ wx = w)
        case atStart => exact ⟨rfl, rfl⟩
        case round =>
          obtain ⟨rfl, rfl⟩ := hrel
          go_wp2
          rw [Exit.noGoto_ret]
          go_ret
          exact ⟨rfl, Below.refl _ _⟩
      · go_enter L.f152, Body.n152_ntmps ρ
        go_wp2_with (go_at_fn (ρ.f 119); refine hv.mono ?_; rintro e w' ⟨rfl, hw⟩; rw [hw])
        go_step3
        go_wp2
        go_loopg [9] 0 (fun g s9 wx => s9 = .int .i64 3 ∧ wx = w)
        case atStart => exact ⟨rfl, rfl⟩
        case round =>
          obtain ⟨rfl, rfl⟩ := hrel
          go_wp2
          rw [Exit.noGoto_ret]
          go_ret
          exact ⟨rfl, Below.refl _ _⟩
    · have hvf : Lib.validRune r = false := by simpa using hval
      rw [hvf] at hv
      go_enter L.f152, Body.n152_ntmps ρ
      go_wp2_with (go_at_fn (ρ.f 119); refine hv.mono ?_; rintro e w' ⟨rfl, hw⟩; rw [hw])
      go_ret
      exact ⟨rfl, Below.refl _ _⟩
theorem decode_bytes (s : ByteArray) (i : Nat) (h : i < s.size) (ha : 128 ≤ (s[i]'h).toNat) : ∀ j, j < (Utf8.decode s i).2 → i + j < s.size ∧ 128 ≤ (s.get! (i + j)).toNat := by
  have h0 : 128 ≤ (s.get! (i + 0)).toNat := by rw [get_at s i h]; exact ha
  have hb : ¬ (s.get! (i + 0)).toNat < 128 := by omega
  intro j
  simp only [Utf8.decode, hb, if_false]
  have one : j < 1 → i + j < s.size ∧ 128 ≤ (s.get! (i + j)).toNat := fun hj => by
    obtain rfl : j = 0 := by omega
    exact ⟨by omega, h0⟩
  split
  · rename_i hc
    simp only [Bool.and_eq_true, decide_eq_true_eq, beq_iff_eq] at hc
    split
    · intro hj
      rcases (by omega : j = 0 ∨ j = 1) with rfl | rfl
      · exact ⟨by omega, h0⟩
      · exact ⟨by omega, by omega⟩
    · exact one
  split
  · rename_i hc
    simp only [Bool.and_eq_true, decide_eq_true_eq, beq_iff_eq] at hc
    split
    · intro hj
      rcases (by omega : j = 0 ∨ j = 1 ∨ j = 2) with rfl | rfl | rfl
      · exact ⟨by omega, h0⟩
      · exact ⟨by omega, by omega⟩
      · exact ⟨by omega, by omega⟩
    · exact one
  split
  · rename_i hc
    simp only [Bool.and_eq_true, decide_eq_true_eq, beq_iff_eq] at hc
    split
    · intro hj
      rcases (by omega : j = 0 ∨ j = 1 ∨ j = 2 ∨ j = 3) with rfl | rfl | rfl | rfl
      · exact ⟨by omega, h0⟩
      · exact ⟨by omega, by omega⟩
      · exact ⟨by omega, by omega⟩
      · exact ⟨by omega, by omega⟩
    · exact one
  exact one
theorem noAny_run (s : ByteArray) (set : List UInt8) (hset : ∀ (j : Nat) b, set[j]? = some b → b.toNat < 128) (i : Nat) (h : i < s.size) (ha : 128 ≤ (s[i]'h).toNat) (hn : Lib.NoAny s.data.toList set i) : ∀ m, m ≤ (Utf8.decode s i).2 → i + m ≤ s.size ∧ Lib.NoAny s.data.toList set (i + m)
  | 0, _ => ⟨by omega, hn⟩
  | m + 1, hm => by
    have ih := noAny_run s set hset i h ha hn m (by omega)
    have hb := decode_bytes s i h ha m (by omega)
    have hx : s.data.toList[i + m]? = some (s.get! (i + m)) := by
      rw [Lib.data_getElem? s (i + m) hb.1]
      have := get_at s (i + m) hb.1
      rw [Nat.add_zero] at this
      exact congrArg some this.symm
    refine ⟨by omega, ih.2.succ hx ?_⟩
    rw [List.contains_eq_any_beq, List.any_eq_false]
    intro b hbm
    obtain ⟨j, hj, hjb⟩ := List.mem_iff_getElem.1 hbm
    have := hset j b (by rw [List.getElem?_eq_getElem hj, hjb])
    simp only [beq_iff_eq]
    intro e
    rw [e] at hb
    omega
set_option maxHeartbeats 8000000 in
set_option maxRecDepth 1000000 in
theorem Any.strings_IndexAny_two (L : Lays.n153 P ρ) (s chars : ByteArray) (w : World) (h2 : chars.size = 2) (h8 : s.size ≤ 8) (hascii : ∀ (j : Nat) b, chars.data.toList[j]? = some b → b.toNat < 128) :
    Calls P (ρ.f 153) #[.string s, .string chars] w fun e w' => e = .returned (.int .i64 (Lib.indexAny s.data.toList chars.data.toList)) ∧ Below w.heap.size w w' := by
  have HA : Aside (∀ (j : Nat) b, chars.data.toList[j]? = some b → b.toNat < 128) := hascii
  have H2 : Aside (chars.size = 2) := h2
  clear hascii
  have hemp : chars.toList.isEmpty = false := by
    rw [Lib.toList_data]
    cases h : chars.data.toList with
    | nil => have := Lib.size_eq chars; rw [h, List.length_nil] at this; omega
    | cons _ _ => rfl
  have hn1 : ((chars.size : Int) == 1) = false := beq_eq_false_iff_ne.2 (by omega)
  clear h2
  have h8z : decide ((8 : Int) < (s.size : Int)) = false := decide_eq_false (by omega)
  have t3 := L.t3; have a3 := L.a3; have z3 := L.z3; have v3 := L.v3
  have t4 := L.t4; have a4 := L.a4; have z4 := L.z4; have v4 := L.v4
  have t5 := L.t5; have a5 := L.a5; have z5 := L.z5; have v5 := L.v5
  have t9 := L.t9; have a9 := L.a9; have z9 := L.z9; have v9 := L.v9
  have t21 := L.t21; have a21 := L.a21; have z21 := L.z21; have v21 := L.v21
  have e152 : ∀ args w, (callFunc (ρ.f 152) args).run P w = .ok (.enter (ρ.f 152) args) w := enters_of L.f152 (by kernel_rfl) rfl
  have e226 : ∀ args w, (callFunc (ρ.f 226) args).run P w = .ok (.enter (ρ.f 226) args) w := enters_of L.f226 (by kernel_rfl) rfl
  go_enter L.f153, Body.n153_ntmps ρ
  go_wp2_with (go_at_fn (ρ.f 226); refine (Any.strings_shouldUseASCIISet { L with } _ _).mono ?_; rintro e w' ⟨rfl, hw⟩; rw [hw, h8z])
  go_loopg [9, 10] s.size (fun g _ _ wx => ∃ i : Nat, s.size ≤ i + g ∧ i ≤ s.size ∧ wx.heap[w.heap.size]? = some (.stringIter s i) ∧ Below w.heap.size w wx ∧ Lib.NoAny s.data.toList chars.data.toList i)
  case atStart => exact ⟨0, by omega, by omega, World.iter_heap w s 0, (Below.refl _ _).alloc (Nat.le_refl _) _, Lib.NoAny.zero _ _⟩
  case round =>
    obtain ⟨i, hig, hil, hit, hbw, hno⟩ := hrel
    have HN : Aside (Lib.NoAny s.data.toList chars.data.toList i) := hno
    clear hno
    by_cases hlt : i < s.size
    · obtain ⟨g, rfl⟩ : ∃ g, gk = g + 1 := ⟨gk - 1, by omega⟩
      have hnx : ∀ ty, (Instr.next (.pointer (some ⟨w.heap.size, 0, none⟩)) true ty).run P wr = _ := fun ty => Lib.run_next_any_at wr w.heap.size s i ty hit hlt
      obtain ⟨x, hx⟩ : ∃ x : UInt8, s[i]'hlt = x := ⟨_, rfl⟩
      have hxl : s.data.toList[i]? = some x := by rw [← hx]; exact Lib.data_getElem? s i hlt
      have Hx : Aside (s.data.toList[i]? = some x) := hxl
      have hkl : w.heap.size < wr.heap.size := (Array.getElem?_eq_some_iff.1 hit).1
      by_cases hx128 : x.toNat < 128
      · have hd : Utf8.decode s i = (x.toNat, 1) := by rw [Go.decode_ascii s i hlt (by rw [hx]; exact hx128), hx]
        rw [hd] at hnx
        have hit2 := Lib.iterAt_heap wr w.heap.size s i (i + 1) hit
        have hbw2 := Lib.below_iterAt hbw (k := w.heap.size) (Nat.le_refl _) s (i + 1)
        clear hxl hx hd hit hbw
        obtain ⟨W, hW⟩ : ∃ W, wr.iterAt w.heap.size s (i + 1) = W := ⟨_, rfl⟩
        simp only [hW] at hnx hit2 hbw2
        have hcon := Lib.contains_iff_indexByte chars.data.toList x
        have hback : ((x.toNat : Int)).toNat.toUInt8 = x := by simp
        cases hin : chars.data.toList.contains x
        · rw [hin] at hcon
          have hlt : ¬ ((0 : Int) ≤ Lib.indexByte chars.data.toList x) := of_decide_eq_false hcon.symm
          clear hcon
          go_wp2_with (go_at_fn (ρ.f 152); refine (Any.strings_IndexRune_ascii { L with } _ _ _ (by omega) (by omega)).mono ?_; rintro e w' ⟨rfl, hw⟩; rw [hw, hback])
          go_roundg g
          case measure => omega
          case rel => exact ⟨i + 1, by omega, by omega, hit2, hbw2, HN.out.succ Hx.out hin⟩
        · rw [hin] at hcon
          have hge : (0 : Int) ≤ Lib.indexByte chars.data.toList x := of_decide_eq_true hcon.symm
          clear hcon
          go_wp2_with (go_at_fn (ρ.f 152); refine (Any.strings_IndexRune_ascii { L with } _ _ _ (by omega) (by omega)).mono ?_; rintro e w' ⟨rfl, hw⟩; rw [hw, hback])
          go_ret
          exact ⟨by rw [Lib.indexAny_hit HN.out Hx.out hin]; rfl, hbw2⟩
      · have hhi := Go.decode_high s i hlt (by rw [hx]; omega)
        have hle := Go.decode_le s i
        have hrun := noAny_run s chars.data.toList HA.out i hlt (by rw [hx]; omega) HN.out (Utf8.decode s i).2 (Nat.le_refl _)
        obtain ⟨R, hR⟩ : ∃ R, (Utf8.decode s i).1 = R := ⟨_, rfl⟩
        obtain ⟨K, hK⟩ : ∃ K, (Utf8.decode s i).2 = K := ⟨_, rfl⟩
        rw [hR, hK] at hnx hhi
        rw [hR] at hle
        rw [hK] at hrun
        have hit2 := Lib.iterAt_heap wr w.heap.size s i (i + K) hit
        have hbw2 := Lib.below_iterAt hbw (k := w.heap.size) (Nat.le_refl _) s (i + K)
        clear hxl hx hit hbw hR hK
        obtain ⟨W, hW⟩ : ∃ W, wr.iterAt w.heap.size s (i + K) = W := ⟨_, rfl⟩
        simp only [hW] at hnx hit2 hbw2
        have hkW : w.heap.size < W.heap.size := (Array.getElem?_eq_some_iff.1 hit2).1
        have HR : Aside (i + K ≤ s.size ∧ Lib.NoAny s.data.toList chars.data.toList (i + K)) := hrun
        clear hrun
        go_wp2_with (go_at_fn (ρ.f 152); refine (Any.strings_IndexRune_high { L with } _ _ _ H2.out HA.out (by omega) (by omega)).mono ?_; rintro e w' ⟨rfl, hw⟩)
        go_roundg g
        case measure => omega
        case rel => exact ⟨i + K, by omega, HR.out.1, (hw.block _ hkW).trans hit2, hbw2.trans (hw.mono (by omega)), HR.out.2⟩
    · obtain rfl : i = s.size := by omega
      have hnx : ∀ ty, (Instr.next (.pointer (some ⟨w.heap.size, 0, none⟩)) true ty).run P wr = _ := fun ty => Lib.run_next_end_at wr w.heap.size s s.size ty hit hlt
      go_wp2
      go_ret
      exact ⟨by rw [Lib.indexAny_none (by rw [← Lib.size_eq]; exact HN.out)]; rfl, hbw⟩
theorem Any.strings_IndexAny_pair (L : Lays.n153 P ρ) (h116 : (P.info? (ρ.t 116)).map (fun i => (i.zero, i.size)) = some (some (.agg (Array.replicate 256 (.bool false))), 256)) (s chars : ByteArray) (w : World) (hs : s.size < 4294967281) (hcs : chars.size < 4294967281)
    (has : (∀ (j : Nat) b, s.data.toList[j]? = some b → b.toNat < 128) ∨ chars.size = 2) (hac : ∀ (j : Nat) b, chars.data.toList[j]? = some b → b.toNat < 128) :
    Calls P (ρ.f 153) #[.string s, .string chars] w fun e w' => e = .returned (.int .i64 (Lib.indexAny s.data.toList chars.data.toList)) ∧ Below w.heap.size w w' := by
  rcases has with h3 | h3
  · exact Any.strings_IndexAny_laid L h116 s chars w hs hcs h3 hac
  · by_cases h8 : s.size ≤ 8
    · exact Any.strings_IndexAny_two L s chars w h3 h8 hac
    · refine (Any.strings_IndexAny_long L (zero_of_info h116).1 (zero_of_info h116).2 s chars w (by omega) (by omega) hs hcs hac).mono fun e w' ⟨h5, h6⟩ => ⟨h5, ?_⟩
      rw [h6]
      exact ((Below.refl _ _).alloc (Nat.le_refl _) _).alloc (by simp) _
end Go.Proofs
