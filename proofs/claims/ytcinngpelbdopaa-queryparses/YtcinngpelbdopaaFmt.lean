/- Texts of statements. -/
import Derived.Test.YtcinngpelbdopaaDec
import Derived.Test.YtcinngpelbdopaaOf
set_option linter.all false
namespace Go.Proofs.Ytcinngpelbdopaa
open Go.Ev
attribute [local congr] bind_first cond_first
def opB (o : Int) : B := if o = 1 then [61] else if o = 2 then [33, 61] else if o = 3 then [60] else if o = 4 then [60, 61] else if o = 5 then [62] else if o = 6 then [62, 61] else []
def colB (c : Int) : B := if c = 0 then [97] else if c = 1 then [98] else [99]
def testW (s : Stm) : List B := [colB s.wc, opB s.wo, intD s.wv]
def wds (s : Stm) (p : Int) : List B :=
  if p = 0 then [intD s.key] else if p = 1 then [intD s.last] else if p = 2 then [intD s.c0, intD s.c1, intD s.c2] else if p = 3 then [colB s.col] else if p = 4 then [intD s.v] else if p = 5 then testW s
  else if p = 6 then (if s.wo = 0 then [] else [119, 104, 101, 114, 101] :: testW s) else if p = 7 then (if s.lim = 0 then [] else [[108, 105, 109, 105, 116], intD s.lim]) else []
def kwd (k : Int) : B :=
  if k = 1 then [105, 110, 115, 101, 114, 116] else if k = 2 then [115, 101, 116] else if k = 3 then [97, 100, 100] else if k = 4 then [100, 101, 108, 101, 116, 101] else if k = 5 then [103, 101, 116] else if k = 6 then [115, 99, 97, 110]
  else if k = 7 then [99, 111, 117, 110, 116] else if k = 8 then [115, 117, 109] else if k = 9 then [99, 104, 101, 99, 107] else []
def stmW (s : Stm) : List B := kwd s.k :: (parts s.k).flatMap (wds s)
def stmT (s : Stm) : B := Go.Lib.join (stmW s) [32]
def fmtL (l : List Stm) : B := Go.Lib.join (l.map stmT) [59, 32]
def sRow (b : B) : List AV := [.v (.string (bs b))]
/-- The places of a statement's columns and comparison are numbers of such. -/
def Stm.at (s : Stm) : Prop := (0 ≤ s.wc ∧ s.wc < 3) ∧ (0 ≤ s.wo ∧ s.wo ≤ 6) ∧ 0 ≤ s.col ∧ s.col < 3
theorem V_at {s : Stm} (h : s.V) : s.at := by
  unfold Stm.V Stm.T Stm.Z at h
  unfold Stm.at
  omega
theorem col3 {c : Int} (h : 0 ≤ c ∧ c < 3) : c = 0 ∨ c = 1 ∨ c = 2 := by omega
theorem op7 {o : Int} (h : 0 ≤ o ∧ o ≤ 6) : o = 0 ∨ o = 1 ∨ o = 2 ∨ o = 3 ∨ o = 4 ∨ o = 5 ∨ o = 6 := by omega
def ops7 : List (List AV) := [sRow [], sRow [61], sRow [33, 61], sRow [60], sRow [60, 61], sRow [62], sRow [62, 61]]
theorem ops_get {o : Int} (h : 0 ≤ o ∧ o ≤ 6) : lget ops7 (0 + o.toNat) = sRow (opB o) := by rcases op7 h with rfl | rfl | rfl | rfl | rfl | rfl | rfl <;> rfl
theorem ops_in {c : Int} (h : 0 ≤ c ∧ c ≤ 6) : ((leI 0 c) && (ltI c ((((List.length ops7) - 0) : Nat) : Int))) = true := by
  show ((leI 0 c) && (ltI c 7)) = true
  rw [leI_t h.1, ltI_t (by omega)]; rfl
theorem ops_ok {o : Int} (h : 0 ≤ o ∧ o ≤ 6) : ((ltN (0 + o.toNat) (List.length ops7)) && isS (cellAt (lget ops7 (0 + o.toNat)) 0)) = true := by rcases op7 h with rfl | rfl | rfl | rfl | rfl | rfl | rfl <;> rfl
theorem wds_len (s : Stm) (p : Int) : (wds s p).length ≤ 4 := by
  unfold wds testW
  repeat' split
  all_goals simp
def B21 (b : B) : Prop := b.length ≤ 21
theorem wds_b (s : Stm) (p : Int) (hok : s.ok) : ∀ b ∈ wds s p, B21 b := by
  obtain ⟨_, hkey, hlast, g0, g1, g2, _, gv, _, _, gwv, glim⟩ := hok
  have hi : ∀ v : Int, i64ok v → B21 (intD v) := fun v h => (intD_len h).1
  have hc : ∀ c : Int, B21 (colB c) := fun c => by unfold colB B21; repeat' split
                                                   all_goals decide
  have ho : ∀ c : Int, B21 (opB c) := fun c => by unfold opB B21; repeat' split
                                                  all_goals decide
  have ht : ∀ b ∈ testW s, B21 b := fun b hb => by
    unfold testW at hb
    simp only [List.mem_cons, List.not_mem_nil, or_false] at hb
    rcases hb with rfl | rfl | rfl
    · exact hc _
    · exact ho _
    · exact hi _ gwv
  have hk : i64ok s.key := by unfold i64ok; omega
  have hla : i64ok s.last := by unfold i64ok; omega
  intro b hb
  unfold wds at hb
  repeat' split at hb
  all_goals first
    | exact ht b hb
    | exact absurd hb List.not_mem_nil
    | (simp only [List.mem_cons, List.not_mem_nil, or_false] at hb
       first
       | (rcases hb with rfl | rfl | rfl <;> first | exact hi _ g0 | exact hi _ g1 | exact hi _ g2)
       | (rcases hb with rfl | rfl <;> first | (unfold B21; decide) | exact hi _ glim)
       | (rcases hb with rfl | hb
          · unfold B21; decide
          · exact ht b hb)
       | (subst hb; first | exact hi _ hk | exact hi _ hla | exact hc _ | exact hi _ gv))
theorem lens_le (l : List B) (h : ∀ b ∈ l, B21 b) : Go.Lib.lens l ≤ 21 * l.length := by
  induction l with
  | nil => simp [Go.Lib.lens]
  | cons x r ih =>
    have h1 := h x (by simp)
    have h2 := ih fun b hb => h b (by simp [hb])
    unfold B21 at h1
    simp only [Go.Lib.lens, List.map_cons, List.sum_cons, List.length_cons] at h2 ⊢
    omega
theorem join_len (l : List B) (sep : B) (hs : sep.length ≤ 2) (m : Nat) (h : Go.Lib.lens l ≤ m) : (Go.Lib.join l sep).length ≤ m + 2 * l.length := by
  cases l with
  | nil => simp [Go.Lib.join_nil]
  | cons x r =>
    rw [Go.Lib.join_cons, List.length_append, Go.Lib.joinTail_length]
    simp only [Go.Lib.lens, List.map_cons, List.sum_cons, List.length_cons] at h ⊢
    have : sep.length * r.length ≤ 2 * r.length := Nat.mul_le_mul_right _ hs
    omega
theorem parts_len (k : Int) : (parts k).length ≤ 4 := by
  unfold parts
  repeat' split
  all_goals simp
theorem fm_len (s : Stm) : ∀ ps : List Int, (ps.flatMap (wds s)).length ≤ 4 * ps.length
  | [] => by simp
  | p :: ps => by
    have := fm_len s ps
    have h := wds_len s p
    simp only [List.flatMap_cons, List.length_append, List.length_cons]
    omega
theorem stmW_len (s : Stm) : (stmW s).length ≤ 17 := by
  unfold stmW
  have := fm_len s (parts s.k)
  have h := parts_len s.k
  simp only [List.length_cons]; omega
theorem stmW_b (s : Stm) (hok : s.ok) : ∀ b ∈ stmW s, B21 b := by
  intro b hb
  unfold stmW at hb
  rcases List.mem_cons.1 hb with rfl | hb
  · unfold kwd B21
    repeat' split
    all_goals simp
  · obtain ⟨p, _, hp⟩ := List.mem_flatMap.1 hb
    exact wds_b s p hok b hp
theorem stmT_len (s : Stm) (hok : s.ok) : (stmT s).length ≤ 391 := by
  have h1 := stmW_len s
  have h2 := lens_le (stmW s) (stmW_b s hok)
  have := join_len (stmW s) [32] (by simp) (21 * 17) (by omega)
  unfold stmT; omega
theorem lens_stmT : ∀ (l : List Stm), (∀ s ∈ l, s.ok) → Go.Lib.lens (l.map stmT) ≤ 391 * l.length
  | [], _ => by simp [Go.Lib.lens]
  | s :: r, h => by
    have h1 := stmT_len s (h s (by simp))
    have h2 := lens_stmT r fun t ht => h t (by simp [ht])
    simp only [Go.Lib.lens, List.map_cons, List.sum_cons, List.length_cons] at h2 ⊢
    omega
theorem fmtL_len (l : List Stm) (h : ∀ s ∈ l, s.ok) : (fmtL l).length ≤ 393 * l.length := by
  have := join_len (l.map stmT) [59, 32] (by simp) _ (lens_stmT l h)
  rw [List.length_map] at this
  unfold fmtL; omega
theorem sRow_get (l : List Stm) (i : Nat) (h : i < l.length) : ∃ s, s ∈ l ∧ l[i]? = some s ∧ lget (l.map Stm.row) i = s.row := by
  refine ⟨l[i], List.getElem_mem h, by simp [h], ?_⟩
  unfold lget; simp [h]
/-- The program's text, or no text. -/
def fmtR (l : List Stm) : List AV := bif l.all Stm.valid then [.v (.string (bs (fmtL l))), .v (.int .i64 0)] else [.v (.string (bs [])), .v (.int .i64 1)]
end Go.Proofs.Ytcinngpelbdopaa
