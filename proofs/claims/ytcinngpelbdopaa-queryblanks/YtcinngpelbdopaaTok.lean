/- The parser by tokens. -/
import Derived.Test.YtcinngpelbdopaaPrs6
set_option linter.all false
namespace Go.Proofs.Ytcinngpelbdopaa
open Go.Ev
def fl (w : B) : List B := if w = [] then [] else [w]
def lexA : B → B → List B
  | w, [] => fl w
  | w, b :: l => if b = 32 then fl w ++ lexA [] l else if b = 59 then fl w ++ [59] :: lexA [] l else lexA (w ++ [b]) l
/-- The words and semicolons of a text. -/
def lex (l : B) : List B := lexA [] l
theorem fl_nil : fl [] = [] := rfl
theorem fl_ne {w : B} (h : w ≠ []) : fl w = [w] := if_neg h
theorem nsep_iff (b : UInt8) : nsep b = true ↔ b ≠ 32 ∧ b ≠ 59 := by unfold nsep; simp
theorem lexA_eq : ∀ (l w : B), lexA w l = fl (w ++ l.takeWhile nsep) ++ lex (l.dropWhile nsep)
  | [], w => by simp [lexA, lex, fl_nil]
  | b :: l, w => by
    unfold lexA
    by_cases h1 : b = 32
    · subst h1
      rw [if_pos rfl]
      have : nsep 32 = false := rfl
      simp [this, lex, lexA, fl_nil]
    rw [if_neg h1]
    by_cases h2 : b = 59
    · subst h2
      rw [if_pos rfl]
      have : nsep 59 = false := rfl
      simp [this, lex, lexA, fl_nil]
    rw [if_neg h2, lexA_eq l (w ++ [b])]
    have : nsep b = true := (nsep_iff b).2 ⟨h1, h2⟩
    simp [this]
theorem lex_sp (l : B) : lex (32 :: l) = lex l := by
  show lexA [] (32 :: l) = _
  rw [lexA, if_pos rfl]; rfl
theorem lex_semi (l : B) : lex (59 :: l) = [59] :: lex l := by
  show lexA [] (59 :: l) = _
  rw [lexA, if_neg (by decide), if_pos rfl]; rfl
theorem dw_drop {α : Type} (p : α → Bool) : ∀ l : List α, l.dropWhile p = l.drop (l.takeWhile p).length
  | [] => rfl
  | a :: l => by
    rw [List.dropWhile_cons, List.takeWhile_cons]
    split
    · rw [List.length_cons, List.drop_succ_cons, dw_drop p l]
    · rfl
theorem lex_sk (l : B) : ∀ (k n : Nat), l.length ≤ n + k → lex (l.drop (sk l n)) = lex (l.drop n)
  | 0, n, h => by rw [sk_end (by omega)]
  | k + 1, n, h => by
    rcases sk_cases l n with h1 | ⟨h1, h2, h3⟩
    · rw [h1]
    · rw [h3, lex_sk l k (n + 1) (by omega), drop_cons h1, h2, lex_sp]
theorem sk_no {l : B} {n : Nat} (h : sk l n < l.length) : l.getD (sk l n) 0 ≠ 32 := fun hb => by
  have := sk_step h hb
  have h2 := skk l n
  have h3 := (sk_le l (sk l n + 1) (by omega)).1
  omega
theorem lex_cases (l : B) (n : Nat) (hn : n ≤ l.length) : (wd l n = [] ∧ sk l n = l.length ∧ lex (l.drop n) = []) ∨ (wd l n = [] ∧ sk l n < l.length ∧ lex (l.drop n) = [59] :: lex (l.drop (sk l n + 1))) ∨
    (wd l n ≠ [] ∧ wd l n ≠ [59] ∧ lex (l.drop n) = wd l n :: lex (l.drop (sk l n + (wd l n).length))) := by
  have h1 := sk_le l n hn
  have hl := lex_sk l l.length n (by omega)
  by_cases he : sk l n = l.length
  · refine .inl ⟨?_, he, ?_⟩
    · unfold wd; rw [he, List.drop_length]; rfl
    · rw [← hl, he, List.drop_length]; rfl
  · have hlt : sk l n < l.length := by omega
    have hno := sk_no hlt
    have hd := drop_cons hlt
    rw [← hl, hd]
    by_cases h59 : l.getD (sk l n) 0 = 59
    · refine .inr (.inl ⟨?_, hlt, ?_⟩)
      · unfold wd; rw [hd, h59]; rfl
      · rw [h59, lex_semi]
    · have hns : nsep (l.getD (sk l n) 0) = true := (nsep_iff _).2 ⟨hno, h59⟩
      have hw : wd l n = l.getD (sk l n) 0 :: (l.drop (sk l n + 1)).takeWhile nsep := by
        unfold wd; rw [hd, List.takeWhile_cons, if_pos hns]
      refine .inr (.inr ⟨by rw [hw]; simp, fun h => ?_, ?_⟩)
      · rw [hw] at h
        injection h with h _
        exact h59 h
      · rw [← hd]
        unfold lex
        rw [lexA_eq, List.nil_append, dw_drop, List.drop_drop]
        show fl (wd l n) ++ lex (l.drop (sk l n + (wd l n).length)) = _
        rw [fl_ne (by rw [hw]; simp)]; rfl

/-! ## Readers of tokens -/
abbrev Tk (α : Type) := List B → Option (α × List B)
def bindT {α β : Type} (f : Tk α) (g : α → Tk β) : Tk β := fun t => match f t with | some (a, u) => g a u | none => none
def pureT {α : Type} (a : α) : Tk α := fun t => some (a, t)
def hw : List B → B
  | [] => []
  | w :: _ => if w = [59] then [] else w
def tW (ws : List B) : Tk Int := fun t => if hw t = [] then none else match idxW (hw t) ws 0 with | some i => some ((i : Int), t.tail) | none => none
def tI (lo hi : Int) : Tk Int := fun t => match num (hw t) with | some v => if lo ≤ v ∧ v ≤ hi then some (v, t.tail) else none | none => none
def tO (w : B) : Tk Bool := fun t => if hw t = w then some (true, t.tail) else some (false, t)
def lxl {α : Type} (l : B) (f : Rd α) (g : Tk α) : Prop := ∀ n, n ≤ l.length → match f n with | .ok (a, m) => m ≤ l.length ∧ g (lex (l.drop n)) = some (a, lex (l.drop m)) | .error _ => g (lex (l.drop n)) = none
theorem hw_lex (l : B) (n : Nat) (hn : n ≤ l.length) : hw (lex (l.drop n)) = wd l n := by
  rcases lex_cases l n hn with ⟨h1, _, h3⟩ | ⟨h1, _, h3⟩ | ⟨_, h2, h3⟩
  · rw [h3, h1]; rfl
  · rw [h3, h1]; rfl
  · rw [h3]; unfold hw; simp only; rw [if_neg h2]
theorem tl_lex (l : B) (n : Nat) (hn : n ≤ l.length) (h : wd l n ≠ []) : (lex (l.drop n)).tail = lex (l.drop (sk l n + (wd l n).length)) := by
  rcases lex_cases l n hn with ⟨h1, _, h3⟩ | ⟨h1, _, h3⟩ | ⟨_, h2, h3⟩
  · exact absurd h1 h
  · exact absurd h1 h
  · rw [h3]; rfl
theorem num_nil : num [] = none := rfl
theorem lxl_bind {α β : Type} {l : B} {f : Rd α} {g : α → Rd β} {f' : Tk α} {g' : α → Tk β} (h : lxl l f f') (h2 : ∀ a, lxl l (g a) (g' a)) : lxl l (bindR f g) (bindT f' g') := fun n hn => by
  have h1 := h n hn
  unfold bindR bindT
  cases hf : f n with
  | ok am =>
    rw [hf] at h1
    have h3 := h2 am.1 am.2 h1.1
    simp only
    simp only at h1
    rw [h1.2]
    exact h3
  | error k => rw [hf] at h1; simp only at h1 ⊢; rw [h1]
theorem lxl_pure {α : Type} {l : B} (a : α) : lxl l (pureR a) (pureT a) := fun n hn => ⟨hn, rfl⟩
theorem lxl_W (ws : List B) (l : B) : lxl l (rdW ws l) (tW ws) := fun n hn => by
  have h2 := wd_le l n hn
  unfold rdW tW
  rw [hw_lex l n hn]
  by_cases h0 : wd l n = []
  · rw [if_pos h0, if_pos h0]
  · rw [if_neg h0, if_neg h0]
    cases idxW (wd l n) ws 0 with
    | none => rfl
    | some i => exact ⟨h2, by rw [tl_lex l n hn h0]⟩
theorem lxl_I (lo hi : Int) (l : B) : lxl l (rdI lo hi l) (tI lo hi) := fun n hn => by
  have h2 := wd_le l n hn
  unfold rdI tI
  rw [hw_lex l n hn]
  cases hx : num (wd l n) with
  | none => rfl
  | some v =>
    have h0 : wd l n ≠ [] := fun h => by rw [h, num_nil] at hx; cases hx
    by_cases h : lo ≤ v ∧ v ≤ hi
    · simp only [if_pos h]; exact ⟨h2, by rw [tl_lex l n hn h0]⟩
    · simp only [if_neg h]
theorem lxl_O (w : B) (h0 : w ≠ []) (l : B) : lxl l (rdO w l) (tO w) := fun n hn => by
  have h2 := wd_le l n hn
  have h3 := sk_le l n hn
  unfold rdO tO
  rw [hw_lex l n hn]
  by_cases h : wd l n = w
  · rw [if_pos h, if_pos h]
    exact ⟨by rw [← h]; exact h2, by rw [tl_lex l n hn (by rw [h]; exact h0), h]⟩
  · rw [if_neg h, if_neg h]
    exact ⟨h3.2, by rw [lex_sk l l.length n (by omega)]⟩
def tV : Tk Int := tI (-9223372036854775808) 9223372036854775807
def tT : Tk (Int × Int × Int) := bindT (tW colW) fun c => bindT (tW opW) fun o => bindT tV fun v => pureT (c, o, v)
def tPart (p : Int) (s : Stm) : Tk Stm :=
  if p = 0 then bindT (tI 1 4294967294) fun v => pureT { s with key := v }
  else if p = 1 then bindT (tI s.key 4294967294) fun v => pureT { s with last := v }
  else if p = 2 then bindT tV fun a => bindT tV fun b => bindT tV fun c => pureT { s with c0 := a, c1 := b, c2 := c }
  else if p = 3 then bindT (tW colW) fun c => pureT { s with col := c }
  else if p = 4 then bindT tV fun v => pureT { s with v := v }
  else if p = 5 then bindT tT fun t => pureT { s with wc := t.1, wo := t.2.1, wv := t.2.2 }
  else if p = 6 then bindT (tO whereW) fun b => if b then bindT tT fun t => pureT { s with wc := t.1, wo := t.2.1, wv := t.2.2 } else pureT s
  else if p = 7 then bindT (tO limitW) fun b => if b then bindT (tI 1 64) fun v => pureT { s with lim := v } else pureT s
  else pureT s
def tParts : List Int → Stm → Tk Stm
  | [], s => pureT s
  | p :: ps, s => bindT (tPart p s) fun t => tParts ps t
def tStm : Tk Stm := bindT (tW nameW) fun k => tParts (parts k) (stm0 k)
theorem lxl_V (l : B) : lxl l (rdV l) tV := lxl_I _ _ l
theorem lxl_T (l : B) : lxl l (rdT l) tT := lxl_bind (lxl_W _ l) fun _ => lxl_bind (lxl_W _ l) fun _ => lxl_bind (lxl_V l) fun _ => lxl_pure _
theorem lxl_Part (p : Int) (s : Stm) (l : B) : lxl l (rdPart p s l) (tPart p s) := by
  unfold rdPart tPart
  by_cases h0 : p = 0
  · rw [if_pos h0, if_pos h0]; exact lxl_bind (lxl_I _ _ l) fun _ => lxl_pure _
  rw [if_neg h0, if_neg h0]
  by_cases h1 : p = 1
  · rw [if_pos h1, if_pos h1]; exact lxl_bind (lxl_I _ _ l) fun _ => lxl_pure _
  rw [if_neg h1, if_neg h1]
  by_cases h2 : p = 2
  · rw [if_pos h2, if_pos h2]; exact lxl_bind (lxl_V l) fun _ => lxl_bind (lxl_V l) fun _ => lxl_bind (lxl_V l) fun _ => lxl_pure _
  rw [if_neg h2, if_neg h2]
  by_cases h3 : p = 3
  · rw [if_pos h3, if_pos h3]; exact lxl_bind (lxl_W _ l) fun _ => lxl_pure _
  rw [if_neg h3, if_neg h3]
  by_cases h4 : p = 4
  · rw [if_pos h4, if_pos h4]; exact lxl_bind (lxl_V l) fun _ => lxl_pure _
  rw [if_neg h4, if_neg h4]
  by_cases h5 : p = 5
  · rw [if_pos h5, if_pos h5]; exact lxl_bind (lxl_T l) fun _ => lxl_pure _
  rw [if_neg h5, if_neg h5]
  by_cases h6 : p = 6
  · rw [if_pos h6, if_pos h6]
    exact lxl_bind (lxl_O _ (by decide) l) fun b => by cases b; exact lxl_pure _; exact lxl_bind (lxl_T l) fun _ => lxl_pure _
  rw [if_neg h6, if_neg h6]
  by_cases h7 : p = 7
  · rw [if_pos h7, if_pos h7]
    exact lxl_bind (lxl_O _ (by decide) l) fun b => by cases b; exact lxl_pure _; exact lxl_bind (lxl_I _ _ l) fun _ => lxl_pure _
  rw [if_neg h7, if_neg h7]
  exact lxl_pure _
theorem lxl_Parts (l : B) : ∀ (ps : List Int) (s : Stm), lxl l (rdParts l ps s) (tParts ps s)
  | [], s => lxl_pure _
  | p :: ps, s => lxl_bind (lxl_Part p s l) fun t => lxl_Parts l ps t
theorem lxl_Stm (l : B) : lxl l (rdStm l) tStm := lxl_bind (lxl_W _ l) fun _ => lxl_Parts l _ _
/-- The parser by tokens: the program, or the code. -/
def prsT : Nat → List Stm → List B → Except Int (List Stm)
  | 0, _, _ => .error 0
  | f + 1, acc, t =>
    if acc.length = 8 ∧ hw t ≠ [] then .error 18
    else match tStm t with
      | none => .error 15
      | some (s, u) => if hw u ≠ [] then .error 15 else if u = [] then .ok (acc ++ [s]) else prsT f (acc ++ [s]) u.tail
theorem prs_T (l : B) : ∀ (f : Nat) (acc : List Stm) (n : Nat), n ≤ l.length →
    match prsT f acc (lex (l.drop n)) with | .ok r => prs l f acc n = (r, 0, 0) | .error c => ∃ k, prs l f acc n = ([], k, c)
  | 0, acc, n, hn => ⟨0, rfl⟩
  | f + 1, acc, n, hn => by
    unfold prsT prs
    rw [hw_lex l n hn]
    by_cases h8 : acc.length = 8 ∧ wd l n ≠ []
    · rw [if_pos h8, if_pos h8]; exact ⟨_, rfl⟩
    rw [if_neg h8, if_neg h8]
    have h1 := lxl_Stm l n hn
    cases hr : rdStm l n with
    | error k => rw [hr] at h1; simp only at h1 ⊢; rw [h1]; exact ⟨k, rfl⟩
    | ok sm =>
      obtain ⟨s, m⟩ := sm
      rw [hr] at h1
      simp only at h1 ⊢
      obtain ⟨hm, h1⟩ := h1
      rw [h1]
      simp only
      rw [hw_lex l m hm]
      by_cases hw0 : wd l m = []
      · have hn0 : ¬ (wd l m ≠ []) := fun h => h hw0
        rw [if_neg hn0, if_neg hn0]
        rcases lex_cases l m hm with ⟨_, e1, e2⟩ | ⟨_, e1, e2⟩ | ⟨e1, _⟩
        · rw [if_pos e2, if_pos e1]
        · rw [if_neg (by rw [e2]; simp), if_neg (by omega), e2]
          exact prs_T l f (acc ++ [s]) (sk l m + 1) (by omega)
        · exact absurd hw0 e1
      · rw [if_pos hw0, if_pos hw0]; exact ⟨_, rfl⟩
end Go.Proofs.Ytcinngpelbdopaa
