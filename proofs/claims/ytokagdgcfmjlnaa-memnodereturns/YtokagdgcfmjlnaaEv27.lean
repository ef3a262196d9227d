/- Code and loops. -/
import Derived.Test.YtokagdgcfmjlnaaEv26
import Derived.LoopN
set_option linter.all false
namespace Go.Ev

def toExit : Ex → Exit
  | .normal => .normal
  | .exit id => .exit id
  | .ret => .ret

/-- The run has come to an exit, in a state. -/
def AtS (E : Env) (B : Base) (G : Nat → Value) (n : Nat) (e : Ex) (s : St) : Exit → Act → World → Prop := fun x a w => x = toExit e ∧ Rel E B G n (lookF s.fr) s.bl a w
/-- The function is left, with these results. -/
def AtR (E : Env) (G : Nat → Value) (n : Nat) (retK : St → Option (List AV)) (outs : List AV) : Exit → Act → World → Prop := fun x a w => x = .ret ∧ ∃ s, retK s = some outs ∧ Rel E .zero G n (lookF s.fr) s.bl a w

def Out {R : Type} (P : Program) (lf : Bool) (retK : St → Option (List AV)) (c : Code) (s : St) (K : Ex → St → Option R) (fin : List AV → Option R) (r : R) : Prop :=
  (∃ e s', K e s' = some r ∧ (lf = true → s.bl.length ≤ s'.bl.length) ∧ ∀ (E : Env) (B : Base) (G : Nat → Value) (n : Nat) (a : Act) (w : World), (lf = true ∨ B = .zero) → dstOk n c = true → n ≤ 1000000 →
      Rel E B G n (lookF s.fr) s.bl a w → c.wp P (AtS E B G n e s') a w) ∨
  (lf = false ∧ ∃ outs, fin outs = some r ∧ ∀ (E : Env) (G : Nat → Value) (n : Nat) (a : Act) (w : World), dstOk n c = true → n ≤ 1000000 → Rel E .zero G n (lookF s.fr) s.bl a w → c.wp P (AtR E G n retK outs) a w)

def LOut (P : Program) (retK : St → Option (List AV)) (c : Code) (s : St) (r : LR) (m : Nat) : Prop :=
  ∀ (E : Env) (G : Nat → Value) (n : Nat) (a : Act) (w : World), dstOk n c = true → n ≤ 1000000 → Rel E .zero G n (lookF s.fr) s.bl a w →
    Code.rounds P c (match r.ex with | some id => AtS E .zero G n (.exit id) r.st | none => AtR E G n retK r.outs) m a w

/-- What is known of loops. -/
def LoopHyp (P : Program) (lf : Bool) (loop : LoopT) : Prop :=
  ∀ (c : Code) (LE : LE) (retK : St → Option (List AV)) (s : St) (r : LR), loop c LE retK s = some r → lf = false ∧ ∃ m, LOut P retK c s r m

section
variable {P : Program} {C : Cfg} {call : CallT} {inl : InlT} {loop : LoopT} {rmax : Nat} {lf jn : Bool}

theorem reenter_cases {R : Type} {T : List Nat → St} {E : LE} {K : Ex → St → Option R} {fin : List AV → Option R} {r' : LR} {r : R} : ∀ (ids : List Nat), reenter T E K fin r' ids = some r →
    (r'.ex = none ∧ fin r'.outs = some r) ∨ ∃ id T', r'.ex = some id ∧ likeStG T' r'.st = true ∧ K (.exit id) (likeStV T' r'.st) = some r
  | [], h => by
    simp only [reenter] at h
    obtain ⟨h1, h2⟩ := cond_some h
    exact .inl ⟨by simpa [isRt] using h1, h2⟩
  | id :: ids, h => by
    simp only [reenter] at h
    rcases cond_or h with ⟨h1, h2⟩ | ⟨_, h2⟩
    · obtain ⟨h3, h4⟩ := cond_some h2
      refine .inr ⟨id, _, ?_, h3, h4⟩
      unfold isEx at h1
      split at h1
      · rename_i i hi
        rw [hi, Nat.eq_of_beq_eq_true h1]
      · cases h1
    · exact reenter_cases ids h2

theorem dst_ops {n : Nat} {id : Nat} {ops : Array Oper} {d : Bool} (h : dstOk n (.region id ops d) = true) (hn : n ≤ 1000000) : DstOk ops n := fun j oj d h1 h2 => by
  simp only [dstOk, List.all_eq_true] at h
  have h3 := h oj (List.mem_of_getElem? (by rw [Array.getElem?_toList]; exact h1))
  rw [h2] at h3
  have : d < n := by simpa [Nat.blt_eq] using h3
  exact ⟨this, by omega⟩

theorem then_of {Q : Exit → Act → World → Prop} {next : Act → World → Prop} {x : Exit} {a : Act} {w : World} (hn : x ≠ .normal) (h : Q x a w) : Exit.then next Q x a w := by
  cases x with
  | normal => exact absurd rfl hn
  | _ => exact h
theorem toExit_ne {e : Ex} (h : e ≠ .normal) : toExit e ≠ .normal := by
  cases e with
  | normal => exact absurd rfl h
  | exit id => intro e; cases e
  | ret => intro e; cases e

/-- Rounds of an unrolled loop. -/
def ROut {R : Type} (P : Program) (lf : Bool) (retK : St → Option (List AV)) (c : Code) (m : Nat) (s : St) (K : Ex → St → Option R) (fin : List AV → Option R) (r : R) : Prop :=
  (∃ e s', K e s' = some r ∧ (lf = true → s.bl.length ≤ s'.bl.length) ∧ ∀ (E : Env) (B : Base) (G : Nat → Value) (n : Nat) (a : Act) (w : World), (lf = true ∨ B = .zero) → dstOk n c = true → n ≤ 1000000 →
      Rel E B G n (lookF s.fr) s.bl a w → Code.rounds P c (AtS E B G n e s') m a w) ∨
  (lf = false ∧ ∃ outs, fin outs = some r ∧ ∀ (E : Env) (G : Nat → Value) (n : Nat) (a : Act) (w : World), dstOk n c = true → n ≤ 1000000 → Rel E .zero G n (lookF s.fr) s.bl a w → Code.rounds P c (AtR E G n retK outs) m a w)

theorem rollN_sound {R : Type} {retK : St → Option (List AV)} {fin : List AV → Option R} {c : Code} {step : St → (Ex → St → Option R) → Option R}
    (hstep : ∀ (s : St) (K : Ex → St → Option R) (r : R), step s K = some r → Out P lf retK c s K fin r) {K : Ex → St → Option R} {r : R} : ∀ (m : Nat) (s : St), rollN step m s K = some r → ROut P lf retK c m s K fin r
  | 0, s, h => by cases h
  | m + 1, s, h => by
    rw [rollN] at h
    rcases hstep _ _ _ h with ⟨e, s1, hk, hlen, hw⟩ | ⟨hlf, outs, hk, hw⟩
    · cases e with
      | normal =>
        rcases rollN_sound hstep m s1 hk with ⟨e2, s2, hk2, hlen2, hw2⟩ | ⟨hlf, outs, hk2, hw2⟩
        · refine .inl ⟨e2, s2, hk2, fun e => Nat.le_trans (hlen e) (hlen2 e), fun E B G n a w hB hd hn hr => ?_⟩
          rw [rounds_succ]
          refine wp_mono (hw E B G n a w hB hd hn hr) fun x a' w' hq => ?_
          obtain ⟨hx, hr'⟩ := hq
          subst hx
          exact hw2 E B G n a' w' hB hd hn hr'
        · refine .inr ⟨hlf, outs, hk2, fun E G n a w hd hn hr => ?_⟩
          rw [rounds_succ]
          refine wp_mono (hw E .zero G n a w (.inr rfl) hd hn hr) fun x a' w' hq => ?_
          obtain ⟨hx, hr'⟩ := hq
          subst hx
          exact hw2 E G n a' w' hd hn hr'
      | exit id =>
        refine .inl ⟨.exit id, s1, hk, hlen, fun E B G n a w hB hd hn hr => ?_⟩
        rw [rounds_succ]
        refine wp_mono (hw E B G n a w hB hd hn hr) fun x a' w' hq => then_of (by rw [hq.1]; exact toExit_ne (fun e => by cases e)) hq
      | ret =>
        refine .inl ⟨.ret, s1, hk, hlen, fun E B G n a w hB hd hn hr => ?_⟩
        rw [rounds_succ]
        refine wp_mono (hw E B G n a w hB hd hn hr) fun x a' w' hq => then_of (by rw [hq.1]; exact toExit_ne (fun e => by cases e)) hq
    · refine .inr ⟨hlf, outs, hk, fun E G n a w hd hn hr => ?_⟩
      rw [rounds_succ]
      refine wp_mono (hw E G n a w hd hn hr) fun x a' w' hq => then_of (by rw [hq.1]; intro e; cases e) hq

theorem setC_bl (s : St) (c : Operand) (v : Bool) : (setC s c v).bl = s.bl := by
  unfold setC; split <;> rfl
theorem setC_look {s : St} {c : Operand} {t v : Bool} (h : getO s.fr c = .v (.bool t)) (e : t = v) : lookF (setC s c v).fr = lookF s.fr := by
  unfold setC
  split
  · rename_i q
    show lookF (putF s.fr (some q) _) = _
    rw [lookF_put]
    refine updF_self ?_
    simp only [getO, tmpF] at h
    cases hb : Nat.blt q 1000000 with
    | true => rw [hb, cond_true] at h; rw [h, e]
    | false => rw [hb, cond_false] at h; cases h
  · rfl
theorem evCode_sound (hmix : P.follows .mixedOrders = true) (HC : CallHyp P C call inl) (HL : LoopHyp P lf loop) (hj : lf = true → jn = false) {retK : St → Option (List AV)} :
    ∀ (c : Code) {R : Type} {fin : List AV → Option R} (out : List Nat) (LE : LE) (s : St) (K : Ex → St → Option R) (r : R), evCode P C call inl loop rmax jn retK c R fin out LE s K = some r → Out P lf retK c s K fin r
  | .skip, R, fin, out, LE, s, K, r, h => by
    rw [evCode] at h
    exact .inl ⟨.normal, s, h, fun _ => Nat.le_refl _, fun E B G n a w _ _ _ hr => wp_skip ⟨rfl, hr⟩⟩
  | .region id ops d, R, fin, out, LE, s, K, r, h => by
    rw [evCode] at h
    rcases cond_or h with ⟨h1, h2⟩ | ⟨h1, h2⟩
    · subst h1
      obtain ⟨hdr, h2⟩ := cond_some h2
      obtain ⟨s', hk, hlen, hw⟩ := draw_sound hmix HC (id := id) hdr h2
      exact .inl ⟨.normal, s', hk, fun _ => hlen, fun E B G n a w _ hd hn hr => hw E B G n _ a w (dst_ops hd hn) hr fun a w hr => ⟨rfl, hr⟩⟩
    · subst h1
      obtain ⟨s', hk, hlen, hw⟩ := region_sound HC (id := id) h2
      exact .inl ⟨.normal, s', hk, fun _ => hlen, fun E B G n a w _ hd hn hr => hw E B G n _ a w (dst_ops hd hn) hr fun a w hr => ⟨rfl, hr⟩⟩
  | .seq x y, R, fin, out, LE, s, K, r, h => by
    rw [evCode] at h
    have hdd : ∀ n, dstOk n (.seq x y) = true → dstOk n x = true ∧ dstOk n y = true := fun n hd => by
      simpa [dstOk] using hd
    rcases cond_or h with ⟨hjn, h⟩ | ⟨_, h⟩
    · -- the ways are brought together
      have hlf : lf = false := by
        cases e : lf with
        | false => rfl
        | true => rw [hj e] at hjn; cases hjn
      rw [Option.bind_eq_some_iff] at h
      obtain ⟨r', h3, h4⟩ := h
      have hback : ∀ {T' : St} {id : Nat} {s1 : St}, (∀ (E : Env) (G : Nat → Value) (n : Nat) (a : Act) (w : World), dstOk n x = true → n ≤ 1000000 → Rel E .zero G n (lookF s.fr) s.bl a w → x.wp P (AtS E .zero G n (.exit id) s1) a w) →
          likeStG T' s1 = true → K (.exit id) (likeStV T' s1) = some r → Out P lf retK (.seq x y) s K fin r := fun {T' id s1} hw hl hk => by
        refine .inl ⟨.exit id, _, hk, fun e => (by rw [hlf] at e; cases e), fun E B G n a w hB hd hn hr => wp_seq ?_⟩
        have hB' : B = .zero := hB.resolve_left (by rw [hlf]; decide)
        subst hB'
        refine wp_mono (hw E G n a w (hdd n hd).1 hn hr) fun x a' w' hq => ?_
        obtain ⟨hx, hr'⟩ := hq
        subst hx
        exact ⟨rfl, like_sound hl hr'⟩
      have hfin : ∀ {outs : List AV}, (∀ (E : Env) (G : Nat → Value) (n : Nat) (a : Act) (w : World), dstOk n x = true → n ≤ 1000000 → Rel E .zero G n (lookF s.fr) s.bl a w → x.wp P (AtR E G n retK outs) a w) → fin outs = some r → Out P lf retK (.seq x y) s K fin r := fun {outs} hw hf => by
        refine .inr ⟨hlf, outs, hf, fun E G n a w hd hn hr => wp_seq ?_⟩
        exact wp_mono (hw E G n a w (hdd n hd).1 hn hr) fun x a' w' hq => then_of (by rw [hq.1]; intro e; cases e) hq
      have gone : ∀ {e : Option Nat} {s1 : St} {outs : List AV}, r' = ⟨e, s1, outs⟩ → isEx joinId r' = false → (e = none → fin outs = some r → Out P lf retK (.seq x y) s K fin r) → (∀ id T', e = some id → likeStG T' s1 = true → K (.exit id) (likeStV T' s1) = some r → Out P lf retK (.seq x y) s K fin r) → Out P lf retK (.seq x y) s K fin r := fun {e s1 outs} he hno h1 h2 => by
        rw [hno, cond_false] at h4
        rcases reenter_cases _ h4 with ⟨q1, q2⟩ | ⟨id, T', q1, q2, q3⟩
        · subst he; exact h1 q1 q2
        · subst he; exact h2 id T' q1 q2 q3
      rcases evCode_sound hmix HC HL hj x _ _ _ _ _ h3 with ⟨e, s1, hk, _, hw⟩ | ⟨_, outs, hk, hw⟩
      · cases e with
        | normal =>
          simp only [joinK, Option.some.injEq] at hk
          subst hk
          have he : isEx joinId ⟨some joinId, canon (live y out LE) s1, []⟩ = true := rfl
          rw [he, cond_true] at h4
          obtain ⟨hl, h5⟩ := cond_some h4
          rcases evCode_sound hmix HC HL hj y _ _ _ _ _ h5 with ⟨e2, s2, hk2, _, hw2⟩ | ⟨_, outs, hk2, hw2⟩
          · refine .inl ⟨e2, s2, hk2, fun e => (by rw [hlf] at e; cases e), fun E B G n a w hB hd hn hr => wp_seq ?_⟩
            have hB' : B = .zero := hB.resolve_left (by rw [hlf]; decide)
            subst hB'
            refine wp_mono (hw E .zero G n a w (.inr rfl) (hdd n hd).1 hn hr) fun x a' w' hq => ?_
            obtain ⟨hx, hr'⟩ := hq
            subst hx
            exact hw2 E .zero G n a' w' (.inr rfl) (hdd n hd).2 hn (like_sound hl (canon_sound _ hr'))
          · refine .inr ⟨hlf, outs, hk2, fun E G n a w hd hn hr => wp_seq ?_⟩
            refine wp_mono (hw E .zero G n a w (.inr rfl) (hdd n hd).1 hn hr) fun x a' w' hq => ?_
            obtain ⟨hx, hr'⟩ := hq
            subst hx
            exact hw2 E G n a' w' (hdd n hd).2 hn (like_sound hl (canon_sound _ hr'))
        | exit id =>
          simp only [joinK] at hk
          rcases cond_or hk with ⟨_, hk⟩ | ⟨hid, hk⟩
          · cases hk
          · injection hk with hk
            refine gone hk.symm (by rw [← hk]; exact hid) (fun e => by cases e) fun id' T' e hl hkk => ?_
            injection e with e; subst e
            refine hback (s1 := canon (lookL LE.blk id) s1) (fun E G n a w hd hn hr => ?_) hl hkk
            exact wp_mono (hw E .zero G n a w (.inr rfl) hd hn hr) fun x a' w' hq => ⟨hq.1, canon_sound _ hq.2⟩
        | ret =>
          simp only [joinK] at hk
          obtain ⟨outs, h5, h6⟩ := Option.bind_eq_some_iff.1 hk
          injection h6 with h6
          refine gone h6.symm (by rw [← h6]; rfl) (fun _ hf => ?_) (fun id T' e => by cases e)
          refine hfin (fun E G n a w hd hn hr => ?_) hf
          exact wp_mono (hw E .zero G n a w (.inr rfl) hd hn hr) fun x a' w' hq => ⟨hq.1, s1, h5, hq.2⟩
      · injection hk with hk
        exact gone hk.symm (by rw [← hk]; rfl) (fun _ hf => hfin (fun E G n a w hd hn hr => hw E G n a w hd hn hr) hf) (fun id T' e => by cases e)
    · rcases evCode_sound hmix HC HL hj x _ _ _ _ _ h with ⟨e, s1, hk, hlen, hw⟩ | ⟨hlf, outs, hk, hw⟩
      · have other : e ≠ .normal → K e s1 = some r → Out P lf retK (.seq x y) s K fin r := fun hne hk => by
          refine .inl ⟨e, s1, hk, hlen, fun E B G n a w hB hd hn hr => wp_seq ?_⟩
          exact wp_mono (hw E B G n a w hB (hdd n hd).1 hn hr) fun x a' w' hq => then_of (by rw [hq.1]; exact toExit_ne hne) hq
        cases e with
        | normal =>
          rcases evCode_sound hmix HC HL hj y _ _ _ _ _ hk with ⟨e2, s2, hk2, hlen2, hw2⟩ | ⟨hlf, outs, hk2, hw2⟩
          · refine .inl ⟨e2, s2, hk2, fun e => Nat.le_trans (hlen e) (hlen2 e), fun E B G n a w hB hd hn hr => wp_seq ?_⟩
            refine wp_mono (hw E B G n a w hB (hdd n hd).1 hn hr) fun x a' w' hq => ?_
            obtain ⟨hx, hr'⟩ := hq
            subst hx
            exact hw2 E B G n a' w' hB (hdd n hd).2 hn hr'
          · refine .inr ⟨hlf, outs, hk2, fun E G n a w hd hn hr => wp_seq ?_⟩
            refine wp_mono (hw E .zero G n a w (.inr rfl) (hdd n hd).1 hn hr) fun x a' w' hq => ?_
            obtain ⟨hx, hr'⟩ := hq
            subst hx
            exact hw2 E G n a' w' (hdd n hd).2 hn hr'
        | exit id => exact other (fun e => by cases e) hk
        | ret => exact other (fun e => by cases e) hk
      · refine .inr ⟨hlf, outs, hk, fun E G n a w hd hn hr => wp_seq ?_⟩
        exact wp_mono (hw E G n a w (hdd n hd).1 hn hr) fun x a' w' hq => then_of (by rw [hq.1]; intro e; cases e) hq
  | .cond c x y, R, fin, out, LE, s, K, r, h => by
    rw [evCode] at h
    have hdd : ∀ n, dstOk n (.cond c x y) = true → dstOk n x = true ∧ dstOk n y = true := fun n hd => by
      simpa [dstOk] using hd
    split at h
    · rename_i t ht
      have hev : ∀ {E : Env} {B : Base} {G : Nat → Value} {n : Nat} {a : Act} {w : World}, Rel E B G n (lookF s.fr) s.bl a w → a.eval c = .bool t := fun {E B G n a w} hr => by
        obtain ⟨⟨μ, ρ, hf, _⟩, _⟩ := hr
        have := getO_FR (x := c) (fun t _ => hf t)
        rw [ht] at this
        exact this.v_eq
      rcases cond_or h with ⟨h1, h2⟩ | ⟨h1, h2⟩
      · have hl := setC_look ht h1
        rcases evCode_sound hmix HC HL hj x _ _ _ _ _ h2 with ⟨e, s1, hk, hlen, hw⟩ | ⟨hlf, outs, hk, hw⟩ <;> rw [setC_bl] at * <;> rw [hl] at hw
        · exact .inl ⟨e, s1, hk, hlen, fun E B G n a w hB hd hn hr => wp_cond_true (by rw [hev hr, h1]) (hw E B G n a w hB (hdd n hd).1 hn hr)⟩
        · exact .inr ⟨hlf, outs, hk, fun E G n a w hd hn hr => wp_cond_true (by rw [hev hr, h1]) (hw E G n a w (hdd n hd).1 hn hr)⟩
      · have hl := setC_look ht h1
        rcases evCode_sound hmix HC HL hj y _ _ _ _ _ h2 with ⟨e, s1, hk, hlen, hw⟩ | ⟨hlf, outs, hk, hw⟩ <;> rw [setC_bl] at * <;> rw [hl] at hw
        · exact .inl ⟨e, s1, hk, hlen, fun E B G n a w hB hd hn hr => wp_cond_false (by rw [hev hr, h1]) (hw E B G n a w hB (hdd n hd).2 hn hr)⟩
        · exact .inr ⟨hlf, outs, hk, fun E G n a w hd hn hr => wp_cond_false (by rw [hev hr, h1]) (hw E G n a w (hdd n hd).2 hn hr)⟩
    · cases h
  | .block id c, R, fin, out, LE, s, K, r, h => by
    rw [evCode] at h
    have hdd : ∀ n, dstOk n (.block id c) = true → dstOk n c = true := fun n hd => by
      simpa [dstOk] using hd
    rcases evCode_sound hmix HC HL hj c _ _ _ _ _ h with ⟨e, s1, hk, hlen, hw⟩ | ⟨hlf, outs, hk, hw⟩
    · cases e with
      | normal =>
        refine .inl ⟨.normal, s1, hk, hlen, fun E B G n a w hB hd hn hr => wp_block ?_⟩
        refine wp_mono (hw E B G n a w hB (hdd n hd) hn hr) fun x a' w' hq => ?_
        have hx := hq.1
        subst hx; exact hq
      | exit i =>
        rcases cond_or hk with ⟨h1, h2⟩ | ⟨h1, h2⟩
        · have e := Nat.eq_of_beq_eq_true h1
          refine .inl ⟨.normal, s1, h2, hlen, fun E B G n a w hB hd hn hr => wp_block ?_⟩
          refine wp_mono (hw E B G n a w hB (hdd n hd) hn hr) fun x a' w' hq => ?_
          have hx := hq.1
          subst hx
          show if i = id then _ else _
          rw [if_pos e]
          exact ⟨rfl, hq.2⟩
        · have e : i ≠ id := fun e => by rw [e, Nat.beq_refl] at h1; cases h1
          refine .inl ⟨.exit i, s1, h2, hlen, fun E B G n a w hB hd hn hr => wp_block ?_⟩
          refine wp_mono (hw E B G n a w hB (hdd n hd) hn hr) fun x a' w' hq => ?_
          have hx := hq.1
          subst hx
          show if i = id then _ else _
          rw [if_neg e]
          exact hq
      | ret =>
        refine .inl ⟨.ret, s1, hk, hlen, fun E B G n a w hB hd hn hr => wp_block ?_⟩
        refine wp_mono (hw E B G n a w hB (hdd n hd) hn hr) fun x a' w' hq => ?_
        have hx := hq.1
        subst hx; exact hq
    · refine .inr ⟨hlf, outs, hk, fun E G n a w hd hn hr => wp_block ?_⟩
      refine wp_mono (hw E G n a w (hdd n hd) hn hr) fun x a' w' hq => ?_
      have hx := hq.1
      subst hx; exact hq
  | .loop c, R, fin, out, LE, s, K, r, h => by
    rw [evCode] at h
    have hdd : ∀ n, dstOk n (.loop c) = true → dstOk n c = true := fun n hd => by
      simpa [dstOk] using hd
    rcases cond_or h with ⟨_, h2⟩ | ⟨_, h2⟩
    · rcases rollN_sound (P := P) (lf := lf) (retK := retK) (fin := fin) (c := c) (fun s K r h => evCode_sound hmix HC HL hj c _ _ s K r h) _ s h2 with ⟨e, s1, hk, hlen, hw⟩ | ⟨hlf, outs, hk, hw⟩
      · exact .inl ⟨e, s1, hk, hlen, fun E B G n a w hB hd hn hr => wp_loop_rounds _ (hw E B G n a w hB (hdd n hd) hn hr)⟩
      · exact .inr ⟨hlf, outs, hk, fun E G n a w hd hn hr => wp_loop_rounds _ (hw E G n a w (hdd n hd) hn hr)⟩
    · rw [Option.bind_eq_some_iff] at h2
      obtain ⟨r', h3, h4⟩ := h2
      obtain ⟨hlf, m, hL⟩ := HL _ _ _ _ _ h3
      rcases reenter_cases _ h4 with ⟨hex, hf⟩ | ⟨id, T', hex, hl, hk⟩
      · refine .inr ⟨hlf, _, hf, fun E G n a w hd hn hr => wp_loop_rounds m ?_⟩
        have := hL E G n a w (hdd n hd) hn (canon_sound _ hr)
        rw [hex] at this
        exact this
      · refine .inl ⟨.exit id, _, hk, fun e => (by rw [hlf] at e; cases e), fun E B G n a w hB hd hn hr => ?_⟩
        have hB' : B = .zero := hB.resolve_left (by rw [hlf]; decide)
        subst hB'
        have := hL E G n a w (hdd n hd) hn (canon_sound _ hr)
        rw [hex] at this
        exact wp_mono (wp_loop_rounds m this) fun x a' w' hq => ⟨hq.1, like_sound hl hq.2⟩
  | .exit id, R, fin, out, LE, s, K, r, h => by
    rw [evCode] at h
    exact .inl ⟨.exit id, s, h, fun _ => Nat.le_refl _, fun E B G n a w _ _ _ hr => wp_exit ⟨rfl, hr⟩⟩
  | .ret, R, fin, out, LE, s, K, r, h => by
    rw [evCode] at h
    exact .inl ⟨.ret, s, h, fun _ => Nat.le_refl _, fun E B G n a w _ _ _ hr => wp_ret ⟨rfl, hr⟩⟩
  | .goto _, _, _, _, _, _, _, _, h => by cases h
  | .label _, _, _, _, _, _, _, _, h => by cases h
  | .scope _, _, _, _, _, _, _, _, h => by cases h
  | .rangeFunc _ _ _ _, _, _, _, _, _, _, _, h => by cases h

theorem evLoop_sound (hmix : P.follows .mixedOrders = true) (HC : CallHyp P C call inl) : ∀ (m : Nat) (c : Code) (LE : LE) (retK : St → Option (List AV)) (s : St) (r : LR), evLoop P C call inl rmax jn m c LE retK s = some r → LOut P retK c s r m
  | 0, c, LE, retK, s, r, h => by cases h
  | m + 1, c, LE, retK, s, r, h => by
    rw [evLoop] at h
    have HL : LoopHyp P false (evLoop P C call inl rmax jn m) := fun c LE retK s r h => ⟨rfl, m, evLoop_sound hmix HC m c LE retK s r h⟩
    intro E G n a w hd hn hr
    rw [rounds_succ]
    rcases evCode_sound hmix HC HL (fun e => by cases e) c _ _ _ _ _ h with ⟨e, s1, hk, _, hw⟩ | ⟨_, outs, hk, hw⟩
    · refine wp_mono (hw E .zero G n a w (.inr rfl) hd hn hr) fun x a' w' hq => ?_
      obtain ⟨hx, hr'⟩ := hq
      subst hx
      cases e with
      | normal => exact evLoop_sound hmix HC m c LE retK _ r hk E G n a' w' hd hn (canon_sound _ hr')
      | exit id =>
        injection hk with hk
        subst hk
        exact ⟨rfl, canon_sound _ hr'⟩
      | ret =>
        obtain ⟨outs, h1, h2⟩ := Option.bind_eq_some_iff.1 hk
        injection h2 with h2
        subst h2
        exact ⟨rfl, s1, h1, hr'⟩
    · refine wp_mono (hw E G n a w hd hn hr) fun x a' w' hq => ?_
      injection hk with hk
      subst hk
      refine then_of (by rw [hq.1]; intro e; cases e) hq
end
end Go.Ev
