/- Code and loops. -/
import Derived.LoopN
import Derived.Test.YtjbpbidlcegopaaDoorEv06
set_option linter.all false
namespace Go.Ev
variable [Gl]
def toExit : Ex → Exit
  | .normal => .normal
  | .exit id => .exit id
  | .ret => .ret
def AtS (E : Env) (B : Base) (G : Nat → Value) (n : Nat) (e : Ex) (s : St) : Exit → Act → World → Prop := fun x a w => x = toExit e ∧ Rel E B G n (lookF s.fr) s.bl a w
def AtR (E : Env) (G : Nat → Value) (n : Nat) (retK : St → Option (List AV)) (outs : List AV) : Exit → Act → World → Prop := fun x a w => x = .ret ∧ ∃ s, retK s = some outs ∧ Rel E .zero G n (lookF s.fr) s.bl a w
def Out {R : Type} (P : Program) (lf : Bool) (retK : St → Option (List AV)) (c : Code) (s : St) (K : Ex → St → Option R) (fin : List AV → Option R) (r : R) : Prop :=
  (∃ e s', K e s' = some r ∧ (lf = true → s.bl.length ≤ s'.bl.length) ∧ ∀ (E : Env) (B : Base) (G : Nat → Value) (n : Nat) (a : Act) (w : World), (lf = true ∨ B = .zero) → dstOk n c = true → n ≤ 1000000 →
      Rel E B G n (lookF s.fr) s.bl a w → c.wp P (AtS E B G n e s') a w) ∨
  (lf = false ∧ ∃ outs, fin outs = some r ∧ ∀ (E : Env) (G : Nat → Value) (n : Nat) (a : Act) (w : World), dstOk n c = true → n ≤ 1000000 → Rel E .zero G n (lookF s.fr) s.bl a w → c.wp P (AtR E G n retK outs) a w)
def LOut (P : Program) (retK : St → Option (List AV)) (c : Code) (s : St) (r : LR) (m : Nat) : Prop :=
  ∀ (E : Env) (G : Nat → Value) (n : Nat) (a : Act) (w : World), dstOk n c = true → n ≤ 1000000 → Rel E .zero G n (lookF s.fr) s.bl a w →
    Code.rounds P c (match r.ex with | some id => AtS E .zero G n (.exit id) r.st | none => AtR E G n retK r.outs) m a w
def LoopHyp (P : Program) (lf : Bool) (loop : LoopT) : Prop :=
  ∀ (c : Code) (LE : LE) (retK : St → Option (List AV)) (s : St) (r : LR), loop c LE retK s = some r → lf = false ∧ ∃ m, LOut P retK c s r m
section
variable {P : Program} {C : Cfg} {call : CallT} {inl : InlT} {loop : LoopT} {rmax : Nat} {lf jn : Bool}
theorem reenter_cases {R : Type} {T : List Nat → St} {E : LE} {K : Ex → St → Option R} {fin : List AV → Option R} {r' : LR} {r : R} : ∀ (ids : List Nat), reenter T E K fin r' ids = some r →
    (r'.ex = none ∧ fin r'.outs = some r) ∨ ∃ id T', r'.ex = some id ∧ likeStG T' r'.st = true ∧ K (.exit id) (likeStV T' r'.st) = some r
  | [], h => by
    simp only [reenter] at h
    obtain ⟨h1, h2⟩ := cond_some h
    exact .inl ⟨by simpa [isRt] using h1, h2⟩
  | id :: ids, h => by
    simp only [reenter] at h
    rcases cond_or h with ⟨h1, h2⟩ | ⟨_, h2⟩
    · obtain ⟨h3, h4⟩ := cond_some h2
      refine .inr ⟨id, _, ?_, h3, h4⟩
      unfold isEx at h1
      split at h1
      · rename_i i hi
        rw [hi, Nat.eq_of_beq_eq_true h1]
      · cases h1
    · exact reenter_cases ids h2
theorem dst_ops {n : Nat} {id : Nat} {ops : Array Oper} {d : Bool} (h : dstOk n (.region id ops d) = true) (hn : n ≤ 1000000) : DstOk ops n := fun j oj d h1 h2 => by
  simp only [dstOk, List.all_eq_true] at h
  have h3 := h oj (List.mem_of_getElem? (by rw [Array.getElem?_toList]; exact h1))
  rw [h2] at h3
  have : d < n := by simpa [Nat.blt_eq] using h3
  exact ⟨this, by omega⟩
theorem then_of {Q : Exit → Act → World → Prop} {next : Act → World → Prop} {x : Exit} {a : Act} {w : World} (hn : x ≠ .normal) (h : Q x a w) : Exit.then next Q x a w := by
  cases x with
  | normal => exact absurd rfl hn
  | _ => exact h
theorem toExit_ne {e : Ex} (h : e ≠ .normal) : toExit e ≠ .normal := by
  cases e with
  | normal => exact absurd rfl h
  | exit id => intro e; cases e
  | ret => intro e; cases e
def ROut {R : Type} (P : Program) (lf : Bool) (retK : St → Option (List AV)) (c : Code) (m : Nat) (s : St) (K : Ex → St → Option R) (fin : List AV → Option R) (r : R) : Prop :=
  (∃ e s', K e s' = some r ∧ (lf = true → s.bl.length ≤ s'.bl.length) ∧ ∀ (E : Env) (B : Base) (G : Nat → Value) (n : Nat) (a : Act) (w : World), (lf = true ∨ B = .zero) → dstOk n c = true → n ≤ 1000000 →
      Rel E B G n (lookF s.fr) s.bl a w → Code.rounds P c (AtS E B G n e s') m a w) ∨
  (lf = false ∧ ∃ outs, fin outs = some r ∧ ∀ (E : Env) (G : Nat → Value) (n : Nat) (a : Act) (w : World), dstOk n c = true → n ≤ 1000000 → Rel E .zero G n (lookF s.fr) s.bl a w → Code.rounds P c (AtR E G n retK outs) m a w)
theorem rollN_sound {R : Type} {retK : St → Option (List AV)} {fin : List AV → Option R} {c : Code} {step : St → (Ex → St → Option R) → Option R}
    (hstep : ∀ (s : St) (K : Ex → St → Option R) (r : R), step s K = some r → Out P lf retK c s K fin r) {K : Ex → St → Option R} {r : R} : ∀ (m : Nat) (s : St), rollN step m s K = some r → ROut P lf retK c m s K fin r
  | 0, s, h => by cases h
  | m + 1, s, h => by
    rw [rollN] at h
    rcases hstep _ _ _ h with ⟨e, s1, hk, hlen, hw⟩ | ⟨hlf, outs, hk, hw⟩
    · cases e with
      | normal =>
        rcases rollN_sound hstep m s1 hk with ⟨e2, s2, hk2, hlen2, hw2⟩ | ⟨hlf, outs, hk2, hw2⟩
        · refine .inl ⟨e2, s2, hk2, fun e => Nat.le_trans (hlen e) (hlen2 e), fun E B G n a w hB hd hn hr => ?_⟩
          rw [rounds_succ]
          refine wp_mono (hw E B G n a w hB hd hn hr) fun x a' w' hq => ?_
          obtain ⟨hx, hr'⟩ := hq
          subst hx
          exact hw2 E B G n a' w' hB hd hn hr'
        · refine .inr ⟨hlf, outs, hk2, fun E G n a w hd hn hr => ?_⟩
          rw [rounds_succ]
          refine wp_mono (hw E .zero G n a w (.inr rfl) hd hn hr) fun x a' w' hq => ?_
          obtain ⟨hx, hr'⟩ := hq
          subst hx
          exact hw2 E G n a' w' hd hn hr'
      | exit id =>
        refine .inl ⟨.exit id, s1, hk, hlen, fun E B G n a w hB hd hn hr => ?_⟩
        rw [rounds_succ]
        refine wp_mono (hw E B G n a w hB hd hn hr) fun x a' w' hq => then_of (by rw [hq.1]; exact toExit_ne (fun e => by cases e)) hq
      | ret =>
        refine .inl ⟨.ret, s1, hk, hlen, fun E B G n a w hB hd hn hr => ?_⟩
        rw [rounds_succ]
        refine wp_mono (hw E B G n a w hB hd hn hr) fun x a' w' hq => then_of (by rw [hq.1]; exact toExit_ne (fun e => by cases e)) hq
    · refine .inr ⟨hlf, outs, hk, fun E G n a w hd hn hr => ?_⟩
      rw [rounds_succ]
      refine wp_mono (hw E G n a w hd hn hr) fun x a' w' hq => then_of (by rw [hq.1]; intro e; cases e) hq
theorem setC_bl (s : St) (c : Operand) (v : Bool) : (setC s c v).bl = s.bl := by
  unfold setC; split <;> rfl
theorem setC_look {s : St} {c : Operand} {t v : Bool} (h : getO s.fr c = .v (.bool t)) (e : t = v) : lookF (setC s c v).fr = lookF s.fr := by
  unfold setC
  split
  · rename_i q
    show lookF (putF s.fr (some q) _) = _
    rw [lookF_put]
    refine updF_self ?_
    simp only [getO, tmpF] at h
    cases hb : Nat.blt q 1000000 with
    | true => rw [hb, cond_true] at h; rw [h, e]
    | false => rw [hb, cond_false] at h; cases h
  · rfl
theorem evCode_sound (hmix : P.follows .mixedOrders = true) (HC : CallHyp P C call inl) (HL : LoopHyp P lf loop) (hj : lf = true → jn = false) {retK : St → Option (List AV)} :
    ∀ (c : Code) {R : Type} {fin : List AV → Option R} (out : List Nat) (LE : LE) (s : St) (K : Ex → St → Option R) (r : R), evCode P C call inl loop rmax jn retK c R fin out LE s K = some r → Out P lf retK c s K fin r
  | .skip, R, fin, out, LE, s, K, r, h => by
    rw [evCode] at h
    exact .inl ⟨.normal, s, h, fun _ => Nat.le_refl _, fun E B G n a w _ _ _ hr => wp_skip ⟨rfl, hr⟩⟩
  | .region id ops d, R, fin, out, LE, s, K, r, h => by
    rw [evCode] at h
    rcases cond_or h with ⟨h1, h2⟩ | ⟨h1, h2⟩
    · subst h1
      obtain ⟨hdr, h2⟩ := cond_some h2
      obtain ⟨s', hk, hlen, hw⟩ := draw_sound hmix HC (id := id) hdr h2
      exact .inl ⟨.normal, s', hk, fun _ => hlen, fun E B G n a w _ hd hn hr => hw E B G n _ a w (dst_ops hd hn) hr fun a w hr => ⟨rfl, hr⟩⟩
    · subst h1
      obtain ⟨s', hk, hlen, hw⟩ := region_sound HC (id := id) h2
      exact .inl ⟨.normal, s', hk, fun _ => hlen, fun E B G n a w _ hd hn hr => hw E B G n _ a w (dst_ops hd hn) hr fun a w hr => ⟨rfl, hr⟩⟩
  | .seq x y, R, fin, out, LE, s, K, r, h => by
    rw [evCode] at h
    have hdd : ∀ n, dstOk n (.seq x y) = true → dstOk n x = true ∧ dstOk n y = true := fun n hd => by
      simpa [dstOk] using hd
    rcases cond_or h with ⟨hjn, h⟩ | ⟨_, h⟩
    · -- the ways are brought together
      have hlf : lf = false := by
        cases e : lf with
        | false => rfl
        | true => rw [hj e] at hjn; cases hjn
      rw [Option.bind_eq_some_iff] at h
      obtain ⟨r', h3, h4⟩ := h
      have hback : ∀ {T' : St} {id : Nat} {s1 : St}, (∀ (E : Env) (G : Nat → Value) (n : Nat) (a : Act) (w : World), dstOk n x = true → n ≤ 1000000 → Rel E .zero G n (lookF s.fr) s.bl a w → x.wp P (AtS E .zero G n (.exit id) s1) a w) →
          likeStG T' s1 = true → K (.exit id) (likeStV T' s1) = some r → Out P lf retK (.seq x y) s K fin r := fun {T' id s1} hw hl hk => by
        refine .inl ⟨.exit id, _, hk, fun e => (by rw [hlf] at e; cases e), fun E B G n a w hB hd hn hr => wp_seq ?_⟩
        have hB' : B = .zero := hB.resolve_left (by rw [hlf]; decide)
        subst hB'
        refine wp_mono (hw E G n a w (hdd n hd).1 hn hr) fun x a' w' hq => ?_
        obtain ⟨hx, hr'⟩ := hq
        subst hx
        exact ⟨rfl, like_sound hl hr'⟩
      have hfin : ∀ {outs : List AV}, (∀ (E : Env) (G : Nat → Value) (n : Nat) (a : Act) (w : World), dstOk n x = true → n ≤ 1000000 → Rel E .zero G n (lookF s.fr) s.bl a w → x.wp P (AtR E G n retK outs) a w) → fin outs = some r → Out P lf retK (.seq x y) s K fin r := fun {outs} hw hf => by
        refine .inr ⟨hlf, outs, hf, fun E G n a w hd hn hr => wp_seq ?_⟩
        exact wp_mono (hw E G n a w (hdd n hd).1 hn hr) fun x a' w' hq => then_of (by rw [hq.1]; intro e; cases e) hq
      have gone : ∀ {e : Option Nat} {s1 : St} {outs : List AV}, r' = ⟨e, s1, outs⟩ → isEx joinId r' = false → (e = none → fin outs = some r → Out P lf retK (.seq x y) s K fin r) → (∀ id T', e = some id → likeStG T' s1 = true → K (.exit id) (likeStV T' s1) = some r → Out P lf retK (.seq x y) s K fin r) → Out P lf retK (.seq x y) s K fin r := fun {e s1 outs} he hno h1 h2 => by
        rw [hno, cond_false] at h4
        rcases reenter_cases _ h4 with ⟨q1, q2⟩ | ⟨id, T', q1, q2, q3⟩
        · subst he; exact h1 q1 q2
        · subst he; exact h2 id T' q1 q2 q3
      rcases evCode_sound hmix HC HL hj x _ _ _ _ _ h3 with ⟨e, s1, hk, _, hw⟩ | ⟨_, outs, hk, hw⟩
      · cases e with
        | normal =>
          simp only [joinK, Option.some.injEq] at hk
          subst hk
          have he : isEx joinId ⟨some joinId, canon (live y out LE) s1, []⟩ = true := rfl
          rw [he, cond_true] at h4
          obtain ⟨hl, h5⟩ := cond_some h4
          rcases evCode_sound hmix HC HL hj y _ _ _ _ _ h5 with ⟨e2, s2, hk2, _, hw2⟩ | ⟨_, outs, hk2, hw2⟩
          · refine .inl ⟨e2, s2, hk2, fun e => (by rw [hlf] at e; cases e), fun E B G n a w hB hd hn hr => wp_seq ?_⟩
            have hB' : B = .zero := hB.resolve_left (by rw [hlf]; decide)
            subst hB'
            refine wp_mono (hw E .zero G n a w (.inr rfl) (hdd n hd).1 hn hr) fun x a' w' hq => ?_
            obtain ⟨hx, hr'⟩ := hq
            subst hx
            exact hw2 E .zero G n a' w' (.inr rfl) (hdd n hd).2 hn (like_sound hl (canon_sound _ hr'))
          · refine .inr ⟨hlf, outs, hk2, fun E G n a w hd hn hr => wp_seq ?_⟩
            refine wp_mono (hw E .zero G n a w (.inr rfl) (hdd n hd).1 hn hr) fun x a' w' hq => ?_
            obtain ⟨hx, hr'⟩ := hq
            subst hx
            exact hw2 E G n a' w' (hdd n hd).2 hn (like_sound hl (canon_sound _ hr'))
        | exit id =>
          simp only [joinK] at hk
          rcases cond_or hk with ⟨_, hk⟩ | ⟨hid, hk⟩
          · cases hk
          · injection hk with hk
            refine gone hk.symm (by rw [← hk]; exact hid) (fun e => by cases e) fun id' T' e hl hkk => ?_
            injection e with e; subst e
            refine hback (s1 := canon (lookL LE.blk id) s1) (fun E G n a w hd hn hr => ?_) hl hkk
            exact wp_mono (hw E .zero G n a w (.inr rfl) hd hn hr) fun x a' w' hq => ⟨hq.1, canon_sound _ hq.2⟩
        | ret =>
          simp only [joinK] at hk
          obtain ⟨outs, h5, h6⟩ := Option.bind_eq_some_iff.1 hk
          injection h6 with h6
          refine gone h6.symm (by rw [← h6]; rfl) (fun _ hf => ?_) (fun id T' e => by cases e)
          refine hfin (fun E G n a w hd hn hr => ?_) hf
          exact wp_mono (hw E .zero G n a w (.inr rfl) hd hn hr) fun x a' w' hq => ⟨hq.1, s1, h5, hq.2⟩
      · injection hk with hk
        exact gone hk.symm (by rw [← hk]; rfl) (fun _ hf => hfin (fun E G n a w hd hn hr => hw E G n a w hd hn hr) hf) (fun id T' e => by cases e)
    · rcases evCode_sound hmix HC HL hj x _ _ _ _ _ h with ⟨e, s1, hk, hlen, hw⟩ | ⟨hlf, outs, hk, hw⟩
      · have other : e ≠ .normal → K e s1 = some r → Out P lf retK (.seq x y) s K fin r := fun hne hk => by
          refine .inl ⟨e, s1, hk, hlen, fun E B G n a w hB hd hn hr => wp_seq ?_⟩
          exact wp_mono (hw E B G n a w hB (hdd n hd).1 hn hr) fun x a' w' hq => then_of (by rw [hq.1]; exact toExit_ne hne) hq
        cases e with
        | normal =>
          rcases evCode_sound hmix HC HL hj y _ _ _ _ _ hk with ⟨e2, s2, hk2, hlen2, hw2⟩ | ⟨hlf, outs, hk2, hw2⟩
          · refine .inl ⟨e2, s2, hk2, fun e => Nat.le_trans (hlen e) (hlen2 e), fun E B G n a w hB hd hn hr => wp_seq ?_⟩
            refine wp_mono (hw E B G n a w hB (hdd n hd).1 hn hr) fun x a' w' hq => ?_
            obtain ⟨hx, hr'⟩ := hq
            subst hx
            exact hw2 E B G n a' w' hB (hdd n hd).2 hn hr'
          · refine .inr ⟨hlf, outs, hk2, fun E G n a w hd hn hr => wp_seq ?_⟩
            refine wp_mono (hw E .zero G n a w (.inr rfl) (hdd n hd).1 hn hr) fun x a' w' hq => ?_
            obtain ⟨hx, hr'⟩ := hq
            subst hx
            exact hw2 E G n a' w' (hdd n hd).2 hn hr'
        | exit id => exact other (fun e => by cases e) hk
        | ret => exact other (fun e => by cases e) hk
      · refine .inr ⟨hlf, outs, hk, fun E G n a w hd hn hr => wp_seq ?_⟩
        exact wp_mono (hw E G n a w (hdd n hd).1 hn hr) fun x a' w' hq => then_of (by rw [hq.1]; intro e; cases e) hq
  | .cond c x y, R, fin, out, LE, s, K, r, h => by
    rw [evCode] at h
    have hdd : ∀ n, dstOk n (.cond c x y) = true → dstOk n x = true ∧ dstOk n y = true := fun n hd => by
      simpa [dstOk] using hd
    split at h
    · rename_i t ht
      have hev : ∀ {E : Env} {B : Base} {G : Nat → Value} {n : Nat} {a : Act} {w : World}, Rel E B G n (lookF s.fr) s.bl a w → a.eval c = .bool t := fun {E B G n a w} hr => by
        obtain ⟨⟨μ, ρ, hf, _⟩, _⟩ := hr
        have := getO_FR (x := c) (fun t _ => hf t)
        rw [ht] at this
        exact this.v_eq
      rcases cond_or h with ⟨h1, h2⟩ | ⟨h1, h2⟩
      · have hl := setC_look ht h1
        rcases evCode_sound hmix HC HL hj x _ _ _ _ _ h2 with ⟨e, s1, hk, hlen, hw⟩ | ⟨hlf, outs, hk, hw⟩ <;> rw [setC_bl] at * <;> rw [hl] at hw
        · exact .inl ⟨e, s1, hk, hlen, fun E B G n a w hB hd hn hr => wp_cond_true (by rw [hev hr, h1]) (hw E B G n a w hB (hdd n hd).1 hn hr)⟩
        · exact .inr ⟨hlf, outs, hk, fun E G n a w hd hn hr => wp_cond_true (by rw [hev hr, h1]) (hw E G n a w (hdd n hd).1 hn hr)⟩
      · have hl := setC_look ht h1
        rcases evCode_sound hmix HC HL hj y _ _ _ _ _ h2 with ⟨e, s1, hk, hlen, hw⟩ | ⟨hlf, outs, hk, hw⟩ <;> rw [setC_bl] at * <;> rw [hl] at hw
        · exact .inl ⟨e, s1, hk, hlen, fun E B G n a w hB hd hn hr => wp_cond_false (by rw [hev hr, h1]) (hw E B G n a w hB (hdd n hd).2 hn hr)⟩
        · exact .inr ⟨hlf, outs, hk, fun E G n a w hd hn hr => wp_cond_false (by rw [hev hr, h1]) (hw E G n a w (hdd n hd).2 hn hr)⟩
    · cases h
  | .block id c, R, fin, out, LE, s, K, r, h => by
    rw [evCode] at h
    have hdd : ∀ n, dstOk n (.block id c) = true → dstOk n c = true := fun n hd => by
      simpa [dstOk] using hd
    rcases evCode_sound hmix HC HL hj c _ _ _ _ _ h with ⟨e, s1, hk, hlen, hw⟩ | ⟨hlf, outs, hk, hw⟩
    · cases e with
      | normal =>
        refine .inl ⟨.normal, s1, hk, hlen, fun E B G n a w hB hd hn hr => wp_block ?_⟩
        refine wp_mono (hw E B G n a w hB (hdd n hd) hn hr) fun x a' w' hq => ?_
        have hx := hq.1
        subst hx; exact hq
      | exit i =>
        rcases cond_or hk with ⟨h1, h2⟩ | ⟨h1, h2⟩
        · have e := Nat.eq_of_beq_eq_true h1
          refine .inl ⟨.normal, s1, h2, hlen, fun E B G n a w hB hd hn hr => wp_block ?_⟩
          refine wp_mono (hw E B G n a w hB (hdd n hd) hn hr) fun x a' w' hq => ?_
          have hx := hq.1
          subst hx
          show if i = id then _ else _
          rw [if_pos e]
          exact ⟨rfl, hq.2⟩
        · have e : i ≠ id := fun e => by rw [e, Nat.beq_refl] at h1; cases h1
          refine .inl ⟨.exit i, s1, h2, hlen, fun E B G n a w hB hd hn hr => wp_block ?_⟩
          refine wp_mono (hw E B G n a w hB (hdd n hd) hn hr) fun x a' w' hq => ?_
          have hx := hq.1
          subst hx
          show if i = id then _ else _
          rw [if_neg e]
          exact hq
      | ret =>
        refine .inl ⟨.ret, s1, hk, hlen, fun E B G n a w hB hd hn hr => wp_block ?_⟩
        refine wp_mono (hw E B G n a w hB (hdd n hd) hn hr) fun x a' w' hq => ?_
        have hx := hq.1
        subst hx; exact hq
    · refine .inr ⟨hlf, outs, hk, fun E G n a w hd hn hr => wp_block ?_⟩
      refine wp_mono (hw E G n a w (hdd n hd) hn hr) fun x a' w' hq => ?_
      have hx := hq.1
      subst hx; exact hq
  | .loop c, R, fin, out, LE, s, K, r, h => by
    rw [evCode] at h
    have hdd : ∀ n, dstOk n (.loop c) = true → dstOk n c = true := fun n hd => by
      simpa [dstOk] using hd
    rcases cond_or h with ⟨_, h2⟩ | ⟨_, h2⟩
    · rcases rollN_sound (P := P) (lf := lf) (retK := retK) (fin := fin) (c := c) (fun s K r h => evCode_sound hmix HC HL hj c _ _ s K r h) _ s h2 with ⟨e, s1, hk, hlen, hw⟩ | ⟨hlf, outs, hk, hw⟩
      · exact .inl ⟨e, s1, hk, hlen, fun E B G n a w hB hd hn hr => wp_loop_rounds _ (hw E B G n a w hB (hdd n hd) hn hr)⟩
      · exact .inr ⟨hlf, outs, hk, fun E G n a w hd hn hr => wp_loop_rounds _ (hw E G n a w (hdd n hd) hn hr)⟩
    · rw [Option.bind_eq_some_iff] at h2
      obtain ⟨r', h3, h4⟩ := h2
      obtain ⟨hlf, m, hL⟩ := HL _ _ _ _ _ h3
      rcases reenter_cases _ h4 with ⟨hex, hf⟩ | ⟨id, T', hex, hl, hk⟩
      · refine .inr ⟨hlf, _, hf, fun E G n a w hd hn hr => wp_loop_rounds m ?_⟩
        have := hL E G n a w (hdd n hd) hn (canon_sound _ hr)
        rw [hex] at this
        exact this
      · refine .inl ⟨.exit id, _, hk, fun e => (by rw [hlf] at e; cases e), fun E B G n a w hB hd hn hr => ?_⟩
        have hB' : B = .zero := hB.resolve_left (by rw [hlf]; decide)
        subst hB'
        have := hL E G n a w (hdd n hd) hn (canon_sound _ hr)
        rw [hex] at this
        exact wp_mono (wp_loop_rounds m this) fun x a' w' hq => ⟨hq.1, like_sound hl hq.2⟩
  | .exit id, R, fin, out, LE, s, K, r, h => by
    rw [evCode] at h
    exact .inl ⟨.exit id, s, h, fun _ => Nat.le_refl _, fun E B G n a w _ _ _ hr => wp_exit ⟨rfl, hr⟩⟩
  | .ret, R, fin, out, LE, s, K, r, h => by
    rw [evCode] at h
    exact .inl ⟨.ret, s, h, fun _ => Nat.le_refl _, fun E B G n a w _ _ _ hr => wp_ret ⟨rfl, hr⟩⟩
  | .goto _, _, _, _, _, _, _, _, h => by cases h
  | .label _, _, _, _, _, _, _, _, h => by cases h
  | .scope _, _, _, _, _, _, _, _, h => by cases h
  | .rangeFunc _ _ _ _, _, _, _, _, _, _, _, h => by cases h
theorem evLoop_sound (hmix : P.follows .mixedOrders = true) (HC : CallHyp P C call inl) : ∀ (m : Nat) (c : Code) (LE : LE) (retK : St → Option (List AV)) (s : St) (r : LR), evLoop P C call inl rmax jn m c LE retK s = some r → LOut P retK c s r m
  | 0, c, LE, retK, s, r, h => by cases h
  | m + 1, c, LE, retK, s, r, h => by
    rw [evLoop] at h
    have HL : LoopHyp P false (evLoop P C call inl rmax jn m) := fun c LE retK s r h => ⟨rfl, m, evLoop_sound hmix HC m c LE retK s r h⟩
    intro E G n a w hd hn hr
    rw [rounds_succ]
    rcases evCode_sound hmix HC HL (fun e => by cases e) c _ _ _ _ _ h with ⟨e, s1, hk, _, hw⟩ | ⟨_, outs, hk, hw⟩
    · refine wp_mono (hw E .zero G n a w (.inr rfl) hd hn hr) fun x a' w' hq => ?_
      obtain ⟨hx, hr'⟩ := hq
      subst hx
      cases e with
      | normal => exact evLoop_sound hmix HC m c LE retK _ r hk E G n a' w' hd hn (canon_sound _ hr')
      | exit id =>
        injection hk with hk
        subst hk
        exact ⟨rfl, canon_sound _ hr'⟩
      | ret =>
        obtain ⟨outs, h1, h2⟩ := Option.bind_eq_some_iff.1 hk
        injection h2 with h2
        subst h2
        exact ⟨rfl, s1, h1, hr'⟩
    · refine wp_mono (hw E G n a w hd hn hr) fun x a' w' hq => ?_
      injection hk with hk
      subst hk
      refine then_of (by rw [hq.1]; intro e; cases e) hq
end
end Go.Ev
namespace Go.Ev
variable [Gl]
abbrev HF := Nat → Option Obj
def hf (w : World) : HF := fun b => w.heap[b]?
inductive B0 (μ : Mu) (hp : HF) : List Nat → AV → Value → Prop
  | d {a : AV} {v : Value} (h : DR μ a v) : B0 μ hp [] a v
  | ow {b cap ty sz : Nat} {xs : List (List AV)} {cur : Array Value} (h : ∃ fz, hp b = some (.cells cur ty fz) ∧ OkFz (fxB false sz) cur.size fz) (hm : μ b = none) (hc : xs.length ≤ cap) (hs : cap * sz = cur.size) (hr : RowD μ sz xs cur) :
      B0 μ hp [b] (.ow false ty sz xs) (.slice (some ⟨b, 0, none⟩) xs.length cap)
  | own {ty sz : Nat} : B0 μ hp [] (.ow true ty sz []) (.slice none 0 0)
inductive B0s (μ : Mu) (hp : HF) : List Nat → List AV → List Value → Prop
  | nil : B0s μ hp [] [] []
  | cons {F F' : List Nat} {a : AV} {as : List AV} {v : Value} {vs : List Value} (h : B0 μ hp F a v) (k : B0s μ hp F' as vs) : B0s μ hp (F ++ F') (a :: as) (v :: vs)
inductive B1 (μ : Mu) (hp : HF) : List Nat → List Value → AV → Value → Prop
  | c {F : List Nat} {a : AV} {v : Value} (h : B0 μ hp F a v) : B1 μ hp F [] a v
  | ob {b ty : Nat} {F : List Nat} {cs : List AV} {cur : Array Value} (h : hp b = some (.cells cur ty (0, 0))) (hm : μ b = none) (hc : B0s μ hp F cs cur.toList) :
      B1 μ hp (b :: F) [.pointer (some ⟨b, 0, none⟩)] (.ob ty cs) (.pointer (some ⟨b, 0, none⟩))
  | row {F : List Nat} {a : AV} {v : Value} (h : B0 μ hp F a v) (hn : v ≠ .slice none 0 0) : B1 μ hp F [v] (.tup [a]) v
inductive B1s (μ : Mu) (hp : HF) : List Nat → List Value → List AV → List Value → Prop
  | nil : B1s μ hp [] [] [] []
  | cons {F F' : List Nat} {G G' : List Value} {a : AV} {as : List AV} {v : Value} {vs : List Value} (h : B1 μ hp F G a v) (k : B1s μ hp F' G' as vs) : B1s μ hp (F ++ F') (G ++ G') (a :: as) (v :: vs)
inductive B2 (μ : Mu) (hp : HF) : List Nat → List Value → AV → Value → Prop
  | o {F : List Nat} {G : List Value} {a : AV} {v : Value} (h : B1 μ hp F G a v) : B2 μ hp F G a v
  | agg {F : List Nat} {G : List Value} {cs : List AV} {vs : List Value} (h : B1s μ hp F G cs vs) : B2 μ hp F G (.agg cs) (.agg vs.toArray)
  | clo {F : List Nat} {G : List Value} {f : FuncId} {first caps : List AV} {fs cs : List Value} (h1 : DRs μ first fs) (h : B1s μ hp F G caps cs) : B2 μ hp F G (.clo f first caps) (.func (.func f) fs.toArray cs.toArray)
inductive B2s (μ : Mu) (hp : HF) : List Nat → List Value → List AV → List Value → Prop
  | nil : B2s μ hp [] [] [] []
  | cons {F F' : List Nat} {G G' : List Value} {a : AV} {as : List AV} {v : Value} {vs : List Value} (h : B2 μ hp F G a v) (k : B2s μ hp F' G' as vs) : B2s μ hp (F ++ F') (G ++ G') (a :: as) (v :: vs)
section len
variable {μ : Mu} {hp : HF} {F : List Nat} {G : List Value} {as : List AV} {vs : List Value}
theorem B0s.len (h : B0s μ hp F as vs) : vs.length = as.length := by
  induction h with
  | nil => rfl
  | cons _ _ ih => simp [ih]
theorem B1s.len (h : B1s μ hp F G as vs) : vs.length = as.length := by
  induction h with
  | nil => rfl
  | cons _ _ ih => simp [ih]
theorem B2s.len (h : B2s μ hp F G as vs) : vs.length = as.length := by
  induction h with
  | nil => rfl
  | cons _ _ ih => simp [ih]
end len
def Own (σ : Store) (ρ : Rho) (b : Nat) : Prop := ∃ l rb k, ρ l = some rb ∧ σ[l]? = some k ∧ k.mode = 1 ∧ rb.ph = false ∧ rb.b = b
structure Imp (E : Env) (μ : Mu) (ρ : Rho) (σ : Store) (w : World) (F : List Nat) (ρ' : Rho) (σ' : Store) : Prop where
  rho : RhoLe ρ ρ'
  app : ∃ τ, σ' = σ ++ τ
  dom : ∀ l rb, ρ' l = some rb → ρ l = some rb ∨ (σ.length ≤ l ∧ l < σ'.length ∧ (rb.ph = true ∨ rb.b ∈ F))
  sr : SR E μ ρ' σ' w
  own : ∀ b, Own σ' ρ' b → Own σ ρ b ∨ b ∈ F
structure Free (E : Env) (ρ : Rho) (σ : Store) (F : List Nat) : Prop where
  nodup : F.Nodup
  not : ∀ b ∈ F, ¬ Own σ ρ b
  may : ∀ b ∈ F, E.D b ∨ E.w0.heap.size ≤ b
section
variable {E : Env} {μ : Mu} {ρ ρ' ρ'' : Rho} {σ σ' σ'' : Store} {w : World} {F F' : List Nat}
theorem Imp.refl (h : SR E μ ρ σ w) : Imp E μ ρ σ w [] ρ σ := ⟨RhoLe.refl ρ, ⟨[], by simp⟩, fun _ _ h => .inl h, h, fun _ h => .inl h⟩
theorem Imp.len (h : Imp E μ ρ σ w F ρ' σ') : σ.length ≤ σ'.length := by
  obtain ⟨τ, e⟩ := h.app
  rw [e]; simp
theorem Imp.trans (h : Imp E μ ρ σ w F ρ' σ') (k : Imp E μ ρ' σ' w F' ρ'' σ'') : Imp E μ ρ σ w (F ++ F') ρ'' σ'' := by
  have hl := h.len
  have hl' := k.len
  refine ⟨h.rho.trans k.rho, ?_, fun l rb hr => ?_, k.sr, fun b hb => ?_⟩
  · obtain ⟨τ, e⟩ := h.app
    obtain ⟨τ', e'⟩ := k.app
    exact ⟨τ ++ τ', by rw [e', e, List.append_assoc]⟩
  · rcases k.dom l rb hr with h1 | ⟨h1, h2, h3⟩
    · rcases h.dom l rb h1 with h4 | ⟨h4, h5, h6⟩
      · exact .inl h4
      · exact .inr ⟨h4, Nat.lt_of_lt_of_le h5 hl', h6.imp id fun h => by simp [h]⟩
    · exact .inr ⟨Nat.le_trans hl h1, h2, h3.imp id fun h => by simp [h]⟩
  · rcases k.own b hb with h1 | h1
    · rcases h.own b h1 with h2 | h2
      · exact .inl h2
      · exact .inr (by simp [h2])
    · exact .inr (by simp [h1])
theorem Imp.fresh (h : Imp E μ ρ σ w F ρ' σ') {m : Nat} (hf : FreshTo ρ σ.length m) : FreshTo ρ' σ'.length m := fun l h1 h2 => by
  cases e : ρ' l with
  | none => rfl
  | some rb =>
    rcases h.dom l rb e with h3 | ⟨_, h3, _⟩
    · rw [hf l (Nat.le_trans h.len h1) h2] at h3; cases h3
    · omega
theorem Free.left (h : Free E ρ σ (F ++ F')) : Free E ρ σ F :=
  ⟨(List.nodup_append.1 h.nodup).1, fun b hb => h.not b (by simp [hb]), fun b hb => h.may b (by simp [hb])⟩
theorem Free.right (h : Free E ρ σ (F ++ F')) (k : Imp E μ ρ σ w F ρ' σ') : Free E ρ' σ' F' := by
  obtain ⟨_, h2, h3⟩ := List.nodup_append.1 h.nodup
  refine ⟨h2, fun b hb ho => ?_, fun b hb => h.may b (by simp [hb])⟩
  rcases k.own b ho with h4 | h4
  · exact h.not b (by simp [hb]) h4
  · exact h3 b h4 b hb rfl
theorem Imp.add (hs : SR E μ ρ σ w) (hf : Fresh ρ σ) (k : Blk) (rb : RB) (hb : BlkR μ (rhoAdd ρ σ.length rb) w k rb) (hm : k.mode = 1) (hF : Free E ρ σ F) (hp : rb.ph = true ∨ rb.b ∈ F) : Imp E μ ρ σ w F (rhoAdd ρ σ.length rb) (σ ++ [k]) := by
  obtain ⟨h1, h2⟩ := hs.add hf k rb hb fun _ hph => ⟨hF.may _ (hp.resolve_left (by rw [hph]; decide)), fun l rb' k' hl hk hm1 hp1 he => hF.not _ (hp.resolve_left (by rw [hph]; decide)) ⟨l, rb', k', hl, hk, hm1, hp1, he⟩⟩
  refine ⟨h1, ⟨_, rfl⟩, fun l r hl => ?_, h2, fun b hb => ?_⟩
  · rcases rhoAdd_cases hl with ⟨h3, h4⟩ | ⟨_, h3⟩
    · subst h4; exact .inr ⟨by omega, by simp; omega, hp⟩
    · exact .inl h3
  · obtain ⟨l, r, kk, e1, e2, e3, e4, e5⟩ := hb
    rcases rhoAdd_cases e1 with ⟨h3, h4⟩ | ⟨h3, h4⟩
    · subst h4
      exact .inr (e5 ▸ hp.resolve_left (by rw [e4]; decide))
    · rcases get_app e2 with ⟨h5, h6⟩ | ⟨h5, _⟩
      · exact .inl ⟨l, r, kk, h4, h6, e3, e4, e5⟩
      · exact absurd h5 h3
theorem impC_app {c a : AV} (h : impC σ c = some (a, σ')) : ∃ τ, σ' = σ ++ τ := by
  unfold impC at h
  split at h
  all_goals first | (cases h; done) | (simp only [Option.some.injEq, Prod.mk.injEq] at h; first | exact ⟨[], by rw [List.append_nil, h.2]⟩ | exact ⟨_, h.2.symm⟩)
theorem impCs_app : ∀ {cs as : List AV} {σ σ' : Store}, impCs σ cs = some (as, σ') → ∃ τ, σ' = σ ++ τ
  | [], as, σ, σ', h => by
    simp only [impCs, Option.some.injEq, Prod.mk.injEq] at h
    exact ⟨[], by rw [List.append_nil, h.2]⟩
  | c :: cs, as, σ, σ', h => by
    rw [impCs] at h
    split at h
    · cases h
    · rename_i x y hx
      split at h
      · cases h
      · rename_i z t hz
        simp only [Option.some.injEq, Prod.mk.injEq] at h
        obtain ⟨τ1, e1⟩ := impC_app hx
        obtain ⟨τ2, e2⟩ := impCs_app hz
        exact ⟨τ1 ++ τ2, by rw [← h.2, e2, e1, List.append_assoc]⟩
theorem app_len {σ σ' : Store} (h : ∃ τ, σ' = σ ++ τ) : σ.length ≤ σ'.length := by
  obtain ⟨τ, e⟩ := h
  rw [e]; simp
theorem impC_sound {c a : AV} {v : Value} {m : Nat} (hs : SR E μ ρ σ w) (hb : B0 μ (hf w) F c v) (hF : Free E ρ σ F) (hfr : FreshTo ρ σ.length m) (h : impC σ c = some (a, σ')) (hm : σ'.length ≤ m) :
    ∃ ρ', Imp E μ ρ σ w F ρ' σ' ∧ CR μ ρ' a v := by
  cases hb with
  | d hd =>
    have : a = c ∧ σ' = σ := by
      cases hd with
      | v hx => simp only [impC, Option.some.injEq, Prod.mk.injEq] at h; exact ⟨h.1.symm, h.2.symm⟩
      | lst => simp only [impC, Option.some.injEq, Prod.mk.injEq] at h; exact ⟨h.1.symm, h.2.symm⟩
      | ep => simp only [impC, Option.some.injEq, Prod.mk.injEq] at h; exact ⟨h.1.symm, h.2.symm⟩
      | clo => cases h
    obtain ⟨e1, e2⟩ := this
    subst e1; subst e2
    exact ⟨ρ, .refl hs, .d hd⟩
  | @ow b cap ty sz xs cur h1 h2 h3 h4 h5 =>
    simp only [impC, Option.some.injEq, Prod.mk.injEq] at h
    obtain ⟨e1, e2⟩ := h
    subst e1; subst e2
    refine ⟨rhoAdd ρ σ.length ⟨b, cur.size, sz, xs.length, false⟩, Imp.add hs (hfr _ (Nat.le_refl _) (by simp at hm; omega)) _ _ ⟨rfl, rfl, ?_, fun e => (by cases e), fun e => (by cases e), fun _ => ⟨cur, rfl, fun _ => h5, fun e => (by cases e), .inl ⟨rfl, h1, h2⟩⟩⟩ rfl hF (.inr (by simp)), ?_⟩
    · show xs.length * sz ≤ cur.size
      rw [← h4]; exact Nat.mul_le_mul_right _ h3
    · exact .sl (rhoAdd_same _ _ _) rfl (.inl (by simp)) rfl (by simp) h3 (by simpa using h4)
  | @own ty sz =>
    simp only [impC, Option.some.injEq, Prod.mk.injEq] at h
    obtain ⟨e1, e2⟩ := h
    subst e1; subst e2
    exact ⟨rhoAdd ρ σ.length ⟨0, 0, sz, 0, true⟩, Imp.add hs (hfr _ (Nat.le_refl _) (by simp at hm; omega)) _ _ ⟨rfl, rfl, by simp, fun _ => ⟨rfl, rfl⟩, fun e => (by cases e), fun e => (by cases e)⟩ rfl hF (.inl rfl),
      .sln (rhoAdd_same _ _ _) rfl rfl (fun n e => by cases e)⟩
theorem CRs.app {as as' : List AV} {vs vs' : List Value} (h : CRs μ ρ as vs) (k : CRs μ ρ as' vs') : CRs μ ρ (as ++ as') (vs ++ vs') := by
  refine ⟨by simp [h.1, k.1], fun i u x hu hx => ?_⟩
  rcases Nat.lt_or_ge i as.length with h1 | h1
  · rw [List.getElem?_append_left h1] at hu
    rw [List.getElem?_append_left (by rw [h.1]; exact h1)] at hx
    exact h.2 i u x hu hx
  · rw [List.getElem?_append_right h1] at hu
    rw [List.getElem?_append_right (by rw [h.1]; exact h1), h.1] at hx
    exact k.2 _ u x hu hx
theorem impCs_sound : ∀ {cs as : List AV} {vs : List Value} {F : List Nat} {ρ : Rho} {σ σ' : Store} {m : Nat}, SR E μ ρ σ w → B0s μ (hf w) F cs vs → Free E ρ σ F → FreshTo ρ σ.length m → impCs σ cs = some (as, σ') → σ'.length ≤ m →
    ∃ ρ', Imp E μ ρ σ w F ρ' σ' ∧ CRs μ ρ' as vs
  | [], as, vs, F, ρ, σ, σ', m, hs, hb, hF, hfr, h, hm => by
    cases hb
    simp only [impCs, Option.some.injEq, Prod.mk.injEq] at h
    obtain ⟨e1, e2⟩ := h
    subst e1; subst e2
    exact ⟨ρ, .refl hs, CRs.nil⟩
  | c :: cs, as, vs, F, ρ, σ, σ', m, hs, hb, hF, hfr, h, hm => by
    cases hb with
    | cons hb1 hb2 =>
      rw [impCs] at h
      split at h
      · cases h
      · rename_i c' σ1 h1
        split at h
        · cases h
        · rename_i cs' σ2 h2
          simp only [Option.some.injEq, Prod.mk.injEq] at h
          obtain ⟨e1, e2⟩ := h
          subst e1; subst e2
          have hle : σ1.length ≤ σ2.length := app_len (impCs_app h2)
          obtain ⟨ρ1, i1, r1⟩ := impC_sound hs hb1 hF.left hfr h1 (Nat.le_trans hle hm)
          obtain ⟨ρ2, i2, r2⟩ := impCs_sound i1.sr hb2 (hF.right i1) (i1.fresh hfr) h2 hm
          exact ⟨ρ2, i1.trans i2, CRs.cons (r1.mono (MuLe.refl μ) i2.rho) r2⟩
end
end Go.Ev
namespace Go.Ev
variable [Gl]
def VRs (μ : Mu) (ρ : Rho) (as : List AV) (vs : List Value) : Prop := vs.length = as.length ∧ ∀ (k : Nat) (u : AV) (v : Value), as[k]? = some u → vs[k]? = some v → VR μ ρ u v
theorem VRs.nil (μ : Mu) (ρ : Rho) : VRs μ ρ [] [] := ⟨rfl, fun k u v hu => by simp at hu⟩
theorem VRs.cons {μ : Mu} {ρ : Rho} {a : AV} {v : Value} {as : List AV} {vs : List Value} (h : VR μ ρ a v) (k : VRs μ ρ as vs) : VRs μ ρ (a :: as) (v :: vs) := by
  refine ⟨by simp [k.1], fun i u x hu hx => ?_⟩
  cases i with
  | zero => simp at hu hx; subst hu; subst hx; exact h
  | succ i => exact k.2 i u x (by simpa using hu) (by simpa using hx)
theorem VRs.mono {μ μ' : Mu} {ρ ρ' : Rho} (h : MuLe μ μ') (hr : RhoLe ρ ρ') {as : List AV} {vs : List Value} (k : VRs μ ρ as vs) : VRs μ' ρ' as vs :=
  ⟨k.1, fun i u x hu hx => (k.2 i u x hu hx).mono h hr⟩
theorem DRs.tail {μ : Mu} {a : AV} {v : Value} {as : List AV} {vs : List Value} (h : DRs μ (a :: as) (v :: vs)) : DR μ a v ∧ DRs μ as vs :=
  ⟨h.2 0 a v rfl rfl, by simpa using h.1, fun k u x hu hx => h.2 (k + 1) u x (by simpa using hu) (by simpa using hx)⟩
theorem DRs.b0s {μ : Mu} {hp : HF} : ∀ {as : List AV} {vs : List Value}, DRs μ as vs → B0s μ hp [] as vs
  | [], vs, h => by
    have : vs = [] := List.eq_nil_of_length_eq_zero (by rw [h.1]; rfl)
    subst this; exact .nil
  | a :: as, [], h => by have := h.1; simp at this
  | a :: as, v :: vs, h => .cons (F := []) (.d h.tail.1) (DRs.b0s h.tail.2)
theorem DRs.b1s {μ : Mu} {hp : HF} : ∀ {as : List AV} {vs : List Value}, DRs μ as vs → B1s μ hp [] [] as vs
  | [], vs, h => by
    have : vs = [] := List.eq_nil_of_length_eq_zero (by rw [h.1]; rfl)
    subst this; exact .nil
  | a :: as, [], h => by have := h.1; simp at this
  | a :: as, v :: vs, h => .cons (F := []) (G := []) (.c (.d h.tail.1)) (DRs.b1s h.tail.2)
section
variable {E : Env} {μ : Mu} {ρ ρ' ρ'' : Rho} {σ σ' σ'' : Store} {w : World} {F F' : List Nat} {G G' : List Value}
theorem imp1_app {c a : AV} {r : List AV} (h : imp1 σ c = some (a, σ', r)) : ∃ τ, σ' = σ ++ τ := by
  unfold imp1 at h
  split at h
  · split at h
    · cases h
    · rename_i x y hx
      simp only [Option.some.injEq, Prod.mk.injEq] at h
      obtain ⟨τ, e⟩ := impCs_app hx
      exact ⟨τ ++ _, by rw [← h.2.1, e, List.append_assoc]⟩
  · split at h
    · cases h
    · rename_i x y hx
      simp only [Option.some.injEq, Prod.mk.injEq] at h
      obtain ⟨τ, e⟩ := impC_app hx
      exact ⟨τ, by rw [← h.2.1, e]⟩
  · split at h
    · cases h
    · rename_i x y hx
      simp only [Option.some.injEq, Prod.mk.injEq] at h
      obtain ⟨τ, e⟩ := impC_app hx
      exact ⟨τ, by rw [← h.2.1, e]⟩
theorem imps_app : ∀ {cs as : List AV} {σ σ' : Store} {r : List AV}, imps σ cs = some (as, σ', r) → ∃ τ, σ' = σ ++ τ
  | [], as, σ, σ', r, h => by
    simp only [imps, Option.some.injEq, Prod.mk.injEq] at h
    exact ⟨[], by rw [List.append_nil, h.2.1]⟩
  | c :: cs, as, σ, σ', r, h => by
    rw [imps] at h
    split at h
    · cases h
    · rename_i x y r1 hx
      split at h
      · cases h
      · rename_i z t r2 hz
        simp only [Option.some.injEq, Prod.mk.injEq] at h
        obtain ⟨τ1, e1⟩ := imp1_app hx
        obtain ⟨τ2, e2⟩ := imps_app hz
        exact ⟨τ1 ++ τ2, by rw [← h.2.1, e2, e1, List.append_assoc]⟩
theorem imp_app {c a : AV} {r : List AV} (h : imp σ c = some (a, σ', r)) : ∃ τ, σ' = σ ++ τ := by
  unfold imp at h
  split at h
  · split at h
    · cases h
    · rename_i x y z hx
      simp only [Option.some.injEq, Prod.mk.injEq] at h
      rw [← h.2.1]; exact imps_app hx
  · split at h
    · cases h
    · rename_i x y z hx
      simp only [Option.some.injEq, Prod.mk.injEq] at h
      rw [← h.2.1]; exact imps_app hx
  · exact imp1_app h
theorem impArgs_app : ∀ {cs as : List AV} {σ σ' : Store} {r : List AV}, impArgs σ cs = some (as, σ', r) → ∃ τ, σ' = σ ++ τ
  | [], as, σ, σ', r, h => by
    simp only [impArgs, Option.some.injEq, Prod.mk.injEq] at h
    exact ⟨[], by rw [List.append_nil, h.2.1]⟩
  | c :: cs, as, σ, σ', r, h => by
    rw [impArgs] at h
    split at h
    · cases h
    · rename_i x y r1 hx
      split at h
      · cases h
      · rename_i z t r2 hz
        simp only [Option.some.injEq, Prod.mk.injEq] at h
        obtain ⟨τ1, e1⟩ := imp_app hx
        obtain ⟨τ2, e2⟩ := impArgs_app hz
        exact ⟨τ1 ++ τ2, by rw [← h.2.1, e2, e1, List.append_assoc]⟩
theorem imp1_sound {c a : AV} {v : Value} {r : List AV} {m : Nat} (hs : SR E μ ρ σ w) (hb : B1 μ (hf w) F G c v) (hF : Free E ρ σ F) (hfr : FreshTo ρ σ.length m) (h : imp1 σ c = some (a, σ', r)) (hm : σ'.length ≤ m) :
    ∃ ρ', Imp E μ ρ σ w F ρ' σ' ∧ CR μ ρ' a v ∧ CRs μ ρ' (r) G := by
  cases hb with
  | c h0 =>
    have : ∃ b, impC σ c = some (b, σ') ∧ a = b ∧ r = [] := by
      cases h0 with
      | d hd =>
        cases hd with
        | clo => cases h
        | _ => simp only [imp1, impC, Option.some.injEq, Prod.mk.injEq] at h ⊢; exact ⟨_, ⟨rfl, h.2.1⟩, h.1.symm, h.2.2.symm⟩
      | _ => simp only [imp1, impC, Option.some.injEq, Prod.mk.injEq] at h ⊢; exact ⟨_, ⟨rfl, h.2.1⟩, h.1.symm, h.2.2.symm⟩
    obtain ⟨b, h1, e1, e2⟩ := this
    subst e1; subst e2
    obtain ⟨ρ', i1, r1⟩ := impC_sound hs h0 hF hfr h1 hm
    exact ⟨ρ', i1, r1, CRs.nil⟩
  | row h0 _ =>
    simp only [imp1] at h
    split at h
    · cases h
    · rename_i b σ1 hx
      simp only [Option.some.injEq, Prod.mk.injEq] at h
      obtain ⟨e1, e2, e3⟩ := h
      subst e1; subst e2; subst e3
      obtain ⟨ρ', i1, r1⟩ := impC_sound hs h0 hF hfr hx hm
      exact ⟨ρ', i1, r1, CRs.cons r1 CRs.nil⟩
  | @ob b ty F cs cur h1 h2 h3 =>
    simp only [imp1] at h
    split at h
    · cases h
    · rename_i cs' σ1 hx
      simp only [Option.some.injEq, Prod.mk.injEq] at h
      obtain ⟨e1, e2, e3⟩ := h
      subst e1; subst e2; subst e3
      have hF' : Free E ρ σ F := Free.right (F := [b]) (μ := μ) (w := w) (ρ := ρ) (σ := σ) hF ⟨RhoLe.refl ρ, ⟨[], by simp⟩, fun _ _ h => .inl h, hs, fun _ h => .inl h⟩
      have hl1 : σ1.length < m := by simp at hm; omega
      obtain ⟨ρ1, i1, r1⟩ := impCs_sound hs h3 hF' hfr hx (by omega)
      have hlen := h3.len
      have hFb : Free E ρ1 σ1 [b] := by
        refine ⟨by simp, fun x hx ho => ?_, fun x hx => ?_⟩
        · simp at hx; subst hx
          rcases i1.own x ho with h4 | h4
          · exact hF.not x (by simp) h4
          · exact (List.nodup_cons.1 hF.nodup).1 h4
        · simp at hx; subst hx
          exact hF.may x (by simp)
      have i2 := Imp.add (F := [b]) i1.sr (i1.fresh hfr σ1.length (Nat.le_refl _) hl1) ⟨1, ty, cs.length, true, [cs']⟩ ⟨b, cur.size, cs.length, 1, false⟩ ⟨rfl, rfl, ?_, fun e => (by cases e), fun _ => ⟨rfl, ?_⟩, fun _ => ⟨cur, rfl, fun e => (by cases e), fun _ => ?_, .inl ⟨rfl, ⟨_, h1, .inl rfl⟩, h2⟩⟩⟩ rfl hFb (.inr (by simp))
      · have hp : CR μ (rhoAdd ρ1 σ1.length ⟨b, cur.size, cs.length, 1, false⟩) (.ptr σ1.length 0 0) (.pointer (some ⟨b, 0, none⟩)) := by
          have : CR μ (rhoAdd ρ1 σ1.length ⟨b, cur.size, cs.length, 1, false⟩) (.ptr σ1.length 0 0) (.pointer (some ⟨b, 0 * cs.length + 0, none⟩)) := .ptr (rhoAdd_same _ _ _) rfl
          simpa using this
        refine ⟨_, ?_, hp, CRs.cons hp CRs.nil⟩
        have := i1.trans i2
        refine ⟨this.rho, this.app, fun l rb hl => (this.dom l rb hl).imp id fun ⟨x, y, z⟩ => ⟨x, y, z.imp id fun h => ?_⟩, this.sr, fun x hx => (this.own x hx).imp id fun h => ?_⟩
        · simp at h ⊢; exact h.symm
        · simp at h ⊢; exact h.symm
      · show 1 * cs.length ≤ cur.size
        simp at hlen; omega
      · simpa using hlen
      · have hcs' : cs'.length = cs.length := by rw [← r1.1, hlen]
        refine ⟨fun e he => by simp at he; subst he; exact hcs', fun i e j c he hc => ?_⟩
        cases i with
        | succ i => simp at he
        | zero =>
          simp at he; subst he
          have hj : j < cs'.length := (List.getElem?_eq_some_iff.1 hc).1
          have hj' : j < cur.size := by rw [hcs'] at hj; simp at hlen; omega
          refine ⟨cur[j], by simp [hj'], (r1.2 j c _ hc (by simp [hj'])).mono (MuLe.refl μ) ?_⟩
          exact rhoAdd_le (fun r e => by rw [i1.fresh hfr σ1.length (Nat.le_refl _) hl1] at e; cases e)
theorem imps_sound : ∀ {cs as : List AV} {vs : List Value} {r : List AV} {F : List Nat} {G : List Value} {ρ : Rho} {σ σ' : Store} {m : Nat}, SR E μ ρ σ w → B1s μ (hf w) F G cs vs → Free E ρ σ F → FreshTo ρ σ.length m → imps σ cs = some (as, σ', r) → σ'.length ≤ m →
    ∃ ρ', Imp E μ ρ σ w F ρ' σ' ∧ CRs μ ρ' as vs ∧ CRs μ ρ' (r) G
  | [], as, vs, r, F, G, ρ, σ, σ', m, hs, hb, hF, hfr, h, hm => by
    cases hb
    simp only [imps, Option.some.injEq, Prod.mk.injEq] at h
    obtain ⟨e1, e2, e3⟩ := h
    subst e1; subst e2; subst e3
    exact ⟨ρ, .refl hs, CRs.nil, CRs.nil⟩
  | c :: cs, as, vs, r, F, G, ρ, σ, σ', m, hs, hb, hF, hfr, h, hm => by
    cases hb with
    | cons hb1 hb2 =>
      rw [imps] at h
      split at h
      · cases h
      · rename_i c' σ1 r1 h1
        split at h
        · cases h
        · rename_i cs' σ2 r2 h2
          simp only [Option.some.injEq, Prod.mk.injEq] at h
          obtain ⟨e1, e2, e3⟩ := h
          subst e1; subst e2; subst e3
          have hle : σ1.length ≤ σ2.length := app_len (imps_app h2)
          obtain ⟨ρ1, i1, a1, b1⟩ := imp1_sound hs hb1 hF.left hfr h1 (Nat.le_trans hle hm)
          obtain ⟨ρ2, i2, a2, b2⟩ := imps_sound i1.sr hb2 (hF.right i1) (i1.fresh hfr) h2 hm
          refine ⟨ρ2, i1.trans i2, CRs.cons (a1.mono (MuLe.refl μ) i2.rho) a2, ?_⟩
          exact (b1.mono (MuLe.refl μ) i2.rho).append b2
theorem imp_sound {c a : AV} {v : Value} {r : List AV} {m : Nat} (hs : SR E μ ρ σ w) (hb : B2 μ (hf w) F G c v) (hF : Free E ρ σ F) (hfr : FreshTo ρ σ.length m) (h : imp σ c = some (a, σ', r)) (hm : σ'.length ≤ m) :
    ∃ ρ', Imp E μ ρ σ w F ρ' σ' ∧ VR μ ρ' a v ∧ CRs μ ρ' (r) G := by
  cases hb with
  | o h1 =>
    have one : imp1 σ c = some (a, σ', r) → ∃ ρ', Imp E μ ρ σ w F ρ' σ' ∧ VR μ ρ' a v ∧ CRs μ ρ' (r) G := fun h => by
      obtain ⟨ρ', i, x, y⟩ := imp1_sound hs h1 hF hfr h hm
      exact ⟨ρ', i, .c x, y⟩
    cases h1 with
    | ob h2 h3 h4 => exact one h
    | row h2 _ => exact one h
    | c h2 =>
      cases h2 with
      | ow h3 h4 h5 h6 h7 => exact one h
      | own => exact one h
      | d hd =>
        cases hd with
        | clo e1 e2 e3 e4 =>
          simp only [imp] at h
          split at h
          · cases h
          · rename_i bs σ1 r1 hx
            simp only [Option.some.injEq, Prod.mk.injEq] at h
            obtain ⟨x1, x2, x3⟩ := h
            subst x1; subst x2; subst x3
            obtain ⟨ρ', i, x, y⟩ := imps_sound hs (DRs.b1s ⟨e2, e4⟩) hF hfr hx hm
            exact ⟨ρ', i, .c (.clo e1 x.1 (fun k u v hu hv => .d (e3 k u v hu hv)) x.2), y⟩
        | _ => exact one h
  | agg h1 =>
    simp only [imp] at h
    split at h
    · cases h
    · rename_i bs σ1 r1 hx
      simp only [Option.some.injEq, Prod.mk.injEq] at h
      obtain ⟨x1, x2, x3⟩ := h
      subst x1; subst x2; subst x3
      obtain ⟨ρ', i, x, y⟩ := imps_sound hs h1 hF hfr hx hm
      exact ⟨ρ', i, .agg x, y⟩
  | clo e1 h1 =>
    simp only [imp] at h
    split at h
    · cases h
    · rename_i bs σ1 r1 hx
      simp only [Option.some.injEq, Prod.mk.injEq] at h
      obtain ⟨x1, x2, x3⟩ := h
      subst x1; subst x2; subst x3
      obtain ⟨ρ', i, x, y⟩ := imps_sound hs h1 hF hfr hx hm
      exact ⟨ρ', i, .c (.clo e1.1 x.1 (fun k u v hu hv => .d (e1.2 k u v hu hv)) x.2), y⟩
theorem impArgs_sound : ∀ {cs as : List AV} {vs : List Value} {r : List AV} {F : List Nat} {G : List Value} {ρ : Rho} {σ σ' : Store} {m : Nat}, SR E μ ρ σ w → B2s μ (hf w) F G cs vs → Free E ρ σ F → FreshTo ρ σ.length m → impArgs σ cs = some (as, σ', r) → σ'.length ≤ m →
    ∃ ρ', Imp E μ ρ σ w F ρ' σ' ∧ VRs μ ρ' as vs ∧ CRs μ ρ' (r) G
  | [], as, vs, r, F, G, ρ, σ, σ', m, hs, hb, hF, hfr, h, hm => by
    cases hb
    simp only [impArgs, Option.some.injEq, Prod.mk.injEq] at h
    obtain ⟨e1, e2, e3⟩ := h
    subst e1; subst e2; subst e3
    exact ⟨ρ, .refl hs, VRs.nil _ _, CRs.nil⟩
  | c :: cs, as, vs, r, F, G, ρ, σ, σ', m, hs, hb, hF, hfr, h, hm => by
    cases hb with
    | cons hb1 hb2 =>
      rw [impArgs] at h
      split at h
      · cases h
      · rename_i c' σ1 r1 h1
        split at h
        · cases h
        · rename_i cs' σ2 r2 h2
          simp only [Option.some.injEq, Prod.mk.injEq] at h
          obtain ⟨e1, e2, e3⟩ := h
          subst e1; subst e2; subst e3
          have hle : σ1.length ≤ σ2.length := app_len (impArgs_app h2)
          obtain ⟨ρ1, i1, a1, b1⟩ := imp_sound hs hb1 hF.left hfr h1 (Nat.le_trans hle hm)
          obtain ⟨ρ2, i2, a2, b2⟩ := impArgs_sound i1.sr hb2 (hF.right i1) (i1.fresh hfr) h2 hm
          refine ⟨ρ2, i1.trans i2, VRs.cons (a1.mono (MuLe.refl μ) i2.rho) a2, ?_⟩
          exact (b1.mono (MuLe.refl μ) i2.rho).append b2
end
end Go.Ev
namespace Go.Ev
variable [Gl]
section
variable {E : Env} {μ : Mu} {ρ : Rho} {σ : Store} {w : World}
theorem own_set {l : Nat} {k k' : Blk} (hk : σ[l]? = some k) (h : k'.mode = 1 → k.mode = 1) {b : Nat} (ho : Own (σ.set l k') ρ b) : Own σ ρ b := by
  obtain ⟨m, rb, k1, h1, h2, h3, h4, h5⟩ := ho
  rcases get_set h2 with ⟨e1, e2⟩ | ⟨_, h2⟩
  · subst e1; subst e2
    exact ⟨m, rb, k, h1, hk, h h3, h4, h5⟩
  · exact ⟨m, rb, k1, h1, h2, h3, h4, h5⟩
theorem frz_soundX (hs : SR E μ ρ σ w) {c c' : AV} {σ' : Store} {v : Value} (hv : CR μ ρ c v) (h : frz σ c = some (c', σ')) :
    ∃ μ', MuLe μ μ' ∧ SR E μ' ρ σ' w ∧ DR μ' c' v ∧ σ'.length = σ.length ∧ (∀ b o, μ' b = some o → μ b = some o ∨ Own σ ρ b) ∧ ∀ b, Own σ' ρ b → Own σ ρ b := by
  have same : ∀ {x : AV}, CR μ ρ x v → (c', σ') = (x, σ) → DR μ x v → ∃ μ', MuLe μ μ' ∧ SR E μ' ρ σ' w ∧ DR μ' c' v ∧ σ'.length = σ.length ∧ (∀ b o, μ' b = some o → μ b = some o ∨ Own σ ρ b) ∧ ∀ b, Own σ' ρ b → Own σ ρ b := fun _ e hd => by
    simp only [Prod.mk.injEq] at e
    obtain ⟨h1, h2⟩ := e; subst h1; subst h2
    exact ⟨μ, MuLe.refl μ, hs, hd, rfl, fun _ _ h => .inl h, fun _ h => h⟩
  unfold frz at h
  split at h
  · injection h with h
    cases hv with
    | d hx => exact same (.d hx) h.symm hx
  · injection h with h
    cases hv with
    | d hx => exact same (.d hx) h.symm hx
  · rename_i n l off cut
    split at h
    · cases h
    · rename_i b hb
      cases hc : (Nat.beq b.mode 0 || b.obj) with
      | true => rw [hc] at h; cases h
      | false =>
        rw [hc] at h
        simp only [cond] at h
        injection h with h; injection h with h1 h2; subst h1; subst h2
        simp only [Bool.or_eq_false_iff] at hc
        have hm : b.mode ≠ 0 := fun e => by rw [e] at hc; exact absurd hc.1 (by decide)
        have hrb : ∃ rb, ρ l = some rb := by
          cases hv with
          | d hx => cases hx
          | sl hl => exact ⟨_, hl⟩
          | sln hl => exact ⟨_, hl⟩
        obtain ⟨rb, hl⟩ := hrb
        obtain ⟨μ', hle, hs', hinfo⟩ := hs.freezeX hl hb hm
        have hlt : l < σ.length := (List.getElem?_eq_some_iff.1 hb).1
        obtain ⟨_, _, _, _, _, hd⟩ := (hv.mono hle (RhoLe.refl ρ)).slView hs' (k := { b with mode := 2 }) (by rw [List.getElem?_set_self hlt]) (by simp) hc.2
        exact ⟨μ', hle, hs', hd rfl, by simp, fun x o hx => (hinfo x o hx).imp id fun ⟨e1, e2, e3⟩ => ⟨l, rb, b, hl, hb, e1, e2, e3.symm⟩, fun x hx => own_set hb (fun e => by cases e) hx⟩
  · cases h
theorem frzL_soundX : ∀ {cs : List AV} {vs : List Value} {cs' : List AV} {σ σ' : Store} {μ : Mu}, SR E μ ρ σ w → CRs μ ρ cs vs → frzL σ cs = some (cs', σ') →
    ∃ μ', MuLe μ μ' ∧ SR E μ' ρ σ' w ∧ DRs μ' cs' vs ∧ σ'.length = σ.length ∧ (∀ b o, μ' b = some o → μ b = some o ∨ Own σ ρ b) ∧ ∀ b, Own σ' ρ b → Own σ ρ b
  | [], vs, cs', σ, σ', μ, hs, hv, h => by
    simp only [frzL, Option.some.injEq, Prod.mk.injEq] at h
    obtain ⟨h1, h2⟩ := h; subst h1; subst h2
    exact ⟨μ, MuLe.refl μ, hs, ⟨hv.1, fun k u v hu => by simp at hu⟩, rfl, fun _ _ h => .inl h, fun _ h => h⟩
  | c :: cs, [], cs', σ, σ', μ, hs, hv, h => by have := hv.1; simp at this
  | c :: cs, v :: vs, cs', σ, σ', μ, hs, hv, h => by
    rw [frzL] at h
    split at h
    · cases h
    · rename_i c1 σ1 h1
      split at h
      · cases h
      · rename_i cs1 σ2 h2
        simp only [Option.some.injEq, Prod.mk.injEq] at h
        obtain ⟨e1, e2⟩ := h; subst e1; subst e2
        obtain ⟨μ1, a1, a2, a3, a4, a5, a6⟩ := frz_soundX hs (hv.2 0 c v rfl rfl) h1
        have hvt : CRs μ ρ cs vs := ⟨by simpa using hv.1, fun k u x hu hx => hv.2 (k + 1) u x (by simpa using hu) (by simpa using hx)⟩
        obtain ⟨μ2, b1, b2, b3, b4, b5, b6⟩ := frzL_soundX a2 (hvt.mono a1 (RhoLe.refl ρ)) h2
        refine ⟨μ2, a1.trans b1, b2, ⟨by simp [b3.1], fun k u x hu hx => ?_⟩, b4.trans a4, fun b o hb => ?_, fun b hb => a6 b (b6 b hb)⟩
        · cases k with
          | zero => simp at hu hx; subst hu; subst hx; exact a3.mono b1
          | succ k => exact b3.2 k u x (by simpa using hu) (by simpa using hx)
        · rcases b5 b o hb with h3 | h3
          · exact a5 b o h3
          · exact .inr (a6 b h3)
theorem SR.nowhere (h : SR E μ ρ σ w) {l : Nat} (k' : Blk) (hl : ρ l = none) : SR E μ ρ (σ.set l k') w := by
  have hg : ∀ m rb k, ρ m = some rb → (σ.set l k')[m]? = some k → σ[m]? = some k := fun m rb k hm hk => by
    rcases get_set hk with ⟨e, _⟩ | ⟨_, hk⟩
    · subst e; rw [hl] at hm; cases hm
    · exact hk
  exact ⟨fun m rb k hm hk => h.blk m rb k hm (hg m rb k hm hk), fun m m' rb rb' k k2 hm hm' hk hk' => h.inj m m' rb rb' k k2 hm hm' (hg _ _ _ hm hk) (hg _ _ _ hm' hk'), fun m rb k hm hk => h.ownD m rb k hm (hg _ _ _ hm hk), h.imm, h.base⟩
theorem freezeAll_get : ∀ (L : List Nat) (σ : Store) (l : Nat), (freezeAll σ L).length = σ.length ∧ ((freezeAll σ L)[l]? = σ[l]? ∨ ∃ k, σ[l]? = some k ∧ k.mode ≠ 0 ∧ (freezeAll σ L)[l]? = some { k with mode := 2 })
  | [], σ, l => ⟨rfl, .inl rfl⟩
  | m :: L, σ, l => by
    rw [freezeAll]
    cases hm : σ[m]? with
    | none => exact freezeAll_get L σ l
    | some k =>
      simp only
      cases h0 : Nat.beq k.mode 0 with
      | true => exact freezeAll_get L σ l
      | false =>
        simp only [cond_false]
        obtain ⟨h1, h2⟩ := freezeAll_get L (σ.set m { k with mode := 2 }) l
        refine ⟨by rw [h1]; simp, ?_⟩
        have hk0 : k.mode ≠ 0 := fun e => by rw [e] at h0; cases h0
        by_cases e : m = l
        · subst e
          have hlt := (List.getElem?_eq_some_iff.1 hm).1
          rw [List.getElem?_set_self hlt] at h2
          refine .inr ⟨k, hm, hk0, ?_⟩
          rcases h2 with h2 | ⟨k1, h2, _, h3⟩
          · exact h2
          · injection h2 with h2; subst h2; exact h3
        · rw [List.getElem?_set_ne e] at h2
          exact h2
theorem freezeAll_in : ∀ (L : List Nat) (σ : Store) (l : Nat) (k : Blk), l ∈ L → σ[l]? = some k → k.mode ≠ 0 → (freezeAll σ L)[l]? = some { k with mode := 2 }
  | [], _, _, _, h, _, _ => by cases h
  | m :: L, σ, l, k, h, hk, hm => by
    rw [freezeAll]
    by_cases e : m = l
    · subst e
      simp only [hk, nbeq_false hm, cond_false]
      have hlt := (List.getElem?_eq_some_iff.1 hk).1
      obtain ⟨_, h2⟩ := freezeAll_get L (σ.set m { k with mode := 2 }) m
      rw [List.getElem?_set_self hlt] at h2
      rcases h2 with h2 | ⟨k1, h2, _, h3⟩
      · exact h2
      · injection h2 with h2; subst h2; exact h3
    · have hl : l ∈ L := by
        rcases List.mem_cons.1 h with h | h
        · exact absurd h.symm e
        · exact h
      cases hm' : σ[m]? with
      | none => exact freezeAll_in L σ l k hl hk hm
      | some k1 =>
        simp only
        cases h0 : Nat.beq k1.mode 0 with
        | true => exact freezeAll_in L σ l k hl hk hm
        | false => exact freezeAll_in L _ l k hl (by rw [cond_false, List.getElem?_set_ne e]; exact hk) hm
theorem freezeAll_sound : ∀ (L : List Nat) {σ : Store} {μ : Mu}, SR E μ ρ σ w → ∃ μ', MuLe μ μ' ∧ SR E μ' ρ (freezeAll σ L) w ∧ (∀ b o, μ' b = some o → μ b = some o ∨ ∃ l ∈ L, ∃ rb k, ρ l = some rb ∧ σ[l]? = some k ∧ k.mode = 1 ∧ rb.ph = false ∧ rb.b = b) ∧ ∀ b, Own (freezeAll σ L) ρ b → Own σ ρ b
  | [], σ, μ, h => ⟨μ, MuLe.refl μ, h, fun _ _ h => .inl h, fun _ h => h⟩
  | m :: L, σ, μ, h => by
    rw [freezeAll]
    cases hm : σ[m]? with
    | none =>
      obtain ⟨μ', h1, h2, h3, h4⟩ := freezeAll_sound L h
      exact ⟨μ', h1, h2, fun b o hb => (h3 b o hb).imp id fun ⟨l, hl, r⟩ => ⟨l, by simp [hl], r⟩, h4⟩
    | some k =>
      simp only
      cases h0 : Nat.beq k.mode 0 with
      | true =>
        obtain ⟨μ', h1, h2, h3, h4⟩ := freezeAll_sound L h
        exact ⟨μ', h1, h2, fun b o hb => (h3 b o hb).imp id fun ⟨l, hl, r⟩ => ⟨l, by simp [hl], r⟩, h4⟩
      | false =>
        simp only [cond_false]
        have hk0 : k.mode ≠ 0 := fun e => by rw [e] at h0; cases h0
        have hstep : ∃ μ1, MuLe μ μ1 ∧ SR E μ1 ρ (σ.set m { k with mode := 2 }) w ∧ ∀ b o, μ1 b = some o → μ b = some o ∨ ∃ rb, ρ m = some rb ∧ k.mode = 1 ∧ rb.ph = false ∧ b = rb.b := by
          cases hr : ρ m with
          | none => exact ⟨μ, MuLe.refl μ, h.nowhere _ hr, fun _ _ h => .inl h⟩
          | some rb =>
            obtain ⟨μ1, a1, a2, a3⟩ := h.freezeX hr hm hk0
            exact ⟨μ1, a1, a2, fun b o hb => (a3 b o hb).imp id fun h => ⟨rb, rfl, h⟩⟩
        obtain ⟨μ1, a1, a2, a3⟩ := hstep
        obtain ⟨μ', h1, h2, h3, h4⟩ := freezeAll_sound L a2
        refine ⟨μ', a1.trans h1, h2, fun b o hb => ?_, fun b hb => own_set hm (fun e => by cases e) (h4 b hb)⟩
        rcases h3 b o hb with h5 | ⟨l, hl, rb, k1, e1, e2, e3, e4, e5⟩
        · rcases a3 b o h5 with h6 | ⟨rb, e1, e2, e3, e4⟩
          · exact .inl h6
          · exact .inr ⟨m, by simp, rb, k, e1, hm, e2, e3, e4.symm⟩
        · rcases get_set e2 with ⟨_, e⟩ | ⟨_, e⟩
          · subst e; cases e3
          · exact .inr ⟨l, by simp [hl], rb, k1, e1, e, e3, e4, e5⟩
end
theorem mapM_some {α β : Type} {f : α → Option β} : ∀ {l : List α} {r : List β}, l.mapM f = some r → r.length = l.length ∧ ∀ (k : Nat) (y : β), r[k]? = some y → ∃ x, l[k]? = some x ∧ f x = some y
  | [], r, h => by
    simp at h; subst h
    exact ⟨rfl, fun k y hy => by simp at hy⟩
  | x :: l, r, h => by
    rw [List.mapM_cons] at h
    simp only [Option.bind_eq_bind, Option.bind_eq_some_iff, Option.pure_def, Option.some.injEq] at h
    obtain ⟨y, h1, ys, h2, h3⟩ := h
    subst h3
    obtain ⟨h4, h5⟩ := mapM_some h2
    refine ⟨by simp [h4], fun k z hz => ?_⟩
    cases k with
    | zero => simp at hz; subst hz; exact ⟨x, rfl, h1⟩
    | succ k => simpa using h5 k z (by simpa using hz)
theorem flat_sub {L : List Nat} {f : AV → List Nat} {cs : List AV} (h : ∀ l ∈ cs.flatMap f, l ∈ L) {k : Nat} {c : AV} (hc : cs[k]? = some c) : ∀ l ∈ f c, l ∈ L := fun l hl => h l (List.mem_flatMap.2 ⟨c, List.mem_of_getElem? hc, hl⟩)
section
variable {E : Env} {μ : Mu} {ρ : Rho} {σ σf : Store} {w : World} {L : List Nat}
theorem expN_dr (hs : SR E μ ρ σf w) (hL : ∀ l ∈ L, ∀ k, σ[l]? = some k → k.mode ≠ 0 → σf[l]? = some { k with mode := 2 }) : ∀ (n m : Nat) {a b : AV} {v : Value}, n ≤ m → CR μ ρ a v → expN σ n a = some b → (∀ l ∈ refsN σ m a, l ∈ L) → DR μ b v
  | 0, _, _, _, _, _, _, h, _ => by cases h
  | n + 1, 0, _, _, _, hnm, _, _, _ => by omega
  | n + 1, m + 1, a, b, v, hnm, hv, h, hr => by
    have hlist : ∀ (l r : List AV) (ws : List Value), l.mapM (expN σ n) = some r → ws.length = l.length → (∀ (k : Nat) (u : AV) (v : Value), l[k]? = some u → ws[k]? = some v → CR μ ρ u v) → (∀ x ∈ l.flatMap (refsN σ m), x ∈ L) →
        r.length = l.length ∧ ∀ (k : Nat) (u : AV) (v : Value), r[k]? = some u → ws[k]? = some v → DR μ u v := fun l r ws hm h1 h2 h3 => by
      obtain ⟨e1, e2⟩ := mapM_some hm
      refine ⟨e1, fun k u v hu hv => ?_⟩
      obtain ⟨x, hx, hf⟩ := e2 k u hu
      exact expN_dr hs hL n m (by omega) (h2 k x v hx hv) hf (flat_sub h3 hx)
    cases hv with
    | d hd =>
      cases hd with
      | v hx =>
        simp only [expN, hx, cond_true, Option.some.injEq] at h
        subst h; exact .v hx
      | lst vals h1 h2 h3 h4 h5 h6 =>
        simp only [expN, Option.some.injEq] at h
        subst h; exact .lst vals h1 h2 h3 h4 h5 h6
      | ep vals h1 h2 =>
        simp only [expN, Option.some.injEq] at h
        subst h; exact .ep vals h1 h2
      | clo h1 h2 h3 h4 =>
        simp only [expN] at h
        split at h
        · rename_i x y hx hy
          injection h with h; subst h
          simp only [refsN, List.mem_append] at hr
          obtain ⟨a1, a2⟩ := hlist _ _ _ hx h1 (fun k u v hu hv => .d (h3 k u v hu hv)) (fun l hl => hr l (.inl hl))
          obtain ⟨b1, b2⟩ := hlist _ _ _ hy h2 (fun k u v hu hv => .d (h4 k u v hu hv)) (fun l hl => hr l (.inr hl))
          exact .clo (h1.trans a1.symm) (h2.trans b1.symm) a2 b2
        · cases h
    | @ptr l i j rb h1 h2 =>
      simp only [expN] at h
      split at h
      · cases h
      · rename_i k hk
        cases h0 : Nat.beq k.mode 0 with
        | true => rw [h0] at h; cases h
        | false =>
          have hm0 : k.mode ≠ 0 := fun e => by rw [e] at h0; cases h0
          rw [h0] at h
          simp only [cond_false] at h
          have hlL : l ∈ L := hr l (by simp only [refsN, hk]; cases k.obj <;> simp)
          have hf := hL l hlL k hk hm0
          have hb := hs.blk l rb _ h1 hf (by simp)
          obtain ⟨cur, hc⟩ := hb.live h2
          obtain ⟨ty, fz, hmu⟩ : ∃ ty fz, μ rb.b = some (.cells cur ty fz) := by
            rcases hc.at_ with ⟨e, _⟩ | ⟨_, h⟩
            · simp at e
            · exact h
          cases ho : k.obj with
          | true =>
            rw [ho] at h
            simp only [cond_true] at h
            rcases cond_or h with ⟨hi, h⟩ | ⟨_, h⟩
            · have hi := Nat.eq_of_beq_eq_true hi
              subst hi
              split at h
              · cases h
              · rename_i cs hcs
                injection h with h; subst h
                obtain ⟨x, hx⟩ := List.length_eq_one_iff.1 (hb.one ho).1
                have hlx : lget k.xs 0 = x := by
                  have : k.xs = [x] := hx
                  rw [this]; rfl
                rw [hlx] at hcs
                have hrow := hc.rowO ho
                have hx' : k.xs = [x] := hx
                simp only [hx'] at hrow
                have hxl : x.length = cur.size := by rw [hrow.1 x (by simp), hc.size, (hb.one ho).2]
                obtain ⟨a1, a2⟩ := hlist x cs cur.toList hcs (by simp [hxl]) (fun j u v hu hv => by
                  obtain ⟨y, h3, h4⟩ := hrow.2 0 x j u rfl hu
                  rw [Nat.zero_mul, Nat.zero_add] at h3
                  rw [Array.getElem?_toList, h3] at hv
                  injection hv with hv; subst hv; exact h4) (fun y hy => hr y (by simp only [refsN, hk, ho, cond_true, hlx]; exact List.mem_cons_of_mem _ hy))
                have : DR μ (.ep cs j) (.pointer (some ⟨rb.b, 0 + j, none⟩)) := by
                  refine .ep (fun q => (cur[q]?).getD undef) (fun q hq => ?_) (fun q u hu => ?_)
                  · have hq' : q < cur.size := by rw [a1, hxl] at hq; exact hq
                    rw [muCell_at hmu, Nat.zero_add, Array.getElem?_eq_getElem hq']; rfl
                  · have hq : q < cs.length := (List.getElem?_eq_some_iff.1 hu).1
                    have hq' : q < cur.size := by rw [a1, hxl] at hq; exact hq
                    exact a2 q u _ hu (by rw [Array.getElem?_toList, Array.getElem?_eq_getElem hq']; rfl)
                simpa using this
            · cases h
          | false =>
            rw [ho] at h
            simp only [cond_false] at h
            rcases cond_or h with ⟨h1, h⟩ | ⟨_, h⟩
            · simp only [Option.some.injEq] at h
              subst h
              have hrow := hc.rowD ho
              have hsz : rb.sz = 1 := hb.sz.trans (Nat.eq_of_beq_eq_true h1)
              rw [hsz] at hrow
              have hfl : ∀ (xs : List (List AV)), (∀ e ∈ xs, e.length = 1) → ∀ (q : Nat) (u : AV), xs.flatten[q]? = some u → ∃ e : List AV, xs[q]? = some e ∧ e[0]? = some u := by
                intro xs
                induction xs with
                | nil => intro _ q u hu; simp at hu
                | cons e xs ih =>
                  intro he q u hu
                  rw [List.flatten_cons] at hu
                  have h1 := he e (by simp)
                  cases q with
                  | zero =>
                    rw [List.getElem?_append_left (by omega)] at hu
                    exact ⟨e, rfl, hu⟩
                  | succ q =>
                    rw [List.getElem?_append_right (by omega), h1] at hu
                    exact ih (fun e he' => he e (by simp [he'])) q u (by simpa using hu)
              have : DR μ (.ep k.xs.flatten (i + j)) (.pointer (some ⟨rb.b, 0 + (i + j), none⟩)) := by
                refine .ep (fun q => (cur[q]?).getD undef) (fun q hq => ?_) (fun q u hu => ?_)
                · obtain ⟨e, he, hu⟩ := hfl _ hrow.1 q _ (List.getElem?_eq_getElem hq)
                  obtain ⟨y, h3, h4⟩ := hrow.2 q e 0 _ he hu
                  rw [Nat.mul_one, Nat.add_zero] at h3
                  rw [muCell_at hmu, Nat.zero_add, h3]; rfl
                · obtain ⟨e, he, hu'⟩ := hfl _ hrow.1 q _ hu
                  obtain ⟨y, h3, h4⟩ := hrow.2 q e 0 _ he hu'
                  rw [Nat.mul_one, Nat.add_zero] at h3
                  rw [h3]; exact h4
              rw [hsz, Nat.mul_one]
              simpa using this
            simp only [Option.some.injEq] at h
            subst h
            have hrow := hc.rowD ho
            refine .ep (fun q => (cur[i * rb.sz + q]?).getD undef) (fun q hq => ?_) (fun q u hu => ?_)
            · have hi : k.xs[i]? = some (lget k.xs i) := by
                unfold lget at hq ⊢
                cases e : k.xs[i]? with
                | none => simp [List.getD_eq_getElem?_getD, e] at hq
                | some x => simp [List.getD_eq_getElem?_getD, e]
              obtain ⟨y, h3, h4⟩ := hrow.2 i _ q _ hi (List.getElem?_eq_getElem hq)
              rw [muCell_at hmu, h3]; rfl
            · have hq : q < (lget k.xs i).length := (List.getElem?_eq_some_iff.1 hu).1
              have hi : k.xs[i]? = some (lget k.xs i) := by
                unfold lget at hq ⊢
                cases e : k.xs[i]? with
                | none => simp [List.getD_eq_getElem?_getD, e] at hq
                | some x => simp [List.getD_eq_getElem?_getD, e]
              obtain ⟨y, h3, h4⟩ := hrow.2 i _ q _ hi hu
              rw [h3]; exact h4
    | px => simp only [expN] at h; cases h
    | un => simp only [expN] at h; cases h
    | clo h1 h2 h3 h4 =>
      simp only [expN] at h
      split at h
      · rename_i x y hx hy
        injection h with h; subst h
        simp only [refsN, List.mem_append] at hr
        obtain ⟨a1, a2⟩ := hlist _ _ _ hx h1 h3 (fun l hl => hr l (.inl hl))
        obtain ⟨b1, b2⟩ := hlist _ _ _ hy h2 h4 (fun l hl => hr l (.inr hl))
        exact .clo (h1.trans a1.symm) (h2.trans b1.symm) a2 b2
      · cases h
    | @sl l off cut rb x len cap e1 e2 e3 e4 e5 e6 e7 =>
      have hvv : CR μ ρ (.sl false l off cut) (.slice (some x) len cap) := .sl e1 e2 e3 e4 e5 e6 e7
      simp only [expN] at h
      split at h
      · cases h
      · rename_i k hk
        cases h0 : (Nat.beq k.mode 0 || k.obj) with
        | true => rw [h0] at h; cases h
        | false =>
          rw [h0] at h
          simp only [cond_false, Option.some.injEq] at h
          subst h
          obtain ⟨hm0, ho⟩ := blk_mode h0
          have hf := hL l (hr l (by simp [refsN])) k hk hm0
          obtain ⟨_, _, _, _, _, hd⟩ := hvv.slView hs hf (by simp) ho
          exact hd rfl
    | @sln l off cut rb e1 e2 e3 e4 =>
      have hvv : CR μ ρ (.sl true l off cut) (.slice none 0 0) := .sln e1 e2 e3 e4
      simp only [expN] at h
      split at h
      · cases h
      · rename_i k hk
        cases h0 : (Nat.beq k.mode 0 || k.obj) with
        | true => rw [h0] at h; cases h
        | false =>
          rw [h0] at h
          simp only [cond_false, Option.some.injEq] at h
          subst h
          obtain ⟨hm0, ho⟩ := blk_mode h0
          have hf := hL l (hr l (by simp [refsN])) k hk hm0
          obtain ⟨_, _, _, _, _, hd⟩ := hvv.slView hs hf (by simp) ho
          exact hd rfl
theorem expD_b2 (hs : SR E μ ρ σf w) (hL : ∀ l ∈ L, ∀ k, σ[l]? = some k → k.mode ≠ 0 → σf[l]? = some { k with mode := 2 }) {a b : AV} {v : Value} (hv : VR μ ρ a v) (h : expD σ a = some b) (hr : ∀ l ∈ refs σ a, l ∈ L) (hp : HF) : B2 μ hp [] [] b v := by
  unfold expD at h
  unfold refs at hr
  cases hv with
  | c hx => exact .o (.c (.d (expN_dr hs hL 4 5 (by omega) hx h hr)))
  | @agg cs vs hx =>
    simp only [expN] at h
    split at h
    · cases h
    · rename_i cs' hm
      injection h with h; subst h
      obtain ⟨e1, e2⟩ := mapM_some hm
      refine .agg (DRs.b1s ⟨by rw [hx.1, e1], fun k u v hu hv => ?_⟩)
      obtain ⟨x, hx1, hf⟩ := e2 k u hu
      exact expN_dr hs hL 3 4 (by omega) (hx.2 k x v hx1 hv) hf (flat_sub (by simpa only [refsN] using hr) hx1)
  | tup => simp only [expN] at h; cases h
  | un => simp only [expN] at h; cases h
  | sk => simp only [expN, okC, cond_false] at h; cases h
end
end Go.Ev
namespace Go.Ev
variable [Gl]
structure Exp (E : Env) (μ : Mu) (ρ : Rho) (σ : Store) (w : World) (F : List Nat) (σ' : Store) : Prop where
  sr : SR E μ ρ σ' w
  nodup : F.Nodup
  own : ∀ b ∈ F, Own σ ρ b ∧ ¬ Own σ' ρ b
  sub : ∀ b, Own σ' ρ b → Own σ ρ b
  len : σ'.length = σ.length
  blk : ∀ (l : Nat) (k' : Blk), σ'[l]? = some k' → ∃ k : Blk, σ[l]? = some k ∧ (k' = k ∨ k' = { k with mode := 0 })
def RootK (rb : RB) (k : Blk) (g : Value) (o : Nat × List AV) : Prop :=
  (k.obj = true ∧ rb.sz = k.sz ∧ rb.n = 1 ∧ rb.csz = rb.sz ∧ g = .pointer (some ⟨rb.b, 0, none⟩) ∧ k.ty = o.1 ∧ o.2.length = rb.sz ∧ rowT o.2 = none) ∨
  (k.obj = false ∧ rb.sz = k.sz ∧ rb.n = k.xs.length ∧ rb.n * rb.sz ≤ rb.csz ∧ (∃ cap, rb.n ≤ cap ∧ cap * rb.sz = rb.csz ∧ g = .slice (some ⟨rb.b, 0, none⟩) rb.n cap) ∧ rowT o.2 = some (k.ty, k.sz) ∧ rowLen o.2 = k.xs.length)
def RootR (σ : Store) (ρ : Rho) (F : List Nat) (l : Nat) (g : Value) (o : Nat × List AV) : Prop :=
  ∃ rb k, ρ l = some rb ∧ rb.ph = false ∧ σ[l]? = some k ∧ k.mode = 0 ∧ rb.b ∈ F ∧ RootK rb k g o
inductive Roots (σ : Store) (ρ : Rho) (F : List Nat) : List Nat → List Value → List (Nat × List AV) → Prop
  | nil : Roots σ ρ F [] [] []
  | cons {l : Nat} {g : Value} {o : Nat × List AV} {ls : List Nat} {gs : List Value} {os : List (Nat × List AV)} (h : RootR σ ρ F l g o) (k : Roots σ ρ F ls gs os) : Roots σ ρ F (l :: ls) (g :: gs) (o :: os)
def obF : AV → Option (Nat × List AV)
  | .ob ty cs => some (ty, cs)
  | _ => none
section
variable {E : Env} {μ : Mu} {ρ : Rho} {σ σ' σ'' : Store} {w : World} {F F' : List Nat} {G : List Value}
theorem Exp.refl (h : SR E μ ρ σ w) : Exp E μ ρ σ w [] σ := ⟨h, List.nodup_nil, fun b hb => (by cases hb), fun _ h => h, rfl, fun l k' hk => ⟨k', hk, .inl rfl⟩⟩
theorem Exp.trans (h : Exp E μ ρ σ w F σ') (k : Exp E μ ρ σ' w F' σ'') : Exp E μ ρ σ w (F ++ F') σ'' := by
  refine ⟨k.sr, List.nodup_append.2 ⟨h.nodup, k.nodup, fun a ha b hb e => ?_⟩, fun b hb => ?_, fun b hb => h.sub b (k.sub b hb), k.len.trans h.len, fun l k' hk => ?_⟩
  · subst e
    exact (h.own a ha).2 (k.own a hb).1
  · rcases List.mem_append.1 hb with hb | hb
    · exact ⟨(h.own b hb).1, fun ho => (h.own b hb).2 (k.sub b ho)⟩
    · exact ⟨h.sub b (k.own b hb).1, (k.own b hb).2⟩
  · obtain ⟨k1, h1, h2⟩ := k.blk l k' hk
    obtain ⟨k0, h3, h4⟩ := h.blk l k1 h1
    refine ⟨k0, h3, ?_⟩
    rcases h2 with h2 | h2 <;> rcases h4 with h4 | h4
    · exact .inl (h2.trans h4)
    · exact .inr (h2.trans h4)
    · exact .inr (by rw [h2, h4])
    · exact .inr (by rw [h2, h4])
theorem RootR.mono {l : Nat} {g : Value} {o : Nat × List AV} (h : RootR σ ρ F l g o) (k : Exp E μ ρ σ w F' σ') {F'' : List Nat} (hF : ∀ b ∈ F, b ∈ F'') : RootR σ' ρ F'' l g o := by
  obtain ⟨rb, kk, h1, h2, h3, h4, h9, h10⟩ := h
  have hlt : l < σ'.length := by rw [k.len]; exact (List.getElem?_eq_some_iff.1 h3).1
  obtain ⟨k0, e1, e2⟩ := k.blk l _ (List.getElem?_eq_getElem hlt)
  rw [h3] at e1; injection e1 with e1; subst e1
  have hk : σ'[l]? = some kk := by
    rw [List.getElem?_eq_getElem hlt]
    rcases e2 with e2 | e2
    · rw [e2]
    · rw [e2]; cases kk; simp at h4; subst h4; rfl
  exact ⟨rb, kk, h1, h2, hk, h4, hF _ h9, h10⟩
theorem Roots.mono {ls : List Nat} {gs : List Value} {os : List (Nat × List AV)} (h : Roots σ ρ F ls gs os) (k : Exp E μ ρ σ w F' σ') {F'' : List Nat} (hF : ∀ b ∈ F, b ∈ F'') : Roots σ' ρ F'' ls gs os := by
  induction h with
  | nil => exact .nil
  | cons h _ ih => exact .cons (h.mono k hF) ih
theorem Roots.wide {ls : List Nat} {gs : List Value} {os : List (Nat × List AV)} (h : Roots σ ρ F ls gs os) {F'' : List Nat} (hF : ∀ b ∈ F, b ∈ F'') : Roots σ ρ F'' ls gs os := by
  induction h with
  | nil => exact .nil
  | cons h _ ih =>
    obtain ⟨rb, kk, h1, h2, h3, h4, h9, h10⟩ := h
    exact .cons ⟨rb, kk, h1, h2, h3, h4, hF _ h9, h10⟩ ih
theorem Roots.append {ls ls' : List Nat} {gs gs' : List Value} {os os' : List (Nat × List AV)} (h : Roots σ ρ F ls gs os) (k : Roots σ ρ F ls' gs' os') : Roots σ ρ F (ls ++ ls') (gs ++ gs') (os ++ os') := by
  induction h with
  | nil => exact k
  | cons h _ ih => exact .cons h ih
theorem exp_kill (hs : SR E μ ρ σ w) {l : Nat} {rb : RB} {k : Blk} (hl : ρ l = some rb) (hk : σ[l]? = some k) (hm : k.mode = 1) (hp : rb.ph = false) : Exp E μ ρ σ w [rb.b] (σ.set l { k with mode := 0 }) := by
  refine ⟨hs.kill l _ rfl, by simp, fun b hb => ?_, fun b hb => own_set hk (fun e => by cases e) hb, by simp, fun m k' hm' => ?_⟩
  · simp at hb; subst hb
    refine ⟨⟨l, rb, k, hl, hk, hm, hp, rfl⟩, ?_⟩
    rintro ⟨l', rb', k', h1, h2, h3, h4, h5⟩
    rcases get_set h2 with ⟨e1, e2⟩ | ⟨e1, h2⟩
    · subst e2; cases h3
    · exact e1 (hs.inj l' l rb' rb k' k h1 hl h2 hk h3 hm h4 hp h5)
  · rcases get_set hm' with ⟨e1, e2⟩ | ⟨_, h2⟩
    · subst e1; subst e2; exact ⟨k, hk, .inr rfl⟩
    · exact ⟨k', h2, .inl rfl⟩
theorem exp_kill0 (hs : SR E μ ρ σ w) {l : Nat} {k : Blk} (hk : σ[l]? = some k) : Exp E μ ρ σ w [] (σ.set l { k with mode := 0 }) := by
  refine ⟨hs.kill l _ rfl, by simp, fun b hb => (by cases hb), fun b hb => own_set hk (fun e => by cases e) hb, by simp, fun m k' hm' => ?_⟩
  rcases get_set hm' with ⟨e1, e2⟩ | ⟨_, h2⟩
  · subst e1; subst e2; exact ⟨k, hk, .inr rfl⟩
  · exact ⟨k', h2, .inl rfl⟩
theorem expC_sound {c a : AV} {v : Value} (hs : SR E μ ρ σ w) (hv : CR μ ρ c v) (h : expC σ c = some (a, σ')) : ∃ F, B0 μ (hf w) F a v ∧ Exp E μ ρ σ w F σ' := by
  unfold expC at h
  split at h
  · rcases cond_or h with ⟨_, h⟩ | ⟨_, h⟩
    · simp only [Option.some.injEq, Prod.mk.injEq] at h
      obtain ⟨e1, e2⟩ := h; subst e1; subst e2
      cases hv with | d hd => exact ⟨[], .d hd, .refl hs⟩
    · cases h
  · simp only [Option.some.injEq, Prod.mk.injEq] at h
    obtain ⟨e1, e2⟩ := h; subst e1; subst e2
    cases hv with | d hd => exact ⟨[], .d hd, .refl hs⟩
  · rename_i b l off cut
    split at h
    · cases h
    · rename_i k hk
      rcases cond_or h with ⟨h0, h⟩ | ⟨_, h⟩
      · simp only [Option.some.injEq, Prod.mk.injEq] at h
        obtain ⟨e1, e2⟩ := h; subst e1; subst e2
        simp only [Bool.and_eq_true, Bool.not_eq_true'] at h0
        obtain ⟨⟨h1, h2⟩, h3⟩ := h0
        have hm := Nat.eq_of_beq_eq_true h1
        have ho := Nat.eq_of_beq_eq_true h3
        subst ho
        cases hv with
        | d hd => cases hd
        | @sl _ _ _ rb x len cap e1 e2 e3 e4 e5 e6 e7 =>
          have hb := hs.blk l rb k e1 hk (by omega)
          obtain ⟨cur, hc⟩ := hb.live e2
          have hat : Has w rb.b cur k.ty (fxB false k.sz) ∧ μ rb.b = none := by
            rcases hc.at_ with ⟨_, a, b⟩ | ⟨a, _⟩
            · exact ⟨h2 ▸ a, b⟩
            · omega
          refine ⟨[rb.b], ?_, exp_kill hs e1 hk hm e2⟩
          have hx : x = ⟨rb.b, 0, none⟩ := by
            rcases e3 with e3 | ⟨_, e3⟩
            · rw [e3, Nat.zero_mul]
            · omega
          subst hx
          have hrow := hc.rowD h2
          rw [hb.sz] at hrow e7
          have hlen : (cutL k.xs 0 cut).length = len := cutL_len (by rw [e4, hb.n]) (by rw [← hb.n]; exact e5)
          rw [← hlen]
          refine .ow hat.1 hat.2 (by rw [hlen]; exact e6) (by rw [hc.size, ← e7, Nat.zero_add]) ⟨fun e he => hrow.1 e (cutL_mem he), fun i e j c he hc' => ?_⟩
          have := hrow.2 _ e j c (cutL_get he) hc'
          rwa [Nat.zero_add] at this
        | @sln _ _ _ rb e1 e2 e3 e4 =>
          have hb := hs.blk l rb k e1 hk (by omega)
          have hx : k.xs = [] := List.eq_nil_of_length_eq_zero (by rw [← hb.n]; exact e2)
          refine ⟨[], ?_, exp_kill0 hs hk⟩
          rw [hx, cutL_nil]
          exact .own
      · cases h
  · cases h
theorem CRs.tail {a : AV} {v : Value} {as : List AV} {vs : List Value} (h : CRs μ ρ (a :: as) (v :: vs)) : CR μ ρ a v ∧ CRs μ ρ as vs :=
  ⟨h.2 0 a v rfl rfl, by simpa using h.1, fun k u x hu hx => h.2 (k + 1) u x (by simpa using hu) (by simpa using hx)⟩
theorem expCs_sound : ∀ {cs as : List AV} {vs : List Value} {σ σ' : Store}, SR E μ ρ σ w → CRs μ ρ cs vs → expCs σ cs = some (as, σ') → ∃ F, B0s μ (hf w) F as vs ∧ Exp E μ ρ σ w F σ' ∧ as.length = cs.length
  | [], as, vs, σ, σ', hs, hv, h => by
    simp only [expCs, Option.some.injEq, Prod.mk.injEq] at h
    obtain ⟨e1, e2⟩ := h; subst e1; subst e2
    have : vs = [] := List.eq_nil_of_length_eq_zero (by rw [hv.1]; rfl)
    subst this
    exact ⟨[], .nil, .refl hs, rfl⟩
  | c :: cs, as, [], σ, σ', hs, hv, h => by have := hv.1; simp at this
  | c :: cs, as, v :: vs, σ, σ', hs, hv, h => by
    rw [expCs] at h
    split at h
    · cases h
    · rename_i c1 σ1 h1
      split at h
      · cases h
      · rename_i cs1 σ2 h2
        simp only [Option.some.injEq, Prod.mk.injEq] at h
        obtain ⟨e1, e2⟩ := h; subst e1; subst e2
        obtain ⟨F1, b1, x1⟩ := expC_sound hs hv.tail.1 h1
        obtain ⟨F2, b2, x2, hl⟩ := expCs_sound x1.sr hv.tail.2 h2
        exact ⟨F1 ++ F2, .cons b1 b2, x1.trans x2, by simp [hl]⟩
theorem B0s.rowT {hp : HF} {cs : List AV} {vs : List Value} (h : B0s μ hp F cs vs) : rowT cs = none := by
  cases h with
  | nil => rfl
  | cons h k =>
    cases h with
    | d hd => cases hd <;> rfl
    | ow => rfl
    | own => rfl
theorem expOb_sound {l : Nat} {b : AV} {v : Value} (hs : SR E μ ρ σ w) (hv : CR μ ρ (.ptr l 0 0) v) (h : expOb σ l = some (b, σ')) :
    ∃ F ty cs, b = .ob ty cs ∧ B1 μ (hf w) F [v] b v ∧ Exp E μ ρ σ w F σ' ∧ RootR σ' ρ F l v (ty, cs) := by
  unfold expOb at h
  split at h
  · cases h
  · rename_i k hk
    rcases cond_or h with ⟨h0, h⟩ | ⟨_, h⟩
    · simp only [Bool.and_eq_true] at h0
      obtain ⟨h1, ho⟩ := h0
      have hm := Nat.eq_of_beq_eq_true h1
      split at h
      · cases h
      · rename_i cs σ1 hx
        simp only [Option.some.injEq, Prod.mk.injEq] at h
        obtain ⟨e1, e2⟩ := h; subst e1; subst e2
        cases hv with
        | d hd => cases hd
        | @ptr _ _ _ rb e1 e2 =>
          have hb := hs.blk l rb k e1 hk (by omega)
          obtain ⟨cur, hc⟩ := hb.live e2
          have hat : w.heap[rb.b]? = some (.cells cur k.ty (0, 0)) ∧ μ rb.b = none := by
            rcases hc.at_ with ⟨_, ⟨fz, a, hz⟩, b⟩ | ⟨a, _⟩
            · obtain rfl : fz = (0, 0) := hz.elim id fun e => by rw [ho] at e; cases e.1
              exact ⟨a, b⟩
            · omega
          have hone := hb.one ho
          obtain ⟨x, hxx⟩ := List.length_eq_one_iff.1 hone.1
          have hlx : lget k.xs 0 = x := by rw [hxx]; rfl
          rw [hlx] at hx
          have hrow := hc.rowO ho
          rw [hxx] at hrow
          have hxl : x.length = cur.size := by rw [hrow.1 x (by simp), hc.size, hone.2]
          have x0 := exp_kill hs e1 hk hm e2
          have hcr : CRs μ ρ x cur.toList := by
            refine ⟨by simp [hxl], fun j u v hu hv => ?_⟩
            obtain ⟨y, h3, h4⟩ := hrow.2 0 x j u rfl hu
            rw [Nat.zero_mul, Nat.zero_add] at h3
            rw [Array.getElem?_toList, h3] at hv
            injection hv with hv; subst hv; exact h4
          obtain ⟨F, b1, x1, hl⟩ := expCs_sound x0.sr hcr hx
          have hlt := (List.getElem?_eq_some_iff.1 hk).1
          have hp : (Value.pointer (some ⟨rb.b, 0 * rb.sz + 0, none⟩)) = .pointer (some ⟨rb.b, 0, none⟩) := by simp
          rw [hp]
          refine ⟨rb.b :: F, k.ty, cs, rfl, .ob hat.1 hat.2 b1, x0.trans x1, ?_⟩
          have r0 : RootR (σ.set l { k with mode := 0 }) ρ [rb.b] l (.pointer (some ⟨rb.b, 0, none⟩)) (k.ty, cs) :=
            ⟨rb, _, e1, e2, List.getElem?_set_self hlt, rfl, by simp, .inl ⟨ho, hb.sz, by rw [hb.n, hone.1], hone.2, rfl, rfl, by rw [hl, hxl, hc.size, hone.2], b1.rowT⟩⟩
          exact r0.mono x1 fun b hb => by simp at hb; simp [hb]
    · cases h
theorem B0.obF {hp : HF} {a : AV} {v : Value} (h : B0 μ hp F a v) : obF a = none := by
  cases h with
  | d hd => cases hd <;> rfl
  | ow => rfl
  | own => rfl
theorem expO1_sound {a b : AV} {v : Value} {r : List Nat} (hs : SR E μ ρ σ w) (hv : CR μ ρ a v) (h : expO1 σ a = some (b, σ', r)) :
    ∃ F G, B1 μ (hf w) F G b v ∧ Exp E μ ρ σ w F σ' ∧ Roots σ' ρ F r G (obF b).toList := by
  have other : (match expC σ a with | none => none | some (b, σ') => some (b, σ', ([] : List Nat))) = some (b, σ', r) → ∃ F G, B1 μ (hf w) F G b v ∧ Exp E μ ρ σ w F σ' ∧ Roots σ' ρ F r G (obF b).toList := fun h => by
    split at h
    · cases h
    · rename_i b1 σ1 hx
      simp only [Option.some.injEq, Prod.mk.injEq] at h
      obtain ⟨e1, e2, e3⟩ := h; subst e1; subst e2; subst e3
      obtain ⟨F, b1, x1⟩ := expC_sound hs hv hx
      exact ⟨F, [], .c b1, x1, by rw [b1.obF]; exact .nil⟩
  unfold expO1 at h
  split at h
  · rename_i l i j
    obtain ⟨h0, h2⟩ | ⟨_, h2⟩ := cond_or h
    · simp only [Bool.and_eq_true] at h0
      have e1 := Nat.eq_of_beq_eq_true h0.1
      have e2 := Nat.eq_of_beq_eq_true h0.2
      clear h
      have h := h2
      clear h2
      subst e1; subst e2
      split at h
      · cases h
      · rename_i b1 σ1 hx
        simp only [Option.some.injEq, Prod.mk.injEq] at h
        obtain ⟨e1, e2, e3⟩ := h; subst e1; subst e2; subst e3
        obtain ⟨F, ty, cs, e, b1, x1, r1⟩ := expOb_sound hs hv hx
        subst e
        exact ⟨F, [v], b1, x1, .cons r1 .nil⟩
    · cases h2
  · exact other h
theorem expOs_sound : ∀ {cs as : List AV} {vs : List Value} {σ σ' : Store} {r : List Nat}, SR E μ ρ σ w → CRs μ ρ cs vs → expOs σ cs = some (as, σ', r) →
    ∃ F G, B1s μ (hf w) F G as vs ∧ Exp E μ ρ σ w F σ' ∧ Roots σ' ρ F r G (as.filterMap obF)
  | [], as, vs, σ, σ', r, hs, hv, h => by
    simp only [expOs, Option.some.injEq, Prod.mk.injEq] at h
    obtain ⟨e1, e2, e3⟩ := h; subst e1; subst e2; subst e3
    have : vs = [] := List.eq_nil_of_length_eq_zero (by rw [hv.1]; rfl)
    subst this
    exact ⟨[], [], .nil, .refl hs, .nil⟩
  | c :: cs, as, [], σ, σ', r, hs, hv, h => by have := hv.1; simp at this
  | c :: cs, as, v :: vs, σ, σ', r, hs, hv, h => by
    rw [expOs] at h
    split at h
    · cases h
    · rename_i c1 σ1 r1 h1
      split at h
      · cases h
      · rename_i cs1 σ2 r2 h2
        simp only [Option.some.injEq, Prod.mk.injEq] at h
        obtain ⟨e1, e2, e3⟩ := h; subst e1; subst e2; subst e3
        obtain ⟨F1, G1, b1, x1, o1⟩ := expO1_sound hs hv.tail.1 h1
        obtain ⟨F2, G2, b2, x2, o2⟩ := expOs_sound x1.sr hv.tail.2 h2
        refine ⟨F1 ++ F2, G1 ++ G2, .cons b1 b2, x1.trans x2, ?_⟩
        have := (o1.mono x2 (F'' := F1 ++ F2) fun b hb => by simp [hb]).append (o2.wide (F'' := F1 ++ F2) fun b hb => by simp [hb])
        rw [List.filterMap_cons]
        cases e : obF c1 with
        | none => rw [e] at this; exact this
        | some o => rw [e] at this; exact this
theorem obsOf_agg (cs : List AV) : obsOf [.agg cs] = cs.filterMap obF := by
  show cs.filterMap _ ++ [] = _
  rw [List.append_nil]; rfl
theorem obsOf_clo (f : FuncId) (x caps : List AV) : obsOf [.clo f x caps] = caps.filterMap obF := by
  show caps.filterMap _ ++ [] = _
  rw [List.append_nil]; rfl
theorem obsOf_else {b : AV} (h : ∀ cs, b ≠ .agg cs) (h' : ∀ f x y, b ≠ .clo f x y) (h2 : ∀ cs, b ≠ .tup cs) : obsOf [b] = (obF b).toList := by
  cases b with
  | agg cs => exact absurd rfl (h cs)
  | clo f x y => exact absurd rfl (h' f x y)
  | tup cs => exact absurd rfl (h2 cs)
  | _ => rfl
theorem obsOf_cons (b : AV) (bs : List AV) : obsOf (b :: bs) = obsOf [b] ++ obsOf bs := by
  cases b with
  | tup cs =>
    match cs with
    | [] => simp [obsOf]
    | [c] => simp [obsOf]
    | _ :: _ :: _ => simp [obsOf]
  | _ => simp [obsOf]
theorem expC_form {c a : AV} (h : expC σ c = some (a, σ')) : (∀ cs, a ≠ .agg cs) ∧ (∀ f x y, a ≠ .clo f x y) ∧ ∀ cs, a ≠ .tup cs := by
  unfold expC at h
  split at h
  · rcases cond_or h with ⟨_, hq⟩ | ⟨_, hq⟩
    · simp only [Option.some.injEq, Prod.mk.injEq] at hq
      rw [← hq.1]; exact ⟨fun _ e => (by cases e), fun _ _ _ e => (by cases e), fun _ e => (by cases e)⟩
    · cases hq
  · simp only [Option.some.injEq, Prod.mk.injEq] at h
    rw [← h.1]; exact ⟨fun _ e => (by cases e), fun _ _ _ e => (by cases e), fun _ e => (by cases e)⟩
  · split at h
    · cases h
    · rcases cond_or h with ⟨_, hq⟩ | ⟨_, hq⟩
      · simp only [Option.some.injEq, Prod.mk.injEq] at hq
        rw [← hq.1]; exact ⟨fun _ e => (by cases e), fun _ _ _ e => (by cases e), fun _ e => (by cases e)⟩
      · cases hq
  · cases h
theorem expO1_form {a b : AV} {r : List Nat} (h : expO1 σ a = some (b, σ', r)) : (∀ cs, b ≠ .agg cs) ∧ (∀ f x y, b ≠ .clo f x y) ∧ ∀ cs, b ≠ .tup cs := by
  unfold expO1 at h
  split at h
  · rcases cond_or h with ⟨_, h⟩ | ⟨_, h⟩
    · split at h
      · cases h
      · rename_i q _ hq
        unfold expOb at hq
        split at hq
        · cases hq
        · rcases cond_or hq with ⟨_, hq⟩ | ⟨_, hq⟩
          · split at hq
            · cases hq
            · simp only [Option.some.injEq, Prod.mk.injEq] at hq h
              rw [← h.1, ← hq.1]; exact ⟨fun _ e => (by cases e), fun _ _ _ e => (by cases e), fun _ e => (by cases e)⟩
          · cases hq
    · cases h
  · split at h
    · cases h
    · rename_i q _ hq
      simp only [Option.some.injEq, Prod.mk.injEq] at h
      rw [← h.1]; exact expC_form hq
theorem expRow_sound {a b : AV} {v : Value} {r : List Nat} (hs : SR E μ ρ σ w) (hv : CR μ ρ a v) (hnv : v ≠ .slice none 0 0) (h : expRow σ a = some (b, σ', r)) :
    ∃ F, B1 μ (hf w) F [v] b v ∧ Exp E μ ρ σ w F σ' ∧ Roots σ' ρ F r [v] (obsOf [b]) := by
  obtain ⟨c0, l, k, rfl, hk, hm, h2, rfl, rfl, rfl⟩ := expRow_inv h
  cases hv with
  | d hd => cases hd
  | sln => exact absurd rfl hnv
  | @sl _ _ _ rb x len cap e1 e2 e3 e4 e5 e6 e7 =>
    have hb := hs.blk l rb k e1 hk (by omega)
    obtain ⟨cur, hc⟩ := hb.live e2
    have hat : Has w rb.b cur k.ty (fxB false k.sz) ∧ μ rb.b = none := by
      rcases hc.at_ with ⟨_, a, b⟩ | ⟨a, _⟩
      · exact ⟨h2 ▸ a, b⟩
      · omega
    have hx : x = ⟨rb.b, 0, none⟩ := by
      rcases e3 with e3 | ⟨_, e3⟩
      · rw [e3, Nat.zero_mul]
      · omega
    subst hx
    have hrow := hc.rowD h2
    have hlen : k.xs.length = len := cutL_len (xs := k.xs) (off := 0) (cut := none) (by rw [e4, hb.n]) (by rw [← hb.n]; exact e5)
    have hcp : cap * rb.sz = rb.csz := by rw [← e7, Nat.zero_add]
    have hn := hb.n
    have hfit := hb.fit
    have hsz := hb.sz
    have hlt := (List.getElem?_eq_some_iff.1 hk).1
    refine ⟨[rb.b], .row ?_ (fun e => by cases e), exp_kill hs e1 hk hm e2, .cons ⟨rb, _, e1, e2, List.getElem?_set_self hlt, rfl, by simp, .inr ⟨h2, hsz, hn, hfit, ⟨cap, by omega, hcp, by rw [hn, hlen]⟩, rfl, rfl⟩⟩ .nil⟩
    rw [← hlen]
    refine .ow hat.1 hat.2 (by omega) (by rw [hc.size, ← hsz, hcp]) ?_
    rw [← hsz]; exact hrow
theorem expO_sound {a b : AV} {v : Value} {r : List Nat} (hs : SR E μ ρ σ w) (hv : VR μ ρ a v) (h : expO σ a = some (b, σ', r)) :
    ∃ F G, B2 μ (hf w) F G b v ∧ Exp E μ ρ σ w F σ' ∧ Roots σ' ρ F r G (obsOf [b]) := by
  have one : CR μ ρ a v → expO1 σ a = some (b, σ', r) → ∃ F G, B2 μ (hf w) F G b v ∧ Exp E μ ρ σ w F σ' ∧ Roots σ' ρ F r G (obsOf [b]) := fun hc h => by
    obtain ⟨F, G, b1, x1, o1⟩ := expO1_sound hs hc h
    refine ⟨F, G, .o b1, x1, ?_⟩
    obtain ⟨f1, f2, f3⟩ := expO1_form h
    rw [obsOf_else f1 f2 f3]
    exact o1
  unfold expO at h
  split at h
  · split at h
    · cases h
    · rename_i cs _ bs σ1 r1 hx
      simp only [Option.some.injEq, Prod.mk.injEq] at h
      obtain ⟨e1, e2, e3⟩ := h; subst e1; subst e2; subst e3
      cases hv with
      | c hc => cases hc with | d hd => cases hd
      | agg hc =>
        obtain ⟨F, G, b1, x1, o1⟩ := expOs_sound hs hc hx
        exact ⟨F, G, .agg b1, x1, by rw [obsOf_agg]; exact o1⟩
  · rename_i f first caps
    rcases cond_or h with ⟨_, h⟩ | ⟨he, h⟩
    · cases h
    · split at h
      · cases h
      · rename_i bs σ1 r1 hx
        simp only [Option.some.injEq, Prod.mk.injEq] at h
        obtain ⟨e1, e2, e3⟩ := h; subst e1; subst e2; subst e3
        have hfe : first = [] := by simpa using he
        subst hfe
        have key : ∀ {fs cs : List Value}, fs.length = ([] : List AV).length → CRs μ ρ caps cs → ∃ F G, B2 μ (hf w) F G (.clo f [] bs) (.func (.func f) fs.toArray cs.toArray) ∧ Exp E μ ρ σ w F σ1 ∧ Roots σ1 ρ F r1 G (obsOf [.clo f [] bs]) := fun {fs cs} hl hc => by
          obtain ⟨F, G, b1, x1, o1⟩ := expOs_sound hs hc hx
          rw [obsOf_clo]
          exact ⟨F, G, .clo ⟨hl, fun k u v hu => by simp at hu⟩ b1, x1, o1⟩
        cases hv with
        | c hc =>
          cases hc with
          | d hd => cases hd with | clo h1 h2 h3 h4 => exact key h1 ⟨h2, fun k u v hu hv => .d (h4 k u v hu hv)⟩
          | clo h1 h2 h3 h4 => exact key h1 ⟨h2, h4⟩
  · rename_i a' hna hnc
    cases hv with
    | c hc => exact one hc h
    | agg => exact absurd rfl (hna _)
    | tup => cases h
    | un => cases h
    | sk => simp [expO1, expC, okC] at h
theorem expN_up (hb : ∀ (l : Nat) (k' : Blk), σ'[l]? = some k' → ∃ k : Blk, σ[l]? = some k ∧ (k' = k ∨ k' = { k with mode := 0 })) : ∀ (n : Nat) {a b : AV}, expN σ' n a = some b → expN σ n a = some b
  | 0, _, _, h => by cases h
  | n + 1, a, b, h => by
    have hm : ∀ {l r : List AV}, l.mapM (expN σ' n) = some r → l.mapM (expN σ n) = some r := fun {l} => by
      induction l with
      | nil => intro r h; exact h
      | cons x l ih =>
        intro r h
        rw [List.mapM_cons] at h ⊢
        simp only [Option.bind_eq_bind, Option.bind_eq_some_iff, Option.pure_def, Option.some.injEq] at h ⊢
        obtain ⟨y, h1, ys, h2, h3⟩ := h
        exact ⟨y, expN_up hb n h1, ys, ih h2, h3⟩
    cases a with
    | sl c l off cut =>
      simp only [expN] at h ⊢
      split at h
      · cases h
      · rename_i k' hk'
        obtain ⟨k, h1, h2⟩ := hb l k' hk'
        rw [h1]
        rcases h2 with h2 | h2
        · subst h2; exact h
        · subst h2; simp at h
    | ptr l i j =>
      simp only [expN] at h ⊢
      split at h
      · cases h
      · rename_i k' hk'
        obtain ⟨k, h1, h2⟩ := hb l k' hk'
        rw [h1]
        rcases h2 with h2 | h2
        · subst h2
          simp only
          rcases cond_or h with ⟨e, h⟩ | ⟨e, h⟩
          · cases h
          · rw [e, cond_false]
            rcases cond_or h with ⟨e, h⟩ | ⟨e, h⟩
            · rw [e, cond_true]
              rcases cond_or h with ⟨e, h⟩ | ⟨e, h⟩
              · rw [e, cond_true]
                split at h
                · cases h
                · rename_i cs hcs
                  rw [hm hcs]; exact h
              · cases h
            · rw [e, cond_false]; exact h
        · subst h2; simp at h
    | clo f x y =>
      simp only [expN] at h ⊢
      split at h
      · rename_i p q hp hq
        rw [hm hp, hm hq]; exact h
      · cases h
    | agg cs =>
      simp only [expN] at h ⊢
      split at h
      · cases h
      · rename_i p hp
        rw [hm hp]; exact h
    | _ => exact h
theorem expN_obF : ∀ (n : Nat) {a b : AV}, expN σ n a = some b → obF b = none
  | 0, _, _, h => by cases h
  | n + 1, a, b, h => by
    cases a <;> simp only [expN] at h
    all_goals try (cases h; done)
    all_goals try (injection h with h; subst h; rfl)
    · rcases cond_or h with ⟨_, h⟩ | ⟨_, h⟩
      · injection h with h; subst h; rfl
      · cases h
    · split at h
      · cases h
      · injection h with h; subst h; rfl
    · split at h
      · cases h
      · rcases cond_or h with ⟨_, h⟩ | ⟨_, h⟩
        · cases h
        · rcases cond_or h with ⟨_, h⟩ | ⟨_, h⟩
          · rcases cond_or h with ⟨_, h⟩ | ⟨_, h⟩
            · split at h
              · cases h
              · injection h with h; subst h; rfl
            · cases h
          · rcases cond_or h with ⟨_, h⟩ | ⟨_, h⟩ <;> (injection h with h; subst h; rfl)
    · split at h
      · cases h
      · rcases cond_or h with ⟨_, h⟩ | ⟨_, h⟩
        · cases h
        · injection h with h; subst h; rfl
    · split at h
      · injection h with h; subst h; rfl
      · cases h
theorem filterMap_none {l : List AV} (h : ∀ (k : Nat) (u : AV), l[k]? = some u → obF u = none) : l.filterMap obF = [] := by
  rw [List.filterMap_eq_nil_iff]
  intro a ha
  obtain ⟨k, hk⟩ := List.getElem?_of_mem ha
  exact h k a hk
theorem expD_obs {a b : AV} (h : expD σ a = some b) : obsOf [b] = [] := by
  have hob := expN_obF 4 h
  unfold expD at h
  have hm : ∀ {l r : List AV}, l.mapM (expN σ 3) = some r → r.filterMap obF = [] := fun h => filterMap_none fun k u hu => by
    obtain ⟨x, _, hx⟩ := (mapM_some h).2 k u hu
    exact expN_obF 3 hx
  cases a <;> simp only [expN] at h
  all_goals try (cases h; done)
  all_goals try (injection h with h; subst h; exact (obsOf_else (fun _ e => by cases e) (fun _ _ _ e => by cases e) (fun _ e => by cases e)).trans (by rw [hob]; rfl))
  · rcases cond_or h with ⟨_, h⟩ | ⟨_, h⟩
    · injection h with h; subst h; exact (obsOf_else (fun _ e => by cases e) (fun _ _ _ e => by cases e) (fun _ e => by cases e)).trans (by rw [hob]; rfl)
    · cases h
  · split at h
    · cases h
    · rename_i x hx
      injection h with h; subst h
      rw [obsOf_agg]; exact hm hx
  · split at h
    · cases h
    · rcases cond_or h with ⟨_, h⟩ | ⟨_, h⟩
      · cases h
      · rcases cond_or h with ⟨_, h⟩ | ⟨_, h⟩
        · rcases cond_or h with ⟨_, h⟩ | ⟨_, h⟩
          · split at h
            · cases h
            · injection h with h; subst h; exact (obsOf_else (fun _ e => by cases e) (fun _ _ _ e => by cases e) (fun _ e => by cases e)).trans (by rw [hob]; rfl)
          · cases h
        · rcases cond_or h with ⟨_, h⟩ | ⟨_, h⟩ <;> (injection h with h; subst h; exact (obsOf_else (fun _ e => by cases e) (fun _ _ _ e => by cases e) (fun _ e => by cases e)).trans (by rw [hob]; rfl))
  · split at h
    · cases h
    · rcases cond_or h with ⟨_, h⟩ | ⟨_, h⟩
      · cases h
      · injection h with h; subst h; exact (obsOf_else (fun _ e => by cases e) (fun _ _ _ e => by cases e) (fun _ e => by cases e)).trans (by rw [hob]; rfl)
  · split at h
    · rename_i p q hp hq
      injection h with h; subst h
      rw [obsOf_clo]; exact hm hq
    · cases h
end
end Go.Ev
namespace Go.Ev
variable [Gl]
section mono
variable {μ μ' : Mu} {hp : HF} {F : List Nat} {G : List Value}
theorem B0.mono {a : AV} {v : Value} (h : B0 μ hp F a v) (hm : MuLe μ μ') (hF : ∀ b ∈ F, μ' b = none) : B0 μ' hp F a v := by
  cases h with
  | d hd => exact .d (hd.mono hm)
  | ow h1 h2 h3 h4 h5 => exact .ow h1 (hF _ (by simp)) h3 h4 (h5.mono hm)
  | own => exact .own
theorem B0s.mono {as : List AV} {vs : List Value} (h : B0s μ hp F as vs) (hm : MuLe μ μ') (hF : ∀ b ∈ F, μ' b = none) : B0s μ' hp F as vs := by
  induction h with
  | nil => exact .nil
  | cons h _ ih => exact .cons (h.mono hm fun b hb => hF b (by simp [hb])) (ih fun b hb => hF b (by simp [hb]))
theorem B1.mono {a : AV} {v : Value} (h : B1 μ hp F G a v) (hm : MuLe μ μ') (hF : ∀ b ∈ F, μ' b = none) : B1 μ' hp F G a v := by
  cases h with
  | c h => exact .c (h.mono hm hF)
  | row h hn => exact .row (h.mono hm hF) hn
  | ob h1 h2 h3 => exact .ob h1 (hF _ (by simp)) (h3.mono hm fun b hb => hF b (by simp [hb]))
theorem B1s.mono {as : List AV} {vs : List Value} (h : B1s μ hp F G as vs) (hm : MuLe μ μ') (hF : ∀ b ∈ F, μ' b = none) : B1s μ' hp F G as vs := by
  induction h with
  | nil => exact .nil
  | cons h _ ih => exact .cons (h.mono hm fun b hb => hF b (by simp [hb])) (ih fun b hb => hF b (by simp [hb]))
theorem B2.mono {a : AV} {v : Value} (h : B2 μ hp F G a v) (hm : MuLe μ μ') (hF : ∀ b ∈ F, μ' b = none) : B2 μ' hp F G a v := by
  cases h with
  | o h => exact .o (h.mono hm hF)
  | agg h => exact .agg (h.mono hm hF)
  | clo h1 h => exact .clo (h1.mono hm) (h.mono hm hF)
theorem B2s.mono {as : List AV} {vs : List Value} (h : B2s μ hp F G as vs) (hm : MuLe μ μ') (hF : ∀ b ∈ F, μ' b = none) : B2s μ' hp F G as vs := by
  induction h with
  | nil => exact .nil
  | cons h _ ih => exact .cons (h.mono hm fun b hb => hF b (by simp [hb])) (ih fun b hb => hF b (by simp [hb]))
end mono
section
variable {E : Env} {μ : Mu} {ρ : Rho} {w : World}
theorem VRs.tail {a : AV} {v : Value} {as : List AV} {vs : List Value} (h : VRs μ ρ (a :: as) (v :: vs)) : VR μ ρ a v ∧ VRs μ ρ as vs :=
  ⟨h.2 0 a v rfl rfl, by simpa using h.1, fun k u x hu hx => h.2 (k + 1) u x (by simpa using hu) (by simpa using hx)⟩
theorem expArgs_sound : ∀ {args bs : List AV} {vals : List Value} {σ σ' : Store} {m q : List Bool} {r : List Nat}, SR E μ ρ σ w → VRs μ ρ args vals → rowsOk m q args = true → expArgs σ m q args = some (bs, σ', r) →
    ∃ F G, Exp E μ ρ σ w F σ' ∧ Roots σ' ρ F r G (obsOf bs) ∧ (m.any id = false → σ' = σ ∧ F = [] ∧ r = [] ∧ obsOf bs = []) ∧ ∀ μ', MuLe μ μ' → (∀ b ∈ F, μ' b = none) →
      (∀ (k : Nat) (a b : AV) (v : Value), m.getD k false = false → args[k]? = some a → vals[k]? = some v → expD σ a = some b → B2 μ' (hf w) [] [] b v) → B2s μ' (hf w) F G bs vals
  | [], bs, vals, σ, σ', m, q, r, hs, hv, hro, h => by
    cases m <;>
    · simp only [expArgs, Option.some.injEq, Prod.mk.injEq] at h
      obtain ⟨e1, e2, e3⟩ := h; subst e1; subst e2; subst e3
      have : vals = [] := List.eq_nil_of_length_eq_zero (by rw [hv.1]; rfl)
      subst this
      exact ⟨[], [], .refl hs, .nil, fun _ => ⟨rfl, rfl, rfl, rfl⟩, fun μ' _ _ _ => .nil⟩
  | a :: as, bs, [], σ, σ', m, q, r, hs, hv, hro, h => by have := hv.1; simp at this
  | a :: as, bs, v :: vals, σ, σ', m, q, r, hs, hv, hro, h => by
    rw [expArgs] at h
    simp only [rowsOk, Bool.and_eq_true] at hro
    obtain ⟨hro1, hro⟩ := hro
    split at h
    · cases h
    · rename_i b σ1 r1 h1
      split at h
      · cases h
      · rename_i bs1 σ2 r2 h2
        simp only [Option.some.injEq, Prod.mk.injEq] at h
        obtain ⟨e1, e2, e3⟩ := h; subst e1; subst e2; subst e3
        rw [obsOf_cons]
        have htail : ∀ k, m.tail.getD k false = m.getD (k + 1) false := fun k => by cases m <;> simp
        cases hm : m.headD false with
        | true =>
          rw [hm] at h1
          have key : ∃ F G, B2 μ (hf w) F G b v ∧ Exp E μ ρ σ w F σ1 ∧ Roots σ1 ρ F r1 G (obsOf [b]) := by
            cases hq : q.headD false with
            | true =>
              rw [hq] at h1
              obtain ⟨c0, l, k, e, _⟩ := expRow_inv h1
              rw [hm, hq] at hro1
              have hnv : v ≠ .slice none 0 0 := fun ev => by
                subst e; subst ev
                have hcr := hv.tail.1.cell rfl
                cases hcr with
                | d hd => cases hd
                | sln => cases hro1
              obtain ⟨F, b1, x1, o1⟩ := expRow_sound hs (hv.tail.1.cell (by rw [e]; rfl)) hnv h1
              exact ⟨F, [v], .o b1, x1, o1⟩
            | false => rw [hq] at h1; exact expO_sound hs hv.tail.1 h1
          obtain ⟨F1, G1, b1, x1, o1⟩ := key
          obtain ⟨F2, G2, x2, o2, _, hc⟩ := expArgs_sound x1.sr hv.tail.2 hro h2
          refine ⟨F1 ++ F2, G1 ++ G2, x1.trans x2, (o1.mono x2 fun b hb => by simp [hb]).append (o2.wide fun b hb => by simp [hb]), fun e => ?_, fun μ' hle hF hl => ?_⟩
          · cases m with
            | nil => cases hm
            | cons x m => simp at hm; subst hm; simp at e
          · refine .cons (b1.mono hle fun b hb => hF b (by simp [hb])) (hc μ' hle (fun b hb => hF b (by simp [hb])) fun k a b v h3 h4 h5 h6 => ?_)
            exact hl (k + 1) a b v (by rw [← htail]; exact h3) h4 h5 (expN_up x1.blk 4 h6)
        | false =>
          rw [hm] at h1
          simp only at h1
          split at h1
          · cases h1
          · rename_i b' hb'
            simp only [Option.some.injEq, Prod.mk.injEq] at h1
            obtain ⟨e1, e2, e3⟩ := h1; subst e1; subst e2; subst e3
            obtain ⟨F2, G2, x2, o2, hq, hc⟩ := expArgs_sound hs hv.tail.2 hro h2
            have hm0 : m.getD 0 false = false := by cases m with
              | nil => rfl
              | cons x m => simpa using hm
            rw [expD_obs hb']
            refine ⟨F2, G2, x2, o2, fun e => ?_, fun μ' hle hF hl => ?_⟩
            · obtain ⟨q1, q2, q3, q4⟩ := hq (by cases m with
                | nil => rfl
                | cons x m => simp at e; simpa using e.2)
              exact ⟨q1, q2, by rw [q3]; rfl, by rw [q4]; rfl⟩
            · have := hl 0 a b' v hm0 rfl rfl hb'
              exact .cons (F := []) (G := []) this (hc μ' hle hF fun k a b v h3 h4 h5 h6 => hl (k + 1) a b v (by rw [← htail]; exact h3) h4 h5 h6)
theorem lentRefs_in {σ : Store} : ∀ {args : List AV} {m : List Bool} {k : Nat} {a : AV}, m.getD k false = false → args[k]? = some a → ∀ l ∈ refs σ a, l ∈ lentRefs σ m args
  | [], m, k, a, _, h, _, _ => by simp at h
  | x :: as, m, 0, a, h1, h2, l, hl => by
    simp at h2; subst h2
    have : m.headD false = false := by cases m with
      | nil => rfl
      | cons y m => simpa using h1
    simp only [lentRefs, this, cond_false, List.mem_append]
    exact .inl hl
  | x :: as, m, k + 1, a, h1, h2, l, hl => by
    simp only [lentRefs, List.mem_append]
    refine .inr (lentRefs_in (k := k) (a := a) ?_ (by simpa using h2) l hl)
    cases m with
    | nil => rfl
    | cons y m => simpa using h1
end
/-! ## The forms of what comes back -/
section sim
variable {μ : Mu} {hp : HF}
theorem shapeC_sim {k : CK} {c : AV} (h : (shapeC k c).1 = true) : Sim c (shapeC k c).2 := by
  unfold shapeC at h ⊢
  split at h
  · exact .inl (isI_eq h).symm
  · exact .inl (isB_eq h).symm
  · exact .inl (isS_eq h).symm
  · exact isL_sim h
  · cases h
theorem isOw_eq {e sz : Nat} {c : AV} (h : isOw e sz c = true) : AV.ow (avNil c) e sz (avXs c) = c := by
  cases c with
  | ow n t s xs =>
    simp only [isOw, Bool.and_eq_true] at h
    have e1 := Nat.eq_of_beq_eq_true h.1
    have e2 := Nat.eq_of_beq_eq_true h.2
    subst e1; subst e2; rfl
  | _ => cases h
def SimO (c c' : AV) : Prop := Sim c c' ∨ ∃ s ty sz, c = .lst true s [] ∧ c' = .ow true ty sz []
theorem isOw_simO {e sz : Nat} {c : AV} (h : (isOw e sz c || isNilL c) = true) : SimO c (.ow (avNil c) e sz (avXs c)) := by
  rw [Bool.or_eq_true] at h
  rcases h with h | h
  · exact .inl (.inl (isOw_eq h))
  · unfold isNilL at h
    split at h
    · rename_i s; exact .inr ⟨s, e, sz, rfl, rfl⟩
    · cases h
theorem shapeO_sim {k : CK} {c : AV} (h : (shapeO k c).1 = true) : SimO c (shapeO k c).2 := by
  unfold shapeO at h ⊢
  split at h
  · exact isOw_simO h
  · exact .inl (shapeC_sim h)
theorem shapeO_un (k : CK) : (shapeO k .un).1 = false := by
  cases k <;> rfl
theorem likeB_sim {t c : AV} (h : (likeB t c).1 = true) : SimO c (likeB t c).2 := by
  unfold likeB at h ⊢
  split at h
  · exact .inl (.inl (isI_eq h).symm)
  · exact .inl (.inl (isB_eq h).symm)
  · exact .inl (.inl (isS_eq h).symm)
  · exact .inl (.inl (isNP_eq h).symm)
  · exact .inl (isL_sim h)
  · exact isOw_simO h
  · cases h
theorem likeB_un (t : AV) : (likeB t .un).1 = false := by
  unfold likeB
  split <;> rfl
theorem shapeG_gen : ∀ (ts : List CK) (j : Nat) (cs : List AV), shapeG ts j cs = genG shapeC ts j cs
  | [], _, _ => rfl
  | [_], _, _ => rfl
  | t :: t' :: ts, j, cs => by simp only [shapeG, genG, shapeG_gen (t' :: ts)]
theorem shapeV_gen : ∀ (ts : List CK) (j : Nat) (cs : List AV), shapeV ts j cs = genV shapeC ts j cs
  | [], _, _ => rfl
  | t :: ts, j, cs => by simp only [shapeV, genV, shapeV_gen ts]
theorem shapeOG_gen : ∀ (ts : List CK) (j : Nat) (cs : List AV), shapeOG ts j cs = genG shapeO ts j cs
  | [], _, _ => rfl
  | [_], _, _ => rfl
  | t :: t' :: ts, j, cs => by simp only [shapeOG, genG, shapeOG_gen (t' :: ts)]
theorem shapeOV_gen : ∀ (ts : List CK) (j : Nat) (cs : List AV), shapeOV ts j cs = genV shapeO ts j cs
  | [], _, _ => rfl
  | t :: ts, j, cs => by simp only [shapeOV, genV, shapeOV_gen ts]
theorem likeG_gen : ∀ (ts : List AV) (j : Nat) (cs : List AV), likeG ts j cs = genG likeB ts j cs
  | [], _, _ => rfl
  | [_], _, _ => rfl
  | t :: t' :: ts, j, cs => by simp only [likeG, genG, likeG_gen (t' :: ts)]
theorem likeV_gen : ∀ (ts : List AV) (j : Nat) (cs : List AV), likeV ts j cs = genV likeB ts j cs
  | [], _, _ => rfl
  | t :: ts, j, cs => by simp only [likeV, genV, likeV_gen ts]
def Sims (cs cs' : List AV) : Prop := cs'.length = cs.length ∧ ∀ (k : Nat) (c c' : AV), cs[k]? = some c → cs'[k]? = some c' → SimO c c'
theorem Sims.tail {c c' : AV} {cs cs' : List AV} (h : Sims (c :: cs) (c' :: cs')) : SimO c c' ∧ Sims cs cs' :=
  ⟨h.2 0 c c' rfl rfl, by simpa using h.1, fun k x y hx hy => h.2 (k + 1) x y (by simpa using hx) (by simpa using hy)⟩
theorem gen_sims {T : Type} {f : T → AV → Bool × AV} (hun : ∀ t, (f t .un).1 = false) (hf : ∀ t c, (f t c).1 = true → SimO c (f t c).2) {ts : List T} {cs : List AV} (h : genG f ts 0 cs = true) (hl : cs.length = ts.length) : Sims cs (genV f ts 0 cs) := by
  refine ⟨by rw [(genV_spec ts 0 cs).1, hl], fun k c c' hc hc' => ?_⟩
  obtain ⟨t, c0, _, h1, h2, e⟩ := gen_cell hun h hc'
  rw [Nat.zero_add, hc] at h1
  injection h1 with h1; subst h1; subst e
  exact hf t c h2
theorem Sim.b0 {F : List Nat} {c c' : AV} {v : Value} (h : Sim c c') (hb : B0 μ hp F c v) : B0 μ hp F c' v := by
  rcases h with h | ⟨s, s', xs, h1, h2⟩
  · subst h; exact hb
  · subst h1
    cases hb with | d hd => exact .d (Sim.dr (.inr ⟨s, s', xs, rfl, h2⟩) hd)
theorem Sim.b1 {F : List Nat} {G : List Value} {c c' : AV} {v : Value} (h : Sim c c') (hb : B1 μ hp F G c v) : B1 μ hp F G c' v := by
  rcases h with h | ⟨s, s', xs, h1, h2⟩
  · subst h; exact hb
  · subst h1
    cases hb with | c hb => exact .c (Sim.b0 (.inr ⟨s, s', xs, rfl, h2⟩) hb)
theorem Sim.b2 {F : List Nat} {G : List Value} {c c' : AV} {v : Value} (h : Sim c c') (hb : B2 μ hp F G c v) : B2 μ hp F G c' v := by
  rcases h with h | ⟨s, s', xs, h1, h2⟩
  · subst h; exact hb
  · subst h1
    cases hb with | o hb => exact .o (Sim.b1 (.inr ⟨s, s', xs, rfl, h2⟩) hb)
theorem SimO.b0 {F : List Nat} {c c' : AV} {v : Value} (h : SimO c c') (hb : B0 μ hp F c v) : B0 μ hp F c' v := by
  rcases h with h | ⟨s, ty, sz, h1, h2⟩
  · exact h.b0 hb
  · subst h1; subst h2
    cases hb with
    | d hd =>
      cases hd with
      | @lst _ _ _ A c vals hnil hA hc hsz hcell hv =>
        have hn : A = none := by cases A with | none => rfl | some a => cases hnil
        have hx := hA hn
        have hc0 : c = 0 := hx.2
        subst hc0; subst hn
        exact .own
theorem SimO.b1 {F : List Nat} {G : List Value} {c c' : AV} {v : Value} (h : SimO c c') (hb : B1 μ hp F G c v) : B1 μ hp F G c' v := by
  rcases h with h | ⟨s, ty, sz, h1, h2⟩
  · exact h.b1 hb
  · subst h1
    cases hb with | c hb => exact .c (SimO.b0 (.inr ⟨s, ty, sz, rfl, h2⟩) hb)
theorem Sims.b0s {cs : List AV} {F : List Nat} {vs : List Value} (hb : B0s μ hp F cs vs) : ∀ {cs' : List AV}, Sims cs cs' → B0s μ hp F cs' vs := by
  induction hb with
  | nil =>
    intro cs' h
    have : cs' = [] := List.eq_nil_of_length_eq_zero h.1
    subst this; exact .nil
  | cons h1 _ ih =>
    intro cs' h
    cases cs' with
    | nil => have := h.1; simp at this
    | cons c' cs' => exact .cons (h.tail.1.b0 h1) (ih h.tail.2)
theorem Sims.b1s {cs : List AV} {F : List Nat} {G : List Value} {vs : List Value} (hb : B1s μ hp F G cs vs) : ∀ {cs' : List AV}, Sims cs cs' → B1s μ hp F G cs' vs := by
  induction hb with
  | nil =>
    intro cs' h
    have : cs' = [] := List.eq_nil_of_length_eq_zero h.1
    subst this; exact .nil
  | cons h1 _ ih =>
    intro cs' h
    cases cs' with
    | nil => have := h.1; simp at this
    | cons c' cs' => exact .cons (h.tail.1.b1 h1) (ih h.tail.2)
def SimA (r r' : AV) : Prop := ∀ (μ : Mu) (hp : HF) (F : List Nat) (G : List Value) (v : Value), B2 μ hp F G r v → B2 μ hp F G r' v
theorem shR_sound {R : Type} {P : Program} {dat : Bool} {t : TypeId} {r : AV} {K : AV → Option R} {x : R} (h : shR P dat t r K = some x) : ∃ r', K r' = some x ∧ SimA r r' := by
  unfold shR at h
  rcases cond_or h with ⟨_, h⟩ | ⟨_, h⟩
  · rcases cond_or h with ⟨_, h⟩ | ⟨_, h⟩
    · obtain ⟨h1, h2⟩ := cond_some h
      simp only [Bool.and_eq_true] at h1
      refine ⟨_, h2, fun μ hp F G v hb => ?_⟩
      cases r with
      | agg cs => exact hb
      | _ => cases h1.1
    obtain ⟨h1, h2⟩ := cond_some h
    simp only [Bool.and_eq_true] at h1
    refine ⟨_, h2, fun μ hp F G v hb => ?_⟩
    cases r with
    | agg cs =>
      have hl := Nat.eq_of_beq_eq_true h1.1
      have h3 := h1.2
      simp only [obCells] at h3 ⊢
      rw [shapeG_gen] at h3
      rw [shapeV_gen]
      have hsim := gen_sims (fun t => shapeC_un) (fun t c h => .inl (shapeC_sim h)) h3 hl
      cases hb with
      | o hb => cases hb with | c hb => cases hb with | d hd => cases hd
      | agg hb => exact .agg (hsim.b1s hb)
    | _ => cases h1.1
  · split at h
    · rename_i e _
      rcases cond_or h with ⟨_, h⟩ | ⟨_, h⟩
      · obtain ⟨h1, h2⟩ := cond_some h
        exact ⟨_, h2, fun μ hp F G v hb => (isL_sim h1).b2 hb⟩
      · obtain ⟨h1, h2⟩ := cond_some h
        exact ⟨_, h2, fun μ hp F G v hb => by rw [isOw_eq h1]; exact hb⟩
    · rename_i e _
      rcases cond_or h with ⟨h1, h2⟩ | ⟨_, h⟩
      · exact ⟨_, h2, fun μ hp F G v hb => by rw [← isNP_eq h1]; exact hb⟩
      · obtain ⟨h1, h2⟩ := cond_some h
        simp only [Bool.and_eq_true] at h1
        refine ⟨_, h2, fun μ hp F G v hb => ?_⟩
        cases r with
        | ob ty cs =>
          have e1 := Nat.eq_of_beq_eq_true h1.1.1
          subst e1
          have hl := Nat.eq_of_beq_eq_true h1.1.2
          have h3 := h1.2
          simp only [obCells] at h3 hl ⊢
          rw [shapeOG_gen] at h3
          rw [shapeOV_gen]
          have hsim := gen_sims shapeO_un (fun t c => shapeO_sim) h3 hl
          cases hb with
          | o hb =>
            cases hb with
            | c hb => cases hb with | d hd => cases hd
            | ob a1 a2 a3 => exact .o (.ob a1 a2 (hsim.b0s a3))
        | _ => cases h1.1.1
    · obtain ⟨h1, h2⟩ := cond_some h
      exact ⟨_, h2, fun μ hp F G v hb => by rw [← isI_eq h1]; exact hb⟩
    · obtain ⟨h1, h2⟩ := cond_some h
      exact ⟨_, h2, fun μ hp F G v hb => by rw [← isB_eq h1]; exact hb⟩
    · obtain ⟨h1, h2⟩ := cond_some h
      exact ⟨_, h2, fun μ hp F G v hb => by rw [← isS_eq h1]; exact hb⟩
    · cases h
theorem shRs_sound {R : Type} {P : Program} {dat : Bool} {x : R} : ∀ {ts : List TypeId} {j : Nat} {rs : List AV} {K : List AV → Option R}, shRs P dat ts j rs K = some x →
    ∃ as, K as = some x ∧ as.length = ts.length ∧ ∀ (i : Nat) (a : AV), as[i]? = some a → SimA (cellAt rs (j + i)) a
  | [], j, rs, K, h => ⟨[], h, rfl, fun i a ha => by simp at ha⟩
  | t :: ts, j, rs, K, h => by
    rw [shRs] at h
    obtain ⟨r', h1, h2⟩ := shR_sound h
    obtain ⟨as, h3, h4, h5⟩ := shRs_sound h1
    refine ⟨r' :: as, h3, by simp [h4], fun i a ha => ?_⟩
    cases i with
    | zero => simp at ha; subst ha; exact h2
    | succ i =>
      have := h5 i a (by simpa using ha)
      rwa [show j + 1 + i = j + (i + 1) by omega] at this
theorem b2s_sim {F : List Nat} {G : List Value} {ra : List AV} {vs : List Value} (hb : B2s μ hp F G ra vs) : ∀ {as : List AV}, as.length = ra.length → (∀ (i : Nat) (r a : AV), ra[i]? = some r → as[i]? = some a → SimA r a) → B2s μ hp F G as vs := by
  induction hb with
  | nil =>
    intro as h _
    have : as = [] := List.eq_nil_of_length_eq_zero h
    subst this; exact .nil
  | cons h1 _ ih =>
    intro as h hi
    cases as with
    | nil => simp at h
    | cons a as => exact .cons (hi 0 _ a rfl rfl _ _ _ _ _ h1) (ih (by simpa using h) fun i r a hr ha => hi (i + 1) r a (by simpa using hr) (by simpa using ha))
def FormO (o : Nat × List AV) (r : AV) (cs' : List AV) : Prop :=
  (rowT o.2 = none ∧ ∃ cs, r = .ob o.1 cs ∧ cs.length = o.2.length ∧ Sims cs cs') ∨ ∃ t z xs, rowT o.2 = some (t, z) ∧ r = .tup [.ow false t z xs] ∧ cs' = [r] ∧ xs.length = rowLen o.2
theorem isRow_eq {t z : Nat} {a : AV} (h : isRow t z a = true) : ∃ xs, a = .tup [.ow false t z xs] := by
  unfold isRow at h
  split at h
  · rename_i b t' z' xs
    simp only [Bool.and_eq_true, Bool.not_eq_true'] at h
    obtain ⟨h1, h2, h3⟩ := h
    have e1 := Nat.eq_of_beq_eq_true h2
    have e2 := Nat.eq_of_beq_eq_true h3
    subst e1; subst e2; subst h1
    exact ⟨xs, rfl⟩
  · cases h
theorem shOuts_sound {R : Type} {x : R} : ∀ {ts : List (Nat × List AV)} {j : Nat} {rs : List AV} {K : List (List AV) → Option R}, shOuts ts j rs K = some x →
    ∃ os, K os = some x ∧ os.length = ts.length ∧ ∀ (i : Nat) (o : Nat × List AV), ts[i]? = some o → ∃ r cs', rs[j + i]? = some r ∧ os[i]? = some cs' ∧ FormO o r cs'
  | [], j, rs, K, h => ⟨[], h, rfl, fun i o ho => by simp at ho⟩
  | (ty, tcs) :: ts, j, rs, K, h => by
    rw [shOuts] at h
    split at h
    · rename_i t z hrt
      obtain ⟨h1, h2⟩ := cond_some h
      obtain ⟨os, h6, h7, h8⟩ := shOuts_sound h2
      refine ⟨_ :: os, h6, by simp [h7], fun i o ho => ?_⟩
      cases i with
      | zero =>
        simp at ho; subst ho
        rw [Bool.and_eq_true] at h1
        obtain ⟨h1, hln⟩ := h1
        have hln := Nat.eq_of_beq_eq_true hln
        obtain ⟨xs, hx⟩ := isRow_eq h1
        have hc : cellAt rs j ≠ .un := fun e => by rw [e] at h1; cases h1
        have hs := cellAt_some hc
        rw [hx] at hs
        exact ⟨_, _, hs, rfl, .inr ⟨t, z, xs, hrt, rfl, by rw [hx]; rfl, by rw [hx] at hln; exact hln⟩⟩
      | succ i =>
        obtain ⟨r, cs', a1, a2, a3⟩ := h8 i o (by simpa using ho)
        exact ⟨r, cs', by rwa [show j + 1 + i = j + (i + 1) by omega] at a1, by simpa using a2, a3⟩
    rename_i hrt
    obtain ⟨h1, h2⟩ := cond_some h
    simp only [Bool.and_eq_true] at h1
    obtain ⟨⟨h3, h4⟩, h5⟩ := h1
    obtain ⟨os, h6, h7, h8⟩ := shOuts_sound h2
    refine ⟨_ :: os, h6, by simp [h7], fun i o ho => ?_⟩
    cases i with
    | zero =>
      simp at ho; subst ho
      have hc : cellAt rs j ≠ .un := fun e => by rw [e] at h3; cases h3
      have hs := cellAt_some hc
      generalize hg : cellAt rs j = c at *
      cases c with
      | ob ty' cs =>
        have e1 := Nat.eq_of_beq_eq_true h3
        subst e1
        have hl := Nat.eq_of_beq_eq_true h4
        simp only [obCells] at h5 hl ⊢
        rw [likeG_gen] at h5
        exact ⟨_, _, hs, rfl, .inl ⟨hrt, cs, rfl, hl, by rw [likeV_gen]; exact gen_sims likeB_un (fun t c => likeB_sim) h5 hl⟩⟩
      | _ => cases h3
    | succ i =>
      obtain ⟨r, cs', a1, a2, a3⟩ := h8 i o (by simpa using ho)
      exact ⟨r, cs', by rwa [show j + 1 + i = j + (i + 1) by omega] at a1, by simpa using a2, a3⟩
end sim
end Go.Ev
namespace Go.Ev
variable [Gl]
def retV (vs : List Value) : Value := if vs.length = 1 then vs.headD undef else .tuple vs.toArray
structure Ret (E : Env) (μ : Mu) (ρ : Rho) (σ : Store) (w : World) (F : List Nat) (μ' : Mu) (σ' : Store) : Prop where
  mu : MuLe μ μ'
  sr : SR E μ' ρ σ' w
  nodup : F.Nodup
  own : ∀ b ∈ F, Own σ ρ b ∧ ¬ Own σ' ρ b
  sub : ∀ b, Own σ' ρ b → Own σ ρ b
  none : ∀ b ∈ F, μ' b = none
  info : ∀ b o, μ' b = some o → μ b = some o ∨ Own σ ρ b
section
variable {E : Env} {μ μ' μ'' : Mu} {ρ : Rho} {σ σ' σ'' : Store} {w : World} {F F' : List Nat}
theorem own_none (hs : SR E μ ρ σ w) {b : Nat} (h : Own σ ρ b) : μ b = none ∧ b < w.heap.size ∧ (E.D b ∨ E.w0.heap.size ≤ b) := by
  obtain ⟨l, rb, k, h1, h2, h3, h4, h5⟩ := h
  subst h5
  refine ⟨?_, hs.own_lt h1 h2 h3 h4, hs.ownD l rb k h1 h2 h3 h4⟩
  obtain ⟨cur, hc⟩ := (hs.blk l rb k h1 h2 (by omega)).live h4
  rcases hc.at_ with ⟨_, _, a⟩ | ⟨a, _⟩
  · exact a
  · omega
theorem Exp.ret (h : Exp E μ ρ σ w F σ') (hs : SR E μ ρ σ w) : Ret E μ ρ σ w F μ σ' :=
  ⟨MuLe.refl μ, h.sr, h.nodup, h.own, h.sub, fun b hb => (own_none hs (h.own b hb).1).1, fun _ _ h => .inl h⟩
theorem Ret.refl (h : SR E μ ρ σ w) : Ret E μ ρ σ w [] μ σ := (Exp.refl h).ret h
theorem Ret.trans (h : Ret E μ ρ σ w F μ' σ') (k : Ret E μ' ρ σ' w F' μ'' σ'') : Ret E μ ρ σ w (F ++ F') μ'' σ'' := by
  refine ⟨h.mu.trans k.mu, k.sr, List.nodup_append.2 ⟨h.nodup, k.nodup, fun a ha b hb e => ?_⟩, fun b hb => ?_, fun b hb => h.sub b (k.sub b hb), fun b hb => ?_, fun b o hb => ?_⟩
  · subst e; exact (h.own a ha).2 (k.own a hb).1
  · rcases List.mem_append.1 hb with hb | hb
    · exact ⟨(h.own b hb).1, fun ho => (h.own b hb).2 (k.sub b ho)⟩
    · exact ⟨h.sub b (k.own b hb).1, (k.own b hb).2⟩
  · rcases List.mem_append.1 hb with hb | hb
    · cases e : μ'' b with
      | none => rfl
      | some o =>
        rcases k.info b o e with h1 | h1
        · rw [h.none b hb] at h1; cases h1
        · exact absurd h1 (h.own b hb).2
    · exact k.none b hb
  · rcases k.info b o hb with h1 | h1
    · exact h.info b o h1
    · exact .inr (h.sub b h1)
theorem expR1_sound {dat : Bool} {a b : AV} {v : Value} (hs : SR E μ ρ σ w) (hv : VR μ ρ a v) (h : expR1 dat σ a = some (b, σ')) : ∃ F G μ', B2 μ' (hf w) F G b v ∧ Ret E μ ρ σ w F μ' σ' := by
  unfold expR1 at h
  split at h
  · rename_i x
    obtain ⟨h1, h2⟩ := cond_some h
    simp only [Option.some.injEq, Prod.mk.injEq] at h2
    obtain ⟨e1, e2⟩ := h2; subst e1; subst e2
    have := hv.cell h1
    cases this with | d hd => exact ⟨[], [], μ, .o (.c (.d hd)), .refl hs⟩
  · obtain ⟨_, h2⟩ := cond_some h
    simp only [Option.some.injEq, Prod.mk.injEq] at h2
    obtain ⟨e1, e2⟩ := h2; subst e1; subst e2
    have := hv.cell rfl
    cases this with | d hd => exact ⟨[], [], μ, .o (.c (.d hd)), .refl hs⟩
  · have hc := hv.cell rfl
    split at h
    · obtain ⟨μ', h1, h2, h3, h4, h5, h6⟩ := frz_soundX hs hc h
      exact ⟨[], [], μ', .o (.c (.d h3)), h1, h2, List.nodup_nil, fun b hb => (by cases hb), h6, fun b hb => (by cases hb), h5⟩
    · obtain ⟨F, h1, h2⟩ := expC_sound hs hc h
      exact ⟨F, [], μ, .o (.c h1), h2.ret hs⟩
  · split at h
    · cases h
    · rename_i cs _ cs' σ1 hx
      simp only [Option.some.injEq, Prod.mk.injEq] at h
      obtain ⟨e1, e2⟩ := h; subst e1; subst e2
      cases hv with
      | c hc => cases hc with | d hd => cases hd
      | agg hc =>
        obtain ⟨μ', h1, h2, h3, h4, h5, h6⟩ := frzL_soundX hs hc hx
        exact ⟨[], [], μ', .agg h3.b1s, h1, h2, List.nodup_nil, fun b hb => (by cases hb), h6, fun b hb => (by cases hb), h5⟩
  · rename_i l i j
    obtain ⟨h1, h2⟩ := cond_some h
    simp only [Bool.and_eq_true] at h1
    have e1 := Nat.eq_of_beq_eq_true h1.1
    have e2 := Nat.eq_of_beq_eq_true h1.2
    subst e1; subst e2
    obtain ⟨F, ty, cs, e, b1, x1, _⟩ := expOb_sound hs (hv.cell rfl) h2
    exact ⟨F, [v], μ, .o b1, x1.ret hs⟩
  · rename_i f first caps
    rcases cond_or h with ⟨_, h2⟩ | ⟨he, h2⟩
    · cases h2
    · split at h2
      · cases h2
      · rename_i bs σ1 r1 hx
        simp only [Option.some.injEq, Prod.mk.injEq] at h2
        obtain ⟨e1, e2⟩ := h2; subst e1; subst e2
        have hfe : first = [] := by simpa using he
        subst hfe
        have key : ∀ {fs cs : List Value}, fs.length = ([] : List AV).length → CRs μ ρ caps cs → ∃ F G μ', B2 μ' (hf w) F G (.clo f [] bs) (.func (.func f) fs.toArray cs.toArray) ∧ Ret E μ ρ σ w F μ' σ1 := fun {fs cs} hl hc => by
          obtain ⟨F, G, b1, x1, o1⟩ := expOs_sound hs hc hx
          exact ⟨F, G, μ, .clo ⟨hl, fun k u v hu => by simp at hu⟩ b1, x1.ret hs⟩
        cases hv with
        | c hc =>
          cases hc with
          | d hd => cases hd with | clo h1 h2 h3 h4 => exact key h1 ⟨h2, fun k u v hu hv => .d (h4 k u v hu hv)⟩
          | clo h1 h2 h3 h4 => exact key h1 ⟨h2, h4⟩
  · cases h
theorem expRs_sound {dat : Bool} : ∀ {as bs : List AV} {vs : List Value} {σ σ' : Store} {μ : Mu}, SR E μ ρ σ w → VRs μ ρ as vs → expRs dat σ as = some (bs, σ') → ∃ F G μ', B2s μ' (hf w) F G bs vs ∧ Ret E μ ρ σ w F μ' σ' ∧ bs.length = as.length
  | [], bs, vs, σ, σ', μ, hs, hv, h => by
    simp only [expRs, Option.some.injEq, Prod.mk.injEq] at h
    obtain ⟨e1, e2⟩ := h; subst e1; subst e2
    have : vs = [] := List.eq_nil_of_length_eq_zero (by rw [hv.1]; rfl)
    subst this
    exact ⟨[], [], μ, .nil, .refl hs, rfl⟩
  | a :: as, bs, [], σ, σ', μ, hs, hv, h => by have := hv.1; simp at this
  | a :: as, bs, v :: vs, σ, σ', μ, hs, hv, h => by
    rw [expRs] at h
    split at h
    · cases h
    · rename_i b1 σ1 h1
      split at h
      · cases h
      · rename_i bs1 σ2 h2
        simp only [Option.some.injEq, Prod.mk.injEq] at h
        obtain ⟨e1, e2⟩ := h; subst e1; subst e2
        obtain ⟨F1, G1, μ1, a1, r1⟩ := expR1_sound hs hv.tail.1 h1
        obtain ⟨F2, G2, μ2, a2, r2, hl⟩ := expRs_sound r1.sr (hv.tail.2.mono r1.mu (RhoLe.refl ρ)) h2
        have hr := r1.trans r2
        exact ⟨F1 ++ F2, G1 ++ G2, μ2, .cons (a1.mono r2.mu fun b hb => hr.none b (by simp [hb])) a2, hr, by simp [hl]⟩
theorem expBack_sound {a b : AV} {g : Value} (hs : SR E μ ρ σ w) (hv : CR μ ρ a g) (hg : g ≠ .slice none 0 0) (h : expBack σ a = some (b, σ')) : ∃ F, B1 μ (hf w) F [g] b g ∧ Exp E μ ρ σ w F σ' := by
  unfold expBack at h
  split at h
  · obtain ⟨h3, h4⟩ := cond_some h
    simp only [Bool.and_eq_true] at h3
    have e1 := Nat.eq_of_beq_eq_true h3.1
    have e2 := Nat.eq_of_beq_eq_true h3.2
    subst e1; subst e2
    obtain ⟨F1, ty, cs, e, a1, x1, _⟩ := expOb_sound hs hv h4
    exact ⟨F1, a1, x1⟩
  · split at h
    · cases h
    · rename_i hx
      simp only [Option.some.injEq, Prod.mk.injEq] at h
      obtain ⟨e1, e2⟩ := h; subst e1; subst e2
      obtain ⟨F, a1, x1, _⟩ := expRow_sound hs hv hg hx
      exact ⟨F, a1, x1⟩
theorem expBacks_sound : ∀ {as : List AV} {bs : List AV} {G : List Value} {σ σ' : Store}, SR E μ ρ σ w → CRs μ ρ as G → (∀ g ∈ G, g ≠ .slice none 0 0) → expBacks σ as = some (bs, σ') → ∃ F, B1s μ (hf w) F G bs G ∧ Exp E μ ρ σ w F σ'
  | [], bs, G, σ, σ', hs, hv, hG, h => by
    simp only [expBacks, Option.some.injEq, Prod.mk.injEq] at h
    obtain ⟨e1, e2⟩ := h; subst e1; subst e2
    have : G = [] := List.eq_nil_of_length_eq_zero (by rw [hv.1]; rfl)
    subst this
    exact ⟨[], .nil, .refl hs⟩
  | l :: ls, bs, [], σ, σ', hs, hv, hG, h => by have := hv.1; simp at this
  | l :: ls, bs, g :: G, σ, σ', hs, hv, hG, h => by
    rw [expBacks] at h
    split at h
    · cases h
    · rename_i b1 σ1 h1
      split at h
      · cases h
      · rename_i bs1 σ2 h2
        simp only [Option.some.injEq, Prod.mk.injEq] at h
        obtain ⟨e1, e2⟩ := h; subst e1; subst e2
        obtain ⟨F1, a1, x1⟩ := expBack_sound hs hv.tail.1 (hG g (by simp)) h1
        obtain ⟨F2, a2, x2⟩ := expBacks_sound x1.sr hv.tail.2 (fun g hg => hG g (by simp [hg])) h2
        exact ⟨F1 ++ F2, .cons (G := [g]) a1 a2, x1.trans x2⟩
end
section
variable {P : Program} {E : Env} {μ : Mu} {ρ : Rho} {w : World}
def resOf (tmps : Array Value) : ResultVar → Sem Value
  | .tmp t => pure (tmps.getD t undef)
  | .cell a t => do loadVar t (← asAddr (tmps.getD a undef))
theorem results_eq (fn : Func) (tmps : Array Value) : results fn tmps = (do let vs ← fn.results.mapM (resOf tmps); pure (if h : vs.size = 1 then vs[0] else .tuple vs)) := by
  have : (fun | .tmp t => pure (tmps.getD t undef) | .cell a t => do loadVar t (← asAddr (tmps.getD a undef)) : ResultVar → Sem Value) = resOf tmps := by
    funext x; cases x <;> rfl
  rw [← this]; rfl
theorem resVals_sound {G : Nat → Value} {s : St} {a : Act} (hfr : FR μ ρ G (lookF s.fr) a) (hs : SR E μ ρ s.bl w) : ∀ {l : List ResultVar} {vs : List AV}, resVals P s l = some vs →
    ∃ vals : List Value, (l.mapM (resOf a.tmps)).run P w = .ok vals w ∧ VRs μ ρ vs vals ∧ vs.length = l.length
  | [], vs, h => by
    simp only [resVals, Option.some.injEq] at h
    subst h
    exact ⟨[], by simp, VRs.nil _ _, rfl⟩
  | .tmp t :: l, vs, h => by
    rw [resVals] at h
    split at h
    · cases h
    · rename_i vs' h'
      injection h with h; subst h
      obtain ⟨vals, h1, h2, h3⟩ := resVals_sound hfr hs h'
      have hv : VR μ ρ (tmpF s.fr t) (a.tmps.getD t undef) := getO_FR (x := .tmp t) (fun t _ => hfr t)
      refine ⟨_ :: vals, ?_, VRs.cons hv h2, by simp [h3]⟩
      rw [List.mapM_cons]
      simp only [resOf, Sem.run_bind, Sem.run_pure, Result.andThen_ok, h1]
  | .cell x t :: l, vs, h => by
    rw [resVals] at h
    split at h
    · rename_i q i j hq
      split at h
      · cases h
      · rename_i av hev
        split at h
        · cases h
        · rename_i vs' h'
          injection h with h2; subst h2
          obtain ⟨vals, r1, r2, r3⟩ := resVals_sound hfr hs h'
          have hv : VR μ ρ (tmpF s.fr x) (a.tmps.getD x undef) := getO_FR (x := .tmp x) (fun t _ => hfr t)
          rw [hq] at hv
          obtain ⟨av', e1, e2⟩ := evLoad_sound hev
          injection e1 with e1; subst e1
          obtain ⟨v, e3, e4⟩ := e2 E μ ρ _ w hv hs
          refine ⟨v :: vals, ?_, VRs.cons e4 r2, by simp [r3]⟩
          rw [List.mapM_cons]
          have hp : ∃ ad, a.tmps.getD x undef = .pointer (some ad) := by
            generalize a.tmps.getD x undef = y at hv
            cases hv with
            | c hc => cases hc with
              | d hd => cases hd
              | ptr => exact ⟨_, rfl⟩
          obtain ⟨ad, had⟩ := hp
          rw [had] at e3
          simp only [Instr.loadAt, Instr.sureAddr, Sem.run_bind, Sem.run_pure, Result.andThen_ok] at e3
          simp only [resOf, had, asAddr, Sem.run_bind, Sem.run_pure, Result.andThen_ok, e3, r1]
    · cases h
theorem results_sound {G : Nat → Value} {s : St} {a : Act} {fn : Func} {vs : List AV} (hfr : FR μ ρ G (lookF s.fr) a) (hs : SR E μ ρ s.bl w) (h : resVals P s fn.results.toList = some vs) :
    ∃ vals : List Value, (results fn a.tmps).run P w = .ok (retV vals) w ∧ VRs μ ρ vs vals ∧ vs.length = fn.results.size := by
  obtain ⟨vals, h1, h2, h3⟩ := resVals_sound hfr hs h
  refine ⟨vals, ?_, h2, by simpa using h3⟩
  have key : ∀ (s : Sem (List Value)), s.run P w = .ok vals w → (do let vs ← List.toArray <$> s; pure (if h : vs.size = 1 then vs[0] else .tuple vs) : Sem Value).run P w = .ok (retV vals) w := fun s h => by
    simp only [map_eq_pure_bind, bind_assoc, pure_bind, Sem.run_bind, h, Result.andThen_ok, Sem.run_pure]
    congr 1
    unfold retV
    simp only [List.size_toArray]
    split
    · rename_i e
      obtain ⟨x, hx⟩ := List.length_eq_one_iff.1 e
      subst hx
      rfl
    · rfl
  rw [results_eq, Array.mapM_eq_mapM_toList]
  exact key _ h1
end
end Go.Ev
namespace Go.Ev
variable [Gl]
def CallS (P : Program) (call : CallT) : Prop :=
  ∀ (f : FuncId) (bs rs : List AV), call f bs = some rs → ∃ fn, P.funcs[f]? = some fn ∧
    ∀ (w : World) (μ : Mu) (F : List Nat) (G vals : List Value), (∀ b o, μ b = some o → w.heap[b]? = some o) → B2s μ (hf w) F G bs vals → F.Nodup → (hg : Gl.ok μ) →
      Calls P f vals.toArray w fun e w' => ∃ (ra ro : List AV) (vs : List Value) (μ' : Mu) (F1 F2 : List Nat) (G1 : List Value), rs = ra ++ ro ∧ ra.length = fn.resultTypes.size ∧ e = .returned (retV vs) ∧ Frm ⟨w, (· ∈ F), μ, hg⟩ μ' w' ∧
        (∀ b o, μ' b = some o → w'.heap[b]? = some o) ∧ B2s μ' (hf w') F1 G1 ra vs ∧ B1s μ' (hf w') F2 G ro G ∧ (F1 ++ F2).Nodup ∧ ∀ b ∈ F1 ++ F2, b ∈ F ∨ w.heap.size ≤ b
theorem startFr_look : ∀ (n : Nat) (as : List AV) (t : Nat), lookF (startFr n as) t = if n ≤ t then (as[t - n]?).getD .un else .un
  | n, [], t => by simp [startFr, lookF]
  | n, a :: as, t => by
    simp only [startFr, lookF, startFr_look (n + 1) as t]
    by_cases e : n = t
    · subst e; simp
    · rw [nbeq_false e]
      simp only [cond_false]
      by_cases h : n ≤ t
      · rw [if_pos h, if_pos (by omega)]
        have : t - n = t - (n + 1) + 1 := by omega
        rw [this, List.getElem?_cons_succ]
      · rw [if_neg h, if_neg (by omega)]
theorem lookF_in {A B : List (Nat × AV)} {t : Nat} (h : ∃ a, (t, a) ∈ A) : lookF (A ++ B) t = lookF A t := by
  induction A with
  | nil => obtain ⟨a, h⟩ := h; cases h
  | cons p A ih =>
    obtain ⟨i, x⟩ := p
    simp only [List.cons_append, lookF]
    by_cases e : i = t
    · subst e
      rw [Nat.beq_refl]; rfl
    · rw [nbeq_false e]
      obtain ⟨a, h⟩ := h
      refine ih ⟨a, ?_⟩
      rcases List.mem_cons.1 h with h | h
      · injection h with h1 h2; exact absurd h1.symm e
      · exact h
theorem lookF_out {A B : List (Nat × AV)} {t : Nat} (h : ¬ ∃ a, (t, a) ∈ A) : lookF (A ++ B) t = lookF B t := by
  induction A with
  | nil => rfl
  | cons p A ih =>
    obtain ⟨i, x⟩ := p
    simp only [List.cons_append, lookF]
    have e : i ≠ t := fun e => h ⟨x, by simp [e]⟩
    rw [nbeq_false e]
    exact ih fun ⟨a, ha⟩ => h ⟨a, by simp [ha]⟩
theorem startFr_mem : ∀ (n : Nat) (as : List AV) (t : Nat) (a : AV), (t, a) ∈ startFr n as → n ≤ t ∧ t < n + as.length
  | n, [], t, a, h => by simp [startFr] at h
  | n, x :: as, t, a, h => by
    simp only [startFr, List.mem_cons, Prod.mk.injEq] at h
    rcases h with ⟨h, _⟩ | h
    · subst h; simp
    · have := startFr_mem (n + 1) as t a h
      simp; omega
theorem startFr_has : ∀ (n : Nat) (as : List AV) (t : Nat), n ≤ t → t < n + as.length → ∃ a, (t, a) ∈ startFr n as
  | n, [], t, h1, h2 => by simp at h2; omega
  | n, x :: as, t, h1, h2 => by
    by_cases e : t = n
    · subst e; exact ⟨x, by simp [startFr]⟩
    · obtain ⟨a, ha⟩ := startFr_has (n + 1) as t (by omega) (by simp at h2; omega)
      exact ⟨a, by simp [startFr, ha]⟩
section
variable {P : Program} {C : Cfg} {call : CallT} {inl : InlT} {E : Env} {μ : Mu} {ρ : Rho} {w : World}
theorem start_FR {G : Nat → Value} {vs rs : List AV} {vals gs : List Value} {n : Nat} (h : VRs μ ρ vs vals) (hr : CRs μ ρ rs gs) (hn : vs.length ≤ n) (hn' : n ≤ 1000000) (hG : ∀ i v, gs[i]? = some v → G (1000000 + i) = v) :
    FR μ ρ G (lookF (startFr 0 vs ++ startFr 1000000 rs)) { tmps := vals.toArray ++ Array.replicate (n - vals.toArray.size) undef, defers := [] } := by
  intro t
  by_cases h1 : t < vs.length
  · rw [lookF_in (startFr_has 0 vs t (Nat.zero_le _) (by omega)), startFr_look, if_pos (Nat.zero_le _), Nat.sub_zero, List.getElem?_eq_getElem h1]
    have hv : t < vals.length := by rw [h.1]; exact h1
    have : slotV G { tmps := vals.toArray ++ Array.replicate (n - vals.toArray.size) undef, defers := [] } t = vals[t] := by
      unfold slotV
      rw [if_pos (by omega)]
      simp only [Array.getD_eq_getD_getElem?]
      rw [Array.getElem?_append_left (by simpa using hv)]
      simp [hv]
    rw [this]
    exact h.2 t _ _ (List.getElem?_eq_getElem h1) (List.getElem?_eq_getElem hv)
  · have : ¬ ∃ a, (t, a) ∈ startFr 0 vs := fun ⟨a, ha⟩ => by have := startFr_mem 0 vs t a ha; omega
    rw [lookF_out this, startFr_look]
    by_cases h2 : 1000000 ≤ t
    · rw [if_pos h2]
      cases e : rs[t - 1000000]? with
      | none => exact .un
      | some r =>
        have hlt : t - 1000000 < gs.length := by rw [hr.1]; exact (List.getElem?_eq_some_iff.1 e).1
        have hg := List.getElem?_eq_getElem hlt
        have := hG _ _ hg
        rw [show 1000000 + (t - 1000000) = t by omega] at this
        unfold slotV
        rw [if_neg (by omega), this]
        exact .c (hr.2 _ _ _ e hg)
    · rw [if_neg h2]; exact .un
theorem frzL_isV (σ : Store) : ∀ {cs : List AV}, cs.all isV = true → frzL σ cs = some (cs, σ)
  | [], _ => rfl
  | c :: cs, h => by
    simp only [List.all_cons, Bool.and_eq_true] at h
    cases c with
    | v x => simp only [frzL, frz, frzL_isV σ h.2]
    | _ => cases h.1
theorem retOuts_gen {f : FuncId} {fn : Func} {nr : Nat} {s : St} {rs : List AV} (h : retOuts P C f fn nr s = some rs) : retGen P C f fn nr s = some rs := by
  unfold retOuts at h
  rcases cond_or h with ⟨hb, h1⟩ | ⟨_, h1⟩
  · clear h
    simp only [Bool.and_eq_true] at hb
    have hn := Nat.eq_of_beq_eq_true hb.2
    clear hb
    subst hn
    have hr : rootsOf s.fr ((List.range 0).map (· + 1000000)) = [] := rfl
    have key : ∀ v : AV, bigK v = some rs → resVals P s fn.results.toList = some [v] → retGen P C f fn 0 s = some rs := fun v hv hx => by
      unfold bigK at hv
      split at hv
      · rename_i cs
        obtain ⟨h3, h4⟩ := cond_some hv
        obtain rfl := Option.some.inj h4
        unfold retGen
        simp only [hx, hr, expRs, expR1, frzL_isV s.bl h3, expBacks, List.append_nil]
      · cases hv
    split at h1
    · rename_i t hl
      exact key _ h1 (by rw [hl]; rfl)
    · rename_i a t hl
      split at h1
      · rename_i l i j hp
        rw [evLoad_nat] at h1
        obtain ⟨p, hp1, hp2⟩ := Option.bind_eq_some_iff.1 h1
        refine key p.1 hp2 ?_
        have h5 : evLoad P s.bl (fun a _ => some a) t (.ptr l i j) = some p.1 := by rw [evLoad_nat, hp1]; rfl
        rw [hl]
        simp only [resVals, hp, h5]
      · cases h1
    · cases h1
  · exact h1
def okB : AV → Bool
  | .ptr _ _ _ => true
  | .sl _ _ _ _ => true
  | _ => false
theorem okB_ok {a : AV} (h : okB a = true) : okC a = true := by
  cases a <;> first | rfl | cases h
theorem expBack_okB {σ σ' : Store} {a b : AV} (h : expBack σ a = some (b, σ')) : okB a = true := by
  unfold expBack at h
  split at h
  · rfl
  · split at h
    · cases h
    · rename_i hx
      obtain ⟨_, l, k, e, _⟩ := expRow_inv hx
      rw [e]; rfl
theorem expBacks_okB : ∀ {as bs : List AV} {σ σ' : Store}, expBacks σ as = some (bs, σ') → ∀ a ∈ as, okB a = true
  | [], bs, σ, σ', h, a, ha => by cases ha
  | c :: as, bs, σ, σ', h, a, ha => by
    rw [expBacks] at h
    split at h
    · cases h
    · rename_i b1 σ1 h1
      split at h
      · cases h
      · rename_i bs1 σ2 h2
        rcases List.mem_cons.1 ha with ha | ha
        · subst ha; exact expBack_okB h1
        · exact expBacks_okB h2 a ha
theorem b1_nonnil {hp : HF} {F : List Nat} {G : List Value} {a : AV} {v : Value} (h : B1 μ hp F G a v) : ∀ g ∈ G, g ≠ .slice none 0 0 := by
  cases h with
  | c h => intro g hg; cases hg
  | ob => intro g hg e; simp at hg; rw [hg] at e; cases e
  | row h hn => intro g hg; simp at hg; rw [hg]; exact hn
theorem b1s_nonnil {hp : HF} {F : List Nat} {G : List Value} {as : List AV} {vs : List Value} (h : B1s μ hp F G as vs) : ∀ g ∈ G, g ≠ .slice none 0 0 := by
  induction h with
  | nil => intro g hg; cases hg
  | cons h _ ih =>
    intro g hg
    rcases List.mem_append.1 hg with hg | hg
    · exact b1_nonnil h g hg
    · exact ih g hg
theorem b2s_nonnil {hp : HF} {F : List Nat} {G : List Value} {as : List AV} {vs : List Value} (h : B2s μ hp F G as vs) : ∀ g ∈ G, g ≠ .slice none 0 0 := by
  induction h with
  | nil => intro g hg; cases hg
  | cons h _ ih =>
    intro g hg
    rcases List.mem_append.1 hg with hg | hg
    · cases h with
      | o h => exact b1_nonnil h g hg
      | agg h => exact b1s_nonnil h g hg
      | clo _ h => exact b1s_nonnil h g hg
    · exact ih g hg
theorem retOuts_sound {G : Nat → Value} {gs : List Value} {f : FuncId} {fn : Func} {s : St} {a : Act} {n nr : Nat} {rs : List AV} (hr : Rel E .zero G n (lookF s.fr) s.bl a w) (hnr : nr = gs.length) (hG : ∀ i v, gs[i]? = some v → G (1000000 + i) = v) (hgn : ∀ g ∈ gs, g ≠ .slice none 0 0) (h : retOuts P C f fn nr s = some rs) :
    a.defers = [] ∧ ∃ (vals : List Value) (ra ro : List AV) (μ' : Mu) (F1 F2 : List Nat) (G1 : List Value), (results fn a.tmps).run P w = .ok (retV vals) w ∧ rs = ra ++ ro ∧ ra.length = fn.results.size ∧ Frm E μ' w ∧ (∀ b o, μ' b = some o → w.heap[b]? = some o) ∧
      B2s μ' (hf w) F1 G1 ra vals ∧ B1s μ' (hf w) F2 gs ro gs ∧ (F1 ++ F2).Nodup ∧ ∀ b ∈ F1 ++ F2, E.D b ∨ E.w0.heap.size ≤ b := by
  obtain ⟨⟨μ, ρ, hf, hs, hd, _⟩, _, hsz, hdf⟩ := hr
  refine ⟨hdf, ?_⟩
  replace h := retOuts_gen h
  unfold retGen at h
  split at h
  · rename_i vs h1
    split at h
    · cases h
    · rename_i ra σ1 h3
      split at h
      · cases h
      · rename_i ro σ2 h4
        injection h with h; subst h
        obtain ⟨vals, r1, r2, r3⟩ := results_sound (P := P) (fn := fn) hf hs h1
        obtain ⟨F1, G1, μ1, b1, x1, hl⟩ := expRs_sound hs r2 h3
        have hroots : (∀ a ∈ rootsOf s.fr ((List.range nr).map (· + 1000000)), okB a = true) → CRs μ1 ρ (rootsOf s.fr ((List.range nr).map (· + 1000000))) gs := fun hok => by
          refine ⟨by simp [rootsOf, hnr], fun i u v hu hv => ?_⟩
          have hku := hok u (List.mem_of_getElem? hu)
          have hi : i < nr := by rw [hnr]; exact (List.getElem?_eq_some_iff.1 hv).1
          have hlook : lookF s.fr (1000000 + i) = u := by
            simp [rootsOf, hi, Nat.add_comm] at hu
            rw [Nat.add_comm]; exact hu
          have := hf (1000000 + i)
          rw [hlook] at this
          unfold slotV at this
          rw [if_neg (by omega), hG i v hv] at this
          exact ((this.mono x1.mu (RhoLe.refl ρ)).cell (okB_ok hku))
        replace hroots := hroots (expBacks_okB h4)
        obtain ⟨F2, b2, x2⟩ := expBacks_sound x1.sr hroots hgn h4
        have hr := x1.trans (x2.ret x1.sr)
        exact ⟨vals, ra, ro, μ1, F1, F2, G1, r1, rfl, hl.trans r3, x2.sr.base, x2.sr.imm, b1, b2, hr.nodup, fun b hb => (own_none hs (hr.own b hb).1).2.2⟩
  · cases h
theorem SR.start (himm : ∀ b o, μ b = some o → w.heap[b]? = some o) (D : Nat → Prop) (hg : Gl.ok μ) : SR ⟨w, D, μ, hg⟩ μ (fun _ => none) [] w :=
  ⟨fun l rb k h => (by cases h), fun l l' rb rb' k k' h => (by cases h), fun l rb k h => (by cases h), himm, rfl, rfl, rfl, Nat.le_refl _, fun _ _ _ => rfl, MuLe.refl μ, fun b o h => .inl h⟩
theorem evBody_sound (hmix : P.follows .mixedOrders = true) (HC : CallHyp P C call inl) (n : Nat) : CallS P (evBody P C call inl n) := by
  intro f bs rs h
  unfold evBody at h
  split at h
  · cases h
  · rename_i fn hfn
    split at h
    · rename_i c vs σ roots hb hi
      rcases cond_or h with ⟨_, h⟩ | ⟨hok, h⟩
      · cases h
      refine ⟨fn, hfn, fun w μ F G vals himm hbv hnd hg => ?_⟩
      simp only [Bool.not_eq_false', Bool.and_eq_true] at hok
      obtain ⟨⟨⟨hd1, hd2⟩, hd3⟩, hd4⟩ := hok
      have hd2 := Nat.le_of_ble_eq_true hd2
      have hd3 := Nat.le_of_ble_eq_true hd3
      have hd4 := Nat.eq_of_beq_eq_true hd4
      have hfree : Free ⟨w, (· ∈ F), μ, hg⟩ (fun _ => none) [] F := ⟨hnd, fun b _ ho => (by obtain ⟨l, rb, k, h, _⟩ := ho; cases h), fun b hb => .inl hb⟩
      obtain ⟨ρ, i1, v1, g1⟩ := impArgs_sound (m := σ.length) (SR.start himm _ hg) hbv hfree (fun _ _ _ => rfl) hi (Nat.le_refl _)
      have hvl : vs.length = bs.length := by rw [← v1.1, hbv.len]
      have hroots : roots.length = G.length := by rw [g1.1]
      have hG : ∀ (i : Nat) (v : Value), G[i]? = some v → (fun t => (G[t - 1000000]?).getD undef) (1000000 + i) = v := fun i v hv => by
        simp only [Nat.add_sub_cancel_left, hv]; rfl
      refine calls_of_wp hfn hb ?_
      have hrel : Rel ⟨w, (· ∈ F), μ, hg⟩ .zero (fun t => (G[t - 1000000]?).getD undef) fn.ntmps (lookF (startFr 0 vs ++ startFr 1000000 roots)) σ { tmps := vals.toArray ++ Array.replicate (fn.ntmps - vals.toArray.size) undef, defers := [] } w := by
        refine ⟨⟨μ, ρ, start_FR v1 g1 (by omega) hd3 hG, i1.sr, fun l rb hl => ?_, .zero _ _ _⟩, Nat.zero_le _, ?_, rfl⟩
        · rcases i1.dom l rb hl with h | ⟨_, h, _⟩
          · cases h
          · exact h
        · have := v1.1
          simp
          omega
      have fin : ∀ (s : St) (a : Act) (w' : World) (x : Exit), retOuts P C f fn roots.length s = some rs → Rel ⟨w, (· ∈ F), μ, hg⟩ .zero (fun t => (G[t - 1000000]?).getD undef) fn.ntmps (lookF s.fr) s.bl a w' → x = .normal ∨ x = .ret →
          bodyPost P fn (fun e w' => ∃ (ra ro : List AV) (vs : List Value) (μ' : Mu) (F1 F2 : List Nat) (G1 : List Value), rs = ra ++ ro ∧ ra.length = fn.resultTypes.size ∧ e = .returned (retV vs) ∧ Frm ⟨w, (· ∈ F), μ, hg⟩ μ' w' ∧
        (∀ b o, μ' b = some o → w'.heap[b]? = some o) ∧ B2s μ' (hf w') F1 G1 ra vs ∧ B1s μ' (hf w') F2 G ro G ∧ (F1 ++ F2).Nodup ∧ ∀ b ∈ F1 ++ F2, b ∈ F ∨ w.heap.size ≤ b) x a w' := fun s a w' x hret hr hx => by
        obtain ⟨hdf, vals', ra, ro, μ', F1, F2, G1, a1, a2, a3, a4, a5, a6, a7, a8, a9⟩ := retOuts_sound hr hroots hG (b2s_nonnil hbv) hret
        rcases hx with hx | hx <;> subst hx <;> exact ⟨hdf, _, a1, ra, ro, vals', μ', F1, F2, G1, a2, a3.trans hd4, rfl, a4, a5, a6, a7, a8, a9⟩
      have HL : LoopHyp P false (evLoop P C call inl (C.roll f) (C.join f) n) := fun c LE retK s r h => ⟨rfl, n, evLoop_sound hmix HC n c LE retK s r h⟩
      rcases evCode_sound hmix HC HL (fun e => by cases e) c _ _ _ _ _ h with ⟨e, s', hk, _, hw⟩ | ⟨_, outs, hk, hw⟩
      · refine wp_mono (hw _ _ _ fn.ntmps _ _ (.inr rfl) hd1 hd3 hrel) fun x a w' hq => ?_
        obtain ⟨hx, hr⟩ := hq
        cases e with
        | normal => exact fin s' a w' x hk hr (.inl hx)
        | exit id => cases hk
        | ret => exact fin s' a w' x hk hr (.inr hx)
      · refine wp_mono (hw _ _ fn.ntmps _ _ hd1 hd3 hrel) fun x a w' hq => ?_
        obtain ⟨hx, s', hret, hr⟩ := hq
        injection hk with hk; subst hk
        exact fin s' a w' x hret hr (.inr hx)
    · cases h
def InlS (P : Program) (inl : InlT) : Prop :=
  ∀ (R : Type) (f : FuncId) (args : List AV) (σ : Store) (K : List AV → Store → Option R) (r : R), inl R f args σ K = some r →
    ∃ fn vs σ', P.funcs[f]? = some fn ∧ K vs σ' = some r ∧ σ.length ≤ σ'.length ∧ vs.length = fn.resultTypes.size ∧
      ∀ (E : Env) (μ : Mu) (ρ : Rho) (vals : List Value) (w : World), VRs μ ρ args vals → SR E μ ρ σ w → DomR ρ σ.length →
        Calls P f vals.toArray w fun e w' => ∃ ws μ' ρ', e = .returned (retV ws) ∧ Grow false μ ρ σ.length w μ' ρ' σ'.length w' ∧ VRs μ' ρ' vs ws ∧ SR E μ' ρ' σ' w'
theorem inlBody_sound (hmix : P.follows .mixedOrders = true) (HC : CallHyp P C call inl) : InlS P (fun R f args σ K => inlBody P C call inl R f args σ K) := by
  intro R f args σ K r h
  simp only at h
  unfold inlBody at h
  split at h
  · cases h
  · rename_i fn hfn
    split at h
    · rename_i c hb
      rcases cond_or h with ⟨_, h⟩ | ⟨hok, h⟩
      · cases h
      simp only [Bool.not_eq_false', Bool.and_eq_true] at hok
      obtain ⟨⟨⟨hd1, hd2⟩, hd3⟩, hd4⟩ := hok
      have hd2 := Nat.le_of_ble_eq_true hd2
      have hd3 := Nat.le_of_ble_eq_true hd3
      have hd4 := Nat.eq_of_beq_eq_true hd4
      have HL : LoopHyp P true (fun _ _ _ _ => none) := fun c LE retK s r h => by cases h
      rcases evCode_sound hmix HC HL (fun _ => rfl) c _ _ _ _ _ h with ⟨e, s', hk, hlen, hw⟩ | ⟨hlf, _⟩
      · have hk' : ∃ vs, resVals P s' fn.results.toList = some vs ∧ K vs s'.bl = some r ∧ e ≠ .exit 0 ∧ (toExit e = .normal ∨ toExit e = .ret) := by
          cases e with
          | exit id => cases hk
          | normal =>
            simp only at hk
            split at hk
            · cases hk
            · rename_i vs hvs; exact ⟨vs, hvs, hk, (fun e => by cases e), .inl rfl⟩
          | ret =>
            simp only at hk
            split at hk
            · cases hk
            · rename_i vs hvs; exact ⟨vs, hvs, hk, (fun e => by cases e), .inr rfl⟩
        obtain ⟨vs, hvs, hk, _, hex⟩ := hk'
        have hvl : ∀ {l : List ResultVar} {vs : List AV}, resVals P s' l = some vs → vs.length = l.length := fun {l} => by
          induction l with
          | nil => intro vs h; simp only [resVals, Option.some.injEq] at h; subst h; rfl
          | cons x l ih =>
            intro vs h
            cases x with
            | tmp t =>
              rw [resVals] at h
              split at h
              · cases h
              · rename_i vs' h'; injection h with h; subst h; simp [ih h']
            | cell a t =>
              rw [resVals] at h
              split at h
              · split at h
                · cases h
                · split at h
                  · cases h
                  · rename_i vs' h'; injection h with h; subst h; simp [ih h']
              · cases h
        refine ⟨fn, vs, s'.bl, hfn, hk, hlen rfl, by rw [hvl hvs, ← hd4]; simp, fun E μ ρ vals w hv hs hd => calls_of_wp hfn hb ?_⟩
        have hrel : Rel E ⟨μ, ρ, σ.length, w.heap.size⟩ (fun _ => undef) fn.ntmps (lookF (startFr 0 args)) σ { tmps := vals.toArray ++ Array.replicate (fn.ntmps - vals.toArray.size) undef, defers := [] } w := by
          refine ⟨⟨μ, ρ, ?_, hs, hd, MuLe.refl μ, RhoLe.refl ρ, fun _ _ _ h => h, Nat.le_refl _⟩, Nat.le_refl _, ?_, rfl⟩
          · have := start_FR (G := fun _ => undef) (rs := []) (gs := []) hv CRs.nil hd2 hd3 (fun i v h => by simp at h)
            simpa [startFr] using this
          · have := hv.1
            simp
            omega
        refine wp_mono (hw E _ _ fn.ntmps _ _ (.inl rfl) hd1 hd3 hrel) fun x a w' hq => ?_
        obtain ⟨hx, ⟨μ', ρ', hf, hs', hdm, hsin⟩, hbase, hsz, hdf⟩ := hq
        obtain ⟨ws, r1, r2, _⟩ := results_sound (P := P) (fn := fn) hf hs' hvs
        have hpost : a.defers = [] ∧ ∃ v, (results fn a.tmps).run P w' = .ok v w' ∧ ∃ ws μ' ρ', Ending.returned v = .returned (retV ws) ∧ Grow false μ ρ σ.length w μ' ρ' s'.bl.length w' ∧ VRs μ' ρ' vs ws ∧ SR E μ' ρ' s'.bl w' := by
          refine ⟨hdf, _, r1, ws, μ', ρ', rfl, ⟨hsin.mu, hsin.rho, hlen rfl, fun l rb hl => ?_, fun e => (by cases e), hsin.size, fun e => (by cases e)⟩, r2, hs'⟩
          rcases Nat.lt_or_ge l σ.length with h1 | h1
          · exact .inl (hsin.dom l rb h1 hl)
          · exact .inr ⟨h1, hdm l rb hl, fun e => by cases e⟩
        rw [hx]
        rcases hex with hex | hex <;> rw [hex] <;> exact hpost
      · cases hlf
    · cases h
end
end Go.Ev
namespace Go.Ev
variable [Gl]
section
variable {E : Env} {μ : Mu} {ρ : Rho} {σ σ' : Store} {w : World}
theorem Roots.move {σ' : Store} {ρ' : Rho} {F : List Nat} {ls : List Nat} {gs : List Value} {os : List (Nat × List AV)} (h : Roots σ ρ F ls gs os) (hm : ∀ l g o, g ∈ gs → RootR σ ρ F l g o → RootR σ' ρ' F l g o) : Roots σ' ρ' F ls gs os := by
  induction h with
  | nil => exact .nil
  | cons h _ ih => exact .cons (hm _ _ _ (by simp) h) (ih fun l g o hg => hm l g o (by simp [hg]))
theorem Roots.len {F : List Nat} {ls : List Nat} {gs : List Value} {os : List (Nat × List AV)} (h : Roots σ ρ F ls gs os) : gs.length = ls.length ∧ os.length = ls.length := by
  induction h with
  | nil => exact ⟨rfl, rfl⟩
  | cons _ _ ih => simp [ih.1, ih.2]
def Names (g : Value) (b : Nat) : Prop := g = .pointer (some ⟨b, 0, none⟩) ∨ ∃ n c, g = .slice (some ⟨b, 0, none⟩) n c
theorem Names.inj {g : Value} {b b' : Nat} (h : Names g b) (k : Names g b') : b = b' := by
  rcases h with h | ⟨n, c, h⟩ <;> rcases k with k | ⟨n', c', k⟩ <;> rw [h] at k
  · simp only [Value.pointer.injEq, Option.some.injEq, Addr.mk.injEq, and_true] at k; exact k
  · cases k
  · cases k
  · simp only [Value.slice.injEq, Option.some.injEq, Addr.mk.injEq, and_true] at k; exact k.1
theorem RootK.names {rb : RB} {k : Blk} {g : Value} {o : Nat × List AV} (h : RootK rb k g o) : Names g rb.b := by
  rcases h with ⟨_, _, _, _, h, _⟩ | ⟨_, _, _, _, ⟨c, _, _, h⟩, _⟩
  · exact .inl h
  · exact .inr ⟨_, c, h⟩
def FormB (r : AV) : Prop := (∃ ty cs, r = .ob ty cs) ∨ ∃ t z xs, r = .tup [.ow false t z xs]
theorem roots_ptr {hp : HF} {F : List Nat} {G : List Value} {ro : List AV} {gs : List Value} (h : B1s μ hp F G ro gs) (ho : ∀ r ∈ ro, FormB r) : ∀ g ∈ gs, ∃ b ∈ F, Names g b := by
  induction h with
  | nil => intro g hg; cases hg
  | cons h1 _ ih =>
    intro g hg
    rcases List.mem_cons.1 hg with hg | hg
    · subst hg
      rcases ho _ List.mem_cons_self with ⟨ty, cs, e⟩ | ⟨t, z, xs, e⟩
      · subst e
        cases h1 with
        | c h2 => cases h2 with | d hd => cases hd
        | @ob b _ _ _ _ _ _ _ => exact ⟨b, by simp, .inl rfl⟩
      · subst e
        cases h1 with
        | c h2 => cases h2 with | d hd => cases hd
        | row h2 _ =>
          cases h2 with
          | d hd => cases hd
          | @ow b _ _ _ _ _ _ _ _ _ _ => exact ⟨b, by simp, .inr ⟨_, _, rfl⟩⟩
    · obtain ⟨b, hb, e⟩ := ih (fun r hr => ho r (by simp [hr])) g hg
      exact ⟨b, by simp [hb], e⟩
structure Back (E : Env) (μ : Mu) (ρ : Rho) (σ : Store) (w : World) (F : List Nat) (ρ' : Rho) (σ' : Store) : Prop where
  rho : RhoLe ρ ρ'
  len : σ.length ≤ σ'.length
  dom : ∀ l rb, ρ' l = some rb → ρ l = some rb ∨ (σ.length ≤ l ∧ l < σ'.length ∧ (rb.ph = true ∨ rb.b ∈ F))
  sr : SR E μ ρ' σ' w
  own : ∀ b, Own σ' ρ' b → Own σ ρ b ∨ b ∈ F
theorem back_len : ∀ {ls : List Nat} {os : List (List AV)} {σ σ' : Store}, backs σ ls os = some σ' → σ.length ≤ σ'.length
  | [], [], σ, σ', h => by
    simp only [backs, Option.some.injEq] at h
    subst h; exact Nat.le_refl _
  | [], _ :: _, σ, σ', h => by cases h
  | _ :: _, [], σ, σ', h => by cases h
  | l :: ls, cs :: os, σ, σ', h => by
    rw [backs] at h
    split at h
    · cases h
    · rename_i k hk
      rcases cond_or h with ⟨_, h⟩ | ⟨_, h⟩
      · split at h
        · rename_i cs' σ1 hx
          have := back_len h
          have := app_len (impCs_app hx)
          simp at *
          omega
        · cases h
      · split at h
        · have := back_len h
          simp at *
          omega
        · cases h
theorem back_step {F0 F1 F' : List Nat} {l : Nat} {rb : RB} {k k' : Blk} {ls : List Nat} {gs : List Value} {obs : List (Nat × List AV)} {ρ1 : Rho} {σ1 : Store} (i1 : Imp E μ ρ σ w F1 ρ1 σ1) (hF : Free E ρ σ ((rb.b :: F1) ++ F')) (c1 : ρ l = some rb) (c3 : σ[l]? = some k)
    (hb0 : BlkR μ ρ1 w k' rb) (hr2 : Roots σ ρ F0 ls gs obs) (hptr : ∀ g ∈ gs, ∃ b ∈ F', Names g b) :
    SR E μ ρ1 (σ1.set l k') w ∧ Free E ρ1 (σ1.set l k') F' ∧ Roots (σ1.set l k') ρ1 F0 ls gs obs ∧ ∀ (ρ' : Rho) (σ' : Store), Back E μ ρ1 (σ1.set l k') w F' ρ' σ' → Back E μ ρ σ w ((rb.b :: F1) ++ F') ρ' σ' := by
  have hlen1 := app_len i1.app
  have hnd := List.nodup_append.1 hF.nodup
  have hnb : rb.b ∉ F1 := (List.nodup_cons.1 hnd.1).1
  have hother : ∀ x, Own σ1 ρ1 x → x ≠ rb.b := fun x hx e => by
    subst e
    rcases i1.own _ hx with h1 | h1
    · exact hF.not _ (by simp) h1
    · exact hnb h1
  have hs2 := i1.sr.revive l k' rb (i1.rho _ _ c1) hb0 fun _ _ => ⟨hF.may _ (by simp), fun q rb' k' hne hq hk' hm' hp' => hother _ ⟨q, rb', k', hq, hk', hm', hp', rfl⟩⟩
  have hown2 : ∀ x, Own (σ1.set l k') ρ1 x → Own σ1 ρ1 x ∨ x = rb.b := fun x ⟨q, rb', k', h1, h2, h3, h4, h5⟩ => by
    rcases get_set h2 with ⟨e1, e2⟩ | ⟨_, h2⟩
    · subst e1
      rw [i1.rho _ _ c1] at h1
      injection h1 with h1; subst h1
      exact .inr h5.symm
    · exact .inl ⟨q, rb', k', h1, h2, h3, h4, h5⟩
  refine ⟨hs2, ?_, ?_, fun ρ' σ' bk => ?_⟩
  · refine ⟨hnd.2.1, fun x hx ho => ?_, fun x hx => hF.may x (by simp [hx])⟩
    rcases hown2 x ho with h1 | h1
    · rcases i1.own x h1 with h2 | h2
      · exact hF.not x (by simp [hx]) h2
      · exact hnd.2.2 x (by simp [h2]) x hx rfl
    · subst h1; exact hnd.2.2 rb.b (by simp) rb.b hx rfl
  · refine hr2.move fun l' g' o' hg' hrr => ?_
    obtain ⟨rb', kk, f1, f2, f3, f4, f5, f6⟩ := hrr
    obtain ⟨b', hb', e⟩ := hptr g' hg'
    have e := f6.names.inj e
    have hne : l ≠ l' := fun e' => by
      subst e'
      rw [c1] at f1; injection f1 with f1; subst f1
      subst e
      exact hnd.2.2 rb.b (by simp) rb.b hb' rfl
    refine ⟨rb', kk, i1.rho _ _ f1, f2, ?_, f4, f5, f6⟩
    rw [List.getElem?_set_ne hne]
    obtain ⟨τ, e⟩ := i1.app
    rw [e, List.getElem?_append_left (List.getElem?_eq_some_iff.1 f3).1]; exact f3
  · have hlen2 := bk.len
    rw [List.length_set] at hlen2
    refine ⟨i1.rho.trans bk.rho, Nat.le_trans hlen1 hlen2, fun q rq hq => ?_, bk.sr, fun x hx => ?_⟩
    · rcases bk.dom q rq hq with h1 | ⟨h1, h2, h3⟩
      · rcases i1.dom q rq h1 with h4 | ⟨h4, h5, h6⟩
        · exact .inl h4
        · exact .inr ⟨h4, Nat.lt_of_lt_of_le h5 hlen2, h6.imp id fun h => by simp [h]⟩
      · rw [List.length_set] at h1
        exact .inr ⟨Nat.le_trans hlen1 h1, h2, h3.imp id fun h => by simp [h]⟩
    · rcases bk.own x hx with h1 | h1
      · rcases hown2 x h1 with h2 | h2
        · rcases i1.own x h2 with h3 | h3
          · exact .inl h3
          · exact .inr (by simp [h3])
        · exact .inr (by simp [h2])
      · exact .inr (by simp [h1])
def FormA (o : Nat × List AV) (r : AV) (cs : List AV) : Prop := (rowT o.2 = none ∧ r = .ob o.1 cs ∧ cs.length = o.2.length) ∨ ∃ t z xs, rowT o.2 = some (t, z) ∧ r = .tup [.ow false t z xs] ∧ cs = [r] ∧ xs.length = rowLen o.2
theorem FormA.b {o : Nat × List AV} {r : AV} {cs : List AV} (h : FormA o r cs) : FormB r := by
  rcases h with ⟨_, h, _⟩ | ⟨t, z, xs, _, h, _⟩
  · exact .inl ⟨_, _, h⟩
  · exact .inr ⟨t, z, xs, h⟩
theorem backs_sound {F0 : List Nat} : ∀ {ls : List Nat} {gs : List Value} {obs : List (Nat × List AV)} {ro : List AV} {os : List (List AV)} {F : List Nat} {G : List Value} {ρ : Rho} {σ σ' : Store} {m : Nat}, SR E μ ρ σ w → Roots σ ρ F0 ls gs obs → B1s μ (hf w) F G ro gs →
    (∀ (i : Nat) (o : Nat × List AV), obs[i]? = some o → ∃ r cs, ro[i]? = some r ∧ os[i]? = some cs ∧ FormA o r cs) → Free E ρ σ F → FreshTo ρ σ.length m → backs σ ls os = some σ' → σ'.length ≤ m → ∃ ρ', Back E μ ρ σ w F ρ' σ'
  | [], gs, obs, ro, [], F, G, ρ, σ, σ', m, hs, hr, hb, hi, hF, hfr, h, hm => by
    cases hr
    cases hb
    simp only [backs, Option.some.injEq] at h
    subst h
    exact ⟨ρ, RhoLe.refl ρ, Nat.le_refl _, fun _ _ h => .inl h, hs, fun _ h => .inl h⟩
  | [], gs, obs, ro, _ :: _, F, G, ρ, σ, σ', m, hs, hr, hb, hi, hF, hfr, h, hm => by cases h
  | _ :: _, gs, obs, ro, [], F, G, ρ, σ, σ', m, hs, hr, hb, hi, hF, hfr, h, hm => by cases h
  | l :: ls, gs, obs, ro, c :: os, F, G, ρ, σ, σ', m, hs, hr, hb, hi, hF, hfr, h, hm => by
    cases hr with
    | @cons _ g o _ gs obs hr1 hr2 =>
      cases hb with
      | @cons F1 F' G1 G' r ro _ _ hb1 hb2 =>
        obtain ⟨r0, cs, e1, e2, hform⟩ := hi 0 o rfl
        simp only [List.getElem?_cons_zero, Option.some.injEq] at e1 e2
        subst e1; subst e2
        have hobs : ∀ r ∈ ro, FormB r := fun r hr => by
          obtain ⟨i, hi'⟩ := List.getElem?_of_mem hr
          have hlt : i < obs.length := by
            rw [hr2.len.2, ← hr2.len.1, hb2.len]
            exact (List.getElem?_eq_some_iff.1 hi').1
          obtain ⟨r', cs, e1, _, e3⟩ := hi (i + 1) obs[i] (by rw [List.getElem?_cons_succ]; exact List.getElem?_eq_getElem hlt)
          simp only [List.getElem?_cons_succ] at e1
          rw [hi'] at e1; injection e1 with e1
          rw [e1]; exact e3.b
        have hptr := roots_ptr hb2 hobs
        obtain ⟨rb, k, c1, c2, c3, c4, c9, hk⟩ := hr1
        rcases hform with ⟨hrt, hre, hl⟩ | ⟨t, z, xs, hrt, hre, hce, hxl⟩
        · subst hre
          rcases hk with ⟨c5, c6, c7, c8, c10, c11, c12, _⟩ | ⟨_, _, _, _, _, c13, _⟩
          · cases hb1 with
            | c h2 => cases h2 with | d hd => cases hd
            | @ob b ty F1 _ cur d1 d2 d3 =>
              simp only [Value.pointer.injEq, Option.some.injEq, Addr.mk.injEq, and_true] at c10
              subst c10
              rw [backs, c3] at h
              simp only [c5, cond_true] at h
              split at h
              · rename_i cs' σ1 hx
                have hlen1 := app_len (impCs_app hx)
                have hlen2 := back_len h
                rw [List.length_set] at hlen2
                have hF1 : Free E ρ σ F1 := ⟨(List.nodup_cons.1 (List.nodup_append.1 hF.nodup).1).2, fun x hx => hF.not x (by simp [hx]), fun x hx => hF.may x (by simp [hx])⟩
                obtain ⟨ρ1, i1, r1⟩ := impCs_sound hs d3 hF1 hfr hx (by omega)
                have hcsz : cur.size = rb.csz := by
                  have := d3.len
                  simp at this
                  rw [this, hl, c12, c8]
                have hcs' : cs'.length = rb.sz := by
                  rw [← c8, ← hcsz, ← r1.1]; simp
                have hb0 : BlkR μ ρ1 w { k with mode := 1, xs := [cs'] } rb := by
                  refine ⟨c6, c7, by rw [c7, c8, Nat.one_mul]; exact Nat.le_refl _, fun e => (by rw [c2] at e; cases e), fun _ => ⟨rfl, c8⟩, fun _ => ⟨cur, hcsz, fun e => (by rw [c5] at e; cases e), fun _ => ⟨fun e he => by simp at he; subst he; exact hcs', fun i e j c he hc => ?_⟩, .inl ⟨rfl, ⟨_, by rw [c11]; exact d1, .inl rfl⟩, d2⟩⟩⟩
                  cases i with
                  | succ i => simp at he
                  | zero =>
                    simp at he; subst he
                    have hj : j < cs'.length := (List.getElem?_eq_some_iff.1 hc).1
                    have hj' : j < cur.size := by rw [hcsz, c8, ← hcs']; exact hj
                    exact ⟨cur[j], by simp [hj'], r1.2 j c _ hc (by simp [hj'])⟩
                obtain ⟨hs2, hF2, hr2', hback⟩ := back_step i1 hF c1 c3 hb0 hr2 hptr
                rw [show k = { k with mode := k.mode } from rfl] at hs2
                obtain ⟨ρ', bk⟩ := backs_sound hs2 hr2' hb2 (fun i o ho => by simpa using hi (i + 1) o (by simpa using ho)) hF2 (by rw [List.length_set]; exact i1.fresh hfr) (by rw [c5] at *; exact h) hm
                exact ⟨ρ', hback _ _ bk⟩
              · cases h
          · rw [hrt] at c13; cases c13
        · subst hre; subst hce
          rcases hk with ⟨_, _, _, _, _, _, _, c13⟩ | ⟨c5, c6, c7, c8, ⟨cap, q1, q2, q3⟩, c13, c14⟩
          · rw [hrt] at c13; cases c13
          · rw [hrt] at c13
            simp only [Option.some.injEq, Prod.mk.injEq] at c13
            obtain ⟨e1, e2⟩ := c13
            subst e1; subst e2
            cases hb1 with
            | c h2 => cases h2 with | d hd => cases hd
            | row h2 _ =>
              cases h2 with
              | d hd => cases hd
              | @ow b cap' _ _ _ cur d1 d2 d3 d4 d5 =>
                simp only [Value.slice.injEq, Option.some.injEq, Addr.mk.injEq, and_true] at q3
                obtain ⟨q4, q5, q6⟩ := q3
                subst q4; subst q6
                rw [backs, c3] at h
                simp only [c5, cond_false] at h
                have hlx := hxl.trans c14
                have hcsz : cur.size = rb.csz := by rw [← d4, ← q2, c6]
                have hb0 : BlkR μ ρ w { k with mode := 1, xs := xs } rb :=
                  ⟨c6, by rw [c7]; exact hlx.symm, c8, fun e => (by rw [c2] at e; cases e), fun e => (by rw [c5] at e; cases e), fun _ => ⟨cur, hcsz, fun _ => by rw [c6]; exact d5, fun e => (by rw [c5] at e; cases e), .inl ⟨rfl, by rw [c5]; exact d1, d2⟩⟩⟩
                obtain ⟨hs2, hF2, hr2', hback⟩ := back_step (Imp.refl hs) hF c1 c3 hb0 hr2 hptr
                obtain ⟨ρ', bk⟩ := backs_sound hs2 hr2' hb2 (fun i o ho => by simpa using hi (i + 1) o (by simpa using ho)) hF2 (by rw [List.length_set]; exact hfr) (by rw [c5] at *; exact h) hm
                exact ⟨ρ', hback _ _ bk⟩
theorem sr_after {w' : World} {F : List Nat} {m0 m1 : Mu} {hg : Gl.ok m0} (h : SR E μ ρ σ w) (hf : Frm ⟨w, (· ∈ F), m0, hg⟩ m1 w') (hF : ∀ b ∈ F, ¬ Own σ ρ b ∧ (E.D b ∨ E.w0.heap.size ≤ b) ∧ μ b = none) : SR E μ ρ σ w' := by
  refine h.moved hf.os hf.tape hf.output hf.size fun b hb => ?_
  by_cases hbF : b ∈ F
  · exact .inr ⟨(hF b hbF).2.1, (hF b hbF).2.2, fun l rb k h1 h2 h3 h4 e => (hF b hbF).1 ⟨l, rb, k, h1, h2, h3, h4, e⟩⟩
  · exact .inl (hf.keep b hb hbF)
theorem sr_mu {μ' : Mu} (h : SR E μ ρ σ w) (hle : MuLe μ μ') (himm : ∀ b o, μ' b = some o → w.heap[b]? = some o) (ho : ∀ b, Own σ ρ b → μ' b = none) (hn : ∀ b o, μ' b = some o → μ b = some o ∨ E.D b ∨ E.w0.heap.size ≤ b) : SR E μ' ρ σ w := by
  refine ⟨fun l rb k hl hk hm => ?_, h.inj, h.ownD, himm, ⟨h.base.os, h.base.tape, h.base.output, h.base.size, h.base.keep, h.base.mu.trans hle, fun b o hb => ?_⟩⟩
  · have hb := h.blk l rb k hl hk hm
    refine ⟨hb.sz, hb.n, hb.fit, hb.ph, hb.one, fun hp => ?_⟩
    obtain ⟨cur, hc⟩ := hb.live hp
    refine ⟨cur, hc.size, fun e => (hc.rowD e).mono hle, fun e => (hc.rowO e).mono hle (RhoLe.refl ρ), ?_⟩
    rcases hc.at_ with ⟨a1, a2, a3⟩ | ⟨a1, ty, fz, a2⟩
    · exact .inl ⟨a1, a2, ho _ ⟨l, rb, k, hl, hk, a1, hp, rfl⟩⟩
    · exact .inr ⟨a1, ty, fz, hle _ _ a2⟩
  · rcases hn b o hb with h1 | h1
    · exact h.base.muNew b o h1
    · exact .inr h1
end
/-! ## Contents that refer to nothing -/
section plain
variable {μ μ' : Mu} {hp : HF}
theorem allB_mem {α : Type} {p : α → Bool} : ∀ {l : List α}, allB p l = true → ∀ a ∈ l, p a = true
  | [], _, a, ha => by cases ha
  | [x], h, a, ha => by simp at ha; subst ha; exact h
  | x :: y :: l, h, a, ha => by
    simp only [allB, Bool.and_eq_true] at h
    rcases List.mem_cons.1 ha with ha | ha
    · subst ha; exact h.1
    · exact allB_mem h.2 a ha
theorem plain_b0 {F : List Nat} {a : AV} {v : Value} (hm : MuLe μ μ') (hp' : plainC a = true) (h : B0 μ' hp F a v) : B0 μ hp F a v := by
  cases h with
  | d hd =>
    cases hd with
    | v hx => exact .d (.v hx)
    | _ => cases hp'
  | @ow b cap ty sz xs cur h1 h2 h3 h4 h5 =>
    refine .ow h1 ?_ h3 h4 ⟨h5.1, fun i e j c he hc => ?_⟩
    · cases e : μ b with
      | none => rfl
      | some o => rw [hm b o e] at h2; cases h2
    · obtain ⟨u, hu1, hu2⟩ := h5.2 i e j c he hc
      refine ⟨u, hu1, ?_⟩
      simp only [plainC, List.all_eq_true] at hp'
      have h6 := hp' e (List.mem_of_getElem? he)
      simp only [rowV, List.all_eq_true] at h6
      have h7 := h6 c (List.mem_of_getElem? hc)
      cases hu2 with
      | v hx => exact .v hx
      | _ => cases h7
  | own => exact .own
theorem plain_b0s {F : List Nat} {as : List AV} {vs : List Value} (hm : MuLe μ μ') (h : B0s μ' hp F as vs) : (∀ a ∈ as, plainC a = true) → B0s μ hp F as vs := by
  induction h with
  | nil => exact fun _ => .nil
  | cons h1 _ ih => exact fun hp => .cons (plain_b0 hm (hp _ (by simp)) h1) (ih fun a ha => hp a (by simp [ha]))
theorem plainC_row {a : AV} (h : plainC (.tup [a]) = true) : plainC a = true := by
  cases a <;> first | exact h | cases h
theorem plain_b1 {F : List Nat} {G : List Value} {a : AV} {v : Value} (hm : MuLe μ μ') (hp' : plain1 a = true) (h : B1 μ' hp F G a v) : B1 μ hp F G a v := by
  cases h with
  | c h0 =>
    refine .c (plain_b0 hm ?_ h0)
    cases h0 with
    | d hd => cases hd <;> exact hp'
    | ow => exact hp'
    | own => exact hp'
  | row h0 hn => exact .row (plain_b0 hm (plainC_row hp') h0) hn
  | @ob b _ _ _ _ h1 h2 h3 =>
    refine .ob h1 ?_ (plain_b0s hm h3 (allB_mem hp'))
    cases e : μ b with
    | none => rfl
    | some o => rw [hm b o e] at h2; cases h2
theorem plain_b1s {F : List Nat} {G : List Value} {as : List AV} {vs : List Value} (hm : MuLe μ μ') (h : B1s μ' hp F G as vs) : (∀ a ∈ as, plain1 a = true) → B1s μ hp F G as vs := by
  induction h with
  | nil => exact fun _ => .nil
  | cons h1 _ ih => exact fun hp => .cons (plain_b1 hm (hp _ (by simp)) h1) (ih fun a ha => hp a (by simp [ha]))
theorem plain_b2 {F : List Nat} {G : List Value} {a : AV} {v : Value} (hm : MuLe μ μ') (hp' : plainA a = true) (h : B2 μ' hp F G a v) : B2 μ hp F G a v := by
  cases h with
  | o h1 =>
    refine .o (plain_b1 hm ?_ h1)
    cases h1 with
    | c h0 => cases h0 with
      | d hd => cases hd <;> exact hp'
      | ow => exact hp'
      | own => exact hp'
    | ob => exact hp'
    | row => exact hp'
  | agg h1 => exact .agg (plain_b1s hm h1 (allB_mem hp'))
  | clo => cases hp'
theorem plain_b2s {F : List Nat} {G : List Value} {as : List AV} {vs : List Value} (hm : MuLe μ μ') (h : B2s μ' hp F G as vs) : (∀ a ∈ as, plainA a = true) → B2s μ hp F G as vs := by
  induction h with
  | nil => exact fun _ => .nil
  | cons h1 _ ih => exact fun hp => .cons (plain_b2 hm (hp _ (by simp)) h1) (ih fun a ha => hp a (by simp [ha]))
theorem roots_sim {F : List Nat} {G : List Value} {ro : List AV} {gs : List Value} (h : B1s μ hp F G ro gs) : ∀ {ro' : List AV}, ro'.length = ro.length →
    (∀ (i : Nat) (r r' : AV), ro[i]? = some r → ro'[i]? = some r' → (r = r' ∨ ∃ ty cs cs', r = .ob ty cs ∧ r' = .ob ty cs' ∧ Sims cs cs')) → B1s μ hp F G ro' gs := by
  induction h with
  | nil =>
    intro ro' hl _
    have : ro' = [] := List.eq_nil_of_length_eq_zero hl
    subst this; exact .nil
  | cons h1 _ ih =>
    intro ro' hl hi
    cases ro' with
    | nil => simp at hl
    | cons r' ro' =>
      refine .cons ?_ (ih (by simpa using hl) fun i r r' hr hr' => hi (i + 1) r r' (by simpa using hr) (by simpa using hr'))
      rcases hi 0 _ r' rfl rfl with e | ⟨ty, cs, cs', e1, e2, hs⟩
      · rw [← e]; exact h1
      subst e1; subst e2
      cases h1 with
      | c h0 => cases h0 with | d hd => cases hd
      | ob a1 a2 a3 => exact .ob a1 a2 (hs.b0s a3)
end plain
/-! ## Lengths -/
section len
variable {σ σ' : Store}
theorem expC_len {c a : AV} (h : expC σ c = some (a, σ')) : σ'.length = σ.length := by
  unfold expC at h
  split at h
  · obtain ⟨_, h⟩ := cond_some h
    simp only [Option.some.injEq, Prod.mk.injEq] at h; rw [h.2]
  · simp only [Option.some.injEq, Prod.mk.injEq] at h; rw [h.2]
  · split at h
    · cases h
    · obtain ⟨_, h⟩ := cond_some h
      simp only [Option.some.injEq, Prod.mk.injEq] at h; rw [← h.2]; simp
  · cases h
theorem expCs_len : ∀ {cs as : List AV} {σ σ' : Store}, expCs σ cs = some (as, σ') → σ'.length = σ.length
  | [], as, σ, σ', h => by simp only [expCs, Option.some.injEq, Prod.mk.injEq] at h; rw [h.2]
  | c :: cs, as, σ, σ', h => by
    rw [expCs] at h
    split at h
    · cases h
    · rename_i hx
      split at h
      · cases h
      · rename_i hy
        simp only [Option.some.injEq, Prod.mk.injEq] at h
        rw [← h.2, expCs_len hy, expC_len hx]
theorem expO1_len {c a : AV} {r : List Nat} (h : expO1 σ c = some (a, σ', r)) : σ'.length = σ.length := by
  unfold expO1 at h
  split at h
  · obtain ⟨_, h⟩ := cond_some h
    split at h
    · cases h
    · rename_i hx
      simp only [Option.some.injEq, Prod.mk.injEq] at h
      rw [← h.2.1]
      unfold expOb at hx
      split at hx
      · cases hx
      · obtain ⟨_, hx⟩ := cond_some hx
        split at hx
        · cases hx
        · rename_i hy
          simp only [Option.some.injEq, Prod.mk.injEq] at hx
          rw [← hx.2, expCs_len hy]; simp
  · split at h
    · cases h
    · rename_i hx
      simp only [Option.some.injEq, Prod.mk.injEq] at h
      rw [← h.2.1, expC_len hx]
theorem expOs_len : ∀ {cs as : List AV} {σ σ' : Store} {r : List Nat}, expOs σ cs = some (as, σ', r) → σ'.length = σ.length
  | [], as, σ, σ', r, h => by simp only [expOs, Option.some.injEq, Prod.mk.injEq] at h; rw [h.2.1]
  | c :: cs, as, σ, σ', r, h => by
    rw [expOs] at h
    split at h
    · cases h
    · rename_i hx
      split at h
      · cases h
      · rename_i hy
        simp only [Option.some.injEq, Prod.mk.injEq] at h
        rw [← h.2.1, expOs_len hy, expO1_len hx]
theorem expO_len {c a : AV} {r : List Nat} (h : expO σ c = some (a, σ', r)) : σ'.length = σ.length := by
  unfold expO at h
  split at h
  · split at h
    · cases h
    · rename_i hx
      simp only [Option.some.injEq, Prod.mk.injEq] at h
      rw [← h.2.1, expOs_len hx]
  · obtain ⟨_, h⟩ := cond_some' h
    split at h
    · cases h
    · rename_i hx
      simp only [Option.some.injEq, Prod.mk.injEq] at h
      rw [← h.2.1, expOs_len hx]
  · exact expO1_len h
theorem expArgs_len : ∀ {args bs : List AV} {σ σ' : Store} {m q : List Bool} {r : List Nat}, expArgs σ m q args = some (bs, σ', r) → σ'.length = σ.length ∧ (m.any id = false → σ' = σ ∧ r = [] ∧ obsOf bs = [])
  | [], bs, σ, σ', m, q, r, h => by
    cases m <;>
    · simp only [expArgs, Option.some.injEq, Prod.mk.injEq] at h
      obtain ⟨e1, e2, e3⟩ := h; subst e1; subst e2; subst e3
      exact ⟨rfl, fun _ => ⟨rfl, rfl, rfl⟩⟩
  | a :: as, bs, σ, σ', m, q, r, h => by
    rw [expArgs] at h
    split at h
    · cases h
    · rename_i b σ1 r1 h1
      split at h
      · cases h
      · rename_i bs1 σ2 r2 h2
        simp only [Option.some.injEq, Prod.mk.injEq] at h
        obtain ⟨e1, e2, e3⟩ := h; subst e1; subst e2; subst e3
        obtain ⟨l1, l2⟩ := expArgs_len h2
        rw [obsOf_cons]
        cases hm : m.headD false with
        | true =>
          rw [hm] at h1
          have hl : σ1.length = σ.length := by
            cases hq : q.headD false with
            | true =>
              rw [hq] at h1
              obtain ⟨_, l, k, _, _, _, _, _, e, _⟩ := expRow_inv h1
              rw [e]; simp
            | false => rw [hq] at h1; exact expO_len h1
          refine ⟨l1.trans hl, fun e => ?_⟩
          cases m with
          | nil => cases hm
          | cons x m => simp at hm; subst hm; simp at e
        | false =>
          rw [hm] at h1
          simp only at h1
          split at h1
          · cases h1
          · rename_i b' hb'
            simp only [Option.some.injEq, Prod.mk.injEq] at h1
            obtain ⟨e1, e2, e3⟩ := h1; subst e1; subst e2; subst e3
            refine ⟨l1, fun e => ?_⟩
            obtain ⟨q1, q2, q3⟩ := l2 (by cases m with
              | nil => rfl
              | cons x m => simp at e; simpa using e.2)
            exact ⟨q1, by rw [q2]; rfl, by rw [q3, expD_obs hb']; rfl⟩
end len
end Go.Ev
namespace Go.Ev
variable [Gl]
section
variable {P : Program} {C : Cfg} {call : CallT} {inl : InlT}
theorem ret_vr {μ : Mu} {ρ : Rho} {vs : List AV} {ws : List Value} (h : VRs μ ρ vs ws) {n : Nat} (hn : vs.length = n) : VR μ ρ (retAV n vs) (retV ws) := by
  unfold retAV retV
  by_cases e : n = 1
  · subst e
    rw [if_pos (h.1.trans hn)]
    obtain ⟨x, hx⟩ := List.length_eq_one_iff.1 hn
    obtain ⟨y, hy⟩ := List.length_eq_one_iff.1 (h.1.trans hn)
    subst hx; subst hy
    exact h.2 0 x y rfl rfl
  · have : Nat.beq n 1 = false := nbeq_false e
    rw [this, if_neg (by rw [h.1, hn]; exact e)]
    exact .tup h.1 h.2
theorem ownsAny_in {σ : Store} : ∀ {L : List Nat} {l : Nat} {k : Blk}, l ∈ L → σ[l]? = some k → k.mode = 1 → ownsAny σ L = true
  | [], l, k, h, _, _ => by cases h
  | m :: L, l, k, h, hk, hm => by
    simp only [ownsAny]
    rcases List.mem_cons.1 h with h | h
    · subst h; rw [hk]; simp [hm]
    · rw [ownsAny_in h hk hm, Bool.or_true]
theorem evCall_far (HS : CallS P call) {R : Type} {σ : Store} {K : AV → Store → Option R} {r : R} {f : FuncId} {args : List AV} {fn : Func} (hfn : P.funcs[f]? = some fn) (hinl : C.inl f = false) {bs : List AV} {σ1 : Store} {roots : List Nat}
    (hro : rowsOk (C.rw f) (C.bk f) args = true) (hexp : expArgs σ (C.rw f) (C.bk f) args = some (bs, σ1, roots)) (hlive : (lentRefs σ (C.rw f) args).all (fun l => match σ1[l]? with | some k => !(Nat.beq k.mode 0) | none => false) = true)
    (hcl : (C.cl f && ownsAny σ (lentRefs σ (C.rw f) args)) = false)
    (h : ((call f bs).bind fun rs =>
        shRs P (C.dat f) fn.resultTypes.toList 0 rs fun as =>
          shOuts (obsOf bs) fn.resultTypes.size rs fun os =>
            cond (!(ownsAny σ (lentRefs σ (C.rw f) args)) || (fn.resultTypes.any (leakT P (C.dat f)) || leakB P (obsOf bs)) || (allB plainA as && allB (allB plainC) os))
              (match backs (bif ownsAny σ (lentRefs σ (C.rw f) args) && (fn.resultTypes.any (leakT P (C.dat f)) || leakB P (obsOf bs)) then freezeAll σ1 (lentRefs σ (C.rw f) args) else σ1) roots os with
              | none => none
              | some σ2 =>
                match impArgs σ2 as with
                | none => none
                | some (vs, σ3, _) => K (retAV fn.resultTypes.size vs) σ3) none) = some r) :
    ∃ av σ', K av σ' = some r ∧ σ.length ≤ σ'.length ∧ (callQ P C f = true → ∃ τ, σ' = σ ++ τ) ∧
      ∀ (E : Env) (μ : Mu) (ρ : Rho) (vals : List Value) (w : World), vals.length = args.length → (∀ (k : Nat) (a : AV) (v : Value), args[k]? = some a → vals[k]? = some v → VR μ ρ a v) → SR E μ ρ σ w → FreshTo ρ σ.length σ'.length →
        Calls P f vals.toArray w fun e w' => ∃ v μ' ρ', e = .returned v ∧ Grow (callQ P C f) μ ρ σ.length w μ' ρ' σ'.length w' ∧ VR μ' ρ' av v ∧ SR E μ' ρ' σ' w' := by
  generalize hL : lentRefs σ (C.rw f) args = L at *
  generalize hlk : (fn.resultTypes.any (leakT P (C.dat f)) || leakB P (obsOf bs)) = leak at *
  obtain ⟨rs, hcall, hA⟩ := Option.bind_eq_some_iff.1 h
  clear h
  obtain ⟨as, hB, hasl, hass⟩ := shRs_sound hA
  clear hA
  obtain ⟨os, hC, hosl, hoss⟩ := shOuts_sound hB
  clear hB
  obtain ⟨hchk, hK⟩ := cond_some hC
  clear hC
  split at hK
  · cases hK
  rename_i σ2 hbk
  split at hK
  · cases hK
  rename_i vs σ3 rr himp
  have hq : callQ P C f = true → (C.rw f).any id = false ∧ leaky P C f fn = false := fun e => by
    simp only [callQ, hfn, hinl, Bool.false_or, Bool.not_eq_true', Bool.or_eq_false_iff] at e
    exact e
  obtain ⟨hlen1, hquiet⟩ := expArgs_len hexp
  have hqs : callQ P C f = true → σ1 = σ ∧ roots = [] ∧ obsOf bs = [] ∧ (ownsAny σ L && leak) = false := fun e => by
    obtain ⟨q1, q2⟩ := hq e
    obtain ⟨q3, q4, q5⟩ := hquiet q1
    refine ⟨q3, q4, q5, ?_⟩
    cases hc : C.cl f with
    | true => rw [hc, Bool.true_and] at hcl; rw [hcl, Bool.false_and]
    | false =>
      simp only [leaky, hc, Bool.not_false, Bool.true_and, Bool.or_eq_false_iff] at q2
      replace q2 := q2.2
      rw [← hlk, q2, q5, Bool.false_or, Bool.and_eq_false_iff]; exact .inr rfl
  generalize hσx : (bif ownsAny σ L && leak then freezeAll σ1 L else σ1) = σx at *
  have hlenx : σx.length = σ.length := by
    rw [← hσx]
    cases (ownsAny σ L && leak) with
    | true => rw [cond_true, (freezeAll_get L σ1 0).1, hlen1]
    | false => rw [cond_false, hlen1]
  have hlen2 := back_len hbk
  have hlen3 := app_len (impArgs_app himp)
  refine ⟨_, σ3, hK, by omega, fun e => ?_, fun E μ ρ vals w hvl hvv hs hfr => ?_⟩
  · obtain ⟨q1, q2, q3, q4⟩ := hqs e
    have hx : σx = σ := by rw [← hσx, q4, cond_false, q1]
    have hos : os = [] := List.eq_nil_of_length_eq_zero (by rw [hosl, q3]; rfl)
    rw [hx, q2, hos] at hbk
    simp only [backs, Option.some.injEq] at hbk
    subst hbk
    exact impArgs_app himp
  have hv : VRs μ ρ args vals := ⟨hvl, hvv⟩
  obtain ⟨F, G, x1, o1, hq0, hc⟩ := expArgs_sound hs hv hro hexp
  obtain ⟨μ', hle, hsf, hinfo, hownf⟩ := freezeAll_sound L x1.sr
  have hFo : ∀ b ∈ F, μ b = none ∧ b < w.heap.size ∧ (E.D b ∨ E.w0.heap.size ≤ b) := fun b hb => own_none hs (x1.own b hb).1
  have hFnone : ∀ b ∈ F, μ' b = none := fun b hb => by
    cases e : μ' b with
    | none => rfl
    | some o =>
      rcases hinfo b o e with h1 | ⟨l, _, rb, k, h1, h2, h3, h4, h5⟩
      · rw [(hFo b hb).1] at h1; cases h1
      · exact absurd ⟨l, rb, k, h1, h2, h3, h4, h5⟩ (x1.own b hb).2
  have hLalive : ∀ l ∈ L, ∀ k, σ[l]? = some k → k.mode ≠ 0 → σ1[l]? = some k := fun l hl k hk hm => by
    have := List.all_eq_true.1 hlive l hl
    split at this
    · rename_i k1 hk1
      obtain ⟨k0, e1, e2⟩ := x1.blk l k1 hk1
      rw [hk] at e1; injection e1 with e1; subst e1
      rcases e2 with e2 | e2
      · rw [hk1, e2]
      · rw [e2] at this; simp at this
    · cases this
  have hLf : ∀ l ∈ L, ∀ k, σ[l]? = some k → k.mode ≠ 0 → (freezeAll σ1 L)[l]? = some { k with mode := 2 } := fun l hl k hk hm => freezeAll_in L σ1 l k hl (hLalive l hl k hk hm) hm
  have hb2 : B2s μ' (hf w) F G bs vals := hc μ' hle hFnone fun k a b v h3 h4 h5 h6 => expD_b2 hsf hLf ((hv.2 k a v h4 h5).mono hle (RhoLe.refl ρ)) h6 (fun l hl => by rw [← hL]; exact lentRefs_in h3 h4 l hl) _
  obtain ⟨fn', hfn', hspec⟩ := HS f bs rs hcall
  rw [hfn] at hfn'; injection hfn' with hfn'; subst hfn'
  refine (hspec w μ' F G vals hsf.imm hb2 x1.nodup hsf.gl).mono fun e w' he => ?_
  obtain ⟨ra, ro, ws, μ'', F1, F2, G1, hrs, hral, hee, hfrm, himm, hres, houts, hnd, hmay⟩ := he
  have hmy : ∀ b ∈ F1 ++ F2, E.D b ∨ E.w0.heap.size ≤ b := fun b hb => by
    rcases hmay b hb with h1 | h1
    · exact (hFo b h1).2.2
    · exact .inr (Nat.le_trans hs.base.size h1)
  have hres' : B2s μ'' (hf w') F1 G1 as ws := b2s_sim hres (by rw [hasl, hral]; simp) fun i r a hr ha => by
    have := hass i a ha
    have hlt : i < ra.length := (List.getElem?_eq_some_iff.1 hr).1
    have hce : cellAt rs (0 + i) = r := by
      rw [Nat.zero_add, hrs, cellAt, List.getD_eq_getElem?_getD, List.getElem?_append_left hlt, hr]; rfl
    rwa [hce] at this
  let ro' : List AV := List.zipWith (fun (o : Nat × List AV) cs => match rowT o.2 with | none => AV.ob o.1 cs | some _ => cellAt cs 0) (obsOf bs) os
  have hrl := o1.len
  have hrol : ro.length = (obsOf bs).length := by rw [← houts.len, hrl.1, hrl.2]
  have hro'l : ro'.length = ro.length := by
    simp only [ro', List.length_zipWith, hosl, Nat.min_self, hrol]
  have hro' : ∀ (i : Nat) (o : Nat × List AV), (obsOf bs)[i]? = some o → ∃ r r' cs', ro[i]? = some r ∧ ro'[i]? = some r' ∧ os[i]? = some cs' ∧ FormA o r' cs' ∧ (r = r' ∨ ∃ ty cs cs', r = .ob ty cs ∧ r' = .ob ty cs' ∧ Sims cs cs') := fun i o ho => by
    obtain ⟨r, cs', a1, a2, a3⟩ := hoss i o ho
    rw [hrs, ← hral, List.getElem?_append_right (by omega), Nat.add_sub_cancel_left] at a1
    rcases a3 with ⟨b1, cs, b2, b3, b4⟩ | ⟨t, z, xs, b1, b2, b3, b4⟩
    · refine ⟨r, .ob o.1 cs', cs', a1, ?_, a2, .inl ⟨b1, rfl, by rw [b4.1, b3]⟩, .inr ⟨_, _, _, b2, rfl, b4⟩⟩
      simp only [ro', List.getElem?_zipWith, ho, a2, b1]
    · refine ⟨r, r, cs', a1, ?_, a2, .inr ⟨t, z, xs, b1, b2, b3, b4⟩, .inl rfl⟩
      subst b3
      simp only [ro', List.getElem?_zipWith, ho, a2, b1]
      rfl
  have houts' : B1s μ'' (hf w') F2 G ro' G := roots_sim houts hro'l fun i r r' hr hr' => by
    have hlt : i < (obsOf bs).length := by rw [← hrol]; exact (List.getElem?_eq_some_iff.1 hr).1
    obtain ⟨r0, r0', cs', a1, a2, _, _, a5⟩ := hro' i _ (List.getElem?_eq_getElem hlt)
    rw [hr] at a1; injection a1 with a1
    rw [hr'] at a2; injection a2 with a2
    rw [a1, a2]; exact a5
  have hinfo2 : ∀ b o, μ'' b = some o → μ' b = some o ∨ b ∈ F ∨ w.heap.size ≤ b := hfrm.muNew
  have st : ∃ μ3, MuLe μ μ3 ∧ SR E μ3 ρ σx w' ∧ B2s μ3 (hf w') F1 G1 as ws ∧ B1s μ3 (hf w') F2 G ro' G ∧ (∀ b, Own σx ρ b → Own σ1 ρ b) ∧ (callQ P C f = true → ∀ b o, μ3 b = some o → μ b = some o ∨ w.heap.size ≤ b) := by
    have general : ∀ (σy : Store), SR E μ' ρ σy w → (∀ b, Own σy ρ b → Own σ1 ρ b) → SR E μ'' ρ σy w' := fun σy hsy ho => by
      have h1 := sr_after hsy hfrm fun b hb => ⟨fun hob => (x1.own b hb).2 (ho b hob), (hFo b hb).2.2, hFnone b hb⟩
      refine sr_mu h1 hfrm.mu himm (fun b hob => ?_) fun b o hb => ?_
      · obtain ⟨n1, n2, _⟩ := own_none hsy hob
        cases e : μ'' b with
        | none => rfl
        | some o =>
          rcases hinfo2 b o e with h2 | h2 | h2
          · rw [n1] at h2; cases h2
          · exact absurd (ho b hob) (x1.own b h2).2
          · omega
      · rcases hinfo2 b o hb with h2 | h2 | h2
        · exact .inl h2
        · exact .inr (hFo b h2).2.2
        · exact .inr (.inr (Nat.le_trans hs.base.size h2))
    cases how : ownsAny σ L with
    | false =>
      have hμ : ∀ b o, μ' b = some o → μ b = some o := fun b o hb => by
        rcases hinfo b o hb with h1 | ⟨l, hl, rb, k, h1, h2, h3, h4, h5⟩
        · exact h1
        · obtain ⟨k0, e1, e2⟩ := x1.blk l k h2
          have : k0.mode = 1 := by
            rcases e2 with e2 | e2
            · rw [← e2]; exact h3
            · rw [e2] at h3; cases h3
          rw [ownsAny_in hl e1 this] at how; cases how
      have hμe : μ' = μ := by
        funext b
        cases e : μ' b with
        | none =>
          cases e2 : μ b with
          | none => rfl
          | some o => rw [hle b o e2] at e; cases e
        | some o => exact (hμ b o e).symm
      have hx : σx = σ1 := by rw [← hσx, how]; rfl
      rw [hx]
      refine ⟨μ'', hle.trans hfrm.mu, general σ1 (hμe ▸ x1.sr) (fun _ h => h), hres', houts', fun _ h => h, fun e b o hb => ?_⟩
      obtain ⟨_, q2, _⟩ := hq0 (hq e).1
      rcases hinfo2 b o hb with h2 | h2 | h2
      · exact .inl (hμ b o h2)
      · rw [q2] at h2; cases h2
      · exact .inr h2
    | true =>
      cases hlk' : leak with
      | true =>
        have hx : σx = freezeAll σ1 L := by rw [← hσx, how, hlk']; rfl
        rw [hx]
        refine ⟨μ'', hle.trans hfrm.mu, general _ hsf hownf, hres', houts', hownf, fun e => ?_⟩
        have := (hqs e).2.2.2
        rw [how, hlk'] at this; cases this
      | false =>
        have hx : σx = σ1 := by rw [← hσx, hlk', Bool.and_false]; rfl
        rw [hx]
        rw [how, hlk'] at hchk
        simp only [Bool.not_true, Bool.false_or, Bool.and_eq_true] at hchk
        obtain ⟨p1, p2⟩ := hchk
        have hmle : MuLe μ μ'' := hle.trans hfrm.mu
        refine ⟨μ, MuLe.refl μ, sr_after x1.sr hfrm fun b hb => ⟨(x1.own b hb).2, (hFo b hb).2.2, (hFo b hb).1⟩, plain_b2s hmle hres' (allB_mem p1), plain_b1s hmle houts' fun a ha => ?_, fun _ h => h, fun _ b o hb => .inl hb⟩
        obtain ⟨i, hi⟩ := List.getElem?_of_mem ha
        have hlt : i < (obsOf bs).length := by rw [← hrol, ← hro'l]; exact (List.getElem?_eq_some_iff.1 hi).1
        obtain ⟨r0, r0', cs', _, a2, a3, a4, _⟩ := hro' i _ (List.getElem?_eq_getElem hlt)
        rw [hi] at a2; injection a2 with a2; subst a2
        have hp := allB_mem p2 _ (List.mem_of_getElem? a3)
        rcases a4 with ⟨_, e, _⟩ | ⟨t, z, xs, _, e1, e2, _⟩
        · rw [e]; exact hp
        · rw [e2, e1] at hp; rw [e1]; exact hp
  obtain ⟨μ3, m1, m2, m3, m4, m5, m6⟩ := st
  have hrx : Roots σx ρ F roots G (obsOf bs) := o1.move fun l g o _ hr => by
    obtain ⟨rb, k, f1, f2, f3, f4, f5⟩ := hr
    refine ⟨rb, k, f1, f2, ?_, f4, f5⟩
    rw [← hσx]
    cases (ownsAny σ L && leak) with
    | false => exact f3
    | true =>
      rw [cond_true]
      rcases (freezeAll_get L σ1 l).2 with e | ⟨k0, e1, e2, _⟩
      · rw [e]; exact f3
      · rw [f3] at e1; injection e1 with e1; subst e1; exact absurd f4 e2
  have hFree : Free E ρ σx (F2 ++ F1) := by
    obtain ⟨n1, n2, n3⟩ := List.nodup_append.1 hnd
    refine ⟨List.nodup_append.2 ⟨n2, n1, fun a ha b hb e => n3 b hb a ha e.symm⟩, fun b hb ho => ?_, fun b hb => hmy b (by simp at hb ⊢; exact hb.symm)⟩
    rcases hmay b (by simp at hb ⊢; exact hb.symm) with h1 | h1
    · exact (x1.own b h1).2 (m5 b ho)
    · have := (own_none x1.sr (m5 b ho)).2.1
      omega
  obtain ⟨ρ2, bk⟩ := backs_sound m2 hrx m4 (fun i o ho => by
    obtain ⟨_, r', cs', _, a2, a3, a4, _⟩ := hro' i o ho
    exact ⟨r', cs', a2, a3, a4⟩) hFree.left (m := σ3.length) (by rw [hlenx]; exact hfr) hbk hlen3
  have hFree2 : Free E ρ2 σ2 F1 := by
    obtain ⟨_, n2, n3⟩ := List.nodup_append.1 hFree.nodup
    refine ⟨n2, fun b hb ho => ?_, fun b hb => hFree.may b (by simp [hb])⟩
    rcases bk.own b ho with h1 | h1
    · exact hFree.not b (by simp [hb]) h1
    · exact n3 b h1 b hb rfl
  have hfr2 : FreshTo ρ2 σ2.length σ3.length := fun l h1 h2 => by
    cases e : ρ2 l with
    | none => rfl
    | some rb =>
      rcases bk.dom l rb e with h3 | ⟨_, h3, _⟩
      · rw [hfr l (by omega) h2] at h3; cases h3
      · omega
  obtain ⟨ρ3, i3, v3, _⟩ := impArgs_sound bk.sr m3 hFree2 hfr2 himp (Nat.le_refl _)
  have hvsl : vs.length = fn.resultTypes.size := by
    rw [← v3.1, m3.len, hasl]; simp
  refine ⟨_, μ3, ρ3, hee, ⟨m1, bk.rho.trans i3.rho, by omega, fun l rb hl => ?_, fun e b hb => ?_, hfrm.size, m6⟩, ret_vr v3 hvsl, i3.sr⟩
  · have hnew : rb.ph = true ∨ rb.b ∈ F1 ++ F2 → callQ P C f = true → rb.ph = true ∨ w.heap.size ≤ rb.b := fun h1 e => by
      obtain ⟨_, q2, _⟩ := hq0 (hq e).1
      rcases h1 with h1 | h1
      · exact .inl h1
      · rcases hmay _ h1 with h2 | h2
        · rw [q2] at h2; cases h2
        · exact .inr h2
    rcases i3.dom l rb hl with h1 | ⟨h1, h2, h3⟩
    · rcases bk.dom l rb h1 with h4 | ⟨h4, h5, h6⟩
      · exact .inl h4
      · exact .inr ⟨by omega, by omega, hnew (h6.imp id fun h => by simp [h])⟩
    · exact .inr ⟨by omega, h2, hnew (h3.imp id fun h => by simp [h])⟩
  · obtain ⟨_, q2, _⟩ := hq0 (hq e).1
    exact hfrm.keep b hb (by rw [q2]; simp)
def RowS (P : Program) (f : FuncId) (g : List (List AV) → Option (List (List AV))) : Prop := ∀ xs ys, g xs = some ys → ys.length = xs.length ∧
  (xs = [] → ∀ w, Calls P f #[.slice none 0 0] w fun e w' => e = .returned (.tuple #[]) ∧ w'.heap = w.heap ∧ w'.os = w.os ∧ w'.tape = w.tape ∧ w'.output = w.output) ∧
  ∀ (μ : Mu) (w : World) (b c ty : Nat) (cur : Array Value), xs.length ≤ 1000000 → Has w b cur ty false → RowD μ 1 xs cur → xs.length ≤ c → c = cur.size →
    Calls P f #[.slice (some ⟨b, 0, none⟩) xs.length c] w fun e w' => e = .returned (.tuple #[]) ∧ ∃ cur', cur'.size = cur.size ∧ RowD μ 1 ys cur' ∧ w'.heap = (w.setRow b cur').heap ∧ w'.os = w.os ∧ w'.tape = w.tape ∧ w'.output = w.output
def mvBlk : Value → Option Nat
  | .slice (some a) _ _ => some a.block
  | _ => none
inductive OwnS (μ : Mu) (w : World) (ty sz : Nat) (xs : List (List AV)) : Value → Prop
  | nil (h : xs = []) : OwnS μ w ty sz xs (.slice none 0 0)
  | own {b cap : Nat} {cur : Array Value} (h : Has w b cur ty (fxB false sz)) (hr : RowD μ sz xs cur) (hc : xs.length ≤ cap) (hs : cap * sz = cur.size) : OwnS μ w ty sz xs (.slice (some ⟨b, 0, none⟩) xs.length cap)
inductive MvA (μ : Mu) (w : World) (B : Option Nat) : AV → Value → Prop
  | v {x : Value} (h : okC (.v x) = true) : MvA μ w B (.v x) x
  | nil {sz : Nat} : MvA μ w B (.lst true sz []) (.slice none 0 0)
  | lst {b cap ty sz : Nat} {xs : List (List AV)} {cur : Array Value} (h : Has w b cur ty (fxB false sz)) (hr : RowD μ sz xs cur) (hc : xs.length ≤ cap) (hs : cap * sz = cur.size) (hB : B ≠ some b) : MvA μ w B (.lst false sz xs) (.slice (some ⟨b, 0, none⟩) xs.length cap)
structure MvR (μ : Mu) (w : World) (B : Option Nat) (ty sz : Nat) (ys : List (List AV)) (v : Value) (w' : World) : Prop where
  os : w'.os = w.os
  tape : w'.tape = w.tape
  output : w'.output = w.output
  size : w.heap.size ≤ w'.heap.size
  keep : ∀ b, b < w.heap.size → B ≠ some b → w'.heap[b]? = w.heap[b]?
  ret : (v = .slice none 0 0 ∧ ys = [] ∧ B = none) ∨ ∃ b cap cur, v = .slice (some ⟨b, 0, none⟩) ys.length cap ∧ (B = some b ∨ w.heap.size ≤ b) ∧ (B = none → ys ≠ []) ∧ Has w' b cur ty (fxB false sz) ∧ RowD μ sz ys cur ∧ ys.length ≤ cap ∧ cap * sz = cur.size
def MvS (P : Program) (f : FuncId) (g : Nat → Nat → List (List AV) → List AV → Option (List (List AV))) : Prop := ∀ ty sz xs ds ys, g ty sz xs ds = some ys → xs.length ≤ 1000000 →
  ∀ (μ : Mu) (w : World) (sv : Value) (vals : List Value), (∀ b o, μ b = some o → w.heap[b]? = some o) → OwnS μ w ty sz xs sv → vals.length = ds.length → (∀ (k : Nat) (d : AV) (v : Value), ds[k]? = some d → vals[k]? = some v → MvA μ w (mvBlk sv) d v) →
    Calls P f (sv :: vals).toArray w fun e w' => ∃ v, e = .returned v ∧ MvR μ w (mvBlk sv) ty sz ys v w'
def UpdS (P : Program) (C : Cfg) : Prop := (GlS C ∧ PrS P C) ∧ ∀ f u, C.upd f = some u → match u with | .row g => RowS P f g | .mv g => MvS P f g
theorem prS_none (h : ∀ f, C.pr f = none) : PrS P C := fun f g e => by rw [h] at e; cases e
theorem evRow_sound {R : Type} {σ : Store} {K : AV → Store → Option R} {r : R} {f : FuncId} {args : List AV} {g : List (List AV) → Option (List (List AV))} (hU : RowS P f g) (h : evRow g σ K args = some r) :
    ∃ av σ', K av σ' = some r ∧ σ.length ≤ σ'.length ∧
      ∀ (E : Env) (μ : Mu) (ρ : Rho) (vals : List Value) (w : World), vals.length = args.length → (∀ (k : Nat) (a : AV) (v : Value), args[k]? = some a → vals[k]? = some v → VR μ ρ a v) → SR E μ ρ σ w →
        Calls P f vals.toArray w fun e w' => ∃ v, e = .returned v ∧ Grow false μ ρ σ.length w μ ρ σ'.length w' ∧ VR μ ρ av v ∧ SR E μ ρ σ' w' := by
  unfold evRow at h
  split at h
  · rename_i l
    split at h
    · cases h
    · rename_i b hb
      obtain ⟨hc, h⟩ := cond_some h
      simp only [Bool.and_eq_true, Bool.not_eq_true'] at hc
      obtain ⟨⟨hm, ho⟩, hs1⟩ := hc
      have hm := Nat.eq_of_beq_eq_true hm
      have hs1 := Nat.eq_of_beq_eq_true hs1
      split at h
      · cases h
      · rename_i ys hys
        obtain ⟨hbig, h⟩ := cond_some h
        have hbig : b.xs.length ≤ 1000000 := of_decide_eq_true hbig
        obtain ⟨hyl, hN, hU⟩ := hU _ _ hys
        refine ⟨_, _, h, by simp, fun E μ ρ vals w hvl hv hs => ?_⟩
        obtain ⟨v, rfl⟩ := List.length_eq_one_iff.1 hvl
        have ha := hv 0 _ v rfl rfl
        cases ha with
        | c hx => cases hx with
          | d hd => cases hd
          | @sln _ _ _ rb hl hn _ _ =>
            have hbl := hs.blk l rb b hl hb (by omega)
            have hx0 : b.xs = [] := List.eq_nil_of_length_eq_zero (by rw [← hbl.n]; exact hn)
            have hy0 : ys = [] := List.eq_nil_of_length_eq_zero (by rw [hyl, hx0]; rfl)
            refine (hN hx0 w).mono fun e w' he => ?_
            obtain ⟨rfl, h3, h4, h5, h6⟩ := he
            have hset : σ.set l { b with xs := ys } = σ := by rw [hy0, ← hx0]; exact set_self hb
            refine ⟨_, rfl, by simp only [List.length_set]; exact grow_same (fun e => by cases e) (by rw [h3]; exact Nat.le_refl _), .tup rfl (fun k u v hu => by cases hu), ?_⟩
            rw [hset]
            exact hs.world (fun x hx => by rw [h3]) (by rw [h3]; exact Nat.le_refl _) h4 h5 h6
          | @sl _ _ _ rb a len cap hl hp ha hlen hoff hcap hcsz =>
            have hbl := hs.blk l rb b hl hb (by omega)
            obtain ⟨cur, hc⟩ := hbl.live hp
            have hheap : Has w rb.b cur b.ty (fxB b.obj b.sz) := by
              rcases hc.at_ with ⟨_, h2, _⟩ | ⟨h3, _⟩
              · exact h2
              · omega
            have ha' : a = ⟨rb.b, 0, none⟩ := by
              rcases ha with e1 | ⟨_, e1⟩
              · rw [e1, Nat.zero_mul]
              · omega
            subst ha'
            have hlx : len = b.xs.length := by rw [hlen, ← hbl.n]; simp [cutN]
            subst hlx
            have hrow := hc.rowD ho
            rw [Nat.zero_add] at hcsz
            have hheap' : Has w rb.b cur b.ty false := by rw [show false = fxB b.obj b.sz by rw [ho, hs1]; rfl]; exact hheap
            have hr1 : rb.sz = 1 := hbl.sz.trans hs1
            rw [hr1] at hrow hcsz
            refine (hU μ w rb.b cap b.ty cur hbig hheap' hrow hcap (by rw [hc.size]; omega)).mono fun e w' he => ?_
            obtain ⟨rfl, cur', h1, h2, h3, h4, h5, h6⟩ := he
            have hw := hs.write hl hb hm hp ys cur cur' hheap hc.size (h1.trans hc.size) hyl (fun _ => by rw [hr1]; exact h2) (fun e => by rw [ho] at e; cases e)
            have hsz : w'.heap.size = w.heap.size := by rw [h3]; simp
            refine ⟨_, rfl, by simp only [List.length_set]; exact grow_same (fun e => by cases e) (by omega), .tup rfl (fun k u v hu => by cases hu), hw.world (fun x hx => by rw [h3]) (by rw [h3]; exact Nat.le_refl _) h4 h5 h6⟩
      
  · cases h
theorem mapM_all {α β : Type} {f : α → Option β} : ∀ {l : List α} {r : List β}, l.mapM f = some r → r.length = l.length ∧ ∀ (k : Nat) (a : α) (b : β), l[k]? = some a → r[k]? = some b → f a = some b
  | [], r, h => by
    rw [List.mapM_nil] at h
    cases h
    exact ⟨rfl, fun k a b ha => by cases ha⟩
  | x :: l, r, h => by
    rw [List.mapM_cons] at h
    cases hx : f x with
    | none => rw [hx] at h; cases h
    | some y =>
      rw [hx] at h
      cases hl : l.mapM f with
      | none => rw [hl] at h; cases h
      | some ys =>
        rw [hl] at h
        cases h
        obtain ⟨h1, h2⟩ := mapM_all hl
        refine ⟨by rw [List.length_cons, List.length_cons, h1], fun k a b ha hb => ?_⟩
        cases k with
        | zero => cases ha; cases hb; exact hx
        | succ k => exact h2 k a b ha hb
theorem own_of {E : Env} {μ : Mu} {ρ : Rho} {σ : Store} {w : World} {nil : Bool} {l : Nat} {b : Blk} {v : Value} (hs : SR E μ ρ σ w) (hb : σ[l]? = some b) (hm : b.mode = 1) (ho : b.obj = false) (ha : VR μ ρ (.sl nil l 0 none) v) :
    (nil = true ∧ v = .slice none 0 0 ∧ b.xs = []) ∨ ∃ rb cap cur, nil = false ∧ ρ l = some rb ∧ rb.ph = false ∧ v = .slice (some ⟨rb.b, 0, none⟩) b.xs.length cap ∧ Has w rb.b cur b.ty (fxB false b.sz) ∧ RowD μ b.sz b.xs cur ∧ b.xs.length ≤ cap ∧ cap * b.sz = cur.size := by
  cases ha with
  | c hx => cases hx with
    | d hd => cases hd
    | @sln _ _ _ rb hl hn _ _ =>
      have hbl := hs.blk l rb b hl hb (by omega)
      exact .inl ⟨rfl, rfl, List.eq_nil_of_length_eq_zero (by rw [← hbl.n]; exact hn)⟩
    | @sl _ _ _ rb a len cap hl hp ha hlen hoff hcap hcsz =>
      have hbl := hs.blk l rb b hl hb (by omega)
      obtain ⟨cur, hc⟩ := hbl.live hp
      have hheap : Has w rb.b cur b.ty (fxB b.obj b.sz) := by
        rcases hc.at_ with ⟨_, h2, _⟩ | ⟨h3, _⟩
        · exact h2
        · omega
      rw [ho] at hheap
      have ha' : a = ⟨rb.b, 0, none⟩ := by
        rcases ha with e1 | ⟨_, e1⟩
        · rw [e1, Nat.zero_mul]
        · omega
      subst ha'
      have hlx : len = b.xs.length := by rw [hlen, ← hbl.n]; simp [cutN]
      subst hlx
      have hrow := hc.rowD ho
      rw [Nat.zero_add] at hcsz
      rw [hbl.sz] at hrow hcsz
      exact .inr ⟨rb, cap, cur, rfl, hl, hp, rfl, hheap, hrow, hcap, by rw [hcsz, hc.size]⟩
theorem evMv_sound {R : Type} {σ : Store} {K : AV → Store → Option R} {r : R} {f : FuncId} {args : List AV} {g : Nat → Nat → List (List AV) → List AV → Option (List (List AV))} (hU : MvS P f g) (h : evMv g σ K args = some r) :
    ∃ av σ', K av σ' = some r ∧ σ.length ≤ σ'.length ∧
      ∀ (E : Env) (μ : Mu) (ρ : Rho) (vals : List Value) (w : World), vals.length = args.length → (∀ (k : Nat) (a : AV) (v : Value), args[k]? = some a → vals[k]? = some v → VR μ ρ a v) → SR E μ ρ σ w → FreshTo ρ σ.length σ'.length →
        Calls P f vals.toArray w fun e w' => ∃ v ρ', e = .returned v ∧ Grow false μ ρ σ.length w μ ρ' σ'.length w' ∧ VR μ ρ' av v ∧ SR E μ ρ' σ' w' := by
  unfold evMv at h
  split at h
  · rename_i nil l rest
    split at h
    · cases h
    · rename_i b hb
      obtain ⟨hc, h⟩ := cond_some h
      simp only [Bool.and_eq_true, Bool.not_eq_true'] at hc
      obtain ⟨hm, ho⟩ := hc
      have hm := Nat.eq_of_beq_eq_true hm
      split at h
      · cases h
      · rename_i ds hds
        split at h
        · cases h
        · rename_i ys hys
          obtain ⟨hbig, h⟩ := cond_some h
          have hbig : b.xs.length ≤ 1000000 := of_decide_eq_true hbig
          refine ⟨_, _, h, by simp, fun E μ ρ vals w hvl hv hs hf => ?_⟩
          cases vals with
          | nil => cases hvl
          | cons sv vals =>
            have hvl : vals.length = rest.length := by simpa using hvl
            have ha := hv 0 _ sv rfl rfl
            have hv' : ∀ (k : Nat) (a : AV) (v : Value), rest[k]? = some a → vals[k]? = some v → VR μ ρ a v := fun k a v h1 h2 => hv (k + 1) a v h1 h2
            obtain ⟨hdl, hda⟩ := mapM_all hds
            have how := own_of hs hb hm ho ha
            have hfr : Fresh ρ σ := hf.fresh (by simp)
            have hOwn : OwnS μ w b.ty b.sz b.xs sv := by
              rcases how with ⟨_, h2, h3⟩ | ⟨rb, cap, cur, _, _, _, h2, h3, h4, h5, h6⟩
              · rw [h2]; exact .nil h3
              · rw [h2]; exact .own h3 h4 h5 h6
            have hArgs : ∀ (k : Nat) (d : AV) (v : Value), ds[k]? = some d → vals[k]? = some v → MvA μ w (mvBlk sv) d v := fun k d v hd hvk => by
              have hlt : k < rest.length := by have := (List.getElem?_eq_some_iff.1 hd).1; omega
              obtain ⟨a, hak⟩ : ∃ a, rest[k]? = some a := ⟨_, List.getElem?_eq_getElem hlt⟩
              have hma := hda k a d hak hd
              have hva := hv' k a v hak hvk
              unfold mvArg at hma
              split at hma
              · rename_i x
                obtain ⟨hok, hma⟩ := cond_some hma
                cases hma
                cases hva with
                | c hx => cases hx with
                  | d hd => cases hd with
                    | v _ => exact .v hok
                | sk => simp [okC] at hok
              · rename_i nl m
                split at hma
                · rename_i b2 hb2
                  obtain ⟨hc2, hma⟩ := cond_some hma
                  cases hma
                  simp only [Bool.and_eq_true, Bool.not_eq_true'] at hc2
                  obtain ⟨⟨hm2, ho2⟩, hne⟩ := hc2
                  have hm2 := Nat.eq_of_beq_eq_true hm2
                  have hne : m ≠ l := fun e => by rw [e, Nat.beq_refl] at hne; cases hne
                  rcases own_of hs hb2 hm2 ho2 hva with ⟨e1, e2, e3⟩ | ⟨rb2, cap2, cur2, e1, e2, e3, e4, e5, e6, e7, e8⟩
                  · rw [e1, e2, e3]; exact .nil
                  · rw [e1, e4]
                    refine .lst e5 e6 e7 e8 ?_
                    rcases how with ⟨_, h2, _⟩ | ⟨rb, cap, cur, _, q1, q2, h2, _⟩
                    · rw [h2]; intro e; cases e
                    · rw [h2]
                      intro e
                      have e : rb.b = rb2.b := Option.some.inj e
                      exact hne (hs.inj m l rb2 rb b2 b e2 q1 hb2 hb hm2 hm e3 q2 e.symm)
                · cases hma
              · cases hma
            refine (hU b.ty b.sz b.xs ds ys hys hbig μ w sv vals hs.imm hOwn (by omega) hArgs).mono fun e w' he => ?_
            obtain ⟨v, rfl, hr⟩ := he
            have hkl := hs.kill l { b with mode := 0 } rfl
            have hother : ∀ (B : Nat), mvBlk sv = some B → (E.D B ∨ E.w0.heap.size ≤ B) ∧ μ B = none ∧ ∀ m rb' k1, ρ m = some rb' → (σ.set l { b with mode := 0 })[m]? = some k1 → k1.mode = 1 → rb'.ph = false → rb'.b ≠ B := fun B hB => by
              rcases how with ⟨_, h2, _⟩ | ⟨rb, cap, cur, _, q1, q2, h2, _⟩
              · rw [h2] at hB; cases hB
              · rw [h2] at hB
                have hB : rb.b = B := Option.some.inj hB
                subst hB
                have hbl := hs.blk l rb b q1 hb (by omega)
                obtain ⟨c0, hc0⟩ := hbl.live q2
                have hmu : μ rb.b = none := by
                  rcases hc0.at_ with ⟨_, _, h3⟩ | ⟨h3, _⟩
                  · exact h3
                  · omega
                refine ⟨hs.ownD l rb b q1 hb hm q2, hmu, fun m rb' k1 hm' hk1 hm1 hp1 he => ?_⟩
                rcases get_set hk1 with ⟨_, e2⟩ | ⟨hne, hk1⟩
                · subst e2; cases hm1
                · exact hne (hs.inj m l rb' rb k1 b hm' q1 hk1 hb hm1 hm hp1 q2 he)
            have hmv : SR E μ ρ (σ.set l { b with mode := 0 }) w' := hkl.moved hr.os hr.tape hr.output hr.size fun x hx => by
              by_cases e : mvBlk sv = some x
              · exact .inr (hother x e)
              · exact .inl (hr.keep x hx e)
            have hlenk : (σ.set l { b with mode := 0 }).length = σ.length := by simp
            have hfrk : Fresh ρ (σ.set l { b with mode := 0 }) := by unfold Fresh; rw [hlenk]; exact hfr
            rcases hr.ret with ⟨q1, q2, q3⟩ | ⟨B, cap, cur, q1, q2, q3, q4, q5, q6, q7⟩
            · have hnil : nil = true := by
                rcases how with ⟨e1, _⟩ | ⟨rb, c, cu, _, _, _, h2, _⟩
                · exact e1
                · rw [h2] at q3; cases q3
              obtain ⟨_, hs'⟩ := hmv.phantom hfrk b.ty b.sz
              rw [hlenk] at hs'
              rw [q1, q2, hnil]
              exact ⟨_, _, rfl, grow_set hfr _ _ _ w' (fun e => by cases e) (fun e => by cases e) hr.size, .c (.sln (rhoAdd_same ρ σ.length ⟨0, 0, b.sz, 0, true⟩) rfl rfl (fun n hn => by cases hn)), hs'⟩
            · have hflag : (nil && ys.isEmpty) = false := by
                rcases how with ⟨e1, h2, _⟩ | ⟨rb, c, cu, e1, _⟩
                · have := q3 (by rw [h2]; rfl)
                  cases ys with
                  | nil => exact absurd rfl this
                  | cons y ys => simp
                · rw [e1]; rfl
              have hBf : (E.D B ∨ E.w0.heap.size ≤ B) ∧ μ B = none ∧ ∀ m rb' k1, ρ m = some rb' → (σ.set l { b with mode := 0 })[m]? = some k1 → k1.mode = 1 → rb'.ph = false → rb'.b ≠ B := by
                rcases q2 with e | e
                · exact hother B e
                · refine ⟨.inr (Nat.le_trans hs.base.size e), ?_, fun m rb' k1 h1 h2 h3 h4 h5 => ?_⟩
                  · cases hmu : μ B with
                    | none => rfl
                    | some o =>
                      have := (Array.getElem?_eq_some_iff.1 (hs.imm B o hmu)).1
                      omega
                  · have := hkl.own_lt h1 h2 h3 h4
                    omega
              have h3 := hmv.add hfrk ⟨1, b.ty, b.sz, false, ys⟩ ⟨B, cur.size, b.sz, ys.length, false⟩ ⟨rfl, rfl, by show ys.length * b.sz ≤ cur.size; rw [← q7]; exact Nat.mul_le_mul_right _ q6, fun e => (by cases e), fun e => (by cases e), fun _ => ⟨cur, rfl, fun _ => q5, fun e => (by cases e), .inl ⟨rfl, q4, hBf.2.1⟩⟩⟩
                fun _ _ => ⟨hBf.1, hBf.2.2⟩
              rw [hlenk] at h3
              rw [q1, hflag]
              refine ⟨_, _, rfl, grow_set hfr _ _ _ w' (fun e => by cases e) (fun e => by cases e) hr.size, .c (.sl (rhoAdd_same ρ σ.length ⟨B, cur.size, b.sz, ys.length, false⟩) rfl (.inl (by simp)) (by simp [cutN]) (by simp) q6 (by simpa using q7)), h3.2⟩
  · cases h
theorem evUpd_sound {R : Type} {σ : Store} {K : AV → Store → Option R} {r : R} {f : FuncId} {args : List AV} (hU : UpdS P C) {u : Upd} (hg : C.upd f = some u) (h : evUpd u σ K args = some r) :
    ∃ av σ', K av σ' = some r ∧ σ.length ≤ σ'.length ∧
      ∀ (E : Env) (μ : Mu) (ρ : Rho) (vals : List Value) (w : World), vals.length = args.length → (∀ (k : Nat) (a : AV) (v : Value), args[k]? = some a → vals[k]? = some v → VR μ ρ a v) → SR E μ ρ σ w → FreshTo ρ σ.length σ'.length →
        Calls P f vals.toArray w fun e w' => ∃ v ρ', e = .returned v ∧ Grow false μ ρ σ.length w μ ρ' σ'.length w' ∧ VR μ ρ' av v ∧ SR E μ ρ' σ' w' := by
  have hU := hU.2 f u hg
  cases u with
  | row g =>
    obtain ⟨av, σ', k1, k2, k3⟩ := evRow_sound hU h
    exact ⟨av, σ', k1, k2, fun E μ ρ vals w h1 h2 h3 _ => (k3 E μ ρ vals w h1 h2 h3).mono fun e w' ⟨v, a, b, c, d⟩ => ⟨v, ρ, a, b, c, d⟩⟩
  | mv g => exact evMv_sound hU h
theorem nrm1_vr {μ : Mu} {ρ : Rho} (t : TypeId) {a : AV} {v : Value} (h : VR μ ρ a v) : VR μ ρ (nrm1 P t a) v := by
  cases a with
  | lst b s xs =>
    show VR μ ρ (bif Nat.beq s 0 then _ else _) v
    cases Nat.beq s 0 with
    | false => exact h
    | true =>
      simp only [cond_true]
      split
      · split
        · cases h with
          | c h =>
            cases h with
            | d h =>
              cases h with
              | lst vals hnil hA hc hsz hcell hv =>
                exact .c (.d (.lst (xs := []) vals hnil hA hc (fun e he => by cases he) (fun a ha k j hk => absurd hk (Nat.not_lt_zero _)) (fun k e j u hk => by simp at hk)))
        · exact h
      · exact h
  | _ => exact h
theorem nrmA_vr {μ : Mu} {ρ : Rho} : ∀ (ts : List TypeId) (as : List AV) (vals : List Value), vals.length = as.length → (∀ (k : Nat) (a : AV) (v : Value), as[k]? = some a → vals[k]? = some v → VR μ ρ a v) →
    vals.length = (nrmA P ts as).length ∧ (∀ (k : Nat) (a : AV) (v : Value), (nrmA P ts as)[k]? = some a → vals[k]? = some v → VR μ ρ a v)
  | [], [], vals, hl, h => ⟨hl, h⟩
  | [], _ :: _, vals, hl, h => ⟨hl, h⟩
  | _ :: _, [], vals, hl, h => ⟨hl, h⟩
  | t :: ts, a :: as, [], hl, h => by simp at hl
  | t :: ts, a :: as, v :: vals, hl, h => by
    obtain ⟨h1, h2⟩ := nrmA_vr ts as vals (by simpa using hl) fun k a v ha hv => h (k + 1) a v (by simpa using ha) (by simpa using hv)
    refine ⟨by show vals.length + 1 = (nrmA P ts as).length + 1; rw [h1], fun k a' v' ha hv => ?_⟩
    cases k with
    | zero =>
      have e1 : nrm1 P t a = a' := by simpa [nrmA] using ha
      have e2 : v = v' := by simpa using hv
      rw [← e1, ← e2]
      exact nrm1_vr t (h 0 a v rfl rfl)
    | succ k => exact h2 k a' v' (by simpa [nrmA] using ha) (by simpa using hv)
theorem evCall_sound (hU : UpdS P C) (HS : CallS P call) (HI : InlS P inl) : CallHyp P C call inl := by
  refine ⟨hU.1, ?_⟩
  intro R σ K r f args h
  unfold evCall at h
  split at h
  · cases h
  · rename_i fn hfn
    obtain ⟨hb, h⟩ := cond_some' h
    simp only [Bool.or_eq_false_iff] at hb
    split at h
    · rename_i g hg
      obtain ⟨av, σ', k1, k2, k3⟩ := evUpd_sound hU hg h
      have hq : callQ P C f = false := by simp only [callQ, hfn, leaky, hg, Option.isSome_some, Bool.true_or, Bool.or_true, Bool.not_true]
      refine ⟨av, σ', k1, k2, fun e => (by rw [hq] at e; cases e), ⟨fn, hfn, hb⟩, fun E μ ρ vals w hvl hv hs hf _ => ?_⟩
      refine (k3 E μ ρ vals w hvl hv hs hf).mono fun e w' he => ?_
      obtain ⟨v, ρ', e1, e2, e3, e4⟩ := he
      exact ⟨v, μ, ρ', e1, by rw [hq]; exact e2, e3, e4⟩
    rcases cond_or h with ⟨hinl, h⟩ | ⟨hinl, h⟩
    · obtain ⟨fn', vs, σ', e1, e2, e3, e4, e5⟩ := HI R f args σ _ r h
      rw [hfn] at e1; injection e1 with e1; subst e1
      have hq : callQ P C f = false := by simp only [callQ, hfn, hinl, Bool.true_or, Bool.not_true]
      refine ⟨_, σ', e2, e3, fun e => (by rw [hq] at e; cases e), ⟨fn, hfn, hb⟩, fun E μ ρ vals w hvl hv hs _ hd => ?_⟩
      refine (e5 E μ ρ vals w ⟨hvl, hv⟩ hs (hd hq (by simp only [isMv, *]))).mono fun e w' he => ?_
      obtain ⟨ws, μ', ρ', a1, a2, a3, a4⟩ := he
      exact ⟨_, μ', ρ', a1, by rw [hq]; exact a2, ret_vr a3 e4, a4⟩
    · obtain ⟨hro, h⟩ := cond_some h
      split at h
      · cases h
      · rename_i bs σ1 roots hexp
        obtain ⟨hlive, h⟩ := cond_some' h
        obtain ⟨hcl, h⟩ := cond_some' h
        obtain ⟨av, σ', k1, k2, k3, k4⟩ := evCall_far HS hfn hinl hro hexp (by simp only [Bool.not_eq_false'] at hlive; exact hlive) hcl h
        exact ⟨av, σ', k1, k2, k3, ⟨fn, hfn, hb⟩, fun E μ ρ vals w hvl hv hs hf _ => k4 E μ ρ vals w (nrmA_vr _ args vals hvl hv).1 (nrmA_vr _ args vals hvl hv).2 hs hf⟩
theorem inlD_sound (hmix : P.follows .mixedOrders = true) (hU : UpdS P C) (HS : CallS P call) : ∀ k, InlS P (inlD P C call k)
  | 0 => fun R f args σ K r h => by cases h
  | k + 1 => inlBody_sound hmix (evCall_sound hU HS (inlD_sound hmix hU HS k))
def ExtS (P : Program) (C : Cfg) : Prop := (CallS P fun f as => evTop C f as none) ∧ UpdS P C
theorem top_sound (hx : ExtS P C) (HS : CallS P call) : CallS P fun f as => evTop C f as (call f as) := fun f bs rs e => by
  cases h : C.ext f with
  | none => simp only [evTop, h] at e; exact HS f bs rs e
  | some g => exact hx.1 f bs rs (by simp only [evTop, h] at e ⊢; exact e)
theorem evF_sound (hmix : P.follows .mixedOrders = true) (hx : ExtS P C) : ∀ n, CallS P (evF P C n)
  | 0 => fun f bs rs h => by cases h
  | n + 1 => top_sound hx (evBody_sound hmix (evCall_sound hx.2 (evF_sound hmix hx n) (inlD_sound hmix hx.2 (evF_sound hmix hx n) 5)) n)
end
end Go.Ev
