/- Statements of the parser. -/
import Derived.Test.YtcinngpelbdopaaPrs3
set_option linter.all false
namespace Go.Proofs.Ytcinngpelbdopaa
open Go.Ev
attribute [local congr] bind_first cond_first
def colW : List B := [[97], [98], [99]]
def opW : List B := [[], [61], [33, 61], [60], [60, 61], [62], [62, 61]]
def nameW : List B := [[], [105, 110, 115, 101, 114, 116], [115, 101, 116], [97, 100, 100], [100, 101, 108, 101, 116, 101], [103, 101, 116], [115, 99, 97, 110], [99, 111, 117, 110, 116], [115, 117, 109], [99, 104, 101, 99, 107]]
def rdT (l : B) : Rd (Int × Int × Int) := bindR (rdW colW l) fun c => bindR (rdW opW l) fun o => bindR (rdV l) fun v => pureR (c, o, v)
def whereW : B := [119, 104, 101, 114, 101]
def limitW : B := [108, 105, 109, 105, 116]
/-- A part of a statement. -/
def rdPart (p : Int) (s : Stm) (l : B) : Rd Stm :=
  if p = 0 then bindR (rdI 1 4294967294 l) fun v => pureR { s with key := v }
  else if p = 1 then bindR (rdI s.key 4294967294 l) fun v => pureR { s with last := v }
  else if p = 2 then bindR (rdV l) fun a => bindR (rdV l) fun b => bindR (rdV l) fun c => pureR { s with c0 := a, c1 := b, c2 := c }
  else if p = 3 then bindR (rdW colW l) fun c => pureR { s with col := c }
  else if p = 4 then bindR (rdV l) fun v => pureR { s with v := v }
  else if p = 5 then bindR (rdT l) fun t => pureR { s with wc := t.1, wo := t.2.1, wv := t.2.2 }
  else if p = 6 then bindR (rdO whereW l) fun b => if b then bindR (rdT l) fun t => pureR { s with wc := t.1, wo := t.2.1, wv := t.2.2 } else pureR s
  else if p = 7 then bindR (rdO limitW l) fun b => if b then bindR (rdI 1 64 l) fun v => pureR { s with lim := v } else pureR s
  else pureR s
def rdParts (l : B) : List Int → Stm → Rd Stm
  | [], s => pureR s
  | p :: ps, s => bindR (rdPart p s l) fun t => rdParts l ps t
def rdStm (l : B) : Rd Stm := bindR (rdW nameW l) fun k => rdParts l (parts k) (stm0 k)
theorem good_V (l : B) : good l (rdV l) := good_I _ _ l
theorem good_T (l : B) : good l (rdT l) := good_bind (good_W _ l) fun _ => good_bind (good_W _ l) fun _ => good_bind (good_I _ _ l) fun _ => good_pure _
theorem good_Part (p : Int) (s : Stm) (l : B) : good l (rdPart p s l) := by
  unfold rdPart
  repeat' split
  · exact good_bind (good_I _ _ l) fun _ => good_pure _
  · exact good_bind (good_I _ _ l) fun _ => good_pure _
  · exact good_bind (good_I _ _ l) fun _ => good_bind (good_I _ _ l) fun _ => good_bind (good_I _ _ l) fun _ => good_pure _
  · exact good_bind (good_W _ l) fun _ => good_pure _
  · exact good_bind (good_I _ _ l) fun _ => good_pure _
  · exact good_bind (good_T l) fun _ => good_pure _
  · exact good_bind (good_O _ l) fun b => by cases b; exact good_pure _; exact good_bind (good_T l) fun _ => good_pure _
  · exact good_bind (good_O _ l) fun b => by cases b; exact good_pure _; exact good_bind (good_I _ _ l) fun _ => good_pure _
  · exact good_pure _
theorem good_Parts (l : B) : ∀ (ps : List Int) (s : Stm), good l (rdParts l ps s)
  | [], s => good_pure _
  | p :: ps, s => good_bind (good_Part p s l) fun t => good_Parts l ps t
theorem good_Stm (l : B) : good l (rdStm l) := good_bind (good_W _ l) fun _ => good_Parts l _ _
/-- Behind a reader, a value is made. -/
theorem adv_map {α β : Type} {f : Rd α} {g : α → β} {p : Nat × Int} {a : α} (h : vok f p a) : adv (bindR f fun x => pureR (g x)) p = adv f p := by
  rw [← adv_seq h, adv_pure]
theorem vok_map {α β : Type} {f : Rd α} {g : α → β} {p : Nat × Int} {a : α} (h : vok f p a) : vok (bindR f fun x => pureR (g x)) p (g a) := vok_seq h (vok_pure _ _)
theorem vok_any {α : Type} {f : Rd α} {p : Nat × Int} {a b : α} (h : vok f p a) (e : p.2 = 0 → ∀ a' m, f p.1 = .ok (a', m) → a = a' → b = a') : vok f p b := fun h0 a' m hm => e h0 a' m hm (h h0 a' m hm)
theorem rdI_range {lo hi : Int} {l : B} {n : Nat} {v : Int} {m : Nat} (h : rdI lo hi l n = .ok (v, m)) : lo ≤ v ∧ v ≤ hi := by
  unfold rdI at h
  cases hx : num (wd l n) with
  | none => rw [hx] at h; cases h
  | some x =>
    rw [hx] at h
    simp only at h
    split at h
    · rename_i hr
      injection h with h
      injection h with h _
      subst h; exact hr
    · cases h
section
variable {l : B} (hl : l.length ≤ 1000000) (ha : okTxt l)
include hl ha
theorem s_condition86 (p : Nat × Int) (hp : inv l p) : ∃ c o v : Int, ev 86 [pP l p] = some [.agg [.v (.int .i64 c), .v (.int .i64 o), .v (.int .i64 v)], pP l (adv (rdT l) p)] ∧ (i64ok c ∧ i64ok o ∧ i64ok v) ∧ vok (rdT l) p (c, o, v) := by
  obtain ⟨c, h1, hc, v1⟩ := s_choice hl ha colW false (by decide) p hp
  have i1 := good_inv (good_W colW l) hp
  obtain ⟨o, h2, ho, v2⟩ := s_choice hl ha opW false (by decide) _ i1
  have i2 := good_inv (good_W opW l) i1
  obtain ⟨v, h3, hv, v3⟩ := s_value hl ha _ i2
  have e : adv (rdT l) p = adv (rdV l) (adv (rdW opW l) (adv (rdW colW l) p)) := by
    unfold rdT
    rw [← adv_seq v1, ← adv_seq v2, ← adv_seq v3, adv_pure]
  have hcl : (colW.length : Int) = 3 := rfl
  have hol : (opW.length : Int) = 7 := rfl
  refine ⟨c, o, v, ?_, ⟨by unfold i64ok; omega, by unfold i64ok; omega, hv⟩, vok_seq v1 (vok_seq v2 (vok_seq v3 (vok_pure _ _)))⟩
  rw [e]
  refine (ev86 _ _ _).trans ?_
  refine bnd ev51 (cT rfl (bnd h1 (cT rfl (cT rfl (bnd ev52 (cT rfl (bnd h2 (cT rfl (cT rfl (bnd h3 (cT rfl (cT rfl rfl))))))))))))
theorem s_read (s : Stm) (hs : s.ok) (q : Int) (p : Nat × Int) (hp : inv l p) : ∃ t : Stm, ev 65 [pP l p, .ob 49 s.row, .v (.int .i64 q)] = some [pP l (adv (rdPart q s l) p), .ob 49 t.row] ∧ t.ok ∧ vok (rdPart q s l) p t := by
  obtain ⟨o0, o1, o2, o3, o4, o5, o6, o7, o8, o9, o10, o11⟩ := hs
  unfold rdPart
  rw [show ev 65 [pP l p, .ob 49 s.row, .v (.int .i64 q)] = _ from ev65 _ _ _ _ _ _ _ _ _ _ _ _ _ _ _ _]
  by_cases h0 : q = 0
  · subst h0
    obtain ⟨v, h1, hv, v1⟩ := s_integer hl ha 1 4294967294 p hp
    refine ⟨{ s with key := IntKind.u32.wrap v }, ?_, ⟨o0, wU v, o2, o3, o4, o5, o6, o7, o8, o9, o10, o11⟩, ?_⟩
    · rw [if_pos rfl, adv_map v1]
      exact cT rfl (bnd h1 (cT rfl (cT rfl rfl)))
    · rw [if_pos rfl]
      refine vok_any (vok_map v1) fun h0 a' m hm hh => ?_
      unfold bindR at hm
      cases hx : rdI 1 4294967294 l p.1 with
      | error k => rw [hx] at hm; cases hm
      | ok am =>
        obtain ⟨x, m'⟩ := am
        have hr := rdI_range hx
        obtain rfl := v1 h0 x m' hx
        rw [← hh, show IntKind.u32.wrap v = v by rw [w_u32]; omega]
  rw [if_neg h0]
  by_cases h1 : q = 1
  · subst h1
    have ek : IntKind.i64.wrap s.key = s.key := by rw [w_i64]; omega
    obtain ⟨v, h1, hv, v1⟩ := s_integer hl ha s.key 4294967294 p hp
    refine ⟨{ s with last := IntKind.u32.wrap v }, ?_, ⟨o0, o1, wU v, o3, o4, o5, o6, o7, o8, o9, o10, o11⟩, ?_⟩
    · rw [if_pos rfl, adv_map v1]
      refine cF rfl (cT rfl ?_)
      rw [ek]
      exact bnd h1 (cT rfl (cT rfl rfl))
    · rw [if_pos rfl]
      refine vok_any (vok_map v1) fun h0 a' m hm hh => ?_
      unfold bindR at hm
      cases hx : rdI s.key 4294967294 l p.1 with
      | error k => rw [hx] at hm; cases hm
      | ok am =>
        obtain ⟨x, m'⟩ := am
        have hr := rdI_range hx
        obtain rfl := v1 h0 x m' hx
        rw [← hh, show IntKind.u32.wrap v = v by rw [w_u32]; omega]
  rw [if_neg h1]
  by_cases h2 : q = 2
  · subst h2
    obtain ⟨a, e1, ha1, v1⟩ := s_value hl ha p hp
    have i1 := good_inv (good_V l) hp
    obtain ⟨b, e2, hb1, v2⟩ := s_value hl ha _ i1
    have i2 := good_inv (good_V l) i1
    obtain ⟨c, e3, hc1, v3⟩ := s_value hl ha _ i2
    refine ⟨{ s with c0 := a, c1 := b, c2 := c }, ?_, ⟨o0, o1, o2, ha1, hb1, hc1, o6, o7, o8, o9, o10, o11⟩, ?_⟩
    · rw [if_pos rfl, ← adv_seq v1, ← adv_seq v2, ← adv_seq v3, adv_pure]
      exact cF rfl (cF rfl (cT rfl (bnd e1 (cT rfl (cT rfl (bnd e2 (cT rfl (cT rfl (bnd e3 (cT rfl (cT rfl rfl)))))))))))
    · rw [if_pos rfl]; exact vok_seq v1 (vok_seq v2 (vok_seq v3 (vok_pure _ _)))
  rw [if_neg h2]
  by_cases h3 : q = 3
  · subst h3
    obtain ⟨c, e1, hc, v1⟩ := s_choice hl ha colW false (by decide) p hp
    have hcl : (colW.length : Int) = 3 := rfl
    refine ⟨{ s with col := c }, ?_, ⟨o0, o1, o2, o3, o4, o5, by show i64ok c; unfold i64ok; omega, o7, o8, o9, o10, o11⟩, ?_⟩
    · rw [if_pos rfl, adv_map v1]
      exact cF rfl (cF rfl (cF rfl (cT rfl (bnd ev51 (cT rfl (bnd e1 (cT rfl (cT rfl rfl))))))))
    · rw [if_pos rfl]; exact vok_map v1
  rw [if_neg h3]
  by_cases h4 : q = 4
  · subst h4
    obtain ⟨v, e1, hv, v1⟩ := s_value hl ha p hp
    refine ⟨{ s with v := v }, ?_, ⟨o0, o1, o2, o3, o4, o5, o6, hv, o8, o9, o10, o11⟩, ?_⟩
    · rw [if_pos rfl, adv_map v1]
      exact cF rfl (cF rfl (cF rfl (cF rfl (cT rfl (bnd e1 (cT rfl (cT rfl rfl)))))))
    · rw [if_pos rfl]; exact vok_map v1
  rw [if_neg h4]
  by_cases h5 : q = 5
  · subst h5
    obtain ⟨c, o, v, e1, ho, v1⟩ := s_condition86 hl ha p hp
    refine ⟨{ s with wc := c, wo := o, wv := v }, ?_, ⟨o0, o1, o2, o3, o4, o5, o6, o7, ho.1, ho.2.1, ho.2.2, o11⟩, ?_⟩
    · rw [if_pos rfl, adv_map v1]
      exact cF rfl (cF rfl (cF rfl (cF rfl (cF rfl (cT rfl (bnd e1 (cT rfl (cT rfl rfl))))))))
    · rw [if_pos rfl]; exact vok_map v1
  rw [if_neg h5]
  by_cases h6 : q = 6
  · subst h6
    rw [if_pos rfl]
    obtain ⟨b, e1, v1, hb⟩ := s_option hl ha whereW p hp
    have i1 := good_inv (good_O whereW l) hp
    cases b with
    | false =>
      refine ⟨s, ?_, ⟨o0, o1, o2, o3, o4, o5, o6, o7, o8, o9, o10, o11⟩, vok_seq v1 (vok_pure _ _)⟩
      rw [← adv_seq v1, if_neg (by decide), adv_pure]
      exact cF rfl (cF rfl (cF rfl (cF rfl (cF rfl (cF rfl (cT rfl (bnd e1 (cT rfl (cT rfl (cF rfl rfl))))))))))
    | true =>
      obtain ⟨c, o, v, e2, ho, v2⟩ := s_condition86 hl ha _ i1
      refine ⟨{ s with wc := c, wo := o, wv := v }, ?_, ⟨o0, o1, o2, o3, o4, o5, o6, o7, ho.1, ho.2.1, ho.2.2, o11⟩, vok_seq v1 (vok_map v2)⟩
      rw [← adv_seq v1, if_pos rfl, adv_map v2]
      exact cF rfl (cF rfl (cF rfl (cF rfl (cF rfl (cF rfl (cT rfl (bnd e1 (cT rfl (cT rfl (cT rfl (bnd e2 (cT rfl (cT rfl rfl)))))))))))))
  rw [if_neg h6]
  by_cases h7 : q = 7
  · subst h7
    rw [if_pos rfl]
    obtain ⟨b, e1, v1, hb⟩ := s_option hl ha limitW p hp
    have i1 := good_inv (good_O limitW l) hp
    cases b with
    | false =>
      refine ⟨s, ?_, ⟨o0, o1, o2, o3, o4, o5, o6, o7, o8, o9, o10, o11⟩, vok_seq v1 (vok_pure _ _)⟩
      rw [← adv_seq v1, if_neg (by decide), adv_pure]
      exact cF rfl (cF rfl (cF rfl (cF rfl (cF rfl (cF rfl (cF rfl (cT rfl (bnd e1 (cT rfl (cT rfl (cF rfl rfl)))))))))))
    | true =>
      obtain ⟨v, e2, hv, v2⟩ := s_integer hl ha 1 64 _ i1
      refine ⟨{ s with lim := v }, ?_, ⟨o0, o1, o2, o3, o4, o5, o6, o7, o8, o9, o10, hv⟩, vok_seq v1 (vok_map v2)⟩
      rw [← adv_seq v1, if_pos rfl, adv_map v2]
      exact cF rfl (cF rfl (cF rfl (cF rfl (cF rfl (cF rfl (cF rfl (cT rfl (bnd e1 (cT rfl (cT rfl (cT rfl (bnd e2 (cT rfl (cT rfl rfl))))))))))))))
  rw [if_neg h7]
  refine ⟨s, ?_, ⟨o0, o1, o2, o3, o4, o5, o6, o7, o8, o9, o10, o11⟩, vok_pure _ _⟩
  rw [adv_pure]
  exact cF (eqB_f h0) (cF (eqB_f h1) (cF (eqB_f h2) (cF (eqB_f h3) (cF (eqB_f h4) (cF (eqB_f h5) (cF (eqB_f h6) (cF (eqB_f h7) rfl)))))))
end
end Go.Proofs.Ytcinngpelbdopaa
