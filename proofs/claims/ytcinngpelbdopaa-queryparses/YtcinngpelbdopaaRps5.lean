/- The reference's parser, whole. -/
import Derived.Test.YtcinngpelbdopaaRps4
set_option linter.all false
namespace Go.Proofs.Ytcinngpelbdopaa
open Go.Ev
attribute [local congr] bind_first cond_first
theorem rdStm_sk (l : B) (n : Nat) : rdStm l (sk l n) = rdStm l n := by
  unfold rdStm bindR rdW
  rw [wd_sk, skk]
theorem wd_of_sk {l : B} {a b : Nat} (h : sk l a = sk l b) : wd l a = wd l b := by rw [← wd_sk l a, ← wd_sk l b, h]
def rS (l : B) (nl : Bool) (acc : List Stm) (s : RS) : St := ⟨[(5, .ptr 0 0 0), (6, .sl nl 1 0 none)], [⟨1, 102, 4, true, [rRow l s]⟩, ⟨1, 45, 12, false, acc.map Stm.row⟩]⟩
def rE (l : B) (s : RS) : LR := ⟨some 0, ⟨[(5, .ptr 0 0 0)], [⟨1, 102, 4, true, [rRow l s]⟩]⟩, []⟩
section
variable {l : B} (hl : l.length ≤ 1000000)
include hl
theorem l_rParse : ∀ (f : Nat) (acc : List Stm) (n : Nat) (nl : Bool), acc.length + f = 9 → 1 ≤ f → n ≤ l.length →
    (∃ p, prs l f acc n = (p, 0, 0) ∧ p ≠ [] ∧ lp 21 0 0 (rS l nl acc (n, none)) = some ⟨none, ⟨[], []⟩, [.ow false 45 12 (p.map Stm.row), .v (.int .i64 0), .v (.int .i64 0)]⟩) ∨
    (∃ (k : Nat) (c : Int) (m : Nat), prs l f acc n = ([], k, c) ∧ lp 21 0 0 (rS l nl acc (n, none)) = some (rE l (m, some (k, c))))
  | 0, _, _, _, _, h, _ => absurd h (by omega)
  | f + 1, acc, n, nl, hf, _, hn => by
    have h1 := sk_le l n hn
    have hpk := s_rpeek l (n, none) hl hn
    obtain ⟨t, u, e, hu⟩ := s_rstatement hl (sk l n, none) h1.2
    have hrow : ((acc.map Stm.row).length + 1) * 88 ≤ 140737488355328 := by rw [List.length_map]; omega
    have hul : u.1 ≤ l.length := hu.1
    have hu2 := hu.2
    simp only at hu2
    rw [rdStm_sk] at hu2
    have hbad : ∀ (k : Nat) (c : Int), u.2 = some (k, c) → leI 0 (rBad u.2) = true := fun k c h => by
      rw [h]; exact leI_t (by show 0 ≤ (k : Int); omega)
    by_cases h8 : acc.length = 8
    · by_cases hw : wd l n = []
      · -- nothing where a ninth would be
        have hr := rdStm_nil hw
        rw [hr] at hu2
        simp only at hu2
        refine .inr ⟨sk l n, 15, u.1, ?_, ?_⟩
        · unfold prs
          rw [if_neg (fun h => h.2 hw), hr]
        · refine (lp21_0 _ _ _ _ _ _).trans ?_
          refine cT rfl (bnd hpk (cT rfl (cT rfl (cT rfl (cT (by rw [List.length_map, h8]; rfl) (cF ((neq_nil (wd l n)).trans (decide_eq_false (fun h => h hw))) (bnd e (cT (shS t) (cT rfl (cT (leN_t hrow) (cT (hbad _ _ hu2) ?_)))))))))))
          have : rE l (u.1, some (sk l n, 15)) = rE l u := by rw [← hu2]
          rw [this]; rfl
      · refine .inr ⟨sk l n, 18, sk l n, ?_, ?_⟩
        · unfold prs
          rw [if_pos ⟨h8, hw⟩]
        · refine (lp21_0 _ _ _ _ _ _).trans ?_
          exact cT rfl (bnd hpk (cT rfl (cT rfl (cT rfl (cT (by rw [List.length_map, h8]; rfl) (cT ((neq_nil (wd l n)).trans (decide_eq_true hw)) (bnd (s_rfail l (sk l n, none) _ _) (cT rfl rfl))))))))
    · have hne : (((((List.length (acc.map Stm.row)) - 0) : Nat) : Int) == 8) = false := by rw [List.length_map]; exact eqB_f (by omega)
      cases hr : rdStm l n with
      | error k =>
        rw [hr] at hu2
        simp only at hu2
        refine .inr ⟨k, 15, u.1, ?_, ?_⟩
        · unfold prs
          rw [if_neg (fun h => h8 h.1), hr]
        · refine (lp21_0 _ _ _ _ _ _).trans ?_
          refine cT rfl (bnd hpk (cT rfl (cT rfl (cT rfl (cF hne (bnd e (cT (shS t) (cT rfl (cT (leN_t hrow) (cT (hbad _ _ hu2) ?_))))))))))
          have : rE l (u.1, some (k, 15)) = rE l u := by rw [← hu2]
          rw [this]; rfl
      | ok sm =>
        obtain ⟨s, m⟩ := sm
        rw [hr] at hu2
        simp only at hu2
        obtain ⟨hu3, husk, rfl⟩ := hu2
        obtain ⟨un, ue⟩ := u
        simp only at hu3 husk hul
        subst hu3
        have hpk2 := s_rpeek l (un, none) hl hul
        have h3 := sk_le l un hul
        have hwd : wd l un = wd l m := wd_of_sk husk
        have hprs : prs l (f + 1) acc n = if wd l m ≠ [] then ([], sk l m, 15) else if sk l m = l.length then (acc ++ [t], 0, 0) else prs l f (acc ++ [t]) (sk l m + 1) := by
          conv => lhs; unfold prs
          rw [if_neg (fun h => h8 h.1), hr]
        by_cases hw : wd l m = []
        · rw [if_neg (fun h => h hw)] at hprs
          by_cases he : sk l m = l.length
          · rw [if_pos he] at hprs
            refine .inl ⟨acc ++ [t], hprs, by simp, ?_⟩
            refine (lp21_0 _ _ _ _ _ _).trans ?_
            rw [map_snoc]
            exact cT rfl (bnd hpk (cT rfl (cT rfl (cT rfl (cF hne (bnd e (cT (shS t) (cT rfl (cT (leN_t hrow) (cF rfl (bnd hpk2 (cT rfl (cT rfl (cT rfl (cF ((neq_nil (wd l un)).trans (decide_eq_false (fun h => h (hwd.trans hw)))) (cT (by show (((sk l un : Nat) : Int) == (((bs l).size : Nat) : Int)) = true; rw [bs_size, husk, he]; simp) rfl))))))))))))))))
          · rw [if_neg he] at hprs
            have hsl : sk l m ≤ l.length := by rw [← husk]; exact h3.2
            have e1 : IntKind.i64.wrap (((sk l un : Nat) : Int) + 1) = ((sk l m + 1 : Nat) : Int) := by rw [husk, w_i64]; omega
            have hstep : lp 21 0 0 (rS l nl acc (n, none)) = lp 21 0 0 (rS l false (acc ++ [t]) (sk l m + 1, none)) := by
              refine (lp21_0 _ _ _ _ _ _).trans ?_
              refine cT rfl (bnd hpk (cT rfl (cT rfl (cT rfl (cF hne (bnd e (cT (shS t) (cT rfl (cT (leN_t hrow) (cF rfl (bnd hpk2 (cT rfl (cT rfl (cT rfl (cF ((neq_nil (wd l un)).trans (decide_eq_false (fun h => h (hwd.trans hw)))) (cF (by show (((sk l un : Nat) : Int) == (((bs l).size : Nat) : Int)) = false; rw [bs_size, husk]; exact eqB_f (by omega)) ?_))))))))))))))))
              unfold rS
              rw [map_snoc]
              show lp 21 0 0 ⟨[(5, .ptr 0 0 0), (6, .sl false 1 0 none)], [⟨1, 102, 4, true, [[.v (.string (bs l)), .v (.int .i64 (IntKind.i64.wrap (((sk l un : Nat) : Int) + 1))), .v (.int .i64 (-1)), .v (.int .i64 0)]]⟩, ⟨1, 45, 12, false, acc.map Stm.row ++ [t.row]⟩]⟩ = _
              rw [e1]; rfl
            rcases l_rParse f (acc ++ [t]) (sk l m + 1) false (by rw [List.length_append]; show acc.length + 1 + f = 9; omega) (by omega) (by omega) with ⟨p, q1, q2, q3⟩ | ⟨k, c, m', q1, q2⟩
            · exact .inl ⟨p, hprs.trans q1, q2, hstep.trans q3⟩
            · exact .inr ⟨k, c, m', hprs.trans q1, hstep.trans q2⟩
        · rw [if_pos hw] at hprs
          refine .inr ⟨sk l m, 15, sk l un, hprs, ?_⟩
          refine (lp21_0 _ _ _ _ _ _).trans ?_
          refine cT rfl (bnd hpk (cT rfl (cT rfl (cT rfl (cF hne (bnd e (cT (shS t) (cT rfl (cT (leN_t hrow) (cF rfl (bnd hpk2 (cT rfl (cT rfl (cT rfl (cT ((neq_nil (wd l un)).trans (decide_eq_true (fun h => hw (hwd.symm.trans h)))) (bnd (s_rfail l (sk l un, none) _ _) (cT rfl ?_)))))))))))))))))
          rw [← husk]; rfl
def outR (r : List Stm × Nat × Int) : List AV := [.ow r.1.isEmpty 45 12 (r.1.map Stm.row), .v (.int .i64 (r.2.1 : Int)), .v (.int .i64 r.2.2)]
theorem s_rParse (h1 : l.length ≤ 1000) : ev 21 [.v (.string (bs l))] = some (outR (prs l 9 [] 0)) := by
  refine (ev21 _).trans ?_
  refine cF (ltI_f (by rw [bs_size]; omega)) ?_
  rcases l_rParse hl 9 [] 0 true rfl (by omega) (by omega) with ⟨p, q1, q2, q3⟩ | ⟨k, c, m', q1, q2⟩
  · refine bnd q3 (cF rfl (cT rfl ?_))
    rw [q1]
    cases p with
    | nil => exact absurd rfl q2
    | cons a p => rfl
  · refine bnd q2 (cT rfl (cT rfl ?_))
    rw [q1]; rfl
end
theorem s_rParse_long (l : B) (h1 : 1000 < l.length) : ev 21 [.v (.string (bs l))] = some (outR ([], 0, 18)) := by
  refine (ev21 _).trans ?_
  exact cT (ltI_t (by rw [bs_size]; omega)) rfl
end Go.Proofs.Ytcinngpelbdopaa
