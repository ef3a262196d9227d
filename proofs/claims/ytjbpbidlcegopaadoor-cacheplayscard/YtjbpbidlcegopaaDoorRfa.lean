/- The reference's ReadNode: what it answers. -/
import Derived.Test.YtjbpbidlcegopaaDoorSpa
import Derived.Test.YtjbpbidlcegopaaDoorHsc
set_option linter.all false
namespace Go.Proofs.YtjbpbidlcegopaaDoor
open Go.Ev
theorem s51 (l g : Int) : ev 51 [.agg [.v (.int .i64 l), .v (.int .i64 g)]] = some [.v (.bool (H.vpB l g))] := by
  have h60 : ev 60 [.v (.int .i64 l)] = some [.v (.bool (leI 104 l && ltI l 256))] := by
    rw [ev60]; cases leI 104 l <;> rfl
  rw [ev51]
  refine bnd h60 (cT rfl ?_)
  show cond (leI 104 l && ltI l 256) _ _ = _
  unfold H.vpB
  cases leI 104 l <;> cases ltI l 256 <;> cases leI 1 g <;> rfl
theorem s50 (w : Int) (h0 : 0 ≤ w) (h1 : w < 4294967296) : ev 50 [.v (.int .u32 w)] = some [.agg [.v (.int .i64 (w % 256)), .v (.int .i64 (w / 256))]] := by
  rw [ev50, tmod_pos _ _ h0, tdiv_pos _ _ h0, show IntKind.u32.wrap (w / 256) = w / 256 by rw [w_u32]; omega, show IntKind.i64.wrap (w % 256) = w % 256 by rw [w_i64]; omega, show IntKind.i64.wrap (w / 256) = w / 256 by rw [w_i64]; omega]
theorem s49 (p : Pg) (hp : u64ok p.d0) : ev 49 [.agg p.row] = some [.v (.int .u32 (H.aux p))] := by
  obtain ⟨h0, h1⟩ := hp
  show ev 49 [.agg (pgl p.l p.h p.d0 p.d1 p.d2 p.d3 p.d4 p.d5 p.d6)] = _
  rw [ev49, fdiv_pos _ _ (by decide), show IntKind.u32.wrap (p.d0 / 4294967296) = p.d0 / 4294967296 by rw [w_u32]; omega]; rfl
theorem s38 (p : Pg) (hp : u64ok p.d0) : ev 38 [.agg p.row] = some [.v (.int .i64 (p.d0 % 256))] := by
  obtain ⟨h0, h1⟩ := hp
  show ev 38 [.agg (pgl p.l p.h p.d0 p.d1 p.d2 p.d3 p.d4 p.d5 p.d6)] = _
  rw [ev38, tmod_pos _ _ h0, show IntKind.i64.wrap (p.d0 % 256) = p.d0 % 256 by rw [w_i64]; omega]
def chk (lvl hi : Int) (prev : Option Int) (e : H.En) : Bool :=
  !(ltI e.k 1) && (!(ltI hi e.k) && (H.vpB e.l e.g && (!((lvl == 0) && ltI 4294967294 e.k) && (match prev with | none => true | some k => !(leI e.k k)))))
def vnL (lvl hi : Int) : Option Int → List H.En → Bool
  | _, [] => true
  | prev, e :: r => chk lvl hi prev e && vnL lvl hi (some e.k) r
def S52 (lvl : Int) (lm dd : Bool) (hi rl rg : Int) (f : Bool) (es : List H.En) : Store := [⟨1, 73, 7, true, [[.v (.int .i64 lvl), .v (.bool lm), .v (.bool dd), .v (.int .u32 hi), .v (.int .i64 rl), .v (.int .i64 rg), .lst f 3 (es.map H.En.row)]]⟩]
theorem l52 (x3 : Bool) (lvl : Int) (lm dd : Bool) (hi rl rg : Int) (f : Bool) (es : List H.En) (hlen : es.length ≤ 1000) : ∀ (rest done : List H.En), es = done ++ rest →
    lp 52 0 0 ⟨[(1, .ptr 0 0 0), (3, .v (.bool x3)), (4, .v (.int .i64 ((done.length : Nat) : Int)))], S52 lvl lm dd hi rl rg f es⟩ =
      some (bif vnL lvl hi (done.getLast?.map H.En.k) rest then ⟨some 0, ⟨[(1, .ptr 0 0 0), (3, .v (.bool x3))], S52 lvl lm dd hi rl rg f es⟩, []⟩ else ⟨none, ⟨[], []⟩, [.v (.bool false)]⟩)
  | [], done, h => by
    show lp 52 0 0 ⟨_, [⟨1, 73, 7, true, [[_, _, _, _, _, _, _]]⟩]⟩ = _
    rw [lp52_0]
    exact cF (ltI_f (by rw [List.length_map, h, List.append_nil]; omega)) rfl
  | e :: rest, done, h => by
    have hl := H.len_at (f := H.En.row) h
    have ih := l52 x3 lvl lm dd hi rl rg f es hlen rest (done ++ [e]) (by rw [h]; simp)
    rw [show ((done ++ [e]).getLast?.map H.En.k) = some e.k by simp] at ih
    have hdl : done.length ≤ 1000 := by rw [List.length_map] at hl; omega
    show lp 52 0 0 ⟨_, [⟨1, 73, 7, true, [[_, _, _, _, _, _, _]]⟩]⟩ = _
    rw [lp52_0, H.row_at h, H.next_at (p := e) (by omega)]
    refine cT (ltI_t (by omega)) (cT (by rw [leI_t (by omega), ltI_t (by omega)]; rfl) (cT rfl ?_))
    show cond (ltI e.k 1) _ _ = some (bif chk lvl hi (done.getLast?.map H.En.k) e && vnL lvl hi (some e.k) rest then _ else _)
    unfold chk
    cases h1 : ltI e.k 1 with
    | true => rfl
    | false =>
    refine cF rfl ?_
    show cond (ltI hi e.k) _ _ = _
    cases h2 : ltI hi e.k with
    | true => rfl
    | false =>
    refine cF rfl (bnd (s51 e.l e.g) (cT rfl ?_))
    show cond (!H.vpB e.l e.g) _ _ = _
    cases h3 : H.vpB e.l e.g with
    | false => rfl
    | true =>
    refine cF rfl ?_
    have tail : (cond (ltI 0 ((done.length : Nat) : Int)) (cond (leI 0 (IntKind.i64.wrap (((done.length : Nat) : Int) - 1)) && ltI (IntKind.i64.wrap (((done.length : Nat) : Int) - 1)) ((((es.map H.En.row).length : Nat) : Nat) : Int))
        (cond (isI .u32 (cellAt (lget (es.map H.En.row) (Int.toNat (IntKind.i64.wrap (((done.length : Nat) : Int) - 1)))) 0)) (cond (leI e.k (avInt (cellAt (lget (es.map H.En.row) (Int.toNat (IntKind.i64.wrap (((done.length : Nat) : Int) - 1)))) 0))) (some ⟨none, ⟨[], []⟩, [.v (.bool false)]⟩)
          (lp 52 0 0 ⟨[(1, .ptr 0 0 0), (3, .v (.bool x3)), (4, .v (.int .i64 (((done ++ [e]).length : Nat) : Int)))], S52 lvl lm dd hi rl rg f es⟩)) none) none)
        (lp 52 0 0 ⟨[(1, .ptr 0 0 0), (3, .v (.bool x3)), (4, .v (.int .i64 (((done ++ [e]).length : Nat) : Int)))], S52 lvl lm dd hi rl rg f es⟩)) =
        some (bif (match done.getLast?.map H.En.k with | none => true | some k => !(leI e.k k)) && vnL lvl hi (some e.k) rest then (⟨some 0, ⟨[(1, .ptr 0 0 0), (3, .v (.bool x3))], S52 lvl lm dd hi rl rg f es⟩, []⟩ : LR) else ⟨none, ⟨[], []⟩, [.v (.bool false)]⟩) := by
      rcases List.eq_nil_or_concat done with rfl | ⟨init, d, rfl⟩
      · exact cF (ltI_f (by simp)) ih
      · rw [List.concat_eq_append] at *
        have ew : IntKind.i64.wrap ((((init ++ [d]).length : Nat) : Int) - 1) = ((init.length : Nat) : Int) := by
          rw [w_i64]; simp at hdl ⊢; omega
        have e2 : lget (es.map H.En.row) (Int.toNat ((init.length : Nat) : Int)) = d.row := H.row_at (ps := es) (done := init) (rest := e :: rest) (by rw [h]; simp)
        have hil : init.length < (es.map H.En.row).length := by rw [List.length_append, List.length_singleton] at hl; omega
        rw [ew, e2, show ((init ++ [d]).getLast?.map H.En.k) = some d.k by simp]
        refine cT (ltI_t (by simp)) (cT (by rw [leI_t (by omega), ltI_t (by omega)]; rfl) (cT rfl ?_))
        show cond (leI e.k d.k) _ _ = some (bif !(leI e.k d.k) && _ then _ else _)
        cases leI e.k d.k with
        | true => rfl
        | false => exact ih
    show cond (lvl == 0) (cond (ltI 4294967294 e.k) _ _) _ = _
    cases h4 : (lvl == 0) with
    | false => exact tail
    | true =>
      refine cT rfl ?_
      cases h5 : ltI 4294967294 e.k with
      | true => rfl
      | false => exact tail
def v52 (lvl : Int) (lm dd : Bool) (hi rl rg : Int) (es : List H.En) : Bool :=
  bif ltI lvl 0 then false else bif ltI 8 lvl then false else bif ltI hi 1 then false else bif !(((rl == 0) && (rg == 0)) == (hi == 4294967295)) then false else
  bif !((rl == 0) && (rg == 0)) && !(H.vpB rl rg) then false else bif ltI 5 ((es.length : Nat) : Int) then false else bif !(vnL lvl hi none es) then false else
  bif ltI 0 lvl && ((((es.length : Nat) : Int) == 0) || !(H.lastK es == hi)) then false else
  (!dd || ((lvl == 0) && ((((es.length : Nat) : Int) == 0) && (!lm && !((rl == 0) && (rg == 0))))))
theorem s52 (lvl : Int) (lm dd : Bool) (hi rl rg : Int) (f : Bool) (es : List H.En) (hlen : es.length ≤ 1000) :
    ev 52 [.agg [.v (.int .i64 lvl), .v (.bool lm), .v (.bool dd), .v (.int .u32 hi), .v (.int .i64 rl), .v (.int .i64 rg), .lst f 3 (es.map H.En.row)]] = some [.v (.bool (v52 lvl lm dd hi rl rg es))] := by
  have h52 := l52 ((rl == 0) && (rg == 0)) lvl lm dd hi rl rg f es hlen es [] rfl
  have h51 := s51 rl rg
  rw [ev52]
  unfold v52
  have e10 : ∀ {A B : Option (List AV)} {b : Bool}, A = some [AV.v (.bool b)] → B = A → B = some [AV.v (.bool b)] := fun h1 h2 => h2.trans h1
  cases h1 : ltI lvl 0 with
  | true => rfl
  | false =>
  cases h2 : ltI 8 lvl with
  | true => rfl
  | false =>
  cases h3 : ltI hi 1 with
  | true => rfl
  | false =>
  cases h4 : (((rl == 0) && (rg == 0)) == (hi == 4294967295)) with
  | false => rfl
  | true =>
  have fin : ∀ (K : Option (List AV)), K = (cond (ltI 5 ((((es.map H.En.row).length : Nat) : Nat) : Int)) (some [AV.v (.bool false)]) ((lp 52 0 0 ⟨[(1, .ptr 0 0 0), (3, .v (.bool ((rl == 0) && (rg == 0)))), (4, .v (.int .i64 0))], S52 lvl lm dd hi rl rg f es⟩).bind fun r12 =>
      cond (isEx 0 r12) (cond (likeStG ⟨[(1, .ptr 0 0 0), (3, .v (.bool ((rl == 0) && (rg == 0))))], S52 lvl lm dd hi rl rg f es⟩ r12.st)
        (cond (ltI 0 (avInt (cellAt (lget (blAt r12.st.bl 0).xs 0) 0)))
          (cond ((((List.length (avXs (cellAt (lget (blAt r12.st.bl 0).xs 0) 6))) : Nat) : Int) == 0) (some [AV.v (.bool false)])
            (cond (leI 0 (IntKind.i64.wrap ((((List.length (avXs (cellAt (lget (blAt r12.st.bl 0).xs 0) 6))) : Nat) : Int) - 1)) && ltI (IntKind.i64.wrap ((((List.length (avXs (cellAt (lget (blAt r12.st.bl 0).xs 0) 6))) : Nat) : Int) - 1)) (((List.length (avXs (cellAt (lget (blAt r12.st.bl 0).xs 0) 6))) : Nat) : Int))
              (cond (isI .u32 (cellAt (lget (avXs (cellAt (lget (blAt r12.st.bl 0).xs 0) 6)) (Int.toNat (IntKind.i64.wrap ((((List.length (avXs (cellAt (lget (blAt r12.st.bl 0).xs 0) 6))) : Nat) : Int) - 1)))) 0))
                (cond (!((avInt (cellAt (lget (avXs (cellAt (lget (blAt r12.st.bl 0).xs 0) 6)) (Int.toNat (IntKind.i64.wrap ((((List.length (avXs (cellAt (lget (blAt r12.st.bl 0).xs 0) 6))) : Nat) : Int) - 1)))) 0)) == (avInt (cellAt (lget (blAt r12.st.bl 0).xs 0) 3))))
                  (some [AV.v (.bool false)])
                  (cond (!(avBool (cellAt (lget (blAt r12.st.bl 0).xs 0) 2))) (some [AV.v (.bool true)])
                    (cond ((avInt (cellAt (lget (blAt r12.st.bl 0).xs 0) 0)) == 0)
                      (cond ((((List.length (avXs (cellAt (lget (blAt r12.st.bl 0).xs 0) 6))) : Nat) : Int) == 0)
                        (cond (!(avBool (cellAt (lget (blAt r12.st.bl 0).xs 0) 1))) (some [AV.v (.bool (!(avBool (frAt r12.st.fr 1).2)))]) (some [AV.v (.bool false)]))
                        (some [AV.v (.bool false)]))
                      (some [AV.v (.bool false)]))))
                none) none))
          (cond (!(avBool (cellAt (lget (blAt r12.st.bl 0).xs 0) 2))) (some [AV.v (.bool true)])
            (cond ((avInt (cellAt (lget (blAt r12.st.bl 0).xs 0) 0)) == 0)
              (cond ((((List.length (avXs (cellAt (lget (blAt r12.st.bl 0).xs 0) 6))) : Nat) : Int) == 0)
                (cond (!(avBool (cellAt (lget (blAt r12.st.bl 0).xs 0) 1))) (some [AV.v (.bool (!(avBool (frAt r12.st.fr 1).2)))]) (some [AV.v (.bool false)]))
                (some [AV.v (.bool false)]))
              (some [AV.v (.bool false)])))) none)
        (cond (isRt r12) (some r12.outs) none))) →
      K = some [AV.v (.bool (bif ltI 5 ((es.length : Nat) : Int) then false else bif !(vnL lvl hi none es) then false else bif ltI 0 lvl && ((((es.length : Nat) : Int) == 0) || !(H.lastK es == hi)) then false else (!dd || ((lvl == 0) && ((((es.length : Nat) : Int) == 0) && (!lm && !((rl == 0) && (rg == 0)))))))) ] := by
    intro K hK
    rw [hK, List.length_map]
    cases h5 : ltI 5 ((es.length : Nat) : Int) with
    | true => rfl
    | false =>
    refine cF rfl (bnd h52 ?_)
    rw [show ([] : List H.En).getLast?.map H.En.k = none from rfl]
    cases h6 : vnL lvl hi none es with
    | false => exact cF rfl (cT rfl rfl)
    | true =>
    refine cT rfl (cT (by simp only [cond_true, S52]; rfl) ?_)
    show cond (ltI 0 lvl) (cond ((((List.length (es.map H.En.row)) : Nat) : Int) == 0) _ (cond (leI 0 (IntKind.i64.wrap ((((List.length (es.map H.En.row)) : Nat) : Int) - 1)) && ltI (IntKind.i64.wrap ((((List.length (es.map H.En.row)) : Nat) : Int) - 1)) (((List.length (es.map H.En.row)) : Nat) : Int)) (cond (isI .u32 (cellAt (lget (es.map H.En.row) (Int.toNat (IntKind.i64.wrap ((((List.length (es.map H.En.row)) : Nat) : Int) - 1)))) 0)) (cond (!((avInt (cellAt (lget (es.map H.En.row) (Int.toNat (IntKind.i64.wrap ((((List.length (es.map H.En.row)) : Nat) : Int) - 1)))) 0)) == hi)) _ (cond (!dd) _ (cond (lvl == 0) (cond ((((List.length (es.map H.En.row)) : Nat) : Int) == 0) _ _) _))) _) _)) (cond (!dd) _ (cond (lvl == 0) (cond ((((List.length (es.map H.En.row)) : Nat) : Int) == 0) _ _) _)) = _
    rw [List.length_map]
    rcases List.eq_nil_or_concat es with rfl | ⟨init, e, rfl⟩
    · rw [show ((([] : List H.En).length : Nat) : Int) = 0 from rfl]
      cases ltI 0 lvl <;> cases (lvl == 0) <;> cases dd <;> cases lm <;> cases ((rl == 0) && (rg == 0)) <;> rfl
    · rw [List.concat_eq_append] at *
      have e0 : ((((init ++ [e]).length : Nat) : Int) == 0) = false := beq_eq_false_iff_ne.2 (by simp; omega)
      have e1 : H.lastK (init ++ [e]) = e.k := by simp [H.lastK]
      have ew : IntKind.i64.wrap ((((init ++ [e]).length : Nat) : Int) - 1) = ((init.length : Nat) : Int) := by
        rw [w_i64]; simp at hlen ⊢; omega
      have e2 : lget ((init ++ [e]).map H.En.row) (Int.toNat ((init.length : Nat) : Int)) = e.row := H.row_at (ps := init ++ [e]) rfl
      have e3 : (leI 0 ((init.length : Nat) : Int) && ltI ((init.length : Nat) : Int) (((init ++ [e]).length : Nat) : Int)) = true := by
        rw [leI_t (by omega), ltI_t (by simp; omega)]; rfl
      have e4 : isI .u32 (cellAt e.row 0) = true := rfl
      have e5 : avInt (cellAt e.row 0) = e.k := rfl
      rw [e0, e1, ew, e2, e3, e4, e5]
      cases ltI 0 lvl <;> cases (lvl == 0) <;> cases (e.k == hi) <;> cases dd <;> rfl
  cases h5 : ((rl == 0) && (rg == 0)) with
  | true =>
    rw [h5] at fin
    exact fin _ rfl
  | false =>
    rw [h5] at fin
    refine cF rfl (cF rfl (cF rfl (cF rfl (cT rfl (bnd h51 (cT rfl ?_))))))
    show cond (!H.vpB rl rg) _ _ = _
    cases h6 : H.vpB rl rg with
    | false => rfl
    | true => exact fin _ rfl
end Go.Proofs.YtjbpbidlcegopaaDoor
