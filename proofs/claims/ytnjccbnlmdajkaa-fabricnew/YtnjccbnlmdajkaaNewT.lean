/- FabricNew's function answers true. -/
import Derived.Test.YtnjccbnlmdajkaaNewL
import Derived.Test.YtnjccbnlmdajkaaAwkU
set_option linter.all false
namespace Go.Proofs.Ytnjccbnlmdajkaa
open Go.RowKit Go.Shelf Go.Lib Go.Ev
theorem node_cell {W : World} {pn : Nat} {F : List Nat} {ws : List Int} {dn : Bool} (h : B1 mu0 (hf W) F [.pointer (some ⟨pn, 0, none⟩)] (ndO ws dn) (.pointer (some ⟨pn, 0, none⟩))) :
    ∃ (A : Option Addr) (c : Nat), W.cell? ⟨pn, 0, none⟩ = some (.slice A ws.length c) ∧ W.cell? ⟨pn, 1, none⟩ = some (.bool dn) := by
  have hws : (ws.map wr).length = ws.length := List.length_map _
  unfold ndO at h
  generalize ws.map wr = xs at h hws
  rw [← hws]
  cases h with
  | @ob _ _ _ _ cur hb hm hc =>
    have hlen := hc.len
    obtain ⟨l, hl⟩ : ∃ l, cur.toList = l := ⟨_, rfl⟩
    rw [hl] at hc hlen
    match l, hlen with
    | [v0, v1], _ =>
      have c0 : cur[0]? = some v0 := by have := congrArg (fun l => l[0]?) hl; simpa using this
      have c1 : cur[1]? = some v1 := by have := congrArg (fun l => l[1]?) hl; simpa using this
      have hb' : W.heap[pn]? = some (.cells cur 69 (0, 0)) := hb
      cases hc with
      | cons h0 hc => cases hc with
        | cons h1 hc =>
          have e1 : v1 = .bool dn := by
            cases h1 with
            | d h => cases h; rfl
          subst e1
          cases h0 with
          | d h => cases h
          | ow => exact ⟨_, _, cell_of hb' c0, cell_of hb' c1⟩
theorem law_ok (a b cc : Int) (near : Bool) (w : World) : Calls Try.prog 3 #[.int .i64 a, .int .i64 b, .int .i64 cc, .bool near] w fun e w' => e = .returned (.bool true) ∧ KeptW [] w w' := by
  obtain ⟨n, c, l, hv⟩ : ∃ n c l, NumsAre near a b cc n c l := by
    unfold NumsAre
    cases near
    · exact ⟨a, b, cc, rfl, rfl, rfl⟩
    · exact ⟨_, _, _, rfl, rfl, rfl⟩
  by_cases he : newE n c l = 0
  · have hq : (1 ≤ n ∧ n ≤ 5) ∧ (1 ≤ c ∧ c ≤ 6) ∧ 1 ≤ l ∧ l ≤ 256 := by
      unfold newE at he
      split at he
      · cases he
      · split at he
        · cases he
        · omega
    obtain ⟨hn, hc, hl⟩ := hq
    obtain ⟨N, rfl⟩ : ∃ N : Nat, n = N := ⟨n.toNat, by omega⟩
    obtain ⟨C, rfl⟩ : ∃ C : Nat, c = C := ⟨c.toNat, by omega⟩
    obtain ⟨L, rfl⟩ : ∃ L : Nat, l = L := ⟨l.toNat, by omega⟩
    have hN : 1 ≤ N ∧ N ≤ 5 := by omega
    have hC : 1 ≤ C ∧ C ≤ 6 := by omega
    have hL : 1 ≤ L ∧ L ≤ 256 := by omega
    refine (lawOk_walk a b cc near N C L (w.heap.size + 1) w (fun W => ∃ W0, NC w N C L C W0 ∧ KeptW [] W0 W) hv hN hC hL ((new_ok w N C L hN hC hL).mono fun e w' h => ⟨h.1, w', h.2, KeptW.refl _ _⟩) (fun W hW => ?_) (fun W hW => ?_)).mono fun e w' h => ?_
    · obtain ⟨W0, h1, h2⟩ := hW
      exact (awake_ok W).mono fun e w' h => ⟨h.1, W0, h1, h2.trans h.2 fun x hx => by cases hx⟩
    · obtain ⟨W0, ⟨bn, cn, its, hS, hm, _⟩, hk⟩ := hW
      have hS' := hS.kept hk fun b hb => by cases hb
      obtain ⟨cur, b1, b2, b3, b4⟩ := hS'.bcs
      obtain ⟨q1, q2⟩ := b3 (C - 1) (by omega)
      refine ⟨bn, cn, w.heap.size, hS'.lin.1, hS'.fs.cell1, hS'.bfs, cell_of b1 q1, cell_of b1 q2, fun i hi => ?_⟩
      have hlen : its.length = N := by have := congrArg List.length hm; simpa using this
      have hx := List.getElem?_eq_getElem (l := its) (i := i) (by omega)
      obtain ⟨x, hxe⟩ : ∃ x, its[i]'(by omega) = x := ⟨_, rfl⟩
      rw [hxe] at hx
      obtain ⟨pb, hp, c1, c2⟩ := hS'.fs.cells hx
      have hxa : x.a = ndO (zw L) false := by
        have := congrArg (fun l => l[i]?) hm
        simp only [List.getElem?_map, hx, List.getElem?_replicate, if_pos hi, Option.map_some, Option.some.injEq] at this
        exact this
      have hb := hS'.fs.own.ok x (List.mem_of_getElem? hx)
      rw [hxa, hp] at hb
      obtain ⟨A, c, d1, d2⟩ := node_cell hb
      rw [List.length_replicate] at d1
      exact ⟨pb, A, c, c2, d1, d2⟩
    · obtain ⟨rfl, W0, ⟨bn, cn, its, hS, _⟩, hk⟩ := h
      exact ⟨rfl, hS.fs.kept.trans hk fun x hx => by cases hx⟩
  · exact lawErr_walk a b cc near n c l w (KeptW [] w) hv he (awake_ok w)
end Go.Proofs.Ytnjccbnlmdajkaa
