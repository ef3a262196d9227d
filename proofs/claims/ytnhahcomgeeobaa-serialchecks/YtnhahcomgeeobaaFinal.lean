/- SerialFinal: what the statement's function answers. -/
import Derived.Test.YtnhahcomgeeobaaHist
set_option linter.all false
namespace Go.Proofs.Ytnhahcomgeeobaa
open Go.Ev
set_option maxRecDepth 100000
def c0 : Cl := ⟨0,0,true,[],0,0,0,true,0,[]⟩
def GoodC (cs : List Cl) : Prop := ∀ c ∈ cs,c.wf∧okP c.prog = true
theorem hist_good : ∀ (cs : List Cl) (i : Nat) (now : List Rw),HistOk i now cs → GoodC cs
 | [],_,_,_ => fun c hc => by cases hc
 | c :: cs,i,now,h => by
  obtain ⟨now',h1,h2⟩ := h
  intro x hx
  rcases List.mem_cons.1 hx with rfl | hx
  ·refine ⟨h1.2.1,?_⟩
   have := mt (applyM_arg now x.prog).2 h1.1
   cases hp : okP x.prog with
   | true => rfl
   | false => rw [hp] at this; exact absurd rfl this
  ·exact hist_good cs _ _ h2 x hx
def bRow (b : Bool) : List AV := [.v (.bool b)]
theorem mvs {N : Nat} {n : Nat} {x : List (List AV)} (h : ∀ y ∈ x,TypC Try.prog N (n + 4) 89 y) : ∃ l : List Mv,x = l.map Mv.row := by
 obtain ⟨l,h,_⟩ := rows_of Mv.row (fun _ => True) x fun y hy => by
  obtain ⟨x0,x1,x2,x3,pn,p,rfl,_,_,_,_,_,_,hp⟩ := openC89 (h y hy)
  obtain ⟨rs,rfl⟩ := raws hp
  exact ⟨⟨x0,x1,x2,x3,pn,rs⟩,rfl,trivial⟩
 exact ⟨l,h⟩
theorem repl_map (n : Nat) : List.replicate n ([AV.v (.bool false)] : List AV) = (List.replicate n false).map bRow := by rw [List.map_replicate]; rfl
end Go.Proofs.Ytnhahcomgeeobaa
