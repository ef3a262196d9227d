/- Arguments by their types. -/
import Derived.Test.YtkefjdmoikegbaaEqY
import Derived.Test.YtkefjdmoikegbaaEv10
set_option linter.all false
namespace Go.Proofs.Ytkefjdmoikegbaa
open Go.Ev
set_option maxRecDepth 100000
set_option maxHeartbeats 0
theorem openC56 {N n : Nat} {c : List AV} (h : TypC Try.prog N (n + 1) 56 c) : ∃ (xn : Bool) (x : List (List AV)),c = [.lst xn 10 x]∧((xn = true → x = [])∧x.length ≤ N∧∀ y ∈ x,TypC Try.prog N n 61 y) := by
 obtain ⟨xn,x,rfl,fx⟩ := typC_slice (e := 61) (by kernel_rfl) h
 exact ⟨xn,x,rfl,fx⟩
theorem openV56 {N : Nat} {a : AV} (h : TypV Try.prog N 56 a) : ∃ (xn : Bool) (x : List (List AV)),a = .lst xn 10 x∧((xn = true → x = [])∧x.length ≤ N∧∀ y ∈ x,TypC Try.prog N 11 61 y) := by
 obtain ⟨c,h1,rfl⟩ := h
 obtain ⟨xn,x,rfl,hx⟩ := openC56 (n := 11) h1
 exact ⟨xn,x,by rw [show aggT Try.prog 56 = false by kernel_rfl]; rfl,hx⟩
end Go.Proofs.Ytkefjdmoikegbaa
