/- QueuepairPlays. -/
import Derived.Test.YtkefjdmoikegbaaImg
import Derived.Test.YtkefjdmoikegbaaTyO
set_option linter.all false
namespace Go.Proofs.Ytkefjdmoikegbaa
open Go.Ev Go.RowKit
attribute [local congr] bind_first cond_first
set_option maxRecDepth 10000
structure Opr where
 k : Int
 r1 : Int
 r2 : Int
 r3 : Int
 r4 : Int
 r5 : Int
 r6 : Int
 r7 : Int
 a : Int
 w : Int
def Opr.row (o : Opr) : List AV := opR o.k o.r1 o.r2 o.r3 o.r4 o.r5 o.r6 o.r7 o.a o.w
def Opr.Ok (o : Opr) : Prop := (0 ≤ o.r6∧o.r6 < 18446744073709551616)∧(0 ≤ o.r7∧o.r7 < 18446744073709551616)∧(0 ≤ o.w∧o.w < 18446744073709551616)
theorem mem0_wok : Wok mem0 := fun x hx => by
 unfold mem0 at hx
 simp only [List.mem_cons,List.mem_replicate] at hx
 omega
theorem start_ok (c inc : Int) (hc : 0 ≤ c∧c < 6) (hi : 0 ≤ inc∧inc ≤ 59) : StOk ⟨c,inc,[],0,[]⟩ true mem0 :=
 ⟨⟨fun x hx => (by cases hx),Nat.zero_le _,fun _ => ⟨rfl,rfl⟩,fun x r e => (by cases e),Nat.le_refl _,hc,hi⟩,fun _ => rfl,mem0_len,mem0_wok,fun y hy => by cases hy⟩
end Go.Proofs.Ytkefjdmoikegbaa
