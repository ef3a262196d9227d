/- Images of the node. -/
import Derived.Test.YtkefjdmoikegbaaPlays
set_option linter.all false
namespace Go.Proofs.Ytkefjdmoikegbaa
open Go.Ev Go.RowKit
attribute [local congr] bind_first cond_first
def body (ws : List Int) : List Nat := ws.flatMap fun w => little w.toNat
theorem body_snoc (ws : List Int) (w : Int) : body (ws ++ [w]) = body ws ++ little w.toNat := by
 unfold body; rw [List.flatMap_append]; simp
theorem little_len (w : Nat) : (little w).length = 8 := rfl
theorem body_len : ∀ ws : List Int,(body ws).length = 8 * ws.length
 | [] => rfl
 | w :: ws => by
  have := body_len ws
  unfold body at *
  rw [List.flatMap_cons,List.length_append,this,little_len,List.length_cons]; omega
theorem little_lt (w : Nat) : ∀ x ∈ little w,x < 256 := by
 intro x hx
 unfold little at hx
 simp only [List.mem_cons,List.not_mem_nil,or_false] at hx
 omega
theorem body_lt (ws : List Int) : ∀ x ∈ body ws,x < 256 := fun x hx => by
 unfold body at hx
 obtain ⟨w,_,hw⟩ := List.mem_flatMap.1 hx
 exact little_lt _ x hw
theorem take_succD (ws : List Int) (i : Nat) (h : i < ws.length) : ws.take (i + 1) = ws.take i ++ [ws.getD i 0] := by
 rw [List.take_succ_eq_append_getElem h]; simp [h]
def hdr (n : Nat) (up : Bool) : List Nat := [77,69,77,49,n % 256,n / 256 % 256,bif up then 1 else 0]
theorem bts_app (a b : List Nat) : bts a ++ bts b = bts (a ++ b) := by unfold bts; rw [List.map_append]
theorem all_btsV (l : List Nat) : (bts l).all rowV = true := by
 unfold bts
 simp only [List.all_map,List.all_eq_true]
 exact fun _ _ => rfl
theorem lit_shift (w m : Nat) : IntKind.u8.wrap (Int.fdiv (w : Int) (m : Int)) = ((w / m % 256 : Nat) : Int) := by
 rw [fdiv_nat,w_u8]; rfl
theorem little_shift (w : Nat) : little w = [w / 1 % 256,w / 256 % 256,w / 65536 % 256,w / 16777216 % 256,w / 4294967296 % 256,w / 1099511627776 % 256,w / 281474976710656 % 256,w / 72057594037927936 % 256] := by
 unfold little
 simp only [Nat.div_div_eq_div_mul,Nat.reduceMul,Nat.div_one]
theorem s_Little (w : Nat) : ev 79 [.v (.int .u64 (w : Int))] = some [.ow false 5 1 (bts (little w))] := by
 have s := lit_shift w
 have h : ev 79 [.v (.int .u64 (w : Int))] = some [.ow false 5 1 [[.v (.int .u8 (IntKind.u8.wrap (Int.fdiv (w : Int) ((1 : Nat) : Int))))],[.v (.int .u8 (IntKind.u8.wrap (Int.fdiv (w : Int) ((256 : Nat) : Int))))],[.v (.int .u8 (IntKind.u8.wrap (Int.fdiv (w : Int) ((65536 : Nat) : Int))))],[.v (.int .u8 (IntKind.u8.wrap (Int.fdiv (w : Int) ((16777216 : Nat) : Int))))],[.v (.int .u8 (IntKind.u8.wrap (Int.fdiv (w : Int) ((4294967296 : Nat) : Int))))],[.v (.int .u8 (IntKind.u8.wrap (Int.fdiv (w : Int) ((1099511627776 : Nat) : Int))))],[.v (.int .u8 (IntKind.u8.wrap (Int.fdiv (w : Int) ((281474976710656 : Nat) : Int))))],[.v (.int .u8 (IntKind.u8.wrap (Int.fdiv (w : Int) ((72057594037927936 : Nat) : Int))))]]] := evL_of (n := 12) (by kernel_rfl)
 rw [h,s,s,s,s,s,s,s,s,little_shift]
 rfl
end Go.Proofs.Ytkefjdmoikegbaa
