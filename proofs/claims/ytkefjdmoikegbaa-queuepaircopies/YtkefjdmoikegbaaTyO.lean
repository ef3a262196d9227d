/- The types of the operations. -/
import Derived.Test.YtkefjdmoikegbaaTyY
import Derived.Test.YtkefjdmoikegbaaEv10
set_option linter.all false
namespace Go.Proofs.Ytkefjdmoikegbaa
open Go.Ev
set_option maxRecDepth 100000
set_option maxHeartbeats 0
theorem openC61 {N n : Nat} {c : List AV} (h : TypC Try.prog N (n + 3) 61 c) : ∃ (x_0 : Int) (x_1_0 : Int) (x_1_1 : Int) (x_1_2 : Int) (x_1_3 : Int) (x_1_4 : Int) (x_1_5 : Int) (x_1_6 : Int) (x_2 : Int) (x_3 : Int),c = [.v (.int .i64 x_0),.v (.int .i64 x_1_0),.v (.int .i64 x_1_1),.v (.int .i64 x_1_2),.v (.int .i64 x_1_3),.v (.int .i64 x_1_4),.v (.int .u64 x_1_5),.v (.int .u64 x_1_6),.v (.int .i64 x_2),.v (.int .u64 x_3)]∧((-9223372036854775808) ≤ x_0∧x_0 ≤ 9223372036854775807)∧((-9223372036854775808) ≤ x_1_0∧x_1_0 ≤ 9223372036854775807)∧((-9223372036854775808) ≤ x_1_1∧x_1_1 ≤ 9223372036854775807)∧((-9223372036854775808) ≤ x_1_2∧x_1_2 ≤ 9223372036854775807)∧((-9223372036854775808) ≤ x_1_3∧x_1_3 ≤ 9223372036854775807)∧((-9223372036854775808) ≤ x_1_4∧x_1_4 ≤ 9223372036854775807)∧(0 ≤ x_1_5∧x_1_5 ≤ 18446744073709551615)∧(0 ≤ x_1_6∧x_1_6 ≤ 18446744073709551615)∧((-9223372036854775808) ≤ x_2∧x_2 ≤ 9223372036854775807)∧(0 ≤ x_3∧x_3 ≤ 18446744073709551615) := by
 have lx := typC_st (ts := [3,59,3,23]) (by kernel_rfl) h
 obtain ⟨_,_,rfl,hx_0,lx⟩ := lx
 obtain ⟨_,_,rfl,hx_1,lx⟩ := lx
 obtain ⟨_,_,rfl,hx_2,lx⟩ := lx
 obtain ⟨_,_,rfl,hx_3,lx⟩ := lx
 cases lx
 obtain ⟨x_0,rfl,fx_0⟩ := typC_int (k := IntKind.i64) (by kernel_rfl) hx_0
 have lx_1 := typC_st (ts := [3,3,3,3,3,23,23]) (by kernel_rfl) hx_1
 obtain ⟨_,_,rfl,hx_1_0,lx_1⟩ := lx_1
 obtain ⟨_,_,rfl,hx_1_1,lx_1⟩ := lx_1
 obtain ⟨_,_,rfl,hx_1_2,lx_1⟩ := lx_1
 obtain ⟨_,_,rfl,hx_1_3,lx_1⟩ := lx_1
 obtain ⟨_,_,rfl,hx_1_4,lx_1⟩ := lx_1
 obtain ⟨_,_,rfl,hx_1_5,lx_1⟩ := lx_1
 obtain ⟨_,_,rfl,hx_1_6,lx_1⟩ := lx_1
 cases lx_1
 obtain ⟨x_1_0,rfl,fx_1_0⟩ := typC_int (k := IntKind.i64) (by kernel_rfl) hx_1_0
 obtain ⟨x_1_1,rfl,fx_1_1⟩ := typC_int (k := IntKind.i64) (by kernel_rfl) hx_1_1
 obtain ⟨x_1_2,rfl,fx_1_2⟩ := typC_int (k := IntKind.i64) (by kernel_rfl) hx_1_2
 obtain ⟨x_1_3,rfl,fx_1_3⟩ := typC_int (k := IntKind.i64) (by kernel_rfl) hx_1_3
 obtain ⟨x_1_4,rfl,fx_1_4⟩ := typC_int (k := IntKind.i64) (by kernel_rfl) hx_1_4
 obtain ⟨x_1_5,rfl,fx_1_5⟩ := typC_int (k := IntKind.u64) (by kernel_rfl) hx_1_5
 obtain ⟨x_1_6,rfl,fx_1_6⟩ := typC_int (k := IntKind.u64) (by kernel_rfl) hx_1_6
 obtain ⟨x_2,rfl,fx_2⟩ := typC_int (k := IntKind.i64) (by kernel_rfl) hx_2
 obtain ⟨x_3,rfl,fx_3⟩ := typC_int (k := IntKind.u64) (by kernel_rfl) hx_3
 exact ⟨x_0,x_1_0,x_1_1,x_1_2,x_1_3,x_1_4,x_1_5,x_1_6,x_2,x_3,rfl,(lim_i64 fx_0),(lim_i64 fx_1_0),(lim_i64 fx_1_1),(lim_i64 fx_1_2),(lim_i64 fx_1_3),(lim_i64 fx_1_4),(lim_u64 fx_1_5),(lim_u64 fx_1_6),(lim_i64 fx_2),(lim_u64 fx_3)⟩
end Go.Proofs.Ytkefjdmoikegbaa
