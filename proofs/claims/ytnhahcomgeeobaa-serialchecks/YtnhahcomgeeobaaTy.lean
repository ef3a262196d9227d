/- Arguments by their types. -/
import Derived.Test.YtnhahcomgeeobaaEq
import Derived.Test.YtnhahcomgeeobaaEv10
set_option linter.all false
namespace Go.Proofs.Ytnhahcomgeeobaa
open Go.Ev
set_option maxRecDepth 100000
set_option maxHeartbeats 0
theorem openC3 {N n : Nat} {c : List AV} (h : TypC Try.prog N (n + 1) 3 c) : ∃ (x : Int),c = [.v (.int .i64 x)]∧((-9223372036854775808) ≤ x∧x ≤ 9223372036854775807) := by
 obtain ⟨x,rfl,fx⟩ := typC_int (k := IntKind.i64) (by kernel_rfl) h
 exact ⟨x,rfl,(lim_i64 fx)⟩
theorem openV3 {N : Nat} {a : AV} (h : TypV Try.prog N 3 a) : ∃ (x : Int),a = .v (.int .i64 x)∧((-9223372036854775808) ≤ x∧x ≤ 9223372036854775807) := by
 obtain ⟨c,h1,rfl⟩ := h
 obtain ⟨x,rfl,hx⟩ := openC3 (n := 11) h1
 exact ⟨x,by rw [show aggT Try.prog 3 = false by kernel_rfl]; rfl,hx⟩
theorem openC4 {N n : Nat} {c : List AV} (h : TypC Try.prog N (n + 1) 4 c) : ∃ (x : Bool),c = [.v (.bool x)]∧(True) := by
 obtain ⟨x,rfl⟩ := typC_bool (by kernel_rfl) h
 exact ⟨x,rfl,trivial⟩
theorem openV4 {N : Nat} {a : AV} (h : TypV Try.prog N 4 a) : ∃ (x : Bool),a = .v (.bool x)∧(True) := by
 obtain ⟨c,h1,rfl⟩ := h
 obtain ⟨x,rfl,hx⟩ := openC4 (n := 11) h1
 exact ⟨x,by rw [show aggT Try.prog 4 = false by kernel_rfl]; rfl,hx⟩
theorem openC22 {N n : Nat} {c : List AV} (h : TypC Try.prog N (n + 1) 22 c) : ∃ (xn : Bool) (x : List (List AV)),c = [.lst xn 5 x]∧((xn = true → x = [])∧x.length ≤ N∧∀ y ∈ x,TypC Try.prog N n 89 y) := by
 obtain ⟨xn,x,rfl,fx⟩ := typC_slice (e := 89) (by kernel_rfl) h
 exact ⟨xn,x,rfl,fx⟩
theorem openV22 {N : Nat} {a : AV} (h : TypV Try.prog N 22 a) : ∃ (xn : Bool) (x : List (List AV)),a = .lst xn 5 x∧((xn = true → x = [])∧x.length ≤ N∧∀ y ∈ x,TypC Try.prog N 11 89 y) := by
 obtain ⟨c,h1,rfl⟩ := h
 obtain ⟨xn,x,rfl,hx⟩ := openC22 (n := 11) h1
 exact ⟨xn,x,by rw [show aggT Try.prog 22 = false by kernel_rfl]; rfl,hx⟩
theorem openC24 {N n : Nat} {c : List AV} (h : TypC Try.prog N (n + 1) 24 c) : ∃ (xn : Bool) (x : List (List AV)),c = [.lst xn 4 x]∧((xn = true → x = [])∧x.length ≤ N∧∀ y ∈ x,TypC Try.prog N n 91 y) := by
 obtain ⟨xn,x,rfl,fx⟩ := typC_slice (e := 91) (by kernel_rfl) h
 exact ⟨xn,x,rfl,fx⟩
theorem openV24 {N : Nat} {a : AV} (h : TypV Try.prog N 24 a) : ∃ (xn : Bool) (x : List (List AV)),a = .lst xn 4 x∧((xn = true → x = [])∧x.length ≤ N∧∀ y ∈ x,TypC Try.prog N 11 91 y) := by
 obtain ⟨c,h1,rfl⟩ := h
 obtain ⟨xn,x,rfl,hx⟩ := openC24 (n := 11) h1
 exact ⟨xn,x,by rw [show aggT Try.prog 24 = false by kernel_rfl]; rfl,hx⟩
theorem openC89 {N n : Nat} {c : List AV} (h : TypC Try.prog N (n + 2) 89 c) : ∃ (x_0 : Int) (x_1 : Int) (x_2 : Int) (x_3 : Int) (x_4n : Bool) (x_4 : List (List AV)),c = [.v (.int .i64 x_0),.v (.int .i64 x_1),.v (.int .i64 x_2),.v (.int .i64 x_3),.lst x_4n 7 x_4]∧((-9223372036854775808) ≤ x_0∧x_0 ≤ 9223372036854775807)∧((-9223372036854775808) ≤ x_1∧x_1 ≤ 9223372036854775807)∧((-9223372036854775808) ≤ x_2∧x_2 ≤ 9223372036854775807)∧((-9223372036854775808) ≤ x_3∧x_3 ≤ 9223372036854775807)∧((x_4n = true → x_4 = [])∧x_4.length ≤ N∧∀ y ∈ x_4,TypC Try.prog N n 119 y) := by
 have lx := typC_st (ts := [3,3,3,3,70]) (by kernel_rfl) h
 obtain ⟨_,_,rfl,hx_0,lx⟩ := lx
 obtain ⟨_,_,rfl,hx_1,lx⟩ := lx
 obtain ⟨_,_,rfl,hx_2,lx⟩ := lx
 obtain ⟨_,_,rfl,hx_3,lx⟩ := lx
 obtain ⟨_,_,rfl,hx_4,lx⟩ := lx
 cases lx
 obtain ⟨x_0,rfl,fx_0⟩ := typC_int (k := IntKind.i64) (by kernel_rfl) hx_0
 obtain ⟨x_1,rfl,fx_1⟩ := typC_int (k := IntKind.i64) (by kernel_rfl) hx_1
 obtain ⟨x_2,rfl,fx_2⟩ := typC_int (k := IntKind.i64) (by kernel_rfl) hx_2
 obtain ⟨x_3,rfl,fx_3⟩ := typC_int (k := IntKind.i64) (by kernel_rfl) hx_3
 obtain ⟨x_4n,x_4,rfl,fx_4⟩ := typC_slice (e := 119) (by kernel_rfl) hx_4
 exact ⟨x_0,x_1,x_2,x_3,x_4n,x_4,rfl,(lim_i64 fx_0),(lim_i64 fx_1),(lim_i64 fx_2),(lim_i64 fx_3),fx_4⟩
theorem openC91 {N n : Nat} {c : List AV} (h : TypC Try.prog N (n + 3) 91 c) : ∃ (x_0 : Int) (x_1_0 : Int) (x_1_1 : Int) (x_1_2 : Int),c = [.v (.int .u32 x_0),.v (.int .i64 x_1_0),.v (.int .i64 x_1_1),.v (.int .i64 x_1_2)]∧(0 ≤ x_0∧x_0 ≤ 4294967295)∧((-9223372036854775808) ≤ x_1_0∧x_1_0 ≤ 9223372036854775807)∧((-9223372036854775808) ≤ x_1_1∧x_1_1 ≤ 9223372036854775807)∧((-9223372036854775808) ≤ x_1_2∧x_1_2 ≤ 9223372036854775807) := by
 have lx := typC_st (ts := [47,48]) (by kernel_rfl) h
 obtain ⟨_,_,rfl,hx_0,lx⟩ := lx
 obtain ⟨_,_,rfl,hx_1,lx⟩ := lx
 cases lx
 obtain ⟨x_0,rfl,fx_0⟩ := typC_int (k := IntKind.u32) (by kernel_rfl) hx_0
 have lx_1 := typC_ar (ts := [2,2,2]) (by kernel_rfl) hx_1
 obtain ⟨_,_,rfl,hx_1_0,lx_1⟩ := lx_1
 obtain ⟨_,_,rfl,hx_1_1,lx_1⟩ := lx_1
 obtain ⟨_,_,rfl,hx_1_2,lx_1⟩ := lx_1
 cases lx_1
 obtain ⟨x_1_0,rfl,fx_1_0⟩ := typC_int (k := IntKind.i64) (by kernel_rfl) hx_1_0
 obtain ⟨x_1_1,rfl,fx_1_1⟩ := typC_int (k := IntKind.i64) (by kernel_rfl) hx_1_1
 obtain ⟨x_1_2,rfl,fx_1_2⟩ := typC_int (k := IntKind.i64) (by kernel_rfl) hx_1_2
 exact ⟨x_0,x_1_0,x_1_1,x_1_2,rfl,(lim_u32 fx_0),(lim_i64 fx_1_0),(lim_i64 fx_1_1),(lim_i64 fx_1_2)⟩
theorem openC119 {N n : Nat} {c : List AV} (h : TypC Try.prog N (n + 2) 119 c) : ∃ (x_0 : Int) (x_1 : Int) (x_2 : Int) (x_3 : Int) (x_4 : Int) (x_5 : Int) (x_6 : Int),c = [.v (.int .i64 x_0),.v (.int .i64 x_1),.v (.int .i64 x_2),.v (.int .i64 x_3),.v (.int .i64 x_4),.v (.int .i64 x_5),.v (.int .i64 x_6)]∧((-9223372036854775808) ≤ x_0∧x_0 ≤ 9223372036854775807)∧((-9223372036854775808) ≤ x_1∧x_1 ≤ 9223372036854775807)∧((-9223372036854775808) ≤ x_2∧x_2 ≤ 9223372036854775807)∧((-9223372036854775808) ≤ x_3∧x_3 ≤ 9223372036854775807)∧((-9223372036854775808) ≤ x_4∧x_4 ≤ 9223372036854775807)∧((-9223372036854775808) ≤ x_5∧x_5 ≤ 9223372036854775807)∧((-9223372036854775808) ≤ x_6∧x_6 ≤ 9223372036854775807) := by
 have lx := typC_st (ts := [3,3,3,3,3,3,3]) (by kernel_rfl) h
 obtain ⟨_,_,rfl,hx_0,lx⟩ := lx
 obtain ⟨_,_,rfl,hx_1,lx⟩ := lx
 obtain ⟨_,_,rfl,hx_2,lx⟩ := lx
 obtain ⟨_,_,rfl,hx_3,lx⟩ := lx
 obtain ⟨_,_,rfl,hx_4,lx⟩ := lx
 obtain ⟨_,_,rfl,hx_5,lx⟩ := lx
 obtain ⟨_,_,rfl,hx_6,lx⟩ := lx
 cases lx
 obtain ⟨x_0,rfl,fx_0⟩ := typC_int (k := IntKind.i64) (by kernel_rfl) hx_0
 obtain ⟨x_1,rfl,fx_1⟩ := typC_int (k := IntKind.i64) (by kernel_rfl) hx_1
 obtain ⟨x_2,rfl,fx_2⟩ := typC_int (k := IntKind.i64) (by kernel_rfl) hx_2
 obtain ⟨x_3,rfl,fx_3⟩ := typC_int (k := IntKind.i64) (by kernel_rfl) hx_3
 obtain ⟨x_4,rfl,fx_4⟩ := typC_int (k := IntKind.i64) (by kernel_rfl) hx_4
 obtain ⟨x_5,rfl,fx_5⟩ := typC_int (k := IntKind.i64) (by kernel_rfl) hx_5
 obtain ⟨x_6,rfl,fx_6⟩ := typC_int (k := IntKind.i64) (by kernel_rfl) hx_6
 exact ⟨x_0,x_1,x_2,x_3,x_4,x_5,x_6,rfl,(lim_i64 fx_0),(lim_i64 fx_1),(lim_i64 fx_2),(lim_i64 fx_3),(lim_i64 fx_4),(lim_i64 fx_5),(lim_i64 fx_6)⟩
end Go.Proofs.Ytnhahcomgeeobaa
