/- Words: what wraps and bit operations are,in plain arithmetic. -/
import Derived.Laws.BitsLemmas
import Derived.Laws.Bits64b
import Derived.IntWalk
import Derived.Test.YtnjccbnlmdajkaaGreatEv08
set_option linter.all false
namespace Go.Ev
open Go
variable{a b:Int}
theorem IM(n:Int):IntKind.u64.wrap n=n % 18446744073709551616:=IntKind.wrap_u64 n
theorem Lj(n:Int):IntKind.u8.wrap n=n % 256:=IntKind.wrap_u8 n
theorem aD(n:Int):IntKind.i64.wrap n=(n+9223372036854775808) % 18446744073709551616-9223372036854775808:=IntKind.wrap_i64 n
theorem V8:IntKind.i64.min= -9223372036854775808:=by decide
theorem max_i64:IntKind.i64.max=9223372036854775807:=by decide
theorem V9:IntKind.u64.min=0:=by decide
theorem Wc:IntKind.u64.max=18446744073709551615:=by decide
theorem Po(n:Int)(h₀:0<=n)(h₁:n<2^64):IntKind.u64.wrap n=n:=by rw[IM];omega
theorem Ns(i:Nat)(hi:i<=64)(x m:Int)(hm:m=2^i-1)(h₀:0<=x)(h₁:x<18446744073709551616):bits .and .u64 x m=x % 2^i:=by
 subst hm;exact bits_mask .u64 64 (by decide) Po i hi x h₀ (by omega)
theorem fU(x:Int)(n:Int)(h:0<=x):x.tdiv n=x/n:=Int.tdiv_eq_ediv_of_nonneg h
theorem Sv(x:Int)(n:Int)(h:0<=x):x.tmod n=x % n:=Int.tmod_eq_emod_of_nonneg h
@[simp] theorem vI (k:IntKind) (n:Int):eE k (.v (.int k n))=true:=by simp[eE]
@[simp] theorem BF (b:Bool):Dp (.v (.bool b))=true:=rfl
@[simp] theorem BG (s:ByteArray):MP (.v (.string s))=true:=rfl
@[simp] theorem gq (k:IntKind) (n:Int):ai (.v (.int k n))=n:=rfl
@[simp] theorem jc (b:Bool):eW (.v (.bool b))=b:=rfl
@[simp] theorem pG (s:ByteArray):xK (.v (.string s))=s:=rfl
@[simp] theorem bL (a:AV) (l:List AV):cellAt (a::l) 0=a:=rfl
@[simp] theorem eQ (a:AV) (l:List AV) (i:Nat):cellAt (a::l) (i+1)=cellAt l i:=rfl
@[simp] theorem iy {α β:Type} (a:α) (f:α->Option β):(some a).bind f=f a:=rfl
@[simp] theorem jK (a:List AV) (l:List (List AV)):aw (a::l) 0=a:=rfl
@[simp] theorem jL (a:List AV) (l:List (List AV)) (i:Nat):aw (a::l) (i+1)=aw l i:=rfl
/-! ## agK-/
def cq(a b:Int):Bool:=decide (a<b)
def gr(a b:Int):Bool:=decide (a<=b)
def Lk(a b:Nat):Bool:=decide (a<b)
def CQ(a b:Nat):Bool:=decide (a<=b)
def YG(a b:Nat):Bool:=decide (a=b)
theorem aT(h:a<b):cq a b=true:=oS h
theorem aO(h:b<=a):cq a b=false:=kq (by omega)
theorem cd(h:a<=b):gr a b=true:=oS h
theorem gE(h:b<a):gr a b=false:=kq (by omega)
theorem BH{a b:Nat}(h:a<b):Lk a b=true:=oS h
theorem vJ{a b:Nat}(h:a<=b):CQ a b=true:=oS h
theorem afa{k:IntKind}(h:a=b):(some [AV.v (.int k a)]:Option (List AV))=some [.v (.int k b)]:=by rw[h]
def pick(n m:Int):Int:=n % m
theorem Wd{n m:Int}(hm:0<m)(hm':m<=4611686018427387904):(IntKind.i64.wrap (n.tmod m+m)).tmod m=pick n m:=by
 have h1:n.tmod m<m:=L4 n hm;have h2: -m<n.tmod m:=by
  rcases Int.le_total 0 n with h|h
  ·have:=Int.tmod_nonneg m h;omega
  ·have h3:=L4 (-n) hm;rw[Int.neg_tmod]at h3;omega
 rw[aD,show(n.tmod m+m+9223372036854775808) % 18446744073709551616-9223372036854775808=n.tmod m+m by omega,Sv _ _ (by omega)];unfold pick;rw[Int.add_emod_right];have h3:=Int.tmod_add_mul_tdiv n m;have h4:n.tmod m=n+m*(-(n.tdiv m)):=by
  rw[Int.mul_neg];omega
 simp_all
theorem dC{n m:Int}(hm:0<m):0<=pick n m/\pick n m<m:=⟨Int.emod_nonneg _ (by omega),Int.emod_lt_of_pos _ hm⟩
