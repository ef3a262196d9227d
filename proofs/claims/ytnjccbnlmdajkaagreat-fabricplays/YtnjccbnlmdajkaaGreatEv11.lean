/- Checksums in plain terms: a register of 64 bits,bit by bit and byte by byte. -/
import Derived.Laws.Bits64
import Derived.Laws.Bits64b
import Derived.Test.YtnjccbnlmdajkaaGreatEv10
set_option linter.all false
namespace Go.Ev
open Go
def poly:Nat:=14514072000185962306
def tg(r:Nat):Nat:=bif Nat.beq (r % 2) 1 then Nat.xor (r/2) poly else r/2
def kW:Nat->Nat->Nat
 |0,r=>r
 |k+1,r=>kW k (tg r)
theorem kX(r:Nat):tg r=if r % 2=1 then r/2^^^poly else r/2:=by
 unfold tg;simp_all
theorem Pw(a b:Nat):tg (a^^^b)=tg a^^^tg b:=by
 rw[kX,kX,kX];have hd:(a^^^b)/2=a/2^^^b/2:=Nat.xor_div_two_pow (n:=1);have hm:=Nat.xor_mod_two_eq_one (a:=a) (b:=b);grind
theorem Ee:∀(k a b:Nat),kW k (a^^^b)=kW k a^^^kW k b
 |0,_,_=>rfl
 |k+1,a,b=>by simp only[kW];rw[Pw,Ee k]
theorem yH:∀(k a:Nat),kW k (2^k*a)=a
 |0,a=>by simp[kW]
 |k+1,a=>by
  have e:tg (2^(k+1)*a)=2^k*a:=by
   rw[kX,Nat.pow_succ,eg (by rw[Hb (2^k),Nat.mul_assoc];omega),Hb (2^k),Nat.mul_assoc];omega
  simp only[kW];rw[e,yH k]
theorem SA(a b i:Nat)(h:b<2^i):2^i*a+b=(2^i*a)^^^b:=by
 apply Nat.eq_of_testBit_eq;intro j;rw[Nat.testBit_xor,Nat.testBit_two_pow_mul_add a h];have:=Nat.testBit_two_pow_mul_add a (b:=0) (i:=i) (Nat.two_pow_pos i) j;rw[na,Nat.zero_testBit]at this;grind [Nat.testBit_lt_two_pow,Nat.lt_of_lt_of_le,Nat.pow_le_pow_right]
def jw(r:Nat):Nat:=kW 8 r
theorem Jc(r:Nat):jw r=r/256^^^jw (r % 256):=by
 have h:r=2^8*(r/256)+r % 256:=by omega
 have h2:=SA (r/256) (r % 256) 8 (by omega);rw[<-h]at h2;unfold jw
 calc kW 8 r=kW 8 ((2^8*(r/256))^^^(r % 256)):=by rw[<-h2]
  _=_:=by rw[Ee,yH]
theorem Fz:poly<2^64:=by decide
theorem BM{r:Nat}(h:r<2^64):tg r<2^64:=by
 rw[kX];split
 ·exact zd (by omega) Fz
 ·omega
theorem Jd:∀(k:Nat) {r:Nat},r<2^64->kW k r<2^64
 |0,_,h=>h
 |k+1,_,h=>Jd k (BM h)
theorem Je{r:Nat}(h:r<2^64):jw r<2^64:=Jd 8 h
def CM(r x:Nat):Nat:=jw (r^^^x)
def FA(r:Nat)(xs:List Nat):Nat:=xs.foldl CM r
def ones:Nat:=18446744073709551615
def vK(s:Nat)(xs:List Nat):Nat:=ones^^^FA (ones^^^s) xs
theorem sm:ones<2^64:=by decide
theorem zH{x:Nat}(h:x<256):x<2^64:=by grind
theorem Lu{r x:Nat}(hr:r<2^64)(hx:x<256):CM r x<2^64:=Je (zd hr (zH hx))
theorem FB:∀{xs:List Nat} {r:Nat},r<2^64->(∀x∈xs,x<256)->FA r xs<2^64
 |[],_,h,_=>h
 |x::xs,_,h,hx=>FB (xs:=xs) (Lu h (hx x (by simp))) fun y hy=>hx y (by simp[hy])
/-! ## In the code's words-/
theorem nF(a b:Nat)(ha:a<2^64)(hb:b<2^64):bits .xor .u64 (a:Int) (b:Int)=((a^^^b:Nat):Int):=bits_xor_u64_nat a b ha hb
theorem aam(a b:Nat)(ha:a<256)(hb:b<256):bits .xor .u8 (a:Int) (b:Int)=((a^^^b:Nat):Int):=by
 have hx:a^^^b<2^8:=zd (by omega) (by omega);have h1:(BitVec.ofInt 8 (a:Int)).toNat=a:=by simp;omega
 have h2:(BitVec.ofInt 8 (b:Int)).toNat=b:=by simp;omega
 show IntKind.u8.wrap (((BitVec.ofInt 8 (a:Int)^^^BitVec.ofInt 8 (b:Int)).toNat:Nat):Int)=_;rw[BitVec.toNat_xor,h1,h2,Lj];omega
theorem rD(a n:Nat):Int.fdiv (a:Int) (n:Int)=((a/n:Nat):Int):=by
 grind
def bt(b:Nat):List AV:=[.v (.int .u8 (b:Int))]
def lq(l:List Nat):List (List AV):=l.map bt
theorem mf(l:List Nat):(lq l).length=l.length:=ab _
theorem Ny(l:List Nat)(i:Nat)(h:i<l.length):aw (lq l) i=bt (l.getD i 0):=xe bt l 0 i h
