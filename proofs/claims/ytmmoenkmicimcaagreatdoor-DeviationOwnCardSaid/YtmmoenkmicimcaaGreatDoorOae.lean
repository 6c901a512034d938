import Derived.Test.YtmmoenkmicimcaaGreatDoorOaa
import Derived.Lib.BitFns
namespace Go.Proofs.YtmmoenkmicimcaaGreatDoor
set_option linter.unusedVariables false
def fz(x k:Nat):Nat:=x^k % 2147483579
def pw(x k:Int):Int:=((fz x.toNat k.toNat:Nat):Int)
theorem KM(x k:Nat):fz x k<2147483579:=Nat.mod_lt _ (by omega)
theorem FN(x k:Int):0<=pw x k:=by unfold pw;omega
theorem FO(x k:Int):pw x k<2147483579:=by have:=KM x.toNat k.toNat;unfold pw;omega
theorem sG(a b k m:Nat):(a % m)*(b % m)^k % m=a*b^k % m:=by rw [Nat.mul_mod,Nat.mod_mod,<- Nat.pow_mod,<- Nat.mul_mod]
theorem rM {a b:Int}(a0:0<=a)(q:a<2147483579)(l:0<=b)(b1:b<2147483579):0<=a*b/\a*b<4611686018427387904:=by have h:=Int.mul_le_mul (show a<=2147483578 by omega) (show b<=2147483578 by omega) l (show(0:Int)<=2147483578 by omega);have C:=Int.mul_nonneg a0 l;omega
def wR(l q p x k:Int):Prop:=0<=p/\p<2147483579/\0<=x/\x<2147483579/\0<=k/\p.toNat*x.toNat^k.toNat % 2147483579=l.toNat^q.toNat % 2147483579
theorem xS {x k:Int}(l:0<=x)(q:x<2147483579)(C:0<=k):wR x k 1 x k:=⟨by omega,by omega,l,q,C,by simp⟩
theorem mH {a b:Int}(l:0<=a)(q:0<=b):(a*b % 2147483579).toNat=a.toNat*b.toNat % 2147483579:=by
 obtain⟨m,rfl⟩:=Int.eq_ofNat_of_zero_le l;obtain⟨n,rfl⟩:=Int.eq_ofNat_of_zero_le q;rw [<- Int.natCast_mul,Int.toNat_natCast,Int.toNat_natCast];have:((m*n:Nat):Int) % 2147483579=((m*n % 2147483579:Nat):Int):=by simp
 rw [this,Int.toNat_natCast]
theorem DK(x k:Nat):(x*x)^k=x^(2*k):=by rw [Nat.pow_mul,Nat.pow_two]
theorem oQ {a b:Int}:0<=a*b % 2147483579/\a*b % 2147483579<2147483579:=⟨Int.emod_nonneg _ (by omega),Int.emod_lt_of_pos _ (by omega)⟩
theorem CE {l q p x k:Int}(h:wR l q p x k)(J:k % 2=0):wR l q p (x*x % 2147483579) (k/2):=by
 obtain⟨F,G,C,K,N,H⟩:=h;refine⟨F,G,oQ.1,oQ.2,by omega,?_⟩;rw [<- H,mH C C];have e:k.toNat=2*(k/2).toNat:=by omega
 conv=>rhs;rw [e,<- DK]
 have:=sG p.toNat (x.toNat*x.toNat) (k/2).toNat 2147483579;rw [<- this];have I:p.toNat % 2147483579=p.toNat:=Nat.mod_eq_of_lt (by omega);rw [I]
theorem FP {q C p x k:Int}(h:wR q C p x k)(H:k % 2=1):wR q C (p*x % 2147483579) (x*x % 2147483579) (k/2):=by
 obtain⟨F,I,l,J,K,G⟩:=h;refine⟨oQ.1,oQ.2,oQ.1,oQ.2,by omega,?_⟩;rw [<- G,mH l l,mH F l,sG];have e:k.toNat=2*(k/2).toNat+1:=by omega
 conv=>rhs;rw [e,Nat.pow_succ,<- DK]
 rw [Nat.mul_assoc,Nat.mul_comm x.toNat]
theorem FQ {l q p x k:Int}(h:wR l q p x k)(F:k=0):p=pw l q:=by obtain⟨G,H,I,J,K,C⟩:=h;subst F;simp only [Int.toNat_zero,Nat.pow_zero,Nat.mul_one]at C;rw [Nat.mod_eq_of_lt (by omega)]at C;unfold pw fz;omega
theorem sH:∀ f x:Nat,x<2 ^ f->x<2 ^ Lib.bitLenAux f x
 | 0,x,h=>by simpa [Lib.bitLenAux] using h
 | f+1,x,h=>by
   unfold Lib.bitLenAux
   split
   · subst x;simp
   · have:=sH f (x / 2) (by rw [Nat.pow_succ] at h;omega)
     rw [Nat.pow_add,Nat.pow_one]
     omega
theorem P8 {x:Nat}(h:x<18446744073709551616):x/2^Lib.bitLen x=0:=Nat.div_eq_of_lt (sH 64 x h)
theorem WV {y:Int}(l:0<=y)(q:y<9223372036854775808):bits .and .i64 y 1=y % 2:=by
 obtain⟨n,rfl⟩:=Int.eq_ofNat_of_zero_le l;have e:(BitVec.ofInt 64 (n:Int)).toNat=n:=by rw [BitVec.ofInt_natCast,BitVec.toNat_ofNat];exact Nat.mod_eq_of_lt (by omega)
 show IntKind.i64.wrap ((BitVec.ofInt 64 (n:Int)&&&BitVec.ofInt 64 (1:Int)).toNat:Int)=_;rw [BitVec.toNat_and,e,show(BitVec.ofInt 64 (1:Int)).toNat=1 from rfl,Nat.and_one_is_mod,IntKind.wrap_i64];omega
theorem KN {k:Int}(h:0<=k)(j:Nat):0<=k/2^j/\k/2^j<=k:=⟨Int.ediv_nonneg h (Int.le_of_lt (Int.pow_pos (by omega))),Int.ediv_le_self _ h⟩
theorem RS(k:Int)(h:0<=k)(j:Nat):k/2^j/2=k/2^(j+1):=by
 obtain⟨n,rfl⟩:=Int.eq_ofNat_of_zero_le h;have l:n/2^j/2=n/2^(j+1):=by rw [Nat.pow_succ,Nat.div_div_eq_div_mul]
 exact_mod_cast congrArg (fun x:Nat=>(x:Int)) l
theorem KO {k:Int}(l:0<=k)(q:k<9223372036854775808):k/2^Lib.bitLen k.toNat=0:=by obtain⟨n,rfl⟩:=Int.eq_ofNat_of_zero_le l;have h:=P8 (x:=n) (by omega);rw [Int.toNat_natCast];exact_mod_cast congrArg (fun x:Nat=>(x:Int)) h
theorem sI:∀ f x:Nat,Lib.bitLenAux f x<=f
 | 0,x=>by simp [Lib.bitLenAux]
 | f+1,x=>by
   unfold Lib.bitLenAux
   split
   · omega
   · have:=sI f (x / 2);omega
theorem PA(x:Nat):Lib.bitLen x<=64:=sI 64 x
def dD(x:Int):Bool:=decide (0<x)&&decide (x<2147483579)&&(x !=1)&&(pw x 1073741789==1)
def uM:Nat->Nat->Nat->Nat->Nat
 | 0,p,_,_=>p
 | f+1,p,x,k=>if k=0 then p else uM f (if k % 2=1 then p*x % 2147483579 else p) (x*x % 2147483579) (k / 2)
theorem uN:∀ (f p x k:Nat),k<2 ^ f->p<2147483579->uM f p x k=p*x ^ k % 2147483579
 | 0,p,x,k,q,l=>by
   obtain rfl:k=0:=by simpa using q
   simp [uM,Nat.mod_eq_of_lt l]
 | f+1,p,x,k,q,l=>by
   unfold uM
   split
   · subst k;simp [Nat.mod_eq_of_lt l]
   · have C:k / 2<2 ^ f:=by rw [Nat.pow_succ] at q;omega
     split
     · rename_i F
       rw [uN f _ _ _ C (Nat.mod_lt _ (by omega)),sG,DK,Nat.mul_assoc,Nat.mul_comm x,<- Nat.pow_succ]
       congr 3
       omega
     · rename_i G
       rw [uN f _ _ _ C l]
       have:=sG p (x*x) (k / 2) 2147483579
       rw [Nat.mod_eq_of_lt l] at this
       rw [this,DK]
       congr 3
       omega
set_option maxRecDepth 100000
def CF (q:Nat):Nat->Nat->Bool
 | 0,s=>decide (s<2) || (q % s != 0)
 | d+1,s=>CF q d s && CF q d (s+2 ^ d)
theorem nQ (q:Nat):∀ (d s:Nat),CF q d s=true->∀ x,s<=x->x<s+2 ^ d->2<=x->q % x≠0
 | 0,s,h,x,F,l,C=>by
   obtain rfl:x=s:=by simp at l;omega
   simp [CF] at h
   rcases h with h | h
   · omega
   · exact h
 | d+1,s,h,x,F,l,C=>by
   simp only [CF,Bool.and_eq_true] at h
   rw [Nat.pow_succ] at l
   by_cases hx:x<s+2 ^ d
   · exact nQ q d s h.1 x F hx C
   · exact nQ q d (s+2 ^ d) h.2 x (by omega) (by omega) C
theorem vR:CF 1073741789 15 0=true:=by decide+kernel
theorem FR {d:Nat}(q:2<=d)(I:d<1073741789):1073741789 % d≠0:=by
 by_cases h:d<32768;· exact nQ _ 15 0 vR d (by omega) (by simpa using h) q
 · intro C;obtain⟨c,F⟩:=Nat.dvd_of_mod_eq_zero C;have G:c<32768:=(by rcases Nat.lt_or_ge c 32768 with l | l;(· exact l);· have:=Nat.mul_le_mul (show 32768<=d by omega) l;omega);have H:2<=c:=(by rcases Nat.lt_or_ge c 2 with l | l;(· have:c=0\/c=1:=(by omega);rcases this with rfl | rfl<;>omega);· exact l);exact nQ _ 15 0 vR c (by omega) (by simpa using G) H (by rw [F];exact Nat.mul_mod_left _ _)
theorem PC {k:Nat}(l:0<k)(F:k<1073741789):Nat.gcd k 1073741789=1:=by
 have q:=Nat.gcd_dvd_left k 1073741789;have C:=Nat.gcd_dvd_right k 1073741789;have G:=Nat.le_of_dvd l q;have H:=Nat.pos_of_dvd_of_pos q l;generalize Nat.gcd k 1073741789=d at*;rcases Nat.lt_or_ge d 2 with h | h;· omega
 · exact absurd (Nat.mod_eq_zero_of_dvd C) (FR h (by omega))
theorem NJ(x a b:Nat):fz x (a+b)=fz x a*fz x b % 2147483579:=by unfold fz;rw [Nat.pow_add,Nat.mul_mod]
theorem xC(x a b:Nat):fz x (a*b)=fz (fz x a) b:=by unfold fz;rw [Nat.pow_mul,<- Nat.pow_mod]
theorem sJ(b:Nat):fz 1 b=1:=by simp [fz]
theorem DL {x q:Nat}(h:fz x q=1)(a:Nat):fz x a=fz x (a % q):=by
 conv=>lhs;rw [<- Nat.div_add_mod a q,NJ,xC,h,sJ,Nat.one_mul]
 exact Nat.mod_eq_of_lt (KM _ _)
theorem WW {x:Nat}(a b:Nat):fz x a=1->fz x b=1->fz x (Nat.gcd a b)=1:=by induction a,b using Nat.gcd.induction with | H0 n=>intro _ h;rwa [Nat.gcd_zero_left] | H1 m n F q=>intro l C;rw [Nat.gcd_rec];refine q ?_ l;rw [<- DL l];exact C
theorem RU(x k:Nat)(h:k<18446744073709551616):fz x k=uM 64 1 x k:=by rw [uN _ _ _ _ h (by omega),Nat.one_mul];rfl
theorem RW:uM 64 1 4 1073741789=1:=by decide+kernel
theorem qA:fz 4 1073741789=1:=by rw [RU _ _ (by omega),RW]
theorem KP {k:Nat}(l:0<k)(q:k<1073741789):fz 4 k≠1:=by intro h;have:=WW k 1073741789 h qA;rw [PC l q]at this;simp [fz]at this
theorem CG(k:Nat):fz (fz 4 k) 1073741789=1:=by rw [<- xC,Nat.mul_comm,xC,qA,sJ]
theorem BH {q:Nat}(h:0<q):fz 0 q=0:=by unfold fz;rw [Nat.zero_pow h,Nat.zero_mod]
theorem WX(k:Nat):0<fz 4 k:=by
 rcases Nat.eq_zero_or_pos (fz 4 k)with h | h;· have:=CG k;rw [h,BH (by omega)]at this;cases this
 · exact h
theorem uO(x k:Nat):pw (x:Int) (k:Int)=(fz x k:Int):=by simp [pw]
theorem FS {k:Int}(l:1<=k)(q:k<1073741789):dD (pw 4 k)=true:=by obtain⟨n,rfl⟩:=Int.eq_ofNat_of_zero_le (show 0<=k by omega);rw [show(4:Int)=((4:Nat):Int)from rfl,uO];have a:=WX n;have b:=KM 4 n;have c:=KP (k:=n) (by omega) (by omega);have d:=CG n;unfold dD;rw [show(1073741789:Int)=((1073741789:Nat):Int)from rfl,uO,d];simp;omega
theorem RX {k n e:Nat}(C:k<1073741789)(F:e<1073741789)(G:n<1073741789):fz 4 ((n+e*k) % 1073741789)*fz (fz 4 k) (1073741789 - e) % 2147483579=fz 4 n:=by
 rw [<- xC,<- NJ,DL qA,DL qA n];congr 1;have l:k*(1073741789 - e)+e*k=k*1073741789:=by rw [Nat.mul_comm e k,<- Nat.mul_add];congr 1;omega
 have q:((n+e*k) % 1073741789+k*(1073741789 - e)) % 1073741789=(n+e*k+k*(1073741789 - e)) % 1073741789:=by rw [Nat.add_mod,Nat.mod_mod,<- Nat.add_mod]
 rw [q,ch,Nat.add_comm (e*k),l,Nat.add_mul_mod_self_right]
end Go.Proofs.YtmmoenkmicimcaaGreatDoor
