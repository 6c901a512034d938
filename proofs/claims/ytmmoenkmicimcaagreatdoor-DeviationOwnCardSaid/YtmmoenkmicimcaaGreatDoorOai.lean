import Derived.Test.YtmmoenkmicimcaaGreatDoorOag
import Derived.Test.YtmmoenkmicimcaaGreatDoorOad
namespace Go.Proofs.YtmmoenkmicimcaaGreatDoor
open Go.RowKit
set_option linter.unusedVariables false
theorem lR(x n:Int)(l:0<=n)(q:n<=32)(w:World):Calls Tryz.prog 166 #[.int .u32 x,.int .u64 n] w fun e w'=>e=.returned (.int .u32 (oD x n))/\w'=w:=by go_in;go_wp2;go_ret;exact⟨rfl,rfl⟩
def a1f(w:World)(l:List Int)(e:Ending)(w':World):Prop:= ∃A n c,e=.returned (.slice A n c)/\n=l.length/\fh w' .u32 (.slice A n c) l/\Ext w w'
theorem DP(w:World):Calls Tryz.prog 146 #[] w (a1f w uJ):=by go_in;go_wp2;go_ret;exact⟨_,_,_,rfl,rfl,Rd.lit _ _ _ 8 rfl (by unfold maxLen;omega),(aa _ _).alloc (bh _) _⟩
theorem DQ(w:World):Calls Tryz.prog 160 #[] w (a1f w uJ):=by go_in;go_wp2;go_ret;exact⟨_,_,_,rfl,rfl,Rd.lit _ _ _ 8 rfl (by unfold maxLen;omega),(aa _ _).alloc (bh _) _⟩
theorem SE {b:Value}{l:List UInt8}(w:World)(C:Rd w b (ce l))(H:4<=l.length):Calls Tryz.prog 176 #[b] w fun e w'=>e=.returned (.int .u32 (uG l 0))/\∃n,w'=w.drewN n:=by
 obtain⟨A,n,c,rfl,G,I,J,F⟩:=C.bytes;obtain⟨b,o,rfl,_,q⟩:=F (by omega);have c0:=q 0 (by omega);have c1:=q 1 (by omega);have c2:=q 2 (by omega);have c3:=q 3 (by omega);have K:=dU l 0;have b1:=dU l 1;have b2:=dU l 2;have N:=dU l 3;have O:=dV l 0;have Q:=dV l 1;have U:=dV l 2;have W:=dV l 3;have X:0<n:=by omega
 rw [Nat.add_zero]at c0;have k1:(1:Int)<n:=by omega
 have Y:(2:Int)<n:=by omega
 have k3:(3:Int)<n:=by omega
 clear q F G C;go_in;go_wp2;go_quiet(fail);go_wp2;go_ret;exact⟨rfl,nq,rfl⟩
def dY(w:World)(g:Nat):Prop:=∀t,t<64->w.cell? ⟨g,t,none⟩=some (.int .u32 (kAt t))
theorem dY.lt {w:World}{g:Nat}(h:dY w g):g<w.heap.size:=be w _ (h 0 (by omega))
theorem dY.below {w w':World}{g:Nat}(h:dY w g)(l:Below w.heap.size w w'):dY w' g:=fun t q=>(l.cell (p:=⟨g,t,none⟩) h.lt).trans (h t q)
def a1g(w:World)(l:List Int)(e:Ending)(w':World):Prop:= ∃A c,e=.returned (.tuple #[.slice A 8 c,.int .i64 0])/\fh w' .u32 (.slice A 8 c) l/\Ext w w'
theorem mE(a:Nat)(l:a<4294967296):(BitVec.ofInt 32 (a:Int)).toNat=a:=by rw [BitVec.ofInt_natCast,BitVec.toNat_ofNat];exact Nat.mod_eq_of_lt (by omega)
theorem rO(a b:Nat)(l:a<4294967296)(q:b<4294967296):bits .or .u32 (a:Int) (b:Int)=((a|||b:Nat):Int):=by have C:a|||b<2^32:=Nat.or_lt_two_pow (by omega) (by omega);show IntKind.u32.wrap ((BitVec.ofInt 32 (a:Int)|||BitVec.ofInt 32 (b:Int)).toNat:Int)=_;rw [BitVec.toNat_or,mE a l,mE b q,IntKind.wrap_u32];omega
theorem G0(a b:Nat)(l:a<4294967296)(q:b<4294967296):bits .xor .u32 (a:Int) (b:Int)=((a^^^b:Nat):Int):=by have C:a^^^b<2^32:=Nat.xor_lt_two_pow (by omega) (by omega);show IntKind.u32.wrap ((BitVec.ofInt 32 (a:Int)^^^BitVec.ofInt 32 (b:Int)).toNat:Int)=_;rw [BitVec.toNat_xor,mE a l,mE b q,IntKind.wrap_u32];omega
def gz(x:Int):Prop:=0<=x/\x<4294967296
theorem gz.nat {x:Int}(h:gz x):∃n:Nat,x=n/\n<4294967296:=⟨x.toNat,by have:=h.1;omega,by have:=h.1;have:=h.2;omega⟩
theorem DR {a b:Int}(l:gz a)(q:gz b):gz (bits .or .u32 a b):=by obtain⟨m,rfl,C⟩:=l.nat;obtain⟨n,rfl,F⟩:=q.nat;rw [rO m n C F];have:m|||n<2^32:=Nat.or_lt_two_pow (by omega) (by omega);exact⟨by omega,by omega⟩
theorem PK {a b:Int}(C:gz a)(F:gz b):bits .or .u32 a b=bits .or .u32 b a:=by obtain⟨m,rfl,l⟩:=C.nat;obtain⟨n,rfl,q⟩:=F.nat;rw [rO m n l q,rO n m q l,Nat.or_comm]
theorem yC {a:Int}(l:gz a):bits .xor .u32 0 a=a:=by obtain⟨m,rfl,q⟩:=l.nat;have:=G0 0 m (by omega) q;simpa using this
theorem NM {x:Int}(h:gz x)(n:Nat):gz (x/2^n):=by
 obtain⟨m,rfl,l⟩:=h.nat;have e:((m:Int)/2^n)=((m/2^n:Nat):Int):=by simp
 have:=Nat.div_le_self m (2^n);rw [e];generalize m/2^n=q at*;exact⟨by omega,by omega⟩
theorem G1 {x n:Int}(h:gz x):gz (oD x n):=DR (NM h _) ⟨by omega,by omega⟩
theorem mR {x n:Int}(h:gz x):bits .or .u32 (x*2^(32 - n).toNat % 4294967296) (x/2^n.toNat)=oD x n:=PK ⟨by omega,by omega⟩ (NM h _)
def uQ(x:Int)(ns:List Int):Int:=ns.foldl (fun l n=>bits .xor .u32 l (bits .or .u32 (x*2^(32 - n).toNat % 4294967296) (x/2^n.toNat))) 0
theorem G3 {x:Int}(h:gz x)(m n:Int):uQ x [m,n]=bits .xor .u32 (oD x m) (oD x n):=by simp only [uQ,List.foldl_cons,List.foldl_nil];rw [mR h,mR h,yC (G1 (n:=m) h)]
theorem yD {x:Int}(h:gz x)(m n k:Int):uQ x [m,n,k]=bits .xor .u32 (bits .xor .u32 (oD x m) (oD x n)) (oD x k):=by simp only [uQ,List.foldl_cons,List.foldl_nil];rw [mR h,mR h,mR h,yC (G1 (n:=m) h)]
theorem a1h(n:Int)(l:1<=n)(q:n<=31):bits .and .u64 (IntKind.u64.wrap (-n)) 31=32 - n:=by
 have key:∀k:Fin 31,bits .and .u64 (IntKind.u64.wrap (-((k.val:Int)+1))) 31=32 - ((k.val:Int)+1):=by decide
 have:=key ⟨(n - 1).toNat,by omega⟩;have e:(((n - 1).toNat:Nat):Int)+1=n:=by omega
 simp only [e]at this;exact this
theorem SG(x n:Int)(l:1<=n)(q:n<=31)(w:World):Calls Tryz.prog 175 #[.int .u32 x,.int .i64 (-n)] w fun e w'=>e=.returned (.int .u32 (bits .or .u32 (x*2^(32 - n).toNat % 4294967296) (x/2^n.toNat)))/\w'=w:=by
 have C:=a1h n l q;have F:(32:Int) - (32 - n)=n:=by omega
 go_in;go_wp2;go_ret;exact⟨rfl,rfl⟩
theorem xD {v:Value}{ns:List Int}(x:Int)(w:World)(C:fh w .i64 v ns)(F:∀n∈ns,1<=n/\n<=31):Calls Tryz.prog 174 #[.int .u32 x,v] w fun e w'=>e=.returned (.int .u32 (uQ x ns))/\w'=w:=by
 obtain⟨A,n,c,rfl,G,a0,O,H⟩:=C.ints;unfold maxLen at O;have I:=ab G;clear G C;go_in;go_wp2;go_loop [5,10](fun v i=>∃k:Nat,k<=n/\i=.int .i64 k/\v=.int .u32 (uQ x (ns.take k)))(fun _ i=>n - (intOf i).toNat);case atStart=>exact⟨0,by omega,rfl,rfl⟩
 case round=>obtain⟨k,hk,rfl,rfl⟩:=hrel;by_cases hlt:k<n;(· obtain⟨b,o,rfl,_,J⟩:=H (by omega);have c0:=J k hlt;have l:k<ns.length:=(by rw [<- I];exact hlt);have K:=F (ns.getD k 0) (by simp [List.getD_eq_getElem?_getD,l]);obtain⟨m,q⟩:∃m,m=ns.getD k 0:=⟨_,rfl⟩;rw [<- q]at c0 K;have N:uQ x (ns.take (k+1))=bits .xor .u32 (uQ x (ns.take k)) (bits .or .u32 (x*2^(32 - m).toNat % 4294967296) (x/2^m.toNat)):=(by have Q:m=ns[k]:=(by rw [q];simp [List.getD_eq_getElem?_getD,l]);unfold uQ;rw [List.take_succ_eq_append_getElem l,List.foldl_append,<- Q];rfl);have U:=ab N;clear N q l J H F;obtain⟨W,X⟩:=K;have a1:IntKind.i64.wrap ((k:Int))=(k:Int):=ag _ (by omega);have a2:(0:Int)<=(k:Int):=(by omega);have a3:(k:Int)<n:=(by omega);have a4:((k:Int)).toNat=k:=(by omega);go_wp2_with(go_at_call 175;refine(SG _ _ W X _).mono ?_;rintro e w'⟨rfl,rfl⟩);go_round;(case rel=>exact⟨k+1,by omega,by go_num,by rw [U]⟩);case measure=>simp [intOf];omega);· obtain rfl:k=n:=(by omega);go_wp2;go_ret;have Y:ns.take k=ns:=List.take_of_length_le (by rw [I];exact bh _);exact⟨by rw [Y];rfl,rfl⟩
structure Env (w:World):Prop where
 d:dY w 1
 r:dY w 0
theorem Env.ext {w w':World}(h:Env w)(b:Ext w w'):Env w':=⟨h.d.below b,h.r.below b⟩
end Go.Proofs.YtmmoenkmicimcaaGreatDoor
