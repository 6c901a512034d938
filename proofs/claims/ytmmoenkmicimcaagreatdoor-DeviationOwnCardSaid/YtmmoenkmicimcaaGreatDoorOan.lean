import Derived.Test.YtmmoenkmicimcaaGreatDoorOaf
import Derived.Test.YtmmoenkmicimcaaGreatDoorOae
import Derived.Test.YtmmoenkmicimcaaGreatDoorOal
namespace Go.Proofs.YtmmoenkmicimcaaGreatDoor
open Go.RowKit
set_option linter.unusedVariables false
set_option maxRecDepth 100000
set_option maxHeartbeats 400000 in theorem lO(x k:Int)(w:World)(O:0<=x)(Q:x<2147483579)(U:0<=k)(k1:k<9223372036854775808):Calls Tryz.prog 106 #[.int .i64 x,.int .i64 k] w fun e w'=>e=.returned (.int .i64 (pw x k))/\w=w':=by
 have l:=xS O Q U;obtain⟨q,C⟩:∃y,y=x:=⟨_,rfl⟩;obtain⟨c0,F⟩:∃y,y=k:=⟨_,rfl⟩;rw [show pw x k=pw q c0 by rw [C,F]];rw [show wR x k 1 x k=wR q c0 1 x k by rw [C,F]]at l;clear C F;go_in;go_wp2;go_loop [0,1,5](fun x k p=>∃W G X:Int,x=.int .i64 W/\k=.int .i64 G/\p=.int .i64 X/\G<9223372036854775808/\wR q c0 X W G)(fun _ k _=>(intOf k).toNat);case atStart=>exact⟨_,_,_,rfl,rfl,rfl,k1,l⟩
 case round=>obtain⟨a,b,p,rfl,rfl,rfl,hb,H⟩:=hrel;have a0:=H;obtain⟨q1,q2,I,J,q5,_⟩:=a0;obtain⟨m2,m1⟩:=rM q1 q2 I J;obtain⟨m4,m3⟩:=rM I J I J;have K:=ab H;clear H l O Q U k1;by_cases hb0:0<b;(· by_cases hodd:b % 2=1;(· have t1:(b % 2==1)=true:=(by simp [hodd]);have N:=ab hodd;clear hodd;go_wp2;go_round;(case rel=>exact⟨_,_,_,rfl,rfl,rfl,by omega,FP K N⟩);case measure=>simp [intOf];omega);· have t1:(b % 2==1)=false:=(by simp [hodd]);have Y:b % 2=0:=(by omega);have N:=ab Y;clear hodd Y;go_wp2;go_round;(case rel=>exact⟨_,_,_,rfl,rfl,rfl,by omega,CE K N⟩);case measure=>simp [intOf];omega);· have HB:=ab (FQ K (by omega));go_wp2;go_ret;exact⟨by rw [<- HB];rfl,rfl⟩
set_option maxHeartbeats 400000 in theorem CM(x k:Int)(w:World)(h0:0<=x)(h1:x<2147483579)(l:0<=k)(k1:k<9223372036854775808):Calls Tryz.prog 138 #[.int .i64 x,.int .i64 k] w fun e w'=>e=.returned (.int .i64 (pw x k))/\w=w':=by
 have F:=xS h0 h1 l;obtain⟨G,H⟩:∃y,y=x:=⟨_,rfl⟩;rw [show pw x k=pw G k by rw [H]];rw [show wR x k 1 x k=wR G k 1 x k by rw [H]]at F;clear H;go_in;go_wp2_with(go_at_call 159;refine(RY _ _ (by omega) (by omega)).mono ?_;rintro e w'⟨rfl,rfl⟩);have a0:=PA k.toNat;obtain⟨m,q⟩:∃m,m=Lib.bitLen k.toNat:=⟨_,rfl⟩;rw [<- q]at a0;rw [<- q];have HM:=ab q;have HS:=ab F;clear q F;go_loop [0,5,6,10](fun x p _ i=>∃(W X:Int)(j:Nat),x=.int .i64 W/\p=.int .i64 X/\i=.int .i64 (j:Int)/\j<=m/\wR G k X W (k/2^j))(fun _ _ _ i=>m - (intOf i).toNat);case atStart=>exact⟨_,_,0,rfl,rfl,rfl,de _,by simpa using HS.out⟩
 case round=>obtain⟨a,p,j,rfl,rfl,rfl,hj,I⟩:=hrel;have J:=ab I;by_cases hlt:j<m;(· obtain⟨q1,q2,K,N,q5,_⟩:=I;obtain⟨m2,m1⟩:=rM q1 q2 K N;obtain⟨m4,m3⟩:=rM K N K N;obtain⟨O,Y⟩:=KN l j;have HH:=ab (RS k l j);have C:=WV O (by omega);by_cases hodd:(k/2^j) % 2=1;(· have t1:(bits .and .i64 (k/2^j) 1==1)=true:=(by rw [C,hodd];rfl);have Q:=ab (FP J hodd);clear hodd C O Y;go_wp2;go_round;(case rel=>exact⟨_,_,j+1,rfl,rfl,by go_num,by omega,by rw [<- HH];exact Q⟩);case measure=>simp [intOf];omega);· have U:(k/2^j) % 2=0:=(by omega);have t1:(bits .and .i64 (k/2^j) 1==1)=false:=(by rw [C,U];rfl);have Q:=ab (CE J U);clear hodd U C O Y;go_wp2;go_round;(case rel=>exact⟨_,_,j+1,rfl,rfl,by go_num,by omega,by rw [<- HH];exact Q⟩);case measure=>simp [intOf];omega);· obtain rfl:j=m:=(by omega);have HB:=ab (FQ J (by rw [HM];exact KO l k1));clear I;go_wp2;go_ret;exact⟨by rw [<- HB];rfl,rfl⟩
def dr(lo hi x:Int):Bool:=decide (lo<=x/\x<hi)
theorem eR {lo hi x:Int}(h:dr lo hi x=true):lo<=x/\x<hi:=of_decide_eq_true h
theorem gQ {lo hi x:Int}(l:lo<=x)(q:x<hi):dr lo hi x=true:=ay ⟨l,q⟩
theorem kN {lo hi x:Int}(h:¬(lo<=x/\x<hi)):dr lo hi x=false:=aw h
theorem PH {lo hi x:Int}(h:dr lo hi x=false):¬(lo<=x/\x<hi):=of_decide_eq_false h
theorem not_true {b:Bool}(h:¬b=true):b=false:=by simpa using h
theorem fN(x:Int)(w:World):Calls Tryz.prog 143 #[.int .i64 x] w fun e w'=>e=.returned (.bool (dr 1 2147483579 x))/\w=w':=by
 by_cases h1:1<=x;· by_cases h2:x<2147483579;(· rw [gQ h1 h2];go_in;go_wp2;go_ret;exact⟨rfl,rfl⟩);· rw [kN (fun h=>h2 h.2)];go_in;go_wp2;go_ret;exact⟨rfl,rfl⟩
 · rw [kN (fun h=>h1 h.1)];go_in;go_wp2;go_ret;exact⟨rfl,rfl⟩
theorem lP(x:Int)(w:World):Calls Tryz.prog 156 #[.int .i64 x] w fun e w'=>e=.returned (.bool (dr 1 2147483579 x))/\w=w':=by
 by_cases h1:1<=x;· by_cases h2:x<2147483579;(· rw [gQ h1 h2];go_in;go_wp2;go_ret;exact⟨rfl,rfl⟩);· rw [kN (fun h=>h2 h.2)];go_in;go_wp2;go_ret;exact⟨rfl,rfl⟩
 · rw [kN (fun h=>h1 h.1)];go_in;go_wp2;go_ret;exact⟨rfl,rfl⟩
theorem L3(x:Int)(w:World):Calls Tryz.prog 137 #[.int .i64 x] w fun e w'=>e=.returned (.bool (dr 1 1073741789 x))/\w=w':=by
 by_cases h1:1<=x;· by_cases h2:x<1073741789;(· rw [gQ h1 h2];go_in;go_wp2;go_ret;exact⟨rfl,rfl⟩);· rw [kN (fun h=>h2 h.2)];go_in;go_wp2;go_ret;exact⟨rfl,rfl⟩
 · rw [kN (fun h=>h1 h.1)];go_in;go_wp2;go_ret;exact⟨rfl,rfl⟩
theorem lQ(x:Int)(w:World):Calls Tryz.prog 100 #[.int .i64 x] w fun e w'=>e=.returned (.bool (dr 1 1073741789 x))/\w=w':=by
 by_cases h1:1<=x;· by_cases h2:x<1073741789;(· rw [gQ h1 h2];go_in;go_wp2;go_ret;exact⟨rfl,rfl⟩);· rw [kN (fun h=>h2 h.2)];go_in;go_wp2;go_ret;exact⟨rfl,rfl⟩
 · rw [kN (fun h=>h1 h.1)];go_in;go_wp2;go_ret;exact⟨rfl,rfl⟩
theorem iZ(x:Int)(w:World):Calls Tryz.prog 122 #[.int .i64 x] w fun e w'=>e=.returned (.bool (dr 0 1073741789 x))/\w=w':=by
 by_cases h1:0<=x;· by_cases h2:x<1073741789;(· rw [gQ h1 h2];go_in;go_wp2;go_ret;exact⟨rfl,rfl⟩);· rw [kN (fun h=>h2 h.2)];go_in;go_wp2;go_ret;exact⟨rfl,rfl⟩
 · rw [kN (fun h=>h1 h.1)];go_in;go_wp2;go_ret;exact⟨rfl,rfl⟩
theorem jL(x:Int)(w:World):Calls Tryz.prog 128 #[.int .i64 x] w fun e w'=>e=.returned (.bool (dr 0 1073741789 x))/\w=w':=by
 by_cases h1:0<=x;· by_cases h2:x<1073741789;(· rw [gQ h1 h2];go_in;go_wp2;go_ret;exact⟨rfl,rfl⟩);· rw [kN (fun h=>h2 h.2)];go_in;go_wp2;go_ret;exact⟨rfl,rfl⟩
 · rw [kN (fun h=>h1 h.1)];go_in;go_wp2;go_ret;exact⟨rfl,rfl⟩
theorem CN(x:Int)(h:dr 1 2147483579 x=true)(l:x≠1):dD x=(pw x 1073741789==1):=by obtain⟨a,b⟩:=eR h;unfold dD;rw [ay (show 0<x by omega),ay b];simp [l]
theorem rN(x:Int)(h:dr 1 2147483579 x=false):dD x=false:=by
 have:=PH h;unfold dD;by_cases a:0<x;· have b:¬x<2147483579:=(by omega);simp [b]
 · simp [a]
theorem xZ:dD 1=false:=by simp [dD]
theorem uP {x:Int}(h:dD x=true):1<=x/\x<2147483579:=by cases l:dr 1 2147483579 x with | true=>exact eR l | false=>rw [rN x l]at h;cases h
theorem gX(x:Int)(w:World):Calls Tryz.prog 121 #[.int .i64 x] w fun e w'=>e=.returned (.bool (dD x))/\w=w':=by
 by_cases h:dr 1 2147483579 x=true;· obtain⟨q,C⟩:=eR h;by_cases hx:x=1;(· subst hx;rw [xZ];go_in;go_wp2_with(go_at_call 143;refine(fN _ _).mono ?_;rw [h];rintro e w'⟨rfl,rfl⟩);go_ret;exact⟨rfl,rfl⟩);· rw [CN x h hx];have F:(x !=1)=true:=(by simp [hx]);go_in;go_wp2_with(first | (go_at_call 143;refine(fN _ _).mono ?_;rw [h];rintro e w'⟨rfl,rfl⟩) | (go_at_call 138;refine(CM _ _ _ (by omega) (by omega) (by omega) (by omega)).mono ?_;rintro e w'⟨rfl,rfl⟩));go_ret;exact⟨rfl,rfl⟩
 · have l:=not_true h;rw [rN x l];go_in;go_wp2_with(go_at_call 143;refine(fN _ _).mono ?_;rw [l];rintro e w'⟨rfl,rfl⟩);go_ret;exact⟨rfl,rfl⟩
theorem fB(x:Int)(w:World):Calls Tryz.prog 127 #[.int .i64 x] w fun e w'=>e=.returned (.bool (dD x))/\w=w':=by
 by_cases h:dr 1 2147483579 x=true;· obtain⟨q,C⟩:=eR h;by_cases hx:x=1;(· subst hx;rw [xZ];go_in;go_wp2_with(go_at_call 156;refine(lP _ _).mono ?_;rw [h];rintro e w'⟨rfl,rfl⟩);go_ret;exact⟨rfl,rfl⟩);· rw [CN x h hx];have F:(x !=1)=true:=(by simp [hx]);go_in;go_wp2_with(first | (go_at_call 156;refine(lP _ _).mono ?_;rw [h];rintro e w'⟨rfl,rfl⟩) | (go_at_call 106;refine(lO _ _ _ (by omega) (by omega) (by omega) (by omega)).mono ?_;rintro e w'⟨rfl,rfl⟩));go_ret;exact⟨rfl,rfl⟩
 · have l:=not_true h;rw [rN x l];go_in;go_wp2_with(go_at_call 156;refine(lP _ _).mono ?_;rw [l];rintro e w'⟨rfl,rfl⟩);go_ret;exact⟨rfl,rfl⟩
theorem a0c(x:Int)(w:World)(h:dr 1 1073741789 x=true):Calls Tryz.prog 97 #[.int .i64 x] w fun e w'=>e=.returned (.tuple #[.int .i64 (pw 4 x),.int .i64 0])/\w=w':=by obtain⟨l,q⟩:=eR h;go_in;go_wp2_with(first | (go_at_call 137;refine(L3 _ _).mono ?_;rw [h];rintro e w'⟨rfl,rfl⟩) | (go_at_call 138;refine(CM _ _ _ (by omega) (by omega) (by omega) (by omega)).mono ?_;rintro e w'⟨rfl,rfl⟩));go_ret2;exact⟨rfl,rfl⟩
theorem a1k(x:Int)(w:World)(h:dr 1 1073741789 x=false):Calls Tryz.prog 97 #[.int .i64 x] w fun e w'=>e=.returned (.tuple #[.int .i64 0,.int .i64 3])/\w=w':=by go_in;go_wp2_with(go_at_call 137;refine(L3 _ _).mono ?_;rw [h];rintro e w'⟨rfl,rfl⟩);go_ret2;exact⟨rfl,rfl⟩
theorem BJ(x:Int)(w:World)(h:dr 1 1073741789 x=true):Calls Tryz.prog 114 #[.int .i64 x] w fun e w'=>e=.returned (.tuple #[.int .i64 (pw 4 x),.int .i64 0])/\w=w':=by obtain⟨l,q⟩:=eR h;go_in;go_wp2_with(first | (go_at_call 100;refine(lQ _ _).mono ?_;rw [h];rintro e w'⟨rfl,rfl⟩) | (go_at_call 106;refine(lO _ _ _ (by omega) (by omega) (by omega) (by omega)).mono ?_;rintro e w'⟨rfl,rfl⟩));go_ret2;exact⟨rfl,rfl⟩
theorem yA(x k:Int)(w:World)(h:dr 1 2147483579 x=true)(l:0<=k)(k1:k<=1073741789):Calls Tryz.prog 99 #[.int .i64 x,.int .i64 k] w fun e w'=>e=.returned (.tuple #[.int .i64 (pw x k),.int .i64 0])/\w=w':=by obtain⟨q,C⟩:=eR h;go_in;go_wp2_with(first | (go_at_call 143;refine(fN _ _).mono ?_;rw [h];rintro e w'⟨rfl,rfl⟩) | (go_at_call 138;refine(CM _ _ _ (by omega) (by omega) (by omega) (by omega)).mono ?_;rintro e w'⟨rfl,rfl⟩));go_ret2;exact⟨rfl,rfl⟩
theorem DN(x y:Int)(w:World)(h:dr 1 2147483579 x=true)(l:dr 1 2147483579 y=true):Calls Tryz.prog 123 #[.int .i64 x,.int .i64 y] w fun e w'=>e=.returned (.tuple #[.int .i64 (x*y % 2147483579),.int .i64 0])/\w=w':=by obtain⟨F,q⟩:=eR h;obtain⟨G,C⟩:=eR l;obtain⟨H,I⟩:=rM (by omega) q (by omega) C;go_in;go_wp2_with fail;refine(fN _ _).mono ?_;rw [h];rintro e w'⟨rfl,rfl⟩;go_wp2_with fail;refine(fN _ _).mono ?_;rw [l];rintro e w'⟨rfl,rfl⟩;go_wp2_with fail;go_ret2;exact⟨rfl,rfl⟩
def j0(x:Int):Int:=1+x % 1073741788
theorem NK(x:Int):1<=j0 x/\j0 x<1073741789:=by unfold j0;omega
theorem NL(x:Int):dr 1 1073741789 (j0 x)=true:=gQ (NK x).1 (NK x).2
def dQ(x m:Int):Int:=if m<1 then 0 else x % m
theorem yB {x m:Int}(h:1<=m):dQ x m=x % m:=ao (by omega)
theorem fV {x m:Int}(h:1<=m):0<=dQ x m/\dQ x m<m:=by rw [yB h];exact⟨Int.emod_nonneg _ (by omega),Int.emod_lt_of_pos _ (by omega)⟩
theorem X7 {x m:Int}(h:1<=m):-m<x.tmod m/\x.tmod m<m:=by have q:=Int.tmod_lt_of_pos x (show 0<m by omega);have l:=Int.tmod_lt_of_pos (-x) (show 0<m by omega);rw [Int.neg_tmod]at l;omega
theorem DO {x m:Int}(h:1<=m):(x.tmod m+m) % m=x % m:=by
 rw [Int.add_emod_right];have e:=Int.tmod_add_mul_tdiv x m;conv=>rhs;rw [<- e]
 rw [Int.add_mul_emod_self_left]
theorem fF(x m:Int)(w:World)(F:-9223372036854775808<=x)(G:x<9223372036854775808)(I:m<=4611686018427387904):Calls Tryz.prog 10 #[.int .i64 x,.int .i64 m] w fun e w'=>e=.returned (.int .i64 (dQ x m))/\w=w':=by
 by_cases h:m<1;· rw [dQ,ax h];go_in;go_wp2;go_ret;exact⟨rfl,rfl⟩
 · have l:1<=m:=(by omega);rw [yB l];by_cases hx:0<=x;(· have q:=Int.emod_nonneg x (show m≠0 by omega);have C:=Int.emod_lt_of_pos x (show 0<m by omega);have H:=ab (show(x % m+m) % m=x % m by rw [Int.add_emod_right,Int.emod_emod]);go_in;go_wp2;go_ret;exact⟨by rw [<- H];rfl,rfl⟩);· obtain⟨q,C⟩:=X7 (x:=x) l;have H:=ab (show x.tmod m % m=x % m by have:=DO (x:=x) l;rwa [Int.add_emod_right]at this);go_in;go_wp2;go_ret;exact⟨by rw [<- H];rfl,rfl⟩
theorem PJ(x:Int):1+dQ x 1073741788=j0 x:=by rw [yB (by omega)];rfl
theorem mD(x:Int)(w:World)(l:-9223372036854775808<=x)(q:x<9223372036854775808):Calls Tryz.prog 71 #[.int .i64 x] w fun e w'=>e=.returned (.tuple #[.int .i64 (j0 x),.int .i64 (pw 4 (j0 x))])/\w=w':=by obtain⟨C,b1⟩:=fV (x:=x) (m:=1073741788) (by omega);have H:=ab (PJ x);go_in;go_wp2_with fail;refine(fF _ _ _ l q (by omega)).mono ?_;rintro e w'⟨rfl,rfl⟩;go_wp2_with fail;rw [H];refine(BJ _ _ (NL x)).mono ?_;rintro e w'⟨rfl,rfl⟩;go_wp2_with fail;go_ret2;exact⟨rfl,rfl⟩
end Go.Proofs.YtmmoenkmicimcaaGreatDoor
