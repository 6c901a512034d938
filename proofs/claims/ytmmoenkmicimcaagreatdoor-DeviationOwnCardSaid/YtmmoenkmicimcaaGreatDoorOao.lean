import Derived.Test.YtmmoenkmicimcaaGreatDoorOam
import Derived.Test.YtmmoenkmicimcaaGreatDoorOan
namespace Go.Proofs.YtmmoenkmicimcaaGreatDoor
open Go.RowKit
set_option linter.unusedVariables false
set_option maxRecDepth 100000
def uR(r:Int)(l:List UInt8)(m:Int):Int:=num ((sha (ct r++l)).take 7) % m
theorem DU(r:Int)(l:List UInt8){m:Int}(h:1<=m):0<=uR r l m/\uR r l m<m:=⟨Int.emod_nonneg _ (by omega),Int.emod_lt_of_pos _ (by omega)⟩
theorem SI {a:Value}{l:List UInt8}(r m:Int)(w:World)(C:Rd w a (ce l))(W:l.length<=140737488352000)(X:0<=r)(Y:r<4294967296)(hm:1<=m)(E:dY w 1):Calls Tryz.prog 98 #[.int .i64 r,a,.int .i64 m] w (eP w (.int .i64 (uR r l m))):=by have I:=C;obtain⟨A,G,c,rfl,H,a0,a1,J⟩:=C.bytes;subst H;clear J C;have q1:=(xA (l:=(sha (ct r++l)).take 7) (by rw [gc];omega)).1;have q2:=(xA (l:=(sha (ct r++l)).take 7) (by rw [gc];omega)).2;go_in;go_wp2_with fail;refine(FX _ _ (by omega) (by omega)).mono ?_;rintro e F⟨K,G,c1,rfl,H,o1,b1⟩;have q:Ext F (F.alloc (.cells #[.slice K G c1,.slice A l.length c] 48)):=(aa _ _).alloc (bh _) _;go_wp2_with(first | (go_at_call 142;refine(G8 (xs:=ct r) _ (aA F _) (o1.rd.ext q) (I.ext (b1.tr q)) (by simp [ct];omega)).mono ?_;rintro e w2⟨A2,n2,c2,rfl,a2,o2,b2⟩) | (go_at_call 141;refine(KY _ o2.rd (by simp [ct];omega) (E.below ((b1.tr q).tr b2))).mono ?_;rintro e w3⟨A3,N,c3,rfl,O,o3,Q⟩;obtain rfl:N=32:=(by rw [O,lS]);have U:=o3.rd.caps;have h7:7<=c3:=(by omega);clear U) | (go_at_call 140;refine(KX _ (o3.rd.take 7 (by omega)) (by rw [gc];omega)).mono ?_;rintro e w4⟨rfl,rfl⟩));go_ret;exact⟨rfl,((b1.tr q).tr b2).tr Q⟩
theorem qU {a:Value}{l:List UInt8}(r:Int)(w:World)(q:Rd w a (ce l))(J:l.length<=140737488352000)(E:dY w 0):Calls Tryz.prog 105 #[.int .i64 r,a] w (eP w (.int .i64 (uR r l 1073741789))):=by have F:=q;obtain⟨A,G,c,rfl,C,K,N,H⟩:=q.bytes;subst C;clear H q;go_in;go_wp2_with(first | (go_at_call 104;refine(oT _ _).mono ?_;rintro e O⟨Q,G,c1,rfl,C,o1,b1⟩) | (go_at_call 103;refine(xT _ o1.rd (F.ext b1) (by simp [ct];omega)).mono ?_;rintro e U⟨W,X,c2,rfl,Y,o2,b2⟩) | (go_at_call 102;refine(yG _ o2.rd (by simp [ct];omega) (E.below (b1.tr b2))).mono ?_;rintro e w3⟨A3,n3,c3,rfl,a0,o3,I⟩) | (go_at_call 101;refine(vT _ _ o3.rd (by rw [lS];omega) (by omega)).mono ?_;rintro e w4⟨rfl,rfl⟩));go_ret;exact⟨rfl,(b1.tr b2).tr I⟩
def uS(k:Int)(l:List UInt8):Int:=1+uR k l 1073741788
def qO(k:Int)(l:List UInt8):Int:=uR (pw 4 (uS k l)) l 1073741789
def uT(k:Int)(l:List UInt8):Int:=(uS k l+qO k l*k) % 1073741789
theorem NN(k:Int)(l:List UInt8):1<=uS k l/\uS k l<1073741789:=by obtain⟨a,b⟩:=DU k l (m:=1073741788) (by omega);unfold uS;omega
theorem DW(k:Int)(l:List UInt8):0<=qO k l/\qO k l<1073741789:=DU _ l (by omega)
theorem NP(k:Int)(l:List UInt8):0<=uT k l/\uT k l<1073741789:=by unfold uT;omega
def iw(e s k:Int):Value:=.tuple #[.agg #[.int .i64 e,.int .i64 s],.int .i64 k]
theorem in4:dr 1 2147483579 4=true:=gQ (by omega) (by omega)
set_option maxHeartbeats 400000 in theorem a1P {a:Value}{l:List UInt8}(k:Int)(w:World)(I:dr 1 1073741789 k=true)(F:Rd w a (ce l))(hl:l.length<=140737488352000)(E:dY w 1):Calls Tryz.prog 54 #[.int .i64 k,a] w (eP w (iw (qO k l) (uT k l) 0)):=by
 obtain⟨k0,k1⟩:=eR I;have J:=F;obtain⟨A,K,c,rfl,N,a1,a2,O⟩:=F.bytes;subst N;clear O F;have G:Ext w (w.alloc (.cells #[.int .i64 0,.int .i64 0] 37)):=(aa _ _).alloc (bh _) _;go_in;go_wp2_with fail;refine(a0c _ _ I).mono ?_;rintro e w'⟨rfl,rfl⟩;go_wp2_with fail;refine(SI _ _ _ (J.ext G) (by omega) (by omega) (by omega) (by omega) (E.below G)).mono ?_;rintro e w1⟨rfl,b1⟩;obtain⟨n0,K⟩:=NN k l;have Q:=ab (show 1+uR k l 1073741788=uS k l from rfl);obtain⟨U,W⟩:=DU k l (m:=1073741788) (by omega);go_wp2_with fail;rw [Q];refine(yA _ _ _ in4 (by omega) (by omega)).mono ?_;rintro e w'⟨rfl,rfl⟩;have p0:=FN 4 (uS k l);have p1:=FO 4 (uS k l);clear U W;have H:=G.tr b1;go_wp2_with fail;refine(SI _ _ _ (J.ext H) (by omega) (by omega) (by omega) (by omega) (E.below H)).mono ?_;rw [show uR (pw 4 (uS k l)) l 1073741789=qO k l from rfl];rintro e q⟨rfl,b2⟩;obtain⟨X,g1⟩:=DW k l;obtain⟨m0,m1⟩:=rM X (by omega) (by omega:0<=k) (by omega);have Y:=ab (show(uS k l+qO k l*k) % 1073741789=uT k l from rfl);have C:w.heap.size<(w.alloc (.cells #[.int .i64 0,.int .i64 0] 37)).heap.size:=by simp
 have c0:q.cell? ⟨w.heap.size,0,none⟩=some (.int .i64 0):=((b1.tr b2).cell (p:=⟨w.heap.size,0,none⟩) C).trans (by go_simp);have c1:q.cell? ⟨w.heap.size,1,none⟩=some (.int .i64 0):=((b1.tr b2).cell (p:=⟨w.heap.size,1,none⟩) C).trans (by go_simp);have f0:q.frozen? ⟨w.heap.size,0,none⟩=false:=((b1.tr b2).frozen (p:=⟨w.heap.size,0,none⟩) C).trans (by go_simp);have f1:q.frozen? ⟨w.heap.size,1,none⟩=false:=((b1.tr b2).frozen (p:=⟨w.heap.size,1,none⟩) C).trans (by go_simp);have a0:=H.tr b2;go_wp2_with fail;rw [Y];refine az (v:=iw (qO k l) (uT k l) 0) ?_ rfl ⟨rfl,(a0.setCell (p:=⟨w.heap.size,0,none⟩) (bh _) _).setCell (p:=⟨w.heap.size,1,none⟩) (bh _) _⟩;simp [results,Tryz.results54,go_sem,c0,c1,iw]
theorem a2t {a:Value}{l:List UInt8}(k:Int)(w:World)(q:dr 1 1073741789 k=false)(C:Rd w a (ce l)):Calls Tryz.prog 54 #[.int .i64 k,a] w (eP w (iw 0 0 3)):=by go_in;go_wp2_with(go_at_call 97;refine(a1k _ _ q).mono ?_;rintro e w'⟨rfl,rfl⟩);refine az (v:=iw 0 0 3) ?_ rfl ⟨rfl,(aa _ _).alloc (bh _) _⟩;simp [results,Tryz.results54,go_sem,iw]
set_option maxHeartbeats 400000 in theorem GA {a:Value}{l:List UInt8}(k:Int)(w:World)(K:dr 1 1073741789 k=true)(H:Rd w a (ce l))(hl:l.length<=140737488352000)(E:dY w 0):Calls Tryz.prog 55 #[.int .i64 k,a] w (eP w (iw (qO k l) (uT k l) 0)):=by
 obtain⟨k0,k1⟩:=eR K;have N:=H;obtain⟨A,O,c,rfl,Q,a1,a2,U⟩:=H.bytes;subst Q;clear U H;have I:Ext w (w.alloc (.cells #[.int .i64 0,.int .i64 0] 37)):=(aa _ _).alloc (bh _) _;obtain⟨W,X⟩:=DU k l (m:=1073741788) (by omega);go_in;go_wp2_with(first | (go_at_call 100;refine(lQ _ _).mono ?_;rw [K];rintro e w'⟨rfl,rfl⟩) | (go_at_call 104;refine(oT _ _).mono ?_;rintro e w1⟨A1,O,c1,rfl,Q,o1,b1⟩) | (go_at_call 103;refine(xT _ o1.rd (N.ext (I.tr b1)) (by simp [ct];omega)).mono ?_;rintro e w2⟨A2,n2,c2,rfl,a3,o2,b2⟩) | (go_at_call 102;refine(yG _ o2.rd (by simp [ct];omega) (E.below ((I.tr b1).tr b2))).mono ?_;rintro e w3⟨A3,n3,c3,rfl,a4,o3,Y⟩) | (go_at_call 101;refine(vT _ _ o3.rd (by rw [lS];omega) (by omega)).mono ?_;rw [show num ((sha (ct k++l)).take 7) % 1073741788=uR k l 1073741788 from rfl];rintro e q⟨rfl,rfl⟩) | fail);obtain⟨n0,O⟩:=NN k l;have HN:=ab (show 1+uR k l 1073741788=uS k l from rfl);rw [HN];refine(lO _ _ _ (by omega) (by omega) (by omega) (by omega)).mono ?_;rintro e w'⟨rfl,rfl⟩;have p0:=FN 4 (uS k l);have p1:=FO 4 (uS k l);clear W X;have C:=(b1.tr b2).tr Y;have J:=I.tr C;go_wp2_with fail;refine(qU _ _ (N.ext J) (by omega) (E.below J)).mono ?_;rw [show uR (pw 4 (uS k l)) l 1073741789=qO k l from rfl];rintro e q⟨rfl,F⟩;obtain⟨g0,g1⟩:=DW k l;obtain⟨m0,m1⟩:=rM g0 (by omega) (by omega:0<=k) (by omega);have HS:=ab (show(uS k l+qO k l*k) % 1073741789=uT k l from rfl);have G:w.heap.size<(w.alloc (.cells #[.int .i64 0,.int .i64 0] 37)).heap.size:=by simp
 have c0:q.cell? ⟨w.heap.size,0,none⟩=some (.int .i64 0):=((C.tr F).cell (p:=⟨w.heap.size,0,none⟩) G).trans (by go_simp);have c1:q.cell? ⟨w.heap.size,1,none⟩=some (.int .i64 0):=((C.tr F).cell (p:=⟨w.heap.size,1,none⟩) G).trans (by go_simp);have f0:q.frozen? ⟨w.heap.size,0,none⟩=false:=((C.tr F).frozen (p:=⟨w.heap.size,0,none⟩) G).trans (by go_simp);have f1:q.frozen? ⟨w.heap.size,1,none⟩=false:=((C.tr F).frozen (p:=⟨w.heap.size,1,none⟩) G).trans (by go_simp);have a0:=J.tr F;go_wp2_with fail;rw [HS];refine az (v:=iw (qO k l) (uT k l) 0) ?_ rfl ⟨rfl,(a0.setCell (p:=⟨w.heap.size,0,none⟩) (bh _) _).setCell (p:=⟨w.heap.size,1,none⟩) (bh _) _⟩;simp [results,Tryz.results55,go_sem,c0,c1,iw]
theorem KZ {a:Value}{l:List UInt8}(k:Int)(w:World)(q:dr 1 1073741789 k=false)(C:Rd w a (ce l)):Calls Tryz.prog 55 #[.int .i64 k,a] w (eP w (iw 0 0 3)):=by go_in;go_wp2_with(go_at_call 100;refine(lQ _ _).mono ?_;rw [q];rintro e w'⟨rfl,rfl⟩);refine az (v:=iw 0 0 3) ?_ rfl ⟨rfl,(aa _ _).alloc (bh _) _⟩;simp [results,Tryz.results55,go_sem,iw]
def hM(p:Int)(l:List UInt8)(e s:Int):Bool:=dD p&&dr 0 1073741789 e&&dr 0 1073741789 s&&(uR (pw 4 s*pw p (1073741789 - e) % 2147483579) l 1073741789==e)
theorem SJ {p:Int}{l:List UInt8}{e s:Int}(h:dD p=false):hM p l e s=false:=by simp [hM,h]
theorem SK {p:Int}{l:List UInt8}{e s:Int}(h:dr 0 1073741789 e=false):hM p l e s=false:=by simp [hM,h]
theorem SL {p:Int}{l:List UInt8}{e s:Int}(h:dr 0 1073741789 s=false):hM p l e s=false:=by simp [hM,h]
theorem DX {p:Int}{l:List UInt8}{e s:Int}(q:dD p=true)(C:dr 0 1073741789 e=true)(F:dr 0 1073741789 s=true):hM p l e s=(uR (pw 4 s*pw p (1073741789 - e) % 2147483579) l 1073741789==e):=by simp [hM,q,C,F]
theorem DY(x y:Int)(w:World)(H:0<=x)(q:x<2147483579)(I:0<=y)(C:y<2147483579):Calls Tryz.prog 123 #[.int .i64 x,.int .i64 y] w fun e w'=>(∃k,e=.returned (.tuple #[.int .i64 (x*y % 2147483579),.int .i64 k]))/\w=w':=by
 by_cases hx:x=0;· subst hx;have h:dr 1 2147483579 0=false:=kN (by omega);rw [Int.zero_mul];go_in;go_wp2_with(go_at_call 143;refine(fN _ _).mono ?_;rw [h];rintro e w'⟨rfl,rfl⟩);go_ret2;exact⟨⟨_,rfl⟩,rfl⟩
 · have l:dr 1 2147483579 x=true:=gQ (by omega) q;by_cases hy:y=0;(· subst hy;have h:dr 1 2147483579 0=false:=kN (by omega);rw [Int.mul_zero];go_in;go_wp2_with fail;refine(fN _ _).mono ?_;rw [l];rintro e w'⟨rfl,rfl⟩;go_wp2_with fail;refine(fN _ _).mono ?_;rw [h];rintro e w'⟨rfl,rfl⟩;go_wp2_with fail;go_ret2;exact⟨⟨_,rfl⟩,rfl⟩);· exact(DN x y w l (gQ (by omega) C)).mono fun e w'⟨F,G⟩=>⟨⟨_,F⟩,G⟩
set_option maxHeartbeats 1000000 in theorem yJ {a:Value}{l:List UInt8}(p e s:Int)(w:World)(H:Rd w a (ce l))(hl:l.length<=140737488352000)(E:dY w 1):Calls Tryz.prog 79 #[.int .i64 p,a,.agg #[.int .i64 e,.int .i64 s]] w (eP w (.bool (hM p l e s))):=by
 have C:Ext w (w.alloc (.cells #[.int .i64 e,.int .i64 s] 37)):=(aa _ _).alloc (bh _) _;by_cases hp:dD p=true
 · by_cases he:dr 0 1073741789 e=true;(· by_cases hs:dr 0 1073741789 s=true;(· rw [DX hp he hs];obtain⟨Q,p1⟩:=uP hp;have U:=gQ Q p1;obtain⟨g0,g1⟩:=eR he;obtain⟨s0,s1⟩:=eR hs;have X:=ab he;clear he;have Y:=H;obtain⟨A,n1,c,rfl,a0,a2,a3,hA⟩:=H.bytes;subst a0;clear hA H;go_in;go_wp2_with fail;refine(gX _ _).mono ?_;rw [hp];rintro q w'⟨rfl,rfl⟩;go_wp2_with fail;refine(iZ _ _).mono ?_;rw [X];rintro q w'⟨rfl,rfl⟩;go_wp2_with fail;refine(iZ _ _).mono ?_;rw [hs];rintro q w'⟨rfl,rfl⟩;go_wp2_with fail;refine(yA _ _ _ in4 (by omega) (by omega)).mono ?_;rintro q w'⟨rfl,rfl⟩;go_wp2_with fail;refine(yA _ _ _ U (by omega) (by omega)).mono ?_;rintro q w'⟨rfl,rfl⟩;have q0:=FN 4 s;have q1:=FO 4 s;have q2:=FN p (1073741789 - e);have q3:=FO p (1073741789 - e);go_wp2_with fail;refine(DY _ _ _ q0 q1 q2 q3).mono ?_;rintro q w'⟨⟨k,rfl⟩,rfl⟩;obtain⟨r0,r1⟩:=oQ (a:=pw 4 s) (b:=pw p (1073741789 - e));go_wp2_with fail;have G:∀W:World,Ext (w.alloc (.cells #[.int .i64 e,.int .i64 s] 37)) W->W.cell? ⟨w.heap.size,0,none⟩=some (.int .i64 e):=fun W h=>(h.cell (p:=⟨w.heap.size,0,none⟩) (by simp)).trans (by go_simp);have CS:=ab G;clear G;refine aL 5 (by kernel_rfl) (by kernel_rfl) ?_;simp only [eq,dw,ej,eh];intro I a1;have L:∀m:Lt I,Ext (w.alloc (.cells #[.int .i64 e,.int .i64 s] 37)) m.1:=fun m=>a1.tr m.2;have G:∀m:Lt I,m.1.cell? ⟨w.heap.size,0,none⟩=some (.int .i64 e):=fun m=>CS _ (L m);(repeat(refine jX rfl rfl rfl rfl rfl (fun K F=>?_);go_big_quiet_op;refine F _ ?_;clear F K));refine cB (.int .i64 (uR (pw 4 s*pw p (1073741789 - e) % 2147483579) l 1073741789)) rfl rfl rfl rfl (by kernel_rfl) rfl rfl (fun m=>SI _ _ _ (Y.ext (C.tr (L m))) (by omega) (by omega) (by omega) (by omega) (E.below (C.tr (L m)))) ?_;simp only [Act.put,bz,bu,bt];(repeat(refine jX rfl rfl rfl rfl rfl (fun K F=>?_);go_big_quiet_op;refine F _ ?_;clear F K));refine dK (fun m=>?_);have Lm:=L m;obtain⟨wy,a4⟩:=m;clear L G;go_wp2_with fail;go_ret;exact⟨rfl,C.tr Lm⟩);· have J:=not_true hs;rw [SL J];go_in;go_wp2_with fail;refine(gX _ _).mono ?_;rw [hp];rintro q w'⟨rfl,rfl⟩;go_wp2_with fail;refine(iZ _ _).mono ?_;rw [he];rintro q w'⟨rfl,rfl⟩;go_wp2_with fail;refine(iZ _ _).mono ?_;rw [J];rintro q w'⟨rfl,rfl⟩;go_wp2_with fail;go_ret;exact⟨rfl,C⟩);· have N:=not_true he;rw [SK N];go_in;go_wp2_with fail;refine(gX _ _).mono ?_;rw [hp];rintro q w'⟨rfl,rfl⟩;go_wp2_with fail;refine(iZ _ _).mono ?_;rw [N];rintro q w'⟨rfl,rfl⟩;go_wp2_with fail;go_ret;exact⟨rfl,C⟩
 · have O:=not_true hp;rw [SJ O];go_in;go_wp2_with fail;refine(gX _ _).mono ?_;rw [O];rintro q w'⟨rfl,rfl⟩;go_wp2_with fail;go_ret;exact⟨rfl,C⟩
set_option maxHeartbeats 1000000 in theorem mI {a:Value}{l:List UInt8}(p e s:Int)(w:World)(J:Rd w a (ce l))(hl:l.length<=140737488352000)(E:dY w 0):Calls Tryz.prog 88 #[.int .i64 p,a,.agg #[.int .i64 e,.int .i64 s]] w (eP w (.bool (hM p l e s))):=by
 have F:Ext w (w.alloc (.cells #[.int .i64 e,.int .i64 s] 37)):=(aa _ _).alloc (bh _) _;by_cases hp:dD p=true
 · by_cases he:dr 0 1073741789 e=true;(· by_cases hs:dr 0 1073741789 s=true;(· rw [DX hp he hs];obtain⟨p0,p1⟩:=uP hp;obtain⟨g0,g1⟩:=eR he;obtain⟨s0,s1⟩:=eR hs;have HL:=ab he;clear he;have a1:=J;obtain⟨A,n1,c,rfl,a2,a7,a8,hA⟩:=J.bytes;subst a2;clear hA J;go_in;go_wp2_with fail;refine(fB _ _).mono ?_;rw [hp];rintro C w'⟨rfl,rfl⟩;go_wp2_with fail;refine(jL _ _).mono ?_;rw [HL];rintro C w'⟨rfl,rfl⟩;go_wp2_with fail;refine(jL _ _).mono ?_;rw [hs];rintro C w'⟨rfl,rfl⟩;have q0:=FN 4 s;have q1:=FO 4 s;have q2:=FN p (1073741789 - e);have q3:=FO p (1073741789 - e);obtain⟨m0,m1⟩:=rM q0 q1 q2 q3;have G:∀W:World,Ext (w.alloc (.cells #[.int .i64 e,.int .i64 s] 37)) W->W.cell? ⟨w.heap.size,0,none⟩=some (.int .i64 e):=fun W h=>(h.cell (p:=⟨w.heap.size,0,none⟩) (by simp)).trans (by go_simp);have I:∀W:World,Ext (w.alloc (.cells #[.int .i64 e,.int .i64 s] 37)) W->W.cell? ⟨w.heap.size,1,none⟩=some (.int .i64 s):=fun W h=>(h.cell (p:=⟨w.heap.size,1,none⟩) (by simp)).trans (by go_simp);have U:=ab G;have a3:=ab I;clear G I;go_wp2_with fail;have a4:IntKind.i64.wrap (1073741789 - e)=1073741789 - e:=ag _ (by omega);have tm:(pw 4 s*pw p (1073741789 - e)).tmod 2147483579=pw 4 s*pw p (1073741789 - e) % 2147483579:=Int.tmod_eq_emod_of_nonneg m0;have a5:IntKind.i64.wrap (pw 4 s*pw p (1073741789 - e))=pw 4 s*pw p (1073741789 - e):=ag _ (by omega);refine aL 10 (by kernel_rfl) (by kernel_rfl) ?_;simp only [eq,dw,ej,eh];intro H N;have L:∀m:Lt H,Ext (w.alloc (.cells #[.int .i64 e,.int .i64 s] 37)) m.1:=fun m=>N.tr m.2;have G:∀m:Lt H,m.1.cell? ⟨w.heap.size,0,none⟩=some (.int .i64 e):=fun m=>U _ (L m);have I:∀m:Lt H,m.1.cell? ⟨w.heap.size,1,none⟩=some (.int .i64 s):=fun m=>a3 _ (L m);(repeat(refine jX rfl rfl rfl rfl rfl (fun K q=>?_);go_big_quiet_op;refine q _ ?_;clear q K));refine cB (.int .i64 (pw 4 s)) rfl rfl rfl rfl (by kernel_rfl) rfl rfl (fun m=>(lO _ _ _ (by omega) (by omega) (by omega) (by omega)).mono fun _ _⟨O,Q⟩=>⟨O,Q▸aa _ _⟩) ?_;simp only [Act.put,bz,bu,bt];(repeat(refine jX rfl rfl rfl rfl rfl (fun K q=>?_);go_big_quiet_op;refine q _ ?_;clear q K));refine cB (.int .i64 (pw p (1073741789 - e))) rfl rfl rfl rfl (by kernel_rfl) rfl rfl (fun m=>(lO _ _ _ (by omega) (by omega) (by omega) (by omega)).mono fun _ _⟨O,Q⟩=>⟨O,Q▸aa _ _⟩) ?_;simp only [Act.put,bz,bu,bt];(repeat(refine jX rfl rfl rfl rfl rfl (fun K q=>?_);go_big_quiet_op;refine q _ ?_;clear q K));refine dK (fun m=>?_);have Lm:=L m;obtain⟨wy,b0⟩:=m;clear L G I;obtain⟨r0,r1⟩:=oQ (a:=pw 4 s) (b:=pw p (1073741789 - e));go_wp2_with fail;clear a4 a5 tm;refine aL 5 (by kernel_rfl) (by kernel_rfl) ?_;simp only [eq,dw,ej,eh];intro H N;have L:∀m:Lt H,Ext (w.alloc (.cells #[.int .i64 e,.int .i64 s] 37)) m.1:=fun m=>(Lm.tr N).tr m.2;have G:∀m:Lt H,m.1.cell? ⟨w.heap.size,0,none⟩=some (.int .i64 e):=fun m=>U _ (L m);(repeat(refine jX rfl rfl rfl rfl rfl (fun K q=>?_);go_big_quiet_op;refine q _ ?_;clear q K));refine cB (.int .i64 (uR (pw 4 s*pw p (1073741789 - e) % 2147483579) l 1073741789)) rfl rfl rfl rfl (by kernel_rfl) rfl rfl (fun m=>qU _ _ (a1.ext (F.tr (L m))) (by omega) (E.below (F.tr (L m)))) ?_;simp only [Act.put,bz,bu,bt];refine dK (fun m=>?_);have a6:=L m;obtain⟨wz,b3⟩:=m;clear L G;go_wp2_with fail;go_ret;exact⟨by rw [Bool.beq_comm];rfl,F.tr a6⟩);· have X:=not_true hs;rw [SL X];go_in;go_wp2_with fail;refine(fB _ _).mono ?_;rw [hp];rintro C w'⟨rfl,rfl⟩;go_wp2_with fail;refine(jL _ _).mono ?_;rw [he];rintro C w'⟨rfl,rfl⟩;go_wp2_with fail;refine(jL _ _).mono ?_;rw [X];rintro C w'⟨rfl,rfl⟩;go_wp2_with fail;go_ret;exact⟨rfl,F⟩);· have Y:=not_true he;rw [SK Y];go_in;go_wp2_with fail;refine(fB _ _).mono ?_;rw [hp];rintro C w'⟨rfl,rfl⟩;go_wp2_with fail;refine(jL _ _).mono ?_;rw [Y];rintro C w'⟨rfl,rfl⟩;go_wp2_with fail;go_ret;exact⟨rfl,F⟩
 · have a0:=not_true hp;rw [SJ a0];go_in;go_wp2_with fail;refine(fB _ _).mono ?_;rw [a0];rintro C w'⟨rfl,rfl⟩;go_wp2_with fail;go_ret;exact⟨rfl,F⟩
theorem sM {k:Int}(H:1<=k)(I:k<1073741789)(l:List UInt8):hM (pw 4 k) l (qO k l) (uT k l)=true:=by
 obtain⟨G,J⟩:=DW k l;obtain⟨s0,s1⟩:=NP k l;obtain⟨N,O⟩:=NN k l;rw [DX (FS H I) (gQ G J) (gQ s0 s1)];have key:pw 4 (uT k l)*pw (pw 4 k) (1073741789 - qO k l) % 2147483579=pw 4 (uS k l):=by have K:uT k l=(uS k l+qO k l*k) % 1073741789:=rfl;generalize qO k l=e at*;generalize uS k l=n at*;rw [K];obtain⟨C,rfl⟩:=Int.eq_ofNat_of_zero_le (show 0<=k by omega);obtain⟨q,rfl⟩:=Int.eq_ofNat_of_zero_le G;obtain⟨F,rfl⟩:=Int.eq_ofNat_of_zero_le (show 0<=n by omega);have h:=RX (k:=C) (n:=F) (e:=q) (by omega) (by omega) (by omega);have c1:((F:Int)+(q:Int)*(C:Int)) % 1073741789=(((F+q*C) % 1073741789:Nat):Int):=(by simp);have c2:(1073741789:Int) - (q:Int)=((1073741789 - q:Nat):Int):=(by omega);rw [c1,c2,show(4:Int)=((4:Nat):Int)from rfl,uO,uO,uO,uO,<- h];simp
 rw [key];simp only [qO,beq_self_eq_true]
def sE(k:Int)(l:List UInt8):Int:=if dr 1 1073741789 k=true then qO k l else 0
def sS(k:Int)(l:List UInt8):Int:=if dr 1 1073741789 k=true then uT k l else 0
def sK(k:Int):Int:=if dr 1 1073741789 k=true then 0 else 3
theorem a2q {a:Value}{l:List UInt8}(k:Int)(w:World)(q:Rd w a (ce l))(C:l.length<=140737488352000)(E:dY w 1):Calls Tryz.prog 54 #[.int .i64 k,a] w (eP w (iw (sE k l) (sS k l) (sK k))):=by
 unfold sE sS sK;by_cases h:dr 1 1073741789 k=true;· rw [ax h,ax h,ax h];exact a1P k w h q C E
 · rw [ao h,ao h,ao h];exact a2t k w (not_true h) q
theorem mF {a:Value}{l:List UInt8}(k:Int)(w:World)(q:Rd w a (ce l))(C:l.length<=140737488352000)(E:dY w 0):Calls Tryz.prog 55 #[.int .i64 k,a] w (eP w (iw (sE k l) (sS k l) (sK k))):=by
 unfold sE sS sK;by_cases h:dr 1 1073741789 k=true;· rw [ax h,ax h,ax h];exact GA k w h q C E
 · rw [ao h,ao h,ao h];exact KZ k w (not_true h) q
structure XC (w wa:World) (g:Nat) (e s:Int):Prop where
 ext:Ext w wa
 lt:g<wa.heap.size
 c0:wa.cell? ⟨g,0,none⟩=some (.int .i64 e)
 c1:wa.cell? ⟨g,1,none⟩=some (.int .i64 s)
theorem mS(w:World)(e s:Int):∃wa,wa=w.alloc (.cells #[.int .i64 e,.int .i64 s] 37)/\XC w wa w.heap.size e s:=⟨_,rfl,(aa _ _).alloc (bh _) _,by simp,by go_simp,by go_simp⟩
theorem XC.keep {w wa wb:World}{g:Nat}{e s:Int}(h:XC w wa g e s)(b:Ext wa wb):XC w wb g e s:=⟨h.ext.tr b,ew h.lt b.size,(b.cell (p:=⟨g,0,none⟩) h.lt).trans h.c0,(b.cell (p:=⟨g,1,none⟩) h.lt).trans h.c1⟩
def a1i(e s:Int):Int:=if dr 0 1073741789 e=true/\dr 0 1073741789 s=true then 0 else 3
def a2G(l:List UInt8):Prop:=dr 0 1073741789 (num (l.take 4))=true/\dr 0 1073741789 (num (l.drop 4))=true
instance(l:List UInt8):Decidable (a2G l):=inferInstanceAs(Decidable (_/\_))
def aD(l:List UInt8):ByteArray:=⟨l.toArray⟩
def gg(z:Int):Prop:=65<=z/\z<=90
def jo(z:Int):Prop:=48<=z/\z<=57
instance(z:Int):Decidable (gg z):=inferInstanceAs(Decidable (_/\_))
instance(z:Int):Decidable (jo z):=inferInstanceAs(Decidable (_/\_))
def QO(l:List UInt8):Prop:=(1<=l.length/\l.length<=16)/\gg (cA l 0)/\∀i,i<l.length->gg (cA l i)\/jo (cA l i)
instance(l:List UInt8):Decidable (QO l):=inferInstanceAs(Decidable (_/\_/\_))
structure TC where
 au:List UInt8
 ho:List UInt8
 key:Int
 role:Int
 rights:Int
 fr:Int
 tqq:Int
 e:Int
 s:Int
def YW(fr tqq:Int):Prop:=0<=fr/\fr<=tqq/\tqq<=73048
instance(fr tqq:Int):Decidable (YW fr tqq):=inferInstanceAs(Decidable (_/\_))
def ckT(c:TC):Int:=if¬QO c.au\/ ¬QO c.ho then 60 else if dD c.key=false then 10 else if c.role<1\/4<c.role then 61 else if c.rights<0\/65535<c.rights then 62 else if¬YW c.fr c.tqq then 8 else 0
def ee(x:Int):List UInt8:=[u8 (x/65536),u8 (x/256),u8 x]
def aU(t:Int)(l:List UInt8):Nd:=.mk t l []
def a2E(c:TC):Nd:=.mk 32590 [] [aU 66 c.au,aU 24352 c.ho,aU 134 (ct c.key),.mk 32588 [] [aU 83 [u8 c.role,u8 (c.rights/256),u8 c.rights]],aU 24357 (ee c.fr),aU 24356 (ee c.tqq)]
def a2F(c:TC):List UInt8:=cK 3 [a2E c]
theorem fC {d:Nat}{t:Int}{l:List UInt8}(q:0<=t)(C:t<65536)(F:gW t=true)(G:eQ t=false):(0<=(aU t l).tag/\(aU t l).tag<65536)/\gW (aU t l).tag=true/\(eQ (aU t l).tag=true->(aU t l).val=[])/\(eQ (aU t l).tag=false->(aU t l).kids=[])/\lZ d (aU t l).kids:=by
 refine⟨⟨q,C⟩,F,fun h=>?_,fun _=>rfl,?_⟩;· rw [show(aU t l).tag=t from rfl,G]at h;cases h
 · show lZ d [];cases d with | zero=>rfl | succ d=>intro t H;cases H
theorem uU {d:Nat}{t:Int}{l:List Nd}(q:0<=t)(C:t<65536)(F:gW t=true)(G:eQ t=true)(H:lZ d l):(0<=(Nd.mk t [] l).tag/\(Nd.mk t [] l).tag<65536)/\gW (Nd.mk t [] l).tag=true/\(eQ (Nd.mk t [] l).tag=true->(Nd.mk t [] l).val=[])/\(eQ (Nd.mk t [] l).tag=false->(Nd.mk t [] l).kids=[])/\lZ d (Nd.mk t [] l).kids:=⟨⟨q,C⟩,F,fun _=>rfl,fun h=>(by rw [show(Nd.mk t [] l).tag=t from rfl,G]at h;cases h),H⟩
theorem iF(d:Nat):lZ d []:=by cases d with | zero=>rfl | succ d=>intro t l;cases l
theorem bR {d:Nat}{t:Nd}{ts:List Nd}(h:(0<=t.tag/\t.tag<65536)/\gW t.tag=true/\(eQ t.tag=true->t.val=[])/\(eQ t.tag=false->t.kids=[])/\lZ d t.kids)(q:lZ (d+1) ts):lZ (d+1) (t::ts):=by
 intro u l;rcases List.mem_cons.1 l with rfl | l;· exact h
 · exact q u l
section
variable {α:Type}{V:α->Prop}{B:α->List UInt8}{O:α->List Nd}{x:List Nd->Option α}
end
def cC(l:List UInt8):Prop:=(1<=l.length/\l.length<=3)/\∀i,i<l.length->gg (cA l i)
instance(l:List UInt8):Decidable (cC l):=inferInstanceAs(Decidable (_/\_))
def eF(x:Int):Prop:=1<=x/\x<=1073741824
instance(x:Int):Decidable (eF x):=inferInstanceAs(Decidable (_/\_))
structure NC where
 st:List UInt8
 kind:Int
 num:Int
 iss:Int
 own:Int
 key:Int
 fr:Int
 un:Int
 tqq:Int
 e:Int
 s:Int
def qV(num iss own kind:Int):Prop:=eF num/\eF iss/\eF own/\(iss=own↔kind=1)
instance(num iss own kind:Int):Decidable (qV num iss own kind):=inferInstanceAs(Decidable (_/\_/\_/\_))
def CO(fr un tqq:Int):Prop:=0<=fr/\fr<=un/\un<=tqq/\tqq<=73048
instance(fr un tqq:Int):Decidable (CO fr un tqq):=inferInstanceAs(Decidable (_/\_/\_/\_))
def ckN(c:NC):Int:=if¬cC c.st then 60 else if c.kind<1\/4<c.kind then 61 else if¬qV c.num c.iss c.own c.kind then 3 else if dD c.key=false then 10 else if¬CO c.fr c.un c.tqq then 8 else 0
theorem mJ {c:NC}(h:ckN c=0):cC c.st/\1<=c.kind/\c.kind<=4/\qV c.num c.iss c.own c.kind/\dD c.key=true/\CO c.fr c.un c.tqq:=by
 unfold ckN at h;split at h;· cases h
 · rename_i l;split at h;(· cases h);· rename_i G;split at h;(· cases h);· rename_i q;split at h;(· cases h);· rename_i F;split at h;(· cases h);· rename_i C;simp only [Decidable.not_not]at l q C;exact⟨l,by omega,by omega,q,by simpa using F,C⟩
theorem SP {c:NC}(h:¬cC c.st):ckN c=60:=ax h
theorem sN {c:NC}(l:cC c.st)(q:c.kind<1\/4<c.kind):ckN c=61:=by unfold ckN;rw [ao (ak l),ax q]
theorem k8 {c:NC}(l:cC c.st)(q:¬(c.kind<1\/4<c.kind))(C:¬qV c.num c.iss c.own c.kind):ckN c=3:=by unfold ckN;rw [ao (ak l),ao q,ax C]
theorem NR {c:NC}(l:cC c.st)(q:¬(c.kind<1\/4<c.kind))(C:qV c.num c.iss c.own c.kind)(F:dD c.key=false):ckN c=10:=by unfold ckN;rw [ao (ak l),ao q,ao (ak C),ax F]
theorem kA {c:NC}(l:cC c.st)(q:¬(c.kind<1\/4<c.kind))(C:qV c.num c.iss c.own c.kind)(F:dD c.key=true)(G:¬CO c.fr c.un c.tqq):ckN c=8:=by unfold ckN;rw [ao (ak l),ao q,ao (ak C),ao (by rw [F];simp),ax G]
theorem DZ {c:NC}(l:cC c.st)(q:¬(c.kind<1\/4<c.kind))(C:qV c.num c.iss c.own c.kind)(F:dD c.key=true)(G:CO c.fr c.un c.tqq):ckN c=0:=by unfold ckN;rw [ao (ak l),ao q,ao (ak C),ao (by rw [F];simp),ao (ak G)]
def du(c:NC)(day:Int):Int:=if ckN c=0 then(if day<c.fr then 64 else if c.tqq<day then 63 else 0)else ckN c
def cv(c:NC):Value:=.agg #[.string (aD c.st),.int .i64 c.kind,.int .i64 c.num,.int .i64 c.iss,.int .i64 c.own,.int .i64 c.key,.int .i64 c.fr,.int .i64 c.un,.int .i64 c.tqq,.int .i64 c.e,.int .i64 c.s]
def dL:NC:=⟨[],0,0,0,0,0,0,0,0,0,0⟩
def qW(c:NC):List UInt8:=ee c.fr++ee c.un++ee c.tqq
def fO(c:NC):Nd:=.mk 48 [] [aU 19 c.st,aU 129 [u8 c.kind],aU 130 (ct c.num),aU 131 (ct c.iss),aU 132 (ct c.own),aU 133 (ct c.key),aU 134 (qW c)]
def fP(c:NC):Nd:=.mk 48 [] [fO c,aU 3 (ct c.e++ct c.s)]
def eJ(c:NC):List UInt8:=cK 2 [fO c]
def a0t(c:NC):Prop:=ckN c=0/\a1i c.e c.s=0
theorem yK(c:NC):lZ 2 [fO c]:=by refine bR (uU (by decide) (by decide) (by decide) (by decide) ?_) (iF _);refine bR (fC (by decide) (by decide) (by decide) (by decide)) ?_;refine bR (fC (by decide) (by decide) (by decide) (by decide)) ?_;refine bR (fC (by decide) (by decide) (by decide) (by decide)) ?_;refine bR (fC (by decide) (by decide) (by decide) (by decide)) ?_;refine bR (fC (by decide) (by decide) (by decide) (by decide)) ?_;refine bR (fC (by decide) (by decide) (by decide) (by decide)) ?_;exact bR (fC (by decide) (by decide) (by decide) (by decide)) (iF _)
theorem SQ(c:NC):lZ 3 [fP c]:=by refine bR (uU (by decide) (by decide) (by decide) (by decide) ?_) (iF _);refine bR (yK c _ (ah.2 rfl)) ?_;exact bR (fC (by decide) (by decide) (by decide) (by decide)) (iF _)
theorem yL {c:NC}(l:c.st.length<=3):(eJ c).length<=200:=by
 have h:=lE 2 [fO c];have q:bT 2 [fO c]=8:=rfl;have C:fL 2 [fO c]=c.st.length+26:=by simp only [fL,fO,aU,qW,Nd.val,Nd.kids,List.map_cons,List.map_nil,List.sum_cons,List.sum_nil,cz,dn,dq,ct,ee];omega
 unfold eJ;omega
def BK(c:NC)(e s:Int):NC:=⟨c.st,c.kind,c.num,c.iss,c.own,c.key,c.fr,c.un,c.tqq,e,s⟩
def ju(c:NC):List UInt8:=if ckN c=0 then eJ c else []
def sO(k:Int)(c:NC):NC:=if ckN c=0/\sK k=0 then BK c (sE k (eJ c)) (sS k (eJ c))else dL
def PQ(k:Int)(c:NC):Int:=if ckN c=0 then sK k else ckN c
def vfN(p:Int)(c:NC):Bool:=if ckN c=0 then hM p (eJ c) c.e c.s else false
def ik(c:NC):Bool:=if c.kind=1 then vfN c.key c else false
theorem XF(c:NC)(e s:Int):ckN (BK c e s)=ckN c:=rfl
theorem L1(c:NC)(e s:Int):eJ (BK c e s)=eJ c:=rfl
theorem E0 {k:Int}{c:NC}(l:dr 1 1073741789 k=true)(q:ckN c=0):sO k c=BK c (qO k (eJ c)) (uT k (eJ c)):=by unfold sO sE sS;have C:sK k=0:=ax l;rw [ax ⟨q,C⟩,ax l,ax l]
theorem PS {k:Int}{c:NC}(l:dr 1 1073741789 k=true)(q:ckN c=0):vfN (pw 4 k) (sO k c)=true:=by obtain⟨C,F⟩:=eR l;rw [E0 l q];unfold vfN;rw [XF,ax q,L1];exact sM C F _
theorem SS {e s:Int}(l:0<=e/\e<1073741789)(q:0<=s/\s<1073741789):a1i e s=0:=ax ⟨gQ l.1 l.2,gQ q.1 q.2⟩
theorem E2 {k:Int}{c:NC}(q:dr 1 1073741789 k=true)(l:ckN c=0):a0t (sO k c):=by rw [E0 q l];exact⟨l,SS (DW _ _) (NP _ _)⟩
theorem E3(c:NC):(ju c).length<=200:=by
 unfold ju;split;· rename_i h;exact yL (mJ h).1.1.2
 · simp
def df(c:NC):Prop:=c.st.length<=maxLen
theorem yM {c:NC}(h:ckN c=0):df c:=by have:=(mJ h).1.1.2;unfold df maxLen;omega
def NC.nums(c:NC):List Int:=[c.kind,c.num,c.iss,c.own,c.key,c.fr,c.un,c.tqq,c.e,c.s]
theorem NC.tup_inj {a b:NC}(h:a.st=b.st/\a.nums=b.nums):a=b:=by cases a;cases b;simp only [NC.nums,List.cons.injEq,and_true]at h;obtain⟨rfl,rfl,rfl,rfl,rfl,rfl,rfl,rfl,rfl,rfl,rfl⟩:=h;rfl
instance:DecidableEq NC:=fun a b=>decidable_of_iff (a.st=b.st/\a.nums=b.nums) ⟨NC.tup_inj,fun h=>by rw [h];exact⟨rfl,rfl⟩⟩
def XG(day:Int)(a b:NC):Prop:=a.st=b.st/\b.iss=a.own/\(a.kind=1\/a.kind=2)/\b.kind≠1/\du a day=0/\du b day=0/\vfN a.key b=true
instance(day:Int)(a b:NC):Decidable (XG day a b):=inferInstanceAs(Decidable (_/\_))
def fD(day:Int)(a b:NC):Bool:=decide (XG day a b)
def qX(st:List UInt8)(day:Int)(c:NC):Prop:=c.st=st/\du c day=0/\ik c=true
instance(st:List UInt8)(day:Int)(c:NC):Decidable (qX st day c):=inferInstanceAs(Decidable (_/\_))
def cW(st:List UInt8)(day:Int)(l:List NC)(c:NC):List NC:=if qX st day c/\c∉l then l++[c]else l
def bW(roots:List NC)(st:List UInt8)(day:Int):List NC:=roots.foldl (cW st day) []
def GC(day:Int)(out next:List NC)(c:NC):Prop:=c.kind=2/\c∉next/\(out.any fun a=>fD day a c)=true
instance(day:Int)(out next:List NC)(c:NC):Decidable (GC day out next c):=inferInstanceAs(Decidable (_/\_))
def eS(day:Int)(out next:List NC)(c:NC):List NC:=if GC day out next c then next++[c]else next
def gC(pool:List NC)(day:Int)(out:List NC):List NC:=pool.foldl (eS day out) out
def jG(pool out:List NC):Nat:=(pool.filter fun c=>decide (c∉out)).length
def jk (pool:List NC) (day:Int):Nat->List NC->List NC
 | 0,out=>out
 | n+1,out=>if (gC pool day out).length=out.length then out else jk pool day n (gC pool day out)
def dM(roots pool:List NC)(st:List UInt8)(day:Int):List NC:=jk pool day (pool.length+1) (bW roots st day)
theorem E4(day:Int)(out next:List NC)(c:NC):∃t,eS day out next c=next++t/\(t=[]\/(t=[c]/\GC day out next c)):=by
 unfold eS;split;· rename_i h;exact⟨[c],rfl,.inr ⟨rfl,h⟩⟩
 · exact⟨[],(List.append_nil _).symm,.inl rfl⟩
theorem uV (day:Int) (out:List NC):∀ (l next:List NC),∃ t,l.foldl (eS day out) next=next++t/\∀ c ∈ t,c ∈ l/\c.kind=2/\c ∉ next/\(out.any fun a=>fD day a c)=true
 | [],next=>⟨[],(List.append_nil _).symm,fun c h=>by cases h⟩
 | x::l,next=>by
   obtain ⟨t1,G,F⟩:=E4 day out next x
   obtain ⟨H,I,J⟩:=uV day out l (eS day out next x)
   refine ⟨t1++H,by rw [List.foldl_cons,I,G,fc],fun c C=>?_⟩
   rcases List.mem_append.1 C with C | C
   · rcases F with rfl | ⟨rfl,F⟩
     · cases C
     · obtain rfl:c=x:=ah.1 C
       exact ⟨fm,F.1,F.2.1,F.2.2⟩
   · obtain ⟨K,N,O,Q⟩:=J c C
     exact ⟨io _ K,N,fun q=>O (by rw [G];exact List.mem_append_left _ q),Q⟩
theorem jM(pool:List NC)(day:Int)(out:List NC):∃t,gC pool day out=out++t/\∀c∈t,c∈pool/\c.kind=2/\c∉out/\(out.any fun a=>fD day a c)=true:=uV day out pool out
theorem mT(pool out:List NC):jG pool out<=pool.length:=List.length_filter_le _ _
theorem uW {α:Type} (p q:α->Bool):∀ (l:List α),(∀ x ∈ l,q x=true->p x=true)->(∃ x ∈ l,p x=true/\q x=false)->(l.filter q).length<(l.filter p).length
 | [],_,⟨x,h,_⟩=>by cases h
 | y::l,h,⟨x,C,K,N⟩=>by
   have le:(l.filter q).length<=(l.filter p).length:=by
    have:∀ m:List α,(∀ x ∈ m,q x=true->p x=true)->(m.filter q).length<=(m.filter p).length:=by
     intro m
     induction m with
     | nil=>intro _;exact bh _
     | cons z m F =>
       intro O
       have G:=F fun x C=>O x (io _ C)
       have H:=O z fm
       cases I:q z with
       | true=>rw [List.filter_cons_of_pos I,List.filter_cons_of_pos (H I)];exact Nat.succ_le_succ G
       | false =>
         rw [List.filter_cons_of_neg (by rw [I];simp)]
         cases Q:p z with
         | true=>rw [List.filter_cons_of_pos Q];exact Nat.le_succ_of_le G
         | false=>rw [List.filter_cons_of_neg (by rw [Q];simp)];exact G
    exact this l fun x C=>h x (io _ C)
   rcases List.mem_cons.1 C with rfl | C
   · rw [List.filter_cons_of_pos K,List.filter_cons_of_neg (by rw [N];simp)]
     exact Nat.lt_succ_of_le le
   · have F:=uW p q l (fun x C=>h x (io _ C)) ⟨x,C,K,N⟩
     have H:=h y fm
     cases J:q y with
     | true=>rw [List.filter_cons_of_pos J,List.filter_cons_of_pos (H J)];exact Nat.succ_lt_succ F
     | false =>
       rw [List.filter_cons_of_neg (by rw [J];simp)]
       cases U:p y with
       | true=>rw [List.filter_cons_of_pos U];exact Nat.lt_succ_of_lt F
       | false=>rw [List.filter_cons_of_neg (by rw [U];simp)];exact F
theorem yN {pool out:List NC}{day:Int}(h:(gC pool day out).length≠out.length):jG pool (gC pool day out)<jG pool out:=by obtain⟨t,e,C⟩:=jM pool day out;rw [e]at h⊢;have F:t≠[]:=fun q=>h (by rw [q];simp);obtain⟨c,l⟩:=List.exists_mem_of_ne_nil t F;obtain⟨G,_,H,_⟩:=C c l;refine uW _ _ pool (fun x _ I=>?_) ⟨c,G,ay H,aw (fun q=>q (List.mem_append_right _ l))⟩;have J:x∉out++t:=of_decide_eq_true I;exact ay fun q=>J (List.mem_append_left _ q)
theorem GD (pool:List NC) (day:Int):∀ (n m:Nat) (out:List NC),jG pool out<n->jG pool out<m->jk pool day n out=jk pool day m out
 | 0,_,_,h,_=>absurd h (Nat.not_lt_zero _)
 | _,0,_,_,h=>absurd h (Nat.not_lt_zero _)
 | n+1,m+1,out,l,q=>by
   unfold jk
   by_cases h:(gC pool day out).length=out.length
   · rw [ax h,ax h]
   · rw [ao h,ao h]
     have:=yN h
     exact GD pool day n m _ (by omega) (by omega)
def BL(pool:List NC)(day:Int)(out:List NC):List NC:=jk pool day (pool.length+1) out
theorem CP {pool out:List NC}{day:Int}(h:(gC pool day out).length=out.length):BL pool day out=out:=by unfold BL jk;rw [ax h]
theorem CQ {pool out:List NC}{day:Int}(h:(gC pool day out).length≠out.length):BL pool day out=BL pool day (gC pool day out):=by
 have l:=yN h;have q:=mT pool out;have C:=mT pool (gC pool day out);have e:BL pool day out=jk pool day pool.length (gC pool day out):=by unfold BL;rw [jk,ao h]
 rw [e];exact GD pool day _ _ _ (by omega) (by omega)
def nT(day:Int)(L:List NC)(c:NC):Option NC:=L.find? fun a=>fD day a c
inductive jw (day:Int) (L:List NC):NC->List NC->Prop
 | root {x y:NC}:nT day L x=some y->y.kind=1->jw day L x [y]
 | step {x y:NC}{b:List NC}:nT day L x=some y->y.kind≠1->jw day L y b->jw day L x (y::b)
theorem jw.det {day:Int}{L:List NC}{x:NC}{b:List NC} (h:jw day L x b):∀ {C:List NC},jw day L x C->b=C:=by
 induction h with
 | root l F =>
   intro C G
   cases G with
   | root k1 q=>rw [l] at k1;injection k1 with k1;rw [k1]
   | step k1 q H=>rw [l] at k1;injection k1 with k1;subst k1;exact absurd F q
 | step l F J I =>
   intro C G
   cases G with
   | root k1 q=>rw [l] at k1;injection k1 with k1;subst k1;exact absurd q F
   | step k1 q H=>rw [l] at k1;injection k1 with k1;subst k1;rw [I H]
open Classical in noncomputable def kB(day:Int)(L:List NC)(c:NC):Option (List NC):=if h:∃b,jw day L c b then some ((c::Classical.choose h).reverse)else none
theorem GE {day:Int}{L:List NC}{c:NC}{b:List NC}(h:jw day L c b):kB day L c=some ((c::b).reverse):=by have l:∃b,jw day L c b:=⟨b,h⟩;unfold kB;rw [dif_pos l,(Classical.choose_spec l).det h]
theorem GG {day:Int}{L:List NC}{c:NC}(h:nT day L c=none):kB day L c=none:=by unfold kB;rw [dif_neg];rintro⟨b,l⟩;cases l with | root k1 q=>rw [h]at k1;cases k1 | step k1 q C=>rw [h]at k1;cases k1
theorem oV {day:Int}{L:List NC}{c y:NC}(h:nT day L c=some y):y∈L/\fD day y c=true:=⟨List.mem_of_find?_eq_some h,List.find?_some (p:=fun a=>fD day a c) h⟩
def ji(day:Int)(L:List NC):Prop:=∀y∈L,y.kind≠1->∃z,nT day L y=some z/\L.idxOf z<L.idxOf y
theorem SU {α:Type} [BEq α] [LawfulBEq α] {l t:List α}{z:α}(h:z∈l):(l++t).idxOf z=l.idxOf z:=by rw [List.idxOf_append,ax h]
theorem XH {α:Type} [BEq α] [LawfulBEq α] {l:List α}{z:α}(h:z∈l):l.idxOf z<l.length:=List.idxOf_lt_length_of_mem h
theorem XI {α:Type} [BEq α] [LawfulBEq α] {l t:List α}{z:α}(h:z∉l):l.length<=(l++t).idxOf z:=by rw [List.idxOf_append,ao h];omega
theorem vX {p:NC->Bool}{l:List NC}{w:NC}(q:w∈l)(C:p w=true):∃z,l.find? p=some z:=by cases h:l.find? p with | some z=>exact⟨z,rfl⟩ | none=>exact absurd C (by simpa using List.find?_eq_none.1 h w q)
theorem ji.back {day:Int}{L:List NC} (h:ji day L):∀ (n:Nat) (y:NC),y ∈ L->y.kind≠1->L.idxOf y<n->∃ b,jw day L y b
 | 0,_,_,_,q=>absurd q (Nat.not_lt_zero _)
 | n+1,y,C,F,q=>by
   obtain ⟨z,l,H⟩:=h y C F
   by_cases h1:z.kind=1
   · exact ⟨_,.root l h1⟩
   · obtain ⟨b,G⟩:=h.back n z (oV l).1 h1 (by omega)
     exact ⟨_,.step l h1 G⟩
theorem ji.path {day:Int}{L:List NC}(h:ji day L){c y:NC}(l:nT day L c=some y):∃b,jw day L c b:=by
 by_cases h1:y.kind=1;· exact⟨_,.root l h1⟩
 · obtain⟨b,q⟩:=h.back _ y (oV l).1 h1 (Nat.lt_succ_self _);exact⟨_,.step l h1 q⟩
theorem ji.none_iff {day:Int}{L:List NC}(h:ji day L){c:NC}:kB day L c=none↔nT day L c=none:=by refine⟨fun q=>?_,GG⟩;cases l:nT day L c with | none=>rfl | some y=>obtain⟨b,C⟩:=h.path l;rw [GE C]at q;cases q
theorem E5 {l t:List NC}{z:NC}(h:z∈l):(l++t).idxOf z=l.idxOf z:=SU h
theorem L4 {l:List NC}{z:NC}(h:z∈l):l.idxOf z<l.length:=XH h
theorem a0u {l t:List NC}{z:NC}(h:z∉l):l.length<=(l++t).idxOf z:=XI h
theorem XJ {day:Int}{out t:List NC}(h:ji day out)(C:∀c∈t,c∉out/\(out.any fun a=>fD day a c)=true):ji day (out++t):=by
 intro y F G;by_cases ho:y∈out;· obtain⟨z,l,H⟩:=h y ho G;refine⟨z,?_,by rw [E5 (oV l).1,E5 ho];exact H⟩;unfold nT at l⊢;rw [List.find?_append,l];rfl
 · have I:y∈t:=(List.mem_append.1 F).resolve_left ho;obtain⟨_,J⟩:=C y I;obtain⟨w,K,N⟩:=List.any_eq_true.1 J;obtain⟨z,l⟩:=vX (p:=fun a=>fD day a y) K N;refine⟨z,?_,?_⟩;(· unfold nT;rw [List.find?_append,l];rfl);· have q:=List.mem_of_find?_eq_some l;rw [E5 q];exact ew (L4 q) (a0u ho)
theorem PT {day:Int}{pool out:List NC}(h:ji day out):ji day (gC pool day out):=by obtain⟨t,e,l⟩:=jM pool day out;rw [e];exact XJ h fun c q=>⟨(l c q).2.2.1,(l c q).2.2.2⟩
theorem SV {day:Int}{pool:List NC}:∀ (n:Nat) (out:List NC),ji day out->ji day (jk pool day n out)
 | 0,_,h=>h
 | n+1,out,h=>by
   unfold jk
   split
   · exact h
   · exact SV n _ (PT h)
theorem E7 {c:NC}(h:ik c=true):c.kind=1/\vfN c.key c=true:=by
 unfold ik at h;split at h;· rename_i q;exact⟨q,h⟩
 · cases h
theorem sP (st:List UInt8) (day:Int):∀ (l C:List NC),∀ c ∈ l.foldl (cW st day) C,c ∈ C \/ (c ∈ l/\qX st day c)
 | [],C,c,F=>.inl F
 | x::l,C,c,F=>by
   rcases sP st day l _ c F with h | h
   · unfold cW at h
     split at h
     · rename_i q
       rcases List.mem_append.1 h with h | h
       · exact .inl h
       · obtain rfl:=ah.1 h
         exact .inr ⟨fm,q.1⟩
     · exact .inl h
   · exact .inr ⟨io _ h.1,h.2⟩
theorem jN {roots:List NC}{st:List UInt8}{day:Int}{c:NC}(h:c∈bW roots st day):c∈roots/\qX st day c:=(sP st day roots [] c h).resolve_left (by simp)
theorem yO {st:List UInt8}{day:Int}{l:List NC}{x c:NC}(h:c∈l):c∈cW st day l x:=by
 unfold cW;split;· exact List.mem_append_left _ h
 · exact h
theorem vY (st:List UInt8) (day:Int):∀ (l q:List NC) (c:NC),c ∈ q->c ∈ l.foldl (cW st day) q
 | [],_,_,h=>h
 | x::l,q,c,h=>vY st day l _ c (yO h)
theorem yP (st:List UInt8) (day:Int):∀ (l C:List NC) (c:NC),c ∈ l->qX st day c->c ∈ l.foldl (cW st day) C
 | x::l,C,c,h,F=>by
   rcases List.mem_cons.1 h with rfl | h
   · refine vY st day l _ c ?_
     unfold cW
     by_cases hm:c ∈ C
     · rw [ao (fun q=>q.2 hm)];exact hm
     · rw [ax ⟨F,hm⟩];exact List.mem_append_right _ fm
   · exact yP st day l _ c h F
theorem L6 {roots:List NC}{st:List UInt8}{day:Int}{c:NC}:c∈bW roots st day↔c∈roots/\qX st day c:=⟨jN,fun h=>yP st day roots [] c h.1 h.2⟩
theorem PU(roots:List NC)(st:List UInt8)(day:Int):ji day (bW roots st day):=fun y l q=>absurd (E7 (jN l).2.2.2).1 q
theorem uX(roots pool:List NC)(st:List UInt8)(day:Int):ji day (dM roots pool st day):=SV _ _ (PU _ _ _)
theorem NS (pool:List NC) (day:Int):∀ (n:Nat) (out:List NC),∃ t,jk pool day n out=out++t/\∀ c ∈ t,c ∈ pool/\c.kind=2
 | 0,out=>⟨[],(List.append_nil _).symm,fun c h=>by cases h⟩
 | n+1,out=>by
   unfold jk
   split
   · exact ⟨[],(List.append_nil _).symm,fun c h=>by cases h⟩
   · obtain ⟨t1,C,q⟩:=jM pool day out
     obtain ⟨F,G,H⟩:=NS pool day n (gC pool day out)
     refine ⟨t1++F,by rw [G,C,fc],fun c l=>?_⟩
     rcases List.mem_append.1 l with l | l
     · exact ⟨(q c l).1,(q c l).2.1⟩
     · exact H c l
theorem CR(roots pool:List NC)(st:List UInt8)(day:Int):∃t,dM roots pool st day=bW roots st day++t/\∀c∈t,c∈pool/\c.kind=2:=NS pool day _ _
theorem PV {roots pool:List NC}{st:List UInt8}{day:Int}{c:NC}(h:c∈dM roots pool st day):(c∈roots/\qX st day c/\c.kind=1)\/(c∈pool/\c.kind=2):=by
 obtain⟨t,e,l⟩:=CR roots pool st day;rw [e]at h;rcases List.mem_append.1 h with h | h;· have:=jN h;exact .inl ⟨this.1,this.2,(E7 this.2.2.2).1⟩
 · exact .inr (l c h)
def chainB (day:Int):List NC->Bool
 | a::b::l=>fD day a b && chainB day (b::l)
 | _=>true
def vfB(p:Int)(c:TC):Bool:=if ckT c=0 then hM p (a2F c) c.e c.s else false
theorem a0d {k:Int}(h:dr 1 1073741789 k=true):sK k=0:=ax h
theorem NT {s:ByteArray}{k:Nat}(h:k<s.size):cA s.data.toList k=(s[k].toNat:Int):=by rw [lA (l:=s.data.toList) (by simpa using h)];rfl
def a2H(x:Int):Prop:=0<=x/\x<=73048
instance(x:Int):Decidable (a2H x):=inferInstanceAs(Decidable (_/\_))
abbrev fx(c:NC):Obj:=.cells #[.string (aD c.st),.int .i64 c.kind,.int .i64 c.num,.int .i64 c.iss,.int .i64 c.own,.int .i64 c.key,.int .i64 c.fr,.int .i64 c.un,.int .i64 c.tqq,.int .i64 c.e,.int .i64 c.s] 39
theorem oC {l:List UInt8}(h:l.length<1):decide (cC l)=false:=aw fun q=>by have:=q.1.1;omega
theorem oW {l:List UInt8}(h:3<l.length):decide (cC l)=false:=aw fun q=>by have:=q.1.2;omega
theorem sQ {l:List UInt8}(i:Nat)(hi:i<l.length)(h:¬gg (cA l i)):decide (cC l)=false:=aw fun q=>h (q.2 i hi)
theorem yQ {l:List UInt8}(q:1<=l.length)(C:l.length<=3)(F:∀i,i<l.length->gg (cA l i)):decide (cC l)=true:=ay ⟨⟨q,C⟩,F⟩
set_option maxHeartbeats 1000000 in theorem CT(s:ByteArray)(w:World)(O:s.size<=maxLen):Calls Tryz.prog 56 #[.string s] w fun e w'=>e=.returned (.bool (decide (cC s.data.toList)))/\w=w':=by
 unfold maxLen at O;have C:s.data.toList.length=s.size:=by simp
 by_cases h1:s.size<1;· have q:=ab (oC (l:=s.data.toList) (by omega));clear C;go_in;go_wp2;go_ret;exact⟨by rw [q];rfl,rfl⟩
 by_cases h16:3<s.size;· have q:=ab (oW (l:=s.data.toList) (by omega));clear C;go_in;go_wp2;go_ret;exact⟨by rw [q];rfl,rfl⟩
 have F:=ab C;clear C;go_in;go_wp2;go_loop [3,14](fun _ i=>∃k:Nat,k<=s.size/\i=.int .i64 (k:Int)/\∀j,j<k->gg (cA s.data.toList j))(fun _ i=>s.size - (intOf i).toNat);case atStart=>exact⟨0,de _,rfl,fun j G=>absurd G (by omega)⟩
 case round=>obtain⟨k,W,rfl,H⟩:=hrel;have I:=ab H;clear H;by_cases hlt:k<s.size;(· have J:=ab (NT hlt);have X:(s[k].toNat:Int)<256:=(by have:=UInt8.toNat_lt s[k];omega);have next:gg (s[k].toNat:Int)->∀j,j<k+1->gg (cA s.data.toList j):=fun h j G=>(by by_cases hjk:j<k;(· exact I j hjk);· obtain rfl:j=k:=(by omega);rw [J];exact h);have Q:=ab next;have K:¬gg (s[k].toNat:Int)->decide (cC s.data.toList)=false:=fun h=>sQ k (by rw [F];exact hlt) (by rw [J];exact h);have N:=ab K;clear next K;by_cases c1:(s[k].toNat:Int)<65;(· have q:=ab (N (by unfold gg;omega));go_wp2;go_ret;exact⟨by rw [q];rfl,rfl⟩);· by_cases c2:90<(s[k].toNat:Int);(· have q:=ab (N (by unfold gg;omega));go_wp2;go_ret;exact⟨by rw [q];rfl,rfl⟩);· have q:=ab (Q (by unfold gg;omega));go_wp2;go_round;(case rel=>exact⟨k+1,by omega,by go_num,q⟩);case measure=>simp [intOf];omega);· obtain rfl:k=s.size:=(by omega);have q:=ab (yQ (l:=s.data.toList) (by rw [F];omega) (by rw [F];omega) (fun i U=>I i (by rw [<- F];exact U)));go_wp2;go_ret;exact⟨by rw [q];rfl,rfl⟩
set_option maxHeartbeats 1000000 in theorem sR(s:ByteArray)(w:World)(N:s.size<=maxLen):Calls Tryz.prog 60 #[.string s] w fun e w'=>e=.returned (.bool (decide (cC s.data.toList)))/\w=w':=by
 unfold maxLen at N;have F:s.data.toList.length=s.size:=by simp
 have C:=ab F;clear F;go_in;go_wp2;go_loop [3](fun i=>∃k:Nat,k<=s.size/\i=.int .i64 (k:Int)/\∀j,j<k->gg (cA s.data.toList j))(fun i=>s.size - (intOf i).toNat);case atStart=>exact⟨0,de _,rfl,fun j G=>absurd G (by omega)⟩
 case round=>obtain⟨k,U,rfl,H⟩:=hrel;have I:=ab H;clear H;by_cases hlt:k<s.size;(· have J:=ab (NT hlt);have W:(s[k].toNat:Int)<256:=(by have:=UInt8.toNat_lt s[k];omega);have O:=ab (fun(h:gg (s[k].toNat:Int))=>(fun j G=>by by_cases hjk:j<k;(· exact I j hjk);· obtain rfl:j=k:=(by omega);rw [J];exact h:∀j,j<k+1->gg (cA s.data.toList j)));have K:=ab (fun(h:¬gg (s[k].toNat:Int))=>sQ (l:=s.data.toList) k (by rw [C];exact hlt) (by rw [J];exact h));by_cases c1:(s[k].toNat:Int)<65;(· have q:=ab (K (by unfold gg;omega));go_wp2;go_ret;exact⟨by rw [q];rfl,rfl⟩);· by_cases c2:90<(s[k].toNat:Int);(· have q:=ab (K (by unfold gg;omega));go_wp2;go_ret;exact⟨by rw [q];rfl,rfl⟩);· have q:=ab (O (by unfold gg;omega));go_wp2;go_round;(case rel=>exact⟨k+1,by omega,by go_num,q⟩);case measure=>simp [intOf];omega);· obtain rfl:k=s.size:=(by omega);by_cases h1:1<=s.size;(· by_cases h2:s.size<=3;(· have q:=ab ((yQ (l:=s.data.toList) (by rw [C];omega) (by rw [C];omega) (fun i Q=>I i (by rw [<- C];exact Q))).trans (ay (show(s.size:Int)<=3 by omega)).symm);go_wp2;go_ret;exact⟨by rw [q];rfl,rfl⟩);· have q:=ab ((oW (l:=s.data.toList) (by rw [C];omega)).trans (aw (show¬(s.size:Int)<=3 by omega)).symm);go_wp2;go_ret;exact⟨by rw [q];rfl,rfl⟩);· have q:=ab (oC (l:=s.data.toList) (by rw [C];omega));go_wp2;go_ret;exact⟨by rw [q];rfl,rfl⟩
theorem wT(l:List UInt8)(w:World)(q:l.length<=maxLen):Calls Tryz.prog 56 #[.string (aD l)] w fun e w'=>e=.returned (.bool (decide (cC l)))/\w=w' :=CT (aD l) w (by show l.toArray.size<=_;simpa using q)
theorem sT(l:List UInt8)(w:World)(q:l.length<=maxLen):Calls Tryz.prog 60 #[.string (aD l)] w fun e w'=>e=.returned (.bool (decide (cC l)))/\w=w' :=sR (aD l) w (by show l.toArray.size<=_;simpa using q)
theorem wU(x:Int)(w:World):Calls Tryz.prog 121 #[.int .i64 x] w fun e w'=>e=.returned (.bool (dD x))/\w=w':=gX x w
theorem sU(x:Int)(w:World):Calls Tryz.prog 127 #[.int .i64 x] w fun e w'=>e=.returned (.bool (dD x))/\w=w':=fB x w
theorem eT(x:Int)(w:World):Calls Tryz.prog 57 #[.int .i64 x] w fun e w'=>e=.returned (.bool (decide (eF x)))/\w=w':=by
 by_cases h1:1<=x;· have l:=ab (show decide (eF x)=decide (x<=1073741824)from decide_eq_decide.2 ⟨fun h=>h.2,fun h=>⟨h1,h⟩⟩);go_in;go_wp2;go_ret;exact⟨by rw [l];rfl,rfl⟩
 · have l:=ab (show decide (eF x)=false from aw fun h=>h1 h.1);go_in;go_wp2;go_ret;exact⟨by rw [l];rfl,rfl⟩
theorem bX(x:Int)(w:World):Calls Tryz.prog 61 #[.int .i64 x] w fun e w'=>e=.returned (.bool (decide (eF x)))/\w=w':=by
 by_cases h1:1<=x;· have l:=ab (show decide (eF x)=decide (x<=1073741824)from decide_eq_decide.2 ⟨fun h=>h.2,fun h=>⟨h1,h⟩⟩);go_in;go_wp2;go_ret;exact⟨by rw [l];rfl,rfl⟩
 · have l:=ab (show decide (eF x)=false from aw fun h=>h1 h.1);go_in;go_wp2;go_ret;exact⟨by rw [l];rfl,rfl⟩
set_option maxHeartbeats 2000000 in theorem iK(c:NC)(w:World)(O:df c):Calls Tryz.prog 107 #[cv c] w (eP w (.int .i64 (ckN c))):=by
 unfold df at O;have C:Ext w (w.alloc (fx c)):=(aa _ _).alloc (bh _) _;unfold cv;go_in;go_wp2_with fail;refine(wT _ _ O).mono ?_;rintro e w'⟨rfl,rfl⟩;by_cases nA:cC c.st
 · rw [ay nA];by_cases r1:c.kind<1;(· have l:=ab (sN nA (.inl r1));clear nA;go_wp2_with fail;go_ret;exact⟨by rw [l];rfl,C⟩);by_cases r2:4<c.kind;(· have l:=ab (sN nA (.inr r2));clear nA;go_wp2_with fail;go_ret;exact⟨by rw [l];rfl,C⟩);have F:=ab (show¬(c.kind<1\/4<c.kind)by omega);go_wp2_with fail;refine(eT _ _).mono ?_;rintro e w'⟨rfl,rfl⟩;by_cases s1:eF c.num;(· rw [ay s1];go_wp2_with fail;refine(eT _ _).mono ?_;rintro e w'⟨rfl,rfl⟩;by_cases s2:eF c.iss;(· rw [ay s2];go_wp2_with fail;refine(eT _ _).mono ?_;rintro e w'⟨rfl,rfl⟩;by_cases s3:eF c.own;(· rw [ay s3];have J:=ab (And.intro s1 (And.intro s2 s3));have G:=ab nA;clear s1 s2 s3 nA;by_cases q:(c.iss=c.own↔c.kind=1);(· have H:=ab (show qV c.num c.iss c.own c.kind from⟨J.1,J.2.1,J.2.2,q⟩);have Q:((c.iss==c.own)==(c.kind==1))=true:=(by by_cases u:c.iss=c.own;(· have:=q.1 u;simp [u,this]);· have:¬c.kind=1:=fun k=>u (q.2 k);have K:(c.iss==c.own)=false:=(by simpa using u);have N:(c.kind==1)=false:=(by simpa using this);rw [K,N];rfl);clear q;go_wp2_with fail;refine(wU _ _).mono ?_;rintro e w'⟨rfl,rfl⟩;cases I:dD c.key with | false=>have l:=ab (NR G F H I);go_wp2_with fail;go_ret;exact⟨by rw [l];rfl,C⟩ | true=>by_cases d1:c.fr<0;(· have l:=ab (kA G F H I (fun q=>by have:=q.1;omega));go_wp2_with fail;go_ret;exact⟨by rw [l];rfl,C⟩);by_cases d2:c.un<c.fr;(· have l:=ab (kA G F H I (fun q=>by have:=q.2.1;omega));go_wp2_with fail;go_ret;exact⟨by rw [l];rfl,C⟩);by_cases d3:c.tqq<c.un;(· have l:=ab (kA G F H I (fun q=>by have:=q.2.2.1;omega));go_wp2_with fail;go_ret;exact⟨by rw [l];rfl,C⟩);by_cases d4:73048<c.tqq;(· have l:=ab (kA G F H I (fun q=>by have:=q.2.2.2;omega));go_wp2_with fail;go_ret;exact⟨by rw [l];rfl,C⟩);have l:=ab (DZ G F H I ⟨by omega,by omega,by omega,by omega⟩);go_wp2_with fail;go_ret;exact⟨by rw [l];rfl,C⟩);· have l:=ab (k8 G F (fun k=>q k.2.2.2));have Q:((c.iss==c.own)==(c.kind==1))=false:=(by by_cases u:c.iss=c.own;(· have:¬c.kind=1:=fun k=>q ⟨fun _=>k,fun _=>u⟩;have N:(c.kind==1)=false:=(by simpa using this);simp [u,N]);· have:c.kind=1:=Decidable.byContradiction fun k=>q ⟨fun h=>absurd h u,fun h=>absurd h k⟩;have K:(c.iss==c.own)=false:=(by simpa using u);rw [K,this];rfl);clear q;go_wp2_with fail;go_ret;exact⟨by rw [l];rfl,C⟩);· rw [aw s3];have l:=ab (k8 nA F (fun k=>s3 k.2.2.1));clear s1 s2 s3 nA;go_wp2_with fail;go_ret;exact⟨by rw [l];rfl,C⟩);· rw [aw s2];have l:=ab (k8 nA F (fun k=>s2 k.2.1));clear s1 s2 nA;go_wp2_with fail;go_ret;exact⟨by rw [l];rfl,C⟩);· rw [aw s1];have l:=ab (k8 nA F (fun k=>s1 k.1));clear s1 nA;go_wp2_with fail;go_ret;exact⟨by rw [l];rfl,C⟩
 · rw [aw nA];have l:=ab (SP nA);clear nA;go_wp2_with fail;go_ret;exact⟨by rw [l];rfl,C⟩
set_option maxHeartbeats 1000000 in theorem iJ(c:NC)(day:Int)(w:World)(G:df c):Calls Tryz.prog 116 #[cv c,.int .i64 day] w (eP w (.int .i64 (du c day))):=by
 obtain⟨wz,C,H,zr⟩:∃wz,wz=w.alloc (fx c)/\Ext w wz/\wz.heap[w.heap.size]?=some (.cells #[.string (aD c.st),.int .i64 c.kind,.int .i64 c.num,.int .i64 c.iss,.int .i64 c.own,.int .i64 c.key,.int .i64 c.fr,.int .i64 c.un,.int .i64 c.tqq,.int .i64 c.e,.int .i64 c.s] 39 (0,0)):=⟨_,rfl,(aa _ _).alloc (bh _) _,aA w _⟩;unfold cv;go_in;go_wp2_with fail;rw [<- C];clear C;refine(iK c _ G).mono ?_;rintro e F⟨rfl,b1⟩;have q:=H.tr b1;have row:=(b1.block _ (a9 zr)).trans zr;have I:=ae F w.heap.size 6 _ _ _ row;have J:=ae F w.heap.size 8 _ _ _ row;have K:=a9 row;by_cases hc:ckN c=0;· by_cases h1:day<c.fr;(· have l:=ab (show du c day=64 by unfold du;rw [ax hc,ax h1]);rw [hc];clear hc row zr;go_wp2_with fail;go_ret;exact⟨by rw [l];rfl,q⟩);by_cases h2:c.tqq<day;(· have l:=ab (show du c day=63 by unfold du;rw [ax hc,ao h1,ax h2]);rw [hc];clear hc row zr;go_wp2_with fail;go_ret;exact⟨by rw [l];rfl,q⟩);have l:=ab (show du c day=0 by unfold du;rw [ax hc,ao h1,ao h2]);rw [hc];clear hc row zr;go_wp2_with fail;go_ret;exact⟨by rw [l];rfl,q⟩
 · have l:=ab (show du c day=ckN c from ao hc);have N:(ckN c !=0)=true:=(by simpa using hc);clear hc row zr;go_wp2_with fail;go_ret;exact⟨by rw [l];rfl,q⟩
set_option maxHeartbeats 2000000 in theorem eK(c:NC)(w:World)(O:df c):Calls Tryz.prog 108 #[cv c] w (eP w (.int .i64 (ckN c))):=by
 unfold df at O;have C:Ext w (w.alloc (fx c)):=(aa _ _).alloc (bh _) _;unfold cv;go_in;go_wp2_with fail;refine(sT _ _ O).mono ?_;rintro e w'⟨rfl,rfl⟩;by_cases nA:cC c.st
 · rw [ay nA];by_cases r1:c.kind<1;(· have l:=ab (sN nA (.inl r1));clear nA;go_wp2_with fail;go_ret;exact⟨by rw [l];rfl,C⟩);by_cases r2:4<c.kind;(· have l:=ab (sN nA (.inr r2));clear nA;go_wp2_with fail;go_ret;exact⟨by rw [l];rfl,C⟩);have F:=ab (show¬(c.kind<1\/4<c.kind)by omega);go_wp2_with fail;refine(bX _ _).mono ?_;rintro e w'⟨rfl,rfl⟩;by_cases s1:eF c.num;(· rw [ay s1];go_wp2_with fail;refine(bX _ _).mono ?_;rintro e w'⟨rfl,rfl⟩;by_cases s2:eF c.iss;(· rw [ay s2];go_wp2_with fail;refine(bX _ _).mono ?_;rintro e w'⟨rfl,rfl⟩;by_cases s3:eF c.own;(· rw [ay s3];have J:=ab (And.intro s1 (And.intro s2 s3));have G:=ab nA;clear s1 s2 s3 nA;by_cases q:(c.iss=c.own↔c.kind=1);(· have H:=ab (show qV c.num c.iss c.own c.kind from⟨J.1,J.2.1,J.2.2,q⟩);have Q:((c.iss==c.own)==(c.kind==1))=true:=(by by_cases u:c.iss=c.own;(· have:=q.1 u;simp [u,this]);· have:¬c.kind=1:=fun k=>u (q.2 k);have K:(c.iss==c.own)=false:=(by simpa using u);have N:(c.kind==1)=false:=(by simpa using this);rw [K,N];rfl);clear q;go_wp2_with fail;refine(sU _ _).mono ?_;rintro e w'⟨rfl,rfl⟩;cases I:dD c.key with | false=>have l:=ab (NR G F H I);go_wp2_with fail;go_ret;exact⟨by rw [l];rfl,C⟩ | true=>by_cases d1:c.fr<0;(· have l:=ab (kA G F H I (fun q=>by have:=q.1;omega));go_wp2_with fail;go_ret;exact⟨by rw [l];rfl,C⟩);by_cases d2:c.un<c.fr;(· have l:=ab (kA G F H I (fun q=>by have:=q.2.1;omega));go_wp2_with fail;go_ret;exact⟨by rw [l];rfl,C⟩);by_cases d3:c.tqq<c.un;(· have l:=ab (kA G F H I (fun q=>by have:=q.2.2.1;omega));go_wp2_with fail;go_ret;exact⟨by rw [l];rfl,C⟩);by_cases d4:73048<c.tqq;(· have l:=ab (kA G F H I (fun q=>by have:=q.2.2.2;omega));go_wp2_with fail;go_ret;exact⟨by rw [l];rfl,C⟩);have l:=ab (DZ G F H I ⟨by omega,by omega,by omega,by omega⟩);go_wp2_with fail;go_ret;exact⟨by rw [l];rfl,C⟩);· have l:=ab (k8 G F (fun k=>q k.2.2.2));have Q:((c.iss==c.own)==(c.kind==1))=false:=(by by_cases u:c.iss=c.own;(· have:¬c.kind=1:=fun k=>q ⟨fun _=>k,fun _=>u⟩;have N:(c.kind==1)=false:=(by simpa using this);simp [u,N]);· have:c.kind=1:=Decidable.byContradiction fun k=>q ⟨fun h=>absurd h u,fun h=>absurd h k⟩;have K:(c.iss==c.own)=false:=(by simpa using u);rw [K,this];rfl);clear q;go_wp2_with fail;go_ret;exact⟨by rw [l];rfl,C⟩);· rw [aw s3];have l:=ab (k8 nA F (fun k=>s3 k.2.2.1));clear s1 s2 s3 nA;go_wp2_with fail;go_ret;exact⟨by rw [l];rfl,C⟩);· rw [aw s2];have l:=ab (k8 nA F (fun k=>s2 k.2.1));clear s1 s2 nA;go_wp2_with fail;go_ret;exact⟨by rw [l];rfl,C⟩);· rw [aw s1];have l:=ab (k8 nA F (fun k=>s1 k.1));clear s1 nA;go_wp2_with fail;go_ret;exact⟨by rw [l];rfl,C⟩
 · rw [aw nA];have l:=ab (SP nA);clear nA;go_wp2_with fail;go_ret;exact⟨by rw [l];rfl,C⟩
set_option maxHeartbeats 1000000 in theorem gT(c:NC)(day:Int)(w:World)(G:df c):Calls Tryz.prog 83 #[cv c,.int .i64 day] w (eP w (.int .i64 (du c day))):=by
 obtain⟨wz,C,H,zr⟩:∃wz,wz=w.alloc (fx c)/\Ext w wz/\wz.heap[w.heap.size]?=some (.cells #[.string (aD c.st),.int .i64 c.kind,.int .i64 c.num,.int .i64 c.iss,.int .i64 c.own,.int .i64 c.key,.int .i64 c.fr,.int .i64 c.un,.int .i64 c.tqq,.int .i64 c.e,.int .i64 c.s] 39 (0,0)):=⟨_,rfl,(aa _ _).alloc (bh _) _,aA w _⟩;unfold cv;go_in;go_wp2_with fail;rw [<- C];clear C;refine(eK c _ G).mono ?_;rintro e F⟨rfl,b1⟩;have q:=H.tr b1;have row:=(b1.block _ (a9 zr)).trans zr;have I:=ae F w.heap.size 6 _ _ _ row;have J:=ae F w.heap.size 8 _ _ _ row;have K:=a9 row;by_cases hc:ckN c=0;· by_cases h1:day<c.fr;(· have l:=ab (show du c day=64 by unfold du;rw [ax hc,ax h1]);rw [hc];clear hc row zr;go_wp2_with fail;go_ret;exact⟨by rw [l];rfl,q⟩);by_cases h2:c.tqq<day;(· have l:=ab (show du c day=63 by unfold du;rw [ax hc,ao h1,ax h2]);rw [hc];clear hc row zr;go_wp2_with fail;go_ret;exact⟨by rw [l];rfl,q⟩);have l:=ab (show du c day=0 by unfold du;rw [ax hc,ao h1,ao h2]);rw [hc];clear hc row zr;go_wp2_with fail;go_ret;exact⟨by rw [l];rfl,q⟩
 · have l:=ab (show du c day=ckN c from ao hc);have N:(ckN c !=0)=true:=(by simpa using hc);clear hc row zr;go_wp2_with fail;go_ret;exact⟨by rw [l];rfl,q⟩
def elB(x:Int):List UInt8:=if dD x=true then ct x else []
def elK(x:Int):Int:=if dD x=true then 0 else 10
theorem GH(x:Int)(w:World):Calls Tryz.prog 181 #[.int .i64 x] w (FW w (elB x) (elK x)):=by cases h:dD x with | true=>obtain⟨q,C⟩:=uP h;unfold elB elK;rw [ax h,ax h];go_in;go_wp2_with fail;refine(gX x _).mono ?_;rintro e w'⟨rfl,rfl⟩;rw [h];go_wp2_with fail;refine(FX x _ (by omega) (by omega)).mono ?_;rintro e F⟨A,n,c,rfl,l,o,b⟩;go_wp2_with fail;go_ret2;exact⟨_,_,_,rfl,l,o,b⟩ | false=>unfold elB elK;rw [ao (by simp [h]),ao (by simp [h])];go_in;go_wp2_with fail;refine(gX x _).mono ?_;rintro e w'⟨rfl,rfl⟩;rw [h];go_wp2_with fail;go_ret2;exact⟨_,_,_,rfl,(show _=_ from rfl),Own.nil_ _ _ _,aa _ _⟩
theorem yR(x:Int)(w:World):Calls Tryz.prog 177 #[.int .i64 x] w (FW w (elB x) (elK x)):=by cases h:dD x with | true=>unfold elB elK;rw [ax h,ax h];go_in;go_wp2_with fail;refine(fB x _).mono ?_;rintro e w'⟨rfl,rfl⟩;rw [h];go_wp2_with fail;refine(oT x _).mono ?_;rintro e q⟨A,n,c,rfl,l,o,b⟩;go_wp2_with fail;go_ret2;exact⟨_,_,_,rfl,l,o,b⟩ | false=>unfold elB elK;rw [ao (by simp [h]),ao (by simp [h])];go_in;go_wp2_with fail;refine(fB x _).mono ?_;rintro e w'⟨rfl,rfl⟩;rw [h];go_wp2_with fail;go_ret2;exact⟨_,_,_,rfl,(show _=_ from rfl),Own.nil_ _ _ _,aa _ _⟩
def a2I(l:List UInt8):Prop:=l.length=4/\dD (num l)=true
instance(l:List UInt8):Decidable (a2I l):=inferInstanceAs(Decidable (_/\_))
structure TP where
 ho:List UInt8
 key:Int
 rights:Int
 fr:Int
 tqq:Int
structure CH where
 ho:List UInt8
 key:Int
 role:Int
 rights:Int
 fr:Int
 tqq:Int
structure TR where
 ps:List TP
 dt:Int
def ptK(p:TP):Int:=if¬QO p.ho then 60 else if dD p.key=false then 10 else if p.rights<0\/65535<p.rights then 62 else if¬YW p.fr p.tqq then 8 else 0
def a2C:List TP->Int
 | []=>0
 | p::l=>if ptK p=0 then a2C l else ptK p
def a2J:List TP->Bool
 | [p,q]=>decide (p.ho=q.ho)
 | _=>false
def vdK(t:TR):Int:=if t.ps.length<1\/2<t.ps.length then 72 else if a2C t.ps≠0 then a2C t.ps else if a2J t.ps=true then 15 else if t.dt<0\/73048<t.dt then 8 else 0
def YY(b r:Int):Bool:=if b=1 then decide (r≠4)else if b=2\/b=3 then decide (r=4)else false
section
variable {t:TR}{c:CH}{x:TC} (h1:vdK t=0)
include h1
variable (h2:c.ho≠[])
include h2
variable (h3:ckT x=0)
include h3
variable (h4:x.au=c.ho)
include h4
variable (h5:vfB c.key x=true)
include h5
variable (h6:YY c.role x.role=true)
include h6
variable (h7:¬ (c.tqq<t.dt \/ x.tqq<t.dt))
include h7
end
end Go.Proofs.YtmmoenkmicimcaaGreatDoor
