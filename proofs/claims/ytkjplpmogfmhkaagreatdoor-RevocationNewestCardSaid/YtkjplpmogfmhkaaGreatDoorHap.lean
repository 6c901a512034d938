/- Parts Sg Sv Sx Se Sd of the proof. -/
import Derived.Test.YtkjplpmogfmhkaaGreatDoorHao
import Derived.Test.YtkjplpmogfmhkaaGreatDoorHak
namespace Go.Proofs.YtkjplpmogfmhkaaGreatDoor
open Go.RowKit
set_option linter.unusedVariables false
set_option maxRecDepth 100000
def rX (r:Int) (l:List UInt8) (m:Int):Int:=num ((sha (be4 r++l)).take 7) % m
theorem AT (r:Int) (l:List UInt8) {m:Int} (h:1<=m):0<=rX r l m/\rX r l m<m:=⟨Int.emod_nonneg _ (by omega),Int.emod_lt_of_pos _ (by omega)⟩
theorem OF {a:Value}{l:List UInt8} (r m:Int) (w:World) (ha:Rd w a (bvs l)) (hl:l.length<=140737488352000) (h0:0<=r) (h1:r<4294967296) (hm:1<=m) (E:dS w 1) :
 Calls Tryz.prog 216 #[.int .i64 r,a,.int .i64 m] w (dR w (.int .i64 (rX r l m))):=by
 have ha0:=ha
 obtain ⟨A,n1,c,rfl,hn1,hnc,hcm,hA⟩:=ha.bytes
 subst hn1
 clear hA ha
 have q1:=(uF (l:=(sha (be4 r++l)).take 7) (by rw [YY];omega)).1
 have q2:=(uF (l:=(sha (be4 r++l)).take 7) (by rw [YY];omega)).2
 go_enter Tryz.func216,Tryz.ntmps216
 go_wp2_with fail
 refine (D0 _ _ (by omega) (by omega)).mono ?_
 rintro e w1 ⟨A1,n1,c1,rfl,hn1,o1,b1⟩
 have e0:Ext w1 (w1.alloc (.cells #[.slice A1 n1 c1,.slice A l.length c] 89)):=(Below.refl _ _).alloc (YF _) _
 go_wp2_with (first
  | (go_at_call 264;refine (DH (xs:=be4 r) _ (aB w1 _) (o1.rd.ext e0) (ha0.ext (b1.tr e0)) (by simp [be4];omega)).mono ?_;rintro e w2 ⟨A2,n2,c2,rfl,hn2,o2,b2⟩)
  | (go_at_call 263;refine (G1 _ o2.rd (by simp [be4];omega) (E.below ((b1.tr e0).tr b2))).mono ?_;rintro e w3 ⟨A3,n3,c3,rfl,hn3,o3,b3⟩;obtain rfl:n3=32:=(by rw [hn3.out,jX]);have hc3:=o3.rd.caps;have h7:7<=c3:=(by omega);clear hc3)
  | (go_at_call 262;refine (FZ _ (o3.rd.take 7 (by omega)) (by rw [YY];omega)).mono ?_;rintro e w4 ⟨rfl,rfl⟩))
 go_ret
 exact ⟨rfl,((b1.tr e0).tr b2).tr b3⟩
theorem oT {a:Value}{l:List UInt8} (r:Int) (w:World) (ha:Rd w a (bvs l)) (hl:l.length<=140737488352000) (E:dS w 0) :
 Calls Tryz.prog 223 #[.int .i64 r,a] w (dR w (.int .i64 (rX r l 1073741789))):=by
 have ha0:=ha
 obtain ⟨A,n1,c,rfl,hn1,hnc,hcm,hA⟩:=ha.bytes
 subst hn1
 clear hA ha
 go_enter Tryz.func223,Tryz.ntmps223
 go_wp2_with (first
  | (go_at_call 222;refine (mP _ _).mono ?_;rintro e w1 ⟨A1,n1,c1,rfl,hn1,o1,b1⟩)
  | (go_at_call 221;refine (uZ _ o1.rd (ha0.ext b1) (by simp [be4];omega)).mono ?_;rintro e w2 ⟨A2,n2,c2,rfl,hn2,o2,b2⟩)
  | (go_at_call 220;refine (vM _ o2.rd (by simp [be4];omega) (E.below (b1.tr b2))).mono ?_;rintro e w3 ⟨A3,n3,c3,rfl,hn3,o3,b3⟩)
  | (go_at_call 219;refine (sW _ _ o3.rd (by rw [jX];omega) (by omega)).mono ?_;rintro e w4 ⟨rfl,rfl⟩))
 go_ret
 exact ⟨rfl,(b1.tr b2).tr b3⟩
def rY (k:Int) (l:List UInt8):Int:=1+rX k l 1073741788
def oO (k:Int) (l:List UInt8):Int:=rX (pw 4 (rY k l)) l 1073741789
def rZ (k:Int) (l:List UInt8):Int:=(rY k l+oO k l*k) % 1073741789
theorem JY (k:Int) (l:List UInt8):1<=rY k l/\rY k l<1073741789:=by
 obtain ⟨a,b⟩:=AT k l (m:=1073741788) (by omega)
 unfold rY;omega
theorem AW (k:Int) (l:List UInt8):0<=oO k l/\oO k l<1073741789:=AT _ l (by omega)
theorem JZ (k:Int) (l:List UInt8):0<=rZ k l/\rZ k l<1073741789:=by unfold rZ;omega
def sgV (e s k:Int):Value:=.tuple #[.agg #[.int .i64 e,.int .i64 s],.int .i64 k]
theorem in4:inB 1 2147483579 4=true:=fM (by omega) (by omega)
set_option maxHeartbeats 400000 in
theorem DI {a:Value}{l:List UInt8} (k:Int) (w:World) (hk:inB 1 1073741789 k=true) (ha:Rd w a (bvs l)) (hl:l.length<=140737488352000) (E:dS w 0) :
 Calls Tryz.prog 157 #[.int .i64 k,a] w (dR w (sgV (oO k l) (rZ k l) 0)):=by
 obtain ⟨k0,k1⟩:=dV hk
 have ha0:=ha
 obtain ⟨A,n1,c,rfl,hn1,hnc,hcm,hA⟩:=ha.bytes
 subst hn1
 clear hA ha
 have e0:Ext w (w.alloc (.cells #[.int .i64 0,.int .i64 0] 33)):=(Below.refl _ _).alloc (YF _) _
 obtain ⟨hb0,hb1⟩:=AT k l (m:=1073741788) (by omega)
 go_enter Tryz.func157,Tryz.ntmps157
 go_wp2_with (first
  | (go_at_call 218;refine (jV _ _).mono ?_;rw [hk];rintro e w' ⟨rfl,rfl⟩)
  | (go_at_call 222;refine (mP _ _).mono ?_;rintro e w1 ⟨A1,n1,c1,rfl,hn1,o1,b1⟩)
  | (go_at_call 221;refine (uZ _ o1.rd (ha0.ext (e0.tr b1)) (by simp [be4];omega)).mono ?_;rintro e w2 ⟨A2,n2,c2,rfl,hn2,o2,b2⟩)
  | (go_at_call 220;refine (vM _ o2.rd (by simp [be4];omega) (E.below ((e0.tr b1).tr b2))).mono ?_;rintro e w3 ⟨A3,n3,c3,rfl,hn3,o3,b3⟩)
  | (go_at_call 219;refine (sW _ _ o3.rd (by rw [jX];omega) (by omega)).mono ?_;rw [show num ((sha (be4 k++l)).take 7) % 1073741788=rX k l 1073741788 from rfl];rintro e w4 ⟨rfl,rfl⟩)
  | fail)
 obtain ⟨n0,n1⟩:=JY k l
 have HN:=ZH (show 1+rX k l 1073741788=rY k l from rfl)
 rw [HN.out]
 refine (jT _ _ _ (by omega) (by omega) (by omega) (by omega)).mono ?_
 rintro e w' ⟨rfl,rfl⟩
 have p0:=CT 4 (rY k l)
 have p1:=CU 4 (rY k l)
 clear hb0 hb1
 have b13:=(b1.tr b2).tr b3
 have b03:=e0.tr b13
 go_wp2_with fail
 refine (oT _ _ (ha0.ext b03) (by omega) (E.below b03)).mono ?_
 rw [show rX (pw 4 (rY k l)) l 1073741789=oO k l from rfl]
 rintro e w4 ⟨rfl,b4⟩
 obtain ⟨g0,g1⟩:=AW k l
 obtain ⟨m0,m1⟩:=pG g0 (by omega) (by omega:0<=k) (by omega)
 have HS:=ZH (show (rY k l+oO k l*k) % 1073741789=rZ k l from rfl)
 have hlt:w.heap.size<(w.alloc (.cells #[.int .i64 0,.int .i64 0] 33)).heap.size:=by simp
 have c0:w4.cell? ⟨w.heap.size,0,none⟩=some (.int .i64 0):=((b13.tr b4).cell (p:=⟨w.heap.size,0,none⟩) hlt).trans (by go_simp)
 have c1:w4.cell? ⟨w.heap.size,1,none⟩=some (.int .i64 0):=((b13.tr b4).cell (p:=⟨w.heap.size,1,none⟩) hlt).trans (by go_simp)
 have f0:w4.frozen? ⟨w.heap.size,0,none⟩=false:=((b13.tr b4).frozen (p:=⟨w.heap.size,0,none⟩) hlt).trans (by go_simp)
 have f1:w4.frozen? ⟨w.heap.size,1,none⟩=false:=((b13.tr b4).frozen (p:=⟨w.heap.size,1,none⟩) hlt).trans (by go_simp)
 have b04:=b03.tr b4
 go_wp2_with fail
 rw [HS.out]
 refine bodyPost_ret (v:=sgV (oO k l) (rZ k l) 0) ?_ rfl ⟨rfl,(b04.setCell (p:=⟨w.heap.size,0,none⟩) (YF _) _).setCell (p:=⟨w.heap.size,1,none⟩) (YF _) _⟩
 simp [results,Tryz.results157,go_sem,c0,c1,sgV]
theorem G3 {a:Value}{l:List UInt8} (k:Int) (w:World) (hk:inB 1 1073741789 k=false) (ha:Rd w a (bvs l)) :
 Calls Tryz.prog 157 #[.int .i64 k,a] w (dR w (sgV 0 0 3)):=by
 go_enter Tryz.func157,Tryz.ntmps157
 go_wp2_with (go_at_call 218;refine (jV _ _).mono ?_;rw [hk];rintro e w' ⟨rfl,rfl⟩)
 refine bodyPost_ret (v:=sgV 0 0 3) ?_ rfl ⟨rfl,(Below.refl _ _).alloc (YF _) _⟩
 simp [results,Tryz.results157,go_sem,sgV]
def fF (p:Int) (l:List UInt8) (e s:Int):Bool:=cJ p && inB 0 1073741789 e && inB 0 1073741789 s && (rX (pw 4 s*pw p (1073741789 - e) % 2147483579) l 1073741789 == e)
theorem OG {p:Int}{l:List UInt8}{e s:Int} (h:cJ p=false):fF p l e s=false:=by simp [fF,h]
theorem OH {p:Int}{l:List UInt8}{e s:Int} (h:inB 0 1073741789 e=false):fF p l e s=false:=by simp [fF,h]
theorem OI {p:Int}{l:List UInt8}{e s:Int} (h:inB 0 1073741789 s=false):fF p l e s=false:=by simp [fF,h]
theorem AY {p:Int}{l:List UInt8}{e s:Int} (h1:cJ p=true) (h2:inB 0 1073741789 e=true) (h3:inB 0 1073741789 s=true):fF p l e s=(rX (pw 4 s*pw p (1073741789 - e) % 2147483579) l 1073741789 == e):=by simp [fF,h1,h2,h3]
theorem AZ (x y:Int) (w:World) (x0:0<=x) (x1:x<2147483579) (y0:0<=y) (y1:y<2147483579):Calls Tryz.prog 250 #[.int .i64 x,.int .i64 y] w fun e w'=>(∃ k,e=.returned (.tuple #[.int .i64 (x*y % 2147483579),.int .i64 k]))/\w=w':=by
 by_cases hx:x=0
 · subst hx
   have h:inB 1 2147483579 0=false:=j8 (by omega)
   rw [Int.zero_mul]
   go_enter Tryz.func250,Tryz.ntmps250
   go_wp2_with (go_at_call 265;refine (eO _ _).mono ?_;rw [h];rintro e w' ⟨rfl,rfl⟩)
   go_ret2
   exact ⟨⟨_,rfl⟩,rfl⟩
 · have hi:inB 1 2147483579 x=true:=fM (by omega) x1
   by_cases hy:y=0
   · subst hy
     have h:inB 1 2147483579 0=false:=j8 (by omega)
     rw [Int.mul_zero]
     go_enter Tryz.func250,Tryz.ntmps250
     go_wp2_with fail
     refine (eO _ _).mono ?_
     rw [hi]
     rintro e w' ⟨rfl,rfl⟩
     go_wp2_with fail
     refine (eO _ _).mono ?_
     rw [h]
     rintro e w' ⟨rfl,rfl⟩
     go_wp2_with fail
     go_ret2
     exact ⟨⟨_,rfl⟩,rfl⟩
   · exact (AH x y w hi (fM (by omega) y1)).mono fun e w' ⟨h1,h2⟩=>⟨⟨_,h1⟩,h2⟩
set_option maxHeartbeats 1000000 in
theorem vP {a:Value}{l:List UInt8} (p e s:Int) (w:World) (ha:Rd w a (bvs l)) (hl:l.length<=140737488352000) (E:dS w 1) :
 Calls Tryz.prog 205 #[.int .i64 p,a,.agg #[.int .i64 e,.int .i64 s]] w (dR w (.bool (fF p l e s))):=by
 have e0:Ext w (w.alloc (.cells #[.int .i64 e,.int .i64 s] 33)):=(Below.refl _ _).alloc (YF _) _
 by_cases hp:cJ p=true
 · by_cases he:inB 0 1073741789 e=true
   · by_cases hs:inB 0 1073741789 s=true
     · rw [AY hp he hs]
       obtain ⟨p0,p1⟩:=rV hp
       have hpi:=fM p0 p1
       obtain ⟨g0,g1⟩:=dV he
       obtain ⟨s0,s1⟩:=dV hs
       have HL:=ZH he
       clear he
       have ha0:=ha
       obtain ⟨A,n1,c,rfl,hn1,hnc,hcm,hA⟩:=ha.bytes
       subst hn1
       clear hA ha
       go_enter Tryz.func205,Tryz.ntmps205
       go_wp2_with fail
       refine (fR _ _).mono ?_
       rw [hp]
       rintro e' w' ⟨rfl,rfl⟩
       go_wp2_with fail
       refine (gX _ _).mono ?_
       rw [HL.out]
       rintro e' w' ⟨rfl,rfl⟩
       go_wp2_with fail
       refine (gX _ _).mono ?_
       rw [hs]
       rintro e' w' ⟨rfl,rfl⟩
       go_wp2_with fail
       refine (vG _ _ _ in4 (by omega) (by omega)).mono ?_
       rintro e' w' ⟨rfl,rfl⟩
       go_wp2_with fail
       refine (vG _ _ _ hpi (by omega) (by omega)).mono ?_
       rintro e' w' ⟨rfl,rfl⟩
       have q0:=CT 4 s
       have q1:=CU 4 s
       have q2:=CT p (1073741789 - e)
       have q3:=CU p (1073741789 - e)
       go_wp2_with fail
       refine (AZ _ _ _ q0 q1 q2 q3).mono ?_
       rintro e' w' ⟨⟨k,rfl⟩,rfl⟩
       obtain ⟨r0,r1⟩:=mN (a:=pw 4 s) (b:=pw p (1073741789 - e))
       go_wp2_with fail
       have cs:∀ W:World,Ext (w.alloc (.cells #[.int .i64 e,.int .i64 s] 33)) W->W.cell? ⟨w.heap.size,0,none⟩=some (.int .i64 e):=fun W h=>(h.cell (p:=⟨w.heap.size,0,none⟩) (by simp)).trans (by go_simp)
       have CS:=ZH cs
       clear cs
       refine aI 5 (by kernel_rfl) (by kernel_rfl) ?_
       simp only [YT,YQ,YU,YV]
       intro w1 hw1
       have L:∀ m:Lt w1,Ext (w.alloc (.cells #[.int .i64 e,.int .i64 s] 33)) m.1:=fun m=>hw1.tr m.2
       have cs:∀ m:Lt w1,m.1.cell? ⟨w.heap.size,0,none⟩=some (.int .i64 e):=fun m=>CS.out _ (L m)
       repeat (refine iS rfl rfl rfl rfl rfl (fun K hK=>?_);go_big_quiet_op;refine hK _ ?_;clear hK K)
       refine bN (.int .i64 (rX (pw 4 s*pw p (1073741789 - e) % 2147483579) l 1073741789)) rfl rfl rfl rfl (by kernel_rfl) rfl rfl (fun m=>OF _ _ _ (ha0.ext (e0.tr (L m))) (by omega) (by omega) (by omega) (by omega) (E.below (e0.tr (L m)))) ?_
       simp only [Act.put,YG,YI,YH]
       repeat (refine iS rfl rfl rfl rfl rfl (fun K hK=>?_);go_big_quiet_op;refine hK _ ?_;clear hK K)
       refine cQ (fun m=>?_)
       have Lm:=L m
       obtain ⟨wy,hwy⟩:=m
       clear L cs
       go_wp2_with fail
       go_ret
       exact ⟨rfl,e0.tr Lm⟩
     · have hs':=not_true hs
       rw [OI hs']
       go_enter Tryz.func205,Tryz.ntmps205
       go_wp2_with fail
       refine (fR _ _).mono ?_
       rw [hp]
       rintro e' w' ⟨rfl,rfl⟩
       go_wp2_with fail
       refine (gX _ _).mono ?_
       rw [he]
       rintro e' w' ⟨rfl,rfl⟩
       go_wp2_with fail
       refine (gX _ _).mono ?_
       rw [hs']
       rintro e' w' ⟨rfl,rfl⟩
       go_wp2_with fail
       go_ret
       exact ⟨rfl,e0⟩
   · have he':=not_true he
     rw [OH he']
     go_enter Tryz.func205,Tryz.ntmps205
     go_wp2_with fail
     refine (fR _ _).mono ?_
     rw [hp]
     rintro e' w' ⟨rfl,rfl⟩
     go_wp2_with fail
     refine (gX _ _).mono ?_
     rw [he']
     rintro e' w' ⟨rfl,rfl⟩
     go_wp2_with fail
     go_ret
     exact ⟨rfl,e0⟩
 · have hp':=not_true hp
   rw [OG hp']
   go_enter Tryz.func205,Tryz.ntmps205
   go_wp2_with fail
   refine (fR _ _).mono ?_
   rw [hp']
   rintro e' w' ⟨rfl,rfl⟩
   go_wp2_with fail
   go_ret
   exact ⟨rfl,e0⟩
set_option maxHeartbeats 1000000 in
theorem kP {a:Value}{l:List UInt8} (p e s:Int) (w:World) (ha:Rd w a (bvs l)) (hl:l.length<=140737488352000) (E:dS w 0) :
 Calls Tryz.prog 161 #[.int .i64 p,a,.agg #[.int .i64 e,.int .i64 s]] w (dR w (.bool (fF p l e s))):=by
 have e0:Ext w (w.alloc (.cells #[.int .i64 e,.int .i64 s] 33)):=(Below.refl _ _).alloc (YF _) _
 by_cases hp:cJ p=true
 · by_cases he:inB 0 1073741789 e=true
   · by_cases hs:inB 0 1073741789 s=true
     · rw [AY hp he hs]
       obtain ⟨p0,p1⟩:=rV hp
       obtain ⟨g0,g1⟩:=dV he
       obtain ⟨s0,s1⟩:=dV hs
       have HL:=ZH he
       clear he
       have ha0:=ha
       obtain ⟨A,n1,c,rfl,hn1,hnc,hcm,hA⟩:=ha.bytes
       subst hn1
       clear hA ha
       go_enter Tryz.func161,Tryz.ntmps161
       go_wp2_with fail
       refine (eG _ _).mono ?_
       rw [hp]
       rintro e' w' ⟨rfl,rfl⟩
       go_wp2_with fail
       refine (iJ _ _).mono ?_
       rw [HL.out]
       rintro e' w' ⟨rfl,rfl⟩
       go_wp2_with fail
       refine (iJ _ _).mono ?_
       rw [hs]
       rintro e' w' ⟨rfl,rfl⟩
       have q0:=CT 4 s
       have q1:=CU 4 s
       have q2:=CT p (1073741789 - e)
       have q3:=CU p (1073741789 - e)
       obtain ⟨m0,m1⟩:=pG q0 q1 q2 q3
       have cs:∀ W:World,Ext (w.alloc (.cells #[.int .i64 e,.int .i64 s] 33)) W->W.cell? ⟨w.heap.size,0,none⟩=some (.int .i64 e):=fun W h=>(h.cell (p:=⟨w.heap.size,0,none⟩) (by simp)).trans (by go_simp)
       have cs1:∀ W:World,Ext (w.alloc (.cells #[.int .i64 e,.int .i64 s] 33)) W->W.cell? ⟨w.heap.size,1,none⟩=some (.int .i64 s):=fun W h=>(h.cell (p:=⟨w.heap.size,1,none⟩) (by simp)).trans (by go_simp)
       have CS:=ZH cs
       have CS1:=ZH cs1
       clear cs cs1
       go_wp2_with fail
       have wi1:IntKind.i64.wrap (1073741789 - e)=1073741789 - e:=IntWalk.i64_in _ (by omega)
       have tm:(pw 4 s*pw p (1073741789 - e)).tmod 2147483579=pw 4 s*pw p (1073741789 - e) % 2147483579:=Int.tmod_eq_emod_of_nonneg m0
       have wi2:IntKind.i64.wrap (pw 4 s*pw p (1073741789 - e))=pw 4 s*pw p (1073741789 - e):=IntWalk.i64_in _ (by omega)
       refine aI 10 (by kernel_rfl) (by kernel_rfl) ?_
       simp only [YT,YQ,YU,YV]
       intro w1 hw1
       have L:∀ m:Lt w1,Ext (w.alloc (.cells #[.int .i64 e,.int .i64 s] 33)) m.1:=fun m=>hw1.tr m.2
       have cs:∀ m:Lt w1,m.1.cell? ⟨w.heap.size,0,none⟩=some (.int .i64 e):=fun m=>CS.out _ (L m)
       have cs1:∀ m:Lt w1,m.1.cell? ⟨w.heap.size,1,none⟩=some (.int .i64 s):=fun m=>CS1.out _ (L m)
       repeat (refine iS rfl rfl rfl rfl rfl (fun K hK=>?_);go_big_quiet_op;refine hK _ ?_;clear hK K)
       refine bN (.int .i64 (pw 4 s)) rfl rfl rfl rfl (by kernel_rfl) rfl rfl (fun m=>(jT _ _ _ (by omega) (by omega) (by omega) (by omega)).mono fun _ _ ⟨h1,h2⟩=>⟨h1,h2 ▸ Below.refl _ _⟩) ?_
       simp only [Act.put,YG,YI,YH]
       repeat (refine iS rfl rfl rfl rfl rfl (fun K hK=>?_);go_big_quiet_op;refine hK _ ?_;clear hK K)
       refine bN (.int .i64 (pw p (1073741789 - e))) rfl rfl rfl rfl (by kernel_rfl) rfl rfl (fun m=>(jT _ _ _ (by omega) (by omega) (by omega) (by omega)).mono fun _ _ ⟨h1,h2⟩=>⟨h1,h2 ▸ Below.refl _ _⟩) ?_
       simp only [Act.put,YG,YI,YH]
       repeat (refine iS rfl rfl rfl rfl rfl (fun K hK=>?_);go_big_quiet_op;refine hK _ ?_;clear hK K)
       refine cQ (fun m=>?_)
       have Lm:=L m
       obtain ⟨wy,hwy⟩:=m
       clear L cs cs1
       obtain ⟨r0,r1⟩:=mN (a:=pw 4 s) (b:=pw p (1073741789 - e))
       go_wp2_with fail
       clear wi1 wi2 tm
       refine aI 5 (by kernel_rfl) (by kernel_rfl) ?_
       simp only [YT,YQ,YU,YV]
       intro w1 hw1
       have L:∀ m:Lt w1,Ext (w.alloc (.cells #[.int .i64 e,.int .i64 s] 33)) m.1:=fun m=>(Lm.tr hw1).tr m.2
       have cs:∀ m:Lt w1,m.1.cell? ⟨w.heap.size,0,none⟩=some (.int .i64 e):=fun m=>CS.out _ (L m)
       repeat (refine iS rfl rfl rfl rfl rfl (fun K hK=>?_);go_big_quiet_op;refine hK _ ?_;clear hK K)
       refine bN (.int .i64 (rX (pw 4 s*pw p (1073741789 - e) % 2147483579) l 1073741789)) rfl rfl rfl rfl (by kernel_rfl) rfl rfl (fun m=>oT _ _ (ha0.ext (e0.tr (L m))) (by omega) (E.below (e0.tr (L m)))) ?_
       simp only [Act.put,YG,YI,YH]
       refine cQ (fun m=>?_)
       have Lm2:=L m
       obtain ⟨wz,hwz⟩:=m
       clear L cs
       go_wp2_with fail
       go_ret
       exact ⟨by rw [Bool.beq_comm];rfl,e0.tr Lm2⟩
     · have hs':=not_true hs
       rw [OI hs']
       go_enter Tryz.func161,Tryz.ntmps161
       go_wp2_with fail
       refine (eG _ _).mono ?_
       rw [hp]
       rintro e' w' ⟨rfl,rfl⟩
       go_wp2_with fail
       refine (iJ _ _).mono ?_
       rw [he]
       rintro e' w' ⟨rfl,rfl⟩
       go_wp2_with fail
       refine (iJ _ _).mono ?_
       rw [hs']
       rintro e' w' ⟨rfl,rfl⟩
       go_wp2_with fail
       go_ret
       exact ⟨rfl,e0⟩
   · have he':=not_true he
     rw [OH he']
     go_enter Tryz.func161,Tryz.ntmps161
     go_wp2_with fail
     refine (eG _ _).mono ?_
     rw [hp]
     rintro e' w' ⟨rfl,rfl⟩
     go_wp2_with fail
     refine (iJ _ _).mono ?_
     rw [he']
     rintro e' w' ⟨rfl,rfl⟩
     go_wp2_with fail
     go_ret
     exact ⟨rfl,e0⟩
 · have hp':=not_true hp
   rw [OG hp']
   go_enter Tryz.func161,Tryz.ntmps161
   go_wp2_with fail
   refine (eG _ _).mono ?_
   rw [hp']
   rintro e' w' ⟨rfl,rfl⟩
   go_wp2_with fail
   go_ret
   exact ⟨rfl,e0⟩
theorem qB {k:Int} (h0:1<=k) (h1:k<1073741789) (l:List UInt8):fF (pw 4 k) l (oO k l) (rZ k l)=true:=by
 obtain ⟨e0,e1⟩:=AW k l
 obtain ⟨s0,s1⟩:=JZ k l
 obtain ⟨n0,n1⟩:=JY k l
 rw [AY (CY h0 h1) (fM e0 e1) (fM s0 s1)]
 have key:pw 4 (rZ k l)*pw (pw 4 k) (1073741789 - oO k l) % 2147483579=pw 4 (rY k l):=by
  have hs:rZ k l=(rY k l+oO k l*k) % 1073741789:=rfl
  generalize oO k l=e at *
  generalize rY k l=n at *
  rw [hs]
  obtain ⟨k',rfl⟩:=Int.eq_ofNat_of_zero_le (show 0<=k by omega)
  obtain ⟨e',rfl⟩:=Int.eq_ofNat_of_zero_le e0
  obtain ⟨n',rfl⟩:=Int.eq_ofNat_of_zero_le (show 0<=n by omega)
  have h:=NU (k:=k') (n:=n') (e:=e') (by omega) (by omega) (by omega)
  have c1:((n':Int)+(e':Int)*(k':Int)) % 1073741789=(((n'+e'*k') % 1073741789:Nat):Int):=by simp
  have c2:(1073741789:Int) - (e':Int)=((1073741789 - e':Nat):Int):=by omega
  rw [c1,c2,show (4:Int)=((4:Nat):Int) from rfl,rU,rU,rU,rU,<- h]
  simp
 rw [key]
 simp only [oO,beq_self_eq_true]
def sE (k:Int) (l:List UInt8):Int:=if inB 1 1073741789 k=true then oO k l else 0
def sS (k:Int) (l:List UInt8):Int:=if inB 1 1073741789 k=true then rZ k l else 0
def sK (k:Int):Int:=if inB 1 1073741789 k=true then 0 else 3
theorem mS {a:Value}{l:List UInt8} (k:Int) (w:World) (ha:Rd w a (bvs l)) (hl:l.length<=140737488352000) (E:dS w 0) :
 Calls Tryz.prog 157 #[.int .i64 k,a] w (dR w (sgV (sE k l) (sS k l) (sK k))):=by
 unfold sE sS sK
 by_cases h:inB 1 1073741789 k=true
 · rw [if_pos h,if_pos h,if_pos h];exact DI k w h ha hl E
 · rw [if_neg h,if_neg h,if_neg h];exact G3 k w (not_true h) ha
structure RW (w wa:World) (g:Nat) (e s:Int):Prop where
 ext:Ext w wa
 lt:g<wa.heap.size
 c0:wa.cell? ⟨g,0,none⟩=some (.int .i64 e)
 c1:wa.cell? ⟨g,1,none⟩=some (.int .i64 s)
theorem mT (w:World) (e s:Int):∃ wa,wa=w.alloc (.cells #[.int .i64 e,.int .i64 s] 33)/\RW w wa w.heap.size e s :=
 ⟨_,rfl,(Below.refl _ _).alloc (YF _) _,by simp,by go_simp,by go_simp⟩
theorem RW.keep {w wa wb:World}{g:Nat}{e s:Int} (h:RW w wa g e s) (b:Ext wa wb):RW w wb g e s :=
 ⟨h.ext.tr b,YX h.lt b.size,(b.cell (p:=⟨g,0,none⟩) h.lt).trans h.c0,(b.cell (p:=⟨g,1,none⟩) h.lt).trans h.c1⟩
def WT (e s:Int):Int:=if inB 0 1073741789 e=true/\inB 0 1073741789 s=true then 0 else 3
def Y6 (l:List UInt8):Prop:=inB 0 1073741789 (num (l.take 4))=true/\inB 0 1073741789 (num (l.drop 4))=true
instance (l:List UInt8):Decidable (Y6 l):=inferInstanceAs (Decidable (_/\_))
end Go.Proofs.YtkjplpmogfmhkaaGreatDoor
