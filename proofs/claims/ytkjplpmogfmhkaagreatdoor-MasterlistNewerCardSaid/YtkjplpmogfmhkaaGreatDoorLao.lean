/- Parts Sg Sv Sx Se Sd of the proof. -/
import Derived.Test.YtkjplpmogfmhkaaGreatDoorLan
import Derived.Test.YtkjplpmogfmhkaaGreatDoorLak
import Derived.Test.YtkjplpmogfmhkaaGreatDoorLaj
import Derived.Test.YtkjplpmogfmhkaaGreatDoorLad
import Derived.Test.YtkjplpmogfmhkaaGreatDoorLab
namespace Go.Proofs.YtkjplpmogfmhkaaGreatDoor
open Go.RowKit
set_option linter.unusedVariables false
set_option maxRecDepth 100000
def oX (r:Int) (l:List UInt8) (m:Int):Int:=num ((sha (be4 r++l)).take 7) % m
theorem tH (r:Int) (l:List UInt8) {m:Int} (h:1≤m):0≤oX r l m∧oX r l m<m:=⟨Int.emod_nonneg _ (by omega),Int.emod_lt_of_pos _ (by omega)⟩
theorem uQ {a:Value}{l:List UInt8} (r m:Int) (w:World) (ha:Rd w a (bvs l)) (hl:l.length≤140737488352000) (h0:0≤r) (h1:r<4294967296) (hm:1≤m) (E:dI w 1) :
 Calls Tryz.prog 216 #[.int .i64 r,a,.int .i64 m] w (eP w (.int .i64 (oX r l m))):=by
 have ha0:=ha
 obtain ⟨A,n1,c,rfl,hn1,hnc,hcm,hA⟩:=ha.bytes
 subst hn1
 clear hA ha
 have q1:=(tE (l:=(sha (be4 r++l)).take 7) (by rw [VL];omega)).1
 have q2:=(tE (l:=(sha (be4 r++l)).take 7) (by rw [VL];omega)).2
 go_enter Tryz.func216,Tryz.ntmps216
 go_wp2_with fail
 refine (pK _ _ (by omega) (by omega)).mono ?_
 rintro e w1 ⟨A1,n1,c1,rfl,hn1,o1,b1⟩
 have e0:Ext w1 (w1.alloc (.cells #[.slice A1 n1 c1,.slice A l.length c] 89)):=(Below.refl _ _).alloc (UX _) _
 go_wp2_with (first
  | (go_at_call 264;refine (BT (xs:=be4 r) _ (aC w1 _) (o1.rd.ext e0) (ha0.ext (b1.tr e0)) (by simp [be4];omega)).mono ?_;rintro e w2 ⟨A2,n2,c2,rfl,hn2,o2,b2⟩)
  | (go_at_call 263;refine (EK _ o2.rd (by simp [be4];omega) (E.below ((b1.tr e0).tr b2))).mono ?_;rintro e w3 ⟨A3,n3,c3,rfl,hn3,o3,b3⟩;obtain rfl:n3=32:=(by rw [hn3.out,jW]);have hc3:=o3.rd.caps;have h7:7≤c3:=(by omega);clear hc3)
  | (go_at_call 262;refine (EH _ (o3.rd.take 7 (by omega)) (by rw [VL];omega)).mono ?_;rintro e w4 ⟨rfl,rfl⟩))
 go_ret
 exact ⟨rfl,((b1.tr e0).tr b2).tr b3⟩
theorem oE {a:Value}{l:List UInt8} (r:Int) (w:World) (ha:Rd w a (bvs l)) (hl:l.length≤140737488352000) (E:dI w 0) :
 Calls Tryz.prog 223 #[.int .i64 r,a] w (eP w (.int .i64 (oX r l 1073741789))):=by
 have ha0:=ha
 obtain ⟨A,n1,c,rfl,hn1,hnc,hcm,hA⟩:=ha.bytes
 subst hn1
 clear hA ha
 go_enter Tryz.func223,Tryz.ntmps223
 go_wp2_with (first
  | (go_at_call 222;refine (mJ _ _).mono ?_;rintro e w1 ⟨A1,n1,c1,rfl,hn1,o1,b1⟩)
  | (go_at_call 221;refine (uC _ o1.rd (ha0.ext b1) (by simp [be4];omega)).mono ?_;rintro e w2 ⟨A2,n2,c2,rfl,hn2,o2,b2⟩)
  | (go_at_call 220;refine (uN _ o2.rd (by simp [be4];omega) (E.below (b1.tr b2))).mono ?_;rintro e w3 ⟨A3,n3,c3,rfl,hn3,o3,b3⟩)
  | (go_at_call 219;refine (rT _ _ o3.rd (by rw [jW];omega) (by omega)).mono ?_;rintro e w4 ⟨rfl,rfl⟩))
 go_ret
 exact ⟨rfl,(b1.tr b2).tr b3⟩
def m8 (k:Int) (l:List UInt8):Int:=1+oX k l 1073741788
def kP (k:Int) (l:List UInt8):Int:=oX (pw 4 (m8 k l)) l 1073741789
def mL (k:Int) (l:List UInt8):Int:=(m8 k l+kP k l*k) % 1073741789
theorem zB (k:Int) (l:List UInt8):1≤m8 k l∧m8 k l<1073741789:=by
 obtain ⟨a,b⟩:=tH k l (m:=1073741788) (by omega)
 unfold m8;omega
theorem tJ (k:Int) (l:List UInt8):0≤kP k l∧kP k l<1073741789:=tH _ l (by omega)
theorem GO (k:Int) (l:List UInt8):0≤mL k l∧mL k l<1073741789:=by unfold mL;omega
def sgV (e s k:Int):Value:=.tuple #[.agg #[.int .i64 e,.int .i64 s],.int .i64 k]
theorem in4:inB 1 2147483579 4=true:=fM (by omega) (by omega)
set_option maxHeartbeats 400000 in
theorem LU {a:Value}{l:List UInt8} (k:Int) (w:World) (hk:inB 1 1073741789 k=true) (ha:Rd w a (bvs l)) (hl:l.length≤140737488352000) (E:dI w 1) :
 Calls Tryz.prog 156 #[.int .i64 k,a] w (eP w (sgV (kP k l) (mL k l) 0)):=by
 obtain ⟨k0,k1⟩:=cT hk
 have ha0:=ha
 obtain ⟨A,n1,c,rfl,hn1,hnc,hcm,hA⟩:=ha.bytes
 subst hn1
 clear hA ha
 have e0:Ext w (w.alloc (.cells #[.int .i64 0,.int .i64 0] 33)):=(Below.refl _ _).alloc (UX _) _
 go_enter Tryz.func156,Tryz.ntmps156
 go_wp2_with fail
 refine (EJ _ _ hk).mono ?_
 rintro e w' ⟨rfl,rfl⟩
 go_wp2_with fail
 refine (uQ _ _ _ (ha0.ext e0) (by omega) (by omega) (by omega) (by omega) (E.below e0)).mono ?_
 rintro e w1 ⟨rfl,b1⟩
 obtain ⟨n0,n1⟩:=zB k l
 have HN:=VR (show 1+oX k l 1073741788=m8 k l from rfl)
 obtain ⟨hb0,hb1⟩:=tH k l (m:=1073741788) (by omega)
 go_wp2_with fail
 rw [HN.out]
 refine (oU _ _ _ in4 (by omega) (by omega)).mono ?_
 rintro e w' ⟨rfl,rfl⟩
 have p0:=xI 4 (m8 k l)
 have p1:=xJ 4 (m8 k l)
 clear hb0 hb1
 have b01:=e0.tr b1
 go_wp2_with fail
 refine (uQ _ _ _ (ha0.ext b01) (by omega) (by omega) (by omega) (by omega) (E.below b01)).mono ?_
 rw [show oX (pw 4 (m8 k l)) l 1073741789=kP k l from rfl]
 rintro e w2 ⟨rfl,b2⟩
 obtain ⟨g0,g1⟩:=tJ k l
 obtain ⟨m0,m1⟩:=mG g0 (by omega) (by omega:0≤k) (by omega)
 have HS:=VR (show (m8 k l+kP k l*k) % 1073741789=mL k l from rfl)
 have hlt:w.heap.size<(w.alloc (.cells #[.int .i64 0,.int .i64 0] 33)).heap.size:=by simp
 have c0:w2.cell? ⟨w.heap.size,0,none⟩=some (.int .i64 0):=((b1.tr b2).cell (p:=⟨w.heap.size,0,none⟩) hlt).trans (by go_simp)
 have c1:w2.cell? ⟨w.heap.size,1,none⟩=some (.int .i64 0):=((b1.tr b2).cell (p:=⟨w.heap.size,1,none⟩) hlt).trans (by go_simp)
 have f0:w2.frozen? ⟨w.heap.size,0,none⟩=false:=((b1.tr b2).frozen (p:=⟨w.heap.size,0,none⟩) hlt).trans (by go_simp)
 have f1:w2.frozen? ⟨w.heap.size,1,none⟩=false:=((b1.tr b2).frozen (p:=⟨w.heap.size,1,none⟩) hlt).trans (by go_simp)
 have b02:=b01.tr b2
 go_wp2_with fail
 rw [HS.out]
 refine bodyPost_ret (v:=sgV (kP k l) (mL k l) 0) ?_ rfl ⟨rfl,(b02.setCell (p:=⟨w.heap.size,0,none⟩) (UX _) _).setCell (p:=⟨w.heap.size,1,none⟩) (UX _) _⟩
 simp [results,Tryz.results156,go_sem,c0,c1,sgV]
theorem P6 {a:Value}{l:List UInt8} (k:Int) (w:World) (hk:inB 1 1073741789 k=false) (ha:Rd w a (bvs l)) :
 Calls Tryz.prog 156 #[.int .i64 k,a] w (eP w (sgV 0 0 3)):=by
 go_enter Tryz.func156,Tryz.ntmps156
 go_wp2_with (go_at_call 215;refine (IQ _ _ hk).mono ?_;rintro e w' ⟨rfl,rfl⟩)
 refine bodyPost_ret (v:=sgV 0 0 3) ?_ rfl ⟨rfl,(Below.refl _ _).alloc (UX _) _⟩
 simp [results,Tryz.results156,go_sem,sgV]
set_option maxHeartbeats 400000 in
theorem BU {a:Value}{l:List UInt8} (k:Int) (w:World) (hk:inB 1 1073741789 k=true) (ha:Rd w a (bvs l)) (hl:l.length≤140737488352000) (E:dI w 0) :
 Calls Tryz.prog 157 #[.int .i64 k,a] w (eP w (sgV (kP k l) (mL k l) 0)):=by
 obtain ⟨k0,k1⟩:=cT hk
 have ha0:=ha
 obtain ⟨A,n1,c,rfl,hn1,hnc,hcm,hA⟩:=ha.bytes
 subst hn1
 clear hA ha
 have e0:Ext w (w.alloc (.cells #[.int .i64 0,.int .i64 0] 33)):=(Below.refl _ _).alloc (UX _) _
 obtain ⟨hb0,hb1⟩:=tH k l (m:=1073741788) (by omega)
 go_enter Tryz.func157,Tryz.ntmps157
 go_wp2_with (first
  | (go_at_call 218;refine (jU _ _).mono ?_;rw [hk];rintro e w' ⟨rfl,rfl⟩)
  | (go_at_call 222;refine (mJ _ _).mono ?_;rintro e w1 ⟨A1,n1,c1,rfl,hn1,o1,b1⟩)
  | (go_at_call 221;refine (uC _ o1.rd (ha0.ext (e0.tr b1)) (by simp [be4];omega)).mono ?_;rintro e w2 ⟨A2,n2,c2,rfl,hn2,o2,b2⟩)
  | (go_at_call 220;refine (uN _ o2.rd (by simp [be4];omega) (E.below ((e0.tr b1).tr b2))).mono ?_;rintro e w3 ⟨A3,n3,c3,rfl,hn3,o3,b3⟩)
  | (go_at_call 219;refine (rT _ _ o3.rd (by rw [jW];omega) (by omega)).mono ?_;rw [show num ((sha (be4 k++l)).take 7) % 1073741788=oX k l 1073741788 from rfl];rintro e w4 ⟨rfl,rfl⟩)
  | fail)
 obtain ⟨n0,n1⟩:=zB k l
 have HN:=VR (show 1+oX k l 1073741788=m8 k l from rfl)
 rw [HN.out]
 refine (jS _ _ _ (by omega) (by omega) (by omega) (by omega)).mono ?_
 rintro e w' ⟨rfl,rfl⟩
 have p0:=xI 4 (m8 k l)
 have p1:=xJ 4 (m8 k l)
 clear hb0 hb1
 have b13:=(b1.tr b2).tr b3
 have b03:=e0.tr b13
 go_wp2_with fail
 refine (oE _ _ (ha0.ext b03) (by omega) (E.below b03)).mono ?_
 rw [show oX (pw 4 (m8 k l)) l 1073741789=kP k l from rfl]
 rintro e w4 ⟨rfl,b4⟩
 obtain ⟨g0,g1⟩:=tJ k l
 obtain ⟨m0,m1⟩:=mG g0 (by omega) (by omega:0≤k) (by omega)
 have HS:=VR (show (m8 k l+kP k l*k) % 1073741789=mL k l from rfl)
 have hlt:w.heap.size<(w.alloc (.cells #[.int .i64 0,.int .i64 0] 33)).heap.size:=by simp
 have c0:w4.cell? ⟨w.heap.size,0,none⟩=some (.int .i64 0):=((b13.tr b4).cell (p:=⟨w.heap.size,0,none⟩) hlt).trans (by go_simp)
 have c1:w4.cell? ⟨w.heap.size,1,none⟩=some (.int .i64 0):=((b13.tr b4).cell (p:=⟨w.heap.size,1,none⟩) hlt).trans (by go_simp)
 have f0:w4.frozen? ⟨w.heap.size,0,none⟩=false:=((b13.tr b4).frozen (p:=⟨w.heap.size,0,none⟩) hlt).trans (by go_simp)
 have f1:w4.frozen? ⟨w.heap.size,1,none⟩=false:=((b13.tr b4).frozen (p:=⟨w.heap.size,1,none⟩) hlt).trans (by go_simp)
 have b04:=b03.tr b4
 go_wp2_with fail
 rw [HS.out]
 refine bodyPost_ret (v:=sgV (kP k l) (mL k l) 0) ?_ rfl ⟨rfl,(b04.setCell (p:=⟨w.heap.size,0,none⟩) (UX _) _).setCell (p:=⟨w.heap.size,1,none⟩) (UX _) _⟩
 simp [results,Tryz.results157,go_sem,c0,c1,sgV]
theorem EM {a:Value}{l:List UInt8} (k:Int) (w:World) (hk:inB 1 1073741789 k=false) (ha:Rd w a (bvs l)) :
 Calls Tryz.prog 157 #[.int .i64 k,a] w (eP w (sgV 0 0 3)):=by
 go_enter Tryz.func157,Tryz.ntmps157
 go_wp2_with (go_at_call 218;refine (jU _ _).mono ?_;rw [hk];rintro e w' ⟨rfl,rfl⟩)
 refine bodyPost_ret (v:=sgV 0 0 3) ?_ rfl ⟨rfl,(Below.refl _ _).alloc (UX _) _⟩
 simp [results,Tryz.results157,go_sem,sgV]
def jH (p:Int) (l:List UInt8) (e s:Int):Bool:=cK p && inB 0 1073741789 e && inB 0 1073741789 s && (oX (pw 4 s*pw p (1073741789 - e) % 2147483579) l 1073741789 == e)
theorem LV {p:Int}{l:List UInt8}{e s:Int} (h:cK p=false):jH p l e s=false:=by simp [jH,h]
theorem LY {p:Int}{l:List UInt8}{e s:Int} (h:inB 0 1073741789 e=false):jH p l e s=false:=by simp [jH,h]
theorem M0 {p:Int}{l:List UInt8}{e s:Int} (h:inB 0 1073741789 s=false):jH p l e s=false:=by simp [jH,h]
theorem zC {p:Int}{l:List UInt8}{e s:Int} (h1:cK p=true) (h2:inB 0 1073741789 e=true) (h3:inB 0 1073741789 s=true):jH p l e s=(oX (pw 4 s*pw p (1073741789 - e) % 2147483579) l 1073741789 == e):=by simp [jH,h1,h2,h3]
theorem zD (x y:Int) (w:World) (x0:0≤x) (x1:x<2147483579) (y0:0≤y) (y1:y<2147483579):Calls Tryz.prog 250 #[.int .i64 x,.int .i64 y] w fun e w'=>(∃ k,e=.returned (.tuple #[.int .i64 (x*y % 2147483579),.int .i64 k]))∧w=w':=by
 by_cases hx:x=0
 · subst hx
   have h:inB 1 2147483579 0=false:=hH (by omega)
   rw [Int.zero_mul]
   go_enter Tryz.func250,Tryz.ntmps250
   go_wp2_with (go_at_call 265;refine (eX _ _).mono ?_;rw [h];rintro e w' ⟨rfl,rfl⟩)
   go_ret2
   exact ⟨⟨_,rfl⟩,rfl⟩
 · have hi:inB 1 2147483579 x=true:=fM (by omega) x1
   by_cases hy:y=0
   · subst hy
     have h:inB 1 2147483579 0=false:=hH (by omega)
     rw [Int.mul_zero]
     go_enter Tryz.func250,Tryz.ntmps250
     go_wp2_with fail
     refine (eX _ _).mono ?_
     rw [hi]
     rintro e w' ⟨rfl,rfl⟩
     go_wp2_with fail
     refine (eX _ _).mono ?_
     rw [h]
     rintro e w' ⟨rfl,rfl⟩
     go_wp2_with fail
     go_ret2
     exact ⟨⟨_,rfl⟩,rfl⟩
   · exact (yV x y w hi (fM (by omega) y1)).mono fun e w' ⟨h1,h2⟩=>⟨⟨_,h1⟩,h2⟩
set_option maxHeartbeats 1000000 in
theorem uR {a:Value}{l:List UInt8} (p e s:Int) (w:World) (ha:Rd w a (bvs l)) (hl:l.length≤140737488352000) (E:dI w 1) :
 Calls Tryz.prog 205 #[.int .i64 p,a,.agg #[.int .i64 e,.int .i64 s]] w (eP w (.bool (jH p l e s))):=by
 have e0:Ext w (w.alloc (.cells #[.int .i64 e,.int .i64 s] 33)):=(Below.refl _ _).alloc (UX _) _
 by_cases hp:cK p=true
 · by_cases he:inB 0 1073741789 e=true
   · by_cases hs:inB 0 1073741789 s=true
     · rw [zC hp he hs]
       obtain ⟨p0,p1⟩:=qW hp
       have hpi:=fM p0 p1
       obtain ⟨g0,g1⟩:=cT he
       obtain ⟨s0,s1⟩:=cT hs
       have HL:=VR he
       clear he
       have ha0:=ha
       obtain ⟨A,n1,c,rfl,hn1,hnc,hcm,hA⟩:=ha.bytes
       subst hn1
       clear hA ha
       go_enter Tryz.func205,Tryz.ntmps205
       go_wp2_with fail
       refine (fW _ _).mono ?_
       rw [hp]
       rintro e' w' ⟨rfl,rfl⟩
       go_wp2_with fail
       refine (fN _ _).mono ?_
       rw [HL.out]
       rintro e' w' ⟨rfl,rfl⟩
       go_wp2_with fail
       refine (fN _ _).mono ?_
       rw [hs]
       rintro e' w' ⟨rfl,rfl⟩
       go_wp2_with fail
       refine (oU _ _ _ in4 (by omega) (by omega)).mono ?_
       rintro e' w' ⟨rfl,rfl⟩
       go_wp2_with fail
       refine (oU _ _ _ hpi (by omega) (by omega)).mono ?_
       rintro e' w' ⟨rfl,rfl⟩
       have q0:=xI 4 s
       have q1:=xJ 4 s
       have q2:=xI p (1073741789 - e)
       have q3:=xJ p (1073741789 - e)
       go_wp2_with fail
       refine (zD _ _ _ q0 q1 q2 q3).mono ?_
       rintro e' w' ⟨⟨k,rfl⟩,rfl⟩
       obtain ⟨r0,r1⟩:=mH (a:=pw 4 s) (b:=pw p (1073741789 - e))
       go_wp2_with fail
       have cs:∀ W:World,Ext (w.alloc (.cells #[.int .i64 e,.int .i64 s] 33)) W→W.cell? ⟨w.heap.size,0,none⟩=some (.int .i64 e):=fun W h=>(h.cell (p:=⟨w.heap.size,0,none⟩) (by simp)).trans (by go_simp)
       have CS:=VR cs
       clear cs
       refine aO 5 (by kernel_rfl) (by kernel_rfl) ?_
       simp only [VH,VE,VI,VJ]
       intro w1 hw1
       have L:∀ m:Lt w1,Ext (w.alloc (.cells #[.int .i64 e,.int .i64 s] 33)) m.1:=fun m=>hw1.tr m.2
       have cs:∀ m:Lt w1,m.1.cell? ⟨w.heap.size,0,none⟩=some (.int .i64 e):=fun m=>CS.out _ (L m)
       repeat (refine aD rfl rfl rfl rfl rfl (fun K hK=>?_);go_big_quiet_op;refine hK _ ?_;clear hK K)
       refine bZ (.int .i64 (oX (pw 4 s*pw p (1073741789 - e) % 2147483579) l 1073741789)) rfl rfl rfl rfl (by kernel_rfl) rfl rfl (fun m=>uQ _ _ _ (ha0.ext (e0.tr (L m))) (by omega) (by omega) (by omega) (by omega) (E.below (e0.tr (L m)))) ?_
       simp only [Act.put,UY,UZ,V0]
       repeat (refine aD rfl rfl rfl rfl rfl (fun K hK=>?_);go_big_quiet_op;refine hK _ ?_;clear hK K)
       refine dT (fun m=>?_)
       have Lm:=L m
       obtain ⟨wy,hwy⟩:=m
       clear L cs
       go_wp2_with fail
       go_ret
       exact ⟨rfl,e0.tr Lm⟩
     · have hs':=not_true hs
       rw [M0 hs']
       go_enter Tryz.func205,Tryz.ntmps205
       go_wp2_with fail
       refine (fW _ _).mono ?_
       rw [hp]
       rintro e' w' ⟨rfl,rfl⟩
       go_wp2_with fail
       refine (fN _ _).mono ?_
       rw [he]
       rintro e' w' ⟨rfl,rfl⟩
       go_wp2_with fail
       refine (fN _ _).mono ?_
       rw [hs']
       rintro e' w' ⟨rfl,rfl⟩
       go_wp2_with fail
       go_ret
       exact ⟨rfl,e0⟩
   · have he':=not_true he
     rw [LY he']
     go_enter Tryz.func205,Tryz.ntmps205
     go_wp2_with fail
     refine (fW _ _).mono ?_
     rw [hp]
     rintro e' w' ⟨rfl,rfl⟩
     go_wp2_with fail
     refine (fN _ _).mono ?_
     rw [he']
     rintro e' w' ⟨rfl,rfl⟩
     go_wp2_with fail
     go_ret
     exact ⟨rfl,e0⟩
 · have hp':=not_true hp
   rw [LV hp']
   go_enter Tryz.func205,Tryz.ntmps205
   go_wp2_with fail
   refine (fW _ _).mono ?_
   rw [hp']
   rintro e' w' ⟨rfl,rfl⟩
   go_wp2_with fail
   go_ret
   exact ⟨rfl,e0⟩
set_option maxHeartbeats 1000000 in
theorem oF {a:Value}{l:List UInt8} (p e s:Int) (w:World) (ha:Rd w a (bvs l)) (hl:l.length≤140737488352000) (E:dI w 0) :
 Calls Tryz.prog 161 #[.int .i64 p,a,.agg #[.int .i64 e,.int .i64 s]] w (eP w (.bool (jH p l e s))):=by
 have e0:Ext w (w.alloc (.cells #[.int .i64 e,.int .i64 s] 33)):=(Below.refl _ _).alloc (UX _) _
 by_cases hp:cK p=true
 · by_cases he:inB 0 1073741789 e=true
   · by_cases hs:inB 0 1073741789 s=true
     · rw [zC hp he hs]
       obtain ⟨p0,p1⟩:=qW hp
       obtain ⟨g0,g1⟩:=cT he
       obtain ⟨s0,s1⟩:=cT hs
       have HL:=VR he
       clear he
       have ha0:=ha
       obtain ⟨A,n1,c,rfl,hn1,hnc,hcm,hA⟩:=ha.bytes
       subst hn1
       clear hA ha
       go_enter Tryz.func161,Tryz.ntmps161
       go_wp2_with fail
       refine (eI _ _).mono ?_
       rw [hp]
       rintro e' w' ⟨rfl,rfl⟩
       go_wp2_with fail
       refine (iJ _ _).mono ?_
       rw [HL.out]
       rintro e' w' ⟨rfl,rfl⟩
       go_wp2_with fail
       refine (iJ _ _).mono ?_
       rw [hs]
       rintro e' w' ⟨rfl,rfl⟩
       have q0:=xI 4 s
       have q1:=xJ 4 s
       have q2:=xI p (1073741789 - e)
       have q3:=xJ p (1073741789 - e)
       obtain ⟨m0,m1⟩:=mG q0 q1 q2 q3
       have cs:∀ W:World,Ext (w.alloc (.cells #[.int .i64 e,.int .i64 s] 33)) W→W.cell? ⟨w.heap.size,0,none⟩=some (.int .i64 e):=fun W h=>(h.cell (p:=⟨w.heap.size,0,none⟩) (by simp)).trans (by go_simp)
       have cs1:∀ W:World,Ext (w.alloc (.cells #[.int .i64 e,.int .i64 s] 33)) W→W.cell? ⟨w.heap.size,1,none⟩=some (.int .i64 s):=fun W h=>(h.cell (p:=⟨w.heap.size,1,none⟩) (by simp)).trans (by go_simp)
       have CS:=VR cs
       have CS1:=VR cs1
       clear cs cs1
       go_wp2_with fail
       have wi1:IntKind.i64.wrap (1073741789 - e)=1073741789 - e:=IntWalk.i64_in _ (by omega)
       have tm:(pw 4 s*pw p (1073741789 - e)).tmod 2147483579=pw 4 s*pw p (1073741789 - e) % 2147483579:=Int.tmod_eq_emod_of_nonneg m0
       have wi2:IntKind.i64.wrap (pw 4 s*pw p (1073741789 - e))=pw 4 s*pw p (1073741789 - e):=IntWalk.i64_in _ (by omega)
       refine aO 10 (by kernel_rfl) (by kernel_rfl) ?_
       simp only [VH,VE,VI,VJ]
       intro w1 hw1
       have L:∀ m:Lt w1,Ext (w.alloc (.cells #[.int .i64 e,.int .i64 s] 33)) m.1:=fun m=>hw1.tr m.2
       have cs:∀ m:Lt w1,m.1.cell? ⟨w.heap.size,0,none⟩=some (.int .i64 e):=fun m=>CS.out _ (L m)
       have cs1:∀ m:Lt w1,m.1.cell? ⟨w.heap.size,1,none⟩=some (.int .i64 s):=fun m=>CS1.out _ (L m)
       repeat (refine aD rfl rfl rfl rfl rfl (fun K hK=>?_);go_big_quiet_op;refine hK _ ?_;clear hK K)
       refine bZ (.int .i64 (pw 4 s)) rfl rfl rfl rfl (by kernel_rfl) rfl rfl (fun m=>(jS _ _ _ (by omega) (by omega) (by omega) (by omega)).mono fun _ _ ⟨h1,h2⟩=>⟨h1,h2 ▸ Below.refl _ _⟩) ?_
       simp only [Act.put,UY,UZ,V0]
       repeat (refine aD rfl rfl rfl rfl rfl (fun K hK=>?_);go_big_quiet_op;refine hK _ ?_;clear hK K)
       refine bZ (.int .i64 (pw p (1073741789 - e))) rfl rfl rfl rfl (by kernel_rfl) rfl rfl (fun m=>(jS _ _ _ (by omega) (by omega) (by omega) (by omega)).mono fun _ _ ⟨h1,h2⟩=>⟨h1,h2 ▸ Below.refl _ _⟩) ?_
       simp only [Act.put,UY,UZ,V0]
       repeat (refine aD rfl rfl rfl rfl rfl (fun K hK=>?_);go_big_quiet_op;refine hK _ ?_;clear hK K)
       refine dT (fun m=>?_)
       have Lm:=L m
       obtain ⟨wy,hwy⟩:=m
       clear L cs cs1
       obtain ⟨r0,r1⟩:=mH (a:=pw 4 s) (b:=pw p (1073741789 - e))
       go_wp2_with fail
       clear wi1 wi2 tm
       refine aO 5 (by kernel_rfl) (by kernel_rfl) ?_
       simp only [VH,VE,VI,VJ]
       intro w1 hw1
       have L:∀ m:Lt w1,Ext (w.alloc (.cells #[.int .i64 e,.int .i64 s] 33)) m.1:=fun m=>(Lm.tr hw1).tr m.2
       have cs:∀ m:Lt w1,m.1.cell? ⟨w.heap.size,0,none⟩=some (.int .i64 e):=fun m=>CS.out _ (L m)
       repeat (refine aD rfl rfl rfl rfl rfl (fun K hK=>?_);go_big_quiet_op;refine hK _ ?_;clear hK K)
       refine bZ (.int .i64 (oX (pw 4 s*pw p (1073741789 - e) % 2147483579) l 1073741789)) rfl rfl rfl rfl (by kernel_rfl) rfl rfl (fun m=>oE _ _ (ha0.ext (e0.tr (L m))) (by omega) (E.below (e0.tr (L m)))) ?_
       simp only [Act.put,UY,UZ,V0]
       refine dT (fun m=>?_)
       have Lm2:=L m
       obtain ⟨wz,hwz⟩:=m
       clear L cs
       go_wp2_with fail
       go_ret
       exact ⟨by rw [Bool.beq_comm];rfl,e0.tr Lm2⟩
     · have hs':=not_true hs
       rw [M0 hs']
       go_enter Tryz.func161,Tryz.ntmps161
       go_wp2_with fail
       refine (eI _ _).mono ?_
       rw [hp]
       rintro e' w' ⟨rfl,rfl⟩
       go_wp2_with fail
       refine (iJ _ _).mono ?_
       rw [he]
       rintro e' w' ⟨rfl,rfl⟩
       go_wp2_with fail
       refine (iJ _ _).mono ?_
       rw [hs']
       rintro e' w' ⟨rfl,rfl⟩
       go_wp2_with fail
       go_ret
       exact ⟨rfl,e0⟩
   · have he':=not_true he
     rw [LY he']
     go_enter Tryz.func161,Tryz.ntmps161
     go_wp2_with fail
     refine (eI _ _).mono ?_
     rw [hp]
     rintro e' w' ⟨rfl,rfl⟩
     go_wp2_with fail
     refine (iJ _ _).mono ?_
     rw [he']
     rintro e' w' ⟨rfl,rfl⟩
     go_wp2_with fail
     go_ret
     exact ⟨rfl,e0⟩
 · have hp':=not_true hp
   rw [LV hp']
   go_enter Tryz.func161,Tryz.ntmps161
   go_wp2_with fail
   refine (eI _ _).mono ?_
   rw [hp']
   rintro e' w' ⟨rfl,rfl⟩
   go_wp2_with fail
   go_ret
   exact ⟨rfl,e0⟩
theorem pN {k:Int} (h0:1≤k) (h1:k<1073741789) (l:List UInt8):jH (pw 4 k) l (kP k l) (mL k l)=true:=by
 obtain ⟨e0,e1⟩:=tJ k l
 obtain ⟨s0,s1⟩:=GO k l
 obtain ⟨n0,n1⟩:=zB k l
 rw [zC (BA h0 h1) (fM e0 e1) (fM s0 s1)]
 have key:pw 4 (mL k l)*pw (pw 4 k) (1073741789 - kP k l) % 2147483579=pw 4 (m8 k l):=by
  have hs:mL k l=(m8 k l+kP k l*k) % 1073741789:=rfl
  generalize kP k l=e at *
  generalize m8 k l=n at *
  rw [hs]
  obtain ⟨k',rfl⟩:=Int.eq_ofNat_of_zero_le (show 0≤k by omega)
  obtain ⟨e',rfl⟩:=Int.eq_ofNat_of_zero_le e0
  obtain ⟨n',rfl⟩:=Int.eq_ofNat_of_zero_le (show 0≤n by omega)
  have h:=LE (k:=k') (n:=n') (e:=e') (by omega) (by omega) (by omega)
  have c1:((n':Int)+(e':Int)*(k':Int)) % 1073741789=(((n'+e'*k') % 1073741789:Nat):Int):=by simp
  have c2:(1073741789:Int) - (e':Int)=((1073741789 - e':Nat):Int):=by omega
  rw [c1,c2,show (4:Int)=((4:Nat):Int) from rfl,qU,qU,qU,qU,← h]
  simp
 rw [key]
 simp only [kP,beq_self_eq_true]
def sE (k:Int) (l:List UInt8):Int:=if inB 1 1073741789 k=true then kP k l else 0
def sS (k:Int) (l:List UInt8):Int:=if inB 1 1073741789 k=true then mL k l else 0
def sK (k:Int):Int:=if inB 1 1073741789 k=true then 0 else 3
theorem M1 {a:Value}{l:List UInt8} (k:Int) (w:World) (ha:Rd w a (bvs l)) (hl:l.length≤140737488352000) (E:dI w 1) :
 Calls Tryz.prog 156 #[.int .i64 k,a] w (eP w (sgV (sE k l) (sS k l) (sK k))):=by
 unfold sE sS sK
 by_cases h:inB 1 1073741789 k=true
 · rw [if_pos h,if_pos h,if_pos h];exact LU k w h ha hl E
 · rw [if_neg h,if_neg h,if_neg h];exact P6 k w (not_true h) ha
theorem rZ {a:Value}{l:List UInt8} (k:Int) (w:World) (ha:Rd w a (bvs l)) (hl:l.length≤140737488352000) (E:dI w 0) :
 Calls Tryz.prog 157 #[.int .i64 k,a] w (eP w (sgV (sE k l) (sS k l) (sK k))):=by
 unfold sE sS sK
 by_cases h:inB 1 1073741789 k=true
 · rw [if_pos h,if_pos h,if_pos h];exact BU k w h ha hl E
 · rw [if_neg h,if_neg h,if_neg h];exact EM k w (not_true h) ha
structure P7 (w wa:World) (g:Nat) (e s:Int):Prop where
 ext:Ext w wa
 lt:g<wa.heap.size
 c0:wa.cell? ⟨g,0,none⟩=some (.int .i64 e)
 c1:wa.cell? ⟨g,1,none⟩=some (.int .i64 s)
theorem uS (w:World) (e s:Int):∃ wa,wa=w.alloc (.cells #[.int .i64 e,.int .i64 s] 33)∧P7 w wa w.heap.size e s :=
 ⟨_,rfl,(Below.refl _ _).alloc (UX _) _,by simp,by go_simp,by go_simp⟩
theorem P7.keep {w wa wb:World}{g:Nat}{e s:Int} (h:P7 w wa g e s) (b:Ext wa wb):P7 w wb g e s :=
 ⟨h.ext.tr b,VG h.lt b.size,(b.cell (p:=⟨g,0,none⟩) h.lt).trans h.c0,(b.cell (p:=⟨g,1,none⟩) h.lt).trans h.c1⟩
def UM (w:World) (e s:Int) (v i:Value) (wr:World):Prop :=
 ∃ A n c,v=.slice A n c∧Ext w wr∧((i=.int .i64 0∧Own wr w.heap.size 5 (.slice A n c) (bvs [])) ∨ (i=.int .i64 1∧Own wr w.heap.size 5 (.slice A n c) (bvs (be4 e))) ∨ (i=.int .i64 2∧Hid (n=8)∧Own wr w.heap.size 5 (.slice A n c) (bvs (be4 e++be4 s))))
set_option maxHeartbeats 1000000 in
theorem P8 (e s:Int) (w:World) (he:inB 0 1073741789 e=true) (hs:inB 0 1073741789 s=true) :
 Calls Tryz.prog 206 #[.agg #[.int .i64 e,.int .i64 s]] w (xP w (be4 e++be4 s) 0):=by
 obtain ⟨e0,e1⟩:=cT he
 obtain ⟨s0,s1⟩:=cT hs
 have i0:∀ w:World,(Instr.index 255 (.agg #[.int .i64 e,.int .i64 s]) (.int .i64 0)).run Tryz.prog w=.ok (.int .i64 e) w:=fun _=>by kernel_rfl
 have i1:∀ w:World,(Instr.index 255 (.agg #[.int .i64 e,.int .i64 s]) (.int .i64 1)).run Tryz.prog w=.ok (.int .i64 s) w:=fun _=>by kernel_rfl
 have x0:Ext w (w.alloc (.cells #[.int .i64 e,.int .i64 s] 33)):=(Below.refl _ _).alloc (UX _) _
 go_enter Tryz.func206,Tryz.ntmps206
 go_wp2_with fail
 go_loopw [4,14] (fun v i wr=>UM w e s v i wr) (fun _ i _=>2 - (intOf i).toNat)
 case atStart=>exact ⟨_,_,_,rfl,x0,.inl ⟨rfl,yU _ _⟩⟩
 case round =>
  obtain ⟨A,n,c,rfl,b,hrel⟩:=hrel
  rcases hrel with ⟨rfl,o⟩ | ⟨rfl,o⟩ | ⟨rfl,hn,o⟩
  · go_wp2_with (first
     | (go_at_call 249;refine (fN _ _).mono ?_;rw [he];rintro e' w' ⟨rfl,rfl⟩)
     | (go_at_call 251;refine (pK _ _ (by omega) (by omega)).mono ?_;rintro e' w3 ⟨A3,n3,c3,rfl,hn3,o3,b3⟩)
     | (refine jF (o.ext b3) o3.rd (b.tr b3) (by simp [be4]) (b.tr b3).size rfl rfl rfl rfl ?_;intro A6 n6 c6 w6 hn6 o6 (b6:Ext _ _) g6))
    go_roundw
    case rel=>exact ⟨_,_,_,rfl,b6,.inr (.inl ⟨rfl,by simpa using o6⟩)⟩
    case measure=>simp [intOf]
  · go_wp2_with (first
     | (go_at_call 249;refine (fN _ _).mono ?_;rw [hs];rintro e' w' ⟨rfl,rfl⟩)
     | (go_at_call 251;refine (pK _ _ (by omega) (by omega)).mono ?_;rintro e' w3 ⟨A3,n3,c3,rfl,hn3,o3,b3⟩)
     | (refine jF (o.ext b3) o3.rd (b.tr b3) (by simp [be4]) (b.tr b3).size rfl rfl rfl rfl ?_;intro A6 n6 c6 w6 hn6 o6 (b6:Ext _ _) g6))
    go_roundw
    case rel=>exact ⟨_,_,_,rfl,b6,.inr (.inr ⟨rfl,hn6,o6⟩)⟩
    case measure=>simp [intOf]
  · go_wp2_with fail
    go_ret2
    exact ⟨_,_,_,rfl,hn,o,b⟩
def TH (e s:Int):Int:=if inB 0 1073741789 e=true∧inB 0 1073741789 s=true then 0 else 3
def UN (l:List UInt8):Prop:=inB 0 1073741789 (num (l.take 4))=true∧inB 0 1073741789 (num (l.drop 4))=true
instance (l:List UInt8):Decidable (UN l):=inferInstanceAs (Decidable (_∧_))
end Go.Proofs.YtkjplpmogfmhkaaGreatDoor
