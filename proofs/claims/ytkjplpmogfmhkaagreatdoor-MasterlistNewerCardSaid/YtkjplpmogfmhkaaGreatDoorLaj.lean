/- Parts Gr Gs Ml of the proof. -/
import Derived.Test.YtkjplpmogfmhkaaGreatDoorLae
import Derived.Test.YtkjplpmogfmhkaaGreatDoorLad
import Derived.Test.YtkjplpmogfmhkaaGreatDoorLah
namespace Go.Proofs.YtkjplpmogfmhkaaGreatDoor
open Go.RowKit
set_option linter.unusedVariables false
set_option maxRecDepth 100000
set_option maxHeartbeats 400000 in
theorem jS (x k:Int) (w:World) (h0:0≤x) (h1:x<2147483579) (k0:0≤k) (k1:k<9223372036854775808) :
 Calls Tryz.prog 224 #[.int .i64 x,.int .i64 k] w fun e w'=>e=.returned (.int .i64 (pw x k))∧w=w':=by
 have hs:=uB h0 h1 k0
 obtain ⟨x0,hx0⟩:∃ y,y=x:=⟨_,rfl⟩
 obtain ⟨c0,hc0⟩:∃ y,y=k:=⟨_,rfl⟩
 rw [show pw x k=pw x0 c0 by rw [hx0,hc0]]
 rw [show sX x k 1 x k=sX x0 c0 1 x k by rw [hx0,hc0]] at hs
 clear hx0 hc0
 go_enter Tryz.func224,Tryz.ntmps224
 go_wp2
 go_loop [0,1,5] (fun x k p=>∃ x' k' p':Int,x=.int .i64 x'∧k=.int .i64 k'∧p=.int .i64 p'∧k'<9223372036854775808∧sX x0 c0 p' x' k') (fun _ k _=>(intOf k).toNat)
 case atStart=>exact ⟨_,_,_,rfl,rfl,rfl,k1,hs⟩
 case round =>
  obtain ⟨a,b,p,rfl,rfl,rfl,hb,hp⟩:=hrel
  have hp0:=hp
  obtain ⟨q1,q2,q3,q4,q5,_⟩:=hp0
  obtain ⟨m2,m1⟩:=mG q1 q2 q3 q4
  obtain ⟨m4,m3⟩:=mG q3 q4 q3 q4
  have HP:=VR hp
  clear hp hs h0 h1 k0 k1
  by_cases hb0:0<b
  · by_cases hodd:b % 2=1
    · have t1:(b % 2 == 1)=true:=by simp [hodd]
      have HO:=VR hodd
      clear hodd
      go_wp2
      go_round
      case rel=>exact ⟨_,_,_,rfl,rfl,rfl,by omega,B7 HP.out HO.out⟩
      case measure=>simp [intOf];omega
    · have t1:(b % 2 == 1)=false:=by simp [hodd]
      have hev:b % 2=0:=by omega
      have HO:=VR hev
      clear hodd hev
      go_wp2
      go_round
      case rel=>exact ⟨_,_,_,rfl,rfl,rfl,by omega,xK HP.out HO.out⟩
      case measure=>simp [intOf];omega
  · have HB:=VR (B8 HP.out (by omega))
    go_wp2
    go_ret
    exact ⟨by rw [← HB.out];rfl,rfl⟩
set_option maxHeartbeats 400000 in
theorem qV (x k:Int) (w:World) (h0:0≤x) (h1:x<2147483579) (k0:0≤k) (k1:k<9223372036854775808) :
 Calls Tryz.prog 261 #[.int .i64 x,.int .i64 k] w fun e w'=>e=.returned (.int .i64 (pw x k))∧w=w':=by
 have hs:=uB h0 h1 k0
 obtain ⟨x0,hx0⟩:∃ y,y=x:=⟨_,rfl⟩
 rw [show pw x k=pw x0 k by rw [hx0]]
 rw [show sX x k 1 x k=sX x0 k 1 x k by rw [hx0]] at hs
 clear hx0
 go_enter Tryz.func261,Tryz.ntmps261
 go_wp2_with (go_at_call 276;refine (LF _ _ (by omega) (by omega)).mono ?_;rintro e w' ⟨rfl,rfl⟩)
 have hlen:=IJ k.toNat
 obtain ⟨m,hm⟩:∃ m,m=Lib.bitLen k.toNat:=⟨_,rfl⟩
 rw [← hm] at hlen
 rw [← hm]
 have HM:=VR hm
 have HS:=VR hs
 clear hm hs
 go_loop [0,5,6,10] (fun x p _ i=>∃ (x' p':Int) (j:Nat),x=.int .i64 x'∧p=.int .i64 p'∧i=.int .i64 (j:Int)∧j≤m∧sX x0 k p' x' (k / 2 ^ j)) (fun _ _ _ i=>m - (intOf i).toNat)
 case atStart=>exact ⟨_,_,0,rfl,rfl,rfl,V7 _,by simpa using HS.out⟩
 case round =>
  obtain ⟨a,p,j,rfl,rfl,rfl,hj,hp⟩:=hrel
  have HP:=VR hp
  by_cases hlt:j<m
  · obtain ⟨q1,q2,q3,q4,q5,_⟩:=hp
    obtain ⟨m2,m1⟩:=mG q1 q2 q3 q4
    obtain ⟨m4,m3⟩:=mG q3 q4 q3 q4
    obtain ⟨d0,d1⟩:=E5 k0 j
    have HH:=VR (LA k k0 j)
    have ha:=OX d0 (by omega)
    by_cases hodd:(k / 2 ^ j) % 2=1
    · have t1:(bits .and .i64 (k / 2 ^ j) 1 == 1)=true:=by rw [ha,hodd];rfl
      have HO:=VR (B7 HP.out hodd)
      clear hodd ha d0 d1
      go_wp2
      go_round
      case rel=>exact ⟨_,_,j+1,rfl,rfl,by go_num,by omega,by rw [← HH.out];exact HO.out⟩
      case measure=>simp [intOf];omega
    · have hev:(k / 2 ^ j) % 2=0:=by omega
      have t1:(bits .and .i64 (k / 2 ^ j) 1 == 1)=false:=by rw [ha,hev];rfl
      have HO:=VR (xK HP.out hev)
      clear hodd hev ha d0 d1
      go_wp2
      go_round
      case rel=>exact ⟨_,_,j+1,rfl,rfl,by go_num,by omega,by rw [← HH.out];exact HO.out⟩
      case measure=>simp [intOf];omega
  · obtain rfl:j=m:=by omega
    have HB:=VR (B8 HP.out (by rw [HM.out];exact E7 k0 k1))
    clear hp
    go_wp2
    go_ret
    exact ⟨by rw [← HB.out];rfl,rfl⟩
def inB (lo hi x:Int):Bool:=decide (lo≤x∧x<hi)
theorem cT {lo hi x:Int} (h:inB lo hi x=true):lo≤x∧x<hi:=of_decide_eq_true h
theorem fM {lo hi x:Int} (h0:lo≤x) (h1:x<hi):inB lo hi x=true:=decide_eq_true ⟨h0,h1⟩
theorem hH {lo hi x:Int} (h:¬ (lo≤x∧x<hi)):inB lo hi x=false:=decide_eq_false h
theorem IP {lo hi x:Int} (h:inB lo hi x=false):¬ (lo≤x∧x<hi):=of_decide_eq_false h
theorem not_true {b:Bool} (h:¬ b=true):b=false:=by simpa using h
theorem eX (x:Int) (w:World):Calls Tryz.prog 265 #[.int .i64 x] w fun e w'=>e=.returned (.bool (inB 1 2147483579 x))∧w=w':=by
 by_cases h1:1≤x
 · by_cases h2:x<2147483579
   · rw [fM h1 h2]
     go_enter Tryz.func265,Tryz.ntmps265
     go_wp2
     go_ret
     exact ⟨rfl,rfl⟩
   · rw [hH (fun h=>h2 h.2)]
     go_enter Tryz.func265,Tryz.ntmps265
     go_wp2
     go_ret
     exact ⟨rfl,rfl⟩
 · rw [hH (fun h=>h1 h.1)]
   go_enter Tryz.func265,Tryz.ntmps265
   go_wp2
   go_ret
   exact ⟨rfl,rfl⟩
theorem jT (x:Int) (w:World):Calls Tryz.prog 244 #[.int .i64 x] w fun e w'=>e=.returned (.bool (inB 1 2147483579 x))∧w=w':=by
 by_cases h1:1≤x
 · by_cases h2:x<2147483579
   · rw [fM h1 h2]
     go_enter Tryz.func244,Tryz.ntmps244
     go_wp2
     go_ret
     exact ⟨rfl,rfl⟩
   · rw [hH (fun h=>h2 h.2)]
     go_enter Tryz.func244,Tryz.ntmps244
     go_wp2
     go_ret
     exact ⟨rfl,rfl⟩
 · rw [hH (fun h=>h1 h.1)]
   go_enter Tryz.func244,Tryz.ntmps244
   go_wp2
   go_ret
   exact ⟨rfl,rfl⟩
theorem rV (x:Int) (w:World):Calls Tryz.prog 260 #[.int .i64 x] w fun e w'=>e=.returned (.bool (inB 1 1073741789 x))∧w=w':=by
 by_cases h1:1≤x
 · by_cases h2:x<1073741789
   · rw [fM h1 h2]
     go_enter Tryz.func260,Tryz.ntmps260
     go_wp2
     go_ret
     exact ⟨rfl,rfl⟩
   · rw [hH (fun h=>h2 h.2)]
     go_enter Tryz.func260,Tryz.ntmps260
     go_wp2
     go_ret
     exact ⟨rfl,rfl⟩
 · rw [hH (fun h=>h1 h.1)]
   go_enter Tryz.func260,Tryz.ntmps260
   go_wp2
   go_ret
   exact ⟨rfl,rfl⟩
theorem jU (x:Int) (w:World):Calls Tryz.prog 218 #[.int .i64 x] w fun e w'=>e=.returned (.bool (inB 1 1073741789 x))∧w=w':=by
 by_cases h1:1≤x
 · by_cases h2:x<1073741789
   · rw [fM h1 h2]
     go_enter Tryz.func218,Tryz.ntmps218
     go_wp2
     go_ret
     exact ⟨rfl,rfl⟩
   · rw [hH (fun h=>h2 h.2)]
     go_enter Tryz.func218,Tryz.ntmps218
     go_wp2
     go_ret
     exact ⟨rfl,rfl⟩
 · rw [hH (fun h=>h1 h.1)]
   go_enter Tryz.func218,Tryz.ntmps218
   go_wp2
   go_ret
   exact ⟨rfl,rfl⟩
theorem fN (x:Int) (w:World):Calls Tryz.prog 249 #[.int .i64 x] w fun e w'=>e=.returned (.bool (inB 0 1073741789 x))∧w=w':=by
 by_cases h1:0≤x
 · by_cases h2:x<1073741789
   · rw [fM h1 h2]
     go_enter Tryz.func249,Tryz.ntmps249
     go_wp2
     go_ret
     exact ⟨rfl,rfl⟩
   · rw [hH (fun h=>h2 h.2)]
     go_enter Tryz.func249,Tryz.ntmps249
     go_wp2
     go_ret
     exact ⟨rfl,rfl⟩
 · rw [hH (fun h=>h1 h.1)]
   go_enter Tryz.func249,Tryz.ntmps249
   go_wp2
   go_ret
   exact ⟨rfl,rfl⟩
theorem iJ (x:Int) (w:World):Calls Tryz.prog 228 #[.int .i64 x] w fun e w'=>e=.returned (.bool (inB 0 1073741789 x))∧w=w':=by
 by_cases h1:0≤x
 · by_cases h2:x<1073741789
   · rw [fM h1 h2]
     go_enter Tryz.func228,Tryz.ntmps228
     go_wp2
     go_ret
     exact ⟨rfl,rfl⟩
   · rw [hH (fun h=>h2 h.2)]
     go_enter Tryz.func228,Tryz.ntmps228
     go_wp2
     go_ret
     exact ⟨rfl,rfl⟩
 · rw [hH (fun h=>h1 h.1)]
   go_enter Tryz.func228,Tryz.ntmps228
   go_wp2
   go_ret
   exact ⟨rfl,rfl⟩
theorem xR (x:Int) (h:inB 1 2147483579 x=true) (h1:x≠1):cK x=(pw x 1073741789 == 1):=by
 obtain ⟨a,b⟩:=cT h
 unfold cK
 rw [decide_eq_true (show 0<x by omega),decide_eq_true b]
 simp [h1]
theorem oT (x:Int) (h:inB 1 2147483579 x=false):cK x=false:=by
 have:=IP h
 unfold cK
 by_cases a:0<x
 · have b:¬ x<2147483579:=by omega
   simp [b]
 · simp [a]
theorem uH:cK 1=false:=by simp [cK]
theorem qW {x:Int} (h:cK x=true):1≤x∧x<2147483579:=by
 cases hb:inB 1 2147483579 x with
 | true=>exact cT hb
 | false=>rw [oT x hb] at h;cases h
theorem fW (x:Int) (w:World):Calls Tryz.prog 240 #[.int .i64 x] w fun e w'=>e=.returned (.bool (cK x))∧w=w':=by
 by_cases h:inB 1 2147483579 x=true
 · obtain ⟨h0,h1⟩:=cT h
   by_cases hx:x=1
   · subst hx
     rw [uH]
     go_enter Tryz.func240,Tryz.ntmps240
     go_wp2_with (go_at_call 265;refine (eX _ _).mono ?_;rw [h];rintro e w' ⟨rfl,rfl⟩)
     go_ret
     exact ⟨rfl,rfl⟩
   · rw [xR x h hx]
     have h1':(x != 1)=true:=by simp [hx]
     go_enter Tryz.func240,Tryz.ntmps240
     go_wp2_with (first
      | (go_at_call 265;refine (eX _ _).mono ?_;rw [h];rintro e w' ⟨rfl,rfl⟩)
      | (go_at_call 261;refine (qV _ _ _ (by omega) (by omega) (by omega) (by omega)).mono ?_;rintro e w' ⟨rfl,rfl⟩))
     go_ret
     exact ⟨rfl,rfl⟩
 · have h':=not_true h
   rw [oT x h']
   go_enter Tryz.func240,Tryz.ntmps240
   go_wp2_with (go_at_call 265;refine (eX _ _).mono ?_;rw [h'];rintro e w' ⟨rfl,rfl⟩)
   go_ret
   exact ⟨rfl,rfl⟩
theorem eI (x:Int) (w:World):Calls Tryz.prog 184 #[.int .i64 x] w fun e w'=>e=.returned (.bool (cK x))∧w=w':=by
 by_cases h:inB 1 2147483579 x=true
 · obtain ⟨h0,h1⟩:=cT h
   by_cases hx:x=1
   · subst hx
     rw [uH]
     go_enter Tryz.func184,Tryz.ntmps184
     go_wp2_with (go_at_call 244;refine (jT _ _).mono ?_;rw [h];rintro e w' ⟨rfl,rfl⟩)
     go_ret
     exact ⟨rfl,rfl⟩
   · rw [xR x h hx]
     have h1':(x != 1)=true:=by simp [hx]
     go_enter Tryz.func184,Tryz.ntmps184
     go_wp2_with (first
      | (go_at_call 244;refine (jT _ _).mono ?_;rw [h];rintro e w' ⟨rfl,rfl⟩)
      | (go_at_call 224;refine (jS _ _ _ (by omega) (by omega) (by omega) (by omega)).mono ?_;rintro e w' ⟨rfl,rfl⟩))
     go_ret
     exact ⟨rfl,rfl⟩
 · have h':=not_true h
   rw [oT x h']
   go_enter Tryz.func184,Tryz.ntmps184
   go_wp2_with (go_at_call 244;refine (jT _ _).mono ?_;rw [h'];rintro e w' ⟨rfl,rfl⟩)
   go_ret
   exact ⟨rfl,rfl⟩
theorem EJ (x:Int) (w:World) (h:inB 1 1073741789 x=true):Calls Tryz.prog 215 #[.int .i64 x] w fun e w'=>e=.returned (.tuple #[.int .i64 (pw 4 x),.int .i64 0])∧w=w':=by
 obtain ⟨h0,h1⟩:=cT h
 go_enter Tryz.func215,Tryz.ntmps215
 go_wp2_with (first
  | (go_at_call 260;refine (rV _ _).mono ?_;rw [h];rintro e w' ⟨rfl,rfl⟩)
  | (go_at_call 261;refine (qV _ _ _ (by omega) (by omega) (by omega) (by omega)).mono ?_;rintro e w' ⟨rfl,rfl⟩))
 go_ret2
 exact ⟨rfl,rfl⟩
theorem IQ (x:Int) (w:World) (h:inB 1 1073741789 x=false):Calls Tryz.prog 215 #[.int .i64 x] w fun e w'=>e=.returned (.tuple #[.int .i64 0,.int .i64 3])∧w=w':=by
 go_enter Tryz.func215,Tryz.ntmps215
 go_wp2_with (go_at_call 260;refine (rV _ _).mono ?_;rw [h];rintro e w' ⟨rfl,rfl⟩)
 go_ret2
 exact ⟨rfl,rfl⟩
theorem wU (x:Int) (w:World) (h:inB 1 1073741789 x=true):Calls Tryz.prog 200 #[.int .i64 x] w fun e w'=>e=.returned (.tuple #[.int .i64 (pw 4 x),.int .i64 0])∧w=w':=by
 obtain ⟨h0,h1⟩:=cT h
 go_enter Tryz.func200,Tryz.ntmps200
 go_wp2_with (first
  | (go_at_call 218;refine (jU _ _).mono ?_;rw [h];rintro e w' ⟨rfl,rfl⟩)
  | (go_at_call 224;refine (jS _ _ _ (by omega) (by omega) (by omega) (by omega)).mono ?_;rintro e w' ⟨rfl,rfl⟩))
 go_ret2
 exact ⟨rfl,rfl⟩
theorem oU (x k:Int) (w:World) (h:inB 1 2147483579 x=true) (k0:0≤k) (k1:k≤1073741789):Calls Tryz.prog 217 #[.int .i64 x,.int .i64 k] w fun e w'=>e=.returned (.tuple #[.int .i64 (pw x k),.int .i64 0])∧w=w':=by
 obtain ⟨h0,h1⟩:=cT h
 go_enter Tryz.func217,Tryz.ntmps217
 go_wp2_with (first
  | (go_at_call 265;refine (eX _ _).mono ?_;rw [h];rintro e w' ⟨rfl,rfl⟩)
  | (go_at_call 261;refine (qV _ _ _ (by omega) (by omega) (by omega) (by omega)).mono ?_;rintro e w' ⟨rfl,rfl⟩))
 go_ret2
 exact ⟨rfl,rfl⟩
theorem yV (x y:Int) (w:World) (h:inB 1 2147483579 x=true) (hy:inB 1 2147483579 y=true):Calls Tryz.prog 250 #[.int .i64 x,.int .i64 y] w fun e w'=>e=.returned (.tuple #[.int .i64 (x*y % 2147483579),.int .i64 0])∧w=w':=by
 obtain ⟨h0,h1⟩:=cT h
 obtain ⟨h2,h3⟩:=cT hy
 obtain ⟨m0,m1⟩:=mG (by omega) h1 (by omega) h3
 go_enter Tryz.func250,Tryz.ntmps250
 go_wp2_with fail
 refine (eX _ _).mono ?_
 rw [h]
 rintro e w' ⟨rfl,rfl⟩
 go_wp2_with fail
 refine (eX _ _).mono ?_
 rw [hy]
 rintro e w' ⟨rfl,rfl⟩
 go_wp2_with fail
 go_ret2
 exact ⟨rfl,rfl⟩
def hM (x:Int):Int:=1+x % 1073741788
theorem GL (x:Int):1≤hM x∧hM x<1073741789:=by unfold hM;omega
theorem GM (x:Int):inB 1 1073741789 (hM x)=true:=fM (GL x).1 (GL x).2
def eF (x m:Int):Int:=if m<1 then 0 else x % m
theorem uI {x m:Int} (h:1≤m):eF x m=x % m:=if_neg (by omega)
theorem iP {x m:Int} (h:1≤m):0≤eF x m∧eF x m<m:=by rw [uI h];exact ⟨Int.emod_nonneg _ (by omega),Int.emod_lt_of_pos _ (by omega)⟩
theorem P5 {x m:Int} (h:1≤m):-m<x.tmod m∧x.tmod m<m:=by
 have h1:=Int.tmod_lt_of_pos x (show 0<m by omega)
 have h2:=Int.tmod_lt_of_pos (-x) (show 0<m by omega)
 rw [Int.neg_tmod] at h2
 omega
theorem yW {x m:Int} (h:1≤m):(x.tmod m+m) % m=x % m:=by
 rw [Int.add_emod_right]
 have e:=Int.tmod_add_mul_tdiv x m
 conv=>rhs;rw [← e]
 rw [Int.add_mul_emod_self_left]
theorem gN (x m:Int) (w:World) (x0:-9223372036854775808≤x) (x1:x<9223372036854775808) (hm:m≤4611686018427387904):Calls Tryz.prog 30 #[.int .i64 x,.int .i64 m] w fun e w'=>e=.returned (.int .i64 (eF x m))∧w=w':=by
 by_cases h:m<1
 · rw [eF,if_pos h]
   go_enter Tryz.func30,Tryz.ntmps30
   go_wp2
   go_ret
   exact ⟨rfl,rfl⟩
 · have h1:1≤m:=by omega
   rw [uI h1]
   by_cases hx:0≤x
   · have q0:=Int.emod_nonneg x (show m≠0 by omega)
     have q1:=Int.emod_lt_of_pos x (show 0<m by omega)
     have H:=VR (show (x % m+m) % m=x % m by rw [Int.add_emod_right,Int.emod_emod])
     go_enter Tryz.func30,Tryz.ntmps30
     go_wp2
     go_ret
     exact ⟨by rw [← H.out];rfl,rfl⟩
   · obtain ⟨q0,q1⟩:=P5 (x:=x) h1
     have H:=VR (show x.tmod m % m=x % m by have:=yW (x:=x) h1;rwa [Int.add_emod_right] at this)
     go_enter Tryz.func30,Tryz.ntmps30
     go_wp2
     go_ret
     exact ⟨by rw [← H.out];rfl,rfl⟩
theorem IR (x:Int):1+eF x 1073741788=hM x:=by rw [uI (by omega)];rfl
theorem kI (x:Int) (w:World) (x0:-9223372036854775808≤x) (x1:x<9223372036854775808):Calls Tryz.prog 128 #[.int .i64 x] w fun e w'=>e=.returned (.tuple #[.int .i64 (hM x),.int .i64 (pw 4 (hM x))])∧w=w':=by
 obtain ⟨b0,b1⟩:=iP (x:=x) (m:=1073741788) (by omega)
 have H:=VR (IR x)
 go_enter Tryz.func128,Tryz.ntmps128
 go_wp2_with fail
 refine (gN _ _ _ x0 x1 (by omega)).mono ?_
 rintro e w' ⟨rfl,rfl⟩
 go_wp2_with fail
 rw [H.out]
 refine (wU _ _ (GM x)).mono ?_
 rintro e w' ⟨rfl,rfl⟩
 go_wp2_with fail
 go_ret2
 exact ⟨rfl,rfl⟩
end Go.Proofs.YtkjplpmogfmhkaaGreatDoor
