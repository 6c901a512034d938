/- Parts Gr Gs Ml of the proof. -/
import Derived.Test.YtkjplpmogfmhkaaGreatDoorIae
import Derived.Test.YtkjplpmogfmhkaaGreatDoorIad
import Derived.Test.YtkjplpmogfmhkaaGreatDoorIah
namespace Go.Proofs.YtkjplpmogfmhkaaGreatDoor
open Go.RowKit
set_option linter.unusedVariables false
set_option maxRecDepth 100000
set_option maxHeartbeats 400000 in
theorem jO (x k:Int) (w:World) (h0:0≤x) (h1:x<2147483579) (k0:0≤k) (k1:k<9223372036854775808) :
 Calls Tryz.prog 224 #[.int .i64 x,.int .i64 k] w fun e w'=>e=.returned (.int .i64 (pw x k))∧w=w':=by
 have hs:=tV h0 h1 k0
 obtain ⟨x0,hx0⟩:∃ y,y=x:=⟨_,rfl⟩
 obtain ⟨c0,hc0⟩:∃ y,y=k:=⟨_,rfl⟩
 rw [show pw x k=pw x0 c0 by rw [hx0,hc0]]
 rw [show sX x k 1 x k=sX x0 c0 1 x k by rw [hx0,hc0]] at hs
 clear hx0 hc0
 go_enter Tryz.func224,Tryz.ntmps224
 go_wp2
 go_loop [0,1,5] (fun x k p=>∃ x' k' p':Int,x=.int .i64 x'∧k=.int .i64 k'∧p=.int .i64 p'∧k'<9223372036854775808∧sX x0 c0 p' x' k') (fun _ k _=>(intOf k).toNat)
 case atStart=>exact ⟨_,_,_,rfl,rfl,rfl,k1,hs⟩
 case round =>
  obtain ⟨a,b,p,rfl,rfl,rfl,hb,hp⟩:=hrel
  have hp0:=hp
  obtain ⟨q1,q2,q3,q4,q5,_⟩:=hp0
  obtain ⟨m2,m1⟩:=oQ q1 q2 q3 q4
  obtain ⟨m4,m3⟩:=oQ q3 q4 q3 q4
  have HP:=UP hp
  clear hp hs h0 h1 k0 k1
  by_cases hb0:0<b
  · by_cases hodd:b % 2=1
    · have t1:(b % 2 == 1)=true:=by simp [hodd]
      have HO:=UP hodd
      clear hodd
      go_wp2
      go_round
      case rel=>exact ⟨_,_,_,rfl,rfl,rfl,by omega,AK HP.out HO.out⟩
      case measure=>simp [intOf];omega
    · have t1:(b % 2 == 1)=false:=by simp [hodd]
      have hev:b % 2=0:=by omega
      have HO:=UP hev
      clear hodd hev
      go_wp2
      go_round
      case rel=>exact ⟨_,_,_,rfl,rfl,rfl,by omega,wX HP.out HO.out⟩
      case measure=>simp [intOf];omega
  · have HB:=UP (AM HP.out (by omega))
    go_wp2
    go_ret
    exact ⟨by rw [← HB.out];rfl,rfl⟩
set_option maxHeartbeats 400000 in
theorem xE (x k:Int) (w:World) (h0:0≤x) (h1:x<2147483579) (k0:0≤k) (k1:k<9223372036854775808) :
 Calls Tryz.prog 261 #[.int .i64 x,.int .i64 k] w fun e w'=>e=.returned (.int .i64 (pw x k))∧w=w':=by
 have hs:=tV h0 h1 k0
 obtain ⟨x0,hx0⟩:∃ y,y=x:=⟨_,rfl⟩
 rw [show pw x k=pw x0 k by rw [hx0]]
 rw [show sX x k 1 x k=sX x0 k 1 x k by rw [hx0]] at hs
 clear hx0
 go_enter Tryz.func261,Tryz.ntmps261
 go_wp2_with (go_at_call 276;refine (KO _ _ (by omega) (by omega)).mono ?_;rintro e w' ⟨rfl,rfl⟩)
 have hlen:=GV k.toNat
 obtain ⟨m,hm⟩:∃ m,m=Lib.bitLen k.toNat:=⟨_,rfl⟩
 rw [← hm] at hlen
 rw [← hm]
 have HM:=UP hm
 have HS:=UP hs
 clear hm hs
 go_loop [0,5,6,10] (fun x p _ i=>∃ (x' p':Int) (j:Nat),x=.int .i64 x'∧p=.int .i64 p'∧i=.int .i64 (j:Int)∧j≤m∧sX x0 k p' x' (k / 2 ^ j)) (fun _ _ _ i=>m - (intOf i).toNat)
 case atStart=>exact ⟨_,_,0,rfl,rfl,rfl,U4 _,by simpa using HS.out⟩
 case round =>
  obtain ⟨a,p,j,rfl,rfl,rfl,hj,hp⟩:=hrel
  have HP:=UP hp
  by_cases hlt:j<m
  · obtain ⟨q1,q2,q3,q4,q5,_⟩:=hp
    obtain ⟨m2,m1⟩:=oQ q1 q2 q3 q4
    obtain ⟨m4,m3⟩:=oQ q3 q4 q3 q4
    obtain ⟨d0,d1⟩:=DQ k0 j
    have HH:=UP (KH k k0 j)
    have ha:=NV d0 (by omega)
    by_cases hodd:(k / 2 ^ j) % 2=1
    · have t1:(bits .and .i64 (k / 2 ^ j) 1 == 1)=true:=by rw [ha,hodd];rfl
      have HO:=UP (AK HP.out hodd)
      clear hodd ha d0 d1
      go_wp2
      go_round
      case rel=>exact ⟨_,_,j+1,rfl,rfl,by go_num,by omega,by rw [← HH.out];exact HO.out⟩
      case measure=>simp [intOf];omega
    · have hev:(k / 2 ^ j) % 2=0:=by omega
      have t1:(bits .and .i64 (k / 2 ^ j) 1 == 1)=false:=by rw [ha,hev];rfl
      have HO:=UP (wX HP.out hev)
      clear hodd hev ha d0 d1
      go_wp2
      go_round
      case rel=>exact ⟨_,_,j+1,rfl,rfl,by go_num,by omega,by rw [← HH.out];exact HO.out⟩
      case measure=>simp [intOf];omega
  · obtain rfl:j=m:=by omega
    have HB:=UP (AM HP.out (by rw [HM.out];exact DR k0 k1))
    clear hp
    go_wp2
    go_ret
    exact ⟨by rw [← HB.out];rfl,rfl⟩
def inB (lo hi x:Int):Bool:=decide (lo≤x∧x<hi)
theorem dH {lo hi x:Int} (h:inB lo hi x=true):lo≤x∧x<hi:=of_decide_eq_true h
theorem fO {lo hi x:Int} (h0:lo≤x) (h1:x<hi):inB lo hi x=true:=decide_eq_true ⟨h0,h1⟩
theorem j0 {lo hi x:Int} (h:¬ (lo≤x∧x<hi)):inB lo hi x=false:=decide_eq_false h
theorem H9 {lo hi x:Int} (h:inB lo hi x=false):¬ (lo≤x∧x<hi):=of_decide_eq_false h
theorem not_true {b:Bool} (h:¬ b=true):b=false:=by simpa using h
theorem eS (x:Int) (w:World):Calls Tryz.prog 265 #[.int .i64 x] w fun e w'=>e=.returned (.bool (inB 1 2147483579 x))∧w=w':=by
 by_cases h1:1≤x
 · by_cases h2:x<2147483579
   · rw [fO h1 h2]
     go_enter Tryz.func265,Tryz.ntmps265
     go_wp2
     go_ret
     exact ⟨rfl,rfl⟩
   · rw [j0 (fun h=>h2 h.2)]
     go_enter Tryz.func265,Tryz.ntmps265
     go_wp2
     go_ret
     exact ⟨rfl,rfl⟩
 · rw [j0 (fun h=>h1 h.1)]
   go_enter Tryz.func265,Tryz.ntmps265
   go_wp2
   go_ret
   exact ⟨rfl,rfl⟩
theorem jP (x:Int) (w:World):Calls Tryz.prog 244 #[.int .i64 x] w fun e w'=>e=.returned (.bool (inB 1 2147483579 x))∧w=w':=by
 by_cases h1:1≤x
 · by_cases h2:x<2147483579
   · rw [fO h1 h2]
     go_enter Tryz.func244,Tryz.ntmps244
     go_wp2
     go_ret
     exact ⟨rfl,rfl⟩
   · rw [j0 (fun h=>h2 h.2)]
     go_enter Tryz.func244,Tryz.ntmps244
     go_wp2
     go_ret
     exact ⟨rfl,rfl⟩
 · rw [j0 (fun h=>h1 h.1)]
   go_enter Tryz.func244,Tryz.ntmps244
   go_wp2
   go_ret
   exact ⟨rfl,rfl⟩
theorem jQ (x:Int) (w:World):Calls Tryz.prog 218 #[.int .i64 x] w fun e w'=>e=.returned (.bool (inB 1 1073741789 x))∧w=w':=by
 by_cases h1:1≤x
 · by_cases h2:x<1073741789
   · rw [fO h1 h2]
     go_enter Tryz.func218,Tryz.ntmps218
     go_wp2
     go_ret
     exact ⟨rfl,rfl⟩
   · rw [j0 (fun h=>h2 h.2)]
     go_enter Tryz.func218,Tryz.ntmps218
     go_wp2
     go_ret
     exact ⟨rfl,rfl⟩
 · rw [j0 (fun h=>h1 h.1)]
   go_enter Tryz.func218,Tryz.ntmps218
   go_wp2
   go_ret
   exact ⟨rfl,rfl⟩
theorem fK (x:Int) (w:World):Calls Tryz.prog 249 #[.int .i64 x] w fun e w'=>e=.returned (.bool (inB 0 1073741789 x))∧w=w':=by
 by_cases h1:0≤x
 · by_cases h2:x<1073741789
   · rw [fO h1 h2]
     go_enter Tryz.func249,Tryz.ntmps249
     go_wp2
     go_ret
     exact ⟨rfl,rfl⟩
   · rw [j0 (fun h=>h2 h.2)]
     go_enter Tryz.func249,Tryz.ntmps249
     go_wp2
     go_ret
     exact ⟨rfl,rfl⟩
 · rw [j0 (fun h=>h1 h.1)]
   go_enter Tryz.func249,Tryz.ntmps249
   go_wp2
   go_ret
   exact ⟨rfl,rfl⟩
theorem iH (x:Int) (w:World):Calls Tryz.prog 228 #[.int .i64 x] w fun e w'=>e=.returned (.bool (inB 0 1073741789 x))∧w=w':=by
 by_cases h1:0≤x
 · by_cases h2:x<1073741789
   · rw [fO h1 h2]
     go_enter Tryz.func228,Tryz.ntmps228
     go_wp2
     go_ret
     exact ⟨rfl,rfl⟩
   · rw [j0 (fun h=>h2 h.2)]
     go_enter Tryz.func228,Tryz.ntmps228
     go_wp2
     go_ret
     exact ⟨rfl,rfl⟩
 · rw [j0 (fun h=>h1 h.1)]
   go_enter Tryz.func228,Tryz.ntmps228
   go_wp2
   go_ret
   exact ⟨rfl,rfl⟩
theorem xF (x:Int) (h:inB 1 2147483579 x=true) (h1:x≠1):cH x=(pw x 1073741789 == 1):=by
 obtain ⟨a,b⟩:=dH h
 unfold cH
 rw [decide_eq_true (show 0<x by omega),decide_eq_true b]
 simp [h1]
theorem oR (x:Int) (h:inB 1 2147483579 x=false):cH x=false:=by
 have:=H9 h
 unfold cH
 by_cases a:0<x
 · have b:¬ x<2147483579:=by omega
   simp [b]
 · simp [a]
theorem u6:cH 1=false:=by simp [cH]
theorem qT {x:Int} (h:cH x=true):1≤x∧x<2147483579:=by
 cases hb:inB 1 2147483579 x with
 | true=>exact dH hb
 | false=>rw [oR x hb] at h;cases h
theorem fT (x:Int) (w:World):Calls Tryz.prog 240 #[.int .i64 x] w fun e w'=>e=.returned (.bool (cH x))∧w=w':=by
 by_cases h:inB 1 2147483579 x=true
 · obtain ⟨h0,h1⟩:=dH h
   by_cases hx:x=1
   · subst hx
     rw [u6]
     go_enter Tryz.func240,Tryz.ntmps240
     go_wp2_with (go_at_call 265;refine (eS _ _).mono ?_;rw [h];rintro e w' ⟨rfl,rfl⟩)
     go_ret
     exact ⟨rfl,rfl⟩
   · rw [xF x h hx]
     have h1':(x != 1)=true:=by simp [hx]
     go_enter Tryz.func240,Tryz.ntmps240
     go_wp2_with (first
      | (go_at_call 265;refine (eS _ _).mono ?_;rw [h];rintro e w' ⟨rfl,rfl⟩)
      | (go_at_call 261;refine (xE _ _ _ (by omega) (by omega) (by omega) (by omega)).mono ?_;rintro e w' ⟨rfl,rfl⟩))
     go_ret
     exact ⟨rfl,rfl⟩
 · have h':=not_true h
   rw [oR x h']
   go_enter Tryz.func240,Tryz.ntmps240
   go_wp2_with (go_at_call 265;refine (eS _ _).mono ?_;rw [h'];rintro e w' ⟨rfl,rfl⟩)
   go_ret
   exact ⟨rfl,rfl⟩
theorem dX (x:Int) (w:World):Calls Tryz.prog 184 #[.int .i64 x] w fun e w'=>e=.returned (.bool (cH x))∧w=w':=by
 by_cases h:inB 1 2147483579 x=true
 · obtain ⟨h0,h1⟩:=dH h
   by_cases hx:x=1
   · subst hx
     rw [u6]
     go_enter Tryz.func184,Tryz.ntmps184
     go_wp2_with (go_at_call 244;refine (jP _ _).mono ?_;rw [h];rintro e w' ⟨rfl,rfl⟩)
     go_ret
     exact ⟨rfl,rfl⟩
   · rw [xF x h hx]
     have h1':(x != 1)=true:=by simp [hx]
     go_enter Tryz.func184,Tryz.ntmps184
     go_wp2_with (first
      | (go_at_call 244;refine (jP _ _).mono ?_;rw [h];rintro e w' ⟨rfl,rfl⟩)
      | (go_at_call 224;refine (jO _ _ _ (by omega) (by omega) (by omega) (by omega)).mono ?_;rintro e w' ⟨rfl,rfl⟩))
     go_ret
     exact ⟨rfl,rfl⟩
 · have h':=not_true h
   rw [oR x h']
   go_enter Tryz.func184,Tryz.ntmps184
   go_wp2_with (go_at_call 244;refine (jP _ _).mono ?_;rw [h'];rintro e w' ⟨rfl,rfl⟩)
   go_ret
   exact ⟨rfl,rfl⟩
theorem wH (x:Int) (w:World) (h:inB 1 1073741789 x=true):Calls Tryz.prog 200 #[.int .i64 x] w fun e w'=>e=.returned (.tuple #[.int .i64 (pw 4 x),.int .i64 0])∧w=w':=by
 obtain ⟨h0,h1⟩:=dH h
 go_enter Tryz.func200,Tryz.ntmps200
 go_wp2_with (first
  | (go_at_call 218;refine (jQ _ _).mono ?_;rw [h];rintro e w' ⟨rfl,rfl⟩)
  | (go_at_call 224;refine (jO _ _ _ (by omega) (by omega) (by omega) (by omega)).mono ?_;rintro e w' ⟨rfl,rfl⟩))
 go_ret2
 exact ⟨rfl,rfl⟩
theorem u7 (x k:Int) (w:World) (h:inB 1 2147483579 x=true) (k0:0≤k) (k1:k≤1073741789):Calls Tryz.prog 217 #[.int .i64 x,.int .i64 k] w fun e w'=>e=.returned (.tuple #[.int .i64 (pw x k),.int .i64 0])∧w=w':=by
 obtain ⟨h0,h1⟩:=dH h
 go_enter Tryz.func217,Tryz.ntmps217
 go_wp2_with (first
  | (go_at_call 265;refine (eS _ _).mono ?_;rw [h];rintro e w' ⟨rfl,rfl⟩)
  | (go_at_call 261;refine (xE _ _ _ (by omega) (by omega) (by omega) (by omega)).mono ?_;rintro e w' ⟨rfl,rfl⟩))
 go_ret2
 exact ⟨rfl,rfl⟩
theorem yG (x y:Int) (w:World) (h:inB 1 2147483579 x=true) (hy:inB 1 2147483579 y=true):Calls Tryz.prog 250 #[.int .i64 x,.int .i64 y] w fun e w'=>e=.returned (.tuple #[.int .i64 (x*y % 2147483579),.int .i64 0])∧w=w':=by
 obtain ⟨h0,h1⟩:=dH h
 obtain ⟨h2,h3⟩:=dH hy
 obtain ⟨m0,m1⟩:=oQ (by omega) h1 (by omega) h3
 go_enter Tryz.func250,Tryz.ntmps250
 go_wp2_with fail
 refine (eS _ _).mono ?_
 rw [h]
 rintro e w' ⟨rfl,rfl⟩
 go_wp2_with fail
 refine (eS _ _).mono ?_
 rw [hy]
 rintro e w' ⟨rfl,rfl⟩
 go_wp2_with fail
 go_ret2
 exact ⟨rfl,rfl⟩
def hF (x:Int):Int:=1+x % 1073741788
theorem FV (x:Int):1≤hF x∧hF x<1073741789:=by unfold hF;omega
theorem FW (x:Int):inB 1 1073741789 (hF x)=true:=fO (FV x).1 (FV x).2
def dS (x m:Int):Int:=if m<1 then 0 else x % m
theorem u9 {x m:Int} (h:1≤m):dS x m=x % m:=if_neg (by omega)
theorem iL {x m:Int} (h:1≤m):0≤dS x m∧dS x m<m:=by rw [u9 h];exact ⟨Int.emod_nonneg _ (by omega),Int.emod_lt_of_pos _ (by omega)⟩
theorem O7 {x m:Int} (h:1≤m):-m<x.tmod m∧x.tmod m<m:=by
 have h1:=Int.tmod_lt_of_pos x (show 0<m by omega)
 have h2:=Int.tmod_lt_of_pos (-x) (show 0<m by omega)
 rw [Int.neg_tmod] at h2
 omega
theorem yH {x m:Int} (h:1≤m):(x.tmod m+m) % m=x % m:=by
 rw [Int.add_emod_right]
 have e:=Int.tmod_add_mul_tdiv x m
 conv=>rhs;rw [← e]
 rw [Int.add_mul_emod_self_left]
theorem gM (x m:Int) (w:World) (x0:-9223372036854775808≤x) (x1:x<9223372036854775808) (hm:m≤4611686018427387904):Calls Tryz.prog 30 #[.int .i64 x,.int .i64 m] w fun e w'=>e=.returned (.int .i64 (dS x m))∧w=w':=by
 by_cases h:m<1
 · rw [dS,if_pos h]
   go_enter Tryz.func30,Tryz.ntmps30
   go_wp2
   go_ret
   exact ⟨rfl,rfl⟩
 · have h1:1≤m:=by omega
   rw [u9 h1]
   by_cases hx:0≤x
   · have q0:=Int.emod_nonneg x (show m≠0 by omega)
     have q1:=Int.emod_lt_of_pos x (show 0<m by omega)
     have H:=UP (show (x % m+m) % m=x % m by rw [Int.add_emod_right,Int.emod_emod])
     go_enter Tryz.func30,Tryz.ntmps30
     go_wp2
     go_ret
     exact ⟨by rw [← H.out];rfl,rfl⟩
   · obtain ⟨q0,q1⟩:=O7 (x:=x) h1
     have H:=UP (show x.tmod m % m=x % m by have:=yH (x:=x) h1;rwa [Int.add_emod_right] at this)
     go_enter Tryz.func30,Tryz.ntmps30
     go_wp2
     go_ret
     exact ⟨by rw [← H.out];rfl,rfl⟩
theorem I0 (x:Int):1+dS x 1073741788=hF x:=by rw [u9 (by omega)];rfl
theorem kF (x:Int) (w:World) (x0:-9223372036854775808≤x) (x1:x<9223372036854775808):Calls Tryz.prog 128 #[.int .i64 x] w fun e w'=>e=.returned (.tuple #[.int .i64 (hF x),.int .i64 (pw 4 (hF x))])∧w=w':=by
 obtain ⟨b0,b1⟩:=iL (x:=x) (m:=1073741788) (by omega)
 have H:=UP (I0 x)
 go_enter Tryz.func128,Tryz.ntmps128
 go_wp2_with fail
 refine (gM _ _ _ x0 x1 (by omega)).mono ?_
 rintro e w' ⟨rfl,rfl⟩
 go_wp2_with fail
 rw [H.out]
 refine (wH _ _ (FW x)).mono ?_
 rintro e w' ⟨rfl,rfl⟩
 go_wp2_with fail
 go_ret2
 exact ⟨rfl,rfl⟩
end Go.Proofs.YtkjplpmogfmhkaaGreatDoor
