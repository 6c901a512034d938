/- Parts Gr Gs Ml of the proof. -/
import Derived.Test.YtkjplpmogfmhkaaGreatDoorHaf
import Derived.Test.YtkjplpmogfmhkaaGreatDoorHae
import Derived.Test.YtkjplpmogfmhkaaGreatDoorHai
namespace Go.Proofs.YtkjplpmogfmhkaaGreatDoor
open Go.RowKit
set_option linter.unusedVariables false
set_option maxRecDepth 100000
set_option maxHeartbeats 400000 in
theorem jT (x k:Int) (w:World) (h0:0<=x) (h1:x<2147483579) (k0:0<=k) (k1:k<9223372036854775808) :
 Calls Tryz.prog 224 #[.int .i64 x,.int .i64 k] w fun e w'=>e=.returned (.int .i64 (pw x k))/\w=w':=by
 have hs:=uY h0 h1 k0
 obtain ⟨x0,hx0⟩:∃ y,y=x:=⟨_,rfl⟩
 obtain ⟨c0,hc0⟩:∃ y,y=k:=⟨_,rfl⟩
 rw [show pw x k=pw x0 c0 by rw [hx0,hc0]]
 rw [show tV x k 1 x k=tV x0 c0 1 x k by rw [hx0,hc0]] at hs
 clear hx0 hc0
 go_enter Tryz.func224,Tryz.ntmps224
 go_wp2
 go_loop [0,1,5] (fun x k p=>∃ x' k' p':Int,x=.int .i64 x'/\k=.int .i64 k'/\p=.int .i64 p'/\k'<9223372036854775808/\tV x0 c0 p' x' k') (fun _ k _=>(intOf k).toNat)
 case atStart=>exact ⟨_,_,_,rfl,rfl,rfl,k1,hs⟩
 case round =>
  obtain ⟨a,b,p,rfl,rfl,rfl,hb,hp⟩:=hrel
  have hp0:=hp
  obtain ⟨q1,q2,q3,q4,q5,_⟩:=hp0
  obtain ⟨m2,m1⟩:=pG q1 q2 q3 q4
  obtain ⟨m4,m3⟩:=pG q3 q4 q3 q4
  have HP:=ZH hp
  clear hp hs h0 h1 k0 k1
  by_cases hb0:0<b
  · by_cases hodd:b % 2=1
    · have t1:(b % 2 == 1)=true:=by simp [hodd]
      have HO:=ZH hodd
      clear hodd
      go_wp2
      go_round
      case rel=>exact ⟨_,_,_,rfl,rfl,rfl,by omega,CV HP.out HO.out⟩
      case measure=>simp [intOf];omega
    · have t1:(b % 2 == 1)=false:=by simp [hodd]
      have hev:b % 2=0:=by omega
      have HO:=ZH hev
      clear hodd hev
      go_wp2
      go_round
      case rel=>exact ⟨_,_,_,rfl,rfl,rfl,by omega,yP HP.out HO.out⟩
      case measure=>simp [intOf];omega
  · have HB:=ZH (CW HP.out (by omega))
    go_wp2
    go_ret
    exact ⟨by rw [<- HB.out];rfl,rfl⟩
set_option maxHeartbeats 400000 in
theorem yW (x k:Int) (w:World) (h0:0<=x) (h1:x<2147483579) (k0:0<=k) (k1:k<9223372036854775808) :
 Calls Tryz.prog 261 #[.int .i64 x,.int .i64 k] w fun e w'=>e=.returned (.int .i64 (pw x k))/\w=w':=by
 have hs:=uY h0 h1 k0
 obtain ⟨x0,hx0⟩:∃ y,y=x:=⟨_,rfl⟩
 rw [show pw x k=pw x0 k by rw [hx0]]
 rw [show tV x k 1 x k=tV x0 k 1 x k by rw [hx0]] at hs
 clear hx0
 go_enter Tryz.func261,Tryz.ntmps261
 go_wp2_with (go_at_call 276;refine (NV _ _ (by omega) (by omega)).mono ?_;rintro e w' ⟨rfl,rfl⟩)
 have hlen:=LG k.toNat
 obtain ⟨m,hm⟩:∃ m,m=Lib.bitLen k.toNat:=⟨_,rfl⟩
 rw [<- hm] at hlen
 rw [<- hm]
 have HM:=ZH hm
 have HS:=ZH hs
 clear hm hs
 go_loop [0,5,6,10] (fun x p _ i=>∃ (x' p':Int) (j:Nat),x=.int .i64 x'/\p=.int .i64 p'/\i=.int .i64 (j:Int)/\j<=m/\tV x0 k p' x' (k / 2 ^ j)) (fun _ _ _ i=>m - (intOf i).toNat)
 case atStart=>exact ⟨_,_,0,rfl,rfl,rfl,YK _,by simpa using HS.out⟩
 case round =>
  obtain ⟨a,p,j,rfl,rfl,rfl,hj,hp⟩:=hrel
  have HP:=ZH hp
  by_cases hlt:j<m
  · obtain ⟨q1,q2,q3,q4,q5,_⟩:=hp
    obtain ⟨m2,m1⟩:=pG q1 q2 q3 q4
    obtain ⟨m4,m3⟩:=pG q3 q4 q3 q4
    obtain ⟨d0,d1⟩:=FT k0 j
    have HH:=ZH (NR k k0 j)
    have ha:=RN d0 (by omega)
    by_cases hodd:(k / 2 ^ j) % 2=1
    · have t1:(bits .and .i64 (k / 2 ^ j) 1 == 1)=true:=by rw [ha,hodd];rfl
      have HO:=ZH (CV HP.out hodd)
      clear hodd ha d0 d1
      go_wp2
      go_round
      case rel=>exact ⟨_,_,j+1,rfl,rfl,by go_num,by omega,by rw [<- HH.out];exact HO.out⟩
      case measure=>simp [intOf];omega
    · have hev:(k / 2 ^ j) % 2=0:=by omega
      have t1:(bits .and .i64 (k / 2 ^ j) 1 == 1)=false:=by rw [ha,hev];rfl
      have HO:=ZH (yP HP.out hev)
      clear hodd hev ha d0 d1
      go_wp2
      go_round
      case rel=>exact ⟨_,_,j+1,rfl,rfl,by go_num,by omega,by rw [<- HH.out];exact HO.out⟩
      case measure=>simp [intOf];omega
  · obtain rfl:j=m:=by omega
    have HB:=ZH (CW HP.out (by rw [HM.out];exact FU k0 k1))
    clear hp
    go_wp2
    go_ret
    exact ⟨by rw [<- HB.out];rfl,rfl⟩
def inB (lo hi x:Int):Bool:=decide (lo<=x/\x<hi)
theorem dV {lo hi x:Int} (h:inB lo hi x=true):lo<=x/\x<hi:=of_decide_eq_true h
theorem fM {lo hi x:Int} (h0:lo<=x) (h1:x<hi):inB lo hi x=true:=decide_eq_true ⟨h0,h1⟩
theorem j8 {lo hi x:Int} (h:¬ (lo<=x/\x<hi)):inB lo hi x=false:=decide_eq_false h
theorem LQ {lo hi x:Int} (h:inB lo hi x=false):¬ (lo<=x/\x<hi):=of_decide_eq_false h
theorem not_true {b:Bool} (h:¬ b=true):b=false:=by simpa using h
theorem eO (x:Int) (w:World):Calls Tryz.prog 265 #[.int .i64 x] w fun e w'=>e=.returned (.bool (inB 1 2147483579 x))/\w=w':=by
 by_cases h1:1<=x
 · by_cases h2:x<2147483579
   · rw [fM h1 h2]
     go_enter Tryz.func265,Tryz.ntmps265
     go_wp2
     go_ret
     exact ⟨rfl,rfl⟩
   · rw [j8 (fun h=>h2 h.2)]
     go_enter Tryz.func265,Tryz.ntmps265
     go_wp2
     go_ret
     exact ⟨rfl,rfl⟩
 · rw [j8 (fun h=>h1 h.1)]
   go_enter Tryz.func265,Tryz.ntmps265
   go_wp2
   go_ret
   exact ⟨rfl,rfl⟩
theorem jU (x:Int) (w:World):Calls Tryz.prog 244 #[.int .i64 x] w fun e w'=>e=.returned (.bool (inB 1 2147483579 x))/\w=w':=by
 by_cases h1:1<=x
 · by_cases h2:x<2147483579
   · rw [fM h1 h2]
     go_enter Tryz.func244,Tryz.ntmps244
     go_wp2
     go_ret
     exact ⟨rfl,rfl⟩
   · rw [j8 (fun h=>h2 h.2)]
     go_enter Tryz.func244,Tryz.ntmps244
     go_wp2
     go_ret
     exact ⟨rfl,rfl⟩
 · rw [j8 (fun h=>h1 h.1)]
   go_enter Tryz.func244,Tryz.ntmps244
   go_wp2
   go_ret
   exact ⟨rfl,rfl⟩
theorem jV (x:Int) (w:World):Calls Tryz.prog 218 #[.int .i64 x] w fun e w'=>e=.returned (.bool (inB 1 1073741789 x))/\w=w':=by
 by_cases h1:1<=x
 · by_cases h2:x<1073741789
   · rw [fM h1 h2]
     go_enter Tryz.func218,Tryz.ntmps218
     go_wp2
     go_ret
     exact ⟨rfl,rfl⟩
   · rw [j8 (fun h=>h2 h.2)]
     go_enter Tryz.func218,Tryz.ntmps218
     go_wp2
     go_ret
     exact ⟨rfl,rfl⟩
 · rw [j8 (fun h=>h1 h.1)]
   go_enter Tryz.func218,Tryz.ntmps218
   go_wp2
   go_ret
   exact ⟨rfl,rfl⟩
theorem gX (x:Int) (w:World):Calls Tryz.prog 249 #[.int .i64 x] w fun e w'=>e=.returned (.bool (inB 0 1073741789 x))/\w=w':=by
 by_cases h1:0<=x
 · by_cases h2:x<1073741789
   · rw [fM h1 h2]
     go_enter Tryz.func249,Tryz.ntmps249
     go_wp2
     go_ret
     exact ⟨rfl,rfl⟩
   · rw [j8 (fun h=>h2 h.2)]
     go_enter Tryz.func249,Tryz.ntmps249
     go_wp2
     go_ret
     exact ⟨rfl,rfl⟩
 · rw [j8 (fun h=>h1 h.1)]
   go_enter Tryz.func249,Tryz.ntmps249
   go_wp2
   go_ret
   exact ⟨rfl,rfl⟩
theorem iJ (x:Int) (w:World):Calls Tryz.prog 228 #[.int .i64 x] w fun e w'=>e=.returned (.bool (inB 0 1073741789 x))/\w=w':=by
 by_cases h1:0<=x
 · by_cases h2:x<1073741789
   · rw [fM h1 h2]
     go_enter Tryz.func228,Tryz.ntmps228
     go_wp2
     go_ret
     exact ⟨rfl,rfl⟩
   · rw [j8 (fun h=>h2 h.2)]
     go_enter Tryz.func228,Tryz.ntmps228
     go_wp2
     go_ret
     exact ⟨rfl,rfl⟩
 · rw [j8 (fun h=>h1 h.1)]
   go_enter Tryz.func228,Tryz.ntmps228
   go_wp2
   go_ret
   exact ⟨rfl,rfl⟩
theorem yX (x:Int) (h:inB 1 2147483579 x=true) (h1:x≠1):cJ x=(pw x 1073741789 == 1):=by
 obtain ⟨a,b⟩:=dV h
 unfold cJ
 rw [decide_eq_true (show 0<x by omega),decide_eq_true b]
 simp [h1]
theorem pH (x:Int) (h:inB 1 2147483579 x=false):cJ x=false:=by
 have:=LQ h
 unfold cJ
 by_cases a:0<x
 · have b:¬ x<2147483579:=by omega
   simp [b]
 · simp [a]
theorem vF:cJ 1=false:=by simp [cJ]
theorem rV {x:Int} (h:cJ x=true):1<=x/\x<2147483579:=by
 cases hb:inB 1 2147483579 x with
 | true=>exact dV hb
 | false=>rw [pH x hb] at h;cases h
theorem fR (x:Int) (w:World):Calls Tryz.prog 240 #[.int .i64 x] w fun e w'=>e=.returned (.bool (cJ x))/\w=w':=by
 by_cases h:inB 1 2147483579 x=true
 · obtain ⟨h0,h1⟩:=dV h
   by_cases hx:x=1
   · subst hx
     rw [vF]
     go_enter Tryz.func240,Tryz.ntmps240
     go_wp2_with (go_at_call 265;refine (eO _ _).mono ?_;rw [h];rintro e w' ⟨rfl,rfl⟩)
     go_ret
     exact ⟨rfl,rfl⟩
   · rw [yX x h hx]
     have h1':(x != 1)=true:=by simp [hx]
     go_enter Tryz.func240,Tryz.ntmps240
     go_wp2_with (first
      | (go_at_call 265;refine (eO _ _).mono ?_;rw [h];rintro e w' ⟨rfl,rfl⟩)
      | (go_at_call 261;refine (yW _ _ _ (by omega) (by omega) (by omega) (by omega)).mono ?_;rintro e w' ⟨rfl,rfl⟩))
     go_ret
     exact ⟨rfl,rfl⟩
 · have h':=not_true h
   rw [pH x h']
   go_enter Tryz.func240,Tryz.ntmps240
   go_wp2_with (go_at_call 265;refine (eO _ _).mono ?_;rw [h'];rintro e w' ⟨rfl,rfl⟩)
   go_ret
   exact ⟨rfl,rfl⟩
theorem eG (x:Int) (w:World):Calls Tryz.prog 184 #[.int .i64 x] w fun e w'=>e=.returned (.bool (cJ x))/\w=w':=by
 by_cases h:inB 1 2147483579 x=true
 · obtain ⟨h0,h1⟩:=dV h
   by_cases hx:x=1
   · subst hx
     rw [vF]
     go_enter Tryz.func184,Tryz.ntmps184
     go_wp2_with (go_at_call 244;refine (jU _ _).mono ?_;rw [h];rintro e w' ⟨rfl,rfl⟩)
     go_ret
     exact ⟨rfl,rfl⟩
   · rw [yX x h hx]
     have h1':(x != 1)=true:=by simp [hx]
     go_enter Tryz.func184,Tryz.ntmps184
     go_wp2_with (first
      | (go_at_call 244;refine (jU _ _).mono ?_;rw [h];rintro e w' ⟨rfl,rfl⟩)
      | (go_at_call 224;refine (jT _ _ _ (by omega) (by omega) (by omega) (by omega)).mono ?_;rintro e w' ⟨rfl,rfl⟩))
     go_ret
     exact ⟨rfl,rfl⟩
 · have h':=not_true h
   rw [pH x h']
   go_enter Tryz.func184,Tryz.ntmps184
   go_wp2_with (go_at_call 244;refine (jU _ _).mono ?_;rw [h'];rintro e w' ⟨rfl,rfl⟩)
   go_ret
   exact ⟨rfl,rfl⟩
theorem xS (x:Int) (w:World) (h:inB 1 1073741789 x=true):Calls Tryz.prog 200 #[.int .i64 x] w fun e w'=>e=.returned (.tuple #[.int .i64 (pw 4 x),.int .i64 0])/\w=w':=by
 obtain ⟨h0,h1⟩:=dV h
 go_enter Tryz.func200,Tryz.ntmps200
 go_wp2_with (first
  | (go_at_call 218;refine (jV _ _).mono ?_;rw [h];rintro e w' ⟨rfl,rfl⟩)
  | (go_at_call 224;refine (jT _ _ _ (by omega) (by omega) (by omega) (by omega)).mono ?_;rintro e w' ⟨rfl,rfl⟩))
 go_ret2
 exact ⟨rfl,rfl⟩
theorem vG (x k:Int) (w:World) (h:inB 1 2147483579 x=true) (k0:0<=k) (k1:k<=1073741789):Calls Tryz.prog 217 #[.int .i64 x,.int .i64 k] w fun e w'=>e=.returned (.tuple #[.int .i64 (pw x k),.int .i64 0])/\w=w':=by
 obtain ⟨h0,h1⟩:=dV h
 go_enter Tryz.func217,Tryz.ntmps217
 go_wp2_with (first
  | (go_at_call 265;refine (eO _ _).mono ?_;rw [h];rintro e w' ⟨rfl,rfl⟩)
  | (go_at_call 261;refine (yW _ _ _ (by omega) (by omega) (by omega) (by omega)).mono ?_;rintro e w' ⟨rfl,rfl⟩))
 go_ret2
 exact ⟨rfl,rfl⟩
theorem AH (x y:Int) (w:World) (h:inB 1 2147483579 x=true) (hy:inB 1 2147483579 y=true):Calls Tryz.prog 250 #[.int .i64 x,.int .i64 y] w fun e w'=>e=.returned (.tuple #[.int .i64 (x*y % 2147483579),.int .i64 0])/\w=w':=by
 obtain ⟨h0,h1⟩:=dV h
 obtain ⟨h2,h3⟩:=dV hy
 obtain ⟨m0,m1⟩:=pG (by omega) h1 (by omega) h3
 go_enter Tryz.func250,Tryz.ntmps250
 go_wp2_with fail
 refine (eO _ _).mono ?_
 rw [h]
 rintro e w' ⟨rfl,rfl⟩
 go_wp2_with fail
 refine (eO _ _).mono ?_
 rw [hy]
 rintro e w' ⟨rfl,rfl⟩
 go_wp2_with fail
 go_ret2
 exact ⟨rfl,rfl⟩
def iD (x:Int):Int:=1+x % 1073741788
theorem JT (x:Int):1<=iD x/\iD x<1073741789:=by unfold iD;omega
theorem JU (x:Int):inB 1 1073741789 (iD x)=true:=fM (JT x).1 (JT x).2
def fL (x m:Int):Int:=if m<1 then 0 else x % m
theorem vH {x m:Int} (h:1<=m):fL x m=x % m:=if_neg (by omega)
theorem iO {x m:Int} (h:1<=m):0<=fL x m/\fL x m<m:=by rw [vH h];exact ⟨Int.emod_nonneg _ (by omega),Int.emod_lt_of_pos _ (by omega)⟩
theorem RU {x m:Int} (h:1<=m):-m<x.tmod m/\x.tmod m<m:=by
 have h1:=Int.tmod_lt_of_pos x (show 0<m by omega)
 have h2:=Int.tmod_lt_of_pos (-x) (show 0<m by omega)
 rw [Int.neg_tmod] at h2
 omega
theorem AI {x m:Int} (h:1<=m):(x.tmod m+m) % m=x % m:=by
 rw [Int.add_emod_right]
 have e:=Int.tmod_add_mul_tdiv x m
 conv=>rhs;rw [<- e]
 rw [Int.add_mul_emod_self_left]
theorem iP (x m:Int) (w:World) (x0:-9223372036854775808<=x) (x1:x<9223372036854775808) (hm:m<=4611686018427387904):Calls Tryz.prog 30 #[.int .i64 x,.int .i64 m] w fun e w'=>e=.returned (.int .i64 (fL x m))/\w=w':=by
 by_cases h:m<1
 · rw [fL,if_pos h]
   go_enter Tryz.func30,Tryz.ntmps30
   go_wp2
   go_ret
   exact ⟨rfl,rfl⟩
 · have h1:1<=m:=by omega
   rw [vH h1]
   by_cases hx:0<=x
   · have q0:=Int.emod_nonneg x (show m≠0 by omega)
     have q1:=Int.emod_lt_of_pos x (show 0<m by omega)
     have H:=ZH (show (x % m+m) % m=x % m by rw [Int.add_emod_right,Int.emod_emod])
     go_enter Tryz.func30,Tryz.ntmps30
     go_wp2
     go_ret
     exact ⟨by rw [<- H.out];rfl,rfl⟩
   · obtain ⟨q0,q1⟩:=RU (x:=x) h1
     have H:=ZH (show x.tmod m % m=x % m by have:=AI (x:=x) h1;rwa [Int.add_emod_right] at this)
     go_enter Tryz.func30,Tryz.ntmps30
     go_wp2
     go_ret
     exact ⟨by rw [<- H.out];rfl,rfl⟩
theorem LS (x:Int):1+fL x 1073741788=iD x:=by rw [vH (by omega)];rfl
theorem mR (x:Int) (w:World) (x0:-9223372036854775808<=x) (x1:x<9223372036854775808):Calls Tryz.prog 128 #[.int .i64 x] w fun e w'=>e=.returned (.tuple #[.int .i64 (iD x),.int .i64 (pw 4 (iD x))])/\w=w':=by
 obtain ⟨b0,b1⟩:=iO (x:=x) (m:=1073741788) (by omega)
 have H:=ZH (LS x)
 go_enter Tryz.func128,Tryz.ntmps128
 go_wp2_with fail
 refine (iP _ _ _ x0 x1 (by omega)).mono ?_
 rintro e w' ⟨rfl,rfl⟩
 go_wp2_with fail
 rw [H.out]
 refine (xS _ _ (JU x)).mono ?_
 rintro e w' ⟨rfl,rfl⟩
 go_wp2_with fail
 go_ret2
 exact ⟨rfl,rfl⟩
end Go.Proofs.YtkjplpmogfmhkaaGreatDoor
