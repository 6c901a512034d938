/- Parts Kx No of the proof. -/
import Derived.Test.YtkjplpmogfmhkaaGreatDoorHag
import Derived.Test.YtkjplpmogfmhkaaGreatDoorHab
import Derived.Lib.SlBytesConst
namespace Go.Proofs.YtkjplpmogfmhkaaGreatDoor
open Go.RowKit
set_option linter.unusedVariables false
theorem aB (w:World) (o:Obj):(w.alloc o).heap[w.heap.size]?=some o:=by show (w.heap.push o)[w.heap.size]?=_;simp
theorem Rd.litM (w:World) (cs:Array Value) (e:TypeId) (fr:Nat × Nat) (n:Nat) (hn:n=cs.size) (hm:n<=maxLen):Rd (w.alloc (.cells cs e fr)) (.slice (some ⟨w.heap.size,0,none⟩) n n) cs.toList:=by
 refine ⟨_,n,n,rfl,by simpa using hn,YF _,hm,fun _=>⟨_,0,rfl,fun j u hu=>?_⟩⟩
 rw [YR,cell_of_row _ _ j cs e fr (aB w _)]
 simpa using hu
theorem Rd.take {w:World}{A:Option Addr}{n c:Nat}{l:List UInt8} (h:Rd w (.slice A n c) (bvs l)) (k:Nat) (hk:k<=n):Rd w (.slice A k c) (bvs (l.take k)):=by
 obtain ⟨A',n',c',e,hn,hnc,hcm,hc⟩:=h
 injection e with e1 e2 e3
 subst e1 e2 e3
 rw [bK] at hn
 refine ⟨_,k,_,rfl,by rw [bK,YY];omega,by omega,hcm,fun h0=>?_⟩
 obtain ⟨b,o,rfl,hcell⟩:=hc (by omega)
 refine ⟨b,o,rfl,fun j u hu=>hcell j u ?_⟩
 simp only [bvs,List.getElem?_map,List.getElem?_take] at hu ⊢
 split at hu
 · exact hu
 · cases hu
theorem Rd.caps {w:World}{A:Option Addr}{n c:Nat}{xs:List Value} (h:Rd w (.slice A n c) xs):n<=c/\c<=maxLen:=by
 obtain ⟨A',n',c',e,hn,hnc,hcm,hc⟩:=h
 injection e with e1 e2 e3
 subst e1 e2 e3
 exact ⟨hnc,hcm⟩
theorem Own.oneC (w:World) (x:UInt8) (z:Int) (h:(x.toNat:Int)=z):Own (w.alloc (.cells #[.int .u8 z] 5)) w.heap.size 5 (.slice (some ⟨w.heap.size,0,none⟩) 1 1) (bvs [x]):=by subst h;exact Own.lit w _ _ 1 rfl (by unfold maxLen;omega)
def GB (l:List UInt8):aE:=fun v w=>∃ A n c,v=.slice A n c/\Hid (n=l.length)/\Rd w (.slice A n c) (bvs l)
theorem yT (l:List UInt8):cZ (GB l):=fun v w w' hb ⟨A,n,c,h1,h2,h3⟩=>⟨A,n,c,h1,h2,h3.ext hb⟩
theorem gC.gb {w w':World}{l:List UInt8}{e:Ending} (h:gC w l e w'):∃ v,e=.returned v/\Ext w w'/\GB l v w':=by
 obtain ⟨A,n,c,h1,h2,h3,h4⟩:=h
 exact ⟨_,h1,h4,A,n,c,rfl,h2,h3.rd⟩
def CZ (w:World) (l:List UInt8) (k:Int) (e:Ending) (w':World):Prop :=
 ∃ A n c,e=.returned (.tuple #[.slice A n c,.int .i64 k])/\Hid (n=l.length)/\Rd w' (.slice A n c) (bvs l)/\Ext w w'
def yU (w:World) (l:List UInt8) (k:Int) (e:Ending) (w':World):Prop :=
 ∃ A n c,e=.returned (.tuple #[.slice A n c,.int .i64 k])/\Hid (n=l.length)/\Own w' w.heap.size 5 (.slice A n c) (bvs l)/\Ext w w'
theorem FZ {b:Value}{l:List UInt8} (w:World) (hb:Rd w b (bvs l)) (h7:l.length<=7) :
 Calls Tryz.prog 262 #[b] w fun e w'=>e=.returned (.tuple #[.int .i64 (num l),.int .i64 0])/\w=w':=by
 obtain ⟨A,n,c,rfl,hn,hnc,hcm,hA⟩:=hb.bytes
 subst hn
 unfold maxLen at hcm
 clear hb
 go_enter Tryz.func262,Tryz.ntmps262
 go_wp2
 go_loop [4,6,12] (fun v _ i=>∃ k:Nat,k<=l.length/\i=.int .i64 (k:Int)/\v=.int .i64 (num (l.take k))) (fun _ _ i=>l.length - (intOf i).toNat)
 case atStart=>exact ⟨0,YK _,rfl,rfl⟩
 case round =>
  obtain ⟨k,hk,rfl,rfl⟩:=hrel
  by_cases hlt:k<l.length
  · obtain ⟨bb,oo,rfl,hbb,hc⟩:=hA (by omega)
    have hcell:=hc k hlt
    have q1:=dH l k
    have q2:=dI l k
    have q3:=(AC l k (by omega) h7).1
    have q4:=(AC l k (by omega) h7).2
    have HO:=ZH (UY q3 q4 q1 q2)
    have HS:=ZH (CO hlt)
    clear hc hA
    go_wp2
    go_round
    case rel=>exact ⟨k+1,by omega,by go_num,by rw [HS.out,<- HO.out]⟩
    case measure=>simp [intOf];omega
  · obtain rfl:k=l.length:=by omega
    rw [List.take_length]
    clear hA
    go_wp2
    go_ret2
    exact ⟨rfl,rfl⟩
theorem xR {b:Value}{l:List UInt8} (w:World) (hb:Rd w b (bvs l)) (h7:l.length<=7) :
 Calls Tryz.prog 266 #[b] w fun e w'=>e=.returned (.tuple #[.int .i64 (num l),.int .i64 0])/\w=w':=by
 obtain ⟨A,n,c,rfl,hn,hnc,hcm,hA⟩:=hb.bytes
 subst hn
 unfold maxLen at hcm
 clear hb
 go_enter Tryz.func266,Tryz.ntmps266
 go_wp2
 go_loop [4,5] (fun v i=>∃ k:Nat,k<=l.length/\i=.int .i64 (k:Int)/\v=.int .i64 (num (l.take k))) (fun _ i=>l.length - (intOf i).toNat)
 case atStart=>exact ⟨0,YK _,rfl,rfl⟩
 case round =>
  obtain ⟨k,hk,rfl,rfl⟩:=hrel
  by_cases hlt:k<l.length
  · obtain ⟨bb,oo,rfl,hbb,hc⟩:=hA (by omega)
    have hcell:=hc k hlt
    have q1:=dH l k
    have q2:=dI l k
    have q3:=(AC l k (by omega) h7).1
    have q4:=(AC l k (by omega) h7).2
    have HS:=ZH (CO hlt)
    clear hc hA
    go_wp2
    go_round
    case rel=>exact ⟨k+1,by omega,by go_num,by rw [HS.out]⟩
    case measure=>simp [intOf];omega
  · obtain rfl:k=l.length:=by omega
    rw [List.take_length]
    clear hA
    go_wp2
    go_ret2
    exact ⟨rfl,rfl⟩
theorem XY:∀ w:World,(Instr.makeSlice 89 (.int .i64 4) (.int .i64 4)).run Tryz.prog w=.ok (.slice (some ⟨w.heap.size,0,none⟩) 4 4) (w.alloc (.cells #[.int .u8 0,.int .u8 0,.int .u8 0,.int .u8 0] 5)):=fun _=>by kernel_rfl
def LJ (x:Int):Nat->Array Value
 | 0=>#[.int .u8 0,.int .u8 0,.int .u8 0,.int .u8 0]
 | 1=>#[.int .u8 0,.int .u8 0,.int .u8 0,.int .u8 (x % 256)]
 | 2=>#[.int .u8 0,.int .u8 0,.int .u8 (x / 256 % 256),.int .u8 (x % 256)]
 | 3=>#[.int .u8 0,.int .u8 (x / 65536 % 256),.int .u8 (x / 256 % 256),.int .u8 (x % 256)]
 | _=>#[.int .u8 (x / 16777216),.int .u8 (x / 65536 % 256),.int .u8 (x / 256 % 256),.int .u8 (x % 256)]
set_option maxRecDepth 100000 in
set_option maxHeartbeats 400000 in
theorem D0 (x:Int) (w:World) (h0:0<=x) (h1:x<4294967296) :
 Calls Tryz.prog 251 #[.int .i64 x,.int .i64 4] w (yU w (be4 x) 0):=by
 have hz:(x / 4294967296 != 0)=false:=by simp;omega
 have hd:decide (x<0)=false:=by simp;omega
 have hmk:=XY
 go_enter Tryz.func251,Tryz.ntmps251
 go_wp2
 clear hmk
 go_loopw [7,26] (fun _ i wr=>∃ k:Nat,k<=4/\i=.int .i64 (k:Int)/\wr=w.alloc (.cells (LJ x k) 5)) (fun _ i _=>4 - (intOf i).toNat)
 case atStart=>exact ⟨0,by omega,rfl,rfl⟩
 case round =>
  obtain ⟨k,hk,rfl,rfl⟩:=hrel
  match k with
  | 0 =>
    unfold LJ
    go_wp2
    exact ⟨⟨1,by omega,rfl,rfl⟩,by simp [intOf]⟩
  | 1 =>
    unfold LJ
    go_wp2
    exact ⟨⟨2,by omega,rfl,rfl⟩,by simp [intOf]⟩
  | 2 =>
    unfold LJ
    go_wp2
    exact ⟨⟨3,by omega,rfl,rfl⟩,by simp [intOf]⟩
  | 3 =>
    unfold LJ
    go_wp2
    exact ⟨⟨4,by omega,rfl,rfl⟩,by simp [intOf]⟩
  | 4 =>
    unfold LJ
    go_wp2
    go_ret2
    refine ⟨_,_,_,rfl,(show _=_ from rfl),?_,(Below.refl _ _).alloc (YF _) _⟩
    rw [uE,show x / 16777216 % 256=x / 16777216 by omega]
    exact Own.lit w _ _ 4 rfl (by unfold maxLen;omega)
theorem sW {b:Value}{l:List UInt8} (m:Int) (w:World) (hb:Rd w b (bvs l)) (h7:7<=l.length) (hm:1<=m) :
 Calls Tryz.prog 219 #[b,.int .i64 m] w fun e w'=>e=.returned (.int .i64 (num (l.take 7) % m))/\w=w':=by
 have hb0:=hb
 obtain ⟨A,n,c,rfl,hn,hnc,hcm,hA⟩:=hb.bytes
 subst hn
 unfold maxLen at hcm
 clear hA hb
 have h7c:7<=c:=by omega
 have q1:=(uF (l:=l.take 7) (by rw [YY];omega)).1
 have q2:=(uF (l:=l.take 7) (by rw [YY];omega)).2
 go_enter Tryz.func219,Tryz.ntmps219
 go_wp2_with (go_at_call 266;refine (xR _ (hb0.take 7 h7) (by rw [YY];omega)).mono ?_;rintro e w' ⟨rfl,rfl⟩)
 go_ret
 exact ⟨rfl,rfl⟩
end Go.Proofs.YtkjplpmogfmhkaaGreatDoor
