/- Parts Ad of the proof. -/
import Derived.Test.YtkjplpmogfmhkaaGreatDoorHbc
namespace Go.Proofs.YtkjplpmogfmhkaaGreatDoor
open Go.RowKit
set_option linter.unusedVariables false
set_option maxRecDepth 100000
structure RtI (w wr:World) (s0 s1 s2 s3 s4:SlT) (L:List NC) (A:Option Addr) (c:Nat):Prop where
 ext:Ext w wr
 s:wr.heap[w.heap.size]?=some (.cells (aM s0 s1 s2 s3 s4) 75 (0,0))
 o:aJ wr (w.heap.size+1) 56 11 (.slice A L.length c) (aD L)
 sz:w.heap.size+1<=wr.heap.size
section
variable {w wr wx:World}{s0 s1 s2 s3 s4:SlT}{L L':List NC}{A A':Option Addr}{c c':Nat}
theorem RtI.tr (h:RtI w wr s0 s1 s2 s3 s4 L A c) (e:Ext wr wx):RtI w wx s0 s1 s2 s3 s4 L A c :=
 ⟨h.ext.tr e,(e.block _ (aA h.s)).trans h.s,h.o.ext e,YO h.sz e.size⟩
theorem RtI.app (h:RtI w wr s0 s1 s2 s3 s4 L A c) (e:Below (w.heap.size+1) wr wx) (o:aJ wx (w.heap.size+1) 56 11 (.slice A' L'.length c') (aD L')):RtI w wx s0 s1 s2 s3 s4 L' A' c' :=
 ⟨h.ext.trans (e.mono (Nat.le_succ _)),(e.block _ (Nat.lt_succ_self _)).trans h.s,o,YO h.sz e.size⟩
end
set_option maxHeartbeats 16000000 in
theorem BX (s0 s1 s2 s3 s4:SlT) (S:ST) (w:World) (h0:RdN w (slV s0) S.roots) (h2:RdX kM w (slV s2) S.ms) (hB:StB S):Calls Tryz.prog 58 #[bH s0 s1 s2 s3 s4] w (EF w (fB S)):=by
 obtain ⟨A0,n0,c0,hs0,hn0,hnc0,hcm0,hel0⟩:=RdN.at_ h0
 obtain ⟨A2,n2,c2,hs2,hn2,hnc2,hcm2,hel2⟩:=h2.at_
 obtain ⟨sA0,sn0,sc0⟩:=s0
 obtain ⟨sA2,sn2,sc2⟩:=s2
 unfold slV at hs0 hs2
 injection hs0 with e1 e2 e3
 injection hs2 with e4 e5 e6
 simp only at e1 e2 e3 e4 e5 e6
 subst e1 e2 e3 e4 e5 e6 hn0 hn2
 unfold maxLen at hcm0 hcm2
 obtain ⟨wz,hwz⟩:∃ wz,wz=w.alloc (.cells #[.slice sA0 S.roots.length sc0,.slice s1.1 s1.2.1 s1.2.2,.slice sA2 S.ms.length sc2,.slice s3.1 s3.2.1 s3.2.2,.slice s4.1 s4.2.1 s4.2.2] 75):=⟨_,rfl⟩
 have ez:Ext w wz:=by rw [hwz];exact (Below.refl _ _).alloc (YF _) _
 have Z0:Hid (RtI w wz (sA0,S.roots.length,sc0) s1 (sA2,S.ms.length,sc2) s3 s4 (eI [] (S.roots.take 0)) none 0):=ZH ⟨ez,by rw [hwz];exact aB w _,aJ.empty _ _ _ _ _,by rw [hwz];simp⟩
 have HE0:=ZH hel0
 have HE2:=ZH hel2
 have HLR:=ZH (L1 hB)
 have HMB:=ZH hB.m
 have hl0:S.roots.length<=10000:=hB.lr
 have HALL:=ZH (KZ S)
 have HAS:=ZH (fun (l:List NC) (c:NC) (W:World) (v:Value) (hv:RdN W v l)=>wO c W hv)
 clear hel0 hel2 h0 h2 hB ez
 unfold bH
 go_enter Tryz.func58,Tryz.ntmps58
 go_wp2_with fail
 rw [<- hwz]
 clear hwz
 go_loopw [3,4] (fun s3' s4' wr=>∃ (k:Nat) (A:Option Addr) (c:Nat),k<=S.roots.length/\s3'=.slice A (eI [] (S.roots.take k)).length c/\s4'=.int .i64 (k:Int)/\Hid (RtI w wr (sA0,S.roots.length,sc0) s1 (sA2,S.ms.length,sc2) s3 s4 (eI [] (S.roots.take k)) A c)) (fun _ s4' _=>S.roots.length - (intOf s4').toNat)
 case atStart=>exact ⟨0,none,0,YK _,rfl,rfl,Z0⟩
 case round =>
  clear Z0
  obtain ⟨k,A,c,hk,rfl,rfl,Z⟩:=hrel
  by_cases hlt:k<S.roots.length
  case pos =>
   obtain ⟨y,hy⟩:∃ y,S.roots[k]?=some y:=⟨_,YL hlt⟩
   obtain ⟨b,o,rfl,hbx,hc⟩:=HE0.out (by omega)
   have HCY:=ZH (hc k y hy)
   have HSN:=ZH (sM [] hy)
   have HLE:=ZH (show (eI [] (S.roots.take k)).length<=220000 by have h1:=lL [] (S.roots.take k);rw [YY,YN] at h1;omega)
   clear hy hc
   have wi1:IntKind.i64.wrap ((k:Int))=(k:Int):=IntWalk.i64_in _ (by omega)
   have zi1:(0:Int)<=(k:Int):=by omega
   have li1:(k:Int)<(S.roots.length:Int):=by omega
   have ti1:((k:Int)).toNat=k:=by omega
   have wk:IntKind.i64.wrap ((k:Int)+1)=(k:Int)+1:=IntWalk.i64_in _ (by omega)
   obtain ⟨N,hN⟩:∃ N,eI [] (S.roots.take k)=N:=⟨_,rfl⟩
   rw [hN] at HSN HLE Z
   rw [hN]
   clear hN
   have x0:wr.cell? ⟨w.heap.size,0,none⟩=some (.slice (some ⟨b,o,none⟩) S.roots.length sc0):=by rw [cell_of_row _ _ 0 _ _ _ Z.out.s];rfl
   have xl:=aA Z.out.s
   have q0:=(Z.out.ext.cell (p:=⟨b,o+k*11,none⟩) hbx).trans HCY.out.1
   have q1:=(Z.out.ext.cell (p:=⟨b,o+k*11+1,none⟩) hbx).trans HCY.out.2.1
   have q2:=(Z.out.ext.cell (p:=⟨b,o+k*11+2,none⟩) hbx).trans HCY.out.2.2.1
   have q3:=(Z.out.ext.cell (p:=⟨b,o+k*11+3,none⟩) hbx).trans HCY.out.2.2.2.1
   have q4:=(Z.out.ext.cell (p:=⟨b,o+k*11+4,none⟩) hbx).trans HCY.out.2.2.2.2.1
   have q5:=(Z.out.ext.cell (p:=⟨b,o+k*11+5,none⟩) hbx).trans HCY.out.2.2.2.2.2.1
   have q6:=(Z.out.ext.cell (p:=⟨b,o+k*11+6,none⟩) hbx).trans HCY.out.2.2.2.2.2.2.1
   have q7:=(Z.out.ext.cell (p:=⟨b,o+k*11+7,none⟩) hbx).trans HCY.out.2.2.2.2.2.2.2.1
   have q8:=(Z.out.ext.cell (p:=⟨b,o+k*11+8,none⟩) hbx).trans HCY.out.2.2.2.2.2.2.2.2.1
   have q9:=(Z.out.ext.cell (p:=⟨b,o+k*11+9,none⟩) hbx).trans HCY.out.2.2.2.2.2.2.2.2.2.1
   have q10:=(Z.out.ext.cell (p:=⟨b,o+k*11+10,none⟩) hbx).trans HCY.out.2.2.2.2.2.2.2.2.2.2
   go_upto_region 5 with fail
   go_wp2_with fail
   refine (HAS.out N y wr _ Z.out.o.rd).mono ?_
   rintro e w2 ⟨rfl,b2⟩
   have Z2:=ZH (Z.out.tr b2)
   clear b2 Z x0 xl q0 q1 q2 q3 q4 q5 q6 q7 q8 q9 q10
   by_cases hm:y ∈ N
   · have HF:=ZH (show eI [] (S.roots.take (k+1))=N by rw [HSN.out];exact nG hm)
     rw [decide_eq_true hm]
     clear hm
     go_wp2_with fail
     go_roundw
     case rel=>exact ⟨k+1,A,c,by omega,by rw [HF.out],by go_num,by rw [HF.out];exact Z2⟩
     case measure=>simp [intOf];omega
   · have HF:=ZH (show eI [] (S.roots.take (k+1))=N++[y] by rw [HSN.out];exact pQ hm)
     rw [decide_eq_false hm]
     clear hm
     have x0:w2.cell? ⟨w.heap.size,0,none⟩=some (.slice (some ⟨b,o,none⟩) S.roots.length sc0):=by rw [cell_of_row _ _ 0 _ _ _ Z2.out.s];rfl
     have xl:=aA Z2.out.s
     have q0:=(Z2.out.ext.cell (p:=⟨b,o+k*11,none⟩) hbx).trans HCY.out.1
     have q1:=(Z2.out.ext.cell (p:=⟨b,o+k*11+1,none⟩) hbx).trans HCY.out.2.1
     have q2:=(Z2.out.ext.cell (p:=⟨b,o+k*11+2,none⟩) hbx).trans HCY.out.2.2.1
     have q3:=(Z2.out.ext.cell (p:=⟨b,o+k*11+3,none⟩) hbx).trans HCY.out.2.2.2.1
     have q4:=(Z2.out.ext.cell (p:=⟨b,o+k*11+4,none⟩) hbx).trans HCY.out.2.2.2.2.1
     have q5:=(Z2.out.ext.cell (p:=⟨b,o+k*11+5,none⟩) hbx).trans HCY.out.2.2.2.2.2.1
     have q6:=(Z2.out.ext.cell (p:=⟨b,o+k*11+6,none⟩) hbx).trans HCY.out.2.2.2.2.2.2.1
     have q7:=(Z2.out.ext.cell (p:=⟨b,o+k*11+7,none⟩) hbx).trans HCY.out.2.2.2.2.2.2.2.1
     have q8:=(Z2.out.ext.cell (p:=⟨b,o+k*11+8,none⟩) hbx).trans HCY.out.2.2.2.2.2.2.2.2.1
     have q9:=(Z2.out.ext.cell (p:=⟨b,o+k*11+9,none⟩) hbx).trans HCY.out.2.2.2.2.2.2.2.2.2.1
     have q10:=(Z2.out.ext.cell (p:=⟨b,o+k*11+10,none⟩) hbx).trans HCY.out.2.2.2.2.2.2.2.2.2.2
     have eA:Ext w2 (w2.alloc (.cells (aH y).toArray 56)):=(Below.refl _ _).alloc (YF _) _
     have HRK:=ZH (pO w2 y)
     have Z3:=ZH (Z2.out.tr eA)
     have XB:=ZH (Below.refl (w.heap.size+1) (w2.alloc (.cells (aH y).toArray 56)))
     unfold aH at HRK Z3 XB
     clear eA
     go_wp2_with (refine bL (k:=11) (by decide) hF (n:=N.length) (m:=1) (B:=w.heap.size+1) Z3.out.o (by rw [bJ]) HRK.out (by rfl) (eF y) XB.out (by have:=HLE.out;omega) (by have:=HLE.out;unfold maxLen;omega) Z3.out.sz rfl rfl rfl rfl ?_;intro A8 n8 c8 w8 hn8 o8 x8 g8)
     have hn8:n8=(N++[y]).length:=by rw [YJ];exact hn8.out
     subst hn8
     have Z8:=ZH (Z3.out.app (L':=N++[y]) x8 (by rw [<- eE];exact o8))
     clear x0 xl q0 q1 q2 q3 q4 q5 q6 q7 q8 q9 q10 x8 o8 g8 Z2 Z3 HRK XB
     go_roundw
     case rel=>exact ⟨k+1,A8,c8,by omega,by rw [HF.out],by go_num,by rw [HF.out];exact Z8⟩
     case measure=>simp [intOf];omega
  case neg =>
  obtain rfl:k=S.roots.length:=by omega
  have k2:wr.cell? ⟨w.heap.size,0,none⟩=some (.slice sA0 S.roots.length sc0):=by rw [cell_of_row _ _ 0 _ _ _ Z.out.s];rfl
  have kl:=aA Z.out.s
  rw [List.take_length] at Z
  rw [List.take_length]
  have ZR:Hid (RtI w wr (sA0,S.roots.length,sc0) s1 (sA2,S.ms.length,sc2) s3 s4 (rtT S 0) A c):=Z
  rw [show eI [] S.roots=rtT S 0 from rfl]
  clear hlt hk Z
  go_wp2_with fail
  clear k2 kl
  go_loopw [3,5] (fun s3' s5' wr=>∃ (k:Nat) (A:Option Addr) (c:Nat),k<=S.ms.length/\s3'=.slice A (rtT S k).length c/\s5'=.int .i64 (k:Int)/\Hid (RtI w wr (sA0,S.roots.length,sc0) s1 (sA2,S.ms.length,sc2) s3 s4 (rtT S k) A c)) (fun _ s5' _=>S.ms.length - (intOf s5').toNat)
  case atStart=>exact ⟨0,A,c,YK _,rfl,rfl,ZR⟩
  case round =>
   clear ZR
   obtain ⟨k2,A,c,hk2,rfl,rfl,Z⟩:=hrel
   have m2:wr.cell? ⟨w.heap.size,2,none⟩=some (.slice sA2 S.ms.length sc2):=by rw [cell_of_row _ _ 2 _ _ _ Z.out.s];rfl
   have ml:=aA Z.out.s
   by_cases hlt2:k2<S.ms.length
   case neg =>
    obtain rfl:k2=S.ms.length:=by omega
    rw [HALL.out] at Z
    rw [HALL.out]
    clear hlt2 hk2
    go_wp2_with fail
    go_ret
    exact ⟨Z.out.ext,_,_,rfl,Z.out.o.rd⟩
   case pos =>
   obtain ⟨t,ht⟩:∃ t,S.ms[k2]?=some t:=⟨_,YL hlt2⟩
   obtain ⟨bm,om,rfl,hbm,u,hcell,hu⟩:=HE2.out k2 t ht
   obtain ⟨Au,nu,cu,rfl,hnu,hncu,hcmu,helu⟩:=RdN.at_ hu
   subst hnu
   unfold maxLen at hcmu
   have HEU:=ZH helu
   have HM3:=ZH (show w.cell? ⟨bm,om+k2*17+3,none⟩=some (.slice Au t.roots.length cu) by
    have:=hcell 3 _ rfl
    rwa [<- YM] at this)
   have HRS:=ZH (F5 ht)
   have HLT:=ZH (HMB.out t (YS ht)).2
   have Z0:Hid (RtI w wr (sA0,S.roots.length,sc0) s1 (some ⟨bm,om,none⟩,S.ms.length,sc2) s3 s4 (eI (rtT S k2) (t.roots.take 0)) A c):=Z
   clear ht hcell hu helu Z
   have wi2:IntKind.i64.wrap ((k2:Int))=(k2:Int):=IntWalk.i64_in _ (by omega)
   have zi2:(0:Int)<=(k2:Int):=by omega
   have li2:(k2:Int)<(S.ms.length:Int):=by omega
   have ti2:((k2:Int)).toNat=k2:=by omega
   have wk2:IntKind.i64.wrap ((k2:Int)+1)=(k2:Int)+1:=IntWalk.i64_in _ (by omega)
   go_wp2_with fail
   clear m2 ml
   go_loopw [3,6] (fun s3' s6' wr=>∃ (k:Nat) (A:Option Addr) (c:Nat),k<=t.roots.length/\s3'=.slice A (eI (rtT S k2) (t.roots.take k)).length c/\s6'=.int .i64 (k:Int)/\Hid (RtI w wr (sA0,S.roots.length,sc0) s1 (some ⟨bm,om,none⟩,S.ms.length,sc2) s3 s4 (eI (rtT S k2) (t.roots.take k)) A c)) (fun _ s6' _=>t.roots.length - (intOf s6').toNat)
   case atStart=>exact ⟨0,A,c,YK _,rfl,rfl,Z0⟩
   case round =>
    clear Z0
    obtain ⟨k,A,c,hk,rfl,rfl,Z⟩:=hrel
    by_cases hlt:k<t.roots.length
    case neg =>
     obtain rfl:k=t.roots.length:=by omega
     rw [List.take_length] at Z
     rw [List.take_length]
     have x0:wr.cell? ⟨w.heap.size,2,none⟩=some (.slice (some ⟨bm,om,none⟩) S.ms.length sc2):=by rw [cell_of_row _ _ 2 _ _ _ Z.out.s];rfl
     have xl:=aA Z.out.s
     have x3:=(Z.out.ext.cell (p:=⟨bm,om+k2*17+3,none⟩) hbm).trans HM3.out
     go_wp2_with fail
     go_roundw
     case rel=>exact ⟨k2+1,A,c,by omega,by rw [HRS.out],by go_num,by rw [HRS.out];exact Z⟩
     case measure=>simp [intOf];omega
    case pos =>
    obtain ⟨y,hy⟩:∃ y,t.roots[k]?=some y:=⟨_,YL hlt⟩
    obtain ⟨b,o,rfl,hbx,hc⟩:=HEU.out (by omega)
    have HCY:=ZH (hc k y hy)
    have HSN:=ZH (sM (rtT S k2) hy)
    have HLE:=ZH (show (eI (rtT S k2) (t.roots.take k)).length<=220000 by have h1:=lL (rtT S k2) (t.roots.take k);have:=HLR.out k2;have:=HLT.out;rw [YY] at h1;omega)
    have hlr:=HLT.out
    clear hy hc
    have wi3:IntKind.i64.wrap ((k:Int))=(k:Int):=IntWalk.i64_in _ (by omega)
    have zi3:(0:Int)<=(k:Int):=by omega
    have li3:(k:Int)<(t.roots.length:Int):=by omega
    have ti3:((k:Int)).toNat=k:=by omega
    have wk:IntKind.i64.wrap ((k:Int)+1)=(k:Int)+1:=IntWalk.i64_in _ (by omega)
    obtain ⟨N,hN⟩:∃ N,eI (rtT S k2) (t.roots.take k)=N:=⟨_,rfl⟩
    rw [hN] at HSN HLE Z
    rw [hN]
    clear hN
    have x0:wr.cell? ⟨w.heap.size,2,none⟩=some (.slice (some ⟨bm,om,none⟩) S.ms.length sc2):=by rw [cell_of_row _ _ 2 _ _ _ Z.out.s];rfl
    have xl:=aA Z.out.s
    have x3:=(Z.out.ext.cell (p:=⟨bm,om+k2*17+3,none⟩) hbm).trans HM3.out
    have q0:=(Z.out.ext.cell (p:=⟨b,o+k*11,none⟩) hbx).trans HCY.out.1
    have q1:=(Z.out.ext.cell (p:=⟨b,o+k*11+1,none⟩) hbx).trans HCY.out.2.1
    have q2:=(Z.out.ext.cell (p:=⟨b,o+k*11+2,none⟩) hbx).trans HCY.out.2.2.1
    have q3:=(Z.out.ext.cell (p:=⟨b,o+k*11+3,none⟩) hbx).trans HCY.out.2.2.2.1
    have q4:=(Z.out.ext.cell (p:=⟨b,o+k*11+4,none⟩) hbx).trans HCY.out.2.2.2.2.1
    have q5:=(Z.out.ext.cell (p:=⟨b,o+k*11+5,none⟩) hbx).trans HCY.out.2.2.2.2.2.1
    have q6:=(Z.out.ext.cell (p:=⟨b,o+k*11+6,none⟩) hbx).trans HCY.out.2.2.2.2.2.2.1
    have q7:=(Z.out.ext.cell (p:=⟨b,o+k*11+7,none⟩) hbx).trans HCY.out.2.2.2.2.2.2.2.1
    have q8:=(Z.out.ext.cell (p:=⟨b,o+k*11+8,none⟩) hbx).trans HCY.out.2.2.2.2.2.2.2.2.1
    have q9:=(Z.out.ext.cell (p:=⟨b,o+k*11+9,none⟩) hbx).trans HCY.out.2.2.2.2.2.2.2.2.2.1
    have q10:=(Z.out.ext.cell (p:=⟨b,o+k*11+10,none⟩) hbx).trans HCY.out.2.2.2.2.2.2.2.2.2.2
    go_upto_region 13 with fail
    go_wp2_with fail
    refine (HAS.out N y wr _ Z.out.o.rd).mono ?_
    rintro e w2 ⟨rfl,b2⟩
    have Z2:=ZH (Z.out.tr b2)
    clear b2 Z x0 xl x3 q0 q1 q2 q3 q4 q5 q6 q7 q8 q9 q10
    by_cases hm:y ∈ N
    · have HF:=ZH (show eI (rtT S k2) (t.roots.take (k+1))=N by rw [HSN.out];exact nG hm)
      rw [decide_eq_true hm]
      clear hm
      go_wp2_with fail
      go_roundw
      case rel=>exact ⟨k+1,A,c,by omega,by rw [HF.out],by go_num,by rw [HF.out];exact Z2⟩
      case measure=>simp [intOf];omega
    · have HF:=ZH (show eI (rtT S k2) (t.roots.take (k+1))=N++[y] by rw [HSN.out];exact pQ hm)
      rw [decide_eq_false hm]
      clear hm
      have x0:w2.cell? ⟨w.heap.size,2,none⟩=some (.slice (some ⟨bm,om,none⟩) S.ms.length sc2):=by rw [cell_of_row _ _ 2 _ _ _ Z2.out.s];rfl
      have xl:=aA Z2.out.s
      have x3:=(Z2.out.ext.cell (p:=⟨bm,om+k2*17+3,none⟩) hbm).trans HM3.out
      have q0:=(Z2.out.ext.cell (p:=⟨b,o+k*11,none⟩) hbx).trans HCY.out.1
      have q1:=(Z2.out.ext.cell (p:=⟨b,o+k*11+1,none⟩) hbx).trans HCY.out.2.1
      have q2:=(Z2.out.ext.cell (p:=⟨b,o+k*11+2,none⟩) hbx).trans HCY.out.2.2.1
      have q3:=(Z2.out.ext.cell (p:=⟨b,o+k*11+3,none⟩) hbx).trans HCY.out.2.2.2.1
      have q4:=(Z2.out.ext.cell (p:=⟨b,o+k*11+4,none⟩) hbx).trans HCY.out.2.2.2.2.1
      have q5:=(Z2.out.ext.cell (p:=⟨b,o+k*11+5,none⟩) hbx).trans HCY.out.2.2.2.2.2.1
      have q6:=(Z2.out.ext.cell (p:=⟨b,o+k*11+6,none⟩) hbx).trans HCY.out.2.2.2.2.2.2.1
      have q7:=(Z2.out.ext.cell (p:=⟨b,o+k*11+7,none⟩) hbx).trans HCY.out.2.2.2.2.2.2.2.1
      have q8:=(Z2.out.ext.cell (p:=⟨b,o+k*11+8,none⟩) hbx).trans HCY.out.2.2.2.2.2.2.2.2.1
      have q9:=(Z2.out.ext.cell (p:=⟨b,o+k*11+9,none⟩) hbx).trans HCY.out.2.2.2.2.2.2.2.2.2.1
      have q10:=(Z2.out.ext.cell (p:=⟨b,o+k*11+10,none⟩) hbx).trans HCY.out.2.2.2.2.2.2.2.2.2.2
      have eA:Ext w2 (w2.alloc (.cells (aH y).toArray 56)):=(Below.refl _ _).alloc (YF _) _
      have HRK:=ZH (pO w2 y)
      have Z3:=ZH (Z2.out.tr eA)
      have XB:=ZH (Below.refl (w.heap.size+1) (w2.alloc (.cells (aH y).toArray 56)))
      unfold aH at HRK Z3 XB
      clear eA
      go_wp2_with (refine bL (k:=11) (by decide) hF (n:=N.length) (m:=1) (B:=w.heap.size+1) Z3.out.o (by rw [bJ]) HRK.out (by rfl) (eF y) XB.out (by have:=HLE.out;omega) (by have:=HLE.out;unfold maxLen;omega) Z3.out.sz rfl rfl rfl rfl ?_;intro A8 n8 c8 w8 hn8 o8 x8 g8)
      have hn8:n8=(N++[y]).length:=by rw [YJ];exact hn8.out
      subst hn8
      have Z8:=ZH (Z3.out.app (L':=N++[y]) x8 (by rw [<- eE];exact o8))
      clear x0 xl x3 q0 q1 q2 q3 q4 q5 q6 q7 q8 q9 q10 x8 o8 g8 Z2 Z3 HRK XB
      go_roundw
      case rel=>exact ⟨k+1,A8,c8,by omega,by rw [HF.out],by go_num,by rw [HF.out];exact Z8⟩
      case measure=>simp [intOf];omega
end Go.Proofs.YtkjplpmogfmhkaaGreatDoor
