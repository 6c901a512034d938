/- Parts Ji of the proof. -/
import Derived.Test.YtkjplpmogfmhkaaGreatDoorLaw
namespace Go.Proofs.YtkjplpmogfmhkaaGreatDoor
open Go.RowKit
set_option linter.unusedVariables false
set_option maxRecDepth 100000
def yD:Value→Nat
 | .slice _ n _=>n
 | _=>0
theorem mT {day:Int}{out next:List NC}{y:NC} (h:¬ CB day out next y):dW day out next y=next:=if_neg h
theorem zO {day:Int}{out next:List NC}{y:NC} (h:CB day out next y):dW day out next y=next++[y]:=if_pos h
theorem S4 {day:Int}{L:List NC}{y:NC} (h:∀ (j:Nat) (a:NC),j<L.length→L[j]?=some a→eM day a y=false):(L.any fun a=>eM day a y)=false:=by
 rw [List.any_eq_false]
 intro a ha
 obtain ⟨j,hj,rfl⟩:=List.getElem_of_mem ha
 rw [h j _ hj (V8 hj)]
 simp
theorem Q0 {day:Int}{L:List NC}{y a:NC}{j:Nat} (hj:L[j]?=some a) (h:eM day a y=true):(L.any fun a=>eM day a y)=true:=List.any_eq_true.2 ⟨a,VD hj,h⟩
theorem LsZ.mono {w w' wr:World}{v:Value}{L:List NC} (e:Ext w w') (h:LsZ w' wr v L):LsZ w wr v L:=⟨e.tr h.ext,h.own.mono e.size,h.form⟩
set_option maxHeartbeats 8000000 in
theorem vQ {v1 v2:Value}{roots pool:List NC} (st:List UInt8) (day:Int) (w:World) (h1:RdN w v1 roots) (h2:RdN w v2 pool) (hs1:smL roots) (hs2:smL pool) (hl:roots.length+pool.length≤900000) (E:dI w 0) :
 Calls Tryz.prog 42 #[v1,v2,.string (aI st),.int .i64 day] w fun e w'=>∃ v,e=.returned v∧LsZ w w' v (dB roots pool st day):=by
 have HFI:=VR (zN st day w h1 hs1 (by omega) E)
 obtain ⟨A2,n2,c2,rfl,hn2,hnc2,hcm2,hel2⟩:=h2.at_
 subst hn2
 have HEL2:=VR hel2
 unfold maxLen at hcm2
 have HFL:=VR (fun (a b:NC) (ha:smN a) (hb:smN b) W (e:Ext w W)=>hU a b day W ha hb (E.below e))
 have HS2:=VR hs2
 have HI0:=VR (show smL (bN roots st day)∧(bN roots st day).length+iG pool (bN roots st day)≤roots.length+pool.length from ⟨fun c hc=>hs1 c (iL hc).1,by
  have h1:=kA st day roots
  have h2:=lG pool (bN roots st day)
  omega⟩)
 have HT0:Hid (wW pool day (bN roots st day)=dB roots pool st day):=VR rfl
 clear hel2 h1 h2 hs1 hs2 E
 go_enter Tryz.func42,Tryz.ntmps42
 go_wp2_with fail
 refine HFI.out.mono ?_
 rintro e w1 ⟨o1,rfl,z1⟩
 have Z1:=VR z1
 generalize bN roots st day=L0 at *
 clear HFI z1
 go_wp2_with fail
 go_loopw [9] (fun out wr=>∃ L:List NC,Hid (LsZ w wr out L)∧Hid (wW pool day L=dB roots pool st day)∧Hid (smL L∧L.length+iG pool L≤roots.length+pool.length)) (fun out _=>roots.length+pool.length+1 - yD out)
 case atStart=>exact ⟨L0,Z1,HT0,HI0⟩
 case round =>
  clear Z1 HT0 HI0
  obtain ⟨L,Z,HT,HI⟩:=hrel
  obtain ⟨Ao,co,rfl⟩:=Z.out.form
  obtain ⟨wo,hwo⟩:∃ wo,wo=wr:=⟨_,rfl⟩
  subst hwo
  have HLL:=VR (show L.length≤900000 by have:=HI.out.2;omega)
  have hLC:L.length≤roots.length+pool.length:=by have:=HI.out.2;omega
  have e6:Ext wo (wo.alloc (.cells #[] 56)):=(Below.refl _ _).alloc (UX _) _
  have R6:=VR (RdK.ext (Z.out.rd) e6)
  have E6:=VR e6
  clear e6
  go_wp2_with (refine bP (k:=11) (by decide) gU (n:=0) (m:=L.length) (B:=wo.heap.size) (aJ.empty _ _ _ _ _) rfl R6.out (by rw [bF]) (hO L) E6.out (by have:=HLL.out;omega) (by have:=HLL.out;unfold maxLen;omega) E6.out.size rfl rfl rfl rfl ?_;intro A7 n7 c7 w7 hn7 o7 b7 _)
  have hn7:n7=L.length:=by have:=hn7.out;omega
  subst hn7
  have ZX:Hid (LsZ wo w7 (.slice A7 L.length c7) (f9 day L (pool.take 0))):=VR ⟨b7,by rw [VN] at o7;exact o7,_,_,rfl⟩
  clear R6 E6 o7 b7
  go_wp2_with fail
  go_loopw [10,11] (fun nx i wr=>∃ k:Nat,k≤pool.length∧i=.int .i64 (k:Int)∧Hid (LsZ wo wr nx (f9 day L (pool.take k)))∧Hid ((f9 day L (pool.take k)).length+iG pool (f9 day L (pool.take k))≤roots.length+pool.length)) (fun _ i _=>pool.length - (intOf i).toNat)
  case atStart=>exact ⟨0,V7 _,rfl,ZX,VR HI.out.2⟩
  case round =>
   clear ZX
   obtain ⟨k,hk,rfl,ZN,HB⟩:=hrel
   obtain ⟨An,cn,rfl⟩:=ZN.out.form
   by_cases hlt:k<pool.length
   case neg =>
    obtain rfl:k=pool.length:=by omega
    have HRD:Hid (f9 day L (pool.take pool.length)=fI pool day L):=VR (by rw [List.take_length];rfl)
    obtain ⟨N,hN⟩:∃ N,f9 day L (pool.take pool.length)=N:=⟨_,rfl⟩
    rw [hN] at HRD ZN HB
    rw [hN]
    clear hN hk hlt
    by_cases hle:N.length=L.length
    · have hb:((N.length:Int) == (L.length:Int))=true:=by simp [hle]
      have HF:=VR (show L=dB roots pool st day by rw [← HT.out];exact (xY (by rw [← HRD.out];exact hle)).symm)
      have ZF:=VR (Z.out.tr ZN.out.ext)
      clear hle
      go_wp2_with fail
      go_ret
      exact ⟨_,rfl,by have:=ZF.out;rw [← HF.out];exact this⟩
    · have hb:((N.length:Int) == (L.length:Int))=false:=by simp;omega
      have hge:L.length<N.length:=by
       obtain ⟨t,e,_⟩:=iK pool day L
       rw [← HRD.out] at e
       have h9:=congrArg List.length e
       rw [V5] at h9
       omega
      have HT2:=VR (show wW pool day N=dB roots pool st day by rw [HRD.out,← xZ (by rw [← HRD.out];exact hle)];exact HT.out)
      have HS9:Hid (smL N):=VR (by
       rw [HRD.out]
       obtain ⟨t,e,ht⟩:=iK pool day L
       rw [e]
       exact HI.out.1.app fun c hc=>HS2.out c (ht c hc).1)
      have HI2:=VR (And.intro HS9.out HB.out)
      have ZF:=VR (LsZ.mono Z.out.ext ZN.out)
      have hNC:N.length≤roots.length+pool.length:=by have:=HB.out;omega
      clear hle
      go_wp2_with fail
      go_roundw
      case rel=>exact ⟨N,ZF,HT2,HI2⟩
      case measure=>simp [yD];omega
   case pos =>
   obtain ⟨y,hy⟩:∃ y,pool[k]?=some y:=⟨_,V8 hlt⟩
   obtain ⟨b,o,rfl,hbl,hc⟩:=HEL2.out (by omega)
   have hcy:=hc k y hy
   have HY:=VR hy
   have HSY:=VR (HS2.out y (VD hy))
   have HX:=VR (Z.out.ext.tr ZN.out.ext)
   have X:=HX.out
   have HCY:=VR hcy
   clear hy hc
   have wi1:IntKind.i64.wrap ((k:Int))=(k:Int):=IntWalk.i64_in _ (by omega)
   have zi1:(0:Int)≤(k:Int):=by omega
   have li1:(k:Int)<(pool.length:Int):=by omega
   have ti1:((k:Int)).toNat=k:=by omega
   have wk:IntKind.i64.wrap ((k:Int)+1)=(k:Int)+1:=IntWalk.i64_in _ (by omega)
   have q0:=(X.cell (p:=⟨b,o+k*11,none⟩) hbl).trans hcy.1
   have q1:=(X.cell (p:=⟨b,o+k*11+1,none⟩) hbl).trans hcy.2.1
   have q2:=(X.cell (p:=⟨b,o+k*11+2,none⟩) hbl).trans hcy.2.2.1
   have q3:=(X.cell (p:=⟨b,o+k*11+3,none⟩) hbl).trans hcy.2.2.2.1
   have q4:=(X.cell (p:=⟨b,o+k*11+4,none⟩) hbl).trans hcy.2.2.2.2.1
   have q5:=(X.cell (p:=⟨b,o+k*11+5,none⟩) hbl).trans hcy.2.2.2.2.2.1
   have q6:=(X.cell (p:=⟨b,o+k*11+6,none⟩) hbl).trans hcy.2.2.2.2.2.2.1
   have q7:=(X.cell (p:=⟨b,o+k*11+7,none⟩) hbl).trans hcy.2.2.2.2.2.2.2.1
   have q8:=(X.cell (p:=⟨b,o+k*11+8,none⟩) hbl).trans hcy.2.2.2.2.2.2.2.2.1
   have q9:=(X.cell (p:=⟨b,o+k*11+9,none⟩) hbl).trans hcy.2.2.2.2.2.2.2.2.2.1
   have q10:=(X.cell (p:=⟨b,o+k*11+10,none⟩) hbl).trans hcy.2.2.2.2.2.2.2.2.2.2
   clear hcy
   have HSN:=VR (vO day L HY.out)
   obtain ⟨N,hN⟩:∃ N,f9 day L (pool.take k)=N:=⟨_,rfl⟩
   rw [hN] at HSN ZN HB
   rw [hN]
   clear hN X
   have HLN:=VR (show N.length≤900000 by have:=HB.out;omega)
   by_cases k2:y.kind=2
   case neg =>
    have hb:(y.kind != 2)=true:=by simpa using k2
    have HF:=VR (show f9 day L (pool.take (k+1))=N by rw [HSN.out];exact mT (fun q=>k2 q.1))
    clear k2
    go_wp2_with fail
    go_roundw
    case rel=>exact ⟨k+1,by omega,by go_num,by rw [HF.out];exact ZN,by rw [HF.out];exact HB⟩
    case measure=>simp [intOf];omega
   have hb:(y.kind != 2)=false:=by simp [k2]
   have K2:=VR k2
   clear k2
   go_wp2_with fail
   refine (CO y _ ZN.out.rd).mono ?_
   rintro e w8 ⟨rfl,b8⟩
   have Z8:=VR (ZN.out.tr b8)
   clear q0 q1 q2 q3 q4 q5 q6 q7 q8 q9 q10 b8 ZN HX
   by_cases hm:y ∈ N
   · have HF:=VR (show f9 day L (pool.take (k+1))=N by rw [HSN.out];exact mT (fun q=>q.2.1 hm))
     rw [decide_eq_true hm]
     clear hm
     go_wp2_with fail
     go_roundw
     case rel=>exact ⟨k+1,by omega,by go_num,by rw [HF.out];exact Z8,by rw [HF.out];exact HB⟩
     case measure=>simp [intOf];omega
   rw [decide_eq_false hm]
   have HM:=VR hm
   clear hm
   go_wp2_with fail
   go_loopw [10,12] (fun nx i wr=>∃ j:Nat,j≤L.length∧nx=.slice An N.length cn∧i=.int .i64 (j:Int)∧Hid (LsZ wo wr (.slice An N.length cn) N)∧Hid (∀ (i:Nat) (a:NC),i<j→L[i]?=some a→eM day a y=false)) (fun _ i _=>L.length - (intOf i).toNat)
   case atStart=>exact ⟨0,V7 _,rfl,rfl,Z8,VR (fun i a hi=>absurd hi (Nat.not_lt_zero _))⟩
   case round =>
    clear Z8
    obtain ⟨j,hj,rfl,rfl,ZJ,HNO⟩:=hrel
    by_cases hjl:j<L.length
    case neg =>
     obtain rfl:j=L.length:=by omega
     have HF:=VR (show f9 day L (pool.take (k+1))=N by rw [HSN.out];exact mT (fun q=>by have:=q.2.2;rw [S4 HNO.out] at this;cases this))
     go_wp2_with fail
     go_roundw
     case rel=>repeat (first | exact ⟨k+1,by omega,by go_num,by rw [HF.out];exact ZJ,by rw [HF.out];exact HB⟩ | exact ⟨⟨k+1,by omega,by go_num,by rw [HF.out];exact ZJ,by rw [HF.out];exact HB⟩,rfl⟩ | refine ⟨_,?_⟩)
     case measure=>simp [intOf];omega
    case pos =>
    obtain ⟨x,hx⟩:∃ x,L[j]?=some x:=⟨_,V8 hjl⟩
    obtain ⟨Ar,nr,cr,e9,hnr,_,_,hcl⟩:=RdN.at_ Z.out.rd
    injection e9 with e1 e2 e3
    subst e1 e2 e3
    clear hnr
    obtain ⟨b2,o2,rfl,hb2,hcl⟩:=hcl (by omega)
    have hcx:=hcl j x hx
    have hcy:=HCY.out
    have HXX:=VR hx
    have HSX:=VR (HI.out.1 x (VD hx))
    clear hx hcl
    have wi2:IntKind.i64.wrap ((j:Int))=(j:Int):=IntWalk.i64_in _ (by omega)
    have zi2:(0:Int)≤(j:Int):=by omega
    have li2:(j:Int)<(L.length:Int):=by omega
    have ti2:((j:Int)).toNat=j:=by omega
    have wi3:IntKind.i64.wrap ((k:Int))=(k:Int):=IntWalk.i64_in _ (by omega)
    have zi3:(0:Int)≤(k:Int):=by omega
    have li3:(k:Int)<(pool.length:Int):=by omega
    have ti3:((k:Int)).toNat=k:=by omega
    have wj:IntKind.i64.wrap ((j:Int)+1)=(j:Int)+1:=IntWalk.i64_in _ (by omega)
    have X:=ZJ.out.ext
    have XW:=Z.out.ext.tr X
    go_upto_region 10 with fail
    refine Gd.aO 10 (by kernel_rfl) (by kernel_rfl) ?_
    simp only [VH,VE,VI,VJ]
    intro wq hw1
    have LL:∀ m:Lt wq,Ext wr m.1:=fun m=>hw1.tr m.2
    have LO:∀ m:Lt wq,Ext wo m.1:=fun m=>X.tr (LL m)
    have LW:∀ m:Lt wq,Ext w m.1:=fun m=>XW.tr (LL m)
    have p0:=fun m:Lt wq=>((LO m).cell (p:=⟨b2,o2+j*11,none⟩) hb2).trans hcx.1
    have p1:=fun m:Lt wq=>((LO m).cell (p:=⟨b2,o2+j*11+1,none⟩) hb2).trans hcx.2.1
    have p2:=fun m:Lt wq=>((LO m).cell (p:=⟨b2,o2+j*11+2,none⟩) hb2).trans hcx.2.2.1
    have p3:=fun m:Lt wq=>((LO m).cell (p:=⟨b2,o2+j*11+3,none⟩) hb2).trans hcx.2.2.2.1
    have p4:=fun m:Lt wq=>((LO m).cell (p:=⟨b2,o2+j*11+4,none⟩) hb2).trans hcx.2.2.2.2.1
    have p5:=fun m:Lt wq=>((LO m).cell (p:=⟨b2,o2+j*11+5,none⟩) hb2).trans hcx.2.2.2.2.2.1
    have p6:=fun m:Lt wq=>((LO m).cell (p:=⟨b2,o2+j*11+6,none⟩) hb2).trans hcx.2.2.2.2.2.2.1
    have p7:=fun m:Lt wq=>((LO m).cell (p:=⟨b2,o2+j*11+7,none⟩) hb2).trans hcx.2.2.2.2.2.2.2.1
    have p8:=fun m:Lt wq=>((LO m).cell (p:=⟨b2,o2+j*11+8,none⟩) hb2).trans hcx.2.2.2.2.2.2.2.2.1
    have p9:=fun m:Lt wq=>((LO m).cell (p:=⟨b2,o2+j*11+9,none⟩) hb2).trans hcx.2.2.2.2.2.2.2.2.2.1
    have p10:=fun m:Lt wq=>((LO m).cell (p:=⟨b2,o2+j*11+10,none⟩) hb2).trans hcx.2.2.2.2.2.2.2.2.2.2
    have q0:=fun m:Lt wq=>((LW m).cell (p:=⟨b,o+k*11,none⟩) hbl).trans hcy.1
    have q1:=fun m:Lt wq=>((LW m).cell (p:=⟨b,o+k*11+1,none⟩) hbl).trans hcy.2.1
    have q2:=fun m:Lt wq=>((LW m).cell (p:=⟨b,o+k*11+2,none⟩) hbl).trans hcy.2.2.1
    have q3:=fun m:Lt wq=>((LW m).cell (p:=⟨b,o+k*11+3,none⟩) hbl).trans hcy.2.2.2.1
    have q4:=fun m:Lt wq=>((LW m).cell (p:=⟨b,o+k*11+4,none⟩) hbl).trans hcy.2.2.2.2.1
    have q5:=fun m:Lt wq=>((LW m).cell (p:=⟨b,o+k*11+5,none⟩) hbl).trans hcy.2.2.2.2.2.1
    have q6:=fun m:Lt wq=>((LW m).cell (p:=⟨b,o+k*11+6,none⟩) hbl).trans hcy.2.2.2.2.2.2.1
    have q7:=fun m:Lt wq=>((LW m).cell (p:=⟨b,o+k*11+7,none⟩) hbl).trans hcy.2.2.2.2.2.2.2.1
    have q8:=fun m:Lt wq=>((LW m).cell (p:=⟨b,o+k*11+8,none⟩) hbl).trans hcy.2.2.2.2.2.2.2.2.1
    have q9:=fun m:Lt wq=>((LW m).cell (p:=⟨b,o+k*11+9,none⟩) hbl).trans hcy.2.2.2.2.2.2.2.2.2.1
    have q10:=fun m:Lt wq=>((LW m).cell (p:=⟨b,o+k*11+10,none⟩) hbl).trans hcy.2.2.2.2.2.2.2.2.2.2
    repeat (refine Gd.aD (by first | exact trivial | exact ⟨_,rfl,rfl,rfl⟩) rfl rfl rfl rfl rfl (fun K hK=>?_);go_big_quiet_op;refine hK _ ?_;clear hK K)
    refine Gd.bZ (by first | exact trivial | exact ⟨_,rfl,rfl,rfl⟩) (.bool (eM day x y)) (args:=[ncV x,ncV y,.int .i64 day]) rfl rfl rfl rfl (by kernel_rfl) rfl rfl (fun m=>(HFL.out x y HSX.out HSY.out m.1 (LW m)).mono fun _ _ ⟨h1,h2⟩=>⟨h1,h2⟩) ?_
    simp only [Act.put,UY,UZ,V0]
    refine Gd.dT (fun m=>?_)
    have Lm:=LL m
    obtain ⟨wm,hwm⟩:=m
    have Lm:Ext wr wm:=Lm
    have ZM:=VR (ZJ.out.tr Lm)
    clear LL LO LW p0 p1 p2 p3 p4 p5 p6 p7 p8 p9 p10 q0 q1 q2 q3 q4 q5 q6 q7 q8 q9 q10 hw1 X XW hcx Lm ZJ
    show wpList _ _ _ _ _ _
    obtain ⟨f,hf⟩:∃ f,eM day x y=f:=⟨_,rfl⟩
    rw [hf]
    cases f
    · have HN2:Hid (∀ (i:Nat) (a:NC),i<j+1→L[i]?=some a→eM day a y=false):=VR (by
       intro i a hi ha
       rcases Nat.lt_succ_iff_lt_or_eq.1 hi with q | q
       · exact HNO.out i a q ha
       · rw [q,HXX.out] at ha
         injection ha with ha
         rw [← ha]
         exact hf)
      clear hf hcy
      go_wp2_with fail
      go_roundw
      case rel=>exact ⟨j+1,by omega,rfl,by go_num,ZM,HN2⟩
      case measure=>simp [intOf];omega
    · have HF:=VR (show f9 day L (pool.take (k+1))=N++[y] by rw [HSN.out];exact zO ⟨K2.out,HM.out,Q0 HXX.out hf⟩)
      have HB2:=VR (FF (VD HY.out) HM.out HB.out)
      have X:=Z.out.ext.tr ZM.out.ext
      have q0:=(X.cell (p:=⟨b,o+k*11,none⟩) hbl).trans hcy.1
      have q1:=(X.cell (p:=⟨b,o+k*11+1,none⟩) hbl).trans hcy.2.1
      have q2:=(X.cell (p:=⟨b,o+k*11+2,none⟩) hbl).trans hcy.2.2.1
      have q3:=(X.cell (p:=⟨b,o+k*11+3,none⟩) hbl).trans hcy.2.2.2.1
      have q4:=(X.cell (p:=⟨b,o+k*11+4,none⟩) hbl).trans hcy.2.2.2.2.1
      have q5:=(X.cell (p:=⟨b,o+k*11+5,none⟩) hbl).trans hcy.2.2.2.2.2.1
      have q6:=(X.cell (p:=⟨b,o+k*11+6,none⟩) hbl).trans hcy.2.2.2.2.2.2.1
      have q7:=(X.cell (p:=⟨b,o+k*11+7,none⟩) hbl).trans hcy.2.2.2.2.2.2.2.1
      have q8:=(X.cell (p:=⟨b,o+k*11+8,none⟩) hbl).trans hcy.2.2.2.2.2.2.2.2.1
      have q9:=(X.cell (p:=⟨b,o+k*11+9,none⟩) hbl).trans hcy.2.2.2.2.2.2.2.2.2.1
      have q10:=(X.cell (p:=⟨b,o+k*11+10,none⟩) hbl).trans hcy.2.2.2.2.2.2.2.2.2.2
      have eA:Ext wm (wm.alloc (.cells (aF y).toArray 56)):=(Below.refl _ _).alloc (UX _) _
      have HRK:=VR (rL wm y)
      have HOA:=VR (ZM.out.tr eA)
      unfold aF at HRK HOA
      clear eA hf hcy X
      go_wp2_with (refine bP (k:=11) (by decide) gU (n:=N.length) (m:=1) (B:=wo.heap.size) HOA.out.own (by rw [bF]) HRK.out (by rfl) (dO y) HOA.out.ext (by have:=HLN.out;omega) (by have:=HLN.out;unfold maxLen;omega) HOA.out.ext.size rfl rfl rfl rfl ?_;intro A8 n8 c8 w8 hn8 o8 x8 _)
      have hn8:n8=(N++[y]).length:=by rw [V5];exact hn8.out
      subst hn8
      have Z9:Hid (LsZ wo w8 (.slice A8 (N++[y]).length c8) (N++[y])):=VR ⟨x8,by rw [← eE];exact o8,_,_,rfl⟩
      clear x8 o8 q0 q1 q2 q3 q4 q5 q6 q7 q8 q9 q10
      go_wp2_with fail
      go_roundw
      case rel=>repeat (first | exact ⟨k+1,by omega,by go_num,by rw [HF.out];exact Z9,by rw [HF.out];exact HB2⟩ | exact ⟨⟨k+1,by omega,by go_num,by rw [HF.out];exact Z9,by rw [HF.out];exact HB2⟩,rfl⟩ | refine ⟨_,?_⟩)
      case measure=>simp [intOf];omega
end Go.Proofs.YtkjplpmogfmhkaaGreatDoor
