/- Parts Re Ky Ae of the proof. -/
import Derived.Test.YtkjplpmogfmhkaaGreatDoorHay
namespace Go.Proofs.YtkjplpmogfmhkaaGreatDoor
open Go.RowKit
set_option linter.unusedVariables false
set_option maxRecDepth 100000
def uC (r:RV) (e s:Int):RV:=⟨r.st,r.num,r.day,r.nxt,r.ser,r.iss,e,s⟩
def eT (k:Int) (r:RV):RV:=if ckR r=0/\sK k=0 then uC r (sE k (dK r)) (sS k (dK r)) else bY
def kE (k:Int) (r:RV):Int:=if ckR r=0 then sK k else ckR r
theorem BR (r:RV):(byR r).length<=400:=by
 unfold byR
 split
 · rename_i h;exact wT h
 · simp
def UR (w:World) (v:Value) (r:RV) (k:Int) (e:Ending) (w':World):Prop:=∃ A n c,e=.returned (.tuple #[rvV r (.slice A n c),.int .i64 k])/\RdI w' .i64 (.slice A n c) r.ser/\Ext w w'/\(.slice A n c=v \/ .slice A n c=Value.slice none 0 0)
set_option maxHeartbeats 8000000 in
theorem yA (k:Int) (r:RV) (v:Value) (w:World) (hv:RdI w .i64 v r.ser) (hs:r.st.length<=maxLen) (E:dS w 0):Calls Tryz.prog 79 #[.int .i64 k,rvV r v] w (UR w v (eT k r) (kE k r)):=by
 obtain ⟨wz,hwz,T⟩:=wV w r v
 have HB:=ZH (fun W (e:Ext w W)=>qU r v W (hv.ext e) hs)
 have HV:=ZH (fun W (e:Ext w W)=>hv.ext e)
 obtain ⟨A,n,c,rfl,hn,hnc,hcm,hel⟩:=hv.ints
 subst hn
 clear hel hv
 unfold rvV
 go_enter Tryz.func79,Tryz.ntmps79
 go_wp2_with fail
 rw [<- hwz]
 clear hwz
 refine (HB.out _ T.ext).mono ?_
 rintro e w1 ⟨A1,n1,c1,rfl,hn1,r1,b1⟩
 have T1:=T.tr b1
 clear T
 have x1:=T1.ext
 have h1lt:w.heap.size+1<w1.heap.size:=T1.r.lt
 by_cases hc:ckR r=0
 · have HK:=ZH hc
   rw [hc]
   have hlen:=BR r
   clear hc
   go_wp2_with fail
   refine (mS k _ r1 (by omega) (E.below x1)).mono ?_
   rintro e w2 ⟨rfl,b2⟩
   have T2:=T1.tr b2
   have x2:=T2.ext
   clear T1 x1 hn1 r1 hlen
   unfold sgV
   rw [show byR r=dK r from if_pos HK.out]
   by_cases hk:sK k=0
   · have HI:=ZH (show eT k r=uC r (sE k (dK r)) (sS k (dK r)) from if_pos ⟨HK.out,hk⟩)
     have HJ:=ZH (show kE k r=0 by unfold kE;rw [if_pos HK.out,hk])
     rw [hk]
     clear hk
     generalize sE k (dK r)=es at *
     generalize sS k (dK r)=ss at *
     obtain ⟨wa,hwa,sa⟩:=mT w2 es ss
     have hwb:=hwa.symm
     clear hwa
     have T3:=T2.tr sa.ext
     have s0:=sa.c0
     have s1:=sa.c1
     have sl:=sa.lt
     clear sa
     obtain ⟨t0,t1,t2,t3,t4,t5,t6,t7⟩:=T3.c.cells
     have hl1:=T3.c.lt
     have hlr:=T3.r.lt
     have f6:=T3.c.frozen 6
     have f7:=T3.c.frozen 7
     obtain ⟨r0,r1,r2,r3,r4,r5,r6,r7⟩:=T3.r.cells
     have g0:=T3.r.frozen 0
     have g1:=T3.r.frozen 1
     have g2:=T3.r.frozen 2
     have g3:=T3.r.frozen 3
     have g4:=T3.r.frozen 4
     have g5:=T3.r.frozen 5
     have g6:=T3.r.frozen 6
     have g7:=T3.r.frozen 7
     go_wp2_with fail
     have TR:=(T3.r.other (b:=w.heap.size) (i:=6) (u:=.int .i64 es) (by omega)).other (b:=w.heap.size) (i:=7) (u:=.int .i64 ss) (by omega)
     have XZ:=ZH (lK (aG (i:=7) (v:=.int .i64 ss) (aG (i:=6) (v:=.int .i64 es) T3.ext (YF _)) (YF _)) (Nat.le_succ _) (uC r es ss) (.slice A r.ser.length c))
     have TZ:bM (GN ((wa.setCell ⟨w.heap.size,6,none⟩ (.int .i64 es)).setCell ⟨w.heap.size,7,none⟩ (.int .i64 ss)) (w.heap.size+1) (.string (aK r.st)) (.int .i64 r.num) (.int .i64 r.day) (.int .i64 r.nxt) (.slice A r.ser.length c) (.int .i64 r.iss) (.int .i64 es) (.int .i64 ss)) (w.heap.size+1) (uC r es ss) (.slice A r.ser.length c):=TR.setR (uC r es ss) (.slice A r.ser.length c)
     refine bodyPost_ret (v:=.tuple #[rvV (uC r es ss) (.slice A r.ser.length c),.int .i64 0]) ?_ rfl ⟨A,r.ser.length,c,by rw [HI.out,HJ.out],by rw [HI.out];exact HV.out _ XZ.out,XZ.out,.inl rfl⟩
     obtain ⟨q0,q1,q2,q3,q4,q5,q6,q7⟩:=TZ.cells
     clear r0 r1 r2 r3 r4 r5 r6 r7 t0 t1 t2 t3 t4 t5 t6 t7
     simp [results,Tryz.results79,go_sem,rvV,uC,q0,q1,q2,q3,q4,q5,q6,q7]
   · have HI:=ZH (show eT k r=bY from if_neg (fun q=>hk q.2))
     have HJ:=ZH (show kE k r=sK k from if_pos HK.out)
     have hb:(sK k != 0)=true:=by simpa using hk
     clear hk
     generalize sE k (dK r)=es at *
     generalize sS k (dK r)=ss at *
     obtain ⟨wa,hwa,sa⟩:=mT w2 es ss
     have hwb:=hwa.symm
     clear hwa
     have T3:=T2.tr sa.ext
     have s0:=sa.c0
     have s1:=sa.c1
     have sl:=sa.lt
     clear sa
     obtain ⟨t0,t1,t2,t3,t4,t5,t6,t7⟩:=T3.c.cells
     have hl1:=T3.c.lt
     have hlr:=T3.r.lt
     have f6:=T3.c.frozen 6
     have f7:=T3.c.frozen 7
     obtain ⟨r0,r1,r2,r3,r4,r5,r6,r7⟩:=T3.r.cells
     have g0:=T3.r.frozen 0
     have g1:=T3.r.frozen 1
     have g2:=T3.r.frozen 2
     have g3:=T3.r.frozen 3
     have g4:=T3.r.frozen 4
     have g5:=T3.r.frozen 5
     have g6:=T3.r.frozen 6
     have g7:=T3.r.frozen 7
     go_wp2_with fail
     have TZ:bM (GN wa (w.heap.size+1) (.string ⟨#[]⟩) (.int .i64 0) (.int .i64 0) (.int .i64 0) (.slice none 0 0) (.int .i64 0) (.int .i64 0) (.int .i64 0)) (w.heap.size+1) bY (.slice none 0 0):=T3.r.setR bY (.slice none 0 0)
     refine bodyPost_ret (v:=.tuple #[rvV bY (.slice none 0 0),.int .i64 (sK k)]) ?_ rfl ⟨none,0,0,by rw [HI.out,HJ.out],by rw [HI.out];exact Rd.nil_ _,lK T3.ext (by omega) bY (.slice none 0 0),.inr rfl⟩
     obtain ⟨q0,q1,q2,q3,q4,q5,q6,q7⟩:=TZ.cells
     clear r0 r1 r2 r3 r4 r5 r6 r7 t0 t1 t2 t3 t4 t5 t6 t7
     simp [results,Tryz.results79,go_sem,rvV,q0,q1,q2,q3,q4,q5,q6,q7]
 · have HI:=ZH (show eT k r=bY from if_neg (fun q=>hc q.1))
   have HJ:=ZH (show kE k r=ckR r from if_neg hc)
   have hb:(ckR r != 0)=true:=by simpa using hc
   clear hc r1 hn1
   obtain ⟨r0,r1,r2,r3,r4,r5,r6,r7⟩:=T1.r.cells
   have hlr:=T1.r.lt
   have g0:=T1.r.frozen 0
   have g1:=T1.r.frozen 1
   have g2:=T1.r.frozen 2
   have g3:=T1.r.frozen 3
   have g4:=T1.r.frozen 4
   have g5:=T1.r.frozen 5
   have g6:=T1.r.frozen 6
   have g7:=T1.r.frozen 7
   go_wp2_with fail
   have TZ:bM (GN w1 (w.heap.size+1) (.string ⟨#[]⟩) (.int .i64 0) (.int .i64 0) (.int .i64 0) (.slice none 0 0) (.int .i64 0) (.int .i64 0) (.int .i64 0)) (w.heap.size+1) bY (.slice none 0 0):=T1.r.setR bY (.slice none 0 0)
   refine bodyPost_ret (v:=.tuple #[rvV bY (.slice none 0 0),.int .i64 (ckR r)]) ?_ rfl ⟨none,0,0,by rw [HI.out,HJ.out],by rw [HI.out];exact Rd.nil_ _,lK x1 (by omega) bY (.slice none 0 0),.inr rfl⟩
   obtain ⟨q0,q1,q2,q3,q4,q5,q6,q7⟩:=TZ.cells
   clear r0 r1 r2 r3 r4 r5 r6 r7
   simp [results,Tryz.results79,go_sem,rvV,q0,q1,q2,q3,q4,q5,q6,q7]
def GSl (l:List NC):aE:=fun v w=>∃ A n c,v=.slice A n c/\n=l.length/\RdN w (.slice A n c) l
theorem m7 (l:List NC):cZ (GSl l):=fun v w w' e ⟨A,n,c,h1,h2,h3⟩=>⟨A,n,c,h1,h2,RdK.ext h3 e⟩
theorem EF.gsl {w:World}{l:List NC}{e:Ending}{w':World} (h:EF w l e w'):∃ v,e=.returned v/\Ext w w'/\GSl l v w':=by
 obtain ⟨h1,A,c,h2,h3⟩:=h
 exact ⟨_,h2,h1,A,_,c,rfl,rfl,h3⟩
set_option maxHeartbeats 2000000 in
theorem GV {v1 v2:Value}{l:List NC} (w:World) (h1:RdN w v1 l) (h2:RdN w v2 l) :
 Calls Tryz.prog 146 #[v1,v2] w (dR w (.bool true)):=by
 obtain ⟨A1,n1,c1,rfl,hn1,hnc1,hcm1,hel1⟩:=h1.at_
 subst hn1
 have HEL1:=ZH hel1
 unfold maxLen at hcm1
 obtain ⟨A2,n2,c2,rfl,hn2,hnc2,hcm2,hel2⟩:=h2.at_
 subst hn2
 have HEL2:=ZH hel2
 unfold maxLen at hcm2
 have HEQ:=ZH (fun W (y:NC)=>(by have h:=zF W y y;simpa using h:(binOp .neq 56 (ncV y) (ncV y)).run Tryz.prog W=.ok (.bool false) W))
 clear hel1 hel2 h1 h2
 go_enter Tryz.func146,Tryz.ntmps146
 go_wp2_with fail
 go_loopw [5] (fun i wr=>∃ k:Nat,k<=l.length/\i=.int .i64 (k:Int)/\Ext w wr) (fun i _=>l.length - (intOf i).toNat)
 case atStart=>exact ⟨0,YK _,rfl,Below.refl _ _⟩
 case round =>
  obtain ⟨k,hk,rfl,X⟩:=hrel
  by_cases hlt:k<l.length
  case neg =>
   obtain rfl:k=l.length:=by omega
   have HX:=ZH X
   clear X
   go_wp2_with fail
   go_ret
   exact ⟨rfl,HX.out⟩
  case pos =>
  obtain ⟨y,hy⟩:∃ y,l[k]?=some y:=⟨_,YL hlt⟩
  obtain ⟨b1,o1,rfl,hb1,hc1⟩:=HEL1.out (by omega)
  obtain ⟨b2,o2,rfl,hb2,hc2⟩:=HEL2.out (by omega)
  have g1:=hc1 k y hy
  have g2:=hc2 k y hy
  have eqq:=fun W=>HEQ.out W y
  unfold ncV at eqq
  clear hc1 hc2 hy
  have wi1:IntKind.i64.wrap ((k:Int))=(k:Int):=IntWalk.i64_in _ (by omega)
  have zi1:(0:Int)<=(k:Int):=by omega
  have li1:(k:Int)<(l.length:Int):=by omega
  have ti1:((k:Int)).toNat=k:=by omega
  have wk:IntKind.i64.wrap ((k:Int)+1)=(k:Int)+1:=IntWalk.i64_in _ (by omega)
  have p0:=(X.cell (p:=⟨b1,o1+k*11,none⟩) hb1).trans g1.1
  have p1:=(X.cell (p:=⟨b1,o1+k*11+1,none⟩) hb1).trans g1.2.1
  have p2:=(X.cell (p:=⟨b1,o1+k*11+2,none⟩) hb1).trans g1.2.2.1
  have p3:=(X.cell (p:=⟨b1,o1+k*11+3,none⟩) hb1).trans g1.2.2.2.1
  have p4:=(X.cell (p:=⟨b1,o1+k*11+4,none⟩) hb1).trans g1.2.2.2.2.1
  have p5:=(X.cell (p:=⟨b1,o1+k*11+5,none⟩) hb1).trans g1.2.2.2.2.2.1
  have p6:=(X.cell (p:=⟨b1,o1+k*11+6,none⟩) hb1).trans g1.2.2.2.2.2.2.1
  have p7:=(X.cell (p:=⟨b1,o1+k*11+7,none⟩) hb1).trans g1.2.2.2.2.2.2.2.1
  have p8:=(X.cell (p:=⟨b1,o1+k*11+8,none⟩) hb1).trans g1.2.2.2.2.2.2.2.2.1
  have p9:=(X.cell (p:=⟨b1,o1+k*11+9,none⟩) hb1).trans g1.2.2.2.2.2.2.2.2.2.1
  have p10:=(X.cell (p:=⟨b1,o1+k*11+10,none⟩) hb1).trans g1.2.2.2.2.2.2.2.2.2.2
  have q0:=(X.cell (p:=⟨b2,o2+k*11,none⟩) hb2).trans g2.1
  have q1:=(X.cell (p:=⟨b2,o2+k*11+1,none⟩) hb2).trans g2.2.1
  have q2:=(X.cell (p:=⟨b2,o2+k*11+2,none⟩) hb2).trans g2.2.2.1
  have q3:=(X.cell (p:=⟨b2,o2+k*11+3,none⟩) hb2).trans g2.2.2.2.1
  have q4:=(X.cell (p:=⟨b2,o2+k*11+4,none⟩) hb2).trans g2.2.2.2.2.1
  have q5:=(X.cell (p:=⟨b2,o2+k*11+5,none⟩) hb2).trans g2.2.2.2.2.2.1
  have q6:=(X.cell (p:=⟨b2,o2+k*11+6,none⟩) hb2).trans g2.2.2.2.2.2.2.1
  have q7:=(X.cell (p:=⟨b2,o2+k*11+7,none⟩) hb2).trans g2.2.2.2.2.2.2.2.1
  have q8:=(X.cell (p:=⟨b2,o2+k*11+8,none⟩) hb2).trans g2.2.2.2.2.2.2.2.2.1
  have q9:=(X.cell (p:=⟨b2,o2+k*11+9,none⟩) hb2).trans g2.2.2.2.2.2.2.2.2.2.1
  have q10:=(X.cell (p:=⟨b2,o2+k*11+10,none⟩) hb2).trans g2.2.2.2.2.2.2.2.2.2.2
  clear g1 g2
  go_upto_region 6 with fail
  (go_quiet (fail);have x9:=Ext.drewN_ wr nq;generalize wr.drewN nq=wb at *)
  have X9:=X.tr x9
  clear X x9 p0 p1 p2 p3 p4 p5 p6 p7 p8 p9 p10 q0 q1 q2 q3 q4 q5 q6 q7 q8 q9 q10 eqq
  go_wp2_with fail
  go_roundw
  case rel=>exact ⟨k+1,by omega,by go_num,X9⟩
  case measure=>simp [intOf];omega
end Go.Proofs.YtkjplpmogfmhkaaGreatDoor
