/- Parts Bm of the proof. -/
import Derived.Test.YtkjplpmogfmhkaaGreatDoorHbn
namespace Go.Proofs.YtkjplpmogfmhkaaGreatDoor
open Go.RowKit
open Gd (dT kV)
set_option linter.unusedVariables false
set_option maxRecDepth 100000
set_option maxHeartbeats 16000000 in
theorem JG {v1:Value}{l:List Int} (who num what bye later:Int) (w:World) (h:RdI w .i64 v1 l) (hw:∀ x ∈ l,k8 x) (h1:k8 who) (h1b:k8 num) (h2:k8 what) (h3:k8 bye) (h4:k8 later) (E:Env w) :
 Calls Tryz.prog 13 #[v1,.int .i64 who,.int .i64 num,.int .i64 what,.int .i64 bye,.int .i64 later] w (dR w (.bool true)):=by
 have HA:=ZH (fun W (e:Ext w W)=>tU W (E.ext e))
 have HL1:=ZH (wH w h)
 have HWO:=ZH (fun (q:l.length<=80)=>rI w h hw (by omega) E.r)
 have HM6:=ZH (fun W=>iP bye 40 W h3.1 h3.2 (by omega))
 have HM9:=ZH (fun W=>iP later 300 W h4.1 h4.2 (by omega))
 have b6:=iO (x:=bye) (m:=40) (by omega)
 have b9:=iO (x:=later) (m:=300) (by omega)
 have HE:=ZH E
 have HWF:=ZH (And.intro h1 (And.intro h1b h2))
 clear E h hw h1 h1b h2 h3 h4
 go_enter Tryz.func13,Tryz.ntmps13
 go_wp2_with fail
 refine (HL1.out).mono ?_
 rintro e w' ⟨rfl,rfl⟩
 by_cases a1:l.length<=80
 case neg =>
  rw [decide_eq_false a1]
  go_wp2_with fail
  refine (HA.out _ (Below.refl _ _)).mono ?_
  rintro e w3 ⟨rfl,b3⟩
  go_wp2_with fail
  go_ret
  exact ⟨rfl,b3⟩
 rw [decide_eq_true a1]
 have HWO:=ZH (HWO.out a1)
 clear a1 HL1
 go_wp2_with fail
 refine (HWO.out).mono ?_
 rintro e w1 ⟨A,c,s0,s1,s2,s3,s4,S,day,x,y,rfl,b1,hdy,rA,uA,vA,sA,wsb,rsl,one⟩
 obtain ⟨wc,hwc,Z0⟩:=WL b1 rA uA vA sA wsb rsl one hdy
 have H1:=ZH (zX (v:=.slice A 2 c) s0 s1 s2 s3 s4 day rfl)
 have HALL:=ZH (aB w1 (.cells #[.slice none 0 0,.slice none 0 0,.slice none 0 0,.slice none 0 0,.slice none 0 0,.slice none 0 0,.int .i64 0] 100))
 clear HWO b1 rA uA vA sA wsb rsl one
 go_upto_region 4 with (refine aL rfl 100 _ _ rfl rfl w1.heap.size (eU (.slice A 2 c) s0 s1 s2 s3 s4 day) rfl rfl 100 #[.slice none 0 0,.slice none 0 0,.slice none 0 0,.slice none 0 0,.slice none 0 0,.slice none 0 0,.int .i64 0] HALL.out rG rfl H1.out ?_)
 rw [<- hwc]
 clear hwc HALL H1
 generalize w1.heap.size=P at *
 clear w1
 have Z:=ZH Z0
 clear Z0
 obtain ⟨i,xi,ai,di,vs,ks,hi,hxi,Si,Vs,vl,hks⟩:=WN Z.out.au Z.out.av who
 generalize fL bye 40=m6 at *
 generalize fL later 300=m9 at *
 have wm6:IntKind.i64.wrap (m6 - 20)=m6 - 20:=IntWalk.i64_in _ (by omega)
 have hlx:=Si.li
 have hlen:=Si.ai.len
 have hne:=Si.ne
 have hst:xi.st.length<=maxLen:=by rw [Si.st];have:=Si.ai.st.1.2;unfold maxLen;omega
 have HLI:=ZH (fun W (e:Ext wc W)=>JE s0 s1 s2 s3 s4 day who num what (m6 - 20) i xi vs ai.secs ks W (RdK.ext Z.out.rd e) hi hxi (RdK.r1 (Vs.ext e).rd) (by omega) (RdK.r1 (Si.S.ext e).rd) hks (by omega) hst (by omega) (by omega) Si.one (by have:=Z.out.dy;omega) (by have:=Z.out.dy;omega) HWF.out.1 HWF.out.2.1 HWF.out.2.2 (by omega) (by omega) (HE.out.ext (Z.out.ext.tr e)).r)
 clear hi hxi Si Vs vl hks HWF hlx hlen hne hst
 refine Gt.aI (r:=(RG rT (fun k=>wc.heap.size<=k))) 10 (by kernel_rfl) (by kernel_rfl) ?_
 simp only [YT,YQ,YU,YV]
 intro wq hw1
 have LR:∀ m1:(RG rT (fun k=>wc.heap.size<=k)).Lt wq,RgS rT (fun k=>wc.heap.size<=k) wc m1.1:=fun m1=>RgS.tr hw1 m1.2
 have LB:∀ m1:(RG rT (fun k=>wc.heap.size<=k)).Lt wq,Ext wc m1.1:=fun m1=>(LR m1).below (fun _ h=>h) (YF _)
 have KW:=fun m1:(RG rT (fun k=>wc.heap.size<=k)).Lt wq=>(Z.out.tr (LB m1)).all
 refine Gt.wpX_midK (Gd.gR rfl) (P) (0) ([.slice A 2 c,slV s0,slV s1,slV s2,slV s3,slV s4,.int .i64 day]) rfl rfl rfl rfl rfl KW Tryz.underlying100 rfl rG ?_
 simp only [Act.put,YG,YI,YH]
 repeat (refine Gt.aC rfl fun K hK=>?_;go_big_quiet_op;refine hK _ ?_;clear hK K)
 refine Gt.bN (Gd.gR rfl) (.int .i64 m6) (args:=[.int .i64 bye,.int .i64 40]) rfl rfl rfl rfl (by kernel_rfl) rfl rfl (fun m1=>(HM6.out m1.1).mono fun _ _ ⟨h1,h2⟩=>⟨h1,h2 ▸ Below.refl _ _⟩) ?_
 simp only [Act.put,YG,YI,YH]
 repeat (refine Gt.aC rfl fun K hK=>?_;go_big_quiet_op;refine hK _ ?_;clear hK K)
 refine Gt.aR (Gd.gR rfl) GLv (JF _) (fun _=>[.agg (eU (.slice A 2 c) s0 s1 s2 s3 s4 day),.int .i64 who,.int .i64 num,.int .i64 what,.int .i64 (m6 - 20)]) rfl rfl rfl rfl rfl (by kernel_rfl) rfl (fun _=>rfl) (fun m1 f hf=>(HLI.out m1.1 (LB m1)).mono fun e w' ⟨m,A,n,c,h1,h2,h3⟩=>⟨_,h1,h2,m,A,n,c,rfl,h3⟩) ?_
 simp only [Act.put,YG,YI,YH]
 refine Gt.wpX_allocR8 wc.heap.size (fun m1=>(LB m1).size) (CG _ _) (Gd.gR rfl) rfl rfl rfl rfl ?_
 simp only [Act.put,YG,YI,YH]
 refine Gt.dP (Gd.gR rfl) (yM wc.heap.size) (fun f=>f 14) (fun f=>f 35) rfl rfl rfl rfl rfl (fun _=>rfl) (fun _=>rfl) yM.ext yM.st (fun m1 f hf=>?_) ?_
 · obtain ⟨g,e9,hg,cs9,q1,q2⟩:=hf 14 _ rfl rfl
   obtain ⟨m,A,n,c,h5,o5,r5⟩:=hf 35 _ rfl rfl
   rw [e9,h5]
   have hR:=RgS.setRow (S:=[103]) (G:=fun q=>wc.heap.size<=q) (cs':=bI m (.slice A n c)) q1 (List.mem_singleton.2 rfl) hg q2.symm
   exact ⟨_,dQ (cells:=bI m (.slice A n c)) q1 bA q2 (fW m A n c),⟨XP,hR⟩,g,m,A,n,c,rfl,hg,aX q1,o5.rg (by decide) (fun _ _=>YK _) hR,r5⟩
 refine Gt.wpX_endG rfl (fun m1 f hf hqs=>?_)
 have hq:yM wc.heap.size (f 14) m1.1:=hqs _ YZ
 obtain ⟨gm,m,Am,nm,cm,e9,hgm,T9,L9⟩:=hq
 simp only [bO]
 simp only [Act.put,YG,YI,YH]
 rw [e9]
 have Z2:=ZH (Z.out.tr (LB m1))
 have T2:=ZH T9
 have L2:=ZH L9
 clear hqs hf e9 KW LR LB hw1 Z T9 L9 HLI hgm
 generalize m1.1=w2 at *
 generalize f 35=f35 at *
 clear m1 f
 show wpList _ _ _ _ _ _
 have wd1:IntKind.i64.wrap (day+m9)=day+m9:=IntWalk.i64_in _ (by have:=Z2.out.dy;omega)
 obtain ⟨dd,hdd⟩:∃ dd,day+m9 - 20=dd:=⟨_,rfl⟩
 have wd2:IntKind.i64.wrap (day+m9 - 20)=dd:=by rw [hdd];exact IntWalk.i64_in _ (by have:=Z2.out.dy;omega)
 clear hdd
 go_upto_region 5 with fail
 refine Gd.aI 6 (by kernel_rfl) (by kernel_rfl) ?_
 simp only [YT,YQ,YU,YV]
 intro wq hw1
 have LL:∀ m1:Lt wq,Ext w2 m1.1:=fun m1=>hw1.tr m1.2
 have p6:=fun m1:Lt wq=>(Z2.out.tr (LL m1)).c6
 have pl:=fun m1:Lt wq=>aA (Z2.out.tr (LL m1)).wo
 repeat (refine Gd.aC rfl fun K hK=>?_;go_big_quiet_op;refine hK _ ?_;clear hK K)
 refine Gd.bN (Gd.gR rfl) (.int .i64 m9) (args:=[.int .i64 later,.int .i64 300]) rfl rfl rfl rfl (by kernel_rfl) rfl rfl (fun m1=>(HM9.out m1.1).mono fun _ _ ⟨h1,h2⟩=>⟨h1,h2 ▸ Below.refl _ _⟩) ?_
 simp only [Act.put,YG,YI,YH]
 repeat (refine Gd.aC rfl fun K hK=>?_;go_big_quiet_op;refine hK _ ?_;clear hK K)
 refine Gd.cQ (fun m1=>?_)
 have Z3:=ZH (Z2.out.tr (LL m1))
 have T3:=ZH (T2.out.ext (LL m1))
 have L3:=ZH (L2.out.1.ext (LL m1))
 have HMS:=ZH L2.out.2
 clear LL p6 pl hw1 Z2 T2 wm6 L2
 generalize m1.1=w3 at *
 clear m1
 show wpList _ _ _ _ _ _
 go_upto_region 6 with fail
 clear wd1 wd2
 have HC:=ZH Z3.out.mid
 have pl:=aA Z3.out.wo
 have HR:=ZH T3.out.row
 have HAC:=ZH (kN s0 s1 s2 s3 s4 S m (.slice Am nm cm) dd w3 Z3.out.st.rd Z3.out.sb.b (RdK.r1 L3.out.rd) HMS.out.1 (by have:=HMS.out.2;omega) (HE.out.ext Z3.out.ext).d)
 go_wp2_with (first | (refine wpList_load_mid rfl 75 _ rfl P 1 rfl [slV s0,slV s1,slV s2,slV s3,slV s4] _ HC.out Tryz.underlying75 rfl aN ?_) | (refine wpList_load_row rfl 103 _ rfl gm rfl 103 (bI m (.slice Am nm cm)) (0,0) _ HR.out Tryz.underlying103 rfl bA ?_))
 refine HAC.out.mono ?_
 rintro e w4 ⟨t0,t1,t2,t3,t4,rfl,SR,b4⟩
 obtain ⟨wf,hwf⟩:∃ wf,wf=w4.alloc (.cells #[.slice t0.1 t0.2.1 t0.2.2,.slice t1.1 t1.2.1 t1.2.2,.slice t2.1 t2.2.1 t2.2.2,.slice t3.1 t3.2.1 t3.2.2,.slice t4.1 t4.2.1 t4.2.2] 75):=⟨_,rfl⟩
 have ef:Ext w4 wf:=by rw [hwf];exact (Below.refl _ _).alloc (YF _) _
 have hf:wf.heap[w4.heap.size]?=some (.cells (aM t0 t1 t2 t3 t4) 75 (0,0)):=by rw [hwf];exact aB w4 _
 have Z5:=ZH (Z3.out.tr (b4.tr ef))
 have T5:=ZH (T3.out.ext (b4.tr ef))
 have L5:=ZH (L3.out.ext (b4.tr ef))
 have SA:=ZH (SR.ext ef)
 have HSA:=ZH hf
 clear ef SR b4 hf HAC HC HR pl Z3 T3 L3
 unfold bH
 go_upto_region 7 with fail
 rw [<- hwf]
 clear hwf
 generalize w4.heap.size=gs at *
 clear w4 w3
 have HC:=ZH Z5.out.mid
 have pl:=aA Z5.out.wo
 have HR:=ZH T5.out.row
 obtain ⟨ps,hps,hsp,hin⟩:=Z5.out.st.v
 have HPS:=ZH (And.intro hps (And.intro hsp hin))
 clear hps hsp hin
 have HAC:=ZH (nP s0 s1 s2 s3 s4 S ps m (.slice Am nm cm) dd wf Z5.out.st.r.rd Z5.out.st.p.rd HPS.out.2.1.rd HPS.out.1 (fun p hp=>(HPS.out.2.2 p hp).rd) Z5.out.st.m.rd Z5.out.sb.b (by have h1:=Z5.out.sl;rw [<- HPS.out.1,List.length_map] at h1;omega) (RdK.r1 L5.out.rd) HMS.out.1 (HE.out.ext Z5.out.ext).r)
 go_wp2_with (first | (refine wpList_load_mid rfl 75 _ rfl P 1 rfl [slV s0,slV s1,slV s2,slV s3,slV s4] _ HC.out Tryz.underlying75 rfl aN ?_) | (refine wpList_load_row rfl 103 _ rfl gm rfl 103 (bI m (.slice Am nm cm)) (0,0) _ HR.out Tryz.underlying103 rfl bA ?_))
 refine HAC.out.mono ?_
 rintro e w6 q6
 obtain ⟨u3,rfl,b6',SS6⟩:=q6.sts Z5.out.st HPS.out.2.2 L5.out
 have HWS:=ZH (Z5.out.sb.accR (r:=m) (day:=dd) HMS.out.2)
 obtain ⟨wg,hwg⟩:∃ wg,wg=w6.alloc (.cells #[.slice s0.1 s0.2.1 s0.2.2,.slice s1.1 s1.2.1 s1.2.2,.slice s2.1 s2.2.1 s2.2.2,.slice u3.1 u3.2.1 u3.2.2,.slice s4.1 s4.2.1 s4.2.2] 75):=⟨_,rfl⟩
 have eg:Ext w6 wg:=by rw [hwg];exact (Below.refl _ _).alloc (YF _) _
 have hf:wg.heap[w6.heap.size]?=some (.cells (aM s0 s1 s2 u3 s4) 75 (0,0)):=by rw [hwg];exact aB w6 _
 have Z7:=ZH (Z5.out.tr (b6'.tr eg))
 have SA7:=ZH (SA.out.ext (b6'.tr eg))
 have HSA7:=ZH ((b6'.tr eg).block _ (aA HSA.out) |>.trans HSA.out)
 have SB7:=ZH ((SS6.kp (Kp.ext eg)).rd)
 have HSB7:=ZH hf
 clear eg SS6 b6' hf HAC HC HR pl Z5 T5 L5 SA HSA HPS q6
 unfold bH
 go_upto_region 8 with fail
 rw [<- hwg]
 clear hwg
 generalize w6.heap.size=gt at *
 clear w6 wf
 have HSS:=ZH (fun W (e:Ext wg W)=>yK t0 t1 t2 t3 t4 s0 s1 s2 u3 s4 (accR S m dd).1 W (SA7.out.ext e) (SB7.out.ext e) HWS.out.ds)
 have HSAR:=ZH SA7.out.r3.rdV
 have HSBR:=ZH SB7.out.r3.rdV
 generalize accR S m dd=ac at *
 clear HWS SA7 SB7
 have hbe:(ac.2 != ac.2)=false:=by simp
 have ka0:wg.cell? ⟨gs,0,none⟩=some (.slice t0.1 t0.2.1 t0.2.2):=by rw [cell_of_row wg gs 0 _ _ _ HSA7.out];rfl
 have ka1:wg.cell? ⟨gs,1,none⟩=some (.slice t1.1 t1.2.1 t1.2.2):=by rw [cell_of_row wg gs 1 _ _ _ HSA7.out];rfl
 have ka2:wg.cell? ⟨gs,2,none⟩=some (.slice t2.1 t2.2.1 t2.2.2):=by rw [cell_of_row wg gs 2 _ _ _ HSA7.out];rfl
 have ka3:wg.cell? ⟨gs,3,none⟩=some (.slice t3.1 t3.2.1 t3.2.2):=by rw [cell_of_row wg gs 3 _ _ _ HSA7.out];rfl
 have ka4:wg.cell? ⟨gs,4,none⟩=some (.slice t4.1 t4.2.1 t4.2.2):=by rw [cell_of_row wg gs 4 _ _ _ HSA7.out];rfl
 have kb0:wg.cell? ⟨gt,0,none⟩=some (.slice s0.1 s0.2.1 s0.2.2):=by rw [cell_of_row wg gt 0 _ _ _ HSB7.out];rfl
 have kb1:wg.cell? ⟨gt,1,none⟩=some (.slice s1.1 s1.2.1 s1.2.2):=by rw [cell_of_row wg gt 1 _ _ _ HSB7.out];rfl
 have kb2:wg.cell? ⟨gt,2,none⟩=some (.slice s2.1 s2.2.1 s2.2.2):=by rw [cell_of_row wg gt 2 _ _ _ HSB7.out];rfl
 have kb3:wg.cell? ⟨gt,3,none⟩=some (.slice u3.1 u3.2.1 u3.2.2):=by rw [cell_of_row wg gt 3 _ _ _ HSB7.out];rfl
 have kb4:wg.cell? ⟨gt,4,none⟩=some (.slice s4.1 s4.2.1 s4.2.2):=by rw [cell_of_row wg gt 4 _ _ _ HSB7.out];rfl
 have gl1:=aA HSA7.out
 have gl2:=aA HSB7.out
 go_wp2_with fail
 refine (HSS.out wg (Below.refl _ _)).mono ?_
 rintro e w8 ⟨rfl,b8⟩
 have Z8:=ZH (Z7.out.tr b8)
 have HSA8:=ZH ((b8.block _ (aA HSA7.out)).trans HSA7.out)
 have HSB8:=ZH ((b8.block _ (aA HSB7.out)).trans HSB7.out)
 have HRA8:=ZH (HSAR.out.ext b8)
 have HRB8:=ZH (HSBR.out.ext b8)
 clear b8 HSS Z7 HSA7 HSB7 HSAR HSBR hbe ka0 ka1 ka2 ka3 ka4 kb0 kb1 kb2 kb3 kb4 gl1 gl2
 clear wg
 go_upto_region 11 with fail
 obtain ⟨gA,oA,rfl,hglr,-,h2c,hcm,-⟩:=UE Z8.out.rd (i:=0) (x:=x) rfl
 unfold maxLen at hcm
 have HRW:=ZH (fun (i:Nat) (xi:AB) (hxi:[x,y][i]?=some xi)=>(by
  obtain ⟨g,o,e,_,_,_,_,h⟩:=UE Z8.out.rd hxi
  injection e with e
  injection e with e1 e2
  subst e1 e2
  exact h:w8.rangeAt gA (oA+i*33) (abL xi)))
 have HON:=ZH (fun (i:Nat) (xi:AB) (hxi:[x,y][i]?=some xi)=>(by
  obtain ⟨a,ds,h⟩:=Z8.out.au xi (YS hxi)
  exact dE h.one:(bE xi).all (·.oneCell')=true))
 go_loopw [20,21] (fun s20 s21 wr=>∃ (i:Nat) (u:Value),i<=2/\s20=.int .i64 (i:Int)/\s21=u/\Hid (Ext w8 wr)) (fun s20 _ _=>2 - (intOf s20).toNat)
 case atStart=>exact ⟨0,_,by omega,rfl,rfl,ZH (Below.refl _ _)⟩
 case round =>
  obtain ⟨i,u,hi,rfl,rfl,X⟩:=hrel
  by_cases hlt:i<2
  case neg =>
   go_wp2_with fail
   refine (HA.out wr (Z8.out.ext.tr X.out)).mono ?_
   rintro e w9 ⟨rfl,b9⟩
   have X9:=ZH (Z8.out.ext.tr (X.out.tr b9))
   clear b9
   go_wp2_with fail
   go_ret
   exact ⟨rfl,X9.out⟩
  case pos =>
  obtain ⟨xi,hxi⟩:∃ z,[x,y][i]?=some z:=⟨_,YL (by show i<2;exact hlt)⟩
  have wi:IntKind.i64.wrap ((i:Int)+1)=(i:Int)+1:=IntWalk.i64_in _ (by omega)
  have wi1:IntKind.i64.wrap ((i:Int))=(i:Int):=IntWalk.i64_in _ (by omega)
  have zi1:(0:Int)<=(i:Int):=by omega
  have li1:(i:Int)<2:=by omega
  have ti1:((i:Int)).toNat=i:=by omega
  have HRI:=ZH (j3 (HRW.out i xi hxi) hglr X.out)
  have HZA:=ZH (aB wr (.cells (.string ⟨#[]⟩::.slice none 0 0::.slice none 0 0::.slice none 0 0::.string ⟨#[]⟩::.int .i64 0::.int .i64 0::.int .i64 0::.int .i64 0::.int .i64 0::.int .i64 0::.int .i64 0::.int .i64 0::.int .i64 0::.int .i64 0::.string ⟨#[]⟩::.int .i64 0::.int .i64 0::.int .i64 0::.int .i64 0::.int .i64 0::.int .i64 0::.int .i64 0::.int .i64 0::.int .i64 0::.int .i64 0::.int .i64 0::.int .i64 0::.int .i64 0::.int .i64 0::.slice none 0 0::.slice none 0 0::.slice none 0 0::([]:List Value)).toArray 98))
  have HO:=ZH (HON.out i xi hxi)
  obtain ⟨wk,hwk⟩:∃ wk,wk=(wr.alloc (.cells (.string ⟨#[]⟩::.slice none 0 0::.slice none 0 0::.slice none 0 0::.string ⟨#[]⟩::.int .i64 0::.int .i64 0::.int .i64 0::.int .i64 0::.int .i64 0::.int .i64 0::.int .i64 0::.int .i64 0::.int .i64 0::.int .i64 0::.string ⟨#[]⟩::.int .i64 0::.int .i64 0::.int .i64 0::.int .i64 0::.int .i64 0::.int .i64 0::.int .i64 0::.int .i64 0::.int .i64 0::.int .i64 0::.int .i64 0::.int .i64 0::.int .i64 0::.int .i64 0::.slice none 0 0::.slice none 0 0::.slice none 0 0::([]:List Value)).toArray 98)).setRow wr.heap.size (bE xi):=⟨_,rfl⟩
  have ek:Ext wr wk:=by rw [hwk];exact aS ((Below.refl _ _).alloc (YF _) _) (YF _) _
  have TK:aU wk wr.heap.size xi:=by rw [hwk];exact aX HZA.out
  have p0:=(Z8.out.tr X.out).c0
  have pl:=aA (Z8.out.tr X.out).wo
  have gl:=YX hglr X.out.size
  clear hxi
  go_upto_region 14 with (first | (refine wpList_load_mid rfl 98 _ rfl gA (oA+i*33) rfl (abL xi) _ HRI.out Tryz.underlying98 rfl bX ?_) | (refine aL rfl 98 _ _ rfl rfl wr.heap.size (bE xi) rfl rfl 98 (.string ⟨#[]⟩::.slice none 0 0::.slice none 0 0::.slice none 0 0::.string ⟨#[]⟩::.int .i64 0::.int .i64 0::.int .i64 0::.int .i64 0::.int .i64 0::.int .i64 0::.int .i64 0::.int .i64 0::.int .i64 0::.int .i64 0::.string ⟨#[]⟩::.int .i64 0::.int .i64 0::.int .i64 0::.int .i64 0::.int .i64 0::.int .i64 0::.int .i64 0::.int .i64 0::.int .i64 0::.int .i64 0::.int .i64 0::.int .i64 0::.int .i64 0::.int .i64 0::.slice none 0 0::.slice none 0 0::.slice none 0 0::([]:List Value)).toArray HZA.out bX rfl HO.out ?_))
  rw [<- hwk]
  clear hwk p0 pl gl HZA HO HRI
  have XK:=ZH (X.out.tr ek)
  have HTK:=ZH TK
  clear ek TK X
  generalize wr.heap.size=ga at *
  clear wr
  refine Gd.aI 33 (by kernel_rfl) (by kernel_rfl) ?_
  simp only [YT,YQ,YU,YV]
  intro wq hw1
  have LL:∀ m1:Lt wq,Ext wk m1.1:=fun m1=>hw1.tr m1.2
  have L8:∀ m1:Lt wq,Ext w8 m1.1:=fun m1=>XK.out.tr (LL m1)
  have KA:=fun m1:Lt wq=>rE (((L8 m1).block _ (aA HSA8.out)).trans HSA8.out)
  have KB:=fun m1:Lt wq=>rE (((L8 m1).block _ (aA HSB8.out)).trans HSB8.out)
  have KG:=fun m1:Lt wq=>(HTK.out.ext (LL m1)).sgR
  have KL:=fun m1:Lt wq=>(HTK.out.ext (LL m1)).lsR
  have a0:=fun m1:Lt wq=>(HTK.out.ext (LL m1)).c0
  have al:=fun m1:Lt wq=>(HTK.out.ext (LL m1)).lt
  repeat (refine Gd.aC rfl fun K hK=>?_;go_big_quiet_op;refine hK _ ?_;clear hK K)
  refine Gd.wpX_midK (Gd.gR rfl) (gs) (0) ([slV t0,slV t1,slV t2,slV t3,slV t4]) rfl rfl rfl rfl rfl KA Tryz.underlying75 rfl aN ?_
  simp only [Act.put,YG,YI,YH]
  repeat (refine Gd.aC rfl fun K hK=>?_;go_big_quiet_op;refine hK _ ?_;clear hK K)
  refine Gd.wpX_midK (Gd.gR rfl) (ga) (4) (aH xi.sg) rfl rfl rfl rfl rfl KG Tryz.underlying56 rfl m8 ?_
  simp only [Act.put,YG,YI,YH]
  repeat (refine Gd.aC rfl fun K hK=>?_;go_big_quiet_op;refine hK _ ?_;clear hK K)
  refine Gd.bN (Gd.gR rfl) (.bool (kG ac.1.rs xi.sg.st xi.sg.num)) (args:=[bH t0 t1 t2 t3 t4,ncV xi.sg]) rfl rfl rfl rfl (by kernel_rfl) rfl rfl (fun m1=>(j2 t0 t1 t2 t3 t4 ac.1.rs xi.sg m1.1 (HRA8.out.ext (L8 m1))).mono fun _ _ ⟨h1,h2⟩=>⟨h1,h2⟩) ?_
  simp only [Act.put,YG,YI,YH]
  try simp only [beq_self_eq_true,bne_self_eq_false]
  repeat (refine Gd.aC rfl fun K hK=>?_;go_big_quiet_op;refine hK _ ?_;clear hK K)
  try simp only [beq_self_eq_true,bne_self_eq_false]
  refine Gd.wpX_midK (Gd.gR rfl) (gt) (0) ([slV s0,slV s1,slV s2,slV u3,slV s4]) rfl rfl rfl rfl rfl KB Tryz.underlying75 rfl aN ?_
  simp only [Act.put,YG,YI,YH]
  repeat (refine Gd.aC rfl fun K hK=>?_;go_big_quiet_op;refine hK _ ?_;clear hK K)
  refine Gd.wpX_midK (Gd.gR rfl) (ga) (4) (aH xi.sg) rfl rfl rfl rfl rfl KG Tryz.underlying56 rfl m8 ?_
  simp only [Act.put,YG,YI,YH]
  repeat (refine Gd.aC rfl fun K hK=>?_;go_big_quiet_op;refine hK _ ?_;clear hK K)
  refine Gd.bN (Gd.gR rfl) (.bool (kG ac.1.rs xi.sg.st xi.sg.num)) (args:=[bH s0 s1 s2 u3 s4,ncV xi.sg]) rfl rfl rfl rfl (by kernel_rfl) rfl rfl (fun m1=>(nH s0 s1 s2 u3 s4 ac.1.rs xi.sg m1.1 (HRB8.out.ext (L8 m1))).mono fun _ _ ⟨h1,h2⟩=>⟨h1,h2⟩) ?_
  simp only [Act.put,YG,YI,YH]
  try simp only [beq_self_eq_true,bne_self_eq_false]
  repeat (refine Gd.aC rfl fun K hK=>?_;go_big_quiet_op;refine hK _ ?_;clear hK K)
  try simp only [beq_self_eq_true,bne_self_eq_false]
  refine Gd.wpX_midK (Gd.gR rfl) (gs) (0) ([slV t0,slV t1,slV t2,slV t3,slV t4]) rfl rfl rfl rfl rfl KA Tryz.underlying75 rfl aN ?_
  simp only [Act.put,YG,YI,YH]
  repeat (refine Gd.aC rfl fun K hK=>?_;go_big_quiet_op;refine hK _ ?_;clear hK K)
  refine Gd.wpX_midK (Gd.gR rfl) (ga) (15) (aH xi.ls) rfl rfl rfl rfl rfl KL Tryz.underlying56 rfl m8 ?_
  simp only [Act.put,YG,YI,YH]
  repeat (refine Gd.aC rfl fun K hK=>?_;go_big_quiet_op;refine hK _ ?_;clear hK K)
  refine Gd.bN (Gd.gR rfl) (.bool (kG ac.1.rs xi.ls.st xi.ls.num)) (args:=[bH t0 t1 t2 t3 t4,ncV xi.ls]) rfl rfl rfl rfl (by kernel_rfl) rfl rfl (fun m1=>(j2 t0 t1 t2 t3 t4 ac.1.rs xi.ls m1.1 (HRA8.out.ext (L8 m1))).mono fun _ _ ⟨h1,h2⟩=>⟨h1,h2⟩) ?_
  simp only [Act.put,YG,YI,YH]
  try simp only [beq_self_eq_true,bne_self_eq_false]
  repeat (refine Gd.aC rfl fun K hK=>?_;go_big_quiet_op;refine hK _ ?_;clear hK K)
  try simp only [beq_self_eq_true,bne_self_eq_false]
  refine Gd.wpX_midK (Gd.gR rfl) (gt) (0) ([slV s0,slV s1,slV s2,slV u3,slV s4]) rfl rfl rfl rfl rfl KB Tryz.underlying75 rfl aN ?_
  simp only [Act.put,YG,YI,YH]
  repeat (refine Gd.aC rfl fun K hK=>?_;go_big_quiet_op;refine hK _ ?_;clear hK K)
  refine Gd.wpX_midK (Gd.gR rfl) (ga) (15) (aH xi.ls) rfl rfl rfl rfl rfl KL Tryz.underlying56 rfl m8 ?_
  simp only [Act.put,YG,YI,YH]
  repeat (refine Gd.aC rfl fun K hK=>?_;go_big_quiet_op;refine hK _ ?_;clear hK K)
  refine Gd.bN (Gd.gR rfl) (.bool (kG ac.1.rs xi.ls.st xi.ls.num)) (args:=[bH s0 s1 s2 u3 s4,ncV xi.ls]) rfl rfl rfl rfl (by kernel_rfl) rfl rfl (fun m1=>(nH s0 s1 s2 u3 s4 ac.1.rs xi.ls m1.1 (HRB8.out.ext (L8 m1))).mono fun _ _ ⟨h1,h2⟩=>⟨h1,h2⟩) ?_
  simp only [Act.put,YG,YI,YH]
  try simp only [beq_self_eq_true,bne_self_eq_false]
  repeat (refine Gd.aC rfl fun K hK=>?_;go_big_quiet_op;refine hK _ ?_;clear hK K)
  try simp only [beq_self_eq_true,bne_self_eq_false]
  refine Gd.wpX_midK (Gd.gR rfl) (gs) (0) ([slV t0,slV t1,slV t2,slV t3,slV t4]) rfl rfl rfl rfl rfl KA Tryz.underlying75 rfl aN ?_
  simp only [Act.put,YG,YI,YH]
  repeat (refine Gd.aC rfl fun K hK=>?_;go_big_quiet_op;refine hK _ ?_;clear hK K)
  refine Gd.bN (Gd.gR rfl) (.bool (frR ac.1.rs xi.st dd)) (args:=[bH t0 t1 t2 t3 t4,.string (aK xi.st),.int .i64 dd]) rfl rfl rfl rfl (by kernel_rfl) rfl rfl (fun m1=>(sL t0 t1 t2 t3 t4 ac.1.rs xi.st dd m1.1 (HRA8.out.ext (L8 m1))).mono fun _ _ ⟨h1,h2⟩=>⟨h1,h2⟩) ?_
  simp only [Act.put,YG,YI,YH]
  try simp only [beq_self_eq_true,bne_self_eq_false]
  repeat (refine Gd.aC rfl fun K hK=>?_;go_big_quiet_op;refine hK _ ?_;clear hK K)
  try simp only [beq_self_eq_true,bne_self_eq_false]
  refine Gd.wpX_midK (Gd.gR rfl) (gt) (0) ([slV s0,slV s1,slV s2,slV u3,slV s4]) rfl rfl rfl rfl rfl KB Tryz.underlying75 rfl aN ?_
  simp only [Act.put,YG,YI,YH]
  repeat (refine Gd.aC rfl fun K hK=>?_;go_big_quiet_op;refine hK _ ?_;clear hK K)
  refine Gd.bN (Gd.gR rfl) (.bool (frR ac.1.rs xi.st dd)) (args:=[bH s0 s1 s2 u3 s4,.string (aK xi.st),.int .i64 dd]) rfl rfl rfl rfl (by kernel_rfl) rfl rfl (fun m1=>(BL s0 s1 s2 u3 s4 ac.1.rs xi.st dd m1.1 (HRB8.out.ext (L8 m1))).mono fun _ _ ⟨h1,h2⟩=>⟨h1,h2⟩) ?_
  simp only [Act.put,YG,YI,YH]
  try simp only [beq_self_eq_true,bne_self_eq_false]
  repeat (refine Gd.aC rfl fun K hK=>?_;go_big_quiet_op;refine hK _ ?_;clear hK K)
  try simp only [beq_self_eq_true,bne_self_eq_false]
  refine Gd.cQ (fun m1=>?_)
  have X9:=ZH (L8 m1)
  clear hw1 LL L8 KA KB KG KL a0 al HTK XK
  generalize m1.1=wm at *
  clear m1 wk
  show wpList _ _ _ _ _ _
  go_wp2_with fail
  go_roundw
  case rel=>exact ⟨i+1,_,by omega,by go_num,rfl,X9⟩
  case measure=>simp [intOf];omega
end Go.Proofs.YtkjplpmogfmhkaaGreatDoor
