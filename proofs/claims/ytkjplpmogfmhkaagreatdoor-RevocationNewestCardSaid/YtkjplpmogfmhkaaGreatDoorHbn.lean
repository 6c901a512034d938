/- Parts Bh Bq of the proof. -/
import Derived.Test.YtkjplpmogfmhkaaGreatDoorHbm
namespace Go.Proofs.YtkjplpmogfmhkaaGreatDoor
open Go.RowKit
open Gd (dT kV)
set_option linter.unusedVariables false
set_option maxRecDepth 100000
theorem WI.th {w wr:World}{P D b:Nat}{v:Value}{s0 s1 s2 s3 s4:SlT}{day:Int}{xs:List AB} (h:WI w P D b v s0 s1 s2 s3 s4 day xs wr):wr.there P 1 5:=fun j hj=>by
 refine ⟨?_,h.c.2.2.2.2.2.2 _⟩
 have hc:=h.c.1
 match j,hj with
 | 0,_=>rw [hc 0 _ rfl];rfl
 | 1,_=>rw [hc 1 _ rfl];rfl
 | 2,_=>rw [hc 2 _ rfl];rfl
 | 3,_=>rw [hc 3 _ rfl];rfl
 | 4,_=>rw [hc 4 _ rfl];rfl
def WoR (w:World) (e:Ending) (w':World):Prop:=∃ (A:Option Addr) (c:Nat) (s0 s1 s2 s3 s4:SlT) (S:ST) (day:Int) (x y:AB),e=.returned (.agg (eU (.slice A 2 c) s0 s1 s2 s3 s4 day))/\Ext w w'/\(40000<=day/\day<40080)/\RdK w' 33 (.slice A 2 c) (sR [x,y])/\AuL 3 w' [x,y]/\AvL 3 w' [x,y]/\StS w' s0 s1 s2 s3 s4 S/\WSc S/\S.rs.length<=3/\S.roots.length=1
theorem RH {α:Type}:∀ {xs:List α},xs.length=2->∃ x y,xs=[x,y]
 | [x,y],_=>⟨x,y,rfl⟩
theorem NH (xs:List AB) (x:AB):sR (xs++[x])=sR xs++abL x:=by simp [sR]
theorem NI {ty:TypeId}{W:World}{B:Nat}{A:Option Addr}{v:Value}{l:List NC} (hr:RdN W v l) (hl:l.length<=1000000) (hB:B<=W.heap.size):∃ v' w'',(Builtin.append_ #[51,51] ty #[.slice A 0 0,v]).run Tryz.prog W=.ok v' w''/\Ext W w''/\WE B l v' w'':=by
 obtain ⟨A2,c2,w'',q1,q2,q3⟩:=CP (P:=Tryz.prog) (ty:=ty) (k:=11) (by decide) hF (aJ.empty W W.heap.size 56 11 A) (n:=0) (m:=l.length) (by simp) hr (by rw [bJ]) (hC l) (by omega) (by unfold maxLen;omega) (YF _)
 rw [ZA,YR] at q2
 rw [YR] at q1
 exact ⟨_,w'',q1,(Below.refl W.heap.size W).grown q3 (YF _) (fun k hk=>by cases A <;> simp [aO] at hk),A2,c2,rfl,q2.mono hB⟩
set_option maxHeartbeats 16000000 in
theorem rI {v0:Value}{l:List Int} (w:World) (h:RdI w .i64 v0 l) (hw:∀ x ∈ l,k8 x) (hl:l.length<=1000) (E:dS w 0) :
 Calls Tryz.prog 66 #[v0] w (WoR w):=by
 obtain ⟨wz,hwz,z0,zr⟩:=UB w
 have hzs:wz.heap.size=w.heap.size+1:=by rw [hwz];simp
 have HAU:=ZH (fun (l':List Int) (u:Value) W (e:Ext w W) (hv:RdI W .i64 u l') (hx:∀ x ∈ l',k8 x) (h6:l'.length<=1000)=>pA W hv hx h6 (E.below e))
 have HIM:=ZH (fun (k:Int) (m:MA) (v:Value) W (e:Ext w W) (hv:RdN W v m.roots) (hs:smL m.roots) (hg:smN m.sg) (ht:m.st.length<=maxLen)=>yE k m v W hv hs hg ht (E.below e))
 have HAC:=ZH (fun (s0 s1 s2 s3 s4:SlT) (S:ST) (ps:List (MA × Value)) (m:MA) (v:Value) (day:Int) W (e:Ext w W) (hS:StS W s0 s1 s2 s3 s4 S) (hB:WSc S) (h2:RdK W 17 (slV s2) (kM.cells ps)) (hps:ps.map Prod.fst=S.ms) (hin:∀ p ∈ ps,RdK W 11 p.2 (aD p.1.roots)) (hv:RdN W v m.roots) (hs:smL m.roots) (hg:smN m.sg) (ht:m.st.length<=maxLen) =>
  xJ s0 s1 s2 s3 s4 S ps m v day W hS.r.rd hS.p.rd h2 hps hin hB.b.r hB.b.p (by have:=hB.b.lr;have:=hB.b.lp;omega) (by have h1:=hB.b.lm;rw [<- hps,List.length_map] at h1;omega) hv hs hg ht (E.below e))
 have HAR:=ZH (fun (s0 s1 s2 s3 s4:SlT) (S:ST) (ps:List (RV × Value)) (m:RV) (v:Value) (day:Int) W (e:Ext w W) (hS:StS W s0 s1 s2 s3 s4 S) (hB:WSc S) (h2:RdK W 8 (slV s3) (kR.cells ps)) (hps:ps.map Prod.fst=S.rs) (hin:∀ p ∈ ps,RdK W 1 p.2 (aQ p.1.ser)) (hl:S.rs.length<=16) (hv:RdI W .i64 v m.ser) (ht:m.st.length<=maxLen) =>
  nP s0 s1 s2 s3 s4 S ps m v day W hS.r.rd hS.p.rd h2 hps hin hS.m.rd hB.b (by rw [<- hps,List.length_map] at hl;omega) hv ht (E.below e))
 have HRK:=ZH (fun (x:AB) (l ks:List Int) (k num day:Int) W (e:Ext w W) (hV:RdI W .i64 x.V l) (hS:RdI W .i64 x.S ks) (hk:ks[ks.length - 1]?=some k) (hk1:ks.length<=100) (hl:l.length<=1000) (hst:x.st.length<=maxLen) (d0:0<=day) (d1:day<=1000000) (li0:0<=x.li) (li1:x.li<=1000000) (h1:qZ x)=>rC x l ks k num day W hV hS hk hk1 hl hst d0 d1 li0 li1 h1 (E.below e))
 clear E
 go_enter Tryz.func66,Tryz.ntmps66
 go_wp2_with fail
 rw [<- hwz]
 clear hwz
 refine (DU wz (h.ext z0) hw hl).mono ?_
 rintro e w1 ⟨D,b,rfl,hD,hb,hd,b1⟩
 go_wp2_with fail
 refine (lF 80 w1 hd (by omega)).mono ?_
 rintro e w2 ⟨rfl,q2,q3,q4⟩
 have hz:=qQ l (n:=80) (by omega)
 have hDl:=hd.lt
 have hbl:=hd.ltb
 have hzl:=aA zr
 have zr1:=(b1.block _ hzl).trans zr
 have zr2:=(q2.block _ (aA zr1) (fun e=>by injection e with e;omega)).trans zr1
 have X2:Ext w w2:=Gb.below (z0.tr b1) q2 (by omega)
 obtain ⟨day,hday⟩:∃ day,40000+dv l 80=day:=⟨_,rfl⟩
 have wk:IntKind.i64.wrap (40000+dv l 80)=day:=by rw [<- hday];exact IntWalk.i64_in _ (by omega)
 have HDY:=ZH (show 40000<=day/\day<40080 by omega)
 obtain ⟨wp,hwp,ep,TP⟩:=WA w2 day
 have QB:=ZH (show WB w w2.heap.size D b from ⟨by omega,by omega,by have:=q2.size;omega,by have:=q2.size;omega⟩)
 have J0:=ZH (show WI w w2.heap.size D b (.slice none 0 0) zS zS zS zS zS day [] wp from ⟨X2.tr ep,⟨_,q3.ext ep⟩,(ep.block _ (aA zr2)).trans zr2,TP,aJ.empty _ _ _ _ _⟩)
 clear hzs h hw hl z0 zr b1 hd hD hb ep TP hDl hbl hzl q2 q3 q4 zr1 zr2 X2 hz hday
 go_wp2_with fail
 rw [<- hwp]
 clear hwp wk
 generalize w2.heap.size=P at *
 go_loopw [5] (fun s5 wr=>∃ (i:Nat) (v:Value) (xs:List AB),i<=2/\s5=.int .i64 (i:Int)/\Hid (xs.length=i)/\Hid (WI w P D b v zS zS zS zS zS day xs wr)/\Hid (AuL 0 wr xs)/\Hid (AvL 0 wr xs)) (fun s5 _=>2 - (intOf s5).toNat)
 case atStart=>exact ⟨0,_,[],by omega,rfl,ZH rfl,J0,ZH (fun x hx=>(by cases hx)),ZH (fun x hx=>(by cases hx))⟩
 case round =>
  clear J0
  obtain ⟨i,v,xs,hi,rfl,HXL,J,AU,AV⟩:=hrel
  by_cases hlt:i<2
  case neg =>
   obtain rfl:i=2:=by omega
   clear hlt hi
   obtain ⟨x0,x1,rfl⟩:=RH HXL.out
   obtain ⟨A,c,e⟩:=J.out.form
   have e:v=.slice A 2 c:=e
   subst e
   obtain ⟨gA,rfl,hgA,hgl,-,h2c,hcm,R0⟩:=J.out.range (i:=0) (x:=x0) rfl
   obtain ⟨gA',e',-,-,-,-,-,R1⟩:=J.out.range (i:=1) (x:=x1) rfl
   obtain rfl:gA=gA':=by injection e' with e';injection e'
   unfold maxLen at hcm
   obtain ⟨a0,d0,S0⟩:=AU.out x0 (by simp)
   obtain ⟨a1,d1,S1⟩:=AU.out x1 (by simp)
   have n0:a0.roots.length=d0.length:=S0.ai.rlen
   obtain ⟨r0,t0,er0⟩:∃ r t,a0.roots=r::t:=by
    cases hh:a0.roots with
    | nil=>have:=S0.ne.1;rw [hh,YN] at n0;omega
    | cons r t=>exact ⟨r,t,rfl⟩
   obtain ⟨AR,cR,eR0,-,-⟩:=nQ (l:=a0.roots) S0.R.rd
   have qq0:RdN wr (.slice AR a0.roots.length cR) (r0::t0):=by
    have hq:RdN wr x0.R a0.roots:=S0.R.rd
    rw [eR0,er0] at hq
    rw [er0]
    exact hq
   obtain ⟨br0,or0,hA0,hbr0,Kr0⟩:=QS qq0
   subst hA0
   have HKr0:=ZH Kr0
   have h0r0:0<(a0.roots.length:Int):=by rw [er0,YP];omega
   clear qq0 Kr0 n0
   obtain ⟨AL0,cL0,eL0,-,-⟩:=nQ (l:=a0.links) S0.L.rd
   obtain ⟨AL1,cL1,eL1,-,-⟩:=nQ (l:=a1.links) S1.L.rd
   have hl0:a0.links.length<=3:=by have:=S0.ai.llen;have:=S0.ne.2;omega
   have hl1:a1.links.length<=3:=by have:=S1.ai.llen;have:=S1.ne.2;omega
   have HG1:=ZH (show wr.cell? ⟨gA,1,none⟩=some (.slice (some ⟨br0,or0,none⟩) a0.roots.length cR) by rw [<- eR0];exact R0 1 _ rfl)
   have HS0:=ZH S0
   have HS1:=ZH S1
   have HE:=ZH (And.intro eL0 eL1)
   clear R0 R1 S0 S1 e' HXL eL0 eL1 AU
   go_upto_region 7 with fail
   refine Gd.aI 11 (by kernel_rfl) (by kernel_rfl) ?_
   simp only [YT,YQ,YU,YV]
   intro wq hw1
   have LL:∀ m1:Lt wq,Ext wr m1.1:=fun m1=>hw1.tr m1.2
   have p0:=fun m1:Lt wq=>(J.out.tr (LL m1)).c.2.1
   have p1:∀ m1:Lt wq,m1.1.cell? ⟨P,1,none⟩=some (.slice none 0 0):=fun m1=>(J.out.tr (LL m1)).c.2.2.1
   have pl:=fun m1:Lt wq=>(J.out.tr (LL m1)).c.2.2.2.2.2.1
   have k1:=fun m1:Lt wq=>((LL m1).cell (p:=⟨gA,1,none⟩) hgl).trans HG1.out
   have kl:=fun m1:Lt wq=>YX hgl (LL m1).size
   have KR1:∀ m1:Lt wq,m1.1.rangeAt br0 or0 (aH r0):=fun m1=>j3 HKr0.out hbr0 (LL m1)
   repeat (refine Gd.aC rfl fun K hK=>?_;go_big_quiet_op;refine hK _ ?_;clear hK K)
   refine Gd.wpX_midK (Gd.gR rfl) (br0) (or0) (aH r0) rfl rfl rfl rfl rfl KR1 Tryz.underlying56 rfl m8 ?_
   simp only [Act.put,YG,YI,YH]
   repeat (refine Gd.aC rfl fun K hK=>?_;go_big_quiet_op;refine hK _ ?_;clear hK K)
   refine Gd.bD (Gd.gR rfl) (Q1 wr.heap.size r0) (BZ _ _) (fun _=>[(0,.agg (aH r0).toArray)]) rfl rfl rfl rfl rfl (fun _=>rfl) (fun m1 f hf=>⟨_,_,QV m1.1 r0,(Below.refl _ _).alloc (YF _) _,XG m1.1 _ r0 (LL m1).size⟩) ?_
   simp only [Act.put,YG,YI,YH]
   refine Gd.cH (fun m1 f hf=>?_)
   obtain ⟨g,e47,hg,hrow⟩:=hf 50 _ rfl
   simp only [bO]
   simp only [Act.put,YG,YI,YH]
   rw [e47]
   have XA:=ZH (LL m1)
   have HRK:=ZH (VX hrow)
   have HOE:=ZH (aJ.empty m1.1 wr.heap.size 56 11 none)
   clear hw1 LL p0 p1 pl k1 kl KR1 hf e47 hrow
   generalize m1.1=w5 at *
   clear m1 f
   show wpList _ _ _ _ _ _
   go_upto_region 8 with (refine bL (k:=11) (by decide) hF (n:=0) (m:=1) (B:=wr.heap.size) (w0:=wr) HOE.out rfl HRK.out rfl (eF r0) XA.out (by omega) (by unfold maxLen;omega) XA.out.size rfl rfl rfl rfl ?_;intro A8 n8 c8 w8 hn8 o8 x8 g8;have J8:=J.out.tr x8;have y1:w8.cell? ⟨P,1,none⟩=some (.slice none 0 0):=J8.c.2.2.1;have yl:=J8.c.2.2.2.2.2.1;have yf:=J8.c.2.2.2.2.2.2 1)
   obtain ⟨j9,k9⟩:=J8.put QB.out 1 (.slice A8 n8 c8) (t0:=(A8,n8,c8)) (t1:=zS) (t2:=zS) (t3:=zS) (t4:=zS) rfl
   have J9:=ZH j9
   have K9:=ZH ((Kp.ext x8).tr k9)
   have P9:=ZH (show bQ (w8.setCell ⟨P,1,none⟩ (.slice A8 n8 c8)) 0 56 11 (slV (A8,n8,c8)) (aD [r0]) from (o8.safe 0).kp tT k9)
   clear J8 y1 yl yf o8 x8 g8 k9 j9 hn8 XA HRK HOE
   generalize w8.setCell ⟨P,1,none⟩ (.slice A8 n8 c8)=wr2 at *
   have HS02:=ZH (HS0.out.kp K9.out)
   have HS12:=ZH (HS1.out.kp K9.out)
   obtain ⟨gA',e',-,hgl2,-,-,-,R0⟩:=J9.out.range (i:=0) (x:=x0) rfl
   obtain rfl:gA=gA':=by injection e' with e';injection e'
   obtain ⟨gA',e'',-,-,-,-,-,R1⟩:=J9.out.range (i:=1) (x:=x1) rfl
   obtain rfl:gA=gA':=by injection e'' with e'';injection e''
   have HG2:=ZH (show wr2.cell? ⟨gA,2,none⟩=some (.slice AL0 a0.links.length cL0) by rw [<- HE.out.1];exact R0 2 _ rfl)
   have HG3:=ZH (show wr2.cell? ⟨gA,35,none⟩=some (.slice AL1 a1.links.length cL1) by rw [<- HE.out.2];exact R1 2 _ rfl)
   have HL0:=ZH (show RdN wr2 (.slice AL0 a0.links.length cL0) a0.links by rw [<- HE.out.1];exact HS02.out.L.rd)
   have HL1:=ZH (show RdN wr2 (.slice AL1 a1.links.length cL1) a1.links by rw [<- HE.out.2];exact HS12.out.L.rd)
   have AV2:=ZH (AV.out.kp K9.out)
   clear R0 R1 e' e'' HS0 HS1 J K9 HG1 HKr0 w5 w8 AV
   refine Gd.aI 14 (by kernel_rfl) (by kernel_rfl) ?_
   simp only [YT,YQ,YU,YV]
   intro wq hw1
   have LL:∀ m1:Lt wq,Ext wr2 m1.1:=fun m1=>hw1.tr m1.2
   have p0:=fun m1:Lt wq=>(J9.out.tr (LL m1)).c.2.1
   have p2:∀ m1:Lt wq,m1.1.cell? ⟨P,2,none⟩=some (.slice none 0 0):=fun m1=>(J9.out.tr (LL m1)).c.2.2.2.1
   have pl:=fun m1:Lt wq=>(J9.out.tr (LL m1)).c.2.2.2.2.2.1
   have k2:=fun m1:Lt wq=>((LL m1).cell (p:=⟨gA,2,none⟩) hgl2).trans HG2.out
   have k3:=fun m1:Lt wq=>((LL m1).cell (p:=⟨gA,35,none⟩) hgl2).trans HG3.out
   have kl:=fun m1:Lt wq=>YX hgl2 (LL m1).size
   repeat (refine Gd.aC rfl fun K hK=>?_;go_big_quiet_op;refine hK _ ?_;clear hK K)
   refine Gd.mM (Gd.gR rfl) (WE wr2.heap.size a0.links) (FK _ _) (fun _=>.slice none 0 0) (fun _=>.slice AL0 a0.links.length cL0) rfl rfl rfl rfl rfl rfl (fun _=>rfl) (fun _=>rfl) (fun m1 f hf=>NI (RdK.ext HL0.out (LL m1)) (by omega) (LL m1).size) ?_
   simp only [Act.put,YG,YI,YH]
   repeat (refine Gd.aC rfl fun K hK=>?_;go_big_quiet_op;refine hK _ ?_;clear hK K)
   refine Gd.cH (fun m1 f hf=>?_)
   obtain ⟨A5,c5,e59,o5⟩:=hf 62 _ rfl
   simp only [bO]
   simp only [Act.put,YG,YI,YH]
   rw [e59]
   have XA:=ZH (LL m1)
   have HRK:=ZH (RdK.ext HL1.out (LL m1))
   have HO5:=ZH o5
   clear hw1 LL p0 p2 pl k2 k3 kl hf e59 o5
   generalize m1.1=w5 at *
   clear m1 f
   show wpList _ _ _ _ _ _
   go_upto_region 9 with (refine bL (k:=11) (by decide) hF (n:=a0.links.length) (m:=a1.links.length) (B:=wr2.heap.size) (w0:=wr2) HO5.out (by rw [bJ]) HRK.out (by rw [bJ]) (hC a1.links) XA.out (by omega) (by unfold maxLen;omega) XA.out.size rfl rfl rfl rfl ?_;intro A7 n7 c7 w8 hn7 o8 x8 g8;have J8:=J9.out.tr x8;have y2:w8.cell? ⟨P,2,none⟩=some (.slice none 0 0):=J8.c.2.2.2.1;have yl:=J8.c.2.2.2.2.2.1;have yf:=J8.c.2.2.2.2.2.2 2)
   obtain ⟨j9,k9⟩:=J8.put QB.out 2 (.slice A7 n7 c7) (t0:=(A8,n8,c8)) (t1:=(A7,n7,c7)) (t2:=zS) (t3:=zS) (t4:=zS) rfl
   have JJ:=ZH j9
   have KK:=ZH ((Kp.ext x8).tr k9)
   have P2:=ZH (show bQ (w8.setCell ⟨P,2,none⟩ (.slice A7 n7 c7)) 0 56 11 (slV (A7,n7,c7)) (aD (a0.links++a1.links)) by
    rw [show aD (a0.links++a1.links)=aD a0.links++aD a1.links by simp [aD]]
    exact (o8.safe 0).kp tT k9)
   clear J8 y2 yl yf o8 x8 g8 k9 j9 hn7 XA HRK HO5
   generalize w8.setCell ⟨P,2,none⟩ (.slice A7 n7 c7)=wr3 at *
   have P1:=ZH (P9.out.kp tT KK.out)
   have HAU3:=ZH (show AuL 0 wr3 [x0,x1] from fun y hy=>by
    simp only [List.mem_cons,List.not_mem_nil,or_false] at hy
    rcases hy with rfl | rfl
    · exact ⟨a0,d0,HS02.out.kp KK.out⟩
    · exact ⟨a1,d1,HS12.out.kp KK.out⟩)
   have AV3:=ZH (AV2.out.kp KK.out)
   have HB3:=ZH (show WSc ⟨[r0],a0.links++a1.links,[],[],[]⟩ from by
    have h0:=HS02.out.sm
    have h1:=HS12.out.sm
    have hr:smN r0:=h0.1 r0 (by rw [er0];exact YZ)
    exact ⟨⟨fun x hx=>by rw [List.mem_singleton.1 hx];exact hr,fun x hx=>(List.mem_append.1 hx).elim (h0.2.1 x) (h1.2.1 x),fun x hx=>(by cases hx),fun x hx=>(by cases hx),fun x hx=>(by cases hx),by show 1<=10000;omega,by show (a0.links++a1.links).length<=10000;rw [YJ];omega,by show 0<=20;omega,by show 0<=10000;omega,by show 0<=10000;omega⟩,rfl⟩)
   have HST3:=ZH (show StS wr3 (A8,n8,c8) (A7,n7,c7) zS zS zS ⟨[r0],a0.links++a1.links,[],[],[]⟩ from ⟨P1.out,P2.out,sQ _ _ _,sQ _ _ _,sQ _ _ _⟩)
   clear J9 KK P2 P9 P1 HS02 HS12 HG2 HG3 HL0 HL1 HE AV2
   go_wp2_with fail
   refine (JJ.out.next QB.out 2 (by omega) (by omega)).mono ?_
   rintro e w4 ⟨z,hz0,hz1,rfl,j4,k4⟩
   have J4:=ZH j4
   have HAU4:=ZH (HAU3.out.kp k4)
   have HAV4:=ZH (AV3.out.kp k4)
   have HST4:=ZH (HST3.out.kp k4)
   clear j4 k4 JJ HAU3 AV3 HST3
   go_upto_if 73 with fail
   go_cut [] from 6 to 105 (fun wx=>∃ (t2:SlT) (S:ST),Hid (WI w P D b (.slice (some ⟨gA,0,none⟩) 2 c) (A8,n8,c8) (A7,n7,c7) t2 zS zS day [x0,x1] wx)/\Hid (AuL 0 wx [x0,x1])/\Hid (AvL 0 wx [x0,x1])/\Hid (StS wx (A8,n8,c8) (A7,n7,c7) t2 zS zS S)/\Hid (WSc S/\S.rs=[]/\S.roots.length=1))
   case first =>
    by_cases hz:z=1
    case neg =>
     have hb:(z == 1)=false:=by simpa using hz
     clear hz
     go_wp2_with fail
     go_meet
     exact ⟨zS,_,J4,HAU4,HAV4,HST4,ZH ⟨HB3.out,rfl,rfl⟩⟩
    case pos =>
    have hb:(z == 1)=true:=by simpa using hz
    clear hz
    obtain ⟨b0,d0',S0⟩:=HAU4.out x0 (by simp)
    obtain ⟨b1,d1',S1⟩:=HAU4.out x1 (by simp)
    obtain ⟨gA',e',-,hgl4,-,-,-,R0⟩:=J4.out.range (i:=0) (x:=x0) rfl
    obtain rfl:gA=gA':=by injection e' with e';injection e'
    obtain ⟨gA',e'',-,-,-,-,-,R1⟩:=J4.out.range (i:=1) (x:=x1) rfl
    obtain rfl:gA=gA':=by injection e'' with e'';injection e''
    rw [show 0*33=0 by rfl] at R0
    obtain ⟨AR1,cR1,eR1,-,-⟩:=nQ (l:=b1.roots) S1.R.rd
    have HR0:=ZH R0
    have HG1:=ZH (show w4.cell? ⟨gA,34,none⟩=some (.slice AR1 b1.roots.length cR1) by rw [<- eR1];exact R1 1 _ rfl)
    have HRS:=ZH (show bQ w4 0 56 11 (.slice AR1 b1.roots.length cR1) (aD b1.roots) by rw [<- eR1];exact S1.R)
    have HSM:=ZH (show smL b1.roots/\smN x0.ls/\x0.st.length<=maxLen/\b1.roots.length<=4 from ⟨S1.sm.1,by rw [S0.ls];exact S0.sm.2.2.2,by rw [S0.st];have:=S0.ai.st.1.2;unfold maxLen;omega,by have:=S1.ai.rlen;have:=S1.ne.2;omega⟩)
    have HONE:=ZH (dE S0.one)
    have q0:=J4.out.c.2.1
    have ql:=J4.out.c.2.2.2.2.2.1
    have HZA:=ZH (aB w4 (.cells (.string ⟨#[]⟩::.slice none 0 0::.slice none 0 0::.slice none 0 0::.string ⟨#[]⟩::.int .i64 0::.int .i64 0::.int .i64 0::.int .i64 0::.int .i64 0::.int .i64 0::.int .i64 0::.int .i64 0::.int .i64 0::.int .i64 0::.string ⟨#[]⟩::.int .i64 0::.int .i64 0::.int .i64 0::.int .i64 0::.int .i64 0::.int .i64 0::.int .i64 0::.int .i64 0::.int .i64 0::.int .i64 0::.int .i64 0::.int .i64 0::.int .i64 0::.int .i64 0::.slice none 0 0::.slice none 0 0::.slice none 0 0::([]:List Value)).toArray 98))
    obtain ⟨wk,hwk⟩:∃ wk,wk=(w4.alloc (.cells (.string ⟨#[]⟩::.slice none 0 0::.slice none 0 0::.slice none 0 0::.string ⟨#[]⟩::.int .i64 0::.int .i64 0::.int .i64 0::.int .i64 0::.int .i64 0::.int .i64 0::.int .i64 0::.int .i64 0::.int .i64 0::.int .i64 0::.string ⟨#[]⟩::.int .i64 0::.int .i64 0::.int .i64 0::.int .i64 0::.int .i64 0::.int .i64 0::.int .i64 0::.int .i64 0::.int .i64 0::.int .i64 0::.int .i64 0::.int .i64 0::.int .i64 0::.int .i64 0::.slice none 0 0::.slice none 0 0::.slice none 0 0::([]:List Value)).toArray 98)).setRow w4.heap.size (bE x0):=⟨_,rfl⟩
    have ek:Ext w4 wk:=by rw [hwk];exact aS ((Below.refl _ _).alloc (YF _) _) (YF _) _
    have TK:aU wk w4.heap.size x0:=by rw [hwk];exact aX HZA.out
    clear e' e'' R0 R1 S0 S1 eR1
    go_upto_region 11 with (first | (refine wpList_load_mid rfl 98 _ rfl gA 0 rfl (abL x0) _ HR0.out Tryz.underlying98 rfl bX ?_) | (refine aL rfl 98 _ _ rfl rfl w4.heap.size (bE x0) rfl rfl 98 (.string ⟨#[]⟩::.slice none 0 0::.slice none 0 0::.slice none 0 0::.string ⟨#[]⟩::.int .i64 0::.int .i64 0::.int .i64 0::.int .i64 0::.int .i64 0::.int .i64 0::.int .i64 0::.int .i64 0::.int .i64 0::.int .i64 0::.string ⟨#[]⟩::.int .i64 0::.int .i64 0::.int .i64 0::.int .i64 0::.int .i64 0::.int .i64 0::.int .i64 0::.int .i64 0::.int .i64 0::.int .i64 0::.int .i64 0::.int .i64 0::.int .i64 0::.int .i64 0::.slice none 0 0::.slice none 0 0::.slice none 0 0::([]:List Value)).toArray HZA.out bX rfl HONE.out ?_))
    rw [<- hwk]
    clear hwk q0 ql HZA HONE HR0
    have JK:=ZH (J4.out.tr ek)
    have AUK:=ZH (HAU4.out.kp (Kp.ext ek))
    have AVK:=ZH (HAV4.out.kp (Kp.ext ek))
    have HSK:=ZH (HST4.out.kp (Kp.ext ek))
    have HTK:=ZH TK
    have HGK:=ZH ((ek.cell (p:=⟨gA,34,none⟩) hgl4).trans HG1.out)
    have HRK2:=ZH (HRS.out.ext ek)
    have hglk:=YX hgl4 ek.size
    clear ek TK J4 HAU4 HAV4 HST4 HG1 HRS hgl4
    generalize w4.heap.size=ga at *
    clear w4
    refine Gt.aI (r:=(RG amT (fun q=>wk.heap.size<=q))) 20 (by kernel_rfl) (by kernel_rfl) ?_
    simp only [YT,YQ,YU,YV]
    intro wq hw1
    have LR:∀ m1:(RG amT (fun q=>wk.heap.size<=q)).Lt wq,RgS amT (fun q=>wk.heap.size<=q) wk m1.1:=fun m1=>RgS.tr hw1 m1.2
    have LL:∀ m1:(RG amT (fun q=>wk.heap.size<=q)).Lt wq,Ext wk m1.1:=fun m1=>(LR m1).below (fun _ h=>h) (YF _)
    have p0:=fun m1:(RG amT (fun q=>wk.heap.size<=q)).Lt wq=>(JK.out.tr (LL m1)).c.2.1
    have p6:=fun m1:(RG amT (fun q=>wk.heap.size<=q)).Lt wq=>(JK.out.tr (LL m1)).c.2.2.2.2.1
    have pl:=fun m1:(RG amT (fun q=>wk.heap.size<=q)).Lt wq=>(JK.out.tr (LL m1)).c.2.2.2.2.2.1
    have a27:=fun m1:(RG amT (fun q=>wk.heap.size<=q)).Lt wq=>(HTK.out.ext (LL m1)).c27
    have a0:=fun m1:(RG amT (fun q=>wk.heap.size<=q)).Lt wq=>(HTK.out.ext (LL m1)).c0
    have al:=fun m1:(RG amT (fun q=>wk.heap.size<=q)).Lt wq=>(HTK.out.ext (LL m1)).lt
    have kg:=fun m1:(RG amT (fun q=>wk.heap.size<=q)).Lt wq=>((LL m1).cell (p:=⟨gA,34,none⟩) hglk).trans HGK.out
    have kl:=fun m1:(RG amT (fun q=>wk.heap.size<=q)).Lt wq=>YX hglk (LL m1).size
    have KL:=fun m1:(RG amT (fun q=>wk.heap.size<=q)).Lt wq=>(HTK.out.ext (LL m1)).lsR
    repeat (refine Gt.aC rfl fun K hK=>?_;go_big_quiet_op;refine hK _ ?_;clear hK K)
    refine Gt.wpX_midK (Gd.gR rfl) (ga) (15) (aH x0.ls) rfl rfl rfl rfl rfl KL Tryz.underlying56 rfl m8 ?_
    simp only [Act.put,YG,YI,YH]
    refine Gt.bW (Gd.gR rfl) (fun v _=>v=maV ⟨x0.st,1,day,b1.roots,x0.ls,0,0⟩ (.slice AR1 b1.roots.length cR1)) (Gt.Rl.stable_eq _ _) (fun _=>[(0,.string (aK x0.st)),(1,.int .i64 1),(2,.int .i64 day),(3,.slice AR1 b1.roots.length cR1),(4,.agg (aH x0.ls).toArray)]) rfl rfl rfl rfl rfl (fun _=>rfl) (fun m1 f hf=>⟨_,_,J7 m1.1 _ _ _ _ _ _ _,Below.refl _ _,rfl⟩) ?_
    simp only [Act.put,YG,YI,YH]
    refine Gt.aR (Gd.gR rfl) (GMt (lO x0.lsec ⟨x0.st,1,day,b1.roots,x0.ls,0,0⟩) (I7 x0.lsec ⟨x0.st,1,day,b1.roots,x0.ls,0,0⟩)) (xM _ _ _) (fun f=>[.int .i64 x0.lsec,f 92]) rfl rfl rfl rfl rfl (by kernel_rfl) rfl (fun _=>rfl) (fun m1 f hf=>?_) ?_
    · have e92:f 92=maV ⟨x0.st,1,day,b1.roots,x0.ls,0,0⟩ (.slice AR1 b1.roots.length cR1):=hf 92 _ rfl rfl
      rw [e92]
      refine (HIM.out x0.lsec ⟨x0.st,1,day,b1.roots,x0.ls,0,0⟩ (.slice AR1 b1.roots.length cR1) m1.1 (JK.out.ext.tr (LL m1)) (HRK2.out.ext (LL m1)).rd HSM.out.1 HSM.out.2.1 HSM.out.2.2.1).mono ?_
      rintro e w'' ⟨A5,n5,c5,rfl,r5,b5,hq5⟩
      exact ⟨_,rfl,b5,A5,n5,c5,rfl,NG r5 hq5 ((HRK2.out.ext (LL m1)).ext b5)⟩
    simp only [Act.put,YG,YI,YH]
    have HSMM:=ZH (UC (k:=x0.lsec) (m:=⟨x0.st,1,day,b1.roots,x0.ls,0,0⟩) HSM.out.1 HSM.out.2.1 HSM.out.2.2.1)
    have HSML:=ZH (show ((lO x0.lsec ⟨x0.st,1,day,b1.roots,x0.ls,0,0⟩)).roots.length<=10000 from YO HSMM.out.2.2.2 (by show b1.roots.length<=10000;have:=HSM.out.2.2.2;omega))
    generalize (lO x0.lsec ⟨x0.st,1,day,b1.roots,x0.ls,0,0⟩)=mm at *
    generalize (I7 x0.lsec ⟨x0.st,1,day,b1.roots,x0.ls,0,0⟩)=kk2 at *
    refine Gt.wpX_movU (Gd.gR rfl) (GMt mm kk2) (xM _ _ _) (fun f=>f 93) rfl rfl rfl rfl rfl (fun _=>rfl) (fun m1 f hf=>hf 93 _ rfl rfl) ?_
    simp only [Act.put,YG,YI,YH]
    refine Gt.dL (Gd.gR rfl) (GPm mm) (IV _ _) (fun f=>f 78) rfl rfl rfl rfl rfl (fun _=>rfl) (fun m1 f hf=>by obtain ⟨A5,n5,c5,h5,o5⟩:=hf 78 _ rfl rfl;rw [h5];exact ⟨_,_,(zZ _ _ _).1,Below.refl _ _,A5,n5,c5,rfl,o5⟩) ?_
    simp only [Act.put,YG,YI,YH]
    refine Gt.dL (Gd.gR rfl) (fun v _=>v=.int .i64 kk2) (Gt.Rl.stable_eq _ _) (fun f=>f 78) rfl rfl rfl rfl rfl (fun _=>rfl) (fun m1 f hf=>by obtain ⟨A5,n5,c5,h5,o5⟩:=hf 78 _ rfl rfl;rw [h5];exact ⟨_,_,(zZ _ _ _).2,Below.refl _ _,rfl⟩) ?_
    simp only [Act.put,YG,YI,YH]
    refine Gt.wpX_allocM17 wk.heap.size (fun m1=>(LL m1).size) (nK _ _ _) (Gd.gR rfl) rfl rfl rfl rfl ?_
    simp only [Act.put,YG,YI,YH]
    refine Gt.dP (Gd.gR rfl) (yL wk.heap.size mm) (fun f=>f 7) (fun f=>f 94) rfl rfl rfl rfl rfl (fun _=>rfl) (fun _=>rfl) yL.ext yL.st (fun m1 f hf=>?_) ?_
    · obtain ⟨g,e9,hg,cs9,q1,q2⟩:=hf 7 _ rfl rfl
      obtain ⟨A5,n5,c5,h5,o5⟩:=hf 94 _ rfl rfl
      rw [e9,h5]
      have hR:=RgS.setRow (S:=[80]) (G:=fun q=>wk.heap.size<=q) (cs':=(aP mm (.slice A5 n5 c5)).toArray) q1 (List.mem_singleton.2 rfl) hg q2.symm
      exact ⟨_,dQ (cells:=(aP mm (.slice A5 n5 c5)).toArray) q1 cP q2 (nE mm (.slice A5 n5 c5) rfl),⟨W1,hR⟩,g,A5,n5,c5,rfl,hg,aX q1,o5.rg (by decide) (fun _ _=>YK _) hR⟩
    refine Gt.wpX_endG rfl (fun m1 f hf hqs=>?_)
    have hq2:yL wk.heap.size mm (f 7) m1.1:=hqs _ YZ
    have e95:f 95=.int .i64 kk2:=hf 95 _ rfl
    obtain ⟨g9,A5,n5,c5,e9,hg9,T9,O9⟩:=hq2
    simp only [bO]
    simp only [Act.put,YG,YI,YH]
    rw [e9,e95]
    have J6:=ZH (JK.out.tr (LL m1))
    have AU6:=ZH (AUK.out.kp (Kp.ext (LL m1)))
    have AV6:=ZH (AVK.out.kp (Kp.ext (LL m1)))
    have HS6:=ZH (HSK.out.kp (Kp.ext (LL m1)))
    have HT9:=ZH T9
    have HO9:=ZH O9
    clear hw1 LR LL p0 p6 pl a27 a0 al kg kl KL hqs hf e9 e95 T9 O9 hg9 JK AUK AVK HSK HTK HGK HRK2 hglk
    generalize m1.1=w6 at *
    generalize f 93=f93 at *
    generalize f 78=f78 at *
    generalize f 92=f92 at *
    generalize f 94=f94 at *
    clear m1 f wk
    show wpList _ _ _ _ _ _
    go_upto_region 12 with fail
    have HC:=ZH J6.out.c.1
    have y6:=J6.out.c.2.2.2.2.1
    have yl:=J6.out.c.2.2.2.2.2.1
    go_wp2_with (first | (refine wpList_load_mid rfl 75 _ rfl P 1 rfl [slV (A8,n8,c8),slV (A7,n7,c7),slV zS,slV zS,slV zS] _ HC.out Tryz.underlying75 rfl aN ?_) | (refine wpList_load_row rfl 80 _ rfl g9 rfl 80 (aP mm (.slice A5 n5 c5)).toArray (0,0) _ HT9.out.row Tryz.underlying80 rfl cP ?_))
    refine (HAC.out (A8,n8,c8) (A7,n7,c7) zS zS zS _ [] mm (.slice A5 n5 c5) day w6 J6.out.ext HS6.out HB3.out (RdK.nil_ _ _ _) rfl (fun p hp=>(by cases hp)) HO9.out.rd HSMM.out.1 HSMM.out.2.1 HSMM.out.2.2.1).mono ?_
    rintro e w8 q8
    obtain ⟨t2,rfl,b8,hs8⟩:=q8.sts HS6.out (fun p hp=>(by cases hp)) HO9.out
    have HB8:=ZH (show WSc (accM ⟨[r0],a0.links++a1.links,[],[],[]⟩ mm day).1/\(accM ⟨[r0],a0.links++a1.links,[],[],[]⟩ mm day).1.rs=[]/\(accM ⟨[r0],a0.links++a1.links,[],[],[]⟩ mm day).1.roots.length=1 from ⟨HB3.out.accM HSMM.out.1 HSML.out,(sT _ mm day).2.2.1,by rw [(sT _ mm day).1];rfl⟩)
    generalize accM ⟨[r0],a0.links++a1.links,[],[],[]⟩ mm day=ac at *
    have J8:=ZH (J6.out.tr b8)
    have HS8:=ZH hs8
    have AU8:=ZH (AU6.out.kp (Kp.ext b8))
    have AV8:=ZH (AV6.out.kp (Kp.ext b8))
    obtain ⟨j9,k9⟩:=J8.out.store QB.out (A8,n8,c8) (A7,n7,c7) t2 zS zS
    have HJ9:=ZH j9
    have HK9:=ZH k9
    have HTH8:=ZH J8.out.th
    have z0:=J8.out.c.2.2.2.2.2.1
    clear q8 hs8 j9 k9 y6 yl HC b8 J6 AU6 AV6 HS6 HT9 HO9
    go_wp2_with (refine fD rfl 75 _ _ rfl rfl P 1 [slV (A8,n8,c8),slV (A7,n7,c7),slV t2,slV zS,slV zS] rfl rfl HTH8.out aN (bT (A8,n8,c8) (A7,n7,c7) t2 zS zS) ?_)
    go_meet
    exact ⟨t2,ac.1,HJ9,ZH (AU8.out.kp HK9.out),ZH (AV8.out.kp HK9.out),ZH (HS8.out.kp HK9.out),HB8⟩
   case rest =>
   obtain ⟨t2,S,J4,HAU4,HAV4,HST4,HB4⟩:=hcut
   clear HB3 hz0 hz1
   go_wp2_with fail
   refine (J4.out.next QB.out 4 (by omega) (by omega)).mono ?_
   rintro e w9 ⟨z,hz0,hz1,rfl,j5,k5⟩
   have J5:=ZH j5
   have HAU5:=ZH (HAU4.out.kp k5)
   have HAV5:=ZH (HAV4.out.kp k5)
   have HST5:=ZH (HST4.out.kp k5)
   obtain ⟨kk,rfl⟩:∃ k:Nat,z=(k:Int):=⟨z.toNat,by omega⟩
   clear j5 k5 J4 HAU4 HAV4 HST4
   go_wp2_with fail
   go_loopw [9] (fun s9 wr=>∃ (k:Nat) (s3:SlT) (S:ST) (xs:List AB),k<=3/\s9=.int .i64 (k:Int)/\Hid (xs.length=2)/\Hid (WI w P D b (.slice (some ⟨gA,0,none⟩) 2 c) (A8,n8,c8) (A7,n7,c7) t2 s3 zS day xs wr)/\Hid (AuL (3 - (k:Int)) wr xs)/\Hid (AvL (3 - (k:Int)) wr xs)/\Hid (StS wr (A8,n8,c8) (A7,n7,c7) t2 s3 zS S)/\Hid (WSc S/\(S.rs.length:Int)<=3 - (k:Int)/\S.roots.length=1)) (fun s9 _=>(intOf s9).toNat)
   case atStart=>exact ⟨kk,zS,S,_,by omega,rfl,ZH rfl,J5,ZH (HAU5.out.mono (by omega)),ZH (HAV5.out.mono (by omega)),HST5,ZH ⟨HB4.out.1,by rw [HB4.out.2.1];show (0:Int)<=_;omega,HB4.out.2.2⟩⟩
   case round =>
    clear J5 HAU5 HAV5 HST5 HB4
    obtain ⟨k,s3,S,xs,hk,rfl,HXL,J,AU,AV,HS,HB⟩:=hrel
    by_cases hk0:k=0
    case pos =>
     subst hk0
     have HP:=ZH J.out.po
     have HZ:=ZH J.out.rz
     have H1:=ZH (zX (v:=(.slice (some ⟨gA,0,none⟩) 2 c)) (A8,n8,c8) (A7,n7,c7) t2 s3 zS day rfl)
     go_wp2_with (first | (refine wpList_load_row rfl 100 _ rfl P rfl 100 (eU (.slice (some ⟨gA,0,none⟩) 2 c) (A8,n8,c8) (A7,n7,c7) t2 s3 zS day) (0,0) _ HP.out Tryz.underlying100 rfl rG ?_) | (refine aL rfl 100 _ _ rfl rfl w.heap.size (eU (.slice (some ⟨gA,0,none⟩) 2 c) (A8,n8,c8) (A7,n7,c7) t2 s3 zS day) rfl rfl 100 #[.slice none 0 0,.slice none 0 0,.slice none 0 0,.slice none 0 0,.slice none 0 0,.slice none 0 0,.int .i64 0] HZ.out rG rfl H1.out ?_))
     obtain ⟨x0,x1,rfl⟩:=RH HXL.out
     have HF:=ZH (J.out.fin (eU (.slice (some ⟨gA,0,none⟩) 2 c) (A8,n8,c8) (A7,n7,c7) t2 s3 zS day))
     refine bodyPost_ret (v:=.agg (eU (.slice (some ⟨gA,0,none⟩) 2 c) (A8,n8,c8) (A7,n7,c7) t2 s3 zS day)) ?_ rfl ⟨_,c,_,_,t2,s3,zS,S,day,x0,x1,rfl,HF.out.1,HDY.out,(J.out.own.setR (fun q=>by have:=aZ J.out.own _ q;have:=QB.out.D1;have:=QB.out.D2;omega)).rd,(AU.out.kp HF.out.2).mono (by omega),(AV.out.kp HF.out.2).mono (by omega),HS.out.kp HF.out.2,HB.out.1,by have:=HB.out.2.1;omega,HB.out.2.2⟩
     exact results_cell_row rfl _ _ w.heap.size 100 (eU (.slice (some ⟨gA,0,none⟩) 2 c) (A8,n8,c8) (A7,n7,c7) t2 s3 zS day) (0,0) _ rfl (aX HZ.out) Tryz.underlying100 rfl rG
    case neg =>
    obtain ⟨k',rfl⟩:∃ k',k=k'+1:=⟨k - 1,by omega⟩
    have hk1:(0:Int)<((k'+1:Nat):Int):=by omega
    have wk1:IntKind.i64.wrap (((k'+1:Nat):Int) - 1)=(k':Int):=by rw [show ((k'+1:Nat):Int) - 1=(k':Int) by omega];exact IntWalk.i64_in _ (by omega)
    go_wp2_with fail
    refine (J.out.next QB.out 2 (by omega) (by omega)).mono ?_
    rintro e w5 ⟨z,hz0',hz1',rfl,j5,k5⟩
    have J5:=ZH j5
    have AU5:=ZH (AU.out.kp k5)
    have AV5:=ZH (AV.out.kp k5)
    have HS5:=ZH (HS.out.kp k5)
    obtain ⟨i,rfl⟩:∃ i:Nat,z=(i:Int):=⟨z.toNat,by omega⟩
    clear j5 k5 J AU AV HS
    have hi2':i<2:=by omega
    obtain ⟨xi,hxi⟩:∃ x,xs[i]?=some x:=⟨_,YL (by have:=HXL.out;omega)⟩
    obtain ⟨ai,di,Si⟩:=AU5.out xi (YS hxi)
    obtain ⟨vs,Vs,vl,vp,vb⟩:=AV5.out xi (YS hxi)
    obtain ⟨gA',e',-,hglr,-,-,-,Ri⟩:=J5.out.range hxi
    obtain rfl:gA=gA':=by injection e' with e';injection e'
    have HRi:=ZH Ri
    have HSi:=ZH Si
    have HVi:=ZH (And.intro Vs (And.intro vl (And.intro vp vb)))
    obtain ⟨ks,hks⟩:∃ ks,ai.secs[ai.secs.length - 1]?=some ks:=⟨_,YL (by have:=Si.ai.len;have:=Si.ne.1;omega)⟩
    have HKS:=ZH hks
    have HSM:=ZH (show xi.st.length<=maxLen/\ai.secs.length<=100/\(1<=xi.li/\xi.li<=4) from ⟨by rw [Si.st];have:=Si.ai.st.1.2;unfold maxLen;omega,by have:=Si.ai.len;have:=Si.ne.2;omega,by have:=Si.li;omega⟩)
    have hDw:D<w5.heap.size:=by have:=QB.out.D2;have:=J5.out.c.2.2.2.2.2.1;omega
    have hbw:b<w5.heap.size:=by have:=QB.out.b2;have:=J5.out.c.2.2.2.2.2.1;omega
    clear e' hxi Ri Si Vs vl vp vb hks
    have wi1:IntKind.i64.wrap ((i:Int))=(i:Int):=IntWalk.i64_in _ (by omega)
    have zi1:(0:Int)<=(i:Int):=by omega
    have li1:(i:Int)<2:=by omega
    have ti1:((i:Int)).toNat=i:=by omega
    go_upto_region 17 with fail
    refine Gt.aI (r:=(dsR D b w5.heap.size hDw hbw)) 19 (by kernel_rfl) (by kernel_rfl) ?_
    simp only [YT,YQ,YU,YV]
    intro wq hw1
    have LR:∀ m1:(dsR D b w5.heap.size hDw hbw).Lt wq,(dsR D b w5.heap.size hDw hbw).rel w5 m1.1:=fun m1=>(dsR D b w5.heap.size hDw hbw).tr hw1 m1.2
    have JW:∀ m1:(dsR D b w5.heap.size hDw hbw).Lt wq,WI w P D b (.slice (some ⟨gA,0,none⟩) 2 c) (A8,n8,c8) (A7,n7,c7) t2 s3 zS day xs m1.1:=fun m1=>(J5.out.ds QB.out (LR m1)).1
    have KW:∀ m1:(dsR D b w5.heap.size hDw hbw).Lt wq,Kp w5 m1.1:=fun m1=>(J5.out.ds QB.out (LR m1)).2
    have p0:=fun m1:(dsR D b w5.heap.size hDw hbw).Lt wq=>(JW m1).c.2.1
    have p6:=fun m1:(dsR D b w5.heap.size hDw hbw).Lt wq=>(JW m1).c.2.2.2.2.1
    have pl:=fun m1:(dsR D b w5.heap.size hDw hbw).Lt wq=>(JW m1).c.2.2.2.2.2.1
    have kl:=fun m1:(dsR D b w5.heap.size hDw hbw).Lt wq=>YX hglr (LR m1).1.size
    have HKI:Hid (∀ m1:(dsR D b w5.heap.size hDw hbw).Lt wq,m1.1.rangeAt gA (i*33) (abL xi)):=ZH (fun m1 j u hu=>by
     have hgD:gA≠D:=fun q=>by have:=QB.out.D2;omega
     have h1:=HRi.out j u hu
     unfold World.cell? at h1 ⊢
     simp only at h1 ⊢
     rw [((LR m1).1.block gA hglr).resolve_right (fun z=>by rcases z.1 with z | z;exact hgD z;omega)]
     exact h1)
    have HJW:=ZH JW
    have HKW:=ZH KW
    have HLR:=ZH LR
    clear JW KW LR
    repeat (refine Gt.aC rfl fun K hK=>?_;go_big_quiet_op;refine hK _ ?_;clear hK K)
    refine Gt.wpX_midK (Gd.gR rfl) (gA) (i*33) (abL xi) rfl rfl rfl rfl rfl HKI.out Tryz.underlying98 rfl bX ?_
    simp only [Act.put,YG,YI,YH]
    repeat (refine Gt.aC rfl fun K hK=>?_;go_big_quiet_op;refine hK _ ?_;clear hK K)
    refine Gt.LE (Gd.gR rfl) (GZ 8) (J3 _) (args:=[.pointer (some ⟨D,0,none⟩),.int .i64 8]) rfl rfl rfl rfl (by kernel_rfl) rfl rfl (fun m1=>R2 _ (HJW.out m1).dice (by omega) (by omega)) ?_
    simp only [Act.put,YG,YI,YH]
    refine Gt.RD (Gd.gR rfl) GZ1 JA (fun _=>.int .i64 1) (fun f=>f 121) rfl rfl rfl rfl rfl rfl (fun _=>rfl) (fun _=>rfl) (fun m1 f hf=>?_) ?_
    · obtain ⟨z,e1,z0,z1⟩:=hf 121 _ rfl rfl
      rw [e1]
      exact ⟨_,_,RA m1.1 z z0 (by omega),(dsR D b w5.heap.size hDw hbw).dxe (Below.refl _ _),1+z,rfl,by omega,by omega⟩
    simp only [Act.put,YG,YI,YH]
    repeat (refine Gt.aC rfl fun K hK=>?_;go_big_quiet_op;refine hK _ ?_;clear hK K)
    refine Gt.aR (Gd.gR rfl) (GQt (3 - ((k'+1:Nat):Int)) xi (fun z=>eT ks ⟨xi.st,xi.li,day,day+90,dD vs z,(ai.secs.length:Int),0,0⟩) (fun z=>kE ks ⟨xi.st,xi.li,day,day+90,dD vs z,(ai.secs.length:Int),0,0⟩)) (xL _ _ _ _) (fun f=>[.agg (abL xi).toArray,f 122,.int .i64 day]) rfl rfl rfl rfl rfl (by kernel_rfl) rfl (fun _=>rfl) (fun m1 f hf=>?_) ?_
    · obtain ⟨z,e1,z0,z1⟩:=hf 122 _ rfl rfl
      rw [e1]
      have hkp:=HKW.out m1
      refine (HRK.out xi vs ai.secs ks z day m1.1 (HJW.out m1).ext (RdK.r1 (HVi.out.1.kp sP hkp).rd) (RdK.r1 (HSi.out.S.kp sP hkp).rd) HKS.out HSM.out.2.1 (by have:=HVi.out.2.1;omega) HSM.out.1 (by have:=HDY.out;omega) (by have:=HDY.out;omega) (by have:=HSM.out.2.2;omega) (by have:=HSM.out.2.2;omega) HSi.out.one).mono ?_
      rintro e w'' ⟨A9,n9,c9,A6,n6,c6,rfl,r9,r6,b6,s9,s6'⟩
      have s6:=s6'.safeK
      refine ⟨_,rfl,(dsR D b w5.heap.size hDw hbw).dxe b6,z,A9,n9,c9,A6,n6,c6,⟨z0,z1⟩,rfl,⟨dD vs z,s9,?_,UD HVi.out.2.2.1,fun y hy=>?_⟩,s6,?_⟩
      · have:=xK vs z
        have:=HVi.out.2.1
        omega
      · rcases QZ hy with hy | rfl
        · exact HVi.out.2.2.2 y hy
        · exact ⟨z0,z1⟩
      · have:=xK vs z
        have:=HVi.out.2.1
        rcases FL ks ⟨xi.st,xi.li,day,day+90,dD vs z,(ai.secs.length:Int),0,0⟩ with q | q <;> rw [q]
        · show (dD vs z).length<=10000
          omega
        · exact YK _
    simp only [Act.put,YG,YI,YH]
    generalize hkr:(fun z:Int=>eT ks ⟨xi.st,xi.li,day,day+90,dD vs z,(ai.secs.length:Int),0,0⟩)=kr at *
    have HKR:=ZH (show ∀ z:Int,(kr z).st.length<=maxLen from fun z=>by rw [<- hkr];exact LA ks ⟨xi.st,xi.li,day,day+90,dD vs z,(ai.secs.length:Int),0,0⟩ HSM.out.1)
    clear hkr
    generalize (fun z:Int=>kE ks ⟨xi.st,xi.li,day,day+90,dD vs z,(ai.secs.length:Int),0,0⟩)=kq at *
    refine Gt.wpX_movU (Gd.gR rfl) (GQt (3 - ((k'+1:Nat):Int)) xi kr kq) (xL _ _ _ _) (fun f=>f 125) rfl rfl rfl rfl rfl (fun _=>rfl) (fun m1 f hf=>hf 125 _ rfl rfl) ?_
    simp only [Act.put,YG,YI,YH]
    refine Gt.dL (Gd.gR rfl) (GQa (3 - ((k'+1:Nat):Int)) xi) (IW _ _) (fun f=>f 114) rfl rfl rfl rfl rfl (fun _=>rfl) (fun m1 f hf=>by obtain ⟨z,A9,n9,c9,A6,n6,c6,h0,h1,h2,h3⟩:=hf 114 _ rfl rfl;rw [h1];exact ⟨_,_,(lQ _ _ _ _).1,(dsR D b w5.heap.size hDw hbw).dxe (Below.refl _ _),A9,n9,c9,rfl,h2⟩) ?_
    simp only [Act.put,YG,YI,YH]
    refine Gt.dL (Gd.gR rfl) (GQr kr) (IX _) (fun f=>f 114) rfl rfl rfl rfl rfl (fun _=>rfl) (fun m1 f hf=>by obtain ⟨z,A9,n9,c9,A6,n6,c6,h0,h1,h2,h3⟩:=hf 114 _ rfl rfl;rw [h1];exact ⟨_,_,(lQ _ _ _ _).2.1,(dsR D b w5.heap.size hDw hbw).dxe (Below.refl _ _),z,A6,n6,c6,h0,rfl,h3⟩) ?_
    simp only [Act.put,YG,YI,YH]
    refine Gt.dL (Gd.gR rfl) GQk IY (fun f=>f 114) rfl rfl rfl rfl rfl (fun _=>rfl) (fun m1 f hf=>by obtain ⟨z,A9,n9,c9,A6,n6,c6,h0,h1,h2,h3⟩:=hf 114 _ rfl rfl;rw [h1];exact ⟨_,_,(lQ _ _ _ _).2.2,(dsR D b w5.heap.size hDw hbw).dxe (Below.refl _ _),_,rfl⟩) ?_
    simp only [Act.put,YG,YI,YH]
    refine Gt.wpX_allocA33 w5.heap.size (fun m1=>(HLR.out m1).1.size) CB (Gd.gR rfl) rfl rfl rfl rfl ?_
    simp only [Act.put,YG,YI,YH]
    refine Gt.wpX_allocR8 w5.heap.size (fun m1=>(HLR.out m1).1.size) CC (Gd.gR rfl) rfl rfl rfl rfl ?_
    simp only [Act.put,YG,YI,YH]
    refine Gt.dP (Gd.gR rfl) (R3 w5.heap.size (3 - ((k'+1:Nat):Int)) xi) (fun f=>f 11) (fun f=>f 126) rfl rfl rfl rfl rfl (fun _=>rfl) (fun _=>rfl) (fun v w w' e h=>h.rg e.1 (by decide) (by decide)) (fun T hT v w w' e h=>h.rg e.2 (fun q=>hT (List.mem_singleton.1 q).symm) (fun q=>oK (List.mem_singleton.1 q ▸ e.1))) (fun m1 f hf=>?_) ?_
    · obtain ⟨g,e9,hg,cs9,q1,q2⟩:=hf 11 _ rfl rfl
      obtain ⟨A9,n9,c9,h5,o5⟩:=hf 126 _ rfl rfl
      rw [e9,h5]
      have hR:=RgS.setRow (S:=[98]) (G:=fun q=>w5.heap.size<=q) (cs':=bE { xi with V:=.slice A9 n9 c9,li:=xi.li+1 }) q1 (List.mem_singleton.2 rfl) hg q2.symm
      exact ⟨_,dQ (cells:=bE { xi with V:=.slice A9 n9 c9,li:=xi.li+1 }) q1 bX q2 (dE ⟨HSi.out.one.R,HSi.out.one.L,HSi.out.one.S,rfl,HSi.out.one.D,HSi.out.one.Z⟩),⟨WG,hR⟩,g,A9,n9,c9,rfl,hg,aX q1,o5.rgs hR (by decide)⟩
    refine Gt.dP (Gd.gR rfl) (R4 w5.heap.size kr) (fun f=>f 12) (fun f=>f 127) rfl rfl rfl rfl rfl (fun _=>rfl) (fun _=>rfl) (fun v w w' e h=>h.rg e.1 (by decide) (by decide)) (fun T hT v w w' e h=>h.rg e.2 (fun q=>hT (List.mem_singleton.1 q).symm) (fun q=>oK (List.mem_singleton.1 q ▸ e.1))) (fun m1 f hf=>?_) ?_
    · obtain ⟨g,e9,hg,cs9,q1,q2⟩:=hf 12 _ rfl rfl
      obtain ⟨z,A6,n6,c6,h0,h5,o5,l5⟩:=hf 127 _ rfl rfl
      rw [e9,h5]
      have hR:=RgS.setRow (S:=[103]) (G:=fun q=>w5.heap.size<=q) (cs':=bI (kr z) (.slice A6 n6 c6)) q1 (List.mem_singleton.2 rfl) hg q2.symm
      exact ⟨_,dQ (cells:=bI (kr z) (.slice A6 n6 c6)) q1 bA q2 (fW (kr z) A6 n6 c6),⟨WH,hR⟩,g,z,A6,n6,c6,h0,rfl,hg,aX q1,o5.rg (by decide) (fun _ _=>YK _) hR,l5⟩
    refine Gt.wpX_endG rfl (fun m1 f hf hqs=>?_)
    have hq2:R4 w5.heap.size kr (f 12) m1.1:=hqs _ YZ
    have hq1:R3 w5.heap.size (3 - ((k'+1:Nat):Int)) xi (f 11) m1.1:=hqs _ (ZG _ YZ)
    obtain ⟨kz,e128⟩:GQk (f 128) m1.1:=hf 128 _ rfl
    obtain ⟨g9,z,A6,n6,c6,hz8,e9,hg9,T9,O9,l9⟩:=hq2
    obtain ⟨g8,A9,n9,c9,e8,hg8,T8,V8⟩:=hq1
    simp only [bO]
    simp only [Act.put,YG,YI,YH]
    rw [e8,e9,e128]
    have J6:=ZH (HJW.out m1)
    have K6:=ZH (HKW.out m1)
    have HT8:=ZH T8
    have HV8:=ZH V8
    have HT9:=ZH T9
    have HO9:=ZH O9
    have HL9:=ZH l9
    have HKT:=ZH (HKR.out z)
    clear hw1 HLR HJW HKW HKI p0 p6 pl kl hqs hf e8 e9 e128 T8 T9 V8 O9 l9 J5 HKR HRi
    generalize m1.1=w6 at *
    generalize kr z=rr at *
    generalize f 121=f121 at *
    generalize f 122=f122 at *
    generalize f 125=f125 at *
    generalize f 114=f114 at *
    generalize f 126=f126 at *
    generalize f 127=f127 at *
    clear m1 f kr kq
    clear hDw hbw
    show wpList _ _ _ _ _ _
    go_upto_region 18 with fail
    obtain ⟨xn,hxn⟩:∃ xn:AB,{ xi with V:=.slice A9 n9 c9,li:=xi.li+1 }=xn:=⟨_,rfl⟩
    have HXN:=ZH (show AuS (3 - ((k'+1:Nat):Int)+1) w6 xn ai di/\qZ xn from by
     have h:=((HSi.out.kp K6.out).more)
     rw [<- hxn]
     exact ⟨⟨h.R,h.L,h.S,h.st,h.sg,h.ls,h.ssec,h.lsec,h.ai,h.ne,⟨h.one.R,h.one.L,h.one.S,rfl,h.one.D,h.one.Z⟩,h.li⟩,⟨h.one.R,h.one.L,h.one.S,rfl,h.one.D,h.one.Z⟩⟩)
    rw [hxn] at HT8 HV8
    clear hxn
    obtain ⟨gA',e',hgP,hth,hT,-,-,-,o12⟩:=aJ.setFlat uP (by decide) (a:=xn) J6.out.own (show i<xs.length by have:=HXL.out;omega)
    obtain rfl:gA=gA':=by injection e' with e';injection e'
    obtain ⟨j7,k7⟩:=J6.out.setAll QB.out hgP hT (i:=i) (y:=xn) (ys:=xs.set i xn) o12
    have HTH:=ZH hth
    have HJ7:=ZH j7
    have HK7:=ZH k7
    have y0:=J6.out.c.2.1
    have yl:=J6.out.c.2.2.2.2.2.1
    have H18:=ZH (show (abL xn).toArray.all (·.oneCell')=true by rw [C8];exact dE HXN.out.2)
    clear e' hth hT o12 j7 k7 hgP
    go_upto_region 19 with (first | (refine wpList_load_row rfl 98 _ rfl g8 rfl 98 (bE xn) (0,0) _ HT8.out.row Tryz.underlying98 rfl bX ?_) | (refine fD rfl 98 _ _ rfl rfl gA (i*33) (abL xn) rfl rfl HTH.out bX H18.out ?_))
    have HT9':=ZH (show bM (w6.setCells gA (i*33) (abL xn)) g9 rr (.slice A6 n6 c6) from HK7.out _ g9 _ _ UU HT9.out)
    have HO9':=ZH (HO9.out.kp sP HK7.out)
    have HS7:=ZH ((HS5.out.kp K6.out).kp HK7.out)
    have AU7:=ZH ((AU5.out.kp K6.out).kp HK7.out)
    have AV7:=ZH ((AV5.out.kp K6.out).kp HK7.out)
    have HXN7:=ZH (HXN.out.1.kp HK7.out)
    have HXV7:=ZH (HV8.out.kp HK7.out)
    clear y0 yl HTH HT8 HT9 HO9 J6 K6 HS5 AU5 AV5 HK7 HSi H18 HXN HV8
    generalize w6.setCells gA (i*33) (abL xn)=w7 at *
    obtain ⟨ps,hps,hsp,hin⟩:=HS7.out.v
    have HC:=ZH HJ7.out.c.1
    have y6:=HJ7.out.c.2.2.2.2.1
    have yl:=HJ7.out.c.2.2.2.2.2.1
    have HPS:=ZH (And.intro hps (And.intro hsp hin))
    clear hps hsp hin
    go_wp2_with (first | (refine wpList_load_mid rfl 75 _ rfl P 1 rfl [slV (A8,n8,c8),slV (A7,n7,c7),slV t2,slV s3,slV zS] _ HC.out Tryz.underlying75 rfl aN ?_) | (refine wpList_load_row rfl 103 _ rfl g9 rfl 103 (bI rr (.slice A6 n6 c6)) (0,0) _ HT9'.out.row Tryz.underlying103 rfl bA ?_))
    refine (HAR.out (A8,n8,c8) (A7,n7,c7) t2 s3 zS S ps rr (.slice A6 n6 c6) day w7 HJ7.out.ext HS7.out HB.out.1 HPS.out.2.1.rd HPS.out.1 (fun p hp=>(HPS.out.2.2 p hp).rd) (by have:=HB.out.2.1;omega) (RdK.r1 HO9'.out.rd) HKT.out).mono ?_
    rintro e w8 q8
    obtain ⟨t3,rfl,b8,hs8⟩:=q8.sts HS7.out HPS.out.2.2 HO9'.out
    have HB8:=ZH (show WSc (accR S rr day).1/\((accR S rr day).1.rs.length:Int)<=3 - (k':Int)/\(accR S rr day).1.roots.length=1 from ⟨HB.out.1.accR HL9.out,by have:=RB S rr day;have:=HB.out.2.1;omega,by rw [(zY S rr day).1];exact HB.out.2.2⟩)
    generalize accR S rr day=ac at *
    have J8:=ZH (HJ7.out.tr b8)
    have HS8:=ZH hs8
    have AU8:=ZH (AU7.out.kp (Kp.ext b8))
    have AV8:=ZH (AV7.out.kp (Kp.ext b8))
    have HXN8:=ZH (HXN7.out.kp (Kp.ext b8))
    have HXV8:=ZH (HXV7.out.kp (Kp.ext b8))
    obtain ⟨j9,k9⟩:=J8.out.store QB.out (A8,n8,c8) (A7,n7,c7) t2 t3 zS
    have HJ9:=ZH j9
    have HK9:=ZH k9
    have HTH8:=ZH J8.out.th
    have z0:=J8.out.c.2.2.2.2.2.1
    clear q8 hs8 j9 k9 y6 yl HC HPS
    go_wp2_with (refine fD rfl 75 _ _ rfl rfl P 1 [slV (A8,n8,c8),slV (A7,n7,c7),slV t2,slV t3,slV zS] rfl rfl HTH8.out aN (bT (A8,n8,c8) (A7,n7,c7) t2 t3 zS) ?_)
    go_roundw
    case rel=>exact ⟨k',t3,ac.1,xs.set i xn,by omega,by go_num,ZH (by rw [List.length_set];exact HXL.out),HJ9,ZH (fun y hy=>(List.mem_or_eq_of_mem_set hy).elim (fun q=>((AU8.out.kp HK9.out).mono (by omega)) y q) (fun q=>by rw [q];exact ⟨ai,di,(HXN8.out.kp HK9.out).mono (by omega)⟩)),ZH (fun y hy=>(List.mem_or_eq_of_mem_set hy).elim (fun q=>((AV8.out.kp HK9.out).mono (by omega)) y q) (fun q=>by rw [q];exact (HXV8.out.kp HK9.out).mono (by omega))),ZH (HS8.out.kp HK9.out),HB8⟩
    case measure=>simp [intOf]
  case pos =>
  have hi2:(i:Int)<2:=by omega
  have wi:IntKind.i64.wrap ((i:Int)+1)=(i:Int)+1:=IntWalk.i64_in _ (by omega)
  obtain ⟨A,c,rfl⟩:=J.out.form
  go_upto_region 6 with fail
  refine Gr.aI (r:=dcR D b) 14 (by kernel_rfl) (by kernel_rfl) ?_
  simp only [YT,YQ,YU,YV]
  intro wq hw1
  have JL:∀ m:(dcR D b).Lt wq,(dcR D b).rel wr m.1:=fun m=>(dcR D b).tr hw1 m.2
  have JW:∀ m:(dcR D b).Lt wq,WI w P D b (.slice A xs.length c) zS zS zS zS zS day xs m.1:=fun m=>J.out.dc QB.out (JL m)
  have p0:=fun m:(dcR D b).Lt wq=>(JW m).c.2.1
  have pl:=fun m:(dcR D b).Lt wq=>(JW m).c.2.2.2.2.2.1
  have HJL:=ZH JL
  have HJW:=ZH JW
  have HDL:Hid (∀ m:(dcR D b).Lt wq,D<m.1.heap.size):=ZH (fun m=>by obtain ⟨M,hd⟩:=(JW m).dice;exact hd.lt)
  clear JL JW
  repeat (first | (refine Gr.dZ (Gd.gR rfl) _ rfl rfl rfl rfl rfl ?_;simp only [Act.put,YG,YI,YH]) | (refine Gr.aC rfl fun K hK=>?_;go_big_quiet_op;refine hK _ ?_;clear hK K))
  refine Gr.cA (Gd.gR rfl) (GZ 200) (oJ (dcR D b) _) (args:=[.pointer (some ⟨D,0,none⟩),.int .i64 200]) rfl rfl rfl rfl (by kernel_rfl) rfl rfl (fun m=>lP (b:=b) _ (HJW.out m).dice (by omega) (by omega)) ?_
  simp only [Act.put,YG,YI,YH]
  repeat (first | (refine Gr.dZ (Gd.gR rfl) _ rfl rfl rfl rfl rfl ?_;simp only [Act.put,YG,YI,YH]) | (refine Gr.aC rfl fun K hK=>?_;go_big_quiet_op;refine hK _ ?_;clear hK K))
  refine Gr.cA (Gd.gR rfl) (GZ 3) (oJ (dcR D b) _) (args:=[.pointer (some ⟨D,0,none⟩),.int .i64 3]) rfl rfl rfl rfl (by kernel_rfl) rfl rfl (fun m=>lP (b:=b) _ (HJW.out m).dice (by omega) (by omega)) ?_
  simp only [Act.put,YG,YI,YH]
  repeat (first | (refine Gr.dZ (Gd.gR rfl) _ rfl rfl rfl rfl rfl ?_;simp only [Act.put,YG,YI,YH]) | (refine Gr.aC rfl fun K hK=>?_;go_big_quiet_op;refine hK _ ?_;clear hK K))
  refine Gr.cA (Gd.gR rfl) (GZ 9) (oJ (dcR D b) _) (args:=[.pointer (some ⟨D,0,none⟩),.int .i64 9]) rfl rfl rfl rfl (by kernel_rfl) rfl rfl (fun m=>lP (b:=b) _ (HJW.out m).dice (by omega) (by omega)) ?_
  simp only [Act.put,YG,YI,YH]
  repeat (first | (refine Gr.dZ (Gd.gR rfl) _ rfl rfl rfl rfl rfl ?_;simp only [Act.put,YG,YI,YH]) | (refine Gr.aC rfl fun K hK=>?_;go_big_quiet_op;refine hK _ ?_;clear hK K))
  refine Gr.cA (Gd.gR rfl) (GZ 9) (oJ (dcR D b) _) (args:=[.pointer (some ⟨D,0,none⟩),.int .i64 9]) rfl rfl rfl rfl (by kernel_rfl) rfl rfl (fun m=>lP (b:=b) _ (HJW.out m).dice (by omega) (by omega)) ?_
  simp only [Act.put,YG,YI,YH]
  repeat (first | (refine Gr.dZ (Gd.gR rfl) _ rfl rfl rfl rfl rfl ?_;simp only [Act.put,YG,YI,YH]) | (refine Gr.aC rfl fun K hK=>?_;go_big_quiet_op;refine hK _ ?_;clear hK K))
  refine Gr.bD (Gd.gR rfl) (GL5 D i) (IT _ _ _) (fun f=>[(0,.int .i64 (i:Int)),(1,f 28),(2,f 30),(3,f 32),(4,f 34)]) rfl rfl rfl rfl rfl (fun _=>rfl) (fun m f hf=>?_) ?_
  · obtain ⟨z1,e1,a1,b1⟩:=hf 28 _ rfl rfl
    obtain ⟨z2,e2,a2,b2⟩:=hf 30 _ rfl rfl
    obtain ⟨z3,e3,a3,b3⟩:=hf 32 _ rfl rfl
    obtain ⟨z4,e4,a4,b4⟩:=hf 34 _ rfl rfl
    rw [e1,e2,e3,e4]
    exact ⟨_,_,QT m.1 i z1 z2 z3 z4,(dcR D b).ext ((Below.refl _ _).alloc (YF _) _),m.1.heap.size,z1,z2,z3,z4,rfl,HDL.out m,aB _ _,⟨a1,b1⟩,⟨a2,b2⟩,⟨a3,b3⟩,⟨a4,b4⟩⟩
  simp only [Act.put,YG,YI,YH]
  refine Gr.aR (Gd.gR rfl) (WC D) (FI _ _) (fun f=>[f 35]) rfl rfl rfl rfl rfl (by kernel_rfl) rfl (fun _=>rfl) (fun m f hf=>?_) ?_
  · obtain ⟨g,z1,z2,z3,z4,e1,hg,hb,c1,c2,c3,c4⟩:=hf 35 _ rfl rfl
    rw [e1]
    have HW:∀ x ∈ [(i:Int),z1,z2,z3,z4],k8 x:=fun x hx=>by
     simp only [List.mem_cons,List.not_mem_nil,or_false] at hx
     unfold k8
     rcases hx with rfl | rfl | rfl | rfl | rfl <;> omega
    have HR:RdI m.1 .i64 (.slice (some ⟨g,0,none⟩) 5 5) [(i:Int),z1,z2,z3,z4]:=RdK.r1 (QN (xs:=aQ [(i:Int),z1,z2,z3,z4]) hb 5 rfl (by unfold maxLen;omega))
    refine (HAU.out [(i:Int),z1,z2,z3,z4] _ m.1 (HJW.out m).ext HR HW (by show 5<=1000;omega)).mono fun e w'' q=>?_
    obtain ⟨u,h1,h2,h3⟩:=WD q (HDL.out m)
    exact ⟨u,h1,(dcR D b).ext h2,h3⟩
  simp only [Act.put,YG,YI,YH]
  refine Gr.bD (Gd.gR rfl) (XO D) (FJ _ _) (fun f=>[(0,f 36)]) rfl rfl rfl rfl rfl (fun _=>rfl) (fun m f hf=>?_) ?_
  · obtain ⟨x,a,ds,e1,ar,rest⟩:=hf 36 _ rfl rfl
    rw [e1]
    have eA:Ext m.1 (m.1.alloc (.cells (bE x) 98)):=(Below.refl _ _).alloc (YF _) _
    exact ⟨_,_,NE m.1 x,(dcR D b).ext eA,m.1.heap.size,x,a,ds,rfl,HDL.out m,aB _ _,ar.ext eA,rest⟩
  simp only [Act.put,YG,YI,YH]
  refine Gr.cH (fun m f hf=>?_)
  obtain ⟨g,x,a,ds,e34,hg,hrow,ar,ai,hn,li,hV,hDe,hZ⟩:=hf 37 _ rfl
  simp only [bO]
  simp only [Act.put,YG,YI,YH]
  rw [e34]
  have J5:=ZH (HJW.out m)
  have AU5:=ZH (AU.out.kp (J.out.kdc (HJL.out m)))
  have AV5:=ZH (AV.out.kp (J.out.kdc (HJL.out m)))
  have HVX:=ZH hV
  have HRK:=ZH (show RdK m.1 33 (.slice (some ⟨g,0,none⟩) 1 1) (abL x) from QN (by rw [C8];exact hrow) 1 rfl (by unfold maxLen;omega))
  have HAX:=ZH (ar.auS ai hn li hV hDe hZ)
  have XB:=ZH (Below.refl (P+1) m.1)
  have HSZ:=ZH (show P+1<=m.1.heap.size from (HJW.out m).c.2.2.2.2.2.1)
  have hxl:xs.length<2:=by have:=HXL.out;omega
  clear hw1 HJL HJW HDL p0 pl hf e34 hrow ar J AU AV
  generalize m.1=w5 at *
  generalize f 28=f25 at *
  generalize f 30=f27 at *
  generalize f 32=f29 at *
  generalize f 34=f31 at *
  generalize f 35=f32 at *
  generalize f 36=f33 at *
  clear m f
  show wpList _ _ _ _ _ _
  go_wp2_with (refine bL (k:=33) (by decide) W9 (n:=xs.length) (m:=1) (B:=P+1) J5.out.own (by rw [xI]) HRK.out rfl (UA HAX.out.one) XB.out (by omega) (by unfold maxLen;omega) HSZ.out rfl rfl rfl rfl ?_;intro A8 n8 c8 w8 hn8 o8 x8 g8;obtain ⟨hP,j9,k9⟩:=J5.out.app QB.out (show aJ w8 (P+1) 98 33 (.slice A8 n8 c8) (sR (xs++[x])) by rw [NH];exact o8) g8;have HJ9:=ZH j9;have HK9:=ZH k9;have y0:=cell_of_row _ _ 0 _ _ _ hP;have yl:=aA hP;have yf:w8.frozen? ⟨P,0,none⟩=false:=by simp [World.frozen?,hP])
  go_roundw
  case rel=>exact ⟨i+1,_,xs++[x],by omega,by go_num,ZH (by rw [YJ,HXL.out];rfl),HJ9,ZH (fun y hy=>(List.mem_append.1 hy).elim (fun q=>(AU5.out.kp (Kp.refl _) |>.kp ((Kp.refl _).tr HK9.out)) y q) (fun q=>by rw [List.mem_singleton.1 q];exact ⟨a,ds,HAX.out.kp HK9.out⟩)),ZH (fun y hy=>(List.mem_append.1 hy).elim (fun q=>(AV5.out.kp HK9.out) y q) (fun q=>by rw [List.mem_singleton.1 q];exact ⟨[],by rw [HVX.out];exact zT _ _ _ _,Int.le_refl _,List.Pairwise.nil,fun v hv=>(by cases hv)⟩))⟩
  case measure=>simp [intOf];omega
theorem AuS.ext {n:Int}{w w':World}{x:AB}{a:AU}{ds:List Int} (h:AuS n w x a ds) (e:Ext w w'):AuS n w' x a ds:=h.kp (Kp.ext e)
structure WoZ (w wr:World) (P:Nat) (A:Option Addr) (c:Nat) (s0 s1 s2 s3 s4:SlT) (S:ST) (day:Int) (x y:AB):Prop where
 ext:Ext w wr
 wo:wr.heap[P]?=some (.cells (eU (.slice A 2 c) s0 s1 s2 s3 s4 day) 100 (0,0))
 rd:RdK wr 33 (.slice A 2 c) (sR [x,y])
 au:AuL 3 wr [x,y]
 av:AvL 3 wr [x,y]
 st:StS wr s0 s1 s2 s3 s4 S
 sb:WSc S
 sl:S.rs.length<=3
 one:S.roots.length=1
 dy:40000<=day/\day<40080
section
variable {w wr wx:World}{P:Nat}{A:Option Addr}{c:Nat}{s0 s1 s2 s3 s4:SlT}{S:ST}{day:Int}{x y:AB}
theorem WoZ.tr (h:WoZ w wr P A c s0 s1 s2 s3 s4 S day x y) (e:Ext wr wx):WoZ w wx P A c s0 s1 s2 s3 s4 S day x y :=
 ⟨h.ext.tr e,(e.block _ (aA h.wo)).trans h.wo,RdK.ext h.rd e,h.au.kp (Kp.ext e),h.av.kp (Kp.ext e),h.st.kp (Kp.ext e),h.sb,h.sl,h.one,h.dy⟩
theorem WoZ.all (h:WoZ w wr P A c s0 s1 s2 s3 s4 S day x y):wr.rangeAt P 0 [.slice A 2 c,slV s0,slV s1,slV s2,slV s3,slV s4,.int .i64 day]:=fun j u hu=>by
 rw [YR,cell_of_row _ _ j _ _ _ h.wo,show eU (.slice A 2 c) s0 s1 s2 s3 s4 day=([.slice A 2 c,slV s0,slV s1,slV s2,slV s3,slV s4,.int .i64 day]:List Value).toArray from rfl,List.getElem?_toArray]
 exact hu
theorem WoZ.mid (h:WoZ w wr P A c s0 s1 s2 s3 s4 S day x y):wr.rangeAt P 1 [slV s0,slV s1,slV s2,slV s3,slV s4]:=fun j u hu=>by
 rw [cell_of_row _ _ _ _ _ _ h.wo,show eU (.slice A 2 c) s0 s1 s2 s3 s4 day=([Value.slice A 2 c]++[slV s0,slV s1,slV s2,slV s3,slV s4]++[Value.int .i64 day]).toArray from rfl,List.getElem?_toArray,YW,List.getElem?_append_right (by show 1<=1+j;omega),show 1+j - ([.slice A 2 c]:List Value).length=j by show 1+j - 1=j;omega,List.getElem?_append_left (List.getElem?_eq_some_iff.1 hu).1]
 exact hu
theorem WoZ.c6 (h:WoZ w wr P A c s0 s1 s2 s3 s4 S day x y):wr.cell? ⟨P,6,none⟩=some (.int .i64 day):=by rw [cell_of_row _ _ 6 _ _ _ h.wo];rfl
theorem WoZ.c0 (h:WoZ w wr P A c s0 s1 s2 s3 s4 S day x y):wr.cell? ⟨P,0,none⟩=some (.slice A 2 c):=by rw [cell_of_row _ _ 0 _ _ _ h.wo];rfl
end
theorem WL {w w1:World}{A:Option Addr}{c:Nat}{s0 s1 s2 s3 s4:SlT}{S:ST}{day:Int}{x y:AB} (e:Ext w w1) (h1:RdK w1 33 (.slice A 2 c) (sR [x,y])) (h2:AuL 3 w1 [x,y]) (h2v:AvL 3 w1 [x,y]) (h3:StS w1 s0 s1 s2 s3 s4 S) (h4:WSc S) (h4l:S.rs.length<=3) (h5:S.roots.length=1) (h6:40000<=day/\day<40080) :
 ∃ wc,wc=(w1.alloc (.cells #[.slice none 0 0,.slice none 0 0,.slice none 0 0,.slice none 0 0,.slice none 0 0,.slice none 0 0,.int .i64 0] 100)).setRow w1.heap.size (eU (.slice A 2 c) s0 s1 s2 s3 s4 day)/\WoZ w wc w1.heap.size A c s0 s1 s2 s3 s4 S day x y:=by
 have ec:Ext w1 ((w1.alloc (.cells #[.slice none 0 0,.slice none 0 0,.slice none 0 0,.slice none 0 0,.slice none 0 0,.slice none 0 0,.int .i64 0] 100)).setRow w1.heap.size (eU (.slice A 2 c) s0 s1 s2 s3 s4 day)):=aS ((Below.refl _ _).alloc (YF _) _) (YF _) _
 exact ⟨_,rfl,e.tr ec,aX (aB w1 (.cells #[.slice none 0 0,.slice none 0 0,.slice none 0 0,.slice none 0 0,.slice none 0 0,.slice none 0 0,.int .i64 0] 100)),RdK.ext h1 ec,h2.kp (Kp.ext ec),h2v.kp (Kp.ext ec),h3.kp (Kp.ext ec),h4,h4l,h5,h6⟩
def rT:List Nat:=[103]
theorem WM:3 ∉ rT:=by unfold rT;decide
theorem XP:103 ∈ rT:=List.mem_singleton.2 rfl
def LvP (w:World) (m:RV) (A:Option Addr) (n c:Nat):Prop:=bQ w 0 3 1 (.slice A n c) (aQ m.ser)/\m.st.length<=maxLen/\m.ser.length<=10000
def GLv:aE:=fun v w=>∃ m A n c,v=rvV m (.slice A n c)/\LvP w m A n c
theorem JF (G:Nat->Prop):(RG rT G).stable GLv:=fun v w w' r ⟨m,A,n,c,h1,h2,h3⟩=>⟨m,A,n,c,h1,h2.rg WM (fun _ _=>YK _) r,h3⟩
def yM (B:Nat):aE:=fun v w=>∃ g m A n c,v=.pointer (some ⟨g,0,none⟩)/\B<=g/\bM w g m (.slice A n c)/\LvP w m A n c
theorem yM.ext {B:Nat} (v:Value) (w w':World) (e:Ext w w') (h:yM B v w):yM B v w':=by
 obtain ⟨g,m,A,n,c,h1,h2,h3,h4,h5⟩:=h
 exact ⟨g,m,A,n,c,h1,h2,h3.ext e,h4.ext e,h5⟩
theorem yM.st {B:Nat}{G:Nat->Prop} (T:Nat) (hT:T≠103) (v:Value) (w w':World) (e:(RG rT G).st T w w') (h:yM B v w):yM B v w':=absurd (List.mem_singleton.1 e.1) hT
theorem CG (B:Nat) (G:Nat->Prop):(RG rT G).stable (IM B):=fun v w w' r ⟨g,h1,h2,h3⟩=>⟨g,h1,h2,h3.rg r⟩
theorem bM.range {w:World}{g:Nat}{m:RV}{v:Value} (h:bM w g m v):w.rangeAt g 0 (aY m v):=fun j u hu=>by
 rw [YR,cell_of_row _ _ j _ _ _ h.row,show bI m v=(aY m v).toArray from rfl,List.getElem?_toArray]
 exact hu
theorem aU.sgR {w:World}{g:Nat}{x:AB} (h:aU w g x):w.rangeAt g 4 (aH x.sg):=fun j u hu=>by
 have hj:j<11:=(List.getElem?_eq_some_iff.1 hu).1
 have e:bE x=([.string (aK x.st),x.R,x.L,x.S]++(aH x.sg++(aH x.ls++[.int .i64 x.ssec,.int .i64 x.lsec,.int .i64 x.next,.int .i64 x.li,x.V,x.D,x.Z]))).toArray:=rfl
 rw [cell_of_row w g _ _ _ _ h.row,e,List.getElem?_toArray,List.getElem?_append_right (by show 4<=4+j;omega),show 4+j - ([.string (aK x.st),x.R,x.L,x.S]:List Value).length=j by show 4+j - 4=j;omega,List.getElem?_append_left (by show j<11;exact hj)]
 exact hu
theorem WN {n:Int}{w:World}{x y:AB} (h:AuL n w [x,y]) (h2:AvL n w [x,y]) (who:Int):∃ (i:Nat) (xi:AB) (ai:AU) (di vs:List Int) (ks:Int),fL who 2=(i:Int)/\[x,y][i]?=some xi/\AuS n w xi ai di/\bQ w 0 3 1 xi.V (aQ vs)/\(vs.length:Int)<=n/\ai.secs[ai.secs.length - 1]?=some ks:=by
 have hb:=iO (x:=who) (m:=2) (by omega)
 obtain ⟨i,hi⟩:∃ i:Nat,fL who 2=(i:Int):=⟨(fL who 2).toNat,by omega⟩
 have hi2:i<2:=by omega
 obtain ⟨xi,hxi⟩:∃ z,[x,y][i]?=some z:=⟨_,YL (by show i<2;exact hi2)⟩
 obtain ⟨ai,di,Si⟩:=h xi (YS hxi)
 obtain ⟨vs,h3,h4,_⟩:=h2 xi (YS hxi)
 obtain ⟨ks,hks⟩:∃ ks,ai.secs[ai.secs.length - 1]?=some ks:=⟨_,YL (by have:=Si.ai.len;have:=Si.ne.1;omega)⟩
 exact ⟨i,xi,ai,di,vs,ks,hi,hxi,Si,h3,h4,hks⟩
end Go.Proofs.YtkjplpmogfmhkaaGreatDoor
