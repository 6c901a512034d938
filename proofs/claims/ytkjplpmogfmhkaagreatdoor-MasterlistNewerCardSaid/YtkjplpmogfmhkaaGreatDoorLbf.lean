/- Parts Uk Ul Mk Ai of the proof. -/
import Derived.Test.YtkjplpmogfmhkaaGreatDoorLay
import Derived.Test.YtkjplpmogfmhkaaGreatDoorLbd
import Derived.Deep.CutRange
import Derived.Test.YtkjplpmogfmhkaaGreatDoorLaz
import Derived.Test.YtkjplpmogfmhkaaGreatDoorLaw
namespace Go.Proofs.YtkjplpmogfmhkaaGreatDoor
open Go.RowKit
set_option linter.unusedVariables false
set_option maxRecDepth 100000
theorem NU (w:World):∃ wz,wz=w.alloc (.cells (.string ⟨#[]⟩::.slice none 0 0::.slice none 0 0::.slice none 0 0::.string ⟨#[]⟩::.int .i64 0::.int .i64 0::.int .i64 0::.int .i64 0::.int .i64 0::.int .i64 0::.int .i64 0::.int .i64 0::.int .i64 0::.int .i64 0::.string ⟨#[]⟩::.int .i64 0::.int .i64 0::.int .i64 0::.int .i64 0::.int .i64 0::.int .i64 0::.int .i64 0::.int .i64 0::.int .i64 0::.int .i64 0::.int .i64 0::.int .i64 0::.int .i64 0::.int .i64 0::.slice none 0 0::.slice none 0 0::.slice none 0 0::([]:List Value)).toArray 98)∧Ext w wz∧aS wz w.heap.size cZ :=
 ⟨_,rfl,(Below.refl _ _).alloc (UX _) _,aC w _⟩
theorem aS.put_li {w:World}{g:Nat}{x:AB} (h:aS w g x) (v:Int):aS (w.setCell ⟨g,29,none⟩ (.int .i64 v)) g { x with li:=v }:=by
 have h9:=aG h 29 (.int .i64 v)
 simp only [UY,UZ,V0] at h9
 exact h9
def QI (B:Nat):aE:=fun v w=>∃ g,v=.pointer (some ⟨g,0,none⟩)∧B≤g∧rG w g 103 8
theorem sU (B:Nat) (S:List Nat) (G:Nat→Prop):(RG S G).stable (QI B):=fun v w w' r ⟨g,h1,h2,h3⟩=>⟨g,h1,h2,h3.rg r⟩
theorem DK (W:World):(Instr.alloc 103 true (.tuple #[])).run Tryz.prog W=.ok (.pointer (some ⟨W.heap.size,0,none⟩)) (W.alloc (.cells #[.string ⟨#[]⟩,.int .i64 0,.int .i64 0,.int .i64 0,.slice none 0 0,.int .i64 0,.int .i64 0,.int .i64 0] 103)):=by go_simp
theorem NV (r:RV) (A:Option Addr) (n c:Nat):(oM r (.slice A n c)).all (·.oneCell')=true:=by simp [oM,Value.oneCell']
section
open Go.Proofs.YtkjplpmogfmhkaaGreatDoor.Gd (cN)
variable {P:Program}{r:Gt.Rl}{ops:Array Oper}{Q:Exit→Act→World→Prop}{w0:World}{R:Act→World→Prop}{ss:List (Nat × aE)}
theorem Gt.wpX_allocR8 {o:Oper}{rest:List Oper}{a:Act}{hs:List (Nat × aE)}{d:Nat} (B:Nat) (hB:∀ m:r.Lt w0,B≤m.1.heap.size) (hst:r.stable (QI B)) (hg:cN ops o a hs)
 (hd:o.dst=some d) (hz:Nat.blt d a.tmps.size=true) (ho:o.op=.alloc 103) (hin:(aR o).all (fun t=>Nat.blt t a.tmps.size)=true)
 (hr:Gt.wpX r Tryz.prog ops Q w0 R ss rest (a.put (some d) undef) ((d,QI B)::hs)):Gt.wpX r Tryz.prog ops Q w0 R ss (o::rest) a hs :=
 Gt.dV hg (QI B) hst (fun _=>Instr.alloc 103 true (.tuple #[])) hd hz (by unfold aP;rw [ho]) hin (fun f=>by unfold execOp;simp only [ho])
  (fun m f hf=>⟨_,_,DK m.1,(Below.refl _ _).alloc (UX _) _,_,rfl,hB m,_,aC m.1 _,rfl⟩) hr
theorem Gt.wpX_movU {o:Oper}{rest:List Oper}{a:Act}{hs:List (Nat × aE)}{d:Nat} (hg:cN ops o a hs) (g:aE) (hst:r.stable g) {x:Operand} (xv:(Nat→Value)→Value)
 (hd:o.dst=some d) (hz:Nat.blt d a.tmps.size=true) (ho:o.op=.move x) (hin:(aR o).all (fun t=>Nat.blt t a.tmps.size)=true) (hq:jY a x=true) (ha:∀ f,evF a hs f x=xv f)
 (h:∀ (m:r.Lt w0) (f:Nat→Value),(∀ t p,hs.lookup t=some p→(aR o).contains t=true→p (f t) m.1)→g (xv f) m.1)
 (hr:Gt.wpX r P ops Q w0 R ss rest (a.put (some d) undef) ((d,g)::hs)):Gt.wpX r P ops Q w0 R ss (o::rest) a hs :=
 Gt.dV hg g hst (fun f=>pure (xv f)) hd hz (by unfold aP;rw [ho]) hin (fun f=>by unfold execOp;simp only [ho];rw [Gt.dE hq,ha f];rfl) (fun m f hf=>⟨_,_,rfl,Below.refl _ _,h m f hf⟩) hr
theorem Gt.wpX_rowU {o:Oper}{rest:List Oper}{a:Act}{hs:List (Nat × aE)}{d:Nat} (hg:cN ops o a hs) {ty t:TypeId}{x:Operand} (g:Nat) (cs:Array Value) {fr:Nat × Nat}{dsc:TypeDesc}
 (hd:o.dst=some d) (hz:Nat.blt d a.tmps.size=true) (ho:o.op=.load ty x) (hin:(aR o).all (fun t=>Nat.blt t a.tmps.size)=true) (hq:jY a x=true) (ha:∀ f,evF a hs f x=.pointer (some ⟨g,0,none⟩))
 (hrow:∀ m:r.Lt w0,m.1.heap[g]?=some (.cells cs t fr)) (hu:P.underlying ty=some dsc) (hdd:(match dsc with | .struct _ | .array _ _=>true | _=>false)=true) (hi:(P.info? ty).map (·.size)=some cs.size)
 (hr:Gt.wpX r P ops Q w0 R ss rest (a.put (some d) undef) ((d,fun v _=>v=.agg cs)::hs)):Gt.wpX r P ops Q w0 R ss (o::rest) a hs :=
 Gt.dV hg (fun v _=>v=.agg cs) (Gt.Rl.stable_eq _ _) (fun _=>Instr.loadAt ty (.pointer (some ⟨g,0,none⟩))) hd hz (by unfold aP;rw [ho]) hin (fun f=>by unfold execOp;simp only [ho];rw [Gt.dE hq,ha f])
  (fun m f hf=>⟨_,_,by simp only [Instr.loadAt,Instr.sureAddr,Sem.run_bind,Sem.run_pure,Result.andThen_ok,run_loadVar_row m.1 g t ty cs fr dsc (hrow m) hu hdd hi],Below.refl _ _,rfl⟩) hr
end
def auG (w:World) (k:Nat):Prop:=k=w.heap.size+1 ∨ k=w.heap.size+1+1
def amT:List Nat:=[98,80]
theorem G0:98 ∈ amT:=VM
theorem G1:80 ∈ amT:=VQ _ (List.mem_singleton.2 rfl)
structure PbZ (w wr:World) (x:AB):Prop where
 a:aS wr w.heap.size x
 z:aS wr (w.heap.size+1) cZ
 r:aX wr (w.heap.size+1+1) bQ (.slice none 0 0)
theorem PbZ.ext {w wr wx:World}{x:AB} (h:PbZ w wr x) (e:Ext wr wx):PbZ w wx x:=⟨h.a.ext e,h.z.ext e,h.r.ext e⟩
theorem G3 (k:Int) (m:MA):(d9 k m).roots=m.roots ∨ (d9 k m).roots=[]:=by
 unfold d9
 split
 · exact .inl rfl
 · exact .inr rfl
theorem RdK.none_ {w w':World}{k:Nat}{v:Value} (hk:0<k) (h:RdK w k v []):RdK w' k v []:=by
 obtain ⟨A,n,c,rfl,hn,hnc,hcm,hc⟩:=h
 have h0:n=0:=by
  rcases Nat.mul_eq_zero.1 hn with q | q
  · exact q
  · omega
 exact ⟨A,n,c,rfl,hn,hnc,hcm,fun q=>by omega⟩
theorem NW {w1 we:World}{s v:Value}{m:MA}{l:List NC} (h:RdN w1 s m.roots) (hq:s=v ∨ s=.slice none 0 0) (hv:RdN we v l) (hm:m.roots=l ∨ m.roots=[]):RdN we s m.roots:=by
 by_cases h0:m.roots=[]
 · have h:RdK w1 11 s (aA m.roots):=h
   show RdK we 11 s (aA m.roots)
   rw [h0] at h ⊢
   exact RdK.none_ (by decide) h
 · rcases hm with hm | hm
   · rcases hq with rfl | rfl
     · rw [hm];exact hv
     · obtain ⟨A,n,c,e,hn,_⟩:=h.at_
       injection e with e1 e2 e3
       subst e2
       exact absurd (VO hn.symm) h0
   · exact absurd hm h0
def U7 (w:World) (x:AB) (v:Value) (m:MA) (k:Int) (e:Ending) (w':World):Prop:=∃ A n c,e=.returned (.tuple #[abV { x with li:=x.li+1 },maV m (.slice A n c),.int .i64 k])∧RdN w' (.slice A n c) m.roots∧Ext w w'∧(.slice A n c=v ∨ .slice A n c=Value.slice none 0 0)
set_option maxHeartbeats 16000000 in
theorem kW (x:AB) (l:List NC) (v:Value) (day:Int) (w:World) (hv:RdN w v l) (hs:smL l) (hg:smN x.ls) (hst:x.st.length≤maxLen) (li0:-1000000≤x.li) (li1:x.li≤1000000) (h1:wK x) (E:dI w 0) :
 Calls Tryz.prog 131 #[abV x,v,.int .i64 day] w (U7 w x v (d9 x.lsec ⟨x.st,x.li,day,l,x.ls,0,0⟩) (iO x.lsec ⟨x.st,x.li,day,l,x.ls,0,0⟩)):=by
 obtain ⟨st,R,L,S,sg,ls,ssec,lsec,nx,li,V,D,Z⟩:=x
 simp only at hg hst li0 li1
 have HIS:=VR (fun W (e:Ext w W)=>xB lsec ⟨st,li,day,l,ls,0,0⟩ v W (RdK.ext hv e) hs hg hst (E.below e))
 have HV:=VR hv
 obtain ⟨AV,nV,cV,rfl,hnV,-⟩:=hv.at_
 subst hnV
 obtain ⟨wa,hwa,ea,TA⟩:=DH w ⟨st,R,L,S,sg,ls,ssec,lsec,nx,li,V,D,Z⟩
 obtain ⟨wb,hwb,eb,TB⟩:=NU wa
 obtain ⟨wz,hwz,ez,TZ⟩:=iB wb bQ (.slice none 0 0)
 dsimp only at hwa
 have has:wa.heap.size=w.heap.size+1:=by rw [hwa];simp
 have hbs:wb.heap.size=w.heap.size+1+1:=by rw [hwb];simp [has]
 rw [has] at TB
 rw [hbs] at TZ
 have EZ:=VR (ea.tr (eb.tr ez))
 have RZ:=VR (show PbZ w wz ⟨st,R,L,S,sg,ls,ssec,lsec,nx,li,V,D,Z⟩ from ⟨(TA.ext eb).ext ez,TB.ext ez,TZ⟩)
 have H1:=VR h1
 have hwz2:wz=wb.alloc (.cells #[.string ⟨#[]⟩,.int .i64 0,.int .i64 0,.slice none 0 0,.string ⟨#[]⟩,.int .i64 0,.int .i64 0,.int .i64 0,.int .i64 0,.int .i64 0,.int .i64 0,.int .i64 0,.int .i64 0,.int .i64 0,.int .i64 0,.int .i64 0,.int .i64 0] 80):=hwz
 clear hwz
 clear hv hs hg ea eb ez TA TB TZ has hbs h1 E hst
 unfold abV
 go_enter Tryz.func131,Tryz.ntmps131
 go_upto_region 1 with fail
 rw [← hwa,← hwb,← hwz2]
 clear hwa hwb hwz2
 have c0:=RZ.out.a.c0
 have c15:=RZ.out.a.c15
 have c16:=RZ.out.a.c16
 have c17:=RZ.out.a.c17
 have c18:=RZ.out.a.c18
 have c19:=RZ.out.a.c19
 have c20:=RZ.out.a.c20
 have c21:=RZ.out.a.c21
 have c22:=RZ.out.a.c22
 have c23:=RZ.out.a.c23
 have c24:=RZ.out.a.c24
 have c25:=RZ.out.a.c25
 have c27:=RZ.out.a.c27
 have c29:=RZ.out.a.c29
 have cl:=RZ.out.a.lt
 go_wp2_with fail
 refine (HIS.out wz EZ.out).mono ?_
 rintro e w1 ⟨A5,n5,c5,rfl,r5,b1,hq5⟩
 generalize hrr:d9 lsec ⟨st,li,day,l,ls,0,0⟩=rr at *
 generalize iO lsec ⟨st,li,day,l,ls,0,0⟩=kk at *
 have HRR:=VR (show rr.roots=l ∨ rr.roots=[] by rw [← hrr];exact G3 lsec ⟨st,li,day,l,ls,0,0⟩)
 clear hrr
 clear c0 c15 c16 c17 c18 c19 c20 c21 c22 c23 c24 c25 c27 c29 cl
 obtain ⟨wm,hwm,em,tm⟩:=iB w1 rr (.slice A5 n5 c5)
 unfold maV aB
 go_upto_region 2 with fail
 rw [← hwm]
 clear hwm
 obtain ⟨g,hgg⟩:∃ g,w1.heap.size=g:=⟨_,rfl⟩
 rw [hgg] at tm
 try rw [hgg]
 have ZM:=VR (RZ.out.ext (b1.tr em))
 have hgH:w.heap.size+1+1<g:=by have:=(RZ.out.ext b1).r.lt;omega
 have XM:=VR (EZ.out.tr (b1.tr em))
 have HTM:=VR tm
 have HR5:=VR (And.intro r5 hq5)
 clear b1 em tm hgg RZ EZ r5 hq5 HIS
 have c29:=ZM.out.a.c29
 have cl:=ZM.out.a.lt
 have f29:=ZM.out.a.frozen 29
 have wl:IntKind.i64.wrap (li+1)=li+1:=IntWalk.i64_in _ (by omega)
 obtain ⟨wt,hwt⟩:∃ wt,wt=wm.setCell ⟨w.heap.size,29,none⟩ (.int .i64 (li+1)):=⟨_,rfl⟩
 have ZT:=VR (show PbZ w wt ⟨st,R,L,S,sg,ls,ssec,lsec,nx,li+1,V,D,Z⟩ by
  rw [hwt]
  exact ⟨aS.put_li (x:=⟨st,R,L,S,sg,ls,ssec,lsec,nx,li,V,D,Z⟩) ZM.out.a (li+1),ZM.out.z.other (by omega),ZM.out.r.other (by omega)⟩)
 have XT:=VR (show Ext w wt by rw [hwt];exact aH XM.out (UX _))
 have HT6:=VR (show aX wt g rr (.slice A5 n5 c5) by rw [hwt];exact HTM.out.other (by omega))
 go_upto_region 3 with fail
 rw [← hwt]
 clear hwt c29 cl f29 ZM HTM XM
 have H1X:=VR (eR (x:=⟨st,R,L,S,sg,ls,ssec,lsec,nx,li+1,V,D,Z⟩) ⟨H1.out.R,H1.out.L,H1.out.S,H1.out.V,H1.out.D,H1.out.Z⟩)
 have HNA:=VR (dZ rr (.slice A5 n5 c5) rfl)
 refine Gt.aO (r:=RG amT (auG w)) 6 (by kernel_rfl) (by kernel_rfl) ?_
 simp only [VH,VE,VI,VJ]
 intro wq hw1
 have LR:∀ m:(RG amT (auG w)).Lt wq,RgS amT (auG w) wt m.1:=fun m=>RgS.tr hw1 m.2
 refine Gt.wpX_rowU (by first | exact trivial | exact ⟨_,rfl,rfl,rfl⟩) w.heap.size (bU ⟨st,R,L,S,sg,ls,ssec,lsec,nx,li+1,V,D,Z⟩) rfl rfl rfl rfl rfl (fun _=>rfl) (fun m=>(LR m).keep ZT.out.a.row (fun q=>by rcases q with q | q <;> omega)) Tryz.underlying98 rfl dF ?_
 simp only [Act.put,UY,UZ,V0]
 refine Gt.wpX_rowU (by first | exact trivial | exact ⟨_,rfl,rfl,rfl⟩) g (aB rr (.slice A5 n5 c5)).toArray rfl rfl rfl rfl rfl (fun _=>rfl) (fun m=>(LR m).keep HT6.out.row (fun q=>by rcases q with q | q <;> omega)) Tryz.underlying80 rfl aN ?_
 simp only [Act.put,UY,UZ,V0]
 repeat (refine Gt.aD (by first | exact trivial | exact ⟨_,rfl,rfl,rfl⟩) rfl rfl rfl rfl rfl (fun K hK=>?_);go_big_quiet_op;refine hK _ ?_;clear hK K)
 refine Gt.fS (by first | exact trivial | exact ⟨_,rfl,rfl,rfl⟩) (fun _ w'=>aS w' (w.heap.size+1) ⟨st,R,L,S,sg,ls,ssec,lsec,nx,li+1,V,D,Z⟩) (fun _=>.pointer (some ⟨w.heap.size+1,0,none⟩)) (fun f=>f 30) rfl rfl rfl rfl rfl (fun _=>rfl) (fun _=>rfl) (fun _ _ _ e h=>aS.ext h e) (fun T hT _ _ _ e h=>e.2.other h (fun q=>hT (List.mem_singleton.1 q).symm)) (fun m f hf=>?_) ?_
 · have e5:f 30=.agg (bU ⟨st,R,L,S,sg,ls,ssec,lsec,nx,li+1,V,D,Z⟩):=hf 30 _ rfl rfl
   rw [e5]
   obtain ⟨cs9,q1,q2⟩:=rG.rg (n:=33) ⟨_,ZT.out.z.row,rfl⟩ (LR m)
   exact ⟨_,fR (cells:=bU ⟨st,R,L,S,sg,ls,ssec,lsec,nx,li+1,V,D,Z⟩) q1 dF q2 H1X.out,⟨G0,RgS.setRow q1 (List.mem_singleton.2 rfl) (.inl rfl) q2.symm⟩,aZ q1⟩
 refine Gt.fS (by first | exact trivial | exact ⟨_,rfl,rfl,rfl⟩) (fun _ w'=>aX w' (w.heap.size+1+1) rr (.slice A5 n5 c5)) (fun _=>.pointer (some ⟨w.heap.size+1+1,0,none⟩)) (fun f=>f 31) rfl rfl rfl rfl rfl (fun _=>rfl) (fun _=>rfl) (fun _ _ _ e h=>aX.ext h e) (fun T hT _ _ _ e h=>e.2.other h (fun q=>hT (List.mem_singleton.1 q).symm)) (fun m f hf=>?_) ?_
 · have e5:f 31=.agg (aB rr (.slice A5 n5 c5)).toArray:=hf 31 _ rfl rfl
   rw [e5]
   obtain ⟨cs9,q1,q2⟩:=rG.rg (n:=17) ⟨_,ZT.out.r.row,rfl⟩ (LR m)
   exact ⟨_,fR (cells:=(aB rr (.slice A5 n5 c5)).toArray) q1 aN q2 HNA.out,⟨G1,RgS.setRow q1 (List.mem_singleton.2 rfl) (.inr rfl) q2.symm⟩,aZ q1⟩
 repeat (refine Gt.aD (by first | exact trivial | exact ⟨_,rfl,rfl,rfl⟩) rfl rfl rfl rfl rfl (fun K hK=>?_);go_big_quiet_op;refine hK _ ?_;clear hK K)
 refine Gt.wpX_endG rfl (fun m f hf hqs=>?_)
 have hq2:aX m.1 (w.heap.size+1+1) rr (.slice A5 n5 c5):=hqs _ VM
 have hq1:aS m.1 (w.heap.size+1) ⟨st,R,L,S,sg,ls,ssec,lsec,nx,li+1,V,D,Z⟩:=hqs _ (VQ _ VM)
 simp only [aV]
 simp only [Act.put,UY,UZ,V0]
 have HQ1:=VR hq1
 have HQ2:=VR hq2
 have XE:=VR (show Ext w m.1 from XT.out.trans ((LR m).below (B:=w.heap.size+1) (fun k q=>by rcases q with q | q <;> omega) ZT.out.a.lt |>.mono (Nat.le_succ _)))
 have R5:=VR (show RdN m.1 (.slice A5 n5 c5) rr.roots from NW HR5.out.1 HR5.out.2 (RdK.ext HV.out XE.out) HRR.out)
 clear hqs hf hw1 LR hq1 hq2
 generalize m.1=we at *
 show wpList _ _ _ _ _ _
 go_wp2_with fail
 refine bodyPost_ret (v:=.tuple #[.agg (bU ⟨st,R,L,S,sg,ls,ssec,lsec,nx,li+1,V,D,Z⟩),.agg (aB rr (.slice A5 n5 c5)).toArray,.int .i64 kk]) ?_ rfl ⟨A5,n5,c5,rfl,R5.out,XE.out,HR5.out.2⟩
 simp [results,Tryz.results131,asAddr,run_loadVar_row we (w.heap.size+1) 98 98 (bU ⟨st,R,L,S,sg,ls,ssec,lsec,nx,li+1,V,D,Z⟩) (0,0) _ HQ1.out.row Tryz.underlying98 rfl dF,run_loadVar_row we (w.heap.size+1+1) 80 80 (aB rr (.slice A5 n5 c5)).toArray (0,0) _ HQ2.out.row Tryz.underlying80 rfl aN]
end Go.Proofs.YtkjplpmogfmhkaaGreatDoor
namespace Go.Proofs.YtkjplpmogfmhkaaGreatDoor
open Go.RowKit
open Go.Proofs.YtkjplpmogfmhkaaGreatDoor.Gd (cN mF)
set_option linter.unusedVariables false
set_option maxRecDepth 100000
def QJ (B:Nat):aE:=fun v w=>∃ g,v=.pointer (some ⟨g,0,none⟩)∧B≤g∧rG w g 80 17
theorem kN (B:Nat) (S:List Nat) (G:Nat→Prop):(RG S G).stable (QJ B):=fun v w w' r ⟨g,h1,h2,h3⟩=>⟨g,h1,h2,h3.rg r⟩
theorem AD (W:World):(Instr.alloc 80 true (.tuple #[])).run Tryz.prog W=.ok (.pointer (some ⟨W.heap.size,0,none⟩)) (W.alloc (.cells #[.string ⟨#[]⟩,.int .i64 0,.int .i64 0,.slice none 0 0,.string ⟨#[]⟩,.int .i64 0,.int .i64 0,.int .i64 0,.int .i64 0,.int .i64 0,.int .i64 0,.int .i64 0,.int .i64 0,.int .i64 0,.int .i64 0,.int .i64 0,.int .i64 0] 80)):=by go_simp
def xE (B:Nat) (t:MA) (u:Value):aE:=fun v w=>∃ g,v=.pointer (some ⟨g,0,none⟩)∧B≤g∧aX w g t u
theorem xE.ext {B:Nat}{t:MA}{u:Value} (v:Value) (w w':World) (e:Ext w w') (h:xE B t u v w):xE B t u v w':=by
 obtain ⟨g,h1,h2,h3⟩:=h
 exact ⟨g,h1,h2,h3.ext e⟩
theorem xE.st {B:Nat}{t:MA}{u:Value}{G:Nat→Prop} (T:Nat) (hT:T≠80) (v:Value) (w w':World) (e:(RG [80] G).st T w w') (h:xE B t u v w):xE B t u v w':=absurd (List.mem_singleton.1 e.1) hT
def xF (B:Nat) (t:RV) (u:Value):aE:=fun v w=>∃ g,v=.pointer (some ⟨g,0,none⟩)∧B≤g∧dY w g t u
theorem xF.ext {B:Nat}{t:RV}{u:Value} (v:Value) (w w':World) (e:Ext w w') (h:xF B t u v w):xF B t u v w':=by
 obtain ⟨g,h1,h2,h3⟩:=h
 exact ⟨g,h1,h2,h3.ext e⟩
theorem xF.st {B:Nat}{t:RV}{u:Value}{G:Nat→Prop} (T:Nat) (hT:T≠103) (v:Value) (w w':World) (e:(RG [103] G).st T w w') (h:xF B t u v w):xF B t u v w':=absurd (List.mem_singleton.1 e.1) hT
section
variable {P:Program}{r:Gt.Rl}{ops:Array Oper}{Q:Exit→Act→World→Prop}{w0:World}{R:Act→World→Prop}{ss:List (Nat × aE)}
theorem Gt.wpX_allocM17 {o:Oper}{rest:List Oper}{a:Act}{hs:List (Nat × aE)}{d:Nat} (B:Nat) (hB:∀ m:r.Lt w0,B≤m.1.heap.size) (hst:r.stable (QJ B)) (hg:cN ops o a hs)
 (hd:o.dst=some d) (hz:Nat.blt d a.tmps.size=true) (ho:o.op=.alloc 80) (hin:(aR o).all (fun t=>Nat.blt t a.tmps.size)=true)
 (hr:Gt.wpX r Tryz.prog ops Q w0 R ss rest (a.put (some d) undef) ((d,QJ B)::hs)):Gt.wpX r Tryz.prog ops Q w0 R ss (o::rest) a hs :=
 Gt.dV hg (QJ B) hst (fun _=>Instr.alloc 80 true (.tuple #[])) hd hz (by unfold aP;rw [ho]) hin (fun f=>by unfold execOp;simp only [ho])
  (fun m f hf=>⟨_,_,AD m.1,(Below.refl _ _).alloc (UX _) _,_,rfl,hB m,_,aC m.1 _,rfl⟩) hr
theorem Gt.wpX_midK {o:Oper}{rest:List Oper}{a:Act}{hs:List (Nat × aE)}{d:Nat} (hg:cN ops o a hs) (g i:Nat) (cs:List Value) {ty:TypeId}{x:Operand}{ds:TypeDesc} (hd:o.dst=some d) (hz:Nat.blt d a.tmps.size=true) (ho:o.op=.load ty x) (hx:a.eval x=.pointer (some ⟨g,i,none⟩)) (hn:dQ o hs=true)
 (hrow:∀ m:r.Lt w0,m.1.rangeAt g i cs) (hu:P.underlying ty=some ds) (hdd:ds.isRow=true) (hi:(P.info? ty).map (·.size)=some cs.length) (hr:Gt.wpX r P ops Q w0 R ss rest (a.put (some d) (.agg cs.toArray)) hs):Gt.wpX r P ops Q w0 R ss (o::rest) a hs :=
 Gt.fO hg (.agg cs.toArray) hd hz (by unfold aP;rw [ho]) hn (fun m K hK=>by
  unfold Oper.wp execOp
  simp only [ho,hx,Sem.run_bind,run_loadAt_mid m.1 g i ty cs ds (hrow m) hu hdd hi,Result.andThen_ok,Sem.run_pure]
  exact hK _ _ (by rw [hd];rfl) ⟨Below.refl _ _,by rw [hd,aM (bH hz)]⟩) hr
end
structure SsI (w wr:World) (s0 s1 s2 s3 s4 t0 t1 t2 t3 t4:SlT):Prop where
 ext:Ext w wr
 s:wr.heap[w.heap.size]?=some (.cells (bD s0 s1 s2 s3 s4) 75 (0,0))
 t:wr.heap[w.heap.size+1]?=some (.cells (bD t0 t1 t2 t3 t4) 75 (0,0))
theorem SsI.tr {w wr wx:World}{s0 s1 s2 s3 s4 t0 t1 t2 t3 t4:SlT} (h:SsI w wr s0 s1 s2 s3 s4 t0 t1 t2 t3 t4) (e:Ext wr wx):SsI w wx s0 s1 s2 s3 s4 t0 t1 t2 t3 t4:=⟨h.ext.tr e,(e.block _ (a9 h.s)).trans h.s,(e.block _ (a9 h.t)).trans h.t⟩
theorem NY (w:World) (s0 s1 s2 s3 s4 t0 t1 t2 t3 t4:SlT):∃ wz,wz=(w.alloc (.cells #[.slice s0.1 s0.2.1 s0.2.2,.slice s1.1 s1.2.1 s1.2.2,.slice s2.1 s2.2.1 s2.2.2,.slice s3.1 s3.2.1 s3.2.2,.slice s4.1 s4.2.1 s4.2.2] 75)).alloc (.cells #[.slice t0.1 t0.2.1 t0.2.2,.slice t1.1 t1.2.1 t1.2.2,.slice t2.1 t2.2.1 t2.2.2,.slice t3.1 t3.2.1 t3.2.2,.slice t4.1 t4.2.1 t4.2.2] 75)∧SsI w wz s0 s1 s2 s3 s4 t0 t1 t2 t3 t4 :=
 ⟨_,rfl,((Below.refl _ _).alloc (UX _) _).alloc (by simp) _,heap_alloc2_old w _ _,heap_alloc2_new w _ _⟩
theorem rO {s:SlT}{A:Option Addr}{n c:Nat} (h:slV s=.slice A n c):s=(A,n,c):=by
 obtain ⟨a,b,d⟩:=s
 unfold slV at h
 injection h with h1 h2 h3
 simp only at h1 h2 h3
 rw [h1,h2,h3]
set_option maxHeartbeats 16000000 in
theorem oO (s0 s1 s2 s3 s4 t0 t1 t2 t3 t4:SlT) (S:ST) (w:World) (h:StR w s0 s1 s2 s3 s4 S) (k:StR w t0 t1 t2 t3 t4 S) (hd:S.ds=[]) :
 Calls Tryz.prog 56 #[cH s0 s1 s2 s3 s4,cH t0 t1 t2 t3 t4] w (eP w (.bool true)):=by
 have HNS:=VR (fun (l:List NC) W (v1 v2:Value) (h1:RdN W v1 l) (h2:RdN W v2 l)=>FH W h1 h2)
 have HEQ:=VR (fun W (y:NC)=>(by have h:=yC W y y;simpa using h:(binOp .neq 56 (ncV y) (ncV y)).run Tryz.prog W=.ok (.bool false) W))
 have H0:=VR (And.intro h.r0 k.r0)
 have H1:=VR (And.intro h.r1 k.r1)
 obtain ⟨A2,n2,c2,e2,hn2,hnc2,hcm2,hel2⟩:=h.r2.at_
 obtain ⟨B2,m2,d2,f2,hm2,hmd2,hdm2,hfl2⟩:=k.r2.at_
 obtain ⟨A3,n3,c3,e3,hn3,hnc3,hcm3,hel3⟩:=h.r3.at_
 obtain ⟨B3,m3,d3,f3,hm3,hmd3,hdm3,hfl3⟩:=k.r3.at_
 obtain ⟨A4,n4,c4,e4,hn4,-⟩:=h.r4.at_
 obtain ⟨B4,m4,d4,f4,hm4,-⟩:=k.r4.at_
 rw [hd] at hn4 hm4
 obtain rfl:=rO e2
 obtain rfl:=rO f2
 obtain rfl:=rO e3
 obtain rfl:=rO f3
 obtain rfl:=rO e4
 obtain rfl:=rO f4
 subst hn2 hm2 hn3 hm3 hn4 hm4
 unfold maxLen at hcm2 hdm2 hcm3 hdm3
 have HE2:=VR (And.intro hel2 hfl2)
 have HE3:=VR (And.intro hel3 hfl3)
 obtain ⟨wz,hwz,Zz⟩:=NY w s0 s1 (A2,S.ms.length,c2) (A3,S.rs.length,c3) (A4,([]:List DV).length,c4) t0 t1 (B2,S.ms.length,d2) (B3,S.rs.length,d3) (B4,([]:List DV).length,d4)
 have Z0:=VR Zz
 clear Zz h k e2 f2 e3 f3 e4 f4 hel2 hfl2 hel3 hfl3 hd
 simp only [VA] at hwz Z0
 unfold cH
 go_enter Tryz.func56,Tryz.ntmps56
 go_upto_region 1 with fail
 rw [← hwz]
 clear hwz
 have x0:wz.cell? ⟨w.heap.size,0,none⟩=some (.slice s0.1 s0.2.1 s0.2.2):=by rw [cell_of_row _ _ 0 _ _ _ Z0.out.s];rfl
 have y0:wz.cell? ⟨w.heap.size+1,0,none⟩=some (.slice t0.1 t0.2.1 t0.2.2):=by rw [cell_of_row _ _ 0 _ _ _ Z0.out.t];rfl
 have x1:wz.cell? ⟨w.heap.size,1,none⟩=some (.slice s1.1 s1.2.1 s1.2.2):=by rw [cell_of_row _ _ 1 _ _ _ Z0.out.s];rfl
 have y1:wz.cell? ⟨w.heap.size+1,1,none⟩=some (.slice t1.1 t1.2.1 t1.2.2):=by rw [cell_of_row _ _ 1 _ _ _ Z0.out.t];rfl
 have x2:wz.cell? ⟨w.heap.size,2,none⟩=some (.slice A2 S.ms.length c2):=by rw [cell_of_row _ _ 2 _ _ _ Z0.out.s];rfl
 have y2:wz.cell? ⟨w.heap.size+1,2,none⟩=some (.slice B2 S.ms.length d2):=by rw [cell_of_row _ _ 2 _ _ _ Z0.out.t];rfl
 have x3:wz.cell? ⟨w.heap.size,3,none⟩=some (.slice A3 S.rs.length c3):=by rw [cell_of_row _ _ 3 _ _ _ Z0.out.s];rfl
 have y3:wz.cell? ⟨w.heap.size+1,3,none⟩=some (.slice B3 S.rs.length d3):=by rw [cell_of_row _ _ 3 _ _ _ Z0.out.t];rfl
 have x4:wz.cell? ⟨w.heap.size,4,none⟩=some (.slice A4 0 c4):=by rw [cell_of_row _ _ 4 _ _ _ Z0.out.s];rfl
 have y4:wz.cell? ⟨w.heap.size+1,4,none⟩=some (.slice B4 0 d4):=by rw [cell_of_row _ _ 4 _ _ _ Z0.out.t];rfl
 have xl:=a9 Z0.out.s
 have yl:=a9 Z0.out.t
 go_wp2_with fail
 refine (HNS.out S.roots wz _ _ (RdK.ext H0.out.1 Z0.out.ext) (RdK.ext H0.out.2 Z0.out.ext)).mono ?_
 rintro e w1 ⟨rfl,b1⟩
 have Z1:=VR (Z0.out.tr b1)
 clear x0 y0 x1 y1 x2 y2 x3 y3 x4 y4 xl yl b1 Z0
 have x0:w1.cell? ⟨w.heap.size,0,none⟩=some (.slice s0.1 s0.2.1 s0.2.2):=by rw [cell_of_row _ _ 0 _ _ _ Z1.out.s];rfl
 have y0:w1.cell? ⟨w.heap.size+1,0,none⟩=some (.slice t0.1 t0.2.1 t0.2.2):=by rw [cell_of_row _ _ 0 _ _ _ Z1.out.t];rfl
 have x1:w1.cell? ⟨w.heap.size,1,none⟩=some (.slice s1.1 s1.2.1 s1.2.2):=by rw [cell_of_row _ _ 1 _ _ _ Z1.out.s];rfl
 have y1:w1.cell? ⟨w.heap.size+1,1,none⟩=some (.slice t1.1 t1.2.1 t1.2.2):=by rw [cell_of_row _ _ 1 _ _ _ Z1.out.t];rfl
 have x2:w1.cell? ⟨w.heap.size,2,none⟩=some (.slice A2 S.ms.length c2):=by rw [cell_of_row _ _ 2 _ _ _ Z1.out.s];rfl
 have y2:w1.cell? ⟨w.heap.size+1,2,none⟩=some (.slice B2 S.ms.length d2):=by rw [cell_of_row _ _ 2 _ _ _ Z1.out.t];rfl
 have x3:w1.cell? ⟨w.heap.size,3,none⟩=some (.slice A3 S.rs.length c3):=by rw [cell_of_row _ _ 3 _ _ _ Z1.out.s];rfl
 have y3:w1.cell? ⟨w.heap.size+1,3,none⟩=some (.slice B3 S.rs.length d3):=by rw [cell_of_row _ _ 3 _ _ _ Z1.out.t];rfl
 have x4:w1.cell? ⟨w.heap.size,4,none⟩=some (.slice A4 0 c4):=by rw [cell_of_row _ _ 4 _ _ _ Z1.out.s];rfl
 have y4:w1.cell? ⟨w.heap.size+1,4,none⟩=some (.slice B4 0 d4):=by rw [cell_of_row _ _ 4 _ _ _ Z1.out.t];rfl
 have xl:=a9 Z1.out.s
 have yl:=a9 Z1.out.t
 go_wp2_with fail
 refine (HNS.out S.pool w1 _ _ (RdK.ext H1.out.1 Z1.out.ext) (RdK.ext H1.out.2 Z1.out.ext)).mono ?_
 rintro e w2 ⟨rfl,b2⟩
 have Z2:=VR (Z1.out.tr b2)
 clear x0 y0 x1 y1 x2 y2 x3 y3 x4 y4 xl yl b2 Z1
 have x0:w2.cell? ⟨w.heap.size,0,none⟩=some (.slice s0.1 s0.2.1 s0.2.2):=by rw [cell_of_row _ _ 0 _ _ _ Z2.out.s];rfl
 have y0:w2.cell? ⟨w.heap.size+1,0,none⟩=some (.slice t0.1 t0.2.1 t0.2.2):=by rw [cell_of_row _ _ 0 _ _ _ Z2.out.t];rfl
 have x1:w2.cell? ⟨w.heap.size,1,none⟩=some (.slice s1.1 s1.2.1 s1.2.2):=by rw [cell_of_row _ _ 1 _ _ _ Z2.out.s];rfl
 have y1:w2.cell? ⟨w.heap.size+1,1,none⟩=some (.slice t1.1 t1.2.1 t1.2.2):=by rw [cell_of_row _ _ 1 _ _ _ Z2.out.t];rfl
 have x2:w2.cell? ⟨w.heap.size,2,none⟩=some (.slice A2 S.ms.length c2):=by rw [cell_of_row _ _ 2 _ _ _ Z2.out.s];rfl
 have y2:w2.cell? ⟨w.heap.size+1,2,none⟩=some (.slice B2 S.ms.length d2):=by rw [cell_of_row _ _ 2 _ _ _ Z2.out.t];rfl
 have x3:w2.cell? ⟨w.heap.size,3,none⟩=some (.slice A3 S.rs.length c3):=by rw [cell_of_row _ _ 3 _ _ _ Z2.out.s];rfl
 have y3:w2.cell? ⟨w.heap.size+1,3,none⟩=some (.slice B3 S.rs.length d3):=by rw [cell_of_row _ _ 3 _ _ _ Z2.out.t];rfl
 have x4:w2.cell? ⟨w.heap.size,4,none⟩=some (.slice A4 0 c4):=by rw [cell_of_row _ _ 4 _ _ _ Z2.out.s];rfl
 have y4:w2.cell? ⟨w.heap.size+1,4,none⟩=some (.slice B4 0 d4):=by rw [cell_of_row _ _ 4 _ _ _ Z2.out.t];rfl
 have xl:=a9 Z2.out.s
 have yl:=a9 Z2.out.t
 go_upto_region 3 with fail
 clear x0 y0 x1 y1 x2 y2 x3 y3 x4 y4 xl yl
 go_wp2_with fail
 go_loopw [5] (fun sl wr=>∃ k:Nat,k≤S.ms.length∧sl=.int .i64 (k:Int)∧Hid (SsI w wr s0 s1 (A2,S.ms.length,c2) (A3,S.rs.length,c3) (A4,0,c4) t0 t1 (B2,S.ms.length,d2) (B3,S.rs.length,d3) (B4,0,d4))) (fun sl _=>S.ms.length - (intOf sl).toNat)
 case atStart=>exact ⟨0,V7 _,rfl,Z2⟩
 case round =>
  clear Z2
  obtain ⟨k,hk,rfl,Z⟩:=hrel
  have x2:wr.cell? ⟨w.heap.size,2,none⟩=some (.slice A2 S.ms.length c2):=by rw [cell_of_row _ _ 2 _ _ _ Z.out.s];rfl
  have y2:wr.cell? ⟨w.heap.size+1,2,none⟩=some (.slice B2 S.ms.length d2):=by rw [cell_of_row _ _ 2 _ _ _ Z.out.t];rfl
  have xl:=a9 Z.out.s
  have yl:=a9 Z.out.t
  by_cases hlt:k<S.ms.length
  case neg =>
   obtain rfl:k=S.ms.length:=by omega
   clear hlt hk
   go_wp2_with fail
   clear x2 y2 xl yl
   go_loopw [8] (fun sl wr=>∃ k:Nat,k≤S.rs.length∧sl=.int .i64 (k:Int)∧Hid (SsI w wr s0 s1 (A2,S.ms.length,c2) (A3,S.rs.length,c3) (A4,0,c4) t0 t1 (B2,S.ms.length,d2) (B3,S.rs.length,d3) (B4,0,d4))) (fun sl _=>S.rs.length - (intOf sl).toNat)
   case atStart=>exact ⟨0,V7 _,rfl,Z⟩
   case round =>
    clear Z
    obtain ⟨k,hk,rfl,Z⟩:=hrel
    have x3:wr.cell? ⟨w.heap.size,3,none⟩=some (.slice A3 S.rs.length c3):=by rw [cell_of_row _ _ 3 _ _ _ Z.out.s];rfl
    have y3:wr.cell? ⟨w.heap.size+1,3,none⟩=some (.slice B3 S.rs.length d3):=by rw [cell_of_row _ _ 3 _ _ _ Z.out.t];rfl
    have xl:=a9 Z.out.s
    have yl:=a9 Z.out.t
    by_cases hlt:k<S.rs.length
    case neg =>
     obtain rfl:k=S.rs.length:=by omega
     clear hlt hk
     go_wp2_with fail
     clear x3 y3 xl yl
     have x4:wr.cell? ⟨w.heap.size,4,none⟩=some (.slice A4 0 c4):=by rw [cell_of_row _ _ 4 _ _ _ Z.out.s];rfl
     have y4:wr.cell? ⟨w.heap.size+1,4,none⟩=some (.slice B4 0 d4):=by rw [cell_of_row _ _ 4 _ _ _ Z.out.t];rfl
     have xl:=a9 Z.out.s
     have yl:=a9 Z.out.t
     go_loopw [12] (fun sl wr=>sl=.int .i64 0∧Hid (SsI w wr s0 s1 (A2,S.ms.length,c2) (A3,S.rs.length,c3) (A4,0,c4) t0 t1 (B2,S.ms.length,d2) (B3,S.rs.length,d3) (B4,0,d4))) (fun _ _=>0)
     case atStart=>exact ⟨rfl,Z⟩
     case round =>
      clear x4 y4 xl yl Z
      obtain ⟨rfl,Z⟩:=hrel
      have x4:wr.cell? ⟨w.heap.size,4,none⟩=some (.slice A4 0 c4):=by rw [cell_of_row _ _ 4 _ _ _ Z.out.s];rfl
      have y4:wr.cell? ⟨w.heap.size+1,4,none⟩=some (.slice B4 0 d4):=by rw [cell_of_row _ _ 4 _ _ _ Z.out.t];rfl
      have xl:=a9 Z.out.s
      have yl:=a9 Z.out.t
      go_wp2_with fail
      go_ret
      exact ⟨rfl,Z.out.ext⟩
    case pos =>
    obtain ⟨t,ht⟩:∃ t,S.rs[k]?=some t:=⟨_,V8 hlt⟩
    obtain ⟨b1,o1,rfl,hb1,u1,hc1,hu1⟩:=HE3.out.1 k t ht
    obtain ⟨b2,o2,rfl,hb2,u2,hc2,hu2⟩:=HE3.out.2 k t ht
    have wi1:IntKind.i64.wrap ((k:Int))=(k:Int):=IntWalk.i64_in _ (by omega)
    have zi1:(0:Int)≤(k:Int):=by omega
    have li1:(k:Int)<(S.rs.length:Int):=by omega
    have ti1:((k:Int)).toNat=k:=by omega
    have wk:IntKind.i64.wrap ((k:Int)+1)=(k:Int)+1:=IntWalk.i64_in _ (by omega)
    obtain ⟨AU,nU,cU,rfl,hnU,hncU,hcmU,helU⟩:=RdI.ints (RdK.r1 hu1)
    obtain ⟨AV,nV,cV,rfl,hnV,hncV,hcmV,helV⟩:=RdI.ints (RdK.r1 hu2)
    subst hnU
    obtain rfl:nV=t.ser.length:=hnV
    unfold maxLen at hcmU hcmV
    have HU:=VR (And.intro (RdK.r1 hu1) (RdK.r1 hu2))
    have HUV:=VR (And.intro helU helV)
    have HC1:=VR (And.intro hb1 hc1)
    have HC2:=VR (And.intro hb2 hc2)
    clear ht hc1 hc2 hb1 hb2 hu1 hu2 helU helV
    go_upto_region 12 with fail
    clear x3 y3 xl yl
    refine Gt.aO (r:=RG [103] (fun q=>wr.heap.size≤q)) 13 (by kernel_rfl) (by kernel_rfl) ?_
    simp only [VH,VE,VI,VJ]
    intro wq hw1
    have LR:∀ m1:(RG [103] (fun q=>wr.heap.size≤q)).Lt wq,RgS [103] (fun q=>wr.heap.size≤q) wr m1.1:=fun m1=>RgS.tr hw1 m1.2
    have LL:∀ m1:(RG [103] (fun q=>wr.heap.size≤q)).Lt wq,Ext wr m1.1:=fun m1=>(LR m1).below (fun _ h=>h) (UX _)
    have x3:∀ m1:(RG [103] (fun q=>wr.heap.size≤q)).Lt wq,m1.1.cell? ⟨w.heap.size,3,none⟩=some (.slice (some ⟨b1,o1,none⟩) S.rs.length c3):=fun m1=>by rw [cell_of_row _ _ 3 _ _ _ (Z.out.tr (LL m1)).s];rfl
    have y3:∀ m1:(RG [103] (fun q=>wr.heap.size≤q)).Lt wq,m1.1.cell? ⟨w.heap.size+1,3,none⟩=some (.slice (some ⟨b2,o2,none⟩) S.rs.length d3):=fun m1=>by rw [cell_of_row _ _ 3 _ _ _ (Z.out.tr (LL m1)).t];rfl
    have xl:∀ m1:(RG [103] (fun q=>wr.heap.size≤q)).Lt wq,w.heap.size<m1.1.heap.size:=fun m1=>a9 (Z.out.tr (LL m1)).s
    have yl:∀ m1:(RG [103] (fun q=>wr.heap.size≤q)).Lt wq,w.heap.size+1<m1.1.heap.size:=fun m1=>a9 (Z.out.tr (LL m1)).t
    have KA:∀ m1:(RG [103] (fun q=>wr.heap.size≤q)).Lt wq,m1.1.rangeAt b1 (o1+k*8) (fG t (.slice AU t.ser.length cU)):=fun m1 j x hx=>by rw [V4];exact ((Z.out.tr (LL m1)).ext.cell (p:=⟨b1,o1+(k*8+j),none⟩) HC1.out.1).trans (HC1.out.2 j x hx)
    have KB:∀ m1:(RG [103] (fun q=>wr.heap.size≤q)).Lt wq,m1.1.rangeAt b2 (o2+k*8) (fG t (.slice AV t.ser.length cV)):=fun m1 j x hx=>by rw [V4];exact ((Z.out.tr (LL m1)).ext.cell (p:=⟨b2,o2+(k*8+j),none⟩) HC2.out.1).trans (HC2.out.2 j x hx)
    repeat (refine Gt.aD (by first | exact trivial | exact ⟨_,rfl,rfl,rfl⟩) rfl rfl rfl rfl rfl (fun K hK=>?_);go_big_quiet_op;refine hK _ ?_;clear hK K)
    refine Gt.wpX_midK (by first | exact trivial | exact ⟨_,rfl,rfl,rfl⟩) b1 (o1+k*8) (fG t (.slice AU t.ser.length cU)) rfl rfl rfl rfl rfl KA Tryz.underlying103 rfl qA ?_
    simp only [Act.put,UY,UZ,V0]
    repeat (refine Gt.aD (by first | exact trivial | exact ⟨_,rfl,rfl,rfl⟩) rfl rfl rfl rfl rfl (fun K hK=>?_);go_big_quiet_op;refine hK _ ?_;clear hK K)
    refine Gt.wpX_midK (by first | exact trivial | exact ⟨_,rfl,rfl,rfl⟩) b2 (o2+k*8) (fG t (.slice AV t.ser.length cV)) rfl rfl rfl rfl rfl KB Tryz.underlying103 rfl qA ?_
    simp only [Act.put,UY,UZ,V0]
    repeat (refine Gt.aD (by first | exact trivial | exact ⟨_,rfl,rfl,rfl⟩) rfl rfl rfl rfl rfl (fun K hK=>?_);go_big_quiet_op;refine hK _ ?_;clear hK K)
    refine Gt.wpX_allocR8 wr.heap.size (fun m1=>(LL m1).size) (sU _ _ _) (by first | exact trivial | exact ⟨_,rfl,rfl,rfl⟩) rfl rfl rfl rfl ?_
    simp only [Act.put,UY,UZ,V0]
    refine Gt.wpX_allocR8 wr.heap.size (fun m1=>(LL m1).size) (sU _ _ _) (by first | exact trivial | exact ⟨_,rfl,rfl,rfl⟩) rfl rfl rfl rfl ?_
    simp only [Act.put,UY,UZ,V0]
    refine Gt.fS (by first | exact trivial | exact ⟨_,rfl,rfl,rfl⟩) (xF wr.heap.size t (.slice AU t.ser.length cU)) (fun f=>f 9) (fun _=>.agg (oM t (.slice AU t.ser.length cU))) rfl rfl rfl rfl rfl (fun _=>rfl) (fun _=>rfl) xF.ext xF.st (fun m1 f hf=>?_) ?_
    · obtain ⟨g,e9,hg,cs9,q1,q2⟩:=hf 9 _ rfl rfl
      rw [e9]
      exact ⟨_,fR (cells:=oM t (.slice AU t.ser.length cU)) q1 qA q2 (NV t AU t.ser.length cU),⟨List.mem_singleton.2 rfl,RgS.setRow q1 (List.mem_singleton.2 rfl) hg q2.symm⟩,g,rfl,hg,aZ q1⟩
    refine Gt.wpX_endG rfl (fun m1 f hf hqs=>?_)
    have hq:xF wr.heap.size t (.slice AU t.ser.length cU) (f 9) m1.1:=hqs _ VM
    obtain ⟨g1,e6,hg1,T1⟩:=hq
    obtain ⟨g2,e7,hg2,cs9,q1,q2⟩:=hf 10 _ rfl
    simp only [aV]
    simp only [Act.put,UY,UZ,V0]
    rw [e6,e7]
    have HQ1:=VR q1
    have eN:Ext wr (m1.1.setRow g2 (oM t (.slice AV t.ser.length cV))):=aQ (LL m1) hg2 _
    have ZC:=VR (Z.out.tr eN)
    have TB:=VR (show dY (m1.1.setRow g2 (oM t (.slice AV t.ser.length cV))) g2 t (.slice AV t.ser.length cV) from aZ q1)
    obtain ⟨AX,cX,hrx,ta⟩:∃ (AX:Option Addr) (cX:Nat),RdI w .i64 (.slice AX t.ser.length cX) t.ser∧dY (m1.1.setRow g2 (oM t (.slice AV t.ser.length cV))) g1 t (.slice AX t.ser.length cX):=by
     by_cases h12:g1=g2
     · subst h12
       exact ⟨AV,cV,HU.out.2,TB.out⟩
     · exact ⟨AU,cU,HU.out.1,(dX h12).trans T1⟩
    have TA:=VR ta
    have HRX:=VR hrx
    clear hw1 LL LR x3 y3 xl yl KA KB Z eN hqs hf e6 e7 q1 T1 ta hrx
    generalize m1.1=w5 at *
    clear m1 f
    show wpList _ _ _ _ _ _
    refine aK rfl 103 _ _ rfl rfl g2 (oM t (.slice AV t.ser.length cV)) rfl rfl 103 cs9 HQ1.out qA q2 (NV t AV t.ser.length cV) ?_
    clear HQ1 q2
    generalize w5.setRow g2 (oM t (.slice AV t.ser.length cV))=wc at *
    have p0:=TA.out.c0
    have p1:=TA.out.c1
    have p2:=TA.out.c2
    have p3:=TA.out.c3
    have p4:=TA.out.c4
    have p5:=TA.out.c5
    have p6:=TA.out.c6
    have p7:=TA.out.c7
    have pl:=TA.out.lt
    have q0:=TB.out.c0
    have q1:=TB.out.c1
    have q2:=TB.out.c2
    have q3:=TB.out.c3
    have q4:=TB.out.c4
    have q5:=TB.out.c5
    have q6:=TB.out.c6
    have q7:=TB.out.c7
    have ql:=TB.out.lt
    go_upto_region 15 with fail
    clear p0 p1 p2 p3 p4 p5 p6 p7 pl q0 q1 q2 q3 q4 q5 q6 q7 ql
    go_wp2_with fail
    have ZK:=ZC
    obtain ⟨A9,n9,c9,e9,hn9,hnc9,hcm9,hel9⟩:=RdI.ints HRX.out
    injection e9 with e91 e92 e93
    subst e91 e92 e93
    unfold maxLen at hcm9
    have HXE:=VR hel9
    clear hel9 hn9
    go_loopw [11] (fun sl wr=>∃ i:Nat,i≤t.ser.length∧sl=.int .i64 (i:Int)∧Hid (SsI w wr s0 s1 (A2,S.ms.length,c2) (some ⟨b1,o1,none⟩,S.rs.length,c3) (A4,0,c4) t0 t1 (B2,S.ms.length,d2) (some ⟨b2,o2,none⟩,S.rs.length,d3) (B4,0,d4))∧Hid (dY wr g1 t (.slice AX t.ser.length cX))∧Hid (dY wr g2 t (.slice AV t.ser.length cV))) (fun sl _=>t.ser.length - (intOf sl).toNat)
    case atStart=>exact ⟨0,V7 _,rfl,ZC,TA,TB⟩
    case round =>
     clear ZC TA TB ZK
     obtain ⟨i,hi,rfl,Z,TA,TB⟩:=hrel
     have a4:=TA.out.c4
     have b4:=TB.out.c4
     have al:=TA.out.lt
     have bl:=TB.out.lt
     by_cases hlt2:i<t.ser.length
     case neg =>
      obtain rfl:i=t.ser.length:=by omega
      go_wp2_with fail
      go_roundw
      case rel=>exact ⟨k+1,by omega,by go_num,Z⟩
      case measure=>simp [intOf];omega
     case pos =>
     obtain ⟨b,o,rfl,hbl,hc⟩:=HXE.out (by omega)
     have l0:=(Z.out.ext.cell (p:=⟨b,o+i,none⟩) hbl).trans (hc i hlt2)
     obtain ⟨b',o',rfl,hbl',hc'⟩:=HUV.out.2 (by omega)
     have l1:=(Z.out.ext.cell (p:=⟨b',o'+i,none⟩) hbl').trans (hc' i hlt2)
     generalize t.ser.getD i 0=z at l0 l1
     clear hc hc'
     have wi2:IntKind.i64.wrap ((i:Int))=(i:Int):=IntWalk.i64_in _ (by omega)
     have zi2:(0:Int)≤(i:Int):=by omega
     have li2:(i:Int)<(t.ser.length:Int):=by omega
     have ti2:((i:Int)).toNat=i:=by omega
     go_wp2_with (go_quiet (fail))
     have ZQ:=VR (Z.out.tr (Ext.drewN_ wr nq))
     have TAQ:=VR (TA.out.ext (Ext.drewN_ wr nq))
     have TBQ:=VR (TB.out.ext (Ext.drewN_ wr nq))
     clear l0 l1 a4 b4 al bl Z TA TB
     generalize wr.drewN nq=wx at *
     go_wp2_with fail
     go_roundw
     case rel=>repeat (first | exact ⟨i+1,by omega,by go_num,ZQ,TAQ,TBQ⟩ | exact ⟨⟨i+1,by omega,by go_num,ZQ,TAQ,TBQ⟩,rfl⟩ | refine ⟨_,?_⟩)
     case measure=>simp [intOf];omega
  case pos =>
  obtain ⟨t,ht⟩:∃ t,S.ms[k]?=some t:=⟨_,V8 hlt⟩
  obtain ⟨b1,o1,rfl,hb1,u1,hc1,hu1⟩:=HE2.out.1 k t ht
  obtain ⟨b2,o2,rfl,hb2,u2,hc2,hu2⟩:=HE2.out.2 k t ht
  have wi3:IntKind.i64.wrap ((k:Int))=(k:Int):=IntWalk.i64_in _ (by omega)
  have zi3:(0:Int)≤(k:Int):=by omega
  have li3:(k:Int)<(S.ms.length:Int):=by omega
  have ti3:((k:Int)).toNat=k:=by omega
  have wk:IntKind.i64.wrap ((k:Int)+1)=(k:Int)+1:=IntWalk.i64_in _ (by omega)
  obtain ⟨AU,nU,cU,rfl,hnU,hncU,hcmU,helU⟩:=RdN.at_ hu1
  obtain ⟨AV,nV,cV,rfl,hnV,hncV,hcmV,helV⟩:=RdN.at_ hu2
  subst hnU
  obtain rfl:nV=t.roots.length:=hnV
  unfold maxLen at hcmU hcmV
  have HU:=VR (And.intro (hu1) (hu2))
  have HUV:=VR (And.intro helU helV)
  have HC1:=VR (And.intro hb1 hc1)
  have HC2:=VR (And.intro hb2 hc2)
  clear ht hc1 hc2 hb1 hb2 hu1 hu2 helU helV
  go_upto_region 6 with fail
  clear x2 y2 xl yl
  refine Gt.aO (r:=RG [80] (fun q=>wr.heap.size≤q)) 13 (by kernel_rfl) (by kernel_rfl) ?_
  simp only [VH,VE,VI,VJ]
  intro wq hw1
  have LR:∀ m1:(RG [80] (fun q=>wr.heap.size≤q)).Lt wq,RgS [80] (fun q=>wr.heap.size≤q) wr m1.1:=fun m1=>RgS.tr hw1 m1.2
  have LL:∀ m1:(RG [80] (fun q=>wr.heap.size≤q)).Lt wq,Ext wr m1.1:=fun m1=>(LR m1).below (fun _ h=>h) (UX _)
  have x2:∀ m1:(RG [80] (fun q=>wr.heap.size≤q)).Lt wq,m1.1.cell? ⟨w.heap.size,2,none⟩=some (.slice (some ⟨b1,o1,none⟩) S.ms.length c2):=fun m1=>by rw [cell_of_row _ _ 2 _ _ _ (Z.out.tr (LL m1)).s];rfl
  have y2:∀ m1:(RG [80] (fun q=>wr.heap.size≤q)).Lt wq,m1.1.cell? ⟨w.heap.size+1,2,none⟩=some (.slice (some ⟨b2,o2,none⟩) S.ms.length d2):=fun m1=>by rw [cell_of_row _ _ 2 _ _ _ (Z.out.tr (LL m1)).t];rfl
  have xl:∀ m1:(RG [80] (fun q=>wr.heap.size≤q)).Lt wq,w.heap.size<m1.1.heap.size:=fun m1=>a9 (Z.out.tr (LL m1)).s
  have yl:∀ m1:(RG [80] (fun q=>wr.heap.size≤q)).Lt wq,w.heap.size+1<m1.1.heap.size:=fun m1=>a9 (Z.out.tr (LL m1)).t
  have KA:∀ m1:(RG [80] (fun q=>wr.heap.size≤q)).Lt wq,m1.1.rangeAt b1 (o1+k*17) (aB t (.slice AU t.roots.length cU)):=fun m1 j x hx=>by rw [V4];exact ((Z.out.tr (LL m1)).ext.cell (p:=⟨b1,o1+(k*17+j),none⟩) HC1.out.1).trans (HC1.out.2 j x hx)
  have KB:∀ m1:(RG [80] (fun q=>wr.heap.size≤q)).Lt wq,m1.1.rangeAt b2 (o2+k*17) (aB t (.slice AV t.roots.length cV)):=fun m1 j x hx=>by rw [V4];exact ((Z.out.tr (LL m1)).ext.cell (p:=⟨b2,o2+(k*17+j),none⟩) HC2.out.1).trans (HC2.out.2 j x hx)
  repeat (refine Gt.aD (by first | exact trivial | exact ⟨_,rfl,rfl,rfl⟩) rfl rfl rfl rfl rfl (fun K hK=>?_);go_big_quiet_op;refine hK _ ?_;clear hK K)
  refine Gt.wpX_midK (by first | exact trivial | exact ⟨_,rfl,rfl,rfl⟩) b1 (o1+k*17) (aB t (.slice AU t.roots.length cU)) rfl rfl rfl rfl rfl KA Tryz.underlying80 rfl aN ?_
  simp only [Act.put,UY,UZ,V0]
  repeat (refine Gt.aD (by first | exact trivial | exact ⟨_,rfl,rfl,rfl⟩) rfl rfl rfl rfl rfl (fun K hK=>?_);go_big_quiet_op;refine hK _ ?_;clear hK K)
  refine Gt.wpX_midK (by first | exact trivial | exact ⟨_,rfl,rfl,rfl⟩) b2 (o2+k*17) (aB t (.slice AV t.roots.length cV)) rfl rfl rfl rfl rfl KB Tryz.underlying80 rfl aN ?_
  simp only [Act.put,UY,UZ,V0]
  repeat (refine Gt.aD (by first | exact trivial | exact ⟨_,rfl,rfl,rfl⟩) rfl rfl rfl rfl rfl (fun K hK=>?_);go_big_quiet_op;refine hK _ ?_;clear hK K)
  refine Gt.wpX_allocM17 wr.heap.size (fun m1=>(LL m1).size) (kN _ _ _) (by first | exact trivial | exact ⟨_,rfl,rfl,rfl⟩) rfl rfl rfl rfl ?_
  simp only [Act.put,UY,UZ,V0]
  refine Gt.wpX_allocM17 wr.heap.size (fun m1=>(LL m1).size) (kN _ _ _) (by first | exact trivial | exact ⟨_,rfl,rfl,rfl⟩) rfl rfl rfl rfl ?_
  simp only [Act.put,UY,UZ,V0]
  refine Gt.fS (by first | exact trivial | exact ⟨_,rfl,rfl,rfl⟩) (xE wr.heap.size t (.slice AU t.roots.length cU)) (fun f=>f 6) (fun _=>.agg ((aB t (.slice AU t.roots.length cU)).toArray)) rfl rfl rfl rfl rfl (fun _=>rfl) (fun _=>rfl) xE.ext xE.st (fun m1 f hf=>?_) ?_
  · obtain ⟨g,e9,hg,cs9,q1,q2⟩:=hf 6 _ rfl rfl
    rw [e9]
    exact ⟨_,fR (cells:=(aB t (.slice AU t.roots.length cU)).toArray) q1 aN q2 (dZ t (.slice AU t.roots.length cU) rfl),⟨List.mem_singleton.2 rfl,RgS.setRow q1 (List.mem_singleton.2 rfl) hg q2.symm⟩,g,rfl,hg,aZ q1⟩
  refine Gt.wpX_endG rfl (fun m1 f hf hqs=>?_)
  have hq:xE wr.heap.size t (.slice AU t.roots.length cU) (f 6) m1.1:=hqs _ VM
  obtain ⟨g1,e6,hg1,T1⟩:=hq
  obtain ⟨g2,e7,hg2,cs9,q1,q2⟩:=hf 7 _ rfl
  simp only [aV]
  simp only [Act.put,UY,UZ,V0]
  rw [e6,e7]
  have HQ1:=VR q1
  have eN:Ext wr (m1.1.setRow g2 ((aB t (.slice AV t.roots.length cV)).toArray)):=aQ (LL m1) hg2 _
  have ZC:=VR (Z.out.tr eN)
  have TB:=VR (show aX (m1.1.setRow g2 ((aB t (.slice AV t.roots.length cV)).toArray)) g2 t (.slice AV t.roots.length cV) from aZ q1)
  obtain ⟨AX,cX,hrx,ta⟩:∃ (AX:Option Addr) (cX:Nat),RdN w (.slice AX t.roots.length cX) t.roots∧aX (m1.1.setRow g2 ((aB t (.slice AV t.roots.length cV)).toArray)) g1 t (.slice AX t.roots.length cX):=by
   by_cases h12:g1=g2
   · subst h12
     exact ⟨AV,cV,HU.out.2,TB.out⟩
   · exact ⟨AU,cU,HU.out.1,(dX h12).trans T1⟩
  have TA:=VR ta
  have HRX:=VR hrx
  clear hw1 LL LR x2 y2 xl yl KA KB Z eN hqs hf e6 e7 q1 T1 ta hrx
  generalize m1.1=w5 at *
  clear m1 f
  show wpList _ _ _ _ _ _
  refine aK rfl 80 _ _ rfl rfl g2 ((aB t (.slice AV t.roots.length cV)).toArray) rfl rfl 80 cs9 HQ1.out aN q2 (dZ t (.slice AV t.roots.length cV) rfl) ?_
  clear HQ1 q2
  generalize w5.setRow g2 ((aB t (.slice AV t.roots.length cV)).toArray)=wc at *
  have p0:=TA.out.c0
  have p1:=TA.out.c1
  have p2:=TA.out.c2
  have p3:=TA.out.c3
  have p4:=TA.out.c4
  have p5:=TA.out.c5
  have p6:=TA.out.c6
  have p7:=TA.out.c7
  have p8:=TA.out.c8
  have p9:=TA.out.c9
  have p10:=TA.out.c10
  have p11:=TA.out.c11
  have p12:=TA.out.c12
  have p13:=TA.out.c13
  have p14:=TA.out.c14
  have p15:=TA.out.c15
  have p16:=TA.out.c16
  have pl:=TA.out.lt
  have q0:=TB.out.c0
  have q1:=TB.out.c1
  have q2:=TB.out.c2
  have q3:=TB.out.c3
  have q4:=TB.out.c4
  have q5:=TB.out.c5
  have q6:=TB.out.c6
  have q7:=TB.out.c7
  have q8:=TB.out.c8
  have q9:=TB.out.c9
  have q10:=TB.out.c10
  have q11:=TB.out.c11
  have q12:=TB.out.c12
  have q13:=TB.out.c13
  have q14:=TB.out.c14
  have q15:=TB.out.c15
  have q16:=TB.out.c16
  have ql:=TB.out.lt
  go_wp2_with fail
  refine (HNS.out t.roots wc _ _ (RdK.ext HRX.out ZC.out.ext) (RdK.ext HU.out.2 ZC.out.ext)).mono ?_
  rintro e w7 ⟨rfl,b7⟩
  have Z7:=VR (ZC.out.tr b7)
  have TA7:=VR (TA.out.ext b7)
  have TB7:=VR (TB.out.ext b7)
  clear p0 p1 p2 p3 p4 p5 p6 p7 p8 p9 p10 p11 p12 p13 p14 p15 p16 pl q0 q1 q2 q3 q4 q5 q6 q7 q8 q9 q10 q11 q12 q13 q14 q15 q16 ql b7 ZC TA TB
  have p4:=TA7.out.c4
  have p5:=TA7.out.c5
  have p6:=TA7.out.c6
  have p7:=TA7.out.c7
  have p8:=TA7.out.c8
  have p9:=TA7.out.c9
  have p10:=TA7.out.c10
  have p11:=TA7.out.c11
  have p12:=TA7.out.c12
  have p13:=TA7.out.c13
  have p14:=TA7.out.c14
  have p15:=TA7.out.c15
  have p16:=TA7.out.c16
  have pl:=TA7.out.lt
  have q4:=TB7.out.c4
  have q5:=TB7.out.c5
  have q6:=TB7.out.c6
  have q7:=TB7.out.c7
  have q8:=TB7.out.c8
  have q9:=TB7.out.c9
  have q10:=TB7.out.c10
  have q11:=TB7.out.c11
  have q12:=TB7.out.c12
  have q13:=TB7.out.c13
  have q14:=TB7.out.c14
  have q15:=TB7.out.c15
  have q16:=TB7.out.c16
  have ql:=TB7.out.lt
  have eqq:=fun W=>HEQ.out W t.sg
  unfold ncV at eqq
  go_wp2_with fail
  go_roundw
  case rel=>exact ⟨k+1,by omega,by go_num,Z7⟩
  case measure=>simp [intOf];omega
end Go.Proofs.YtkjplpmogfmhkaaGreatDoor
