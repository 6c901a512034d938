/- Parts Al Am of the proof. -/
import Derived.Test.YtkjplpmogfmhkaaGreatDoorIbi
import Derived.Test.YtkjplpmogfmhkaaGreatDoorIba
import Derived.Test.YtkjplpmogfmhkaaGreatDoorIbg
import Derived.Test.YtkjplpmogfmhkaaGreatDoorIbc
import Derived.Test.YtkjplpmogfmhkaaGreatDoorIav
import Derived.Deep.CutRange
namespace Go.Proofs.YtkjplpmogfmhkaaGreatDoor
open Go.RowKit
open Go.Proofs.YtkjplpmogfmhkaaGreatDoor.Gd (cN mB)
set_option linter.unusedVariables false
set_option maxRecDepth 100000
namespace Gd
section
variable {P:Program}{ops:Array Oper}{Q:Exit→Act→World→Prop}{w0:World}{R:Act→World→Prop}
theorem NN {o:Oper}{rest:List Oper}{a:Act}{hs:List (Nat × aF)}{d:Nat} (hg:cN ops o a hs) (v:Value) (hd:o.dst=some d) (hz:Nat.blt d a.tmps.size=true) (hsel:aO o=true) (hin:(aQ o).all (fun t=>Nat.blt t a.tmps.size)=true)
 (h:∀ (m:Lt w0) (f:Nat→Value),(∀ t p,hs.lookup t=some p→(aQ o).contains t=true→p (f t) m.1)→∀ (K:Act→World→Prop),(∀ a'' w'',a''.defers=a.defers→(Ext m.1 w''∧a''.eval (.tmp d)=v)→K a'' w'')→o.wp P (aW a hs f) m.1 K (fun _ _ _=>False))
 (hr:wpX P ops Q w0 R rest (a.put (some d) v) hs):wpX P ops Q w0 R (o::rest) a hs :=
 ⟨d,fun u _=>u=v,hd,bH hz,stable_eq v,fun a' w he hsl=>fA hg hsl fun hsl=>by
   refine Oper.wp_mono (fun a'' w'' ⟨v,h1,h2⟩=>⟨v,h1,h2⟩) (dB (G:=fun u w''=>Ext w w''∧u=v) (cS (bM hsel) (gT (.inr trivial) hin hsl)) hd (by rw [bO];exact bH hz) (fun K hK=>h ⟨w,he⟩ (fun t=>a'.eval (.tmp t)) (fun t p hl hc=>?_) K (fun a'' w'' hd'=>hK a'' w'' (by rw [bQ];exact hd'))))
   have:=hsl t (by simpa using hc)
   unfold bN at this
   rw [hl] at this
   exact this,.inl ⟨v,rfl,hr⟩⟩
theorem KD {o:Oper}{rest:List Oper}{a:Act}{hs:List (Nat × aF)}{d:Nat} (hg:cN ops o a hs) (v:Value) {fn:FuncId}{x:Operand}{xs:Array Operand}{ats:Array TypeId} (args:(Nat→Value)→List Value)
 (hd:o.dst=some d) (hz:Nat.blt d a.tmps.size=true) (ho:o.op=.call { callee:=.value x,args:=xs,argTypes:=ats }) (hin:(aQ o).all (fun t=>Nat.blt t a.tmps.size)=true)
 (hqx:x=.func fn) (hf:eM P fn=true) (hq:(xs.toList.all fun q=>jV a q)=true) (ha:∀ f,xs.toList.map (evF a hs f)=args f)
 (h:∀ (m:Lt w0) (f:Nat→Value),(∀ t p,hs.lookup t=some p→(aQ o).contains t=true→p (f t) m.1)→Calls P fn (args f).toArray m.1 fun e w''=>e=.returned v∧Ext m.1 w'')
 (hr:wpX P ops Q w0 R rest (a.put (some d) v) hs):wpX P ops Q w0 R (o::rest) a hs :=
 NN hg v hd hz (by unfold aO;rw [ho]) hin (fun m f hu K hK=>fE (G:=fun u w''=>Ext m.1 w''∧u=v) ho (by rw [hqx];rfl) hf (by rw [← ha f];exact List.map_congr_left (fun q hm=>dD (List.all_eq_true.1 hq q hm))) ((h m f hu).mono fun _ _ ⟨q1,q2⟩=>⟨v,q1,q2,rfl⟩)
  (fun u' w'' h2=>hK _ _ (by rw [hd];show ((aW a hs f).put (some d) u').defers=_;simp [Act.put,bQ]) ⟨h2.1,by rw [hd,aM (by rw [bO];exact bH hz)];exact h2.2⟩)) hr
end
end Gd
theorem AuS.ext {n:Int}{w w':World}{x:AB}{a:AU}{ds:List Int} (h:AuS n w x a ds) (e:Ext w w'):AuS n w' x a ds:=h.kp (Kp.ext e)
structure WoZ (w wr:World) (P:Nat) (A:Option Addr) (c:Nat) (s0 s1 s2 s3 s4:SlT) (S:ST) (day:Int) (x y:AB):Prop where
 ext:Ext w wr
 wo:wr.heap[P]?=some (.cells (fJ (.slice A 2 c) s0 s1 s2 s3 s4 day) 77 (0,0))
 rd:RdK wr 33 (.slice A 2 c) (rR [x,y])
 au:AuL 3 wr [x,y]
 st:StS wr s0 s1 s2 s3 s4 S
 sb:WSb S
 one:S.roots.length=1
 dy:40000≤day∧day<40080
section
variable {w wr wx:World}{P:Nat}{A:Option Addr}{c:Nat}{s0 s1 s2 s3 s4:SlT}{S:ST}{day:Int}{x y:AB}
theorem WoZ.tr (h:WoZ w wr P A c s0 s1 s2 s3 s4 S day x y) (e:Ext wr wx):WoZ w wx P A c s0 s1 s2 s3 s4 S day x y :=
 ⟨h.ext.tr e,(e.block _ (a9 h.wo)).trans h.wo,RdK.ext h.rd e,h.au.kp (Kp.ext e),h.st.kp (Kp.ext e),h.sb,h.one,h.dy⟩
theorem WoZ.all (h:WoZ w wr P A c s0 s1 s2 s3 s4 S day x y):wr.rangeAt P 0 [.slice A 2 c,slV s0,slV s1,slV s2,slV s3,slV s4,.int .i64 day]:=fun j u hu=>by
 rw [UA,cell_of_row _ _ j _ _ _ h.wo,show fJ (.slice A 2 c) s0 s1 s2 s3 s4 day=([.slice A 2 c,slV s0,slV s1,slV s2,slV s3,slV s4,.int .i64 day]:List Value).toArray from rfl,List.getElem?_toArray]
 exact hu
theorem WoZ.mid (h:WoZ w wr P A c s0 s1 s2 s3 s4 S day x y):wr.rangeAt P 1 [slV s0,slV s1,slV s2,slV s3,slV s4]:=fun j u hu=>by
 rw [cell_of_row _ _ _ _ _ _ h.wo,show fJ (.slice A 2 c) s0 s1 s2 s3 s4 day=([Value.slice A 2 c]++[slV s0,slV s1,slV s2,slV s3,slV s4]++[Value.int .i64 day]).toArray from rfl,List.getElem?_toArray,UE,List.getElem?_append_right (by show 1≤1+j;omega),show 1+j - ([.slice A 2 c]:List Value).length=j by show 1+j - 1=j;omega,List.getElem?_append_left (List.getElem?_eq_some_iff.1 hu).1]
 exact hu
theorem WoZ.c6 (h:WoZ w wr P A c s0 s1 s2 s3 s4 S day x y):wr.cell? ⟨P,6,none⟩=some (.int .i64 day):=by rw [cell_of_row _ _ 6 _ _ _ h.wo];rfl
theorem WoZ.c0 (h:WoZ w wr P A c s0 s1 s2 s3 s4 S day x y):wr.cell? ⟨P,0,none⟩=some (.slice A 2 c):=by rw [cell_of_row _ _ 0 _ _ _ h.wo];rfl
end
theorem RL {w w1:World}{A:Option Addr}{c:Nat}{s0 s1 s2 s3 s4:SlT}{S:ST}{day:Int}{x y:AB} (e:Ext w w1) (h1:RdK w1 33 (.slice A 2 c) (rR [x,y])) (h2:AuL 3 w1 [x,y]) (h3:StS w1 s0 s1 s2 s3 s4 S) (h4:WSb S) (h5:S.roots.length=1) (h6:40000≤day∧day<40080) :
 ∃ wc,wc=(w1.alloc (.cells #[.slice none 0 0,.slice none 0 0,.slice none 0 0,.slice none 0 0,.slice none 0 0,.slice none 0 0,.int .i64 0] 77)).setRow w1.heap.size (fJ (.slice A 2 c) s0 s1 s2 s3 s4 day)∧WoZ w wc w1.heap.size A c s0 s1 s2 s3 s4 S day x y:=by
 have ec:Ext w1 ((w1.alloc (.cells #[.slice none 0 0,.slice none 0 0,.slice none 0 0,.slice none 0 0,.slice none 0 0,.slice none 0 0,.int .i64 0] 77)).setRow w1.heap.size (fJ (.slice A 2 c) s0 s1 s2 s3 s4 day)):=aR ((Below.refl _ _).alloc (TM _) _) (TM _) _
 exact ⟨_,rfl,e.tr ec,bE (aB w1 (.cells #[.slice none 0 0,.slice none 0 0,.slice none 0 0,.slice none 0 0,.slice none 0 0,.slice none 0 0,.int .i64 0] 77)),RdK.ext h1 ec,h2.kp (Kp.ext ec),h3.kp (Kp.ext ec),h4,h5,h6⟩
def mT:List Nat:=[80]
theorem SS:56 ∉ mT:=by unfold mT;decide
def LsP (w:World) (m0:MA) (m12:Int) (m:MA) (A:Option Addr) (n c:Nat):Prop:=cQ w 0 56 11 (.slice A n c) (aA m.roots)∧(7≤m12→m=m0)∧smL m.roots∧smN m.sg∧m.st.length≤maxLen∧m.roots.length≤10
def GLs (m0:MA) (m12:Int):aF:=fun v w=>∃ m A n c,v=maV m (.slice A n c)∧LsP w m0 m12 m A n c
theorem FP (m0:MA) (m12:Int) (G:Nat→Prop):(RG mT G).stable (GLs m0 m12):=fun v w w' r ⟨m,A,n,c,h1,h2,h3⟩=>⟨m,A,n,c,h1,h2.rg SS (fun _ _=>U4 _) r,h3⟩
def GLq (B:Nat) (m0:MA) (m12:Int):aF:=fun v w=>∃ g m A n c,v=.pointer (some ⟨g,0,none⟩)∧B≤g∧bA w g m (.slice A n c)∧LsP w m0 m12 m A n c
theorem GLq.ext {B:Nat}{m0:MA}{m12:Int} (v:Value) (w w':World) (e:Ext w w') (h:GLq B m0 m12 v w):GLq B m0 m12 v w':=by
 obtain ⟨g,m,A,n,c,h1,h2,h3,h4,h5⟩:=h
 exact ⟨g,m,A,n,c,h1,h2,h3.ext e,h4.ext e,h5⟩
theorem GLq.st {B:Nat}{m0:MA}{m12:Int}{G:Nat→Prop} (T:Nat) (hT:T≠80) (v:Value) (w w':World) (e:(RG mT G).st T w w') (h:GLq B m0 m12 v w):GLq B m0 m12 v w':=absurd (List.mem_singleton.1 e.1) hT
theorem SU:80 ∈ mT:=List.mem_singleton.2 rfl
theorem AuS.first {n:Int}{w:World}{x:AB}{a:AU}{ds:List Int} (h:AuS n w x a ds):∃ c t,a.roots=c::t:=by
 have hl:a.roots.length=ds.length:=h.ai.rlen
 cases hh:a.roots with
 | nil=>have:=h.ne.1;rw [hh,U7] at hl;omega
 | cons r t=>exact ⟨r,t,rfl⟩
theorem Q7 {n:Int}{w:World}{x y:AB} (h:AuL n w [x,y]) (who:Int):∃ (i:Nat) (xi xj:AB) (ai aj:AU) (di dj:List Int) (cj:NC) (tj:List NC),dS who 2=(i:Int)∧[x,y][i]?=some xi∧[x,y][1 - i]?=some xj∧AuS n w xi ai di∧AuS n w xj aj dj∧aj.roots=cj::tj:=by
 have hb:=iL (x:=who) (m:=2) (by omega)
 obtain ⟨i,hi⟩:∃ i:Nat,dS who 2=(i:Int):=⟨(dS who 2).toNat,by omega⟩
 have h2:i<2:=by omega
 obtain ⟨xi,hxi⟩:∃ z,[x,y][i]?=some z:=⟨_,U5 (by show i<2;exact h2)⟩
 obtain ⟨xj,hxj⟩:∃ z,[x,y][1 - i]?=some z:=⟨_,U5 (by show 1 - i<2;omega)⟩
 obtain ⟨ai,di,Si⟩:=h xi (UC hxi)
 obtain ⟨aj,dj,Sj⟩:=h xj (UC hxj)
 obtain ⟨cj,tj,e⟩:=Sj.first
 exact ⟨i,xi,xj,ai,aj,di,dj,cj,tj,hi,hxi,hxj,Si,Sj,e⟩
set_option maxHeartbeats 16000000 in
theorem FQ {v1:Value}{l:List Int} (who what bye later:Int) (w:World) (h:RdI w .i64 v1 l) (hw:∀ x ∈ l,lG x) (h1:lG who) (h2:lG what) (h3:lG bye) (h4:lG later) (E:Env w) :
 Calls Tryz.prog 10 #[v1,.int .i64 who,.int .i64 what,.int .i64 bye,.int .i64 later] w (eL w (.bool true)):=by
 have HA:=UP (fun W (e:Ext w W)=>DE W (E.ext e))
 have HL1:=UP (EI w h)
 have HWO:=UP (fun (q:l.length≤80)=>zV w h hw (by omega) E.r)
 have HM6:=UP (fun W=>gM bye 60 W h3.1 h3.2 (by omega))
 have HM9:=UP (fun W=>gM later 900 W h4.1 h4.2 (by omega))
 have b6:=iL (x:=bye) (m:=60) (by omega)
 have b9:=iL (x:=later) (m:=900) (by omega)
 have HE:=UP E
 have HWF:=UP (And.intro h1 h2)
 clear E h hw h1 h2 h3 h4
 go_enter Tryz.func10,Tryz.ntmps10
 go_wp2_with fail
 refine (HL1.out).mono ?_
 rintro e w' ⟨rfl,rfl⟩
 by_cases a1:l.length≤80
 case neg =>
  rw [decide_eq_false a1]
  go_wp2_with fail
  refine (HA.out _ (Below.refl _ _)).mono ?_
  rintro e w3 ⟨rfl,b3⟩
  go_wp2_with fail
  go_ret
  exact ⟨rfl,b3⟩
 rw [decide_eq_true a1]
 have HWO:=UP (HWO.out a1)
 clear a1 HL1
 go_wp2_with fail
 refine (HWO.out).mono ?_
 rintro e w1 ⟨A,c,s0,s1,s2,s3,s4,S,day,x,y,rfl,b1,hdy,rA,uA,sA,wsb,one⟩
 obtain ⟨wc,hwc,Z0⟩:=RL b1 rA uA sA wsb one hdy
 have H1:=UP (xZ (v:=.slice A 2 c) s0 s1 s2 s3 s4 day rfl)
 have HALL:=UP (aB w1 (.cells #[.slice none 0 0,.slice none 0 0,.slice none 0 0,.slice none 0 0,.slice none 0 0,.slice none 0 0,.int .i64 0] 77))
 obtain ⟨i,xi,xj,ai,aj,di,dj,cj,tj,hi,hxi,hxj,Si,Sj,erj⟩:=Q7 uA who
 clear HWO b1 rA uA sA wsb one Si Sj
 go_upto_region 4 with (refine aL rfl 77 _ _ rfl rfl w1.heap.size (fJ (.slice A 2 c) s0 s1 s2 s3 s4 day) rfl rfl 77 #[.slice none 0 0,.slice none 0 0,.slice none 0 0,.slice none 0 0,.slice none 0 0,.slice none 0 0,.int .i64 0] HALL.out qJ rfl H1.out ?_)
 rw [← hwc]
 clear hwc HALL H1
 generalize w1.heap.size=P at *
 clear w1
 have Z:=UP Z0
 clear Z0
 obtain ⟨i',xi',xj',ai,aj,di,dj,cj',tj',hi',hxi',hxj',Si,Sj,erj'⟩:=Q7 Z.out.au who
 rw [hi] at hi'
 obtain rfl:i=i':=by omega
 rw [hxi] at hxi'
 rw [hxj] at hxj'
 obtain rfl:=Option.some.inj hxi'
 obtain rfl:=Option.some.inj hxj'
 clear hxi' hxj' hi' erj
 generalize dS bye 60=m6 at *
 generalize dS later 900=m9 at *
 have wm6:IntKind.i64.wrap (m6 - 30)=m6 - 30:=IntWalk.i64_in _ (by omega)
 have HLI:=UP (fun W (e:Ext wc W)=>FO s0 s1 s2 s3 s4 day who what (m6 - 30) i xi xj ai aj di dj cj' tj' W (RdK.ext Z.out.rd e) hi hxi hxj (Si.ext e) (Sj.ext e) erj' (by have:=Z.out.dy;omega) (by have:=Z.out.dy;omega) HWF.out.1 HWF.out.2 (by omega) (by omega) (HE.out.ext (Z.out.ext.tr e)).r)
 clear hi hxi hxj Si Sj erj' HWF
 generalize fV xi.lsec ⟨xi.st,xi.li,day,[cj'],xi.ls,0,0⟩=m0 at *
 generalize dS what 12=m12 at *
 refine Gt.aN (r:=(RG mT (fun k=>wc.heap.size≤k))) 9 (by kernel_rfl) (by kernel_rfl) ?_
 simp only [UF,UD,UG,UH]
 intro wq hw1
 have LR:∀ m1:(RG mT (fun k=>wc.heap.size≤k)).Lt wq,RgS mT (fun k=>wc.heap.size≤k) wc m1.1:=fun m1=>RgS.tr hw1 m1.2
 have LB:∀ m1:(RG mT (fun k=>wc.heap.size≤k)).Lt wq,Ext wc m1.1:=fun m1=>(LR m1).below (fun _ h=>h) (TM _)
 have KW:=fun m1:(RG mT (fun k=>wc.heap.size≤k)).Lt wq=>(Z.out.tr (LB m1)).all
 refine Gt.wpX_midK (by first | exact trivial | exact ⟨_,rfl,rfl,rfl⟩) (P) (0) ([.slice A 2 c,slV s0,slV s1,slV s2,slV s3,slV s4,.int .i64 day]) rfl rfl rfl rfl rfl KW Tryz.underlying77 rfl qJ ?_
 simp only [Act.put,TO,TQ,TU]
 repeat (refine Gt.aD (by first | exact trivial | exact ⟨_,rfl,rfl,rfl⟩) rfl rfl rfl rfl rfl (fun K hK=>?_);go_big_quiet_op;refine hK _ ?_;clear hK K)
 refine Gt.bU (by first | exact trivial | exact ⟨_,rfl,rfl,rfl⟩) (.int .i64 m6) (args:=[.int .i64 bye,.int .i64 60]) rfl rfl rfl rfl (by kernel_rfl) rfl rfl (fun m1=>(HM6.out m1.1).mono fun _ _ ⟨h1,h2⟩=>⟨h1,h2 ▸ Below.refl _ _⟩) ?_
 simp only [Act.put,TO,TQ,TU]
 repeat (refine Gt.aD (by first | exact trivial | exact ⟨_,rfl,rfl,rfl⟩) rfl rfl rfl rfl rfl (fun K hK=>?_);go_big_quiet_op;refine hK _ ?_;clear hK K)
 refine Gt.aU (by first | exact trivial | exact ⟨_,rfl,rfl,rfl⟩) (GLs m0 m12) (FP _ _ _) (fun _=>[.agg (fJ (.slice A 2 c) s0 s1 s2 s3 s4 day),.int .i64 who,.int .i64 what,.int .i64 (m6 - 30)]) rfl rfl rfl rfl rfl (by kernel_rfl) rfl (fun _=>rfl) (fun m1 f hf=>(HLI.out m1.1 (LB m1)).mono fun e w' ⟨m,A,n,c,h1,h2,h3⟩=>⟨_,h1,h2,m,A,n,c,rfl,h3⟩) ?_
 simp only [Act.put,TO,TQ,TU]
 refine Gt.wpX_allocM17 wc.heap.size (fun m1=>(LB m1).size) (iY _ _ _) (by first | exact trivial | exact ⟨_,rfl,rfl,rfl⟩) rfl rfl rfl rfl ?_
 simp only [Act.put,TO,TQ,TU]
 refine Gt.fN (by first | exact trivial | exact ⟨_,rfl,rfl,rfl⟩) (GLq wc.heap.size m0 m12) (fun f=>f 12) (fun f=>f 30) rfl rfl rfl rfl rfl (fun _=>rfl) (fun _=>rfl) GLq.ext GLq.st (fun m1 f hf=>?_) ?_
 · obtain ⟨g,e9,hg,cs9,q1,q2⟩:=hf 12 _ rfl rfl
   obtain ⟨m,A,n,c,h5,o5,r5⟩:=hf 30 _ rfl rfl
   rw [e9,h5]
   have hR:=RgS.setRow (S:=[80]) (G:=fun q=>wc.heap.size≤q) (cs':=(aC m (.slice A n c)).toArray) q1 (List.mem_singleton.2 rfl) hg q2.symm
   exact ⟨_,fM (cells:=(aC m (.slice A n c)).toArray) q1 aP q2 (eX m (.slice A n c) rfl),⟨SU,hR⟩,g,m,A,n,c,rfl,hg,bE q1,o5.rg (by decide) (fun _ _=>U4 _) hR,r5⟩
 refine Gt.wpX_endG rfl (fun m1 f hf hqs=>?_)
 have hq:GLq wc.heap.size m0 m12 (f 12) m1.1:=hqs _ UK
 obtain ⟨gm,m,Am,nm,cm,e9,hgm,T9,L9⟩:=hq
 simp only [aW]
 simp only [Act.put,TO,TQ,TU]
 rw [e9]
 have Z2:=UP (Z.out.tr (LB m1))
 have T2:=UP T9
 have L2:=UP L9
 clear hqs hf e9 KW LR LB hw1 Z T9 L9 HLI
 generalize m1.1=w2 at *
 generalize f 30=f30 at *
 clear m1 f
 show wpList _ _ _ _ _ _
 have wd1:IntKind.i64.wrap (day+m9)=day+m9:=IntWalk.i64_in _ (by have:=Z2.out.dy;omega)
 obtain ⟨dd,hdd⟩:∃ dd,day+m9 - 20=dd:=⟨_,rfl⟩
 have wd2:IntKind.i64.wrap (day+m9 - 20)=dd:=by rw [hdd];exact IntWalk.i64_in _ (by have:=Z2.out.dy;omega)
 clear hdd
 go_upto_region 5 with fail
 refine Gd.aN 6 (by kernel_rfl) (by kernel_rfl) ?_
 simp only [UF,UD,UG,UH]
 intro wq hw1
 have LL:∀ m1:Lt wq,Ext w2 m1.1:=fun m1=>hw1.tr m1.2
 have p6:=fun m1:Lt wq=>(Z2.out.tr (LL m1)).c6
 have pl:=fun m1:Lt wq=>a9 (Z2.out.tr (LL m1)).wo
 repeat (refine Gd.aD (by first | exact trivial | exact ⟨_,rfl,rfl,rfl⟩) rfl rfl rfl rfl rfl (fun K hK=>?_);go_big_quiet_op;refine hK _ ?_;clear hK K)
 refine Gd.bU (by first | exact trivial | exact ⟨_,rfl,rfl,rfl⟩) (.int .i64 m9) (args:=[.int .i64 later,.int .i64 900]) rfl rfl rfl rfl (by kernel_rfl) rfl rfl (fun m1=>(HM9.out m1.1).mono fun _ _ ⟨h1,h2⟩=>⟨h1,h2 ▸ Below.refl _ _⟩) ?_
 simp only [Act.put,TO,TQ,TU]
 repeat (refine Gd.aD (by first | exact trivial | exact ⟨_,rfl,rfl,rfl⟩) rfl rfl rfl rfl rfl (fun K hK=>?_);go_big_quiet_op;refine hK _ ?_;clear hK K)
 refine Gd.dW (fun m1=>?_)
 have Z3:=UP (Z2.out.tr (LL m1))
 have T3:=UP (T2.out.ext (LL m1))
 have L3:=UP (L2.out.1.ext (LL m1))
 clear LL p6 pl hw1 Z2 T2 wm6
 generalize m1.1=w3 at *
 clear m1
 show wpList _ _ _ _ _ _
 go_upto_region 6 with fail
 clear wd1 wd2
 have HC:=UP Z3.out.mid
 have pl:=a9 Z3.out.wo
 have HR:=UP T3.out.row
 obtain ⟨-,-,hms,hmg,hmt,hml⟩:=L2.out
 have HMS:=UP (And.intro hms (And.intro hmg (And.intro hmt hml)))
 clear L2 hms hmg hmt hml
 have HAC:=UP (kJ s0 s1 s2 s3 s4 S m (.slice Am nm cm) dd w3 Z3.out.st.rd Z3.out.sb.b L3.out.rd HMS.out.2.2.1 HMS.out.1 HMS.out.2.1 (by have:=HMS.out.2.2.2;omega) (HE.out.ext Z3.out.ext).d)
 go_wp2_with (first | (refine wpList_load_mid rfl 75 _ rfl P 1 rfl [slV s0,slV s1,slV s2,slV s3,slV s4] _ HC.out Tryz.underlying75 rfl bC ?_) | (refine wpList_load_row rfl 80 _ rfl gm rfl 80 (aC m (.slice Am nm cm)).toArray (0,0) _ HR.out Tryz.underlying80 rfl aP ?_))
 refine HAC.out.mono ?_
 rintro e w4 ⟨t0,t1,t2,t3,t4,rfl,SR,b4⟩
 obtain ⟨wf,hwf⟩:∃ wf,wf=w4.alloc (.cells #[.slice t0.1 t0.2.1 t0.2.2,.slice t1.1 t1.2.1 t1.2.2,.slice t2.1 t2.2.1 t2.2.2,.slice t3.1 t3.2.1 t3.2.2,.slice t4.1 t4.2.1 t4.2.2] 75):=⟨_,rfl⟩
 have ef:Ext w4 wf:=by rw [hwf];exact (Below.refl _ _).alloc (TM _) _
 have hf:wf.heap[w4.heap.size]?=some (.cells (bF t0 t1 t2 t3 t4) 75 (0,0)):=by rw [hwf];exact aB w4 _
 have Z5:=UP (Z3.out.tr (b4.tr ef))
 have T5:=UP (T3.out.ext (b4.tr ef))
 have L5:=UP (L3.out.ext (b4.tr ef))
 have SA:=UP (SR.ext ef)
 have HSA:=UP hf
 clear ef SR b4 hf HAC HC HR pl Z3 T3 L3
 unfold cC
 go_upto_region 7 with fail
 rw [← hwf]
 clear hwf
 generalize w4.heap.size=gs at *
 clear w4 w3
 have HC:=UP Z5.out.mid
 have pl:=a9 Z5.out.wo
 have HR:=UP T5.out.row
 obtain ⟨ps,hps,hsp,hin⟩:=Z5.out.st.m
 have HPS:=UP (And.intro hps (And.intro hsp hin))
 clear hps hsp hin
 have HAC:=UP (mY s0 s1 s2 s3 s4 S ps m (.slice Am nm cm) dd wf Z5.out.st.r.rd Z5.out.st.p.rd HPS.out.2.1.rd HPS.out.1 (fun p hp=>(HPS.out.2.2 p hp).rd) Z5.out.sb.b.r Z5.out.sb.b.p (by have:=Z5.out.sb.b.lr;have:=Z5.out.sb.b.lp;omega) (by have h1:=Z5.out.sb.b.lm;rw [← HPS.out.1,List.length_map] at h1;omega) L5.out.rd HMS.out.1 HMS.out.2.1 HMS.out.2.2.1 (HE.out.ext Z5.out.ext).r)
 go_wp2_with (first | (refine wpList_load_mid rfl 75 _ rfl P 1 rfl [slV s0,slV s1,slV s2,slV s3,slV s4] _ HC.out Tryz.underlying75 rfl bC ?_) | (refine wpList_load_row rfl 80 _ rfl gm rfl 80 (aC m (.slice Am nm cm)).toArray (0,0) _ HR.out Tryz.underlying80 rfl aP ?_))
 refine HAC.out.mono ?_
 rintro e w6 q6
 obtain ⟨u2,rfl,b6',SS6⟩:=q6.sts Z5.out.st HPS.out.2.2 L5.out
 have HWS:=UP (Z5.out.sb.acc (day:=dd) HMS.out.1 (by have:=HMS.out.2.2.2;omega))
 obtain ⟨wg,hwg⟩:∃ wg,wg=w6.alloc (.cells #[.slice s0.1 s0.2.1 s0.2.2,.slice s1.1 s1.2.1 s1.2.2,.slice u2.1 u2.2.1 u2.2.2,.slice s3.1 s3.2.1 s3.2.2,.slice s4.1 s4.2.1 s4.2.2] 75):=⟨_,rfl⟩
 have eg:Ext w6 wg:=by rw [hwg];exact (Below.refl _ _).alloc (TM _) _
 have hf:wg.heap[w6.heap.size]?=some (.cells (bF s0 s1 u2 s3 s4) 75 (0,0)):=by rw [hwg];exact aB w6 _
 have Z7:=UP (Z5.out.tr (b6'.tr eg))
 have T7:=UP (T5.out.ext (b6'.tr eg))
 have L7:=UP (L5.out.ext (b6'.tr eg))
 have SA7:=UP (SA.out.ext (b6'.tr eg))
 have HSA7:=UP ((b6'.tr eg).block _ (a9 HSA.out) |>.trans HSA.out)
 have SB7:=UP ((SS6.kp (Kp.ext eg)).rd)
 have HSB7:=UP hf
 clear eg SS6 b6' hf HAC HC HR pl Z5 T5 L5 SA HSA HPS q6
 unfold cC
 go_upto_region 8 with fail
 rw [← hwg]
 clear hwg
 generalize w6.heap.size=gt at *
 clear w6 wf
 have HVV:=UP (fun W (e:Ext wg W)=>sT s0 s1 s2 s3 s4 S.roots S.pool m (.slice Am nm cm) dd W (Z7.out.tr e).st.r.rd (Z7.out.tr e).st.p.rd Z7.out.sb.b.r Z7.out.sb.b.p (by have:=Z7.out.sb.b.lr;have:=Z7.out.sb.b.lp;omega) (L7.out.ext e).rd HMS.out.1 HMS.out.2.1 HMS.out.2.2.1 (HE.out.ext (Z7.out.ext.tr e)).d)
 have HVR:=UP (fun W (e:Ext wg W)=>mV s0 s1 s2 s3 s4 S.roots S.pool m (.slice Am nm cm) dd W (Z7.out.tr e).st.r.rd (Z7.out.tr e).st.p.rd Z7.out.sb.b.r Z7.out.sb.b.p (by have:=Z7.out.sb.b.lr;have:=Z7.out.sb.b.lp;omega) (L7.out.ext e).rd HMS.out.1 HMS.out.2.1 HMS.out.2.2.1 (HE.out.ext (Z7.out.ext.tr e)).r)
 have HCV:=UP (fun W (e:Ext wg W)=>oW m (.slice Am nm cm) W (L7.out.ext e).rd HMS.out.1 HMS.out.2.1 HMS.out.2.2.1 (HE.out.ext (Z7.out.ext.tr e)).d)
 have HCR:=UP (fun W (e:Ext wg W)=>kP m (.slice Am nm cm) W (L7.out.ext e).rd HMS.out.1 HMS.out.2.1 HMS.out.2.2.1 (HE.out.ext (Z7.out.ext.tr e)).r)
 have HSS:=UP (fun W (e:Ext wg W)=>wU t0 t1 t2 t3 t4 s0 s1 u2 s3 s4 (gJ S m dd).1 W (SA7.out.ext e) (SB7.out.ext e) HWS.out.ds)
 have HRO:=UP (fun W (e:Ext wg W)=>xX t0 t1 t2 t3 t4 (gJ S m dd).1 W (SA7.out.ext e).r0 (SA7.out.ext e).r2 HWS.out.b)
 have HRR:=UP (fun W (e:Ext wg W)=>zI s0 s1 u2 s3 s4 (gJ S m dd).1 W (SB7.out.ext e).r0 (SB7.out.ext e).r2 HWS.out.b)
 generalize oY S.roots S.pool m dd=VK at *
 generalize ckM m=CK at *
 generalize gJ S m dd=ac at *
 refine Gd.aN 38 (by kernel_rfl) (by kernel_rfl) ?_
 simp only [UF,UD,UG,UH]
 intro wq hw1
 have LL:∀ m1:Lt wq,Ext wg m1.1:=fun m1=>hw1.tr m1.2
 have LW:∀ m1:Lt wq,Ext w m1.1:=fun m1=>Z7.out.ext.tr (LL m1)
 have KC:=fun m1:Lt wq=>(Z7.out.tr (LL m1)).mid
 have KM:=fun m1:Lt wq=>(T7.out.ext (LL m1)).range
 have KA:=fun m1:Lt wq=>D4 (((LL m1).block _ (a9 HSA7.out)).trans HSA7.out)
 have KB:=fun m1:Lt wq=>D4 (((LL m1).block _ (a9 HSB7.out)).trans HSB7.out)
 repeat (refine Gd.aD (by first | exact trivial | exact ⟨_,rfl,rfl,rfl⟩) rfl rfl rfl rfl rfl (fun K hK=>?_);go_big_quiet_op;refine hK _ ?_;clear hK K)
 refine Gd.bU (by first | exact trivial | exact ⟨_,rfl,rfl,rfl⟩) (.bool true) (args:=[]) rfl rfl rfl rfl (by kernel_rfl) rfl rfl (fun m1=>(HA.out m1.1 (LW m1)).mono fun _ _ ⟨h1,h2⟩=>⟨h1,h2⟩) ?_
 simp only [Act.put,TO,TQ,TU]
 try simp only [beq_self_eq_true]
 repeat (refine Gd.aD (by first | exact trivial | exact ⟨_,rfl,rfl,rfl⟩) rfl rfl rfl rfl rfl (fun K hK=>?_);go_big_quiet_op;refine hK _ ?_;clear hK K)
 try simp only [beq_self_eq_true]
 refine Gd.wpX_midK (by first | exact trivial | exact ⟨_,rfl,rfl,rfl⟩) (gm) (0) (aC m (.slice Am nm cm)) rfl rfl rfl rfl rfl KM Tryz.underlying80 rfl aP ?_
 simp only [Act.put,TO,TQ,TU]
 repeat (refine Gd.aD (by first | exact trivial | exact ⟨_,rfl,rfl,rfl⟩) rfl rfl rfl rfl rfl (fun K hK=>?_);go_big_quiet_op;refine hK _ ?_;clear hK K)
 refine Gd.bU (by first | exact trivial | exact ⟨_,rfl,rfl,rfl⟩) (.int .i64 CK) (args:=[maV m (.slice Am nm cm)]) rfl rfl rfl rfl (by kernel_rfl) rfl rfl (fun m1=>(HCV.out m1.1 (LL m1)).mono fun _ _ ⟨h1,h2⟩=>⟨h1,h2⟩) ?_
 simp only [Act.put,TO,TQ,TU]
 try simp only [beq_self_eq_true]
 repeat (refine Gd.aD (by first | exact trivial | exact ⟨_,rfl,rfl,rfl⟩) rfl rfl rfl rfl rfl (fun K hK=>?_);go_big_quiet_op;refine hK _ ?_;clear hK K)
 try simp only [beq_self_eq_true]
 refine Gd.wpX_midK (by first | exact trivial | exact ⟨_,rfl,rfl,rfl⟩) (gm) (0) (aC m (.slice Am nm cm)) rfl rfl rfl rfl rfl KM Tryz.underlying80 rfl aP ?_
 simp only [Act.put,TO,TQ,TU]
 repeat (refine Gd.aD (by first | exact trivial | exact ⟨_,rfl,rfl,rfl⟩) rfl rfl rfl rfl rfl (fun K hK=>?_);go_big_quiet_op;refine hK _ ?_;clear hK K)
 refine Gd.bU (by first | exact trivial | exact ⟨_,rfl,rfl,rfl⟩) (.int .i64 CK) (args:=[maV m (.slice Am nm cm)]) rfl rfl rfl rfl (by kernel_rfl) rfl rfl (fun m1=>(HCR.out m1.1 (LL m1)).mono fun _ _ ⟨h1,h2⟩=>⟨h1,h2⟩) ?_
 simp only [Act.put,TO,TQ,TU]
 try simp only [beq_self_eq_true]
 repeat (refine Gd.aD (by first | exact trivial | exact ⟨_,rfl,rfl,rfl⟩) rfl rfl rfl rfl rfl (fun K hK=>?_);go_big_quiet_op;refine hK _ ?_;clear hK K)
 try simp only [beq_self_eq_true]
 refine Gd.wpX_midK (by first | exact trivial | exact ⟨_,rfl,rfl,rfl⟩) (P) (1) ([slV s0,slV s1,slV s2,slV s3,slV s4]) rfl rfl rfl rfl rfl KC Tryz.underlying75 rfl bC ?_
 simp only [Act.put,TO,TQ,TU]
 repeat (refine Gd.aD (by first | exact trivial | exact ⟨_,rfl,rfl,rfl⟩) rfl rfl rfl rfl rfl (fun K hK=>?_);go_big_quiet_op;refine hK _ ?_;clear hK K)
 refine Gd.wpX_midK (by first | exact trivial | exact ⟨_,rfl,rfl,rfl⟩) (gm) (0) (aC m (.slice Am nm cm)) rfl rfl rfl rfl rfl KM Tryz.underlying80 rfl aP ?_
 simp only [Act.put,TO,TQ,TU]
 repeat (refine Gd.aD (by first | exact trivial | exact ⟨_,rfl,rfl,rfl⟩) rfl rfl rfl rfl rfl (fun K hK=>?_);go_big_quiet_op;refine hK _ ?_;clear hK K)
 refine Gd.bU (by first | exact trivial | exact ⟨_,rfl,rfl,rfl⟩) (.int .i64 VK) (args:=[cC s0 s1 s2 s3 s4,maV m (.slice Am nm cm),.int .i64 dd]) rfl rfl rfl rfl (by kernel_rfl) rfl rfl (fun m1=>(HVV.out m1.1 (LL m1)).mono fun _ _ ⟨h1,h2⟩=>⟨h1,h2⟩) ?_
 simp only [Act.put,TO,TQ,TU]
 try simp only [beq_self_eq_true]
 repeat (refine Gd.aD (by first | exact trivial | exact ⟨_,rfl,rfl,rfl⟩) rfl rfl rfl rfl rfl (fun K hK=>?_);go_big_quiet_op;refine hK _ ?_;clear hK K)
 try simp only [beq_self_eq_true]
 refine Gd.wpX_midK (by first | exact trivial | exact ⟨_,rfl,rfl,rfl⟩) (P) (1) ([slV s0,slV s1,slV s2,slV s3,slV s4]) rfl rfl rfl rfl rfl KC Tryz.underlying75 rfl bC ?_
 simp only [Act.put,TO,TQ,TU]
 repeat (refine Gd.aD (by first | exact trivial | exact ⟨_,rfl,rfl,rfl⟩) rfl rfl rfl rfl rfl (fun K hK=>?_);go_big_quiet_op;refine hK _ ?_;clear hK K)
 refine Gd.wpX_midK (by first | exact trivial | exact ⟨_,rfl,rfl,rfl⟩) (gm) (0) (aC m (.slice Am nm cm)) rfl rfl rfl rfl rfl KM Tryz.underlying80 rfl aP ?_
 simp only [Act.put,TO,TQ,TU]
 repeat (refine Gd.aD (by first | exact trivial | exact ⟨_,rfl,rfl,rfl⟩) rfl rfl rfl rfl rfl (fun K hK=>?_);go_big_quiet_op;refine hK _ ?_;clear hK K)
 refine Gd.bU (by first | exact trivial | exact ⟨_,rfl,rfl,rfl⟩) (.int .i64 VK) (args:=[cC s0 s1 s2 s3 s4,maV m (.slice Am nm cm),.int .i64 dd]) rfl rfl rfl rfl (by kernel_rfl) rfl rfl (fun m1=>(HVR.out m1.1 (LL m1)).mono fun _ _ ⟨h1,h2⟩=>⟨h1,h2⟩) ?_
 simp only [Act.put,TO,TQ,TU]
 try simp only [beq_self_eq_true]
 repeat (refine Gd.aD (by first | exact trivial | exact ⟨_,rfl,rfl,rfl⟩) rfl rfl rfl rfl rfl (fun K hK=>?_);go_big_quiet_op;refine hK _ ?_;clear hK K)
 try simp only [beq_self_eq_true]
 refine Gd.wpX_midK (by first | exact trivial | exact ⟨_,rfl,rfl,rfl⟩) (gs) (0) ([slV t0,slV t1,slV t2,slV t3,slV t4]) rfl rfl rfl rfl rfl KA Tryz.underlying75 rfl bC ?_
 simp only [Act.put,TO,TQ,TU]
 repeat (refine Gd.aD (by first | exact trivial | exact ⟨_,rfl,rfl,rfl⟩) rfl rfl rfl rfl rfl (fun K hK=>?_);go_big_quiet_op;refine hK _ ?_;clear hK K)
 refine Gd.wpX_midK (by first | exact trivial | exact ⟨_,rfl,rfl,rfl⟩) (gt) (0) ([slV s0,slV s1,slV u2,slV s3,slV s4]) rfl rfl rfl rfl rfl KB Tryz.underlying75 rfl bC ?_
 simp only [Act.put,TO,TQ,TU]
 repeat (refine Gd.aD (by first | exact trivial | exact ⟨_,rfl,rfl,rfl⟩) rfl rfl rfl rfl rfl (fun K hK=>?_);go_big_quiet_op;refine hK _ ?_;clear hK K)
 refine Gd.bU (by first | exact trivial | exact ⟨_,rfl,rfl,rfl⟩) (.bool true) (args:=[cC t0 t1 t2 t3 t4,cC s0 s1 u2 s3 s4]) rfl rfl rfl rfl (by kernel_rfl) rfl rfl (fun m1=>(HSS.out m1.1 (LL m1)).mono fun _ _ ⟨h1,h2⟩=>⟨h1,h2⟩) ?_
 simp only [Act.put,TO,TQ,TU]
 try simp only [beq_self_eq_true]
 repeat (refine Gd.aD (by first | exact trivial | exact ⟨_,rfl,rfl,rfl⟩) rfl rfl rfl rfl rfl (fun K hK=>?_);go_big_quiet_op;refine hK _ ?_;clear hK K)
 try simp only [beq_self_eq_true]
 refine Gd.wpX_midK (by first | exact trivial | exact ⟨_,rfl,rfl,rfl⟩) (gs) (0) ([slV t0,slV t1,slV t2,slV t3,slV t4]) rfl rfl rfl rfl rfl KA Tryz.underlying75 rfl bC ?_
 simp only [Act.put,TO,TQ,TU]
 repeat (refine Gd.aD (by first | exact trivial | exact ⟨_,rfl,rfl,rfl⟩) rfl rfl rfl rfl rfl (fun K hK=>?_);go_big_quiet_op;refine hK _ ?_;clear hK K)
 refine Gd.aU (by first | exact trivial | exact ⟨_,rfl,rfl,rfl⟩) (GSl (j2 ac.1)) (vI _) (fun _=>[cC t0 t1 t2 t3 t4]) rfl rfl rfl rfl rfl (by kernel_rfl) rfl (fun _=>rfl) (fun m1 f hf=>(HRO.out m1.1 (LL m1)).mono fun e w'' q=>J3.gsl q) ?_
 simp only [Act.put,TO,TQ,TU]
 repeat (refine Gd.aD (by first | exact trivial | exact ⟨_,rfl,rfl,rfl⟩) rfl rfl rfl rfl rfl (fun K hK=>?_);go_big_quiet_op;refine hK _ ?_;clear hK K)
 refine Gd.wpX_midK (by first | exact trivial | exact ⟨_,rfl,rfl,rfl⟩) (gt) (0) ([slV s0,slV s1,slV u2,slV s3,slV s4]) rfl rfl rfl rfl rfl KB Tryz.underlying75 rfl bC ?_
 simp only [Act.put,TO,TQ,TU]
 repeat (refine Gd.aD (by first | exact trivial | exact ⟨_,rfl,rfl,rfl⟩) rfl rfl rfl rfl rfl (fun K hK=>?_);go_big_quiet_op;refine hK _ ?_;clear hK K)
 refine Gd.aU (by first | exact trivial | exact ⟨_,rfl,rfl,rfl⟩) (GSl (j2 ac.1)) (vI _) (fun _=>[cC s0 s1 u2 s3 s4]) rfl rfl rfl rfl rfl (by kernel_rfl) rfl (fun _=>rfl) (fun m1 f hf=>(HRR.out m1.1 (LL m1)).mono fun e w'' q=>J3.gsl q) ?_
 simp only [Act.put,TO,TQ,TU]
 repeat (refine Gd.aD (by first | exact trivial | exact ⟨_,rfl,rfl,rfl⟩) rfl rfl rfl rfl rfl (fun K hK=>?_);go_big_quiet_op;refine hK _ ?_;clear hK K)
 refine Gd.KD (by first | exact trivial | exact ⟨_,rfl,rfl,rfl⟩) (.bool true) (fun f=>[f 86,f 88]) rfl rfl rfl rfl rfl (by kernel_rfl) rfl (fun _=>rfl) (fun m1 f hf=>?_) ?_
 · obtain ⟨A1,n1,c1,e1,hn1,r1⟩:=hf 86 _ rfl rfl
   obtain ⟨A2,n2,c2,e2,hn2,r2⟩:=hf 88 _ rfl rfl
   rw [e1,e2]
   exact (J7 m1.1 r1 r2).mono fun _ _ ⟨h1,h2⟩=>⟨h1,h2⟩
 simp only [Act.put,TO,TQ,TU]
 repeat (refine Gd.aD (by first | exact trivial | exact ⟨_,rfl,rfl,rfl⟩) rfl rfl rfl rfl rfl (fun K hK=>?_);go_big_quiet_op;refine hK _ ?_;clear hK K)
 refine Gd.cM (fun m1 f hf=>?_)
 simp only [aW]
 simp only [Act.put,TO,TQ,TU]
 have LM:=UP (LW m1)
 clear hw1 LL LW KC KM KA KB hf
 generalize m1.1=wm at *
 generalize f 86=f86 at *
 generalize f 88=f88 at *
 clear f
 show wpList _ _ _ _ _ _
 go_wp2_with fail
 go_ret
 exact ⟨by simp,LM.out⟩
end Go.Proofs.YtkjplpmogfmhkaaGreatDoor
