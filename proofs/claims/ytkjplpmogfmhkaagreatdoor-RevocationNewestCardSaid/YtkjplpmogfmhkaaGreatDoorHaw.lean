/- Parts Zc Ja Jb Jc Jd of the proof. -/
import Derived.Test.YtkjplpmogfmhkaaGreatDoorHav
import Derived.Test.YtkjplpmogfmhkaaGreatDoorHau
namespace Go.Proofs.YtkjplpmogfmhkaaGreatDoor
open Go.RowKit
set_option linter.unusedVariables false
set_option maxRecDepth 100000
def aH (c:NC):List Value:=[.string (aK c.st),.int .i64 c.kind,.int .i64 c.num,.int .i64 c.iss,.int .i64 c.own,.int .i64 c.key,.int .i64 c.fr,.int .i64 c.un,.int .i64 c.to,.int .i64 c.e,.int .i64 c.s]
def aD (l:List NC):List Value:=l.flatMap aH
theorem tG (c:NC):(aH c).length=11:=rfl
theorem bJ (l:List NC):(aD l).length=l.length*11:=iZ _ 11 tG l
theorem eE (l:List NC) (c:NC):aD l++aH c=aD (l++[c]):=by simp [aD]
theorem jG (l m:List NC):aD l++aD m=aD (l++m):=by simp [aD]
theorem eF (c:NC):∀ u ∈ aH c,u.oneCell'=true:=by
 intro u hu
 simp only [aH,List.mem_cons,List.not_mem_nil,or_false] at hu
 rcases hu with rfl | rfl | rfl | rfl | rfl | rfl | rfl | rfl | rfl | rfl | rfl <;> rfl
theorem hC (l:List NC):∀ u ∈ aD l,u.oneCell'=true:=by
 intro u hu
 obtain ⟨c,_,hu⟩:=List.mem_flatMap.1 hu
 exact eF c u hu
theorem hF:kI Tryz.prog 51 56 11 96:=by
 have h:(Tryz.prog.info? 56).map (fun i=>(i.zero,i.size,i.bytes))=some (some (.agg #[.string ⟨#[]⟩,.int .i64 0,.int .i64 0,.int .i64 0,.int .i64 0,.int .i64 0,.int .i64 0,.int .i64 0,.int .i64 0,.int .i64 0,.int .i64 0]),11,96):=by kernel_rfl
 obtain ⟨i,h1,h2,h3,h4⟩:=info_parts h
 exact ⟨i,_,Tryz.underlying51,h1,h2,h3,h4,rfl⟩
abbrev RdN (w:World) (v:Value) (l:List NC):Prop:=RdK w 11 v (aD l)
theorem RdN.nil_ (w:World) (A:Option Addr):RdN w (.slice A 0 0) []:=RdK.nil_ w 11 A
theorem RdN.at_ {w:World}{v:Value}{l:List NC} (h:RdN w v l):∃ A n c,v=.slice A n c/\n=l.length/\n<=c/\c<=maxLen/\(0<n->∃ b o,A=some ⟨b,o,none⟩/\b<w.heap.size/\∀ (i:Nat) (p:NC),l[i]?=some p ->
 w.cell? ⟨b,o+i*11,none⟩=some (.string (aK p.st))/\w.cell? ⟨b,o+i*11+1,none⟩=some (.int .i64 p.kind)/\w.cell? ⟨b,o+i*11+2,none⟩=some (.int .i64 p.num)/\w.cell? ⟨b,o+i*11+3,none⟩=some (.int .i64 p.iss)/\w.cell? ⟨b,o+i*11+4,none⟩=some (.int .i64 p.own)/\w.cell? ⟨b,o+i*11+5,none⟩=some (.int .i64 p.key) /\
 w.cell? ⟨b,o+i*11+6,none⟩=some (.int .i64 p.fr)/\w.cell? ⟨b,o+i*11+7,none⟩=some (.int .i64 p.un)/\w.cell? ⟨b,o+i*11+8,none⟩=some (.int .i64 p.to)/\w.cell? ⟨b,o+i*11+9,none⟩=some (.int .i64 p.e)/\w.cell? ⟨b,o+i*11+10,none⟩=some (.int .i64 p.s)):=by
 obtain ⟨A,n,c,rfl,hn,hnc,hcm,hc⟩:=RdK.flat (f:=aH) (k:=11) (by omega) tG h
 refine ⟨A,n,c,rfl,hn,hnc,hcm,fun h0=>?_⟩
 obtain ⟨b,o,rfl,hb,hcell⟩:=hc h0
 refine ⟨b,o,rfl,hb,fun i p hp=>?_⟩
 obtain ⟨hi,rfl⟩:=List.getElem?_eq_some_iff.1 hp
 exact ⟨hcell i hi 0 _ rfl,hcell i hi 1 _ rfl,hcell i hi 2 _ rfl,hcell i hi 3 _ rfl,hcell i hi 4 _ rfl,hcell i hi 5 _ rfl,hcell i hi 6 _ rfl,hcell i hi 7 _ rfl,hcell i hi 8 _ rfl,hcell i hi 9 _ rfl,hcell i hi 10 _ rfl⟩
def smL (l:List NC):Prop:=∀ c ∈ l,smN c
theorem smL.app {l m:List NC} (h:smL l) (k:smL m):smL (l++m):=fun c hc=>(List.mem_append.1 hc).elim (h c) (k c)
structure FoZ (w wr:World) (a b:NC):Prop where
 a:cK wr w.heap.size a
 b:cK wr (w.heap.size+1) b
 ext:Ext w wr
theorem FoZ.tr {w wr wx:World}{a b:NC} (h:FoZ w wr a b) (e:Ext wr wx):FoZ w wx a b:=⟨h.a.ext e,h.b.ext e,h.ext.tr e⟩
theorem E5 (w:World) (a b:NC):∃ wz,wz=(w.alloc (.cells #[.string (aK a.st),.int .i64 a.kind,.int .i64 a.num,.int .i64 a.iss,.int .i64 a.own,.int .i64 a.key,.int .i64 a.fr,.int .i64 a.un,.int .i64 a.to,.int .i64 a.e,.int .i64 a.s] 56)).alloc (.cells #[.string (aK b.st),.int .i64 b.kind,.int .i64 b.num,.int .i64 b.iss,.int .i64 b.own,.int .i64 b.key,.int .i64 b.fr,.int .i64 b.un,.int .i64 b.to,.int .i64 b.e,.int .i64 b.s] 56)/\FoZ w wz a b:=by
 obtain ⟨w1,hw1,e1,T1⟩:=cT w a
 have s1:w1.heap.size=w.heap.size+1:=by rw [hw1];simp
 rw [<- hw1]
 clear hw1
 obtain ⟨w2,hw2,e2,T2⟩:=cT w1 b
 rw [s1] at T2
 exact ⟨w2,hw2,T1.ext e2,T2,e1.tr e2⟩
theorem gJ (s t:List UInt8):((aK s).toList == (aK t).toList)=decide (s=t):=by
 unfold aK
 rw [Bool.eq_iff_iff]
 simp
theorem eJ {day:Int}{a b:NC}{r:Bool} (hr:fG day a b=r) (h:¬ SI day a b):r=false:=by rw [<- hr];exact decide_eq_false h
theorem uK {day:Int}{a b:NC}{r:Bool} (hr:fG day a b=r) (h:SI day a b):r=true:=by rw [<- hr];exact decide_eq_true h
set_option maxHeartbeats 2000000 in
theorem mE (a b:NC) (day:Int) (w:World) (ha:smN a) (hb:smN b) (E:dS w 1) :
 Calls Tryz.prog 123 #[ncV a,ncV b,.int .i64 day] w (dR w (.bool (fG day a b))):=by
 have HA:=ZH (fun W=>jA a day W ha)
 have HB:=ZH (fun W=>jA b day W hb)
 have HF:=ZH (fun W (e:Ext w W)=>tE a.key b W hb (E.below e))
 obtain ⟨r,hr⟩:∃ r,fG day a b=r:=⟨_,rfl⟩
 rw [hr]
 have HR:=ZH hr
 have HQ:=ZH (gJ a.st b.st)
 clear hr ha hb
 obtain ⟨wz,hwz,zz⟩:=E5 w a b
 unfold ncV
 go_enter Tryz.func123,Tryz.ntmps123
 go_upto_region 1 with fail
 rw [<- hwz]
 clear hwz
 obtain ⟨p0,p1,p2,p3,p4,p5,p6,p7,p8,p9,p10⟩:=(zz.a).cells
 have pf0:=(zz.a).frozen 0
 have pf1:=(zz.a).frozen 1
 have pf2:=(zz.a).frozen 2
 have pf3:=(zz.a).frozen 3
 have pf4:=(zz.a).frozen 4
 have pf5:=(zz.a).frozen 5
 have pf6:=(zz.a).frozen 6
 have pf7:=(zz.a).frozen 7
 have pf8:=(zz.a).frozen 8
 have pf9:=(zz.a).frozen 9
 have pf10:=(zz.a).frozen 10
 have pl:=(zz.a).lt
 obtain ⟨q0,q1,q2,q3,q4,q5,q6,q7,q8,q9,q10⟩:=(zz.b).cells
 have qf0:=(zz.b).frozen 0
 have qf1:=(zz.b).frozen 1
 have qf2:=(zz.b).frozen 2
 have qf3:=(zz.b).frozen 3
 have qf4:=(zz.b).frozen 4
 have qf5:=(zz.b).frozen 5
 have qf6:=(zz.b).frozen 6
 have qf7:=(zz.b).frozen 7
 have qf8:=(zz.b).frozen 8
 have qf9:=(zz.b).frozen 9
 have qf10:=(zz.b).frozen 10
 have ql:=(zz.b).lt
 by_cases h1:a.st=b.st
 case neg =>
  have hs:((aK a.st).toList == (aK b.st).toList)=false:=by rw [HQ.out];exact decide_eq_false h1
  have HN:=ZH (eJ HR.out fun q=>h1 q.1)
  clear h1
  go_wp2_with fail
  go_ret
  exact ⟨by rw [HN.out];rfl,zz.ext⟩
 have hs:((aK a.st).toList == (aK b.st).toList)=true:=by rw [HQ.out];exact decide_eq_true h1
 have H1:=ZH h1
 clear h1
 by_cases h2:b.iss=a.own
 case neg =>
  have hb2:(b.iss == a.own)=false:=by simpa using h2
  have HN:=ZH (eJ HR.out fun q=>h2 q.2.1)
  clear h2
  go_wp2_with fail
  go_ret
  exact ⟨by rw [HN.out];rfl,zz.ext⟩
 have hb2:(b.iss == a.own)=true:=by simpa using h2
 have H2:=ZH h2
 clear h2
 by_cases h3:a.kind=1
 · have hb3:(a.kind == 1)=true:=by simpa using h3
   have H3:=ZH (show a.kind=1 \/ a.kind=2 from .inl h3)
   clear h3
   by_cases h4:b.kind≠1
   case neg =>
    have hb5:(b.kind != 1)=false:=by simpa using h4
    have HN:=ZH (eJ HR.out fun q=>h4 q.2.2.2.1)
    clear h4
    go_wp2_with fail
    go_ret
    exact ⟨by rw [HN.out];rfl,zz.ext⟩
   have hb5:(b.kind != 1)=true:=by simpa using h4
   have H4:=ZH h4
   clear h4
   go_wp2_with fail
   refine (HA.out _).mono ?_
   rintro e w2 ⟨rfl,b2⟩
   have Z2:=zz.tr b2
   clear p0 pf0 p1 pf1 p2 pf2 p3 pf3 p4 pf4 p5 pf5 p6 pf6 p7 pf7 p8 pf8 p9 pf9 p10 pf10 pl
   clear q0 qf0 q1 qf1 q2 qf2 q3 qf3 q4 qf4 q5 qf5 q6 qf6 q7 qf7 q8 qf8 q9 qf9 q10 qf10 ql
   clear zz b2
   by_cases h5:onN a day=0
   case neg =>
    have hb6:(onN a day == 0)=false:=by simpa using h5
    have HN:=ZH (eJ HR.out fun q=>h5 q.2.2.2.2.1)
    clear h5
    go_wp2_with fail
    go_ret
    exact ⟨by rw [HN.out];rfl,Z2.ext⟩
   have hb6:(onN a day == 0)=true:=by simpa using h5
   have H5:=ZH h5
   clear h5
   obtain ⟨p0,p1,p2,p3,p4,p5,p6,p7,p8,p9,p10⟩:=(Z2.a).cells
   have pf0:=(Z2.a).frozen 0
   have pf1:=(Z2.a).frozen 1
   have pf2:=(Z2.a).frozen 2
   have pf3:=(Z2.a).frozen 3
   have pf4:=(Z2.a).frozen 4
   have pf5:=(Z2.a).frozen 5
   have pf6:=(Z2.a).frozen 6
   have pf7:=(Z2.a).frozen 7
   have pf8:=(Z2.a).frozen 8
   have pf9:=(Z2.a).frozen 9
   have pf10:=(Z2.a).frozen 10
   have pl:=(Z2.a).lt
   obtain ⟨q0,q1,q2,q3,q4,q5,q6,q7,q8,q9,q10⟩:=(Z2.b).cells
   have qf0:=(Z2.b).frozen 0
   have qf1:=(Z2.b).frozen 1
   have qf2:=(Z2.b).frozen 2
   have qf3:=(Z2.b).frozen 3
   have qf4:=(Z2.b).frozen 4
   have qf5:=(Z2.b).frozen 5
   have qf6:=(Z2.b).frozen 6
   have qf7:=(Z2.b).frozen 7
   have qf8:=(Z2.b).frozen 8
   have qf9:=(Z2.b).frozen 9
   have qf10:=(Z2.b).frozen 10
   have ql:=(Z2.b).lt
   go_wp2_with fail
   refine (HB.out _).mono ?_
   rintro e w3 ⟨rfl,b3⟩
   have Z3:=Z2.tr b3
   clear p0 pf0 p1 pf1 p2 pf2 p3 pf3 p4 pf4 p5 pf5 p6 pf6 p7 pf7 p8 pf8 p9 pf9 p10 pf10 pl
   clear q0 qf0 q1 qf1 q2 qf2 q3 qf3 q4 qf4 q5 qf5 q6 qf6 q7 qf7 q8 qf8 q9 qf9 q10 qf10 ql
   clear Z2 b3
   by_cases h6:onN b day=0
   case neg =>
    have hb7:(onN b day == 0)=false:=by simpa using h6
    have HN:=ZH (eJ HR.out fun q=>h6 q.2.2.2.2.2.1)
    clear h6
    go_wp2_with fail
    go_ret
    exact ⟨by rw [HN.out];rfl,Z3.ext⟩
   have hb7:(onN b day == 0)=true:=by simpa using h6
   have H6:=ZH h6
   clear h6
   obtain ⟨p0,p1,p2,p3,p4,p5,p6,p7,p8,p9,p10⟩:=(Z3.a).cells
   have pf0:=(Z3.a).frozen 0
   have pf1:=(Z3.a).frozen 1
   have pf2:=(Z3.a).frozen 2
   have pf3:=(Z3.a).frozen 3
   have pf4:=(Z3.a).frozen 4
   have pf5:=(Z3.a).frozen 5
   have pf6:=(Z3.a).frozen 6
   have pf7:=(Z3.a).frozen 7
   have pf8:=(Z3.a).frozen 8
   have pf9:=(Z3.a).frozen 9
   have pf10:=(Z3.a).frozen 10
   have pl:=(Z3.a).lt
   obtain ⟨q0,q1,q2,q3,q4,q5,q6,q7,q8,q9,q10⟩:=(Z3.b).cells
   have qf0:=(Z3.b).frozen 0
   have qf1:=(Z3.b).frozen 1
   have qf2:=(Z3.b).frozen 2
   have qf3:=(Z3.b).frozen 3
   have qf4:=(Z3.b).frozen 4
   have qf5:=(Z3.b).frozen 5
   have qf6:=(Z3.b).frozen 6
   have qf7:=(Z3.b).frozen 7
   have qf8:=(Z3.b).frozen 8
   have qf9:=(Z3.b).frozen 9
   have qf10:=(Z3.b).frozen 10
   have ql:=(Z3.b).lt
   go_wp2_with fail
   refine (HF.out _ Z3.ext).mono ?_
   rintro e w4 ⟨rfl,b4⟩
   have Z4:=Z3.tr b4
   clear p0 pf0 p1 pf1 p2 pf2 p3 pf3 p4 pf4 p5 pf5 p6 pf6 p7 pf7 p8 pf8 p9 pf9 p10 pf10 pl
   clear q0 qf0 q1 qf1 q2 qf2 q3 qf3 q4 qf4 q5 qf5 q6 qf6 q7 qf7 q8 qf8 q9 qf9 q10 qf10 ql
   clear Z3 b4
   have HN:=ZH (show r=vfN a.key b from by
    cases hv:vfN a.key b with
    | true=>exact uK HR.out ⟨H1.out,H2.out,H3.out,H4.out,H5.out,H6.out,hv⟩
    | false=>exact eJ HR.out fun q=>by have:=q.2.2.2.2.2.2;rw [hv] at this;cases this)
   go_wp2_with fail
   go_ret
   exact ⟨by rw [HN.out];rfl,Z4.ext⟩
 have hb3:(a.kind == 1)=false:=by simpa using h3
 by_cases h8:a.kind=2
 case neg =>
  have hb4:(a.kind == 2)=false:=by simpa using h8
  have HN:=ZH (eJ HR.out fun q=>q.2.2.1.elim h3 h8)
  clear h3 h8
  go_wp2_with fail
  go_ret
  exact ⟨by rw [HN.out];rfl,zz.ext⟩
 have hb4:(a.kind == 2)=true:=by simpa using h8
 have H3:=ZH (show a.kind=1 \/ a.kind=2 from .inr h8)
 clear h3 h8
 by_cases h4:b.kind≠1
 case neg =>
  have hb5:(b.kind != 1)=false:=by simpa using h4
  have HN:=ZH (eJ HR.out fun q=>h4 q.2.2.2.1)
  clear h4
  go_wp2_with fail
  go_ret
  exact ⟨by rw [HN.out];rfl,zz.ext⟩
 have hb5:(b.kind != 1)=true:=by simpa using h4
 have H4:=ZH h4
 clear h4
 go_wp2_with fail
 refine (HA.out _).mono ?_
 rintro e w2 ⟨rfl,b2⟩
 have Z2:=zz.tr b2
 clear p0 pf0 p1 pf1 p2 pf2 p3 pf3 p4 pf4 p5 pf5 p6 pf6 p7 pf7 p8 pf8 p9 pf9 p10 pf10 pl
 clear q0 qf0 q1 qf1 q2 qf2 q3 qf3 q4 qf4 q5 qf5 q6 qf6 q7 qf7 q8 qf8 q9 qf9 q10 qf10 ql
 clear zz b2
 by_cases h5:onN a day=0
 case neg =>
  have hb6:(onN a day == 0)=false:=by simpa using h5
  have HN:=ZH (eJ HR.out fun q=>h5 q.2.2.2.2.1)
  clear h5
  go_wp2_with fail
  go_ret
  exact ⟨by rw [HN.out];rfl,Z2.ext⟩
 have hb6:(onN a day == 0)=true:=by simpa using h5
 have H5:=ZH h5
 clear h5
 obtain ⟨p0,p1,p2,p3,p4,p5,p6,p7,p8,p9,p10⟩:=(Z2.a).cells
 have pf0:=(Z2.a).frozen 0
 have pf1:=(Z2.a).frozen 1
 have pf2:=(Z2.a).frozen 2
 have pf3:=(Z2.a).frozen 3
 have pf4:=(Z2.a).frozen 4
 have pf5:=(Z2.a).frozen 5
 have pf6:=(Z2.a).frozen 6
 have pf7:=(Z2.a).frozen 7
 have pf8:=(Z2.a).frozen 8
 have pf9:=(Z2.a).frozen 9
 have pf10:=(Z2.a).frozen 10
 have pl:=(Z2.a).lt
 obtain ⟨q0,q1,q2,q3,q4,q5,q6,q7,q8,q9,q10⟩:=(Z2.b).cells
 have qf0:=(Z2.b).frozen 0
 have qf1:=(Z2.b).frozen 1
 have qf2:=(Z2.b).frozen 2
 have qf3:=(Z2.b).frozen 3
 have qf4:=(Z2.b).frozen 4
 have qf5:=(Z2.b).frozen 5
 have qf6:=(Z2.b).frozen 6
 have qf7:=(Z2.b).frozen 7
 have qf8:=(Z2.b).frozen 8
 have qf9:=(Z2.b).frozen 9
 have qf10:=(Z2.b).frozen 10
 have ql:=(Z2.b).lt
 go_wp2_with fail
 refine (HB.out _).mono ?_
 rintro e w3 ⟨rfl,b3⟩
 have Z3:=Z2.tr b3
 clear p0 pf0 p1 pf1 p2 pf2 p3 pf3 p4 pf4 p5 pf5 p6 pf6 p7 pf7 p8 pf8 p9 pf9 p10 pf10 pl
 clear q0 qf0 q1 qf1 q2 qf2 q3 qf3 q4 qf4 q5 qf5 q6 qf6 q7 qf7 q8 qf8 q9 qf9 q10 qf10 ql
 clear Z2 b3
 by_cases h6:onN b day=0
 case neg =>
  have hb7:(onN b day == 0)=false:=by simpa using h6
  have HN:=ZH (eJ HR.out fun q=>h6 q.2.2.2.2.2.1)
  clear h6
  go_wp2_with fail
  go_ret
  exact ⟨by rw [HN.out];rfl,Z3.ext⟩
 have hb7:(onN b day == 0)=true:=by simpa using h6
 have H6:=ZH h6
 clear h6
 obtain ⟨p0,p1,p2,p3,p4,p5,p6,p7,p8,p9,p10⟩:=(Z3.a).cells
 have pf0:=(Z3.a).frozen 0
 have pf1:=(Z3.a).frozen 1
 have pf2:=(Z3.a).frozen 2
 have pf3:=(Z3.a).frozen 3
 have pf4:=(Z3.a).frozen 4
 have pf5:=(Z3.a).frozen 5
 have pf6:=(Z3.a).frozen 6
 have pf7:=(Z3.a).frozen 7
 have pf8:=(Z3.a).frozen 8
 have pf9:=(Z3.a).frozen 9
 have pf10:=(Z3.a).frozen 10
 have pl:=(Z3.a).lt
 obtain ⟨q0,q1,q2,q3,q4,q5,q6,q7,q8,q9,q10⟩:=(Z3.b).cells
 have qf0:=(Z3.b).frozen 0
 have qf1:=(Z3.b).frozen 1
 have qf2:=(Z3.b).frozen 2
 have qf3:=(Z3.b).frozen 3
 have qf4:=(Z3.b).frozen 4
 have qf5:=(Z3.b).frozen 5
 have qf6:=(Z3.b).frozen 6
 have qf7:=(Z3.b).frozen 7
 have qf8:=(Z3.b).frozen 8
 have qf9:=(Z3.b).frozen 9
 have qf10:=(Z3.b).frozen 10
 have ql:=(Z3.b).lt
 go_wp2_with fail
 refine (HF.out _ Z3.ext).mono ?_
 rintro e w4 ⟨rfl,b4⟩
 have Z4:=Z3.tr b4
 clear p0 pf0 p1 pf1 p2 pf2 p3 pf3 p4 pf4 p5 pf5 p6 pf6 p7 pf7 p8 pf8 p9 pf9 p10 pf10 pl
 clear q0 qf0 q1 qf1 q2 qf2 q3 qf3 q4 qf4 q5 qf5 q6 qf6 q7 qf7 q8 qf8 q9 qf9 q10 qf10 ql
 clear Z3 b4
 have HN:=ZH (show r=vfN a.key b from by
  cases hv:vfN a.key b with
  | true=>exact uK HR.out ⟨H1.out,H2.out,H3.out,H4.out,H5.out,H6.out,hv⟩
  | false=>exact eJ HR.out fun q=>by have:=q.2.2.2.2.2.2;rw [hv] at this;cases this)
 go_wp2_with fail
 go_ret
 exact ⟨by rw [HN.out];rfl,Z4.ext⟩
set_option maxHeartbeats 2000000 in
theorem hH (a b:NC) (day:Int) (w:World) (ha:smN a) (hb:smN b) (E:dS w 0) :
 Calls Tryz.prog 125 #[ncV a,ncV b,.int .i64 day] w (dR w (.bool (fG day a b))):=by
 have HA:=ZH (fun W=>fN a day W ha)
 have HB:=ZH (fun W=>fN b day W hb)
 have HF:=ZH (fun W (e:Ext w W)=>mX a.key b W hb (E.below e))
 obtain ⟨r,hr⟩:∃ r,fG day a b=r:=⟨_,rfl⟩
 rw [hr]
 have HR:=ZH hr
 have HQ:=ZH (gJ a.st b.st)
 clear hr ha hb
 obtain ⟨wz,hwz,zz⟩:=E5 w a b
 unfold ncV
 go_enter Tryz.func125,Tryz.ntmps125
 go_upto_region 1 with fail
 rw [<- hwz]
 clear hwz
 obtain ⟨p0,p1,p2,p3,p4,p5,p6,p7,p8,p9,p10⟩:=(zz.a).cells
 have pf0:=(zz.a).frozen 0
 have pf1:=(zz.a).frozen 1
 have pf2:=(zz.a).frozen 2
 have pf3:=(zz.a).frozen 3
 have pf4:=(zz.a).frozen 4
 have pf5:=(zz.a).frozen 5
 have pf6:=(zz.a).frozen 6
 have pf7:=(zz.a).frozen 7
 have pf8:=(zz.a).frozen 8
 have pf9:=(zz.a).frozen 9
 have pf10:=(zz.a).frozen 10
 have pl:=(zz.a).lt
 obtain ⟨q0,q1,q2,q3,q4,q5,q6,q7,q8,q9,q10⟩:=(zz.b).cells
 have qf0:=(zz.b).frozen 0
 have qf1:=(zz.b).frozen 1
 have qf2:=(zz.b).frozen 2
 have qf3:=(zz.b).frozen 3
 have qf4:=(zz.b).frozen 4
 have qf5:=(zz.b).frozen 5
 have qf6:=(zz.b).frozen 6
 have qf7:=(zz.b).frozen 7
 have qf8:=(zz.b).frozen 8
 have qf9:=(zz.b).frozen 9
 have qf10:=(zz.b).frozen 10
 have ql:=(zz.b).lt
 by_cases h1:a.st=b.st
 case neg =>
  have hs:((aK a.st).toList == (aK b.st).toList)=false:=by rw [HQ.out];exact decide_eq_false h1
  have HN:=ZH (eJ HR.out fun q=>h1 q.1)
  clear h1
  go_wp2_with fail
  go_ret
  exact ⟨by rw [HN.out];rfl,zz.ext⟩
 have hs:((aK a.st).toList == (aK b.st).toList)=true:=by rw [HQ.out];exact decide_eq_true h1
 have H1:=ZH h1
 clear h1
 by_cases h2:b.iss=a.own
 case neg =>
  have hb2:(b.iss == a.own)=false:=by simpa using h2
  have HN:=ZH (eJ HR.out fun q=>h2 q.2.1)
  clear h2
  go_wp2_with fail
  go_ret
  exact ⟨by rw [HN.out];rfl,zz.ext⟩
 have hb2:(b.iss == a.own)=true:=by simpa using h2
 have H2:=ZH h2
 clear h2
 by_cases h3:a.kind=1
 · have hb3:(a.kind == 1)=true:=by simpa using h3
   have H3:=ZH (show a.kind=1 \/ a.kind=2 from .inl h3)
   clear h3
   by_cases h4:b.kind≠1
   case neg =>
    have hb5:(b.kind != 1)=false:=by simpa using h4
    have HN:=ZH (eJ HR.out fun q=>h4 q.2.2.2.1)
    clear h4
    go_wp2_with fail
    go_ret
    exact ⟨by rw [HN.out];rfl,zz.ext⟩
   have hb5:(b.kind != 1)=true:=by simpa using h4
   have H4:=ZH h4
   clear h4
   go_wp2_with fail
   refine (HA.out _).mono ?_
   rintro e w2 ⟨rfl,b2⟩
   have Z2:=zz.tr b2
   clear p0 pf0 p1 pf1 p2 pf2 p3 pf3 p4 pf4 p5 pf5 p6 pf6 p7 pf7 p8 pf8 p9 pf9 p10 pf10 pl
   clear q0 qf0 q1 qf1 q2 qf2 q3 qf3 q4 qf4 q5 qf5 q6 qf6 q7 qf7 q8 qf8 q9 qf9 q10 qf10 ql
   clear zz b2
   by_cases h5:onN a day=0
   case neg =>
    have hb6:(onN a day == 0)=false:=by simpa using h5
    have HN:=ZH (eJ HR.out fun q=>h5 q.2.2.2.2.1)
    clear h5
    go_wp2_with fail
    go_ret
    exact ⟨by rw [HN.out];rfl,Z2.ext⟩
   have hb6:(onN a day == 0)=true:=by simpa using h5
   have H5:=ZH h5
   clear h5
   obtain ⟨p0,p1,p2,p3,p4,p5,p6,p7,p8,p9,p10⟩:=(Z2.a).cells
   have pf0:=(Z2.a).frozen 0
   have pf1:=(Z2.a).frozen 1
   have pf2:=(Z2.a).frozen 2
   have pf3:=(Z2.a).frozen 3
   have pf4:=(Z2.a).frozen 4
   have pf5:=(Z2.a).frozen 5
   have pf6:=(Z2.a).frozen 6
   have pf7:=(Z2.a).frozen 7
   have pf8:=(Z2.a).frozen 8
   have pf9:=(Z2.a).frozen 9
   have pf10:=(Z2.a).frozen 10
   have pl:=(Z2.a).lt
   obtain ⟨q0,q1,q2,q3,q4,q5,q6,q7,q8,q9,q10⟩:=(Z2.b).cells
   have qf0:=(Z2.b).frozen 0
   have qf1:=(Z2.b).frozen 1
   have qf2:=(Z2.b).frozen 2
   have qf3:=(Z2.b).frozen 3
   have qf4:=(Z2.b).frozen 4
   have qf5:=(Z2.b).frozen 5
   have qf6:=(Z2.b).frozen 6
   have qf7:=(Z2.b).frozen 7
   have qf8:=(Z2.b).frozen 8
   have qf9:=(Z2.b).frozen 9
   have qf10:=(Z2.b).frozen 10
   have ql:=(Z2.b).lt
   go_wp2_with fail
   refine (HB.out _).mono ?_
   rintro e w3 ⟨rfl,b3⟩
   have Z3:=Z2.tr b3
   clear p0 pf0 p1 pf1 p2 pf2 p3 pf3 p4 pf4 p5 pf5 p6 pf6 p7 pf7 p8 pf8 p9 pf9 p10 pf10 pl
   clear q0 qf0 q1 qf1 q2 qf2 q3 qf3 q4 qf4 q5 qf5 q6 qf6 q7 qf7 q8 qf8 q9 qf9 q10 qf10 ql
   clear Z2 b3
   by_cases h6:onN b day=0
   case neg =>
    have hb7:(onN b day == 0)=false:=by simpa using h6
    have HN:=ZH (eJ HR.out fun q=>h6 q.2.2.2.2.2.1)
    clear h6
    go_wp2_with fail
    go_ret
    exact ⟨by rw [HN.out];rfl,Z3.ext⟩
   have hb7:(onN b day == 0)=true:=by simpa using h6
   have H6:=ZH h6
   clear h6
   obtain ⟨p0,p1,p2,p3,p4,p5,p6,p7,p8,p9,p10⟩:=(Z3.a).cells
   have pf0:=(Z3.a).frozen 0
   have pf1:=(Z3.a).frozen 1
   have pf2:=(Z3.a).frozen 2
   have pf3:=(Z3.a).frozen 3
   have pf4:=(Z3.a).frozen 4
   have pf5:=(Z3.a).frozen 5
   have pf6:=(Z3.a).frozen 6
   have pf7:=(Z3.a).frozen 7
   have pf8:=(Z3.a).frozen 8
   have pf9:=(Z3.a).frozen 9
   have pf10:=(Z3.a).frozen 10
   have pl:=(Z3.a).lt
   obtain ⟨q0,q1,q2,q3,q4,q5,q6,q7,q8,q9,q10⟩:=(Z3.b).cells
   have qf0:=(Z3.b).frozen 0
   have qf1:=(Z3.b).frozen 1
   have qf2:=(Z3.b).frozen 2
   have qf3:=(Z3.b).frozen 3
   have qf4:=(Z3.b).frozen 4
   have qf5:=(Z3.b).frozen 5
   have qf6:=(Z3.b).frozen 6
   have qf7:=(Z3.b).frozen 7
   have qf8:=(Z3.b).frozen 8
   have qf9:=(Z3.b).frozen 9
   have qf10:=(Z3.b).frozen 10
   have ql:=(Z3.b).lt
   go_wp2_with fail
   refine (HF.out _ Z3.ext).mono ?_
   rintro e w4 ⟨rfl,b4⟩
   have Z4:=Z3.tr b4
   clear p0 pf0 p1 pf1 p2 pf2 p3 pf3 p4 pf4 p5 pf5 p6 pf6 p7 pf7 p8 pf8 p9 pf9 p10 pf10 pl
   clear q0 qf0 q1 qf1 q2 qf2 q3 qf3 q4 qf4 q5 qf5 q6 qf6 q7 qf7 q8 qf8 q9 qf9 q10 qf10 ql
   clear Z3 b4
   have HN:=ZH (show r=vfN a.key b from by
    cases hv:vfN a.key b with
    | true=>exact uK HR.out ⟨H1.out,H2.out,H3.out,H4.out,H5.out,H6.out,hv⟩
    | false=>exact eJ HR.out fun q=>by have:=q.2.2.2.2.2.2;rw [hv] at this;cases this)
   go_wp2_with fail
   go_ret
   exact ⟨by rw [HN.out];rfl,Z4.ext⟩
 have hb3:(a.kind == 1)=false:=by simpa using h3
 by_cases h8:a.kind=2
 case neg =>
  have hb4:(a.kind == 2)=false:=by simpa using h8
  have HN:=ZH (eJ HR.out fun q=>q.2.2.1.elim h3 h8)
  clear h3 h8
  go_wp2_with fail
  go_ret
  exact ⟨by rw [HN.out];rfl,zz.ext⟩
 have hb4:(a.kind == 2)=true:=by simpa using h8
 have H3:=ZH (show a.kind=1 \/ a.kind=2 from .inr h8)
 clear h3 h8
 by_cases h4:b.kind≠1
 case neg =>
  have hb5:(b.kind != 1)=false:=by simpa using h4
  have HN:=ZH (eJ HR.out fun q=>h4 q.2.2.2.1)
  clear h4
  go_wp2_with fail
  go_ret
  exact ⟨by rw [HN.out];rfl,zz.ext⟩
 have hb5:(b.kind != 1)=true:=by simpa using h4
 have H4:=ZH h4
 clear h4
 go_wp2_with fail
 refine (HA.out _).mono ?_
 rintro e w2 ⟨rfl,b2⟩
 have Z2:=zz.tr b2
 clear p0 pf0 p1 pf1 p2 pf2 p3 pf3 p4 pf4 p5 pf5 p6 pf6 p7 pf7 p8 pf8 p9 pf9 p10 pf10 pl
 clear q0 qf0 q1 qf1 q2 qf2 q3 qf3 q4 qf4 q5 qf5 q6 qf6 q7 qf7 q8 qf8 q9 qf9 q10 qf10 ql
 clear zz b2
 by_cases h5:onN a day=0
 case neg =>
  have hb6:(onN a day == 0)=false:=by simpa using h5
  have HN:=ZH (eJ HR.out fun q=>h5 q.2.2.2.2.1)
  clear h5
  go_wp2_with fail
  go_ret
  exact ⟨by rw [HN.out];rfl,Z2.ext⟩
 have hb6:(onN a day == 0)=true:=by simpa using h5
 have H5:=ZH h5
 clear h5
 obtain ⟨p0,p1,p2,p3,p4,p5,p6,p7,p8,p9,p10⟩:=(Z2.a).cells
 have pf0:=(Z2.a).frozen 0
 have pf1:=(Z2.a).frozen 1
 have pf2:=(Z2.a).frozen 2
 have pf3:=(Z2.a).frozen 3
 have pf4:=(Z2.a).frozen 4
 have pf5:=(Z2.a).frozen 5
 have pf6:=(Z2.a).frozen 6
 have pf7:=(Z2.a).frozen 7
 have pf8:=(Z2.a).frozen 8
 have pf9:=(Z2.a).frozen 9
 have pf10:=(Z2.a).frozen 10
 have pl:=(Z2.a).lt
 obtain ⟨q0,q1,q2,q3,q4,q5,q6,q7,q8,q9,q10⟩:=(Z2.b).cells
 have qf0:=(Z2.b).frozen 0
 have qf1:=(Z2.b).frozen 1
 have qf2:=(Z2.b).frozen 2
 have qf3:=(Z2.b).frozen 3
 have qf4:=(Z2.b).frozen 4
 have qf5:=(Z2.b).frozen 5
 have qf6:=(Z2.b).frozen 6
 have qf7:=(Z2.b).frozen 7
 have qf8:=(Z2.b).frozen 8
 have qf9:=(Z2.b).frozen 9
 have qf10:=(Z2.b).frozen 10
 have ql:=(Z2.b).lt
 go_wp2_with fail
 refine (HB.out _).mono ?_
 rintro e w3 ⟨rfl,b3⟩
 have Z3:=Z2.tr b3
 clear p0 pf0 p1 pf1 p2 pf2 p3 pf3 p4 pf4 p5 pf5 p6 pf6 p7 pf7 p8 pf8 p9 pf9 p10 pf10 pl
 clear q0 qf0 q1 qf1 q2 qf2 q3 qf3 q4 qf4 q5 qf5 q6 qf6 q7 qf7 q8 qf8 q9 qf9 q10 qf10 ql
 clear Z2 b3
 by_cases h6:onN b day=0
 case neg =>
  have hb7:(onN b day == 0)=false:=by simpa using h6
  have HN:=ZH (eJ HR.out fun q=>h6 q.2.2.2.2.2.1)
  clear h6
  go_wp2_with fail
  go_ret
  exact ⟨by rw [HN.out];rfl,Z3.ext⟩
 have hb7:(onN b day == 0)=true:=by simpa using h6
 have H6:=ZH h6
 clear h6
 obtain ⟨p0,p1,p2,p3,p4,p5,p6,p7,p8,p9,p10⟩:=(Z3.a).cells
 have pf0:=(Z3.a).frozen 0
 have pf1:=(Z3.a).frozen 1
 have pf2:=(Z3.a).frozen 2
 have pf3:=(Z3.a).frozen 3
 have pf4:=(Z3.a).frozen 4
 have pf5:=(Z3.a).frozen 5
 have pf6:=(Z3.a).frozen 6
 have pf7:=(Z3.a).frozen 7
 have pf8:=(Z3.a).frozen 8
 have pf9:=(Z3.a).frozen 9
 have pf10:=(Z3.a).frozen 10
 have pl:=(Z3.a).lt
 obtain ⟨q0,q1,q2,q3,q4,q5,q6,q7,q8,q9,q10⟩:=(Z3.b).cells
 have qf0:=(Z3.b).frozen 0
 have qf1:=(Z3.b).frozen 1
 have qf2:=(Z3.b).frozen 2
 have qf3:=(Z3.b).frozen 3
 have qf4:=(Z3.b).frozen 4
 have qf5:=(Z3.b).frozen 5
 have qf6:=(Z3.b).frozen 6
 have qf7:=(Z3.b).frozen 7
 have qf8:=(Z3.b).frozen 8
 have qf9:=(Z3.b).frozen 9
 have qf10:=(Z3.b).frozen 10
 have ql:=(Z3.b).lt
 go_wp2_with fail
 refine (HF.out _ Z3.ext).mono ?_
 rintro e w4 ⟨rfl,b4⟩
 have Z4:=Z3.tr b4
 clear p0 pf0 p1 pf1 p2 pf2 p3 pf3 p4 pf4 p5 pf5 p6 pf6 p7 pf7 p8 pf8 p9 pf9 p10 pf10 pl
 clear q0 qf0 q1 qf1 q2 qf2 q3 qf3 q4 qf4 q5 qf5 q6 qf6 q7 qf7 q8 qf8 q9 qf9 q10 qf10 ql
 clear Z3 b4
 have HN:=ZH (show r=vfN a.key b from by
  cases hv:vfN a.key b with
  | true=>exact uK HR.out ⟨H1.out,H2.out,H3.out,H4.out,H5.out,H6.out,hv⟩
  | false=>exact eJ HR.out fun q=>by have:=q.2.2.2.2.2.2;rw [hv] at this;cases this)
 go_wp2_with fail
 go_ret
 exact ⟨by rw [HN.out];rfl,Z4.ext⟩
theorem VG (w:World) (p:Prop) [Decidable p] (q:Bool):(if p then (Result.ok (Value.bool q) w) else Result.ok (Value.bool false) w)=Result.ok (Value.bool (decide p && q)) w:=by
 by_cases h:p
 · simp [h]
 · simp [h]
theorem E7 (s t:List UInt8):((aK s).toList=(aK t).toList)=(s=t):=by
 unfold aK
 simp
theorem P8 (x y:NC):(decide (x.st=y.st) && (decide (x.kind=y.kind) && (decide (x.num=y.num) && (decide (x.iss=y.iss) && (decide (x.own=y.own) && (decide (x.key=y.key) && (decide (x.fr=y.fr) && (decide (x.un=y.un) && (decide (x.to=y.to) && (decide (x.e=y.e) && decide (x.s=y.s)))))))))))=decide (x=y):=by
 have h:(x=y) ↔ (x.st=y.st/\x.kind=y.kind/\x.num=y.num/\x.iss=y.iss/\x.own=y.own/\x.key=y.key/\x.fr=y.fr/\x.un=y.un/\x.to=y.to/\x.e=y.e/\x.s=y.s):=by
  constructor
  · rintro rfl;simp
  · intro h;exact NC.tup_inj ⟨h.1,by simp only [NC.nums,h.2.1,h.2.2.1,h.2.2.2.1,h.2.2.2.2.1,h.2.2.2.2.2.1,h.2.2.2.2.2.2.1,h.2.2.2.2.2.2.2.1,h.2.2.2.2.2.2.2.2.1,h.2.2.2.2.2.2.2.2.2.1,h.2.2.2.2.2.2.2.2.2.2]⟩
 rw [Bool.eq_iff_iff]
 simp only [Bool.and_eq_true,decide_eq_true_eq]
 exact h.symm
theorem sH (w:World) (x y:NC):(binOp .eql 56 (ncV x) (ncV y)).run Tryz.prog w=.ok (.bool (decide (x=y))) w:=by
 rw [<- P8]
 unfold ncV
 go_simp
 simp only [E7,VG,Bool.and_true]
theorem VH (w:World) (p:Prop) [Decidable p] (q:Bool):(if p then (Result.ok (Value.bool q) w) else Result.ok (Value.bool true) w)=Result.ok (Value.bool (!decide p || q)) w:=by
 by_cases h:p
 · simp [h]
 · simp [h]
theorem zF (w:World) (x y:NC):(binOp .neq 56 (ncV x) (ncV y)).run Tryz.prog w=.ok (.bool (!decide (x=y))) w:=by
 rw [<- P8]
 unfold ncV
 go_simp
 simp only [E7,VH,Bool.or_false]
def MN (l:List NC) (c:NC):Int:=if c ∈ l then (l.idxOf c:Int) else -1
theorem KP:∀ {l:List NC}{c:NC}{k:Nat},l[k]?=some c->(∀ j,j<k->l[j]?≠some c)->l.idxOf c=k
 | [],c,k,h,_=>by simp at h
 | x::l,c,0,h,_=>by
   have:x=c:=by simpa using h
   rw [this,List.idxOf_cons_self]
 | x::l,c,k+1,h,hn=>by
   have hx:x≠c:=fun e=>hn 0 (Nat.zero_lt_succ _) (by simp [e])
   rw [List.idxOf_cons,beq_false_of_ne hx,cond_false,KP (l:=l) (k:=k) (by simpa using h) (fun j hj e=>hn (j+1) (Nat.succ_lt_succ hj) (by simpa using e))]
theorem VI {l:List NC}{c:NC}{k:Nat} (h:l[k]?=some c) (hn:∀ j,j<k->l[j]?≠some c):MN l c=(k:Int):=by
 unfold MN
 rw [if_pos (YS h),KP h hn]
theorem GC {l:List NC}{c:NC} (hn:∀ j,j<l.length->l[j]?≠some c):c ∉ l:=fun hm=>by
 obtain ⟨j,hj,e⟩:=List.getElem_of_mem hm
 exact hn j hj (by rw [YL hj,e])
theorem wN {l:List NC}{c y:NC}{k:Nat} (hn:∀ j,j<k->l[j]?≠some c) (hy:l[k]?=some y) (hne:y≠c):∀ j,j<k+1->l[j]?≠some c:=fun j hj e=>by
 rcases Nat.lt_succ_iff_lt_or_eq.1 hj with h | rfl
 · exact hn j h e
 · rw [hy] at e
   injection e with e
   exact hne e
def gO (l:List NC) (st:List UInt8):Nat:=(l.filter fun c=>decide (c.st=st)).length
theorem fS {l:List NC}{y:NC}{k:Nat} (h:l[k]?=some y):l.take (k+1)=l.take k++[y]:=by
 rw [List.take_add_one,h]
 rfl
theorem SQ {l:List NC}{st:List UInt8}{y:NC}{k:Nat} (h:l[k]?=some y) (e:y.st=st):gO (l.take (k+1)) st=gO (l.take k) st+1:=by
 unfold gO
 rw [fS h,List.filter_append,List.filter_cons_of_pos (by simpa using e)]
 simp
theorem VJ {l:List NC}{st:List UInt8}{y:NC}{k:Nat} (h:l[k]?=some y) (e:y.st≠st):gO (l.take (k+1)) st=gO (l.take k) st:=by
 unfold gO
 rw [fS h,List.filter_append,List.filter_cons_of_neg (by simpa using e)]
 simp
set_option maxHeartbeats 2000000 in
theorem GD {v:Value}{l:List NC} (c:NC) (w:World) (hv:RdN w v l) :
 Calls Tryz.prog 197 #[v,ncV c] w (dR w (.int .i64 (MN l c))):=by
 obtain ⟨A,n,cp,rfl,hn,hnc,hcm,hel⟩:=hv.at_
 subst hn
 have HEL:=ZH hel
 unfold maxLen at hcm
 clear hel
 obtain ⟨wz,hwz,ez,TZ⟩:=cT w c
 have HEQ:=ZH (fun W y=>sH W c y)
 have HZ:=ZH TZ
 clear TZ
 unfold ncV
 go_enter Tryz.func197,Tryz.ntmps197
 go_wp2_with fail
 rw [<- hwz]
 clear hwz
 go_loopw [8] (fun i wr=>∃ k:Nat,k<=l.length/\i=.int .i64 (k:Int)/\Hid (∀ j,j<k->l[j]?≠some c)/\Ext wz wr) (fun i _=>l.length - (intOf i).toNat)
 case atStart=>exact ⟨0,YK _,rfl,fun j hj=>absurd hj (Nat.not_lt_zero _),Below.refl _ _⟩
 case round =>
  obtain ⟨k,hk,rfl,HN,X⟩:=hrel
  by_cases hlt:k<l.length
  case neg =>
   obtain rfl:k=l.length:=by omega
   have HR:=ZH (GC HN.out)
   have XX:=ZH (ez.tr X)
   clear X
   go_wp2_with fail
   go_ret
   exact ⟨by unfold MN;rw [if_neg HR.out];rfl,XX.out⟩
  case pos =>
  obtain ⟨y,hy⟩:∃ y,l[k]?=some y:=⟨_,YL hlt⟩
  obtain ⟨b,o,rfl,hbl,hc⟩:=HEL.out (by omega)
  have hcy:=hc k y hy
  have HY:=ZH hy
  have eqq:=fun W=>HEQ.out W y
  unfold ncV at eqq
  clear hy hc
  have wi1:IntKind.i64.wrap ((k:Int))=(k:Int):=IntWalk.i64_in _ (by omega)
  have zi1:(0:Int)<=(k:Int):=by omega
  have li1:(k:Int)<(l.length:Int):=by omega
  have ti1:((k:Int)).toNat=k:=by omega
  have q0:=((ez.tr X).cell (p:=⟨b,o+k*11,none⟩) hbl).trans hcy.1
  have q1:=((ez.tr X).cell (p:=⟨b,o+k*11+1,none⟩) hbl).trans hcy.2.1
  have q2:=((ez.tr X).cell (p:=⟨b,o+k*11+2,none⟩) hbl).trans hcy.2.2.1
  have q3:=((ez.tr X).cell (p:=⟨b,o+k*11+3,none⟩) hbl).trans hcy.2.2.2.1
  have q4:=((ez.tr X).cell (p:=⟨b,o+k*11+4,none⟩) hbl).trans hcy.2.2.2.2.1
  have q5:=((ez.tr X).cell (p:=⟨b,o+k*11+5,none⟩) hbl).trans hcy.2.2.2.2.2.1
  have q6:=((ez.tr X).cell (p:=⟨b,o+k*11+6,none⟩) hbl).trans hcy.2.2.2.2.2.2.1
  have q7:=((ez.tr X).cell (p:=⟨b,o+k*11+7,none⟩) hbl).trans hcy.2.2.2.2.2.2.2.1
  have q8:=((ez.tr X).cell (p:=⟨b,o+k*11+8,none⟩) hbl).trans hcy.2.2.2.2.2.2.2.2.1
  have q9:=((ez.tr X).cell (p:=⟨b,o+k*11+9,none⟩) hbl).trans hcy.2.2.2.2.2.2.2.2.2.1
  have q10:=((ez.tr X).cell (p:=⟨b,o+k*11+10,none⟩) hbl).trans hcy.2.2.2.2.2.2.2.2.2.2
  clear hcy
  obtain ⟨p0,p1,p2,p3,p4,p5,p6,p7,p8,p9,p10⟩:=(HZ.out.ext X).cells
  have pl:=(HZ.out.ext X).lt
  obtain ⟨d,hd⟩:∃ d,decide (c=y)=d:=⟨_,rfl⟩
  rw [hd] at eqq
  have HD:=ZH hd
  clear hd
  go_upto_region 4 with fail
  (go_quiet (fail);have x9:=Ext.drewN_ wr nq;generalize wr.drewN nq=wb at *)
  have X9:=X.tr x9
  clear x9 X q0 q1 q2 q3 q4 q5 q6 q7 q8 q9 q10 p0 p1 p2 p3 p4 p5 p6 p7 p8 p9 p10 pl eqq
  cases d
  · have HNN:=ZH (wN HN.out HY.out (by have:=HD.out;intro e;rw [e] at this;simp at this))
    go_wp2_with fail
    go_roundw
    case rel=>exact ⟨k+1,by omega,by go_num,HNN,X9⟩
    case measure=>simp [intOf];omega
  · have HC:Hid (l[k]?=some c):=ZH (by have:=HD.out;have e:=of_decide_eq_true this;rw [HY.out,e])
    have XX:=ZH (ez.tr X9)
    clear X9
    go_wp2_with fail
    go_ret
    exact ⟨by rw [VI HC.out HN.out];rfl,XX.out⟩
set_option maxHeartbeats 2000000 in
theorem wO {v:Value}{l:List NC} (c:NC) (w:World) (hv:RdN w v l) :
 Calls Tryz.prog 45 #[v,ncV c] w (dR w (.bool (decide (c ∈ l)))):=by
 obtain ⟨A,n,cp,rfl,hn,hnc,hcm,hel⟩:=hv.at_
 subst hn
 have HEL:=ZH hel
 unfold maxLen at hcm
 clear hel
 obtain ⟨wz,hwz,ez,TZ⟩:=cT w c
 have HEQ:=ZH (fun W y=>sH W y c)
 have HZ:=ZH TZ
 clear TZ
 unfold ncV
 go_enter Tryz.func45,Tryz.ntmps45
 go_wp2_with fail
 rw [<- hwz]
 clear hwz
 go_loopw [5] (fun i wr=>∃ k:Nat,k<=l.length/\i=.int .i64 (k:Int)/\Hid (∀ j,j<k->l[j]?≠some c)/\Ext wz wr) (fun i _=>l.length - (intOf i).toNat)
 case atStart=>exact ⟨0,YK _,rfl,fun j hj=>absurd hj (Nat.not_lt_zero _),Below.refl _ _⟩
 case round =>
  obtain ⟨k,hk,rfl,HN,X⟩:=hrel
  by_cases hlt:k<l.length
  case neg =>
   obtain rfl:k=l.length:=by omega
   have HR:=ZH (GC HN.out)
   have XX:=ZH (ez.tr X)
   clear X
   go_wp2_with fail
   go_ret
   exact ⟨by rw [decide_eq_false HR.out];rfl,XX.out⟩
  case pos =>
  obtain ⟨y,hy⟩:∃ y,l[k]?=some y:=⟨_,YL hlt⟩
  obtain ⟨b,o,rfl,hbl,hc⟩:=HEL.out (by omega)
  have hcy:=hc k y hy
  have HY:=ZH hy
  have eqq:=fun W=>HEQ.out W y
  unfold ncV at eqq
  clear hy hc
  have wi2:IntKind.i64.wrap ((k:Int))=(k:Int):=IntWalk.i64_in _ (by omega)
  have zi2:(0:Int)<=(k:Int):=by omega
  have li2:(k:Int)<(l.length:Int):=by omega
  have ti2:((k:Int)).toNat=k:=by omega
  have q0:=((ez.tr X).cell (p:=⟨b,o+k*11,none⟩) hbl).trans hcy.1
  have q1:=((ez.tr X).cell (p:=⟨b,o+k*11+1,none⟩) hbl).trans hcy.2.1
  have q2:=((ez.tr X).cell (p:=⟨b,o+k*11+2,none⟩) hbl).trans hcy.2.2.1
  have q3:=((ez.tr X).cell (p:=⟨b,o+k*11+3,none⟩) hbl).trans hcy.2.2.2.1
  have q4:=((ez.tr X).cell (p:=⟨b,o+k*11+4,none⟩) hbl).trans hcy.2.2.2.2.1
  have q5:=((ez.tr X).cell (p:=⟨b,o+k*11+5,none⟩) hbl).trans hcy.2.2.2.2.2.1
  have q6:=((ez.tr X).cell (p:=⟨b,o+k*11+6,none⟩) hbl).trans hcy.2.2.2.2.2.2.1
  have q7:=((ez.tr X).cell (p:=⟨b,o+k*11+7,none⟩) hbl).trans hcy.2.2.2.2.2.2.2.1
  have q8:=((ez.tr X).cell (p:=⟨b,o+k*11+8,none⟩) hbl).trans hcy.2.2.2.2.2.2.2.2.1
  have q9:=((ez.tr X).cell (p:=⟨b,o+k*11+9,none⟩) hbl).trans hcy.2.2.2.2.2.2.2.2.2.1
  have q10:=((ez.tr X).cell (p:=⟨b,o+k*11+10,none⟩) hbl).trans hcy.2.2.2.2.2.2.2.2.2.2
  clear hcy
  obtain ⟨p0,p1,p2,p3,p4,p5,p6,p7,p8,p9,p10⟩:=(HZ.out.ext X).cells
  have pl:=(HZ.out.ext X).lt
  obtain ⟨d,hd⟩:∃ d,decide (y=c)=d:=⟨_,rfl⟩
  rw [hd] at eqq
  have HD:=ZH hd
  clear hd
  go_upto_region 4 with fail
  (go_quiet (fail);have x9:=Ext.drewN_ wr nq;generalize wr.drewN nq=wb at *)
  have X9:=X.tr x9
  clear x9 X q0 q1 q2 q3 q4 q5 q6 q7 q8 q9 q10 p0 p1 p2 p3 p4 p5 p6 p7 p8 p9 p10 pl eqq
  cases d
  · have HNN:=ZH (wN HN.out HY.out (by have:=HD.out;simpa using this))
    go_wp2_with fail
    go_roundw
    case rel=>exact ⟨k+1,by omega,by go_num,HNN,X9⟩
    case measure=>simp [intOf];omega
  · have HC:Hid (l[k]?=some c):=ZH (by have:=HD.out;have e:=of_decide_eq_true this;rw [HY.out,e])
    have XX:=ZH (ez.tr X9)
    clear X9
    go_wp2_with fail
    go_ret
    exact ⟨by rw [decide_eq_true (YS HC.out)];rfl,XX.out⟩
set_option maxHeartbeats 1000000 in
theorem xV {v:Value}{l:List NC} (c:NC) (w:World) (hv:RdN w v l) :
 Calls Tryz.prog 121 #[v,ncV c] w (dR w (.bool (decide (c ∈ l)))):=by
 obtain ⟨wz,hwz,ez,TZ⟩:=cT w c
 have HX:=ZH (GD c wz (hv.ext ez))
 clear hv
 unfold ncV
 go_enter Tryz.func121,Tryz.ntmps121
 go_upto_region 1 with fail
 rw [<- hwz]
 clear hwz
 obtain ⟨p0,p1,p2,p3,p4,p5,p6,p7,p8,p9,p10⟩:=(TZ).cells
 have pf0:=(TZ).frozen 0
 have pf1:=(TZ).frozen 1
 have pf2:=(TZ).frozen 2
 have pf3:=(TZ).frozen 3
 have pf4:=(TZ).frozen 4
 have pf5:=(TZ).frozen 5
 have pf6:=(TZ).frozen 6
 have pf7:=(TZ).frozen 7
 have pf8:=(TZ).frozen 8
 have pf9:=(TZ).frozen 9
 have pf10:=(TZ).frozen 10
 have pl:=(TZ).lt
 go_wp2_with fail
 refine HX.out.mono ?_
 rintro e w2 ⟨rfl,b2⟩
 have XX:=ZH (ez.tr b2)
 clear p0 pf0 p1 pf1 p2 pf2 p3 pf3 p4 pf4 p5 pf5 p6 pf6 p7 pf7 p8 pf8 p9 pf9 p10 pf10 pl
 clear TZ ez b2 HX
 by_cases h:c ∈ l
 · have e1:MN l c=(l.idxOf c:Int):=if_pos h
   rw [e1]
   have HD:=ZH (decide_eq_true h)
   have hg:(0:Int)<=(l.idxOf c:Int):=Int.natCast_nonneg _
   clear e1 h
   generalize (l.idxOf c:Int)=z at *
   go_wp2_with fail
   go_ret
   exact ⟨by rw [HD.out];rfl,XX.out⟩
 · have e1:MN l c=-1:=if_neg h
   rw [e1]
   have HD:=ZH (decide_eq_false h)
   clear e1 h
   go_wp2_with fail
   go_ret
   exact ⟨by rw [HD.out];rfl,XX.out⟩
set_option maxHeartbeats 2000000 in
theorem wP {v:Value}{l:List NC} (st:List UInt8) (w:World) (hv:RdN w v l) :
 Calls Tryz.prog 124 #[v,.string (aK st)] w (dR w (.int .i64 (gO l st:Int))):=by
 obtain ⟨A,n,cp,rfl,hn,hnc,hcm,hel⟩:=hv.at_
 subst hn
 have HEL:=ZH hel
 unfold maxLen at hcm
 clear hel
 have HQ:=ZH (fun s=>gJ s st)
 go_enter Tryz.func124,Tryz.ntmps124
 go_wp2_with fail
 go_loopw [5,6] (fun s i wr=>∃ k q:Nat,k<=l.length/\i=.int .i64 (k:Int)/\s=.int .i64 (q:Int)/\q<=k/\Hid (q=gO (l.take k) st)/\Ext w wr) (fun _ i _=>l.length - (intOf i).toNat)
 case atStart=>exact ⟨0,0,YK _,rfl,rfl,YF _,rfl,Below.refl _ _⟩
 case round =>
  obtain ⟨k,q,hk,rfl,rfl,hqk,HN,X⟩:=hrel
  by_cases hlt:k<l.length
  case neg =>
   obtain rfl:k=l.length:=by omega
   have HR:=ZH (show q=gO l st by have:=HN.out;rwa [List.take_length] at this)
   have XX:=ZH X
   clear X
   go_wp2_with fail
   go_ret
   exact ⟨by rw [HR.out];rfl,XX.out⟩
  case pos =>
  obtain ⟨y,hy⟩:∃ y,l[k]?=some y:=⟨_,YL hlt⟩
  obtain ⟨b,o,rfl,hbl,hc⟩:=HEL.out (by omega)
  have hcy:=hc k y hy
  have HY:=ZH hy
  clear hy hc
  have wi4:IntKind.i64.wrap ((k:Int))=(k:Int):=IntWalk.i64_in _ (by omega)
  have zi4:(0:Int)<=(k:Int):=by omega
  have li4:(k:Int)<(l.length:Int):=by omega
  have ti4:((k:Int)).toNat=k:=by omega
  have wj:IntKind.i64.wrap ((q:Int)+1)=(q:Int)+1:=IntWalk.i64_in _ (by omega)
  have wk:IntKind.i64.wrap ((k:Int)+1)=(k:Int)+1:=IntWalk.i64_in _ (by omega)
  have q0:=(X.cell (p:=⟨b,o+k*11,none⟩) hbl).trans hcy.1
  have q1:=(X.cell (p:=⟨b,o+k*11+1,none⟩) hbl).trans hcy.2.1
  have q2:=(X.cell (p:=⟨b,o+k*11+2,none⟩) hbl).trans hcy.2.2.1
  have q3:=(X.cell (p:=⟨b,o+k*11+3,none⟩) hbl).trans hcy.2.2.2.1
  have q4:=(X.cell (p:=⟨b,o+k*11+4,none⟩) hbl).trans hcy.2.2.2.2.1
  have q5:=(X.cell (p:=⟨b,o+k*11+5,none⟩) hbl).trans hcy.2.2.2.2.2.1
  have q6:=(X.cell (p:=⟨b,o+k*11+6,none⟩) hbl).trans hcy.2.2.2.2.2.2.1
  have q7:=(X.cell (p:=⟨b,o+k*11+7,none⟩) hbl).trans hcy.2.2.2.2.2.2.2.1
  have q8:=(X.cell (p:=⟨b,o+k*11+8,none⟩) hbl).trans hcy.2.2.2.2.2.2.2.2.1
  have q9:=(X.cell (p:=⟨b,o+k*11+9,none⟩) hbl).trans hcy.2.2.2.2.2.2.2.2.2.1
  have q10:=(X.cell (p:=⟨b,o+k*11+10,none⟩) hbl).trans hcy.2.2.2.2.2.2.2.2.2.2
  clear hcy
  have X9:=X
  clear X
  by_cases hs:y.st=st
  · have hb:((aK y.st).toList == (aK st).toList)=true:=by rw [HQ.out];exact decide_eq_true hs
    have HNN:=ZH (show q+1=gO (l.take (k+1)) st by rw [SQ HY.out hs,<- HN.out])
    clear hs
    go_wp2_with fail
    go_roundw
    case rel=>exact ⟨k+1,q+1,by omega,by go_num,by go_num,by omega,HNN,X9⟩
    case measure=>simp [intOf];omega
  · have hb:((aK y.st).toList == (aK st).toList)=false:=by rw [HQ.out];exact decide_eq_false hs
    have HNN:=ZH (show q=gO (l.take (k+1)) st by rw [VJ HY.out hs,<- HN.out])
    clear hs
    go_wp2_with fail
    go_roundw
    case rel=>exact ⟨k+1,q,by omega,by go_num,rfl,by omega,HNN,X9⟩
    case measure=>simp [intOf];omega
def aQ (R:List Int):List Value:=R.map (Value.int .i64)
theorem lJ (R:List Int):(aQ R).length=R.length:=List.length_map _
theorem tH:56≠3:=by decide
theorem UO:56≠155:=by decide
theorem UP:3≠155:=by decide
structure kF (w:World) (B S:Nat) (day:Int) (v1 v2:Value) (L:List NC) (R:List Int):Prop where
 row:w.heap[S]?=some (.cells #[.int .i64 day,v1,v2] 155 (0,0))
 own1:aJ w B 56 11 v1 (aD L)
 own2:aJ w B 3 1 v2 (aQ R)
 len:R.length=L.length
theorem kF.lt {w:World}{B S:Nat}{day:Int}{v1 v2:Value}{L:List NC}{R:List Int} (h:kF w B S day v1 v2 L R):S<w.heap.size:=aA h.row
theorem kF.ext {w w':World}{B S:Nat}{day:Int}{v1 v2:Value}{L:List NC}{R:List Int} (h:kF w B S day v1 v2 L R) (e:Ext w w'):kF w' B S day v1 v2 L R:=⟨(e.block S h.lt).trans h.row,h.own1.ext e,h.own2.ext e,h.len⟩
theorem kF.cells {w:World}{B S:Nat}{day:Int}{v1 v2:Value}{L:List NC}{R:List Int} (h:kF w B S day v1 v2 L R):w.cell? ⟨S,0,none⟩=some (.int .i64 day)/\w.cell? ⟨S,1,none⟩=some v1/\w.cell? ⟨S,2,none⟩=some v2 :=
 ⟨cell_of_row w S 0 _ _ _ h.row,cell_of_row w S 1 _ _ _ h.row,cell_of_row w S 2 _ _ _ h.row⟩
theorem kF.frozen {w:World}{B S:Nat}{day:Int}{v1 v2:Value}{L:List NC}{R:List Int} (h:kF w B S day v1 v2 L R) (i:Nat):w.frozen? ⟨S,i,none⟩=false:=by
 have:=h.row
 simp [World.frozen?,this]
theorem kF.forms {w:World}{B S:Nat}{day:Int}{v1 v2:Value}{L:List NC}{R:List Int} (h:kF w B S day v1 v2 L R):∃ A1 c1 A2 c2,v1=.slice A1 L.length c1/\v2=.slice A2 L.length c2/\L.length<=c1/\L.length<=c2/\c1<=maxLen/\c2<=maxLen:=by
 obtain ⟨A1,n1,c1,rfl,hn1,h1⟩:=h.own1
 obtain ⟨A2,n2,c2,rfl,hn2,h2⟩:=h.own2
 rw [bJ] at hn1
 rw [lJ,h.len] at hn2
 have e1:n1=L.length:=by omega
 have e2:n2=L.length:=by omega
 subst e1
 refine ⟨A1,c1,A2,c2,rfl,by rw [e2],?_,?_,?_,?_⟩
 · rcases h1 with h | ⟨_,_,_,_,_,h,_⟩ <;> omega
 · rcases h2 with h | ⟨_,_,_,_,_,h,_⟩ <;> omega
 · rcases h1 with h | ⟨_,_,_,_,_,_,h,_⟩
   · unfold maxLen;omega
   · exact h
 · rcases h2 with h | ⟨_,_,_,_,_,_,h,_⟩
   · unfold maxLen;omega
   · exact h
theorem kF.put {w:World}{B S:Nat}{day:Int}{v1 v2 u1 u2:Value}{L L':List NC}{R R':List Int} (h:kF w B S day v1 v2 L R) (h1:aJ w B 56 11 u1 (aD L')) (h2:aJ w B 3 1 u2 (aQ R')) (hl:R'.length=L'.length) :
 kF ((w.setCell ⟨S,1,none⟩ u1).setCell ⟨S,2,none⟩ u2) B S day u1 u2 L' R':=by
 have r1:=aF h.row 1 u1
 have r2:=aF r1 2 u2
 simp only [YG,YI,YH] at r1 r2
 have k1:=h1.row_blk h.row UO
 have k2:=h2.row_blk h.row UP
 exact ⟨r2,(h1.grown (Gb.set S 1 w u1) (.inr k1)).grown (Gb.set S 2 _ u2) (.inr k1),(h2.grown (Gb.set S 1 w u1) (.inr k2)).grown (Gb.set S 2 _ u2) (.inr k2),hl⟩
structure kA (B:Nat) (v1 v2:Value) (n:Nat) (x1 y1 x2 y2:List Value) (w w':World):Prop where
 os:w'.os=w.os
 tape:w'.tape=w.tape
 output:w'.output=w.output
 size:w.heap.size<=w'.heap.size
 keep:∀ k,k<w.heap.size->aO v1≠some k->aO v2≠some k->w'.heap[k]?=w.heap[k]?
 p1:aJ w B 56 11 v1 x1->aJ w' B 56 11 v1 x1
 p2:aJ w B 3 1 v2 x2->aJ w' B 3 1 v2 x2
 p3:∀ A c,aJ w B 56 11 (.slice A (n+1) c) y1->aJ w' B 56 11 (.slice A (n+1) c) y1
 p4:∀ A c,aJ w B 3 1 (.slice A (n+1) c) y2->aJ w' B 3 1 (.slice A (n+1) c) y2
def seR (B:Nat) (v1 v2:Value) (n:Nat) (x1 y1 x2 y2:List Value):Gr.Rl where
 rel:=kA B v1 v2 n x1 y1 x2 y2
 refl:=fun w=>⟨rfl,rfl,rfl,YF _,fun _ _ _ _=>rfl,id,id,fun _ _ h=>h,fun _ _ h=>h⟩
 tr:=fun h k=>⟨k.os.trans h.os,k.tape.trans h.tape,k.output.trans h.output,YO h.size k.size,fun i hi a b=>(k.keep i (YX hi h.size) a b).trans (h.keep i hi a b),fun q=>k.p1 (h.p1 q),fun q=>k.p2 (h.p2 q),fun A c q=>k.p3 A c (h.p3 A c q),fun A c q=>k.p4 A c (h.p4 A c q)⟩
 ext:=fun e=>⟨e.os,e.tape,e.output,e.size,fun k hk _ _=>e.block k hk,fun h=>h.ext e,fun h=>h.ext e,fun _ _ h=>h.ext e,fun _ _ h=>h.ext e⟩
section
variable {B:Nat}{v1 v2:Value}{n:Nat}{x1 y1 x2 y2:List Value}{w w':World}
theorem kA.below (h:kA B v1 v2 n x1 y1 x2 y2 w w') (hB:B<=w.heap.size) (k1:∀ r,aO v1=some r->B<=r) (k2:∀ r,aO v2=some r->B<=r):Below B w w' :=
 ⟨h.os,h.tape,h.output,h.size,fun k hk=>h.keep k (YX hk hB) (fun q=>by have:=k1 k q;omega) (fun q=>by have:=k2 k q;omega)⟩
theorem kA.blk (h:kA B v1 v2 n x1 y1 x2 y2 w w') (o1:aJ w B 56 11 v1 x1) (o2:aJ w B 3 1 v2 x2) {g T:Nat}{cs:Array Value}{fr:Nat × Nat} (hg:w.heap[g]?=some (.cells cs T fr)) (h1:56≠T) (h2:3≠T):w'.heap[g]?=some (.cells cs T fr) :=
 (h.keep g (aA hg) (o1.row_blk hg h1) (o2.row_blk hg h2)).trans hg
theorem kA.app1 (o1:aJ w B 56 11 v1 x1) (o2:aJ w B 3 1 v2 x2) (g:w.grownBy w' (aO v1)) (q1:aJ w' B 56 11 v1 x1) (q3:∀ A c,aJ w B 56 11 (.slice A (n+1) c) y1->aJ w' B 56 11 (.slice A (n+1) c) y1):kA B v1 v2 n x1 y1 x2 y2 w w' :=
 ⟨g.os,g.tape,g.output,g.size,fun k hk a _=>g.block k hk (fun q=>a q.symm),fun _=>q1,fun h=>h.grown g (o1.row_ne h tH),q3,fun A c h=>h.grown g (o1.row_ne h tH)⟩
theorem kA.app2 (o1:aJ w B 56 11 v1 x1) (o2:aJ w B 3 1 v2 x2) (g:w.grownBy w' (aO v2)) (q2:aJ w' B 3 1 v2 x2) (q4:∀ A c,aJ w B 3 1 (.slice A (n+1) c) y2->aJ w' B 3 1 (.slice A (n+1) c) y2):kA B v1 v2 n x1 y1 x2 y2 w w' :=
 ⟨g.os,g.tape,g.output,g.size,fun k hk _ a=>g.block k hk (fun q=>a q.symm),fun h=>h.grown g (o2.row_ne h (Ne.symm tH)),fun _=>q2,fun A c h=>h.grown g (o2.row_ne h (Ne.symm tH)),q4⟩
end
def GE (b0:Nat) (cs:Array Value) (T:Nat):aE:=fun v w=>∃ g,v=.slice (some ⟨g,0,none⟩) 1 1/\b0<=g/\w.heap[g]?=some (.cells cs T (0,0))
theorem tJ {B:Nat}{v1 v2:Value}{n:Nat}{x1 y1 x2 y2:List Value}{b0:Nat} (k1:∀ r,aO v1=some r->r<b0) (k2:∀ r,aO v2=some r->r<b0) (cs:Array Value) (T:Nat):(seR B v1 v2 n x1 y1 x2 y2).stable (GE b0 cs T):=fun v w w' r ⟨g,h1,h2,h3⟩ =>
 ⟨g,h1,h2,(kA.keep r g (aA h3) (fun q=>by have:=k1 g q;omega) (fun q=>by have:=k2 g q;omega)).trans h3⟩
theorem GE.rd {b0 k:Nat}{cs:Array Value}{T:Nat}{v:Value}{w:World} (h:GE b0 cs T v w) (hk:1*k=cs.size):RdK w k v cs.toList:=by
 obtain ⟨g,rfl,_,hg⟩:=h
 refine ⟨_,1,1,rfl,by simpa using hk,YF _,by unfold maxLen;omega,fun _=>⟨g,0,rfl,fun j u hu=>?_⟩⟩
 rw [YR,cell_of_row w g j cs T (0,0) hg]
 simpa using hu
def GO1 (B n:Nat) (y1:List Value):aE:=fun v w=>∃ A c,v=.slice A (n+1) c/\aJ w B 56 11 (.slice A (n+1) c) y1
def GO2 (B n:Nat) (y2:List Value):aE:=fun v w=>∃ A c,v=.slice A (n+1) c/\aJ w B 3 1 (.slice A (n+1) c) y2
theorem GG (B:Nat) (v1 v2:Value) (n:Nat) (x1 y1 x2 y2:List Value):(seR B v1 v2 n x1 y1 x2 y2).stable (GO1 B n y1):=fun v w w' r ⟨A,c,h1,h2⟩=>⟨A,c,h1,kA.p3 r A c h2⟩
theorem GH (B:Nat) (v1 v2:Value) (n:Nat) (x1 y1 x2 y2:List Value):(seR B v1 v2 n x1 y1 x2 y2).stable (GO2 B n y2):=fun v w w' r ⟨A,c,h1,h2⟩=>⟨A,c,h1,kA.p4 r A c h2⟩
theorem PA (W:World) (c:NC):(Instr.buildSlice 51 1 #[(0,ncV c)]).run Tryz.prog W=.ok (.slice (some ⟨W.heap.size,0,none⟩) 1 1) (W.alloc (.cells (aH c).toArray 56)):=by
 unfold ncV aH
 go_simp
theorem PB (W:World) (x:Int):(Instr.buildSlice 41 1 #[(0,.int .i64 x)]).run Tryz.prog W=.ok (.slice (some ⟨W.heap.size,0,none⟩) 1 1) (W.alloc (.cells #[.int .i64 x] 3)):=by
 go_simp
theorem PC:kI Tryz.prog 41 3 1 8:=by
 have h:(Tryz.prog.info? 3).map (fun i=>(i.zero,i.size,i.bytes))=some (some (.int .i64 0),1,8):=by kernel_rfl
 obtain ⟨i,h1,h2,h3,h4⟩:=info_parts h
 exact ⟨i,_,Tryz.underlying41,h1,h2,h3,h4,rfl⟩
def xW (L:List NC) (c:NC):List NC:=if c ∈ L then L else L++[c]
def xX (L:List NC) (R:List Int) (c:NC) (rd:Int):List Int:=if c ∈ L then R else R++[rd]
theorem WZ {L:List NC}{R:List Int} (h:R.length=L.length) (c:NC) (rd:Int):(xX L R c rd).length=(xW L c).length:=by
 unfold xX xW
 split
 · exact h
 · simp [h]
def YA (w:World) (B S:Nat) (day:Int) (L:List NC) (R:List Int) (c:NC) (rd:Int) (e:Ending) (w':World):Prop :=
 Below B w w'/\e=.returned (.bool (decide (c ∉ L)))/\∃ v1 v2,kF w' B S day v1 v2 (xW L c) (xX L R c rd)
theorem SS (L:List NC) (c:NC):aD L++aH c=aD (L++[c]):=eE L c
theorem PD (R:List Int) (x:Int):aQ R++[.int .i64 x]=aQ (R++[x]):=by simp [aQ]
set_option maxHeartbeats 4000000 in
theorem SU {B S:Nat}{day:Int}{v1 v2:Value}{L:List NC}{R:List Int} (c:NC) (rd:Int) (w:World) (hS:kF w B S day v1 v2 L R) (hB:B<=w.heap.size) (hBS:B<=S) (hl:L.length<=1000000) :
 Calls Tryz.prog 196 #[.pointer (some ⟨S,0,none⟩),ncV c,.int .i64 rd] w (YA w B S day L R c rd):=by
 obtain ⟨A1,c1,A2,c2,rfl,rfl,hc1,hc2,hm1,hm2⟩:=hS.forms
 have hv:RdN w (.slice A1 L.length c1) L:=hS.own1.rd
 obtain ⟨A',n',c',e9,hn,hnc,hcm,hel⟩:=hv.at_
 injection e9 with e1 e2 e3
 subst e1 e2 e3
 clear hn
 have HEL:=ZH hel
 unfold maxLen at hcm hm1 hm2
 clear hel hv hnc hcm
 obtain ⟨wz,hwz,ez,TZ⟩:=cT w c
 have HEQ:=ZH (fun W y=>sH W y c)
 have HS:=ZH hS
 have HZ:=ZH TZ
 have HB:=ZH (show B<=w.heap.size/\B<=S from ⟨hB,hBS⟩)
 obtain ⟨s0,s1,s2⟩:=(hS.ext ez).cells
 have sl:=(hS.ext ez).lt
 unfold ncV
 clear TZ hS hB hBS
 go_enter Tryz.func196,Tryz.ntmps196
 go_upto_region 1 with fail
 rw [<- hwz]
 clear hwz
 go_wp2_with fail
 clear s0 s1 s2 sl
 go_loopw [14] (fun i wr=>∃ k:Nat,k<=L.length/\i=.int .i64 (k:Int)/\Hid (∀ j,j<k->L[j]?≠some c)/\Ext wz wr) (fun i _=>L.length - (intOf i).toNat)
 case atStart=>exact ⟨0,YK _,rfl,fun j hj=>absurd hj (Nat.not_lt_zero _),Below.refl _ _⟩
 case round =>
  obtain ⟨k,hk,rfl,HN,X⟩:=hrel
  by_cases hlt:k<L.length
  case neg =>
   obtain rfl:k=L.length:=by omega
   have HR:=ZH (GC HN.out)
   have S7:=HS.out.ext (ez.tr X)
   have Z7:=HZ.out.ext X
   have XB:=ZH ((ez.tr X).mono HB.out.1)
   have hBr:B<=wr.heap.size:=YO HB.out.1 (ez.tr X).size
   have k1:=qF HS.out.own1
   have k2:=qF HS.out.own2
   clear X hk hlt
   go_upto_region 7 with fail
   refine wp_region_any (by kernel_rfl) ?_
   have xd:Ext wr wr.drew:=(Below.refl _ _).drew
   change wpAny _ _ _ _ (21+1) _ _ wr.drew
   have S7:=S7.ext xd
   have Z7:=Z7.ext xd
   have XB:=ZH (XB.out.trans (xd.mono hBr))
   have hBr:B<=wr.drew.heap.size:=hBr
   clear xd
   generalize wr.drew=wr at *
   refine DS (i:=1) 23 (v:=.pointer (some ⟨S,0,none⟩)) rfl rfl (by kernel_rfl) (by kernel_rfl) (by kernel_rfl) (fun _ _ _ h=>h) (Or.inl ⟨by rfl,fun w=>by go_simp⟩) ?_
   refine WY (ops2:=([{ dst:=some 22,op:=Op.move (Operand.tmp 0),type:=151,pos:= "",after:=#[],guard:=none }, { dst:=some 24,op:=Op.move (Operand.tmp 0),type:=151,pos:= "",after:=#[],guard:=none }, { dst:=some 25,op:=Op.nilCheck (Operand.tmp 24),type:=0,pos:= "",after:=#[{ on:=1,ground:=Ground.data }],guard:=none }, { dst:=some 26,op:=Op.fieldAddr 155 (Operand.tmp 25) 1,type:=0,pos:= "",after:=#[{ on:=2,ground:=Ground.data }],guard:=none }, { dst:=some 27,op:=Op.load 51 (Operand.tmp 26),type:=51,pos:= "",after:=#[{ on:=3,ground:=Ground.data }],guard:=none }, { dst:=some 28,op:=Op.load 56 (Operand.tmp 4),type:=56,pos:= "",after:=#[],guard:=none }, { dst:=some 29,op:=Op.buildSlice 51 1 #[(0,Operand.tmp 28)],type:=51,pos:= "",after:=#[{ on:=5,ground:=Ground.data }],guard:=none }, { dst:=some 30,op:=Op.call { callee:=Callee.builtin Builtin.append,args:=#[Operand.tmp 27,Operand.tmp 29],argTypes:=#[51,51] },type:=51,pos:= "",after:=#[{ on:=4,ground:=Ground.data },{ on:=6,ground:=Ground.data }],guard:=none }, { dst:=some 31,op:=Op.move (Operand.tmp 0),type:=151,pos:= "",after:=#[],guard:=none }, { dst:=some 32,op:=Op.nilCheck (Operand.tmp 31),type:=0,pos:= "",after:=#[{ on:=8,ground:=Ground.data }],guard:=none }, { dst:=some 33,op:=Op.fieldAddr 155 (Operand.tmp 32) 2,type:=0,pos:= "",after:=#[{ on:=9,ground:=Ground.data }],guard:=none }, { dst:=some 34,op:=Op.load 41 (Operand.tmp 33),type:=41,pos:= "",after:=#[{ on:=10,ground:=Ground.data }],guard:=none }, { dst:=some 35,op:=Op.move (Operand.tmp 2),type:=3,pos:= "",after:=#[],guard:=none }, { dst:=some 36,op:=Op.buildSlice 41 1 #[(0,Operand.tmp 35)],type:=41,pos:= "",after:=#[{ on:=12,ground:=Ground.data }],guard:=none }, { dst:=some 37,op:=Op.call { callee:=Callee.builtin Builtin.append,args:=#[Operand.tmp 34,Operand.tmp 36],argTypes:=#[41,41] },type:=41,pos:= "",after:=#[{ on:=11,ground:=Ground.data },{ on:=13,ground:=Ground.data },{ on:=7,ground:=Ground.data }],guard:=none }, { dst:=some 38,op:=Op.nilCheck (Operand.tmp 22),type:=0,pos:= "",after:=#[{ on:=0,ground:=Ground.data },{ on:=1,ground:=Ground.data },{ on:=2,ground:=Ground.data },{ on:=3,ground:=Ground.data },{ on:=4,ground:=Ground.data },{ on:=5,ground:=Ground.data },{ on:=6,ground:=Ground.data },{ on:=7,ground:=Ground.data },{ on:=11,ground:=Ground.data },{ on:=14,ground:=Ground.data }],guard:=none }, { dst:=some 39,op:=Op.fieldAddr 155 (Operand.tmp 38) 1,type:=0,pos:= "",after:=#[{ on:=15,ground:=Ground.data },{ on:=0,ground:=Ground.data },{ on:=1,ground:=Ground.data },{ on:=2,ground:=Ground.data },{ on:=3,ground:=Ground.data },{ on:=4,ground:=Ground.data },{ on:=5,ground:=Ground.data },{ on:=6,ground:=Ground.data },{ on:=7,ground:=Ground.data },{ on:=11,ground:=Ground.data },{ on:=14,ground:=Ground.data }],guard:=none }, { dst:=none,op:=Op.store 51 (Operand.tmp 39) (Operand.tmp 30),type:=0,pos:= "",after:=#[{ on:=16,ground:=Ground.data },{ on:=7,ground:=Ground.data },{ on:=14,ground:=Ground.data },{ on:=0,ground:=Ground.data },{ on:=1,ground:=Ground.data },{ on:=2,ground:=Ground.data },{ on:=3,ground:=Ground.data },{ on:=4,ground:=Ground.data },{ on:=5,ground:=Ground.data },{ on:=6,ground:=Ground.data },{ on:=11,ground:=Ground.data }],guard:=none }, { dst:=some 40,op:=Op.nilCheck (Operand.tmp 23),type:=0,pos:= "",after:=#[{ on:=0,ground:=Ground.data },{ on:=1,ground:=Ground.data },{ on:=2,ground:=Ground.data },{ on:=3,ground:=Ground.data },{ on:=4,ground:=Ground.data },{ on:=5,ground:=Ground.data },{ on:=6,ground:=Ground.data },{ on:=7,ground:=Ground.data },{ on:=8,ground:=Ground.data },{ on:=9,ground:=Ground.data },{ on:=10,ground:=Ground.data },{ on:=11,ground:=Ground.data },{ on:=12,ground:=Ground.data },{ on:=13,ground:=Ground.data },{ on:=14,ground:=Ground.data },{ on:=15,ground:=Ground.data },{ on:=16,ground:=Ground.data },{ on:=17,ground:=Ground.data }],guard:=none }, { dst:=some 41,op:=Op.fieldAddr 155 (Operand.tmp 40) 2,type:=0,pos:= "",after:=#[{ on:=18,ground:=Ground.data },{ on:=0,ground:=Ground.data },{ on:=1,ground:=Ground.data },{ on:=2,ground:=Ground.data },{ on:=3,ground:=Ground.data },{ on:=4,ground:=Ground.data },{ on:=5,ground:=Ground.data },{ on:=6,ground:=Ground.data },{ on:=7,ground:=Ground.data },{ on:=8,ground:=Ground.data },{ on:=9,ground:=Ground.data },{ on:=10,ground:=Ground.data },{ on:=11,ground:=Ground.data },{ on:=12,ground:=Ground.data },{ on:=13,ground:=Ground.data },{ on:=14,ground:=Ground.data },{ on:=15,ground:=Ground.data },{ on:=16,ground:=Ground.data },{ on:=17,ground:=Ground.data }],guard:=none }, { dst:=none,op:=Op.store 41 (Operand.tmp 41) (Operand.tmp 37),type:=0,pos:= "",after:=#[{ on:=19,ground:=Ground.data },{ on:=14,ground:=Ground.data },{ on:=17,ground:=Ground.data },{ on:=0,ground:=Ground.data },{ on:=1,ground:=Ground.data },{ on:=2,ground:=Ground.data },{ on:=3,ground:=Ground.data },{ on:=4,ground:=Ground.data },{ on:=5,ground:=Ground.data },{ on:=6,ground:=Ground.data },{ on:=7,ground:=Ground.data },{ on:=8,ground:=Ground.data },{ on:=9,ground:=Ground.data },{ on:=10,ground:=Ground.data },{ on:=11,ground:=Ground.data },{ on:=12,ground:=Ground.data },{ on:=13,ground:=Ground.data },{ on:=15,ground:=Ground.data },{ on:=16,ground:=Ground.data }],guard:=none }]:List Oper).toArray) (l1:=(Array.replicate 22 false).setIfInBounds 1 true) (s:=[0,2,3,4,5,6,7,8,9,10,11,12,13,14,15,16,17,18,19,20,21]) (S6 (by kernel_rfl)) (SB (by kernel_rfl)) 21 _ (Array.replicate 21 false) _ _ rfl rfl (fun _ _ h=>h) (of_decide_eq_true (by kernel_rfl)) ?_
   simp only [Act.put,YG,YI,YH]
   refine Gr.uG (r:=seR B (.slice A1 L.length c1) (.slice A2 L.length c2) L.length (aD L) (aD L++aH c) (aQ R) (aQ R++[Value.int .i64 rd])) (l:=[{ dst:=some 22,op:=Op.move (Operand.tmp 0),type:=151,pos:= "",after:=#[],guard:=none }, { dst:=some 24,op:=Op.move (Operand.tmp 0),type:=151,pos:= "",after:=#[],guard:=none }, { dst:=some 25,op:=Op.nilCheck (Operand.tmp 24),type:=0,pos:= "",after:=#[{ on:=1,ground:=Ground.data }],guard:=none }, { dst:=some 26,op:=Op.fieldAddr 155 (Operand.tmp 25) 1,type:=0,pos:= "",after:=#[{ on:=2,ground:=Ground.data }],guard:=none }, { dst:=some 27,op:=Op.load 51 (Operand.tmp 26),type:=51,pos:= "",after:=#[{ on:=3,ground:=Ground.data }],guard:=none }, { dst:=some 28,op:=Op.load 56 (Operand.tmp 4),type:=56,pos:= "",after:=#[],guard:=none }, { dst:=some 29,op:=Op.buildSlice 51 1 #[(0,Operand.tmp 28)],type:=51,pos:= "",after:=#[{ on:=5,ground:=Ground.data }],guard:=none }, { dst:=some 30,op:=Op.call { callee:=Callee.builtin Builtin.append,args:=#[Operand.tmp 27,Operand.tmp 29],argTypes:=#[51,51] },type:=51,pos:= "",after:=#[{ on:=4,ground:=Ground.data },{ on:=6,ground:=Ground.data }],guard:=none }, { dst:=some 31,op:=Op.move (Operand.tmp 0),type:=151,pos:= "",after:=#[],guard:=none }, { dst:=some 32,op:=Op.nilCheck (Operand.tmp 31),type:=0,pos:= "",after:=#[{ on:=8,ground:=Ground.data }],guard:=none }, { dst:=some 33,op:=Op.fieldAddr 155 (Operand.tmp 32) 2,type:=0,pos:= "",after:=#[{ on:=9,ground:=Ground.data }],guard:=none }, { dst:=some 34,op:=Op.load 41 (Operand.tmp 33),type:=41,pos:= "",after:=#[{ on:=10,ground:=Ground.data }],guard:=none }, { dst:=some 35,op:=Op.move (Operand.tmp 2),type:=3,pos:= "",after:=#[],guard:=none }, { dst:=some 36,op:=Op.buildSlice 41 1 #[(0,Operand.tmp 35)],type:=41,pos:= "",after:=#[{ on:=12,ground:=Ground.data }],guard:=none }, { dst:=some 37,op:=Op.call { callee:=Callee.builtin Builtin.append,args:=#[Operand.tmp 34,Operand.tmp 36],argTypes:=#[41,41] },type:=41,pos:= "",after:=#[{ on:=11,ground:=Ground.data },{ on:=13,ground:=Ground.data },{ on:=7,ground:=Ground.data }],guard:=none }, { dst:=some 38,op:=Op.nilCheck (Operand.tmp 22),type:=0,pos:= "",after:=#[{ on:=0,ground:=Ground.data },{ on:=1,ground:=Ground.data },{ on:=2,ground:=Ground.data },{ on:=3,ground:=Ground.data },{ on:=4,ground:=Ground.data },{ on:=5,ground:=Ground.data },{ on:=6,ground:=Ground.data },{ on:=7,ground:=Ground.data },{ on:=11,ground:=Ground.data },{ on:=14,ground:=Ground.data }],guard:=none }, { dst:=some 39,op:=Op.fieldAddr 155 (Operand.tmp 38) 1,type:=0,pos:= "",after:=#[{ on:=15,ground:=Ground.data },{ on:=0,ground:=Ground.data },{ on:=1,ground:=Ground.data },{ on:=2,ground:=Ground.data },{ on:=3,ground:=Ground.data },{ on:=4,ground:=Ground.data },{ on:=5,ground:=Ground.data },{ on:=6,ground:=Ground.data },{ on:=7,ground:=Ground.data },{ on:=11,ground:=Ground.data },{ on:=14,ground:=Ground.data }],guard:=none }, { dst:=none,op:=Op.store 51 (Operand.tmp 39) (Operand.tmp 30),type:=0,pos:= "",after:=#[{ on:=16,ground:=Ground.data },{ on:=7,ground:=Ground.data },{ on:=14,ground:=Ground.data },{ on:=0,ground:=Ground.data },{ on:=1,ground:=Ground.data },{ on:=2,ground:=Ground.data },{ on:=3,ground:=Ground.data },{ on:=4,ground:=Ground.data },{ on:=5,ground:=Ground.data },{ on:=6,ground:=Ground.data },{ on:=11,ground:=Ground.data }],guard:=none }, { dst:=some 40,op:=Op.nilCheck (Operand.tmp 23),type:=0,pos:= "",after:=#[{ on:=0,ground:=Ground.data },{ on:=1,ground:=Ground.data },{ on:=2,ground:=Ground.data },{ on:=3,ground:=Ground.data },{ on:=4,ground:=Ground.data },{ on:=5,ground:=Ground.data },{ on:=6,ground:=Ground.data },{ on:=7,ground:=Ground.data },{ on:=8,ground:=Ground.data },{ on:=9,ground:=Ground.data },{ on:=10,ground:=Ground.data },{ on:=11,ground:=Ground.data },{ on:=12,ground:=Ground.data },{ on:=13,ground:=Ground.data },{ on:=14,ground:=Ground.data },{ on:=15,ground:=Ground.data },{ on:=16,ground:=Ground.data },{ on:=17,ground:=Ground.data }],guard:=none }, { dst:=some 41,op:=Op.fieldAddr 155 (Operand.tmp 40) 2,type:=0,pos:= "",after:=#[{ on:=18,ground:=Ground.data },{ on:=0,ground:=Ground.data },{ on:=1,ground:=Ground.data },{ on:=2,ground:=Ground.data },{ on:=3,ground:=Ground.data },{ on:=4,ground:=Ground.data },{ on:=5,ground:=Ground.data },{ on:=6,ground:=Ground.data },{ on:=7,ground:=Ground.data },{ on:=8,ground:=Ground.data },{ on:=9,ground:=Ground.data },{ on:=10,ground:=Ground.data },{ on:=11,ground:=Ground.data },{ on:=12,ground:=Ground.data },{ on:=13,ground:=Ground.data },{ on:=14,ground:=Ground.data },{ on:=15,ground:=Ground.data },{ on:=16,ground:=Ground.data },{ on:=17,ground:=Ground.data }],guard:=none }, { dst:=none,op:=Op.store 41 (Operand.tmp 41) (Operand.tmp 37),type:=0,pos:= "",after:=#[{ on:=19,ground:=Ground.data },{ on:=14,ground:=Ground.data },{ on:=17,ground:=Ground.data },{ on:=0,ground:=Ground.data },{ on:=1,ground:=Ground.data },{ on:=2,ground:=Ground.data },{ on:=3,ground:=Ground.data },{ on:=4,ground:=Ground.data },{ on:=5,ground:=Ground.data },{ on:=6,ground:=Ground.data },{ on:=7,ground:=Ground.data },{ on:=8,ground:=Ground.data },{ on:=9,ground:=Ground.data },{ on:=10,ground:=Ground.data },{ on:=11,ground:=Ground.data },{ on:=12,ground:=Ground.data },{ on:=13,ground:=Ground.data },{ on:=15,ground:=Ground.data },{ on:=16,ground:=Ground.data }],guard:=none }]) 15 (by kernel_rfl) ?_
   simp only [YT,YQ,YU,YV]
   have LL:∀ m:(seR B (.slice A1 L.length c1) (.slice A2 L.length c2) L.length (aD L) (aD L++aH c) (aQ R) (aQ R++[Value.int .i64 rd])).Lt wr,kA B (.slice A1 L.length c1) (.slice A2 L.length c2) L.length (aD L) (aD L++aH c) (aQ R) (aQ R++[Value.int .i64 rd]) wr m.1:=fun m=>m.2
   have TB:∀ m:(seR B (.slice A1 L.length c1) (.slice A2 L.length c2) L.length (aD L) (aD L++aH c) (aQ R) (aQ R++[Value.int .i64 rd])).Lt wr,cK m.1 w.heap.size c:=fun m=>((LL m).keep _ Z7.lt (fun q=>by have:=k1 _ q;omega) (fun q=>by have:=k2 _ q;omega)).trans Z7
   have TS:=fun m:(seR B (.slice A1 L.length c1) (.slice A2 L.length c2) L.length (aD L) (aD L++aH c) (aQ R) (aQ R++[Value.int .i64 rd])).Lt wr=>(LL m).blk S7.own1 S7.own2 S7.row UO UP
   have O1:=fun m:(seR B (.slice A1 L.length c1) (.slice A2 L.length c2) L.length (aD L) (aD L++aH c) (aQ R) (aQ R++[Value.int .i64 rd])).Lt wr=>(LL m).p1 S7.own1
   have O2:=fun m:(seR B (.slice A1 L.length c1) (.slice A2 L.length c2) L.length (aD L) (aD L++aH c) (aQ R) (aQ R++[Value.int .i64 rd])).Lt wr=>(LL m).p2 S7.own2
   have MS:∀ m:(seR B (.slice A1 L.length c1) (.slice A2 L.length c2) L.length (aD L) (aD L++aH c) (aQ R) (aQ R++[Value.int .i64 rd])).Lt wr,w.heap.size<=m.1.heap.size:=fun m=>YO (Nat.le_of_lt Z7.lt) (LL m).size
   have MB:∀ m:(seR B (.slice A1 L.length c1) (.slice A2 L.length c2) L.length (aD L) (aD L++aH c) (aQ R) (aQ R++[Value.int .i64 rd])).Lt wr,B<=m.1.heap.size:=fun m=>YO hBr (LL m).size
   have s1:=fun m:(seR B (.slice A1 L.length c1) (.slice A2 L.length c2) L.length (aD L) (aD L++aH c) (aQ R) (aQ R++[Value.int .i64 rd])).Lt wr=>(cell_of_row m.1 S 1 _ _ _ (TS m):m.1.cell? ⟨S,1,none⟩=some (.slice A1 L.length c1))
   have s2:=fun m:(seR B (.slice A1 L.length c1) (.slice A2 L.length c2) L.length (aD L) (aD L++aH c) (aQ R) (aQ R++[Value.int .i64 rd])).Lt wr=>(cell_of_row m.1 S 2 _ _ _ (TS m):m.1.cell? ⟨S,2,none⟩=some (.slice A2 L.length c2))
   have p0:=fun m:(seR B (.slice A1 L.length c1) (.slice A2 L.length c2) L.length (aD L) (aD L++aH c) (aQ R) (aQ R++[Value.int .i64 rd])).Lt wr=>(TB m).cells.1
   have p1:=fun m:(seR B (.slice A1 L.length c1) (.slice A2 L.length c2) L.length (aD L) (aD L++aH c) (aQ R) (aQ R++[Value.int .i64 rd])).Lt wr=>(TB m).cells.2.1
   have p2:=fun m:(seR B (.slice A1 L.length c1) (.slice A2 L.length c2) L.length (aD L) (aD L++aH c) (aQ R) (aQ R++[Value.int .i64 rd])).Lt wr=>(TB m).cells.2.2.1
   have p3:=fun m:(seR B (.slice A1 L.length c1) (.slice A2 L.length c2) L.length (aD L) (aD L++aH c) (aQ R) (aQ R++[Value.int .i64 rd])).Lt wr=>(TB m).cells.2.2.2.1
   have p4:=fun m:(seR B (.slice A1 L.length c1) (.slice A2 L.length c2) L.length (aD L) (aD L++aH c) (aQ R) (aQ R++[Value.int .i64 rd])).Lt wr=>(TB m).cells.2.2.2.2.1
   have p5:=fun m:(seR B (.slice A1 L.length c1) (.slice A2 L.length c2) L.length (aD L) (aD L++aH c) (aQ R) (aQ R++[Value.int .i64 rd])).Lt wr=>(TB m).cells.2.2.2.2.2.1
   have p6:=fun m:(seR B (.slice A1 L.length c1) (.slice A2 L.length c2) L.length (aD L) (aD L++aH c) (aQ R) (aQ R++[Value.int .i64 rd])).Lt wr=>(TB m).cells.2.2.2.2.2.2.1
   have p7:=fun m:(seR B (.slice A1 L.length c1) (.slice A2 L.length c2) L.length (aD L) (aD L++aH c) (aQ R) (aQ R++[Value.int .i64 rd])).Lt wr=>(TB m).cells.2.2.2.2.2.2.2.1
   have p8:=fun m:(seR B (.slice A1 L.length c1) (.slice A2 L.length c2) L.length (aD L) (aD L++aH c) (aQ R) (aQ R++[Value.int .i64 rd])).Lt wr=>(TB m).cells.2.2.2.2.2.2.2.2.1
   have p9:=fun m:(seR B (.slice A1 L.length c1) (.slice A2 L.length c2) L.length (aD L) (aD L++aH c) (aQ R) (aQ R++[Value.int .i64 rd])).Lt wr=>(TB m).cells.2.2.2.2.2.2.2.2.2.1
   have p10:=fun m:(seR B (.slice A1 L.length c1) (.slice A2 L.length c2) L.length (aD L) (aD L++aH c) (aQ R) (aQ R++[Value.int .i64 rd])).Lt wr=>(TB m).cells.2.2.2.2.2.2.2.2.2.2
   repeat (first | (refine Gr.dZ (Gd.gR rfl) _ rfl rfl rfl rfl rfl ?_;simp only [Act.put,YG,YI,YH]) | (refine Gr.aC rfl fun K hK=>?_;go_big_quiet_op;refine hK _ ?_;clear hK K))
   refine Gr.bD (Gd.gR rfl) (GE w.heap.size (aH c).toArray 56) (tJ k1 k2 _ _) (fun f=>[(0,ncV c)]) rfl rfl rfl rfl rfl (fun _=>rfl) (fun m f hf=>⟨_,_,PA m.1 c,(seR B (.slice A1 L.length c1) (.slice A2 L.length c2) L.length (aD L) (aD L++aH c) (aQ R) (aQ R++[Value.int .i64 rd])).ext ((Below.refl _ _).alloc (YF _) _),_,rfl,MS m,aB m.1 _⟩) ?_
   simp only [Act.put,YG,YI,YH]
   refine Gr.f9 (Gd.gR rfl) (GO1 B L.length (aD L++aH c)) (GG _ _ _ _ _ _ _ _) (fun _=>.slice A1 L.length c1) (fun f=>f 29) rfl rfl rfl rfl rfl rfl (fun _=>rfl) (fun _=>rfl) (fun m f hf=>?_) ?_
   · have h29:RdK m.1 11 (f 29) (aH c):=by simpa using (hf 29 _ rfl rfl:GE _ _ _ _ _).rd rfl
     obtain ⟨Aq,cq,w',q1,q2,q3,q4,q5⟩:=z8 (P:=Tryz.prog) (ty:=_) (by omega) hF (O1 m) (by rw [bJ]) h29 (m:=1) rfl (by omega) (eF c) (by omega) (by unfold maxLen;omega) (MB m)
     exact ⟨_,w',q1,kA.app1 (O1 m) (O2 m) q3 q4 q5,Aq,cq,rfl,q2⟩
   simp only [Act.put,YG,YI,YH]
   repeat (first | (refine Gr.dZ (Gd.gR rfl) _ rfl rfl rfl rfl rfl ?_;simp only [Act.put,YG,YI,YH]) | (refine Gr.aC rfl fun K hK=>?_;go_big_quiet_op;refine hK _ ?_;clear hK K))
   refine Gr.bD (Gd.gR rfl) (GE w.heap.size #[Value.int .i64 rd] 3) (tJ k1 k2 _ _) (fun f=>[(0,.int .i64 rd)]) rfl rfl rfl rfl rfl (fun _=>rfl) (fun m f hf=>⟨_,_,PB m.1 rd,(seR B (.slice A1 L.length c1) (.slice A2 L.length c2) L.length (aD L) (aD L++aH c) (aQ R) (aQ R++[Value.int .i64 rd])).ext ((Below.refl _ _).alloc (YF _) _),_,rfl,MS m,aB m.1 _⟩) ?_
   simp only [Act.put,YG,YI,YH]
   refine Gr.f9 (Gd.gR rfl) (GO2 B L.length (aQ R++[Value.int .i64 rd])) (GH _ _ _ _ _ _ _ _) (fun _=>.slice A2 L.length c2) (fun f=>f 36) rfl rfl rfl rfl rfl rfl (fun _=>rfl) (fun _=>rfl) (fun m f hf=>?_) ?_
   · have h36:RdK m.1 1 (f 36) [Value.int .i64 rd]:=by simpa using (hf 36 _ rfl rfl:GE _ _ _ _ _).rd rfl
     obtain ⟨Aq,cq,w',q1,q2,q3,q4,q5⟩:=z8 (P:=Tryz.prog) (ty:=_) (by omega) PC (O2 m) (by rw [lJ,Nat.mul_one,HS.out.len]) h36 (m:=1) rfl (by omega) (fun u hu=>by rw [List.mem_singleton.1 hu];rfl) (by omega) (by unfold maxLen;omega) (MB m)
     exact ⟨_,w',q1,kA.app2 (O1 m) (O2 m) q3 q4 q5,Aq,cq,rfl,q2⟩
   simp only [Act.put,YG,YI,YH]
   refine Gr.cH (fun m f hf=>?_)
   obtain ⟨Aa,ca,e30,o30⟩:=(hf 30 _ rfl:GO1 _ _ _ _ _)
   obtain ⟨Ab,cb,e37,o37⟩:=(hf 37 _ rfl:GO2 _ _ _ _ _)
   simp only [bO]
   simp only [Act.put,YG,YI,YH]
   rw [e30,e37]
   have Lm:=LL m
   have SM:kF m.1 B S day (.slice A1 L.length c1) (.slice A2 L.length c2) L R:=⟨TS m,O1 m,O2 m,HS.out.len⟩
   generalize f 29=f29 at *
   generalize f 36=f36 at *
   obtain ⟨wm,hwm⟩:=m
   have o30:aJ wm B 56 11 (.slice Aa (L.length+1) ca) (aD (L++[c])):=by rw [<- SS];exact o30
   have o37:aJ wm B 3 1 (.slice Ab (L.length+1) cb) (aQ (R++[rd])):=by rw [<- PD];exact o37
   have SM:kF wm B S day (.slice A1 L.length c1) (.slice A2 L.length c2) L R:=SM
   have SF:=ZH (SM.put o30 o37 (by rw [YJ,YJ,HS.out.len];rfl))
   have BF:=ZH (((XB.out.trans (Lm.below hBr (aZ S7.own1) (aZ S7.own2))).setCell (p:=⟨S,1,none⟩) HB.out.2 (.slice Aa (L.length+1) ca)).setCell (p:=⟨S,2,none⟩) HB.out.2 (.slice Ab (L.length+1) cb))
   obtain ⟨t0,t1,t2⟩:=SM.cells
   have tf1:=SM.frozen 1
   have tf2:=SM.frozen 2
   have tl:=SM.lt
   clear LL TB TS O1 O2 MS MB s1 s2 p0 p1 p2 p3 p4 p5 p6 p7 p8 p9 p10 hf e30 e37 SM o30 o37 Lm S7 Z7 k1 k2 hBr XB
   show wpList _ _ _ _ _ _
   go_wp2_with fail
   go_ret
   exact ⟨BF.out,by rw [decide_eq_true HR.out];rfl,_,_,by unfold xW xX;rw [if_neg HR.out,if_neg HR.out];exact SF.out⟩
  case pos =>
  obtain ⟨y,hy⟩:∃ y,L[k]?=some y:=⟨_,YL hlt⟩
  obtain ⟨b,o,rfl,hbl,hc⟩:=HEL.out (by omega)
  have hcy:=hc k y hy
  have HY:=ZH hy
  have eqq:=fun W=>HEQ.out W y
  unfold ncV at eqq
  clear hy hc
  have wi1:IntKind.i64.wrap ((k:Int))=(k:Int):=IntWalk.i64_in _ (by omega)
  have zi1:(0:Int)<=(k:Int):=by omega
  have li1:(k:Int)<(L.length:Int):=by omega
  have ti1:((k:Int)).toNat=k:=by omega
  have q0:=((ez.tr X).cell (p:=⟨b,o+k*11,none⟩) hbl).trans hcy.1
  have q1:=((ez.tr X).cell (p:=⟨b,o+k*11+1,none⟩) hbl).trans hcy.2.1
  have q2:=((ez.tr X).cell (p:=⟨b,o+k*11+2,none⟩) hbl).trans hcy.2.2.1
  have q3:=((ez.tr X).cell (p:=⟨b,o+k*11+3,none⟩) hbl).trans hcy.2.2.2.1
  have q4:=((ez.tr X).cell (p:=⟨b,o+k*11+4,none⟩) hbl).trans hcy.2.2.2.2.1
  have q5:=((ez.tr X).cell (p:=⟨b,o+k*11+5,none⟩) hbl).trans hcy.2.2.2.2.2.1
  have q6:=((ez.tr X).cell (p:=⟨b,o+k*11+6,none⟩) hbl).trans hcy.2.2.2.2.2.2.1
  have q7:=((ez.tr X).cell (p:=⟨b,o+k*11+7,none⟩) hbl).trans hcy.2.2.2.2.2.2.2.1
  have q8:=((ez.tr X).cell (p:=⟨b,o+k*11+8,none⟩) hbl).trans hcy.2.2.2.2.2.2.2.2.1
  have q9:=((ez.tr X).cell (p:=⟨b,o+k*11+9,none⟩) hbl).trans hcy.2.2.2.2.2.2.2.2.2.1
  have q10:=((ez.tr X).cell (p:=⟨b,o+k*11+10,none⟩) hbl).trans hcy.2.2.2.2.2.2.2.2.2.2
  clear hcy
  obtain ⟨wn,hwn,en,TN⟩:=cT wr y
  go_upto_region 4 with fail
  rw [<- hwn]
  clear hwn q0 q1 q2 q3 q4 q5 q6 q7 q8 q9 q10
  have X9:=X.tr en
  have hne:w.heap.size≠wr.heap.size:=by have:=(HZ.out.ext X).lt;omega
  obtain ⟨p0,p1,p2,p3,p4,p5,p6,p7,p8,p9,p10⟩:=(HZ.out.ext X9).cells
  have pl:=(HZ.out.ext X9).lt
  obtain ⟨t0,t1,t2,t3,t4,t5,t6,t7,t8,t9,t10⟩:=TN.cells
  have tl:=TN.lt
  obtain ⟨d,hd⟩:∃ d,decide (y=c)=d:=⟨_,rfl⟩
  rw [hd] at eqq
  have HD:=ZH hd
  clear hd X en
  cases d
  · have HNN:=ZH (wN HN.out HY.out (by have:=HD.out;simpa using this))
    go_wp2_with fail
    go_roundw
    case rel=>exact ⟨k+1,by omega,by go_num,HNN,X9⟩
    case measure=>simp [intOf];omega
  · have HC:Hid (L[k]?=some c):=ZH (by have:=HD.out;have e:=of_decide_eq_true this;rw [HY.out,e])
    have HM:=ZH (YS HC.out)
    have XB:=ZH ((ez.tr X9).mono HB.out.1)
    have SX:=ZH (HS.out.ext (ez.tr X9))
    clear X9
    go_wp2_with fail
    go_ret
    exact ⟨XB.out,by rw [decide_eq_false (fun q=>q HM.out)];rfl,_,_,by unfold xW xX;rw [if_pos HM.out,if_pos HM.out];exact SX.out⟩
end Go.Proofs.YtkjplpmogfmhkaaGreatDoor
