/- Parts Me Mg Mp of the proof. -/
import Derived.Test.YtkjplpmogfmhkaaGreatDoorHbi
import Derived.Test.YtkjplpmogfmhkaaGreatDoorHbc
namespace Go.Proofs.YtkjplpmogfmhkaaGreatDoor
open Go.RowKit
set_option linter.unusedVariables false
set_option maxRecDepth 100000
def NA (c:NC) (made day:Int) (b:List UInt8) (e s:Int):Int:=if day<made \/ made<c.fr then 64 else if c.un<made then 63 else if fF c.key b e s=true then 0 else 11
noncomputable def W7 (roots pool:List NC) (c:NC) (made day:Int) (b:List UInt8) (e s:Int):Int:=if npK roots pool c day≠0 then npK roots pool c day else NA c made day b e s
noncomputable def ND (roots pool:List NC) (m:MA) (day:Int):Int:=if ckM m≠0 then ckM m else W7 roots pool m.sg m.day day (byM m) m.e m.s
structure FF (w wz:World) (c:NC) (e s:Int):Prop where
 ext:Ext w wz
 c:cK wz w.heap.size c
 z:wz.heap[w.heap.size+1]?=some (.cells #[.int .i64 e,.int .i64 s] 33 (0,0))
theorem FF.tr {w wz wy:World}{c:NC}{e s:Int} (h:FF w wz c e s) (x:Ext wz wy):FF w wy c e s:=⟨h.ext.tr x,h.c.ext x,(x.block _ (aA h.z)).trans h.z⟩
theorem FF.s0 {w wz:World}{c:NC}{e s:Int} (h:FF w wz c e s):wz.cell? ⟨w.heap.size+1,0,none⟩=some (.int .i64 e):=by rw [cell_of_row _ _ 0 _ _ _ h.z];rfl
theorem FF.s1 {w wz:World}{c:NC}{e s:Int} (h:FF w wz c e s):wz.cell? ⟨w.heap.size+1,1,none⟩=some (.int .i64 s):=by rw [cell_of_row _ _ 1 _ _ _ h.z];rfl
theorem IQ (w:World) (c:NC) (e s:Int):∃ wz,wz=(w.alloc (ncO c)).alloc (.cells #[.int .i64 e,.int .i64 s] 33)/\FF w wz c e s:=by
 have e1:Ext w (w.alloc (ncO c)):=(Below.refl _ _).alloc (YF _) _
 have e2:Ext (w.alloc (ncO c)) ((w.alloc (ncO c)).alloc (.cells #[.int .i64 e,.int .i64 s] 33)):=(Below.refl _ _).alloc (YF _) _
 refine ⟨_,rfl,e1.tr e2,(cK.new w c).ext e2,?_⟩
 have:=aB (w.alloc (ncO c)) (.cells #[.int .i64 e,.int .i64 s] 33)
 rw [show (w.alloc (ncO c)).heap.size=w.heap.size+1 by simp] at this
 exact this
structure U9 (w wz:World) (s0 s1 s2 s3 s4:SlT) (m:MA) (v:Value):Prop where
 ext:Ext w wz
 s:wz.heap[w.heap.size]?=some (.cells (aM s0 s1 s2 s3 s4) 75 (0,0))
 m:cY wz (w.heap.size+1) m v
theorem U9.tr {w wz wy:World}{s0 s1 s2 s3 s4:SlT}{m:MA}{v:Value} (h:U9 w wz s0 s1 s2 s3 s4 m v) (x:Ext wz wy):U9 w wy s0 s1 s2 s3 s4 m v:=⟨h.ext.tr x,(x.block _ (aA h.s)).trans h.s,h.m.ext x⟩
theorem xG (w:World) (s0 s1 s2 s3 s4:SlT) (m:MA) (v:Value):∃ wz,wz=(w.alloc (stO s0 s1 s2 s3 s4)).alloc (.cells #[.string (aK m.st),.int .i64 m.num,.int .i64 m.day,v,.string (aK m.sg.st),.int .i64 m.sg.kind,.int .i64 m.sg.num,.int .i64 m.sg.iss,.int .i64 m.sg.own,.int .i64 m.sg.key,.int .i64 m.sg.fr,.int .i64 m.sg.un,.int .i64 m.sg.to,.int .i64 m.sg.e,.int .i64 m.sg.s,.int .i64 m.e,.int .i64 m.s] 80)/\U9 w wz s0 s1 s2 s3 s4 m v:=by
 have e1:Ext w (w.alloc (stO s0 s1 s2 s3 s4)):=(Below.refl _ _).alloc (YF _) _
 have e2:Ext (w.alloc (stO s0 s1 s2 s3 s4)) ((w.alloc (stO s0 s1 s2 s3 s4)).alloc (.cells #[.string (aK m.st),.int .i64 m.num,.int .i64 m.day,v,.string (aK m.sg.st),.int .i64 m.sg.kind,.int .i64 m.sg.num,.int .i64 m.sg.iss,.int .i64 m.sg.own,.int .i64 m.sg.key,.int .i64 m.sg.fr,.int .i64 m.sg.un,.int .i64 m.sg.to,.int .i64 m.sg.e,.int .i64 m.sg.s,.int .i64 m.e,.int .i64 m.s] 80)):=(Below.refl _ _).alloc (YF _) _
 refine ⟨_,rfl,e1.tr e2,(e2.block _ (by simp)).trans (aB w _),?_⟩
 have:=aB (w.alloc (stO s0 s1 s2 s3 s4)) (.cells #[.string (aK m.st),.int .i64 m.num,.int .i64 m.day,v,.string (aK m.sg.st),.int .i64 m.sg.kind,.int .i64 m.sg.num,.int .i64 m.sg.iss,.int .i64 m.sg.own,.int .i64 m.sg.key,.int .i64 m.sg.fr,.int .i64 m.sg.un,.int .i64 m.sg.to,.int .i64 m.sg.e,.int .i64 m.sg.s,.int .i64 m.e,.int .i64 m.s] 80)
 rw [show (w.alloc (stO s0 s1 s2 s3 s4)).heap.size=w.heap.size+1 by simp] at this
 exact this
set_option maxHeartbeats 4000000 in
theorem IR {u:Value}{l:List UInt8} (c:NC) (made day e s:Int) (w:World) (hu:Rd w u (bvs l)) (hl:l.length<=5000) (E:dS w 0) :
 Calls Tryz.prog 145 #[ncV c,.int .i64 made,.int .i64 day,u,.agg #[.int .i64 e,.int .i64 s]] w (dR w (.int .i64 (NA c made day l e s))):=by
 obtain ⟨wz,hwz,Tz⟩:=IQ w c e s
 have HVF:=ZH (fun W (x:Ext w W)=>kP (a:=u) c.key e s W (hu.ext x) (by omega) (E.below x))
 obtain ⟨K,hK⟩:∃ K,NA c made day l e s=K:=⟨_,rfl⟩
 rw [hK]
 have HP:=ZH hK.symm
 obtain ⟨U1,U2,U3,rfl,-⟩:=hu
 have TT:=ZH Tz
 clear hK hl E Tz
 unfold ncV
 go_enter Tryz.func145,Tryz.ntmps145
 go_upto_region 1 with fail
 rw [<- hwz]
 clear hwz
 obtain ⟨t0,t1,t2,t3,t4,t5,t6,t7,t8,t9,t10⟩:=TT.out.c.cells
 have hl:=TT.out.c.lt
 have s0:=TT.out.s0
 have s1:=TT.out.s1
 have sl:=aA TT.out.z
 have X:=ZH TT.out.ext
 by_cases d1:day<made
 case pos =>
  have HR:=ZH (show K=64 by rw [HP.out];exact if_pos (.inl d1))
  clear HP
  go_wp2_with fail
  go_ret
  exact ⟨by first | (rw [HR.out];rfl) | rw [HR.out],X.out⟩
 have hd1:¬ day<made:=d1
 by_cases d2:made<c.fr
 case pos =>
  have HR:=ZH (show K=64 by rw [HP.out];exact if_pos (.inr d2))
  clear HP
  go_wp2_with fail
  go_ret
  exact ⟨by first | (rw [HR.out];rfl) | rw [HR.out],X.out⟩
 have HN:=ZH (show ¬ (day<made \/ made<c.fr) from fun q=>q.elim d1 d2)
 by_cases d3:c.un<made
 case pos =>
  have HR:=ZH (show K=63 by rw [HP.out];unfold NA;rw [if_neg HN.out,if_pos d3])
  clear HP
  go_wp2_with fail
  go_ret
  exact ⟨by first | (rw [HR.out];rfl) | rw [HR.out],X.out⟩
 have HR:=ZH (show K=if fF c.key l e s=true then 0 else 11 by rw [HP.out];unfold NA;rw [if_neg HN.out,if_neg d3])
 clear HP HN
 go_wp2_with fail
 refine (HVF.out _ X.out).mono ?_
 rintro e0 w9 ⟨rfl,b9⟩
 have X9:=ZH (X.out.tr b9)
 clear b9 d1 d2 d3 hd1 X
 clear t0 t1 t2 t3 t4 t5 t6 t7 t8 t9 t10 hl s0 s1 sl
 generalize fF c.key l e s=q at *
 cases q
 · go_wp2_with fail
   go_ret
   exact ⟨by first | (rw [HR.out];rfl) | rw [HR.out],X9.out⟩
 · go_wp2_with fail
   go_ret
   exact ⟨by first | (rw [HR.out];rfl) | rw [HR.out],X9.out⟩
set_option maxHeartbeats 8000000 in
theorem xH (s0 s1 s2 s3 s4:SlT) (roots pool:List NC) (m:MA) (v:Value) (day:Int) (w:World) (h1:RdN w (slV s0) roots) (h2:RdN w (slV s1) pool) (hs1:smL roots) (hs2:smL pool) (hll:roots.length+pool.length<=900000) (hv:RdN w v m.roots) (hs:smL m.roots) (hg:smN m.sg) (ht:m.st.length<=maxLen) (E:dS w 0) :
 Calls Tryz.prog 55 #[bH s0 s1 s2 s3 s4,maV m v,.int .i64 day] w (dR w (.int .i64 (ND roots pool m day))):=by
 obtain ⟨wz,hwz,Tz⟩:=xG w s0 s1 s2 s3 s4 m v
 have HCK:=ZH (fun W (e:Ext w W)=>oZ m v W (RdK.ext hv e) hs hg ht (E.below e))
 have HBD:=ZH (fun W (e:Ext w W)=>qX m v W (RdK.ext hv e) hs hg ht (E.below e))
 have HPT:=ZH (fun W (x:Ext w W)=>C7 m.sg day W (RdK.ext h1 x) (RdK.ext h2 x) hs1 hs2 hg hll (E.below x))
 have HPB:=ZH (fun (u:Value) W (x:Ext w W) (hu:Rd W u (bvs (byM m)))=>IR m.sg m.day day m.e m.s W hu (by have:=KY m;omega) (E.below x))
 obtain ⟨K,hK⟩:∃ K,ND roots pool m day=K:=⟨_,rfl⟩
 rw [hK]
 have HK:=ZH hK
 obtain ⟨A,n,cp,rfl,hn,-⟩:=hv.at_
 subst hn
 have TV:=ZH Tz
 clear hK h1 h2 hs1 hs2 hll hs hg ht E Tz hv
 unfold bH maV aP
 go_enter Tryz.func55,Tryz.ntmps55
 go_upto_region 1 with fail
 rw [<- hwz]
 clear hwz
 have HR0:=ZH TV.out.m.row
 go_wp2_with (refine wpList_load_row rfl 80 _ rfl (w.heap.size+1) rfl 80 (aP m (.slice A m.roots.length cp)).toArray (0,0) _ HR0.out Tryz.underlying80 rfl cP ?_)
 refine (HCK.out _ TV.out.ext).mono ?_
 rintro e0 w1 ⟨rfl,b1⟩
 have TV1:=ZH (TV.out.tr b1)
 clear TV b1 HR0
 have TV:=TV1
 clear TV1
 by_cases hc:ckM m=0
 case neg =>
  have HR:=ZH (show K=ckM m by rw [<- HK.out];exact if_pos hc)
  have hb:(ckM m != 0)=true:=by simpa using hc
  have X:=ZH TV.out.ext
  clear hc
  go_wp2_with fail
  go_ret
  exact ⟨by first | (rw [HR.out];rfl) | rw [HR.out],X.out⟩
 have HP:=ZH (show K=W7 roots pool m.sg m.day day (byM m) m.e m.s by rw [<- HK.out];unfold ND;rw [if_neg (not_not_intro hc)])
 have HC:=ZH hc
 rw [hc]
 clear hc HK
 have k0:w1.cell? ⟨w.heap.size,0,none⟩=some (.slice s0.1 s0.2.1 s0.2.2):=by rw [cell_of_row _ _ 0 _ _ _ TV.out.s];rfl
 have k1:w1.cell? ⟨w.heap.size,1,none⟩=some (.slice s1.1 s1.2.1 s1.2.2):=by rw [cell_of_row _ _ 1 _ _ _ TV.out.s];rfl
 have c2:=TV.out.m.c2
 have c4:=TV.out.m.c4
 have c5:=TV.out.m.c5
 have c6:=TV.out.m.c6
 have c7:=TV.out.m.c7
 have c8:=TV.out.m.c8
 have c9:=TV.out.m.c9
 have c10:=TV.out.m.c10
 have c11:=TV.out.m.c11
 have c12:=TV.out.m.c12
 have c13:=TV.out.m.c13
 have c14:=TV.out.m.c14
 have c15:=TV.out.m.c15
 have c16:=TV.out.m.c16
 have cl:=TV.out.m.lt
 have kl:=aA TV.out.s
 go_wp2_with fail
 refine (HPT.out _ TV.out.ext).mono ?_
 rintro e0 w2 ⟨b2,A2,cp2,rfl,-⟩
 clear k0 k1 c2 c4 c5 c6 c7 c8 c9 c10 c11 c12 c13 c14 c15 c16 cl kl
 have TV1:=ZH (TV.out.tr b2)
 clear TV b2
 have TV:=TV1
 clear TV1
 by_cases hk:npK roots pool m.sg day=0
 case neg =>
  have HR:=ZH (show K=npK roots pool m.sg day by rw [HP.out];exact if_pos hk)
  have hb:(npK roots pool m.sg day != 0)=true:=by simpa using hk
  have X:=ZH TV.out.ext
  clear hk
  go_wp2_with fail
  go_ret
  exact ⟨by first | (rw [HR.out];rfl) | rw [HR.out],X.out⟩
 have HR:=ZH (show K=NA m.sg m.day day (byM m) m.e m.s by rw [HP.out];unfold W7;rw [if_neg (not_not_intro hk)])
 rw [hk]
 clear hk HP
 have HR0:=ZH TV.out.m.row
 go_wp2_with (refine wpList_load_row rfl 80 _ rfl (w.heap.size+1) rfl 80 (aP m (.slice A m.roots.length cp)).toArray (0,0) _ HR0.out Tryz.underlying80 rfl cP ?_)
 refine (HBD.out _ TV.out.ext).mono ?_
 rintro e0 w3 ⟨A1,n1,c1,rfl,hn1,r1,b3⟩
 rw [HC.out]
 have TV1:=ZH (TV.out.tr b3)
 clear TV b3 HR0 hn1
 have TV:=TV1
 clear TV1
 have HRB:=ZH r1
 clear r1
 have k0:w3.cell? ⟨w.heap.size,0,none⟩=some (.slice s0.1 s0.2.1 s0.2.2):=by rw [cell_of_row _ _ 0 _ _ _ TV.out.s];rfl
 have k1:w3.cell? ⟨w.heap.size,1,none⟩=some (.slice s1.1 s1.2.1 s1.2.2):=by rw [cell_of_row _ _ 1 _ _ _ TV.out.s];rfl
 have c2:=TV.out.m.c2
 have c4:=TV.out.m.c4
 have c5:=TV.out.m.c5
 have c6:=TV.out.m.c6
 have c7:=TV.out.m.c7
 have c8:=TV.out.m.c8
 have c9:=TV.out.m.c9
 have c10:=TV.out.m.c10
 have c11:=TV.out.m.c11
 have c12:=TV.out.m.c12
 have c13:=TV.out.m.c13
 have c14:=TV.out.m.c14
 have c15:=TV.out.m.c15
 have c16:=TV.out.m.c16
 have cl:=TV.out.m.lt
 have kl:=aA TV.out.s
 go_wp2_with fail
 refine (HPB.out _ _ TV.out.ext HRB.out).mono ?_
 rintro e0 w4 ⟨rfl,b4⟩
 clear k0 k1 c2 c4 c5 c6 c7 c8 c9 c10 c11 c12 c13 c14 c15 c16 cl kl
 have X:=ZH (TV.out.ext.tr b4)
 clear b4 TV HRB
 go_wp2_with fail
 go_ret
 exact ⟨by first | (rw [HR.out];rfl) | rw [HR.out],X.out⟩
theorem cY.new (w:World) (m:MA) (v:Value):cY (w.alloc (.cells #[.string (aK m.st),.int .i64 m.num,.int .i64 m.day,v,.string (aK m.sg.st),.int .i64 m.sg.kind,.int .i64 m.sg.num,.int .i64 m.sg.iss,.int .i64 m.sg.own,.int .i64 m.sg.key,.int .i64 m.sg.fr,.int .i64 m.sg.un,.int .i64 m.sg.to,.int .i64 m.sg.e,.int .i64 m.sg.s,.int .i64 m.e,.int .i64 m.s] 80)) w.heap.size m v:=aB w _
theorem cY.range {w:World}{g:Nat}{m:MA}{v:Value} (h:cY w g m v):w.rangeAt g 0 (aP m v):=fun j u hu=>by
 rw [YR,cell_of_row w g j _ _ (0,0) h,List.getElem?_toArray]
 exact hu
theorem rE {w:World}{g:Nat}{s0 s1 s2 s3 s4:SlT} (h:w.heap[g]?=some (.cells (aM s0 s1 s2 s3 s4) 75 (0,0))):w.rangeAt g 0 [slV s0,slV s1,slV s2,slV s3,slV s4]:=fun j u hu=>by
 rw [YR,cell_of_row w g j _ _ (0,0) h,show aM s0 s1 s2 s3 s4=[slV s0,slV s1,slV s2,slV s3,slV s4].toArray from rfl,List.getElem?_toArray]
 exact hu
end Go.Proofs.YtkjplpmogfmhkaaGreatDoor
