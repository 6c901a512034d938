/- Parts Me Mg Mh Mp of the proof. -/
import Derived.Test.YtkjplpmogfmhkaaGreatDoorLaz
import Derived.Test.YtkjplpmogfmhkaaGreatDoorLbb
import Derived.Test.YtkjplpmogfmhkaaGreatDoorLba
import Derived.Test.YtkjplpmogfmhkaaGreatDoorLaw
import Derived.Test.YtkjplpmogfmhkaaGreatDoorLar
namespace Go.Proofs.YtkjplpmogfmhkaaGreatDoor
open Go.RowKit
set_option linter.unusedVariables false
set_option maxRecDepth 100000
def tB (c:NC) (made day:Int) (b:List UInt8) (e s:Int):Int:=if day<made ∨ made<c.fr then 64 else if c.un<made then 63 else if jH c.key b e s=true then 0 else 11
noncomputable def wE (roots pool:List NC) (c:NC) (made day:Int) (b:List UInt8) (e s:Int):Int:=if npK roots pool c day≠0 then npK roots pool c day else tB c made day b e s
noncomputable def lX (roots pool:List NC) (m:MA) (day:Int):Int:=if ckM m≠0 then ckM m else wE roots pool m.sg m.day day (byM m) m.e m.s
structure DE (w wz:World) (c:NC) (e s:Int):Prop where
 ext:Ext w wz
 c:bE wz w.heap.size c
 z:wz.heap[w.heap.size+1]?=some (.cells #[.int .i64 e,.int .i64 s] 33 (0,0))
theorem DE.tr {w wz wy:World}{c:NC}{e s:Int} (h:DE w wz c e s) (x:Ext wz wy):DE w wy c e s:=⟨h.ext.tr x,h.c.ext x,(x.block _ (a9 h.z)).trans h.z⟩
theorem DE.s0 {w wz:World}{c:NC}{e s:Int} (h:DE w wz c e s):wz.cell? ⟨w.heap.size+1,0,none⟩=some (.int .i64 e):=by rw [cell_of_row _ _ 0 _ _ _ h.z];rfl
theorem DE.s1 {w wz:World}{c:NC}{e s:Int} (h:DE w wz c e s):wz.cell? ⟨w.heap.size+1,1,none⟩=some (.int .i64 s):=by rw [cell_of_row _ _ 1 _ _ _ h.z];rfl
theorem wF (w:World) (c:NC) (e s:Int):∃ wz,wz=(w.alloc (.cells #[.string (aI c.st),.int .i64 c.kind,.int .i64 c.num,.int .i64 c.iss,.int .i64 c.own,.int .i64 c.key,.int .i64 c.fr,.int .i64 c.un,.int .i64 c.to,.int .i64 c.e,.int .i64 c.s] 56)).alloc (.cells #[.int .i64 e,.int .i64 s] 33)∧DE w wz c e s:=by
 have e1:Ext w (w.alloc (.cells #[.string (aI c.st),.int .i64 c.kind,.int .i64 c.num,.int .i64 c.iss,.int .i64 c.own,.int .i64 c.key,.int .i64 c.fr,.int .i64 c.un,.int .i64 c.to,.int .i64 c.e,.int .i64 c.s] 56)):=(Below.refl _ _).alloc (UX _) _
 have e2:Ext (w.alloc (.cells #[.string (aI c.st),.int .i64 c.kind,.int .i64 c.num,.int .i64 c.iss,.int .i64 c.own,.int .i64 c.key,.int .i64 c.fr,.int .i64 c.un,.int .i64 c.to,.int .i64 c.e,.int .i64 c.s] 56)) ((w.alloc (.cells #[.string (aI c.st),.int .i64 c.kind,.int .i64 c.num,.int .i64 c.iss,.int .i64 c.own,.int .i64 c.key,.int .i64 c.fr,.int .i64 c.un,.int .i64 c.to,.int .i64 c.e,.int .i64 c.s] 56)).alloc (.cells #[.int .i64 e,.int .i64 s] 33)):=(Below.refl _ _).alloc (UX _) _
 refine ⟨_,rfl,e1.tr e2,(bE.new w c).ext e2,?_⟩
 have:=aC (w.alloc (.cells #[.string (aI c.st),.int .i64 c.kind,.int .i64 c.num,.int .i64 c.iss,.int .i64 c.own,.int .i64 c.key,.int .i64 c.fr,.int .i64 c.un,.int .i64 c.to,.int .i64 c.e,.int .i64 c.s] 56)) (.cells #[.int .i64 e,.int .i64 s] 33)
 rw [show (w.alloc (.cells #[.string (aI c.st),.int .i64 c.kind,.int .i64 c.num,.int .i64 c.iss,.int .i64 c.own,.int .i64 c.key,.int .i64 c.fr,.int .i64 c.un,.int .i64 c.to,.int .i64 c.e,.int .i64 c.s] 56)).heap.size=w.heap.size+1 by simp] at this
 exact this
structure QC (w wz:World) (s0 s1 s2 s3 s4:SlT) (m:MA) (v:Value):Prop where
 ext:Ext w wz
 s:wz.heap[w.heap.size]?=some (.cells (bD s0 s1 s2 s3 s4) 75 (0,0))
 m:aX wz (w.heap.size+1) m v
theorem QC.tr {w wz wy:World}{s0 s1 s2 s3 s4:SlT}{m:MA}{v:Value} (h:QC w wz s0 s1 s2 s3 s4 m v) (x:Ext wz wy):QC w wy s0 s1 s2 s3 s4 m v:=⟨h.ext.tr x,(x.block _ (a9 h.s)).trans h.s,h.m.ext x⟩
theorem pA (w:World) (s0 s1 s2 s3 s4:SlT) (m:MA) (v:Value):∃ wz,wz=(w.alloc (.cells #[.slice s0.1 s0.2.1 s0.2.2,.slice s1.1 s1.2.1 s1.2.2,.slice s2.1 s2.2.1 s2.2.2,.slice s3.1 s3.2.1 s3.2.2,.slice s4.1 s4.2.1 s4.2.2] 75)).alloc (.cells #[.string (aI m.st),.int .i64 m.num,.int .i64 m.day,v,.string (aI m.sg.st),.int .i64 m.sg.kind,.int .i64 m.sg.num,.int .i64 m.sg.iss,.int .i64 m.sg.own,.int .i64 m.sg.key,.int .i64 m.sg.fr,.int .i64 m.sg.un,.int .i64 m.sg.to,.int .i64 m.sg.e,.int .i64 m.sg.s,.int .i64 m.e,.int .i64 m.s] 80)∧QC w wz s0 s1 s2 s3 s4 m v:=by
 have e1:Ext w (w.alloc (.cells #[.slice s0.1 s0.2.1 s0.2.2,.slice s1.1 s1.2.1 s1.2.2,.slice s2.1 s2.2.1 s2.2.2,.slice s3.1 s3.2.1 s3.2.2,.slice s4.1 s4.2.1 s4.2.2] 75)):=(Below.refl _ _).alloc (UX _) _
 have e2:Ext (w.alloc (.cells #[.slice s0.1 s0.2.1 s0.2.2,.slice s1.1 s1.2.1 s1.2.2,.slice s2.1 s2.2.1 s2.2.2,.slice s3.1 s3.2.1 s3.2.2,.slice s4.1 s4.2.1 s4.2.2] 75)) ((w.alloc (.cells #[.slice s0.1 s0.2.1 s0.2.2,.slice s1.1 s1.2.1 s1.2.2,.slice s2.1 s2.2.1 s2.2.2,.slice s3.1 s3.2.1 s3.2.2,.slice s4.1 s4.2.1 s4.2.2] 75)).alloc (.cells #[.string (aI m.st),.int .i64 m.num,.int .i64 m.day,v,.string (aI m.sg.st),.int .i64 m.sg.kind,.int .i64 m.sg.num,.int .i64 m.sg.iss,.int .i64 m.sg.own,.int .i64 m.sg.key,.int .i64 m.sg.fr,.int .i64 m.sg.un,.int .i64 m.sg.to,.int .i64 m.sg.e,.int .i64 m.sg.s,.int .i64 m.e,.int .i64 m.s] 80)):=(Below.refl _ _).alloc (UX _) _
 refine ⟨_,rfl,e1.tr e2,(e2.block _ (by simp)).trans (aC w _),?_⟩
 have:=aC (w.alloc (.cells #[.slice s0.1 s0.2.1 s0.2.2,.slice s1.1 s1.2.1 s1.2.2,.slice s2.1 s2.2.1 s2.2.2,.slice s3.1 s3.2.1 s3.2.2,.slice s4.1 s4.2.1 s4.2.2] 75)) (.cells #[.string (aI m.st),.int .i64 m.num,.int .i64 m.day,v,.string (aI m.sg.st),.int .i64 m.sg.kind,.int .i64 m.sg.num,.int .i64 m.sg.iss,.int .i64 m.sg.own,.int .i64 m.sg.key,.int .i64 m.sg.fr,.int .i64 m.sg.un,.int .i64 m.sg.to,.int .i64 m.sg.e,.int .i64 m.sg.s,.int .i64 m.e,.int .i64 m.s] 80)
 rw [show (w.alloc (.cells #[.slice s0.1 s0.2.1 s0.2.2,.slice s1.1 s1.2.1 s1.2.2,.slice s2.1 s2.2.1 s2.2.2,.slice s3.1 s3.2.1 s3.2.2,.slice s4.1 s4.2.1 s4.2.2] 75)).heap.size=w.heap.size+1 by simp] at this
 exact this
set_option maxHeartbeats 4000000 in
theorem DG {v1 v2 u:Value}{roots pool:List NC}{l:List UInt8} (c:NC) (made day e s:Int) (w:World) (h1:RdN w v1 roots) (h2:RdN w v2 pool) (hu:Rd w u (bvs l)) (hl:l.length≤5000) (hs1:smL roots) (hs2:smL pool) (hc:smN c) (hll:roots.length+pool.length≤900000) (E:dI w 1) :
 Calls Tryz.prog 144 #[v1,v2,ncV c,.int .i64 made,.int .i64 day,u,.agg #[.int .i64 e,.int .i64 s]] w (eP w (.int .i64 (wE roots pool c made day l e s))):=by
 obtain ⟨wz,hwz,Tz⟩:=wF w c e s
 have HPT:=VR (fun W (x:Ext w W)=>KH c day W (RdK.ext h1 x) (RdK.ext h2 x) hs1 hs2 hc hll (E.below x))
 have HVF:=VR (fun W (x:Ext w W)=>uR (a:=u) c.key e s W (hu.ext x) (by omega) (E.below x))
 obtain ⟨K,hK⟩:∃ K,wE roots pool c made day l e s=K:=⟨_,rfl⟩
 rw [hK]
 have HK:=VR hK
 obtain ⟨U1,U2,U3,rfl,-⟩:=hu
 obtain ⟨V1,V2,V3,rfl,-⟩:=h1.at_
 obtain ⟨W1,W2,W3,rfl,-⟩:=h2.at_
 have TT:=VR Tz
 clear hK hc hs1 hs2 hll hl E Tz
 unfold ncV
 go_enter Tryz.func144,Tryz.ntmps144
 go_upto_region 1 with fail
 rw [← hwz]
 clear hwz
 obtain ⟨t0,t1,t2,t3,t4,t5,t6,t7,t8,t9,t10⟩:=TT.out.c.cells
 have hl:=TT.out.c.lt
 have s0:=TT.out.s0
 have s1:=TT.out.s1
 have sl:=a9 TT.out.z
 go_wp2_with fail
 refine (HPT.out _ TT.out.ext).mono ?_
 rintro e0 w1 ⟨b1,A1,cp1,rfl,-⟩
 clear t0 t1 t2 t3 t4 t5 t6 t7 t8 t9 t10 hl s0 s1 sl
 have TT1:=VR (TT.out.tr b1)
 clear TT b1
 have TT:=TT1
 clear TT1
 by_cases hk:npK roots pool c day=0
 case neg =>
  have HR:=VR (show K=npK roots pool c day by rw [← HK.out];exact if_pos hk)
  have hb:(npK roots pool c day != 0)=true:=by simpa using hk
  have X:=VR TT.out.ext
  clear hk
  go_wp2_with fail
  go_ret
  exact ⟨by first | (rw [HR.out];rfl) | rw [HR.out],X.out⟩
 have HP:=VR (show K=tB c made day l e s by rw [← HK.out];unfold wE;rw [if_neg (not_not_intro hk)])
 rw [hk]
 clear hk HK
 obtain ⟨t0,t1,t2,t3,t4,t5,t6,t7,t8,t9,t10⟩:=TT.out.c.cells
 have hl:=TT.out.c.lt
 have s0:=TT.out.s0
 have s1:=TT.out.s1
 have sl:=a9 TT.out.z
 have X:=VR TT.out.ext
 by_cases d1:day<made
 case pos =>
  have HR:=VR (show K=64 by rw [HP.out];exact if_pos (.inl d1))
  clear HP
  go_wp2_with fail
  go_ret
  exact ⟨by first | (rw [HR.out];rfl) | rw [HR.out],X.out⟩
 have hd1:¬ day<made:=d1
 by_cases d2:made<c.fr
 case pos =>
  have HR:=VR (show K=64 by rw [HP.out];exact if_pos (.inr d2))
  clear HP
  go_wp2_with fail
  go_ret
  exact ⟨by first | (rw [HR.out];rfl) | rw [HR.out],X.out⟩
 have HN:=VR (show ¬ (day<made ∨ made<c.fr) from fun q=>q.elim d1 d2)
 by_cases d3:c.un<made
 case pos =>
  have HR:=VR (show K=63 by rw [HP.out];unfold tB;rw [if_neg HN.out,if_pos d3])
  clear HP
  go_wp2_with fail
  go_ret
  exact ⟨by first | (rw [HR.out];rfl) | rw [HR.out],X.out⟩
 have HR:=VR (show K=if jH c.key l e s=true then 0 else 11 by rw [HP.out];unfold tB;rw [if_neg HN.out,if_neg d3])
 clear HP HN
 go_wp2_with fail
 refine (HVF.out _ X.out).mono ?_
 rintro e0 w9 ⟨rfl,b9⟩
 have X9:=VR (X.out.tr b9)
 clear b9 d1 d2 d3 hd1 X
 clear t0 t1 t2 t3 t4 t5 t6 t7 t8 t9 t10 hl s0 s1 sl
 generalize jH c.key l e s=q at *
 cases q
 · go_wp2_with fail
   go_ret
   exact ⟨by first | (rw [HR.out];rfl) | rw [HR.out],X9.out⟩
 · go_wp2_with fail
   go_ret
   exact ⟨by first | (rw [HR.out];rfl) | rw [HR.out],X9.out⟩
set_option maxHeartbeats 4000000 in
theorem FS {u:Value}{l:List UInt8} (c:NC) (made day e s:Int) (w:World) (hu:Rd w u (bvs l)) (hl:l.length≤5000) (E:dI w 0) :
 Calls Tryz.prog 145 #[ncV c,.int .i64 made,.int .i64 day,u,.agg #[.int .i64 e,.int .i64 s]] w (eP w (.int .i64 (tB c made day l e s))):=by
 obtain ⟨wz,hwz,Tz⟩:=wF w c e s
 have HVF:=VR (fun W (x:Ext w W)=>oF (a:=u) c.key e s W (hu.ext x) (by omega) (E.below x))
 obtain ⟨K,hK⟩:∃ K,tB c made day l e s=K:=⟨_,rfl⟩
 rw [hK]
 have HP:=VR hK.symm
 obtain ⟨U1,U2,U3,rfl,-⟩:=hu
 have TT:=VR Tz
 clear hK hl E Tz
 unfold ncV
 go_enter Tryz.func145,Tryz.ntmps145
 go_upto_region 1 with fail
 rw [← hwz]
 clear hwz
 obtain ⟨t0,t1,t2,t3,t4,t5,t6,t7,t8,t9,t10⟩:=TT.out.c.cells
 have hl:=TT.out.c.lt
 have s0:=TT.out.s0
 have s1:=TT.out.s1
 have sl:=a9 TT.out.z
 have X:=VR TT.out.ext
 by_cases d1:day<made
 case pos =>
  have HR:=VR (show K=64 by rw [HP.out];exact if_pos (.inl d1))
  clear HP
  go_wp2_with fail
  go_ret
  exact ⟨by first | (rw [HR.out];rfl) | rw [HR.out],X.out⟩
 have hd1:¬ day<made:=d1
 by_cases d2:made<c.fr
 case pos =>
  have HR:=VR (show K=64 by rw [HP.out];exact if_pos (.inr d2))
  clear HP
  go_wp2_with fail
  go_ret
  exact ⟨by first | (rw [HR.out];rfl) | rw [HR.out],X.out⟩
 have HN:=VR (show ¬ (day<made ∨ made<c.fr) from fun q=>q.elim d1 d2)
 by_cases d3:c.un<made
 case pos =>
  have HR:=VR (show K=63 by rw [HP.out];unfold tB;rw [if_neg HN.out,if_pos d3])
  clear HP
  go_wp2_with fail
  go_ret
  exact ⟨by first | (rw [HR.out];rfl) | rw [HR.out],X.out⟩
 have HR:=VR (show K=if jH c.key l e s=true then 0 else 11 by rw [HP.out];unfold tB;rw [if_neg HN.out,if_neg d3])
 clear HP HN
 go_wp2_with fail
 refine (HVF.out _ X.out).mono ?_
 rintro e0 w9 ⟨rfl,b9⟩
 have X9:=VR (X.out.tr b9)
 clear b9 d1 d2 d3 hd1 X
 clear t0 t1 t2 t3 t4 t5 t6 t7 t8 t9 t10 hl s0 s1 sl
 generalize jH c.key l e s=q at *
 cases q
 · go_wp2_with fail
   go_ret
   exact ⟨by first | (rw [HR.out];rfl) | rw [HR.out],X9.out⟩
 · go_wp2_with fail
   go_ret
   exact ⟨by first | (rw [HR.out];rfl) | rw [HR.out],X9.out⟩
set_option maxHeartbeats 8000000 in
theorem sR (s0 s1 s2 s3 s4:SlT) (roots pool:List NC) (m:MA) (v:Value) (day:Int) (w:World) (h1:RdN w (slV s0) roots) (h2:RdN w (slV s1) pool) (hs1:smL roots) (hs2:smL pool) (hll:roots.length+pool.length≤900000) (hv:RdN w v m.roots) (hs:smL m.roots) (hg:smN m.sg) (ht:m.st.length≤maxLen) (E:dI w 1) :
 Calls Tryz.prog 54 #[cH s0 s1 s2 s3 s4,maV m v,.int .i64 day] w (eP w (.int .i64 (lX roots pool m day))):=by
 obtain ⟨wz,hwz,Tz⟩:=pA w s0 s1 s2 s3 s4 m v
 have HCK:=VR (fun W (e:Ext w W)=>vT m v W (RdK.ext hv e) hs hg ht (E.below e))
 have HBD:=VR (fun W (e:Ext w W)=>yJ m v W (RdK.ext hv e) hs hg ht (E.below e))
 have HSN:=VR (fun (u:Value) W (x:Ext w W) (hu:Rd W u (bvs (byM m)))=>DG m.sg m.day day m.e m.s W (RdK.ext h1 x) (RdK.ext h2 x) hu (by have:=tP m;omega) hs1 hs2 hg hll (E.below x))
 obtain ⟨K,hK⟩:∃ K,lX roots pool m day=K:=⟨_,rfl⟩
 rw [hK]
 have HK:=VR hK
 obtain ⟨A,n,cp,rfl,hn,-⟩:=hv.at_
 subst hn
 have TV:=VR Tz
 clear hK h1 h2 hs1 hs2 hll hs hg ht E Tz hv
 unfold cH maV aB
 go_enter Tryz.func54,Tryz.ntmps54
 go_upto_region 1 with fail
 rw [← hwz]
 clear hwz
 have HR0:=VR TV.out.m.row
 go_wp2_with (refine wpList_load_row rfl 80 _ rfl (w.heap.size+1) rfl 80 (aB m (.slice A m.roots.length cp)).toArray (0,0) _ HR0.out Tryz.underlying80 rfl aN ?_)
 refine (HCK.out _ TV.out.ext).mono ?_
 rintro e0 w1 ⟨rfl,b1⟩
 have TV1:=VR (TV.out.tr b1)
 clear TV b1 HR0
 have TV:=TV1
 clear TV1
 by_cases hc:ckM m=0
 case neg =>
  have HR:=VR (show K=ckM m by rw [← HK.out];exact if_pos hc)
  have hb:(ckM m != 0)=true:=by simpa using hc
  have X:=VR TV.out.ext
  clear hc
  go_wp2_with fail
  go_ret
  exact ⟨by first | (rw [HR.out];rfl) | rw [HR.out],X.out⟩
 have HP:=VR (show K=wE roots pool m.sg m.day day (byM m) m.e m.s by rw [← HK.out];unfold lX;rw [if_neg (not_not_intro hc)])
 have HC:=VR hc
 rw [hc]
 clear hc HK
 have HR0:=VR TV.out.m.row
 go_wp2_with (refine wpList_load_row rfl 80 _ rfl (w.heap.size+1) rfl 80 (aB m (.slice A m.roots.length cp)).toArray (0,0) _ HR0.out Tryz.underlying80 rfl aN ?_)
 refine (HBD.out _ TV.out.ext).mono ?_
 rintro e0 w2 ⟨A1,n1,c1,rfl,hn1,r1,b2⟩
 rw [HC.out]
 have TV1:=VR (TV.out.tr b2)
 clear TV b2 HR0 hn1
 have TV:=TV1
 clear TV1
 have HRB:=VR r1
 clear r1
 have k0:w2.cell? ⟨w.heap.size,0,none⟩=some (.slice s0.1 s0.2.1 s0.2.2):=by rw [cell_of_row _ _ 0 _ _ _ TV.out.s];rfl
 have k1:w2.cell? ⟨w.heap.size,1,none⟩=some (.slice s1.1 s1.2.1 s1.2.2):=by rw [cell_of_row _ _ 1 _ _ _ TV.out.s];rfl
 have c2:=TV.out.m.c2
 have c4:=TV.out.m.c4
 have c5:=TV.out.m.c5
 have c6:=TV.out.m.c6
 have c7:=TV.out.m.c7
 have c8:=TV.out.m.c8
 have c9:=TV.out.m.c9
 have c10:=TV.out.m.c10
 have c11:=TV.out.m.c11
 have c12:=TV.out.m.c12
 have c13:=TV.out.m.c13
 have c14:=TV.out.m.c14
 have c15:=TV.out.m.c15
 have c16:=TV.out.m.c16
 have cl:=TV.out.m.lt
 have kl:=a9 TV.out.s
 go_wp2_with fail
 refine (HSN.out _ _ TV.out.ext HRB.out).mono ?_
 rintro e0 w3 ⟨rfl,b3⟩
 clear k0 k1 c2 c4 c5 c6 c7 c8 c9 c10 c11 c12 c13 c14 c15 c16 cl kl
 have X:=VR (TV.out.ext.tr b3)
 clear b3 TV HRB
 generalize wE roots pool m.sg m.day day (byM m) m.e m.s=q at *
 by_cases hq:q=0
 · have HR:=VR (show K=0 by rw [HP.out,hq])
   subst hq
   clear HP
   go_wp2_with fail
   go_ret
   exact ⟨by first | (rw [HR.out];rfl) | rw [HR.out],X.out⟩
 · have hb:(q != 0)=true:=by simpa using hq
   clear hq
   go_wp2_with fail
   go_ret
   exact ⟨by first | (rw [HP.out];rfl) | rw [HP.out],X.out⟩
set_option maxHeartbeats 8000000 in
theorem wG (s0 s1 s2 s3 s4:SlT) (roots pool:List NC) (m:MA) (v:Value) (day:Int) (w:World) (h1:RdN w (slV s0) roots) (h2:RdN w (slV s1) pool) (hs1:smL roots) (hs2:smL pool) (hll:roots.length+pool.length≤900000) (hv:RdN w v m.roots) (hs:smL m.roots) (hg:smN m.sg) (ht:m.st.length≤maxLen) (E:dI w 0) :
 Calls Tryz.prog 55 #[cH s0 s1 s2 s3 s4,maV m v,.int .i64 day] w (eP w (.int .i64 (lX roots pool m day))):=by
 obtain ⟨wz,hwz,Tz⟩:=pA w s0 s1 s2 s3 s4 m v
 have HCK:=VR (fun W (e:Ext w W)=>oN m v W (RdK.ext hv e) hs hg ht (E.below e))
 have HBD:=VR (fun W (e:Ext w W)=>qF m v W (RdK.ext hv e) hs hg ht (E.below e))
 have HPT:=VR (fun W (x:Ext w W)=>zW m.sg day W (RdK.ext h1 x) (RdK.ext h2 x) hs1 hs2 hg hll (E.below x))
 have HPB:=VR (fun (u:Value) W (x:Ext w W) (hu:Rd W u (bvs (byM m)))=>FS m.sg m.day day m.e m.s W hu (by have:=tP m;omega) (E.below x))
 obtain ⟨K,hK⟩:∃ K,lX roots pool m day=K:=⟨_,rfl⟩
 rw [hK]
 have HK:=VR hK
 obtain ⟨A,n,cp,rfl,hn,-⟩:=hv.at_
 subst hn
 have TV:=VR Tz
 clear hK h1 h2 hs1 hs2 hll hs hg ht E Tz hv
 unfold cH maV aB
 go_enter Tryz.func55,Tryz.ntmps55
 go_upto_region 1 with fail
 rw [← hwz]
 clear hwz
 have HR0:=VR TV.out.m.row
 go_wp2_with (refine wpList_load_row rfl 80 _ rfl (w.heap.size+1) rfl 80 (aB m (.slice A m.roots.length cp)).toArray (0,0) _ HR0.out Tryz.underlying80 rfl aN ?_)
 refine (HCK.out _ TV.out.ext).mono ?_
 rintro e0 w1 ⟨rfl,b1⟩
 have TV1:=VR (TV.out.tr b1)
 clear TV b1 HR0
 have TV:=TV1
 clear TV1
 by_cases hc:ckM m=0
 case neg =>
  have HR:=VR (show K=ckM m by rw [← HK.out];exact if_pos hc)
  have hb:(ckM m != 0)=true:=by simpa using hc
  have X:=VR TV.out.ext
  clear hc
  go_wp2_with fail
  go_ret
  exact ⟨by first | (rw [HR.out];rfl) | rw [HR.out],X.out⟩
 have HP:=VR (show K=wE roots pool m.sg m.day day (byM m) m.e m.s by rw [← HK.out];unfold lX;rw [if_neg (not_not_intro hc)])
 have HC:=VR hc
 rw [hc]
 clear hc HK
 have k0:w1.cell? ⟨w.heap.size,0,none⟩=some (.slice s0.1 s0.2.1 s0.2.2):=by rw [cell_of_row _ _ 0 _ _ _ TV.out.s];rfl
 have k1:w1.cell? ⟨w.heap.size,1,none⟩=some (.slice s1.1 s1.2.1 s1.2.2):=by rw [cell_of_row _ _ 1 _ _ _ TV.out.s];rfl
 have c2:=TV.out.m.c2
 have c4:=TV.out.m.c4
 have c5:=TV.out.m.c5
 have c6:=TV.out.m.c6
 have c7:=TV.out.m.c7
 have c8:=TV.out.m.c8
 have c9:=TV.out.m.c9
 have c10:=TV.out.m.c10
 have c11:=TV.out.m.c11
 have c12:=TV.out.m.c12
 have c13:=TV.out.m.c13
 have c14:=TV.out.m.c14
 have c15:=TV.out.m.c15
 have c16:=TV.out.m.c16
 have cl:=TV.out.m.lt
 have kl:=a9 TV.out.s
 go_wp2_with fail
 refine (HPT.out _ TV.out.ext).mono ?_
 rintro e0 w2 ⟨b2,A2,cp2,rfl,-⟩
 clear k0 k1 c2 c4 c5 c6 c7 c8 c9 c10 c11 c12 c13 c14 c15 c16 cl kl
 have TV1:=VR (TV.out.tr b2)
 clear TV b2
 have TV:=TV1
 clear TV1
 by_cases hk:npK roots pool m.sg day=0
 case neg =>
  have HR:=VR (show K=npK roots pool m.sg day by rw [HP.out];exact if_pos hk)
  have hb:(npK roots pool m.sg day != 0)=true:=by simpa using hk
  have X:=VR TV.out.ext
  clear hk
  go_wp2_with fail
  go_ret
  exact ⟨by first | (rw [HR.out];rfl) | rw [HR.out],X.out⟩
 have HR:=VR (show K=tB m.sg m.day day (byM m) m.e m.s by rw [HP.out];unfold wE;rw [if_neg (not_not_intro hk)])
 rw [hk]
 clear hk HP
 have HR0:=VR TV.out.m.row
 go_wp2_with (refine wpList_load_row rfl 80 _ rfl (w.heap.size+1) rfl 80 (aB m (.slice A m.roots.length cp)).toArray (0,0) _ HR0.out Tryz.underlying80 rfl aN ?_)
 refine (HBD.out _ TV.out.ext).mono ?_
 rintro e0 w3 ⟨A1,n1,c1,rfl,hn1,r1,b3⟩
 rw [HC.out]
 have TV1:=VR (TV.out.tr b3)
 clear TV b3 HR0 hn1
 have TV:=TV1
 clear TV1
 have HRB:=VR r1
 clear r1
 have k0:w3.cell? ⟨w.heap.size,0,none⟩=some (.slice s0.1 s0.2.1 s0.2.2):=by rw [cell_of_row _ _ 0 _ _ _ TV.out.s];rfl
 have k1:w3.cell? ⟨w.heap.size,1,none⟩=some (.slice s1.1 s1.2.1 s1.2.2):=by rw [cell_of_row _ _ 1 _ _ _ TV.out.s];rfl
 have c2:=TV.out.m.c2
 have c4:=TV.out.m.c4
 have c5:=TV.out.m.c5
 have c6:=TV.out.m.c6
 have c7:=TV.out.m.c7
 have c8:=TV.out.m.c8
 have c9:=TV.out.m.c9
 have c10:=TV.out.m.c10
 have c11:=TV.out.m.c11
 have c12:=TV.out.m.c12
 have c13:=TV.out.m.c13
 have c14:=TV.out.m.c14
 have c15:=TV.out.m.c15
 have c16:=TV.out.m.c16
 have cl:=TV.out.m.lt
 have kl:=a9 TV.out.s
 go_wp2_with fail
 refine (HPB.out _ _ TV.out.ext HRB.out).mono ?_
 rintro e0 w4 ⟨rfl,b4⟩
 clear k0 k1 c2 c4 c5 c6 c7 c8 c9 c10 c11 c12 c13 c14 c15 c16 cl kl
 have X:=VR (TV.out.ext.tr b4)
 clear b4 TV HRB
 go_wp2_with fail
 go_ret
 exact ⟨by first | (rw [HR.out];rfl) | rw [HR.out],X.out⟩
theorem aX.new (w:World) (m:MA) (v:Value):aX (w.alloc (.cells #[.string (aI m.st),.int .i64 m.num,.int .i64 m.day,v,.string (aI m.sg.st),.int .i64 m.sg.kind,.int .i64 m.sg.num,.int .i64 m.sg.iss,.int .i64 m.sg.own,.int .i64 m.sg.key,.int .i64 m.sg.fr,.int .i64 m.sg.un,.int .i64 m.sg.to,.int .i64 m.sg.e,.int .i64 m.sg.s,.int .i64 m.e,.int .i64 m.s] 80)) w.heap.size m v:=aC w _
def QD (B n:Nat) (xs:List Value) (r:MA) (A:Option Addr) (c:Nat) (w:World):Prop:=∃ u,aJ w B 80 17 (.slice A (n+1) c) (xs++aB r u)∧aJ w B 56 11 u (aA r.roots)
structure FT (B:Nat) (v:Value) (n:Nat) (xs:List Value) (r:MA) (w w':World):Prop where
 g:w.grownBy w' (aL v)
 p1:aJ w B 80 17 v xs→aJ w' B 80 17 v xs
 p2:aJ w B 80 17 v xs→∀ u,aJ w B 56 11 u (aA r.roots)→aJ w' B 56 11 u (aA r.roots)
 p3:aJ w B 80 17 v xs→∀ A c,QD B n xs r A c w→QD B n xs r A c w'
def apM (B:Nat) (v:Value) (n:Nat) (xs:List Value) (r:MA):Gr.Rl where
 rel:=fun w w'=>aJ w B 80 17 v xs→FT B v n xs r w w'
 refl:=fun w _=>⟨World.grownBy.refl _ _,id,fun _ _ h=>h,fun _ _ _ h=>h⟩
 tr:=fun h k q=>⟨World.grownBy.trans (h q).g (k ((h q).p1 q)).g,fun o=>(k ((h q).p1 q)).p1 ((h q).p1 o),fun o u x=>(k ((h q).p1 q)).p2 ((h q).p1 q) u ((h q).p2 q u x),fun o A c x=>(k ((h q).p1 q)).p3 ((h q).p1 q) A c ((h q).p3 q A c x)⟩
 ext:=fun e _=>⟨⟨e.os,e.tape,e.output,e.size,fun k hk _=>e.block k hk⟩,fun o=>o.ext e,fun _ u x=>x.ext e,fun _ A c ⟨u,h1,h2⟩=>⟨u,h1.ext e,h2.ext e⟩⟩
theorem QE {B:Nat}{v:Value}{n:Nat}{xs:List Value}{r:MA}{ty:TypeId}{w:World}{src u:Value} (o:aJ w B 80 17 v xs) (hn:n*17=xs.length) (hr:RdK w 17 src (aB r u)) (hu:aJ w B 56 11 u (aA r.roots)) (h15:n≤1000) (hB:B≤w.heap.size) :
 ∃ A c w',(Builtin.append_ #[71,71] ty #[v,src]).run Tryz.prog w=.ok (.slice A (n+1) c) w'∧FT B v n xs r w w'∧QD B n xs r A c w':=by
 obtain ⟨A,c,w',q1,q2,q3,q4,q5⟩:=KD (P:=Tryz.prog) (ty:=ty) (k:=17) (by decide) wA o hn hr (m:=1) rfl (by decide) (kM.one r u (by obtain ⟨A9,n9,c9,e9,_⟩:=hu;rw [e9];rfl)) (by omega) (by unfold maxLen;omega) hB
 have hu':aJ w' B 56 11 u (aA r.roots):=hu.grown q3 (o.row_ne hu (by decide))
 refine ⟨A,c,w',q1,⟨q3,fun _=>q4,fun _ x hx=>hx.grown q3 (o.row_ne hx (by decide)),fun _ A1 c1 ⟨x,h1,h2⟩=>?_⟩,u,q2,hu'⟩
 rcases q5 A1 c1 (aB r x) rfl h1 with h | h
 · exact ⟨x,h,h2.grown q3 (o.row_ne h2 (by decide))⟩
 · exact ⟨u,h,hu'⟩
def GvM (B:Nat) (v0:Value) (xs:List Value) (r:MA):aE:=fun v w=>aJ w B 80 17 v0 xs∧∃ A n c,v=maV r (.slice A n c)∧aJ w B 56 11 (.slice A n c) (aA r.roots)
def GlM (B b0:Nat) (v0:Value) (xs:List Value) (r:MA):aE:=fun v w=>aJ w B 80 17 v0 xs∧∃ g u,v=.slice (some ⟨g,0,none⟩) 1 1∧b0≤g∧w.heap[g]?=some (.cells (aB r u).toArray 80 (0,0))∧aJ w B 56 11 u (aA r.roots)
def GaM (B:Nat) (v0:Value) (n:Nat) (xs:List Value) (r:MA):aE:=fun v w=>aJ w B 80 17 v0 xs∧∃ A c,v=.slice A (n+1) c∧QD B n xs r A c w
theorem FU (B:Nat) (v0:Value) (n:Nat) (xs:List Value) (r:MA):(apM B v0 n xs r).stable (GvM B v0 xs r):=fun v w w' q ⟨o,A,m,c,h1,h2⟩=>⟨(q o).p1 o,A,m,c,h1,(q o).p2 o _ h2⟩
theorem FV {B b0:Nat}{v0:Value} (hb:∀ k,aL v0=some k→k<b0) (n:Nat) (xs:List Value) (r:MA):(apM B v0 n xs r).stable (GlM B b0 v0 xs r):=fun v w w' q ⟨o,g,u,h1,h2,h3,h4⟩ =>
 ⟨(q o).p1 o,g,u,h1,h2,((q o).g.block g (a9 h3) (fun e=>by have:=hb g e.symm;omega)).trans h3,(q o).p2 o _ h4⟩
theorem FW (B:Nat) (v0:Value) (n:Nat) (xs:List Value) (r:MA):(apM B v0 n xs r).stable (GaM B v0 n xs r):=fun v w w' q ⟨o,A,c,h1,h2⟩=>⟨(q o).p1 o,A,c,h1,(q o).p3 o A c h2⟩
theorem KJ (W:World) (r:MA) (A:Option Addr) (n c:Nat):(Instr.buildSlice 71 1 [(0,maV r (.slice A n c))].toArray).run Tryz.prog W=.ok (.slice (some ⟨W.heap.size,0,none⟩) 1 1) (W.alloc (.cells (aB r (.slice A n c)).toArray 80)):=by
 unfold maV aB
 go_simp
theorem GlM.rd {B b0:Nat}{v0:Value}{xs:List Value}{r:MA}{v:Value}{w:World} (h:GlM B b0 v0 xs r v w):∃ u,RdK w 17 v (aB r u)∧aJ w B 56 11 u (aA r.roots):=by
 obtain ⟨_,g,u,rfl,_,hg,hu⟩:=h
 refine ⟨u,⟨_,1,1,rfl,rfl,UX _,by unfold maxLen;omega,fun _=>⟨g,0,rfl,fun j x hx=>?_⟩⟩,hu⟩
 rw [VB,cell_of_row w g j _ _ _ hg]
 simpa using hx
def plM (l:List MA) (st:List UInt8):Int:=match l.findIdx? (fun t=>decide (t.st=st)) with
 | none=>-1
 | some i=>(i:Int)
theorem NN {l:List MA}{st:List UInt8}{j:Nat}{t:MA} (ht:l[j]?=some t) (hp:(decide (t.st=st))=true) (hlt:∀ i u,i<j→l[i]?=some u→(decide (u.st=st))=false):plM l st=(j:Int):=by
 have hj:=(List.getElem?_eq_some_iff.1 ht).1
 unfold plM
 have:l.findIdx? (fun t=>decide (t.st=st))=some j:=by
  rw [List.findIdx?_eq_some_iff_getElem]
  refine ⟨hj,?_,fun i hi=>?_⟩
  · rw [V8 hj] at ht
    rw [Option.some.inj ht];exact hp
  · have:=hlt i _ hi (V8 (by omega))
    simpa using this
 rw [this]
theorem NP {l:List MA}{st:List UInt8} (hlt:∀ (i:Nat) u,l[i]?=some u→(decide (u.st=st))=false):plM l st=-1:=by
 unfold plM
 have:l.findIdx? (fun t=>decide (t.st=st))=none:=by
  rw [List.findIdx?_eq_none_iff]
  intro u hu
  obtain ⟨i,hi⟩:=List.mem_iff_getElem?.1 hu
  exact hlt i u hi
 rw [this]
theorem zY (st:List UInt8) (g:Nat) (r:MA) (A:Option Addr) (n c:Nat) (w:World) (hg:w.cell? ⟨g,0,none⟩=some (.string (aI st))) :
 Calls Tryz.prog 134 #[maV r (.slice A n c),.pointer (some ⟨g,0,none⟩)] w (eP w (.bool (decide (r.st=st)))):=by
 have hl:=World.block_lt_of_cell? w _ hg
 unfold maV aB
 go_enter Tryz.func134,Tryz.ntmps134
 go_wp2
 go_ret
 exact ⟨by show Ending.returned (Value.bool _)=_;rw [fX],(Below.refl _ _).alloc (UX _) _⟩
set_option maxHeartbeats 4000000 in
theorem zZ {v:Value}{l:List MA} (st:List UInt8) (g:Nat) (w:World) (hr:RdX kM w v l) (hg:w.cell? ⟨g,0,none⟩=some (.string (aI st))) :
 Calls Tryz.prog 133 #[v,.func (.func 134) #[] #[.pointer (some ⟨g,0,none⟩)]] w (eP w (.int .i64 (plM l st))):=by
 obtain ⟨A,n,c,rfl,hn,hnc,hcm,hel⟩:=hr.at_
 subst hn
 unfold maxLen at hcm
 have hgl:=World.block_lt_of_cell? w _ hg
 have HE:=VR hel
 clear hel hr
 obtain ⟨r,hr⟩:∃ r,plM l st=r:=⟨_,rfl⟩
 rw [hr]
 have HR:=VR hr
 clear hr
 have HF:=VR (fun t A1 n1 c1 (W:World) (h:Ext w W)=>zY st g t A1 n1 c1 W ((h.cell (p:=⟨g,0,none⟩) hgl).trans hg))
 clear hg
 go_enter Tryz.func133,Tryz.ntmps133
 go_wp2
 go_loopw [5,8] (fun _ i wr=>∃ j:Nat,j≤l.length∧i=.int .i64 (j:Int)∧Ext w wr∧Hid (∀ i u,i<j→l[i]?=some u→(decide (u.st=st))=false)) (fun _ i _=>l.length - (intOf i).toNat)
 case atStart=>exact ⟨0,V7 _,rfl,Below.refl _ _,VR (fun i u h=>by omega)⟩
 case round =>
  obtain ⟨j,hj,rfl,bb,hlt0⟩:=hrel
  by_cases hlt:j<l.length
  · obtain ⟨t,ht⟩:∃ t,l[j]?=some t:=⟨_,V8 hlt⟩
    obtain ⟨b,o,rfl,hbl,u,hcell,hu⟩:=HE.out j t ht
    obtain ⟨A1,n1,c1,rfl,-⟩:=id hu
    have l0:wr.cell? ⟨b,o+j*17,none⟩=some (.string (aI t.st)):=by
     have:=(bb.cell (p:=⟨b,o+(j*17+0),none⟩) hbl).trans (hcell 0 _ rfl)
     exact this
    have l1:wr.cell? ⟨b,o+j*17+1,none⟩=some (.int .i64 t.num):=by
     have:=(bb.cell (p:=⟨b,o+(j*17+1),none⟩) hbl).trans (hcell 1 _ rfl)
     rwa [← V4] at this
    have l2:wr.cell? ⟨b,o+j*17+2,none⟩=some (.int .i64 t.day):=by
     have:=(bb.cell (p:=⟨b,o+(j*17+2),none⟩) hbl).trans (hcell 2 _ rfl)
     rwa [← V4] at this
    have l3:wr.cell? ⟨b,o+j*17+3,none⟩=some (.slice A1 n1 c1):=by
     have:=(bb.cell (p:=⟨b,o+(j*17+3),none⟩) hbl).trans (hcell 3 _ rfl)
     rwa [← V4] at this
    have l4:wr.cell? ⟨b,o+j*17+4,none⟩=some (.string (aI t.sg.st)):=by
     have:=(bb.cell (p:=⟨b,o+(j*17+4),none⟩) hbl).trans (hcell 4 _ rfl)
     rwa [← V4] at this
    have l5:wr.cell? ⟨b,o+j*17+5,none⟩=some (.int .i64 t.sg.kind):=by
     have:=(bb.cell (p:=⟨b,o+(j*17+5),none⟩) hbl).trans (hcell 5 _ rfl)
     rwa [← V4] at this
    have l6:wr.cell? ⟨b,o+j*17+6,none⟩=some (.int .i64 t.sg.num):=by
     have:=(bb.cell (p:=⟨b,o+(j*17+6),none⟩) hbl).trans (hcell 6 _ rfl)
     rwa [← V4] at this
    have l7:wr.cell? ⟨b,o+j*17+7,none⟩=some (.int .i64 t.sg.iss):=by
     have:=(bb.cell (p:=⟨b,o+(j*17+7),none⟩) hbl).trans (hcell 7 _ rfl)
     rwa [← V4] at this
    have l8:wr.cell? ⟨b,o+j*17+8,none⟩=some (.int .i64 t.sg.own):=by
     have:=(bb.cell (p:=⟨b,o+(j*17+8),none⟩) hbl).trans (hcell 8 _ rfl)
     rwa [← V4] at this
    have l9:wr.cell? ⟨b,o+j*17+9,none⟩=some (.int .i64 t.sg.key):=by
     have:=(bb.cell (p:=⟨b,o+(j*17+9),none⟩) hbl).trans (hcell 9 _ rfl)
     rwa [← V4] at this
    have l10:wr.cell? ⟨b,o+j*17+10,none⟩=some (.int .i64 t.sg.fr):=by
     have:=(bb.cell (p:=⟨b,o+(j*17+10),none⟩) hbl).trans (hcell 10 _ rfl)
     rwa [← V4] at this
    have l11:wr.cell? ⟨b,o+j*17+11,none⟩=some (.int .i64 t.sg.un):=by
     have:=(bb.cell (p:=⟨b,o+(j*17+11),none⟩) hbl).trans (hcell 11 _ rfl)
     rwa [← V4] at this
    have l12:wr.cell? ⟨b,o+j*17+12,none⟩=some (.int .i64 t.sg.to):=by
     have:=(bb.cell (p:=⟨b,o+(j*17+12),none⟩) hbl).trans (hcell 12 _ rfl)
     rwa [← V4] at this
    have l13:wr.cell? ⟨b,o+j*17+13,none⟩=some (.int .i64 t.sg.e):=by
     have:=(bb.cell (p:=⟨b,o+(j*17+13),none⟩) hbl).trans (hcell 13 _ rfl)
     rwa [← V4] at this
    have l14:wr.cell? ⟨b,o+j*17+14,none⟩=some (.int .i64 t.sg.s):=by
     have:=(bb.cell (p:=⟨b,o+(j*17+14),none⟩) hbl).trans (hcell 14 _ rfl)
     rwa [← V4] at this
    have l15:wr.cell? ⟨b,o+j*17+15,none⟩=some (.int .i64 t.e):=by
     have:=(bb.cell (p:=⟨b,o+(j*17+15),none⟩) hbl).trans (hcell 15 _ rfl)
     rwa [← V4] at this
    have l16:wr.cell? ⟨b,o+j*17+16,none⟩=some (.int .i64 t.s):=by
     have:=(bb.cell (p:=⟨b,o+(j*17+16),none⟩) hbl).trans (hcell 16 _ rfl)
     rwa [← V4] at this
    have HT:=VR ht
    clear hcell hu ht
    have wi1:IntKind.i64.wrap ((j:Int))=(j:Int):=IntWalk.i64_in _ (by omega)
    have zi1:(0:Int)≤(j:Int):=by omega
    have li1:(j:Int)<(l.length:Int):=by omega
    have ti1:((j:Int)).toNat=j:=by omega
    go_wp2_with fail
    refine (HF.out t A1 n1 c1 _ bb).mono ?_
    rintro e wy ⟨rfl,by_⟩
    cases hq:(decide (t.st=st)) with
    | true =>
      have HN:=VR (show r=(j:Int) by rw [← HR.out];exact NN HT.out hq hlt0.out)
      clear hq
      go_wp2_with fail
      go_ret
      exact ⟨by rw [HN.out];rfl,bb.tr by_⟩
    | false =>
      have HQ:=VR hq
      clear hq
      go_wp2_with fail
      go_roundw
      case rel=>exact ⟨j+1,by omega,by go_num,bb.tr by_,VR (fun i u hi hu=>by
       by_cases h:i=j
       · subst h
         rw [HT.out] at hu
         rw [← Option.some.inj hu];exact HQ.out
       · exact hlt0.out i u (by omega) hu)⟩
      case measure=>simp [intOf];omega
  · obtain rfl:j=l.length:=by omega
    have HN:=VR (show r=-1 by rw [← HR.out];exact NP fun i u hu=>hlt0.out i u (List.getElem?_eq_some_iff.1 hu).1 hu)
    go_wp2
    go_ret
    exact ⟨by rw [HN.out];rfl,bb⟩
theorem aX.range {w:World}{g:Nat}{m:MA}{v:Value} (h:aX w g m v):w.rangeAt g 0 (aB m v):=fun j u hu=>by
 rw [VB,cell_of_row w g j _ _ (0,0) h,List.getElem?_toArray]
 exact hu
theorem wH {w:World}{g:Nat}{s0 s1 s2 s3 s4:SlT} (h:w.heap[g]?=some (.cells (bD s0 s1 s2 s3 s4) 75 (0,0))):w.rangeAt g 0 [slV s0,slV s1,slV s2,slV s3,slV s4]:=fun j u hu=>by
 rw [VB,cell_of_row w g j _ _ (0,0) h,show bD s0 s1 s2 s3 s4=[slV s0,slV s1,slV s2,slV s3,slV s4].toArray from rfl,List.getElem?_toArray]
 exact hu
end Go.Proofs.YtkjplpmogfmhkaaGreatDoor
