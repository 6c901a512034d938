/- Parts Ac Ag Aj of the proof. -/
import Derived.Test.YtkjplpmogfmhkaaGreatDoorLbg
import Derived.Test.YtkjplpmogfmhkaaGreatDoorLay
import Derived.Test.YtkjplpmogfmhkaaGreatDoorLbf
namespace Go.Proofs.YtkjplpmogfmhkaaGreatDoor
open Go.RowKit
open Go.Proofs.YtkjplpmogfmhkaaGreatDoor.Gd (cN mF)
set_option linter.unusedVariables false
set_option maxRecDepth 100000
structure RaM (w wr:World) (s0 s1 s2 s3 s4:SlT) (m:MA) (v:Value):Prop where
 ext:Ext w wr
 s:wr.heap[w.heap.size]?=some (.cells (bD s0 s1 s2 s3 s4) 75 (0,0))
 m:aX wr (w.heap.size+1) m v
 z:wr.heap[w.heap.size+1+1]?=some (.cells #[.slice none 0 0,.slice none 0 0,.slice none 0 0,.slice none 0 0,.slice none 0 0] 75 (0,0))
 sz:w.heap.size+1+1+1≤wr.heap.size
section
variable {w wr wx:World}{s0 s1 s2 s3 s4:SlT}{m:MA}{v:Value}
theorem RaM.below (h:RaM w wr s0 s1 s2 s3 s4 m v) (e:Below (w.heap.size+1+1+1) wr wx):RaM w wx s0 s1 s2 s3 s4 m v :=
 ⟨h.ext.trans (e.mono (by omega)),(e.block _ (by omega)).trans h.s,(e.block _ (by omega)).trans h.m,(e.block _ (by omega)).trans h.z,V9 h.sz e.size⟩
theorem RaM.tr (h:RaM w wr s0 s1 s2 s3 s4 m v) (e:Ext wr wx):RaM w wx s0 s1 s2 s3 s4 m v:=h.below (Below.mono e h.sz)
theorem RaM.put (h:RaM w wr s0 s1 s2 s3 s4 m v) (t2:SlT):RaM w (wr.setCell ⟨w.heap.size,2,none⟩ (.slice t2.1 t2.2.1 t2.2.2)) s0 s1 t2 s3 s4 m v:=by
 have h9:=aG h.s 2 (.slice t2.1 t2.2.1 t2.2.2)
 exact ⟨aH h.ext (UX _),h9,(aW (by omega)).trans h.m,(aW (by omega)).trans h.z,by simpa using h.sz⟩
end
theorem OC (w:World) (s0 s1 s2 s3 s4:SlT) (m:MA) (v:Value):∃ wz,wz=((w.alloc (.cells #[.slice s0.1 s0.2.1 s0.2.2,.slice s1.1 s1.2.1 s1.2.2,.slice s2.1 s2.2.1 s2.2.2,.slice s3.1 s3.2.1 s3.2.2,.slice s4.1 s4.2.1 s4.2.2] 75)).alloc (.cells #[.string (aI m.st),.int .i64 m.num,.int .i64 m.day,v,.string (aI m.sg.st),.int .i64 m.sg.kind,.int .i64 m.sg.num,.int .i64 m.sg.iss,.int .i64 m.sg.own,.int .i64 m.sg.key,.int .i64 m.sg.fr,.int .i64 m.sg.un,.int .i64 m.sg.to,.int .i64 m.sg.e,.int .i64 m.sg.s,.int .i64 m.e,.int .i64 m.s] 80)).alloc (.cells #[.slice none 0 0,.slice none 0 0,.slice none 0 0,.slice none 0 0,.slice none 0 0] 75)∧RaM w wz s0 s1 s2 s3 s4 m v:=by
 obtain ⟨w2,h2,TZ⟩:=pA w s0 s1 s2 s3 s4 m v
 have hs:w2.heap.size=w.heap.size+1+1:=by rw [h2];simp
 rw [← h2]
 have e3:Ext w2 (w2.alloc (.cells #[.slice none 0 0,.slice none 0 0,.slice none 0 0,.slice none 0 0,.slice none 0 0] 75)):=(Below.refl _ _).alloc (UX _) _
 have T3:=TZ.tr e3
 refine ⟨_,rfl,T3.ext,T3.s,T3.m,?_,by simp [hs]⟩
 have:=aC w2 (.cells #[.slice none 0 0,.slice none 0 0,.slice none 0 0,.slice none 0 0,.slice none 0 0] 75)
 rw [hs] at this
 exact this
def RfA (w:World) (s0 s1 s2 s3 s4:SlT) (S:ST) (ps:List (MA × Value)) (m:MA) (v:Value) (r:ST × Int) (e:Ending) (w':World):Prop :=
 ∃ t2:SlT,e=.returned (.tuple #[cH s0 s1 t2 s3 s4,.int .i64 r.2])∧Ext w w'∧((t2=s2∧r.1=S) ∨ ∃ qs:List (MA × Value),aJ w' w.heap.size 80 17 (slV t2) (kM.cells qs)∧r.1=⟨S.roots,S.pool,qs.map Prod.fst,S.rs,S.ds⟩∧∀ p ∈ qs,p ∈ ps ∨ p=(m,v))
set_option maxHeartbeats 16000000 in
theorem wN (s0 s1 s2 s3 s4:SlT) (S:ST) (ps:List (MA × Value)) (m:MA) (v:Value) (day:Int) (w:World) (h0:RdN w (slV s0) S.roots) (h1:RdN w (slV s1) S.pool) (h2:RdK w 17 (slV s2) (kM.cells ps)) (hps:ps.map Prod.fst=S.ms) (hin:∀ p ∈ ps,RdK w 11 p.2 (aA p.1.roots))
 (hs1:smL S.roots) (hs2:smL S.pool) (hll:S.roots.length+S.pool.length≤900000) (hl:ps.length≤1000) (hv:RdN w v m.roots) (hs:smL m.roots) (hg:smN m.sg) (ht:m.st.length≤maxLen) (E:dI w 0) :
 Calls Tryz.prog 51 #[cH s0 s1 s2 s3 s4,maV m v,.int .i64 day] w (RfA w s0 s1 s2 s3 s4 S ps m v (dP S m day)):=by
 obtain ⟨wz,hwz,TZ⟩:=OC w s0 s1 s2 s3 s4 m v
 have hpl:ps.length=S.ms.length:=by rw [← hps,List.length_map]
 have HVF:=VR (fun W (e:Ext w W)=>wG s0 s1 s2 s3 s4 S.roots S.pool m v day W (RdK.ext h0 e) (RdK.ext h1 e) hs1 hs2 hll (RdK.ext hv e) hs hg ht (E.below e))
 obtain ⟨A,n,cq,rfl,hn,-⟩:=hv.at_
 subst hn
 have HRX:=VR (show RdX kM w (slV s2) S.ms from ⟨ps,hps,h2,hin⟩)
 have HON:=VR (LK.cells_one (K:=kM) (ps:=ps) (fun p hp=>(hin p hp).oneU))
 have HPM:=VR (And.intro hps hpl)
 have HL:=VR hl
 have H2:=VR h2
 have Z0:=VR TZ
 obtain ⟨ac,hac⟩:∃ ac,dP S m day=ac:=⟨_,rfl⟩
 rw [hac]
 have HAC:=VR hac
 have HQ:=fun (s:List UInt8)=>fX s m.st
 have hml:S.ms.length≤1000:=by omega
 clear hac h0 h1 h2 hps hin hs1 hs2 hll hl hv hs hg ht E TZ hpl
 unfold cH maV aB
 go_enter Tryz.func51,Tryz.ntmps51
 go_upto_region 1 with fail
 rw [← hwz]
 clear hwz
 have HS:=VR Z0.out.s
 have HR:=VR Z0.out.m.row
 go_wp2_with (first | (refine wpList_load_row rfl 75 _ rfl w.heap.size rfl 75 (bD s0 s1 s2 s3 s4) (0,0) _ HS.out Tryz.underlying75 rfl aY ?_) | (refine wpList_load_row rfl 80 _ rfl (w.heap.size+1) rfl 80 (aB m (Value.slice A m.roots.length cq)).toArray (0,0) _ HR.out Tryz.underlying80 rfl aN ?_))
 refine (HVF.out wz Z0.out.ext).mono ?_
 rintro e w3 ⟨rfl,b3⟩
 have Z3:=VR (Z0.out.tr b3)
 clear b3 HS HR Z0 HVF
 obtain ⟨sv,hsv⟩:∃ sv,lX S.roots S.pool m day=sv:=⟨_,rfl⟩
 rw [hsv]
 have HSV:=VR hsv
 clear hsv
 by_cases d2:sv=0
 case neg =>
  have HA:=VR (show ac=(S,sv) by rw [← HAC.out];unfold dP;rw [HSV.out,if_pos d2])
  have hb:(sv != 0)=true:=by simpa using d2
  clear d2
  have HO:=VR Z3.out.s
  have HZ:=VR Z3.out.z
  have H1:=VR (eG s0 s1 s2 s3 s4)
  go_wp2_with (first | (refine wpList_load_row rfl 75 _ rfl w.heap.size rfl 75 (bD s0 s1 s2 s3 s4) (0,0) _ HO.out Tryz.underlying75 rfl aY ?_) | (refine aK rfl 75 _ _ rfl rfl (w.heap.size+1+1) (bD s0 s1 s2 s3 s4) rfl rfl 75 #[.slice none 0 0,.slice none 0 0,.slice none 0 0,.slice none 0 0,.slice none 0 0] HZ.out aY rfl H1.out ?_))
  have HY:=VR (aZ (cells:=bD s0 s1 s2 s3 s4) HZ.out)
  refine bodyPost_ret (v:=.tuple #[.agg (bD s0 s1 s2 s3 s4),.int .i64 sv]) ?_ rfl ⟨s2,by rw [HA.out];rfl,aQ Z3.out.ext (by omega) _,.inl ⟨rfl,by rw [HA.out]⟩⟩
  simp [results,Tryz.results51,asAddr,run_loadVar_row _ (w.heap.size+1+1) 75 75 (bD s0 s1 s2 s3 s4) (0,0) _ HY.out Tryz.underlying75 rfl aY]
 subst d2
 have HBR:=VR (show ac=match S.ms.findIdx? (fun t=>decide (t.st=m.st)) with
  | some i=>if m.num≤(S.ms.getD i bQ).num then (S,67) else (⟨S.roots,S.pool,S.ms.set i m,S.rs,S.ds⟩,0)
  | none=>if 16≤S.ms.length then (S,72) else (⟨S.roots,S.pool,S.ms++[m],S.rs,S.ds⟩,0) by
    rw [← HAC.out];unfold dP;rw [HSV.out,if_neg (fun q=>q rfl)];rfl)
 clear HAC HSV
 obtain ⟨A3,n3,c3,e3,hn3,hnc3,hcm3,hel3⟩:=HRX.out.at_
 obtain ⟨sA3,sn3,sc3⟩:=s2
 unfold slV at e3
 injection e3 with e31 e32 e33
 simp only at e31 e32 e33
 subst e31 e32 e33 hn3
 unfold maxLen at hcm3
 have HEL:=VR hel3
 clear hel3 HRX
 have k2:w3.cell? ⟨w.heap.size,2,none⟩=some (.slice sA3 S.ms.length sc3):=by rw [cell_of_row _ _ 2 _ _ _ Z3.out.s];rfl
 have kl:=a9 Z3.out.s
 have wk:IntKind.i64.wrap ((S.ms.length:Int) - 1)=(S.ms.length:Int) - 1:=IntWalk.i64_in _ (by omega)
 go_wp2_with fail
 clear k2 kl wk
 go_loopw [9,10] (fun s9 s10 wr=>∃ k:Nat,k≤S.ms.length∧s9=.int .i64 ((rR (fun t=>decide (t.st=m.st)) S.ms k:Nat):Int)∧s10=.int .i64 ((k:Int) - 1)∧Hid (RaM w wr s0 s1 (sA3,S.ms.length,sc3) s3 s4 m (Value.slice A m.roots.length cq))) (fun _ s10 _=>(intOf s10+1).toNat)
 case atStart=>exact ⟨S.ms.length,UX _,by rw [O7],rfl,Z3⟩
 case round =>
  clear Z3
  obtain ⟨k,hk,rfl,rfl,Z4⟩:=hrel
  by_cases hk0:k=0
  case neg =>
   obtain ⟨j,rfl⟩:∃ j,k=j+1:=⟨k - 1,by omega⟩
   rw [show ((j+1:Nat):Int) - 1=(j:Int) by omega]
   have hj0:(0:Int)≤(j:Int):=by omega
   obtain ⟨t,hq⟩:∃ t,S.ms[j]?=some t:=⟨_,V8 (by omega)⟩
   obtain ⟨b,o,rfl,hbl,u,hcell,hu⟩:=HEL.out j t hq
   have p0:=(Z4.out.ext.cell (p:=⟨b,o+(j*17+0),none⟩) hbl).trans (hcell 0 _ rfl)
   rw [show o+(j*17+0)=o+j*17 by omega] at p0
   have k2:wr.cell? ⟨w.heap.size,2,none⟩=some (.slice (some ⟨b,o,none⟩) S.ms.length sc3):=by rw [cell_of_row _ _ 2 _ _ _ Z4.out.s];rfl
   have kl:=a9 Z4.out.s
   have c0:=Z4.out.m.c0
   have cl:=Z4.out.m.lt
   have pl:b<wr.heap.size:=VG hbl Z4.out.ext.size
   have HSTP:=VR (KT (p:=fun t=>decide (t.st=m.st)) hq)
   clear hcell hu hq hbl
   have wi1:IntKind.i64.wrap ((j:Int))=(j:Int):=IntWalk.i64_in _ (by omega)
   have zi1:(0:Int)≤(j:Int):=by omega
   have li1:(j:Int)<(S.ms.length:Int):=by omega
   have ti1:((j:Int)).toNat=j:=by omega
   have wj:IntKind.i64.wrap ((j:Int) - 1)=(j:Int) - 1:=IntWalk.i64_in _ (by omega)
   by_cases hst:t.st=m.st
   · have HD:=HQ t.st
     rw [decide_eq_true hst] at HD
     have HF:=VR (show rR (fun t=>decide (t.st=m.st)) S.ms j=j by rw [HSTP.out,if_pos (decide_eq_true hst)])
     clear hst HQ
     go_wp2_with (go_quiet (fail))
     have ZQ:=VR (Z4.out.tr (Ext.drewN_ wr nq))
     clear p0 k2 kl c0 cl pl HD Z4
     generalize wr.drewN nq=wx at *
     go_wp2_with fail
     go_roundw
     case rel=>exact ⟨j,by omega,by rw [HF.out],by go_num,ZQ⟩
     case measure=>simp [intOf]
   · have HD:=HQ t.st
     rw [decide_eq_false hst] at HD
     have HF:=VR (show rR (fun t=>decide (t.st=m.st)) S.ms j=rR (fun t=>decide (t.st=m.st)) S.ms (j+1) by rw [HSTP.out,if_neg (by rw [decide_eq_false hst];decide)])
     clear hst HQ
     go_wp2_with (go_quiet (fail))
     have ZQ:=VR (Z4.out.tr (Ext.drewN_ wr nq))
     clear p0 k2 kl c0 cl pl HD Z4
     generalize wr.drewN nq=wx at *
     go_wp2_with fail
     go_roundw
     case rel=>exact ⟨j,by omega,by rw [HF.out],by go_num,ZQ⟩
     case measure=>simp [intOf]
  case pos =>
  subst hk0
  clear hk
  cases hf:S.ms.findIdx? (fun t=>decide (t.st=m.st)) with
  | none =>
    rw [KW hf]
    rw [hf] at HBR
    clear hf HQ
    go_upto_region 10 with fail
    refine Gd.aO 16 (by kernel_rfl) (by kernel_rfl) ?_
    simp only [VH,VE,VI,VJ]
    intro w1 hw1
    have k3:∀ m1:Lt w1,m1.1.cell? ⟨w.heap.size,2,none⟩=some (.slice sA3 S.ms.length sc3):=fun m1=>by rw [cell_of_row _ _ 2 _ _ _ (Z4.out.tr (hw1.tr m1.2)).s];rfl
    have kl:∀ m1:Lt w1,w.heap.size<m1.1.heap.size:=fun m1=>a9 (Z4.out.tr (hw1.tr m1.2)).s
    repeat (first | (refine Gd.gF (by exact ⟨_,rfl,rfl,rfl⟩) rfl rfl ?_;simp only [Act.put,UY,UZ,V0]) | (refine Gd.aD (by first | exact trivial | exact ⟨_,rfl,rfl,rfl⟩) rfl rfl rfl rfl rfl (fun K hK=>?_);go_big_quiet_op;refine hK _ ?_;clear hK K))
    refine Gd.dT (fun m1=>?_)
    have Z5:=VR (Z4.out.tr (hw1.tr m1.2))
    clear hw1 k3 kl Z4
    generalize m1.1=w5 at *
    show wpList _ _ _ _ _ _
    by_cases d3:16≤S.ms.length
    case pos =>
     have HA:=VR (show ac=(S,72) by rw [HBR.out];exact if_pos d3)
     have hd:(16:Int)≤(S.ms.length:Int):=by omega
     go_upto_region 12 with fail
     have k3:w5.cell? ⟨w.heap.size,2,none⟩=some (.slice sA3 S.ms.length sc3):=by rw [cell_of_row _ _ 2 _ _ _ Z5.out.s];rfl
     have kl:=a9 Z5.out.s
     go_upto_region 13 with fail
     have Z6:=Z5
     clear k3 kl Z5
     try clear hd
     try clear d3
     have HO:=VR Z6.out.s
     have HZ:=VR Z6.out.z
     have H1:=VR (eG s0 s1 (sA3,S.ms.length,sc3) s3 s4)
     go_wp2_with (first | (refine wpList_load_row rfl 75 _ rfl w.heap.size rfl 75 (bD s0 s1 (sA3,S.ms.length,sc3) s3 s4) (0,0) _ HO.out Tryz.underlying75 rfl aY ?_) | (refine aK rfl 75 _ _ rfl rfl (w.heap.size+1+1) (bD s0 s1 (sA3,S.ms.length,sc3) s3 s4) rfl rfl 75 #[.slice none 0 0,.slice none 0 0,.slice none 0 0,.slice none 0 0,.slice none 0 0] HZ.out aY rfl H1.out ?_))
     have HY:=VR (aZ (cells:=bD s0 s1 (sA3,S.ms.length,sc3) s3 s4) HZ.out)
     refine bodyPost_ret (v:=.tuple #[.agg (bD s0 s1 (sA3,S.ms.length,sc3) s3 s4),.int .i64 72]) ?_ rfl ⟨_,by rw [HA.out];rfl,aQ Z6.out.ext (by omega) _,.inl ⟨rfl,by rw [HA.out]⟩⟩
     simp [results,Tryz.results51,asAddr,run_loadVar_row _ (w.heap.size+1+1) 75 75 (bD s0 s1 (sA3,S.ms.length,sc3) s3 s4) (0,0) _ HY.out Tryz.underlying75 rfl aY]
    have HA:=VR (show ac=(⟨S.roots,S.pool,S.ms++[m],S.rs,S.ds⟩,0) by rw [HBR.out];exact if_neg d3)
    have hd:¬ (16:Int)≤(S.ms.length:Int):=by omega
    go_upto_region 12 with fail
    have k3:w5.cell? ⟨w.heap.size,2,none⟩=some (.slice sA3 S.ms.length sc3):=by rw [cell_of_row _ _ 2 _ _ _ Z5.out.s];rfl
    have kl:=a9 Z5.out.s
    go_upto_region 14 with fail
    have Z6:=Z5
    clear k3 kl Z5
    try clear hd
    try clear d3
    have k3:w5.cell? ⟨w.heap.size,2,none⟩=some (.slice sA3 S.ms.length sc3):=by rw [cell_of_row _ _ 2 _ _ _ Z6.out.s];rfl
    have kl:=a9 Z6.out.s
    have eA:Ext w5 (w5.alloc (.cells #[] 80)):=(Below.refl _ _).alloc (UX _) _
    have k4:=(eA.cell (p:=⟨w.heap.size,2,none⟩) kl).trans k3
    have kl4:=VG kl eA.size
    have Z7:=VR (Z6.out.tr eA)
    have HRS:=VR (RdK.ext H2.out Z7.out.ext)
    have XA:=VR (Below.refl (w.heap.size+1+1+1) (w5.alloc (.cells #[] 80)))
    have HOE:=VR (aJ.empty (w5.alloc (.cells #[] 80)) (w.heap.size+1+1+1) 80 17 (some ⟨w5.heap.size,0,none⟩))
    clear eA
    go_upto_region 15 with (refine bP (k:=17) (by decide) wA (n:=0) (m:=ps.length) (B:=w.heap.size+1+1+1) HOE.out rfl HRS.out (by rw [kM.cells_len];rfl) HON.out XA.out (by have:=HL.out;omega) (by have:=HL.out;unfold maxLen;omega) Z7.out.sz rfl rfl rfl rfl ?_;intro A8 n8 c8 w8 hn8 o8 x8 g8)
    have HO8:=VR (show aJ w8 (w.heap.size+1+1+1) 80 17 (.slice A8 n8 c8) (kM.cells ps) from o8)
    have HN8:=VR (show n8=S.ms.length by rw [hn8.out,HPM.out.2,VB])
    have Z8:=VR (Z7.out.below x8)
    clear o8 x8 g8 hn8 k3 k4 kl kl4 Z6 Z7 HOE HRS XA
    by_cases hn8:(S.ms.length:Int)=(n8:Int)
    case neg=>exact absurd (by rw [HN8.out]) hn8
    have hb8:((S.ms.length:Int) == (n8:Int))=true:=by simpa using hn8
    clear hn8
    have y0:=Z8.out.m.c0
    have y1:=Z8.out.m.c1
    have y2:=Z8.out.m.c2
    have y3:=Z8.out.m.c3
    have y4:=Z8.out.m.c4
    have y5:=Z8.out.m.c5
    have y6:=Z8.out.m.c6
    have y7:=Z8.out.m.c7
    have y8:=Z8.out.m.c8
    have y9:=Z8.out.m.c9
    have y10:=Z8.out.m.c10
    have y11:=Z8.out.m.c11
    have y12:=Z8.out.m.c12
    have y13:=Z8.out.m.c13
    have y14:=Z8.out.m.c14
    have y15:=Z8.out.m.c15
    have y16:=Z8.out.m.c16
    have yl:=Z8.out.m.lt
    have eB:Ext w8 (w8.alloc (.cells #[.string (aI m.st),.int .i64 m.num,.int .i64 m.day,Value.slice A m.roots.length cq,.string (aI m.sg.st),.int .i64 m.sg.kind,.int .i64 m.sg.num,.int .i64 m.sg.iss,.int .i64 m.sg.own,.int .i64 m.sg.key,.int .i64 m.sg.fr,.int .i64 m.sg.un,.int .i64 m.sg.to,.int .i64 m.sg.e,.int .i64 m.sg.s,.int .i64 m.e,.int .i64 m.s] 80)):=(Below.refl _ _).alloc (UX _) _
    have HLM:=VR (litM w8 m (Value.slice A m.roots.length cq))
    have HO9:=VR (HO8.out.ext eB)
    have Z9:=VR (Z8.out.tr eB)
    have XB:=VR (Below.refl (w.heap.size+1+1+1) (w8.alloc (.cells #[.string (aI m.st),.int .i64 m.num,.int .i64 m.day,Value.slice A m.roots.length cq,.string (aI m.sg.st),.int .i64 m.sg.kind,.int .i64 m.sg.num,.int .i64 m.sg.iss,.int .i64 m.sg.own,.int .i64 m.sg.key,.int .i64 m.sg.fr,.int .i64 m.sg.un,.int .i64 m.sg.to,.int .i64 m.sg.e,.int .i64 m.sg.s,.int .i64 m.e,.int .i64 m.s] 80)))
    unfold aB at HLM
    clear eB
    go_upto_region 17 with (refine bP (k:=17) (by decide) wA (n:=n8) (m:=1) (B:=w.heap.size+1+1+1) HO9.out (by rw [kM.cells_len,HN8.out,HPM.out.2];rfl) HLM.out (by rfl) (kM.one m (Value.slice A m.roots.length cq) rfl) XB.out (by have:=HN8.out;omega) (by have:=HN8.out;unfold maxLen;omega) Z9.out.sz rfl rfl rfl rfl ?_;intro A10 n10 c10 w10 hn10 o10 x10 g10)
    have o11:aJ w10 (w.heap.size+1+1+1) 80 17 (.slice A10 n10 c10) (kM.cells (ps++[(m,(Value.slice A m.roots.length cq))])):=by
     rw [← kM.cells_snoc]
     exact o10
    have HN10:=VR (show n10=S.ms.length+1 by rw [hn10.out,HN8.out])
    have Z10:=VR (Z9.out.below x10)
    clear o10 x10 g10 hn10 hb8 y0 y1 y2 y3 y4 y5 y6 y7 y8 y9 y10 y11 y12 y13 y14 y15 y16 yl Z8 Z9 HO8 HO9 HLM
    obtain ⟨g,rfl,hBg,hth,hnn,hnc,hcm,o12⟩:=aJ.setRowK (K:=kM) (a:=m) (u:=(Value.slice A m.roots.length cq)) o11 (show S.ms.length<(ps++[(m,(Value.slice A m.roots.length cq))]).length by rw [V5,HPM.out.2];exact Nat.lt_succ_self _)
    have HTH:=VR (show w10.there g (S.ms.length*17) 17 from hth)
    have HO12:=VR (show aJ (w10.setCells g (S.ms.length*17) (aB m (Value.slice A m.roots.length cq))) (w.heap.size+1+1+1) 80 17 (.slice (some ⟨g,0,none⟩) n10 c10) (kM.cells ((ps++[(m,(Value.slice A m.roots.length cq))]).set S.ms.length (m,(Value.slice A m.roots.length cq)))) from o12)
    have HBG:=VR hBg
    unfold maxLen at hcm
    have hix:S.ms.length<n10:=by have:=HN10.out;omega
    have wi2:IntKind.i64.wrap (((S.ms.length:Int)))=((S.ms.length:Int)):=IntWalk.i64_in _ (by omega)
    have zi2:(0:Int)≤((S.ms.length:Int)):=by omega
    have li2:((S.ms.length:Int))<(n10:Int):=by omega
    have ti2:(((S.ms.length:Int))).toNat=S.ms.length:=by omega
    have HR:=VR Z10.out.m.row
    clear o11 o12 hth hnn hBg
    go_step
    go_step
    go_step
    go_step
    go_step
    go_step
    go_step
    refine wpList_load_row rfl 80 _ rfl (w.heap.size+1) rfl 80 (aB m (Value.slice A m.roots.length cq)).toArray (0,0) _ HR.out Tryz.underlying80 rfl aN ?_
    go_step
    go_step
    go_step
    refine gX rfl 80 _ _ rfl rfl g (S.ms.length*17) (aB m (Value.slice A m.roots.length cq)) rfl rfl HTH.out aN (dZ m (Value.slice A m.roots.length cq) rfl) ?_
    have bx:Below (w.heap.size+1+1+1) w10 (w10.setCells g (S.ms.length*17) (aB m (Value.slice A m.roots.length cq))):=(Below.refl _ _).grown (Gb.setCellsU g (aB m (Value.slice A m.roots.length cq)) (S.ms.length*17) w10) Z10.out.sz (fun r hr=>by injection hr with hr;have:=HBG.out;omega)
    have Z12:=VR (Z10.out.below bx)
    clear bx HTH HR Z10
    generalize w10.setCells g (S.ms.length*17) (aB m (Value.slice A m.roots.length cq))=w12 at *
    have Z13:=VR (Z12.out.put (some ⟨g,0,none⟩,n10,c10))
    have HO13:=VR (HO12.out.grown (Gb.set w.heap.size 2 w12 (.slice (some ⟨g,0,none⟩) n10 c10)) (.inr (fun q=>by have:=aT HO12.out _ q;omega)))
    have k3:w12.cell? ⟨w.heap.size,2,none⟩=some (.slice sA3 S.ms.length sc3):=by rw [cell_of_row _ _ 2 _ _ _ Z12.out.s];rfl
    have kl:=a9 Z12.out.s
    have kf:w12.frozen? ⟨w.heap.size,2,none⟩=false:=by simp [World.frozen?,Z12.out.s]
    go_upto_region 19 with fail
    clear k3 kl kf
    generalize w12.setCell ⟨w.heap.size,2,none⟩ (.slice (some ⟨g,0,none⟩) n10 c10)=w13 at *
    have HO:=VR Z13.out.s
    have HZ:=VR Z13.out.z
    have H1:=VR (eG s0 s1 (some ⟨g,0,none⟩,n10,c10) s3 s4)
    go_wp2_with (first | (refine wpList_load_row rfl 75 _ rfl w.heap.size rfl 75 (bD s0 s1 (some ⟨g,0,none⟩,n10,c10) s3 s4) (0,0) _ HO.out Tryz.underlying75 rfl aY ?_) | (refine aK rfl 75 _ _ rfl rfl (w.heap.size+1+1) (bD s0 s1 (some ⟨g,0,none⟩,n10,c10) s3 s4) rfl rfl 75 #[.slice none 0 0,.slice none 0 0,.slice none 0 0,.slice none 0 0,.slice none 0 0] HZ.out aY rfl H1.out ?_))
    have HY:=VR (aZ (cells:=bD s0 s1 (some ⟨g,0,none⟩,n10,c10) s3 s4) HZ.out)
    refine bodyPost_ret (v:=.tuple #[.agg (bD s0 s1 (some ⟨g,0,none⟩,n10,c10) s3 s4),.int .i64 0]) ?_ rfl ⟨(some ⟨g,0,none⟩,n10,c10),by rw [HA.out];rfl,aQ Z13.out.ext (by omega) _,.inr ⟨(ps++[(m,(Value.slice A m.roots.length cq))]).set S.ms.length (m,(Value.slice A m.roots.length cq)),(HO13.out.setR (fun q=>by have:=aT HO13.out _ q;omega)).mono (by omega),by rw [HA.out,← HPM.out.2,CV,List.map_append,HPM.out.1];rfl,fun p hp=>by rw [← HPM.out.2,CV] at hp;exact (List.mem_append.1 hp).imp id (fun q=>List.mem_singleton.1 q)⟩⟩
    simp [results,Tryz.results51,asAddr,run_loadVar_row _ (w.heap.size+1+1) 75 75 (bD s0 s1 (some ⟨g,0,none⟩,n10,c10) s3 s4) (0,0) _ HY.out Tryz.underlying75 rfl aY]
  | some i =>
    obtain ⟨hlow,hil⟩:=KV hf
    rw [hlow]
    rw [hf] at HBR
    clear hf HQ hlow
    obtain ⟨t,hq⟩:∃ t,S.ms[i]?=some t:=⟨_,V8 hil⟩
    have HG:=VR (show S.ms.getD i bQ=t by rw [List.getD_eq_getElem?_getD,hq];rfl)
    obtain ⟨b,o,rfl,hbl,u,hcell,hu⟩:=HEL.out i t hq
    have hn1:w.cell? ⟨b,o+i*17+1,none⟩=some (.int .i64 t.num):=by
     have:=hcell 1 _ rfl
     rwa [← V4] at this
    have HN1:=VR (And.intro hbl hn1)
    clear hcell hu hq hn1 hbl
    have wi3:IntKind.i64.wrap ((i:Int))=(i:Int):=IntWalk.i64_in _ (by omega)
    have zi3:(0:Int)≤(i:Int):=by omega
    have li3:(i:Int)<(S.ms.length:Int):=by omega
    have ti3:((i:Int)).toNat=i:=by omega
    go_upto_region 10 with fail
    refine Gd.aO 16 (by kernel_rfl) (by kernel_rfl) ?_
    simp only [VH,VE,VI,VJ]
    intro w1 hw1
    have LL:∀ m1:Lt w1,Ext wr m1.1:=fun m1=>hw1.tr m1.2
    have k3:∀ m1:Lt w1,m1.1.cell? ⟨w.heap.size,2,none⟩=some (.slice (some ⟨b,o,none⟩) S.ms.length sc3):=fun m1=>by rw [cell_of_row _ _ 2 _ _ _ (Z4.out.tr (LL m1)).s];rfl
    have k1:∀ m1:Lt w1,m1.1.cell? ⟨b,o+i*17+1,none⟩=some (.int .i64 t.num):=fun m1=>((Z4.out.tr (LL m1)).ext.cell (p:=⟨b,o+i*17+1,none⟩) HN1.out.1).trans HN1.out.2
    have kr:∀ m1:Lt w1,m1.1.cell? ⟨w.heap.size+1,1,none⟩=some (.int .i64 m.num):=fun m1=>(Z4.out.tr (LL m1)).m.c1
    have kl:∀ m1:Lt w1,w.heap.size+1<m1.1.heap.size:=fun m1=>(Z4.out.tr (LL m1)).m.lt
    have kl0:∀ m1:Lt w1,w.heap.size<m1.1.heap.size:=fun m1=>Nat.lt_of_succ_lt (kl m1)
    have kb:∀ m1:Lt w1,b<m1.1.heap.size:=fun m1=>VG HN1.out.1 (Z4.out.tr (LL m1)).ext.size
    repeat (first | (refine Gd.gF (by exact ⟨_,rfl,rfl,rfl⟩) rfl rfl ?_;simp only [Act.put,UY,UZ,V0]) | (refine Gd.aD (by first | exact trivial | exact ⟨_,rfl,rfl,rfl⟩) rfl rfl rfl rfl rfl (fun K hK=>?_);go_big_quiet_op;refine hK _ ?_;clear hK K))
    refine Gd.dT (fun m1=>?_)
    have Z5:=VR (Z4.out.tr (LL m1))
    clear hw1 LL k3 k1 kr kl kl0 kb Z4
    generalize m1.1=w5 at *
    show wpList _ _ _ _ _ _
    by_cases d3:m.num≤t.num
    case pos =>
     have HA:=VR (show ac=(S,67) by rw [HBR.out];show (if m.num≤(S.ms.getD i bQ).num then _ else _)=_;rw [HG.out];exact if_pos d3)
     go_upto_region 11 with fail
     clear d3
     have Z6:=Z5
     have HO:=VR Z6.out.s
     have HZ:=VR Z6.out.z
     have H1:=VR (eG s0 s1 (some ⟨b,o,none⟩,S.ms.length,sc3) s3 s4)
     go_wp2_with (first | (refine wpList_load_row rfl 75 _ rfl w.heap.size rfl 75 (bD s0 s1 (some ⟨b,o,none⟩,S.ms.length,sc3) s3 s4) (0,0) _ HO.out Tryz.underlying75 rfl aY ?_) | (refine aK rfl 75 _ _ rfl rfl (w.heap.size+1+1) (bD s0 s1 (some ⟨b,o,none⟩,S.ms.length,sc3) s3 s4) rfl rfl 75 #[.slice none 0 0,.slice none 0 0,.slice none 0 0,.slice none 0 0,.slice none 0 0] HZ.out aY rfl H1.out ?_))
     have HY:=VR (aZ (cells:=bD s0 s1 (some ⟨b,o,none⟩,S.ms.length,sc3) s3 s4) HZ.out)
     refine bodyPost_ret (v:=.tuple #[.agg (bD s0 s1 (some ⟨b,o,none⟩,S.ms.length,sc3) s3 s4),.int .i64 67]) ?_ rfl ⟨_,by rw [HA.out];rfl,aQ Z6.out.ext (by omega) _,.inl ⟨rfl,by rw [HA.out]⟩⟩
     simp [results,Tryz.results51,asAddr,run_loadVar_row _ (w.heap.size+1+1) 75 75 (bD s0 s1 (some ⟨b,o,none⟩,S.ms.length,sc3) s3 s4) (0,0) _ HY.out Tryz.underlying75 rfl aY]
    have HA:=VR (show ac=(⟨S.roots,S.pool,S.ms.set i m,S.rs,S.ds⟩,0) by rw [HBR.out];show (if m.num≤(S.ms.getD i bQ).num then _ else _)=_;rw [HG.out];exact if_neg d3)
    have hne:((i:Int) == (S.ms.length:Int))=false:=by simp;omega
    go_upto_region 12 with fail
    have k3:w5.cell? ⟨w.heap.size,2,none⟩=some (.slice (some ⟨b,o,none⟩) S.ms.length sc3):=by rw [cell_of_row _ _ 2 _ _ _ Z5.out.s];rfl
    have kl:=a9 Z5.out.s
    go_upto_region 14 with fail
    have Z6:=Z5
    clear k3 kl Z5
    try clear hd
    try clear d3
    clear hne
    have k3:w5.cell? ⟨w.heap.size,2,none⟩=some (.slice (some ⟨b,o,none⟩) S.ms.length sc3):=by rw [cell_of_row _ _ 2 _ _ _ Z6.out.s];rfl
    have kl:=a9 Z6.out.s
    have eA:Ext w5 (w5.alloc (.cells #[] 80)):=(Below.refl _ _).alloc (UX _) _
    have k4:=(eA.cell (p:=⟨w.heap.size,2,none⟩) kl).trans k3
    have kl4:=VG kl eA.size
    have Z7:=VR (Z6.out.tr eA)
    have HRS:=VR (RdK.ext H2.out Z7.out.ext)
    have XA:=VR (Below.refl (w.heap.size+1+1+1) (w5.alloc (.cells #[] 80)))
    have HOE:=VR (aJ.empty (w5.alloc (.cells #[] 80)) (w.heap.size+1+1+1) 80 17 (some ⟨w5.heap.size,0,none⟩))
    clear eA
    go_upto_region 15 with (refine bP (k:=17) (by decide) wA (n:=0) (m:=ps.length) (B:=w.heap.size+1+1+1) HOE.out rfl HRS.out (by rw [kM.cells_len];rfl) HON.out XA.out (by have:=HL.out;omega) (by have:=HL.out;unfold maxLen;omega) Z7.out.sz rfl rfl rfl rfl ?_;intro A8 n8 c8 w8 hn8 o8 x8 g8)
    have HO8:=VR (show aJ w8 (w.heap.size+1+1+1) 80 17 (.slice A8 n8 c8) (kM.cells ps) from o8)
    have HN8:=VR (show n8=S.ms.length by rw [hn8.out,HPM.out.2,VB])
    have Z8:=VR (Z7.out.below x8)
    clear o8 x8 g8 hn8 k3 k4 kl kl4 Z6 Z7 HOE HRS XA
    have hb8:((i:Int) == (n8:Int))=false:=by have:=HN8.out;simp;omega
    have o11:=HO8.out
    have Z10:=Z8
    have HN10:=HN8
    go_upto_region 17 with fail
    obtain ⟨g,rfl,hBg,hth,hnn,hnc,hcm,o12⟩:=aJ.setRowK (K:=kM) (a:=m) (u:=(Value.slice A m.roots.length cq)) o11 (show i<(ps).length by rw [HPM.out.2];exact hil)
    have HTH:=VR (show w8.there g (i*17) 17 from hth)
    have HO12:=VR (show aJ (w8.setCells g (i*17) (aB m (Value.slice A m.roots.length cq))) (w.heap.size+1+1+1) 80 17 (.slice (some ⟨g,0,none⟩) n8 c8) (kM.cells (ps.set i (m,(Value.slice A m.roots.length cq)))) from o12)
    have HBG:=VR hBg
    unfold maxLen at hcm
    have hix:i<n8:=by have:=HN10.out;omega
    have wi4:IntKind.i64.wrap (((i:Int)))=((i:Int)):=IntWalk.i64_in _ (by omega)
    have zi4:(0:Int)≤((i:Int)):=by omega
    have li4:((i:Int))<(n8:Int):=by omega
    have ti4:(((i:Int))).toNat=i:=by omega
    have HR:=VR Z10.out.m.row
    clear o11 o12 hth hnn hBg
    go_step
    go_step
    go_step
    go_step
    go_step
    go_step
    go_step
    refine wpList_load_row rfl 80 _ rfl (w.heap.size+1) rfl 80 (aB m (Value.slice A m.roots.length cq)).toArray (0,0) _ HR.out Tryz.underlying80 rfl aN ?_
    go_step
    go_step
    go_step
    refine gX rfl 80 _ _ rfl rfl g (i*17) (aB m (Value.slice A m.roots.length cq)) rfl rfl HTH.out aN (dZ m (Value.slice A m.roots.length cq) rfl) ?_
    have bx:Below (w.heap.size+1+1+1) w8 (w8.setCells g (i*17) (aB m (Value.slice A m.roots.length cq))):=(Below.refl _ _).grown (Gb.setCellsU g (aB m (Value.slice A m.roots.length cq)) (i*17) w8) Z10.out.sz (fun r hr=>by injection hr with hr;have:=HBG.out;omega)
    have Z12:=VR (Z10.out.below bx)
    clear bx HTH HR Z10
    generalize w8.setCells g (i*17) (aB m (Value.slice A m.roots.length cq))=w12 at *
    have Z13:=VR (Z12.out.put (some ⟨g,0,none⟩,n8,c8))
    have HO13:=VR (HO12.out.grown (Gb.set w.heap.size 2 w12 (.slice (some ⟨g,0,none⟩) n8 c8)) (.inr (fun q=>by have:=aT HO12.out _ q;omega)))
    have k3:w12.cell? ⟨w.heap.size,2,none⟩=some (.slice (some ⟨b,o,none⟩) S.ms.length sc3):=by rw [cell_of_row _ _ 2 _ _ _ Z12.out.s];rfl
    have kl:=a9 Z12.out.s
    have kf:w12.frozen? ⟨w.heap.size,2,none⟩=false:=by simp [World.frozen?,Z12.out.s]
    go_upto_region 19 with fail
    clear k3 kl kf
    generalize w12.setCell ⟨w.heap.size,2,none⟩ (.slice (some ⟨g,0,none⟩) n8 c8)=w13 at *
    have HO:=VR Z13.out.s
    have HZ:=VR Z13.out.z
    have H1:=VR (eG s0 s1 (some ⟨g,0,none⟩,n8,c8) s3 s4)
    go_wp2_with (first | (refine wpList_load_row rfl 75 _ rfl w.heap.size rfl 75 (bD s0 s1 (some ⟨g,0,none⟩,n8,c8) s3 s4) (0,0) _ HO.out Tryz.underlying75 rfl aY ?_) | (refine aK rfl 75 _ _ rfl rfl (w.heap.size+1+1) (bD s0 s1 (some ⟨g,0,none⟩,n8,c8) s3 s4) rfl rfl 75 #[.slice none 0 0,.slice none 0 0,.slice none 0 0,.slice none 0 0,.slice none 0 0] HZ.out aY rfl H1.out ?_))
    have HY:=VR (aZ (cells:=bD s0 s1 (some ⟨g,0,none⟩,n8,c8) s3 s4) HZ.out)
    refine bodyPost_ret (v:=.tuple #[.agg (bD s0 s1 (some ⟨g,0,none⟩,n8,c8) s3 s4),.int .i64 0]) ?_ rfl ⟨(some ⟨g,0,none⟩,n8,c8),by rw [HA.out];rfl,aQ Z13.out.ext (by omega) _,.inr ⟨ps.set i (m,(Value.slice A m.roots.length cq)),(HO13.out.setR (fun q=>by have:=aT HO13.out _ q;omega)).mono (by omega),by rw [HA.out,nB,HPM.out.1],fun p hp=>List.mem_or_eq_of_mem_set hp⟩⟩
    simp [results,Tryz.results51,asAddr,run_loadVar_row _ (w.heap.size+1+1) 75 75 (bD s0 s1 (some ⟨g,0,none⟩,n8,c8) s3 s4) (0,0) _ HY.out Tryz.underlying75 rfl aY]
theorem IB:¬ iH 77:=by unfold iH;decide
theorem qK:(Tryz.prog.info? 77).map (·.size)=some 7:=by kernel_rfl
def fL (v:Value) (s0 s1 s2 s3 s4:SlT) (day:Int):Array Value:=#[v,.slice s0.1 s0.2.1 s0.2.2,.slice s1.1 s1.2.1 s1.2.2,.slice s2.1 s2.2.1 s2.2.2,.slice s3.1 s3.2.1 s3.2.2,.slice s4.1 s4.2.1 s4.2.2,.int .i64 day]
theorem yN {v:Value} (s0 s1 s2 s3 s4:SlT) (day:Int) (h:v.oneCell'=true):(fL v s0 s1 s2 s3 s4 day).all (·.oneCell')=true:=by
 simp [fL,Value.oneCell']
 exact h
structure WB (w:World) (P D b:Nat):Prop where
 D1:w.heap.size<D
 b1:w.heap.size<b
 D2:D<P
 b2:b<P
structure WI (w:World) (P D b:Nat) (v:Value) (s0 s1 s2 s3 s4:SlT) (day:Int) (xs:List AB) (wr:World):Prop where
 ext:Ext w wr
 dice:∃ M,dR wr D b M
 rz:wr.heap[w.heap.size]?=some (.cells #[.slice none 0 0,.slice none 0 0,.slice none 0 0,.slice none 0 0,.slice none 0 0,.slice none 0 0,.int .i64 0] 77 (0,0))
 po:wr.heap[P]?=some (.cells (fL v s0 s1 s2 s3 s4 day) 77 (0,0))
 own:aJ wr (P+1) 98 33 v (rQ xs)
section
variable {w wr wx:World}{P D b:Nat}{v v':Value}{s0 s1 s2 s3 s4 t0 t1 t2 t3 t4:SlT}{day:Int}{xs ys:List AB}
theorem WI.tr (h:WI w P D b v s0 s1 s2 s3 s4 day xs wr) (e:Ext wr wx):WI w P D b v s0 s1 s2 s3 s4 day xs wx:=by
 obtain ⟨h1,⟨M,h2⟩,h3,h4,h5⟩:=h
 exact ⟨h1.tr e,⟨M,h2.ext e⟩,(e.block _ (a9 h3)).trans h3,(e.block _ (a9 h4)).trans h4,h5.ext e⟩
theorem WI.dc (h:WI w P D b v s0 s1 s2 s3 s4 day xs wr) (q:WB w P D b) (r:(dcR D b).rel wr wx):WI w P D b v s0 s1 s2 s3 s4 day xs wx:=by
 have h1:=q.D1
 have h2:=q.D2
 exact ⟨Gb.below h.ext r.1 (Nat.le_of_lt q.D1),r.2 h.dice,(r.1.block _ (a9 h.rz) (fun e=>by injection e with e;omega)).trans h.rz,(r.1.block _ (a9 h.po) (fun e=>by injection e with e;omega)).trans h.po,
  h.own.grown r.1 (.inr (fun e=>by have:=aT h.own _ e;omega))⟩
theorem WI.kdc (h:WI w P D b v s0 s1 s2 s3 s4 day xs wr) (r:(dcR D b).rel wr wx):Kp wr wx:=by
 obtain ⟨M,A,n,c,k,full,h1,_⟩:=h.dice
 exact Kp.gb h1 UC r.1
theorem WI.next (h:WI w P D b v s0 s1 s2 s3 s4 day xs wr) (q:WB w P D b) (n:Int) (n1:1≤n) (n2:n≤4611686018427387904) :
 Calls Tryz.prog 111 #[.pointer (some ⟨D,0,none⟩),.int .i64 n] wr fun e w'=>∃ z:Int,0≤z∧z<n∧e=.returned (.int .i64 z)∧WI w P D b v s0 s1 s2 s3 s4 day xs w'∧Kp wr w' :=
 (mZ n h.dice n1 n2).mono fun e w' ⟨u,h1,h2,z,h3,h4,h5⟩=>⟨z,h4,h5,by rw [h1,h3],h.dc q h2,h.kdc h2⟩
theorem WI.app (h:WI w P D b v s0 s1 s2 s3 s4 day xs wr) (q:WB w P D b) (o:aJ wx (P+1) 98 33 v' (rQ ys)) (g:wr.grownBy wx (aL v)) :
 wx.heap[P]?=some (.cells (fL v s0 s1 s2 s3 s4 day) 77 (0,0))∧WI w P D b v' s0 s1 s2 s3 s4 day ys (wx.setCell ⟨P,0,none⟩ v')∧Kp wr (wx.setCell ⟨P,0,none⟩ v'):=by
 have hD1:=q.D1
 have hD2:=q.D2
 have hb1:=q.b1
 have hb2:=q.b2
 have hr:∀ k,k<P+1→some k≠aL v:=fun k hk e=>by have:=aT h.own k e.symm;omega
 obtain ⟨M,hd⟩:=h.dice
 have hP:wx.heap[P]?=some (.cells (fL v s0 s1 s2 s3 s4 day) 77 (0,0)):=(g.block P (a9 h.po) (hr P (Nat.lt_succ_self _))).trans h.po
 have k1:Kp wr wx:=Kp.own h.own R9 g
 refine ⟨hP,⟨aH (h.ext.grown g h.ext.size (fun k hk=>by have:=aT h.own k hk;omega)) (by omega),⟨M,(hd.keep (g.block D hd.lt (hr D (by omega))) (g.block b hd.ltb (hr b (by omega)))).keep (aW (by omega)) (aW (by omega))⟩,
  (aW (by omega)).trans ((g.block _ (a9 h.rz) (hr _ (by omega))).trans h.rz),?_,o.grown (Gb.set P 0 wx v') (.inr (fun e=>by have:=aT o _ e;omega))⟩,k1.tr (Kp.gb hP IB (Gb.set P 0 wx v'))⟩
 have h9:=aG hP 0 v'
 exact h9
theorem WI.put (h:WI w P D b v s0 s1 s2 s3 s4 day xs wr) (q:WB w P D b) (i:Nat) (u:Value) (hr:(fL v s0 s1 s2 s3 s4 day).setIfInBounds i u=fL v t0 t1 t2 t3 t4 day) :
 WI w P D b v t0 t1 t2 t3 t4 day xs (wr.setCell ⟨P,i,none⟩ u)∧Kp wr (wr.setCell ⟨P,i,none⟩ u):=by
 have hD1:=q.D1
 have hD2:=q.D2
 have hb1:=q.b1
 have hb2:=q.b2
 obtain ⟨M,hd⟩:=h.dice
 refine ⟨⟨aH h.ext (by omega),⟨M,hd.keep (aW (by omega)) (aW (by omega))⟩,(aW (by omega)).trans h.rz,?_,h.own.grown (Gb.set P i wr u) (.inr (fun e=>by have:=aT h.own _ e;omega))⟩,Kp.gb h.po IB (Gb.set P i wr u)⟩
 have h9:=aG h.po i u
 rw [hr] at h9
 exact h9
theorem WI.store (h:WI w P D b v s0 s1 s2 s3 s4 day xs wr) (q:WB w P D b) (t0 t1 t2 t3 t4:SlT) :
 WI w P D b v t0 t1 t2 t3 t4 day xs (wr.setCells P 1 [slV t0,slV t1,slV t2,slV t3,slV t4])∧Kp wr (wr.setCells P 1 [slV t0,slV t1,slV t2,slV t3,slV t4]):=by
 have hD1:=q.D1
 have hD2:=q.D2
 have hb1:=q.b1
 have hb2:=q.b2
 have hg:=Gb.setCells P [slV t0,slV t1,slV t2,slV t3,slV t4] 1 wr
 obtain ⟨M,hd⟩:=h.dice
 have bl:∀ k,k≠P→k<wr.heap.size→(wr.setCells P 1 [slV t0,slV t1,slV t2,slV t3,slV t4]).heap[k]?=wr.heap[k]?:=fun k hk hl=>hg.block k hl (fun e=>hk (by injection e))
 refine ⟨⟨Gb.below h.ext hg (by omega),⟨M,hd.keep (bl _ (by omega) hd.lt) (bl _ (by omega) hd.ltb)⟩,(bl _ (by omega) (a9 h.rz)).trans h.rz,?_,h.own.grown hg (.inr (fun e=>by have:=aT h.own _ e;omega))⟩,Kp.gb h.po IB hg⟩
 have h9:=jZ [slV t0,slV t1,slV t2,slV t3,slV t4] [v] [.int .i64 day] wr P [slV s0,slV s1,slV s2,slV s3,slV s4] 77 (0,0) h.po rfl
 rw [fJ]
 exact h9
theorem WI.setAll {gA i:Nat}{y:AB} (h:WI w P D b v s0 s1 s2 s3 s4 day xs wr) (q:WB w P D b) (hB:P+1≤gA) (hT:∃ cs,wr.heap[gA]?=some (.cells cs 98 (0,0))) (o:aJ (wr.setCells gA (i*33) (abL y)) (P+1) 98 33 v (rQ ys)) :
 WI w P D b v s0 s1 s2 s3 s4 day ys (wr.setCells gA (i*33) (abL y))∧Kp wr (wr.setCells gA (i*33) (abL y)):=by
 have hD1:=q.D1
 have hD2:=q.D2
 have hb1:=q.b1
 have hb2:=q.b2
 have hg:=Gb.setCells gA (abL y) (i*33) wr
 obtain ⟨M,hd⟩:=h.dice
 obtain ⟨cs,hT⟩:=hT
 have bl:∀ k,k<P+1→k<wr.heap.size→(wr.setCells gA (i*33) (abL y)).heap[k]?=wr.heap[k]?:=fun k hk hl=>hg.block k hl (fun e=>by injection e with e;omega)
 exact ⟨⟨Gb.below h.ext hg (by omega),⟨M,hd.keep (bl _ (by omega) hd.lt) (bl _ (by omega) hd.ltb)⟩,(bl _ (by omega) (a9 h.rz)).trans h.rz,(bl _ (by omega) (a9 h.po)).trans h.po,o⟩,Kp.gb hT R9 hg⟩
theorem WI.fin (h:WI w P D b v s0 s1 s2 s3 s4 day xs wr) (cs:Array Value):Ext w (wr.setRow w.heap.size cs)∧Kp wr (wr.setRow w.heap.size cs):=⟨aQ h.ext (UX _) _,Kp.gb h.rz IB (Gb.setRow _ _ _)⟩
theorem WI.form (h:WI w P D b v s0 s1 s2 s3 s4 day xs wr):∃ A c,v=.slice A xs.length c:=by
 obtain ⟨A,n,c,e,hn,-⟩:=h.own
 rw [wL] at hn
 obtain rfl:n=xs.length:=VP (by decide) hn
 exact ⟨A,c,e⟩
theorem WI.range {A:Option Addr}{n c i:Nat}{x:AB} (h:WI w P D b (.slice A n c) s0 s1 s2 s3 s4 day xs wr) (hi:xs[i]?=some x):∃ g,A=some ⟨g,0,none⟩∧P+1≤g∧g<wr.heap.size∧n=xs.length∧n≤c∧c≤maxLen∧wr.rangeAt g (i*33) (abL x):=aJ.rangeFlat tQ (by decide) h.own hi
theorem WI.c (h:WI w P D b v s0 s1 s2 s3 s4 day xs wr):wr.rangeAt P 1 [slV s0,slV s1,slV s2,slV s3,slV s4]∧wr.cell? ⟨P,0,none⟩=some v∧wr.cell? ⟨P,1,none⟩=some (slV s0)∧wr.cell? ⟨P,2,none⟩=some (slV s1)∧wr.cell? ⟨P,6,none⟩=some (.int .i64 day)∧P<wr.heap.size∧∀ i,wr.frozen? ⟨P,i,none⟩=false:=by
 have hp:=h.po
 refine ⟨fun j u hu=>?_,by rw [cell_of_row _ _ 0 _ _ _ hp];rfl,by rw [cell_of_row _ _ 1 _ _ _ hp];rfl,by rw [cell_of_row _ _ 2 _ _ _ hp];rfl,by rw [cell_of_row _ _ 6 _ _ _ hp];rfl,a9 hp,fun i=>by simp [World.frozen?,hp]⟩
 rw [cell_of_row _ _ _ _ _ _ hp,show fL v s0 s1 s2 s3 s4 day=([v]++[slV s0,slV s1,slV s2,slV s3,slV s4]++[Value.int .i64 day]).toArray from rfl,List.getElem?_toArray,VF,List.getElem?_append_right (by show 1≤1+j;omega),show 1+j - [v].length=j by show 1+j - 1=j;omega,List.getElem?_append_left (List.getElem?_eq_some_iff.1 hu).1]
 exact hu
end
theorem QL (w:World):∃ wz,wz=w.alloc (.cells #[.slice none 0 0,.slice none 0 0,.slice none 0 0,.slice none 0 0,.slice none 0 0,.slice none 0 0,.int .i64 0] 77)∧Ext w wz∧wz.heap[w.heap.size]?=some (.cells #[.slice none 0 0,.slice none 0 0,.slice none 0 0,.slice none 0 0,.slice none 0 0,.slice none 0 0,.int .i64 0] 77 (0,0)) :=
 ⟨_,rfl,(Below.refl _ _).alloc (UX _) _,aC w _⟩
theorem SN (w:World) (day:Int):∃ wz,wz=w.alloc (.cells #[.slice none 0 0,.slice none 0 0,.slice none 0 0,.slice none 0 0,.slice none 0 0,.slice none 0 0,.int .i64 day] 77)∧Ext w wz∧wz.heap[w.heap.size]?=some (.cells (fL (.slice none 0 0) zS zS zS zS zS day) 77 (0,0)) :=
 ⟨_,rfl,(Below.refl _ _).alloc (UX _) _,aC w _⟩
theorem qL {w:World}{A:Option Addr}{n c:Nat}{x:NC}{l:List NC} (h:RdN w (.slice A n c) (x::l)):∃ b o,A=some ⟨b,o,none⟩∧b<w.heap.size∧w.rangeAt b o (aF x):=by
 obtain ⟨A',n',c',e,hn,_,_,hc⟩:=h
 injection e with e1 e2 e3
 subst e1 e2 e3
 rw [bF,VC] at hn
 obtain ⟨b,o,rfl,hcell⟩:=hc (by omega)
 have key:w.rangeAt b o (aF x):=fun j u hu=>hcell j u (by show (aF x++aA l)[j]?=some u;rw [List.getElem?_append_left (List.getElem?_eq_some_iff.1 hu).1];exact hu)
 exact ⟨b,o,rfl,World.block_lt_of_cell? w _ (key 0 _ rfl),key⟩
theorem lO {w:World}{v:Value}{l:List NC} (h:RdN w v l):∃ A c,v=.slice A l.length c∧l.length≤c∧c≤maxLen:=by
 obtain ⟨A,n,c,e,hn,h1,h2,-⟩:=RdN.at_ h
 subst hn
 exact ⟨A,c,e,h1,h2⟩
def GL5 (D i:Nat):aE:=fun v w=>∃ (g:Nat) (z1 z2 z3 z4:Int),v=.slice (some ⟨g,0,none⟩) 5 5∧D<g∧w.heap[g]?=some (.cells #[.int .i64 (i:Int),.int .i64 z1,.int .i64 z2,.int .i64 z3,.int .i64 z4] 3 (0,0))∧(0≤z1∧z1<200)∧(0≤z2∧z2<3)∧(0≤z3∧z3<9)∧(0≤z4∧z4<9)
theorem G5 (D b i:Nat):(dcR D b).stable (GL5 D i):=fun v w w' r ⟨g,z1,z2,z3,z4,h1,h2,h3,h4⟩=>⟨g,z1,z2,z3,z4,h1,h2,(r.1.block g (a9 h3) (fun e=>by injection e with e;omega)).trans h3,h4⟩
theorem OD (W:World) (a b c d e:Int):(Instr.buildSlice 41 5 [(0,.int .i64 a),(1,.int .i64 b),(2,.int .i64 c),(3,.int .i64 d),(4,.int .i64 e)].toArray).run Tryz.prog W=.ok (.slice (some ⟨W.heap.size,0,none⟩) 5 5) (W.alloc (.cells #[.int .i64 a,.int .i64 b,.int .i64 c,.int .i64 d,.int .i64 e] 3)):=by go_simp
def SP (D:Nat):aE:=fun v w=>∃ (x:AB) (a:AU) (ds:List Int),v=abV x∧AbR w (D+1) x a∧AuI a ds∧(1≤ds.length∧ds.length≤4)∧x.li=1∧x.V=.slice none 0 0∧x.D=.slice none 0 0∧x.Z=.slice none 0 0
theorem AbR.gbD {w w':World}{D:Nat}{x:AB}{a:AU} (h:AbR w (D+1) x a) (e:Gb D w w'):AbR w' (D+1) x a :=
 ⟨h.o1.grown e (.inr (fun q=>by have:=aT h.o1 _ q;omega)),h.o2.grown e (.inr (fun q=>by have:=aT h.o2 _ q;omega)),h.o3.grown e (.inr (fun q=>by have:=aT h.o3 _ q;omega)),h.ap,h.st,h.sg,h.ls,h.ssec,h.lsec,h.next⟩
theorem DQ (D b:Nat):(dcR D b).stable (SP D):=fun v w w' r ⟨x,a,ds,h1,h2,h3⟩=>⟨x,a,ds,h1,h2.gbD r.1,h3⟩
def UG (D:Nat):aE:=fun v w=>∃ (g:Nat) (x:AB) (a:AU) (ds:List Int),v=.slice (some ⟨g,0,none⟩) 1 1∧D<g∧w.heap[g]?=some (.cells (bU x) 98 (0,0))∧AbR w (D+1) x a∧AuI a ds∧(1≤ds.length∧ds.length≤4)∧x.li=1∧x.V=.slice none 0 0∧x.D=.slice none 0 0∧x.Z=.slice none 0 0
theorem DR (D b:Nat):(dcR D b).stable (UG D):=fun v w w' r ⟨g,x,a,ds,h1,h2,h3,h4,h5⟩=>⟨g,x,a,ds,h1,h2,(r.1.block g (a9 h3) (fun e=>by injection e with e;omega)).trans h3,h4.gbD r.1,h5⟩
theorem SQ {D:Nat}{w w':World}{l:List Int}{e:Ending} (h:U5 w l e w') (hD:D<w.heap.size):∃ v,e=.returned v∧Ext w w'∧SP D v w':=by
 obtain ⟨h1,x,a,h2,h3,h4,h5,h6,h7⟩:=h
 have hc:=QH l
 exact ⟨_,h2,h1,x,a,yM l,rfl,h3.mono hD,h4,by rw [KO];omega,h6,h7⟩
def SS (B:Nat) (l:List NC):aE:=fun v w=>∃ A c,v=.slice A l.length c∧aJ w B 56 11 (.slice A l.length c) (aA l)
theorem DS (B:Nat) (l:List NC):bK (SS B l):=fun v w w' e ⟨A,c,h1,h2⟩=>⟨A,c,h1,h2.ext e⟩
def UW (B:Nat) (c d:NC):aE:=fun v w=>∃ g,v=.slice (some ⟨g,0,none⟩) 2 2∧B≤g∧w.heap[g]?=some (.cells (aF c++aF d).toArray 56 (0,0))
theorem OE (W:World) (c d:NC):(Instr.buildSlice 51 2 [(0,.agg (aF c).toArray),(1,.agg (aF d).toArray)].toArray).run Tryz.prog W=.ok (.slice (some ⟨W.heap.size,0,none⟩) 2 2) (W.alloc (.cells (aF c++aF d).toArray 56)):=by
 unfold aF
 go_simp
theorem wO (W:World) (c:NC):(Instr.buildSlice 51 1 [(0,.agg (aF c).toArray)].toArray).run Tryz.prog W=.ok (.slice (some ⟨W.heap.size,0,none⟩) 1 1) (W.alloc (.cells (aF c).toArray 56)):=by
 unfold aF
 go_simp
def QM (B:Nat):aE:=fun v w=>∃ g,v=.pointer (some ⟨g,0,none⟩)∧B≤g∧rG w g 98 33
theorem sV (B:Nat) (S:List Nat) (G:Nat→Prop):(RG S G).stable (QM B):=fun v w w' r ⟨g,h1,h2,h3⟩=>⟨g,h1,h2,h3.rg r⟩
theorem AH (W:World):(Instr.alloc 98 true (.tuple #[])).run Tryz.prog W=.ok (.pointer (some ⟨W.heap.size,0,none⟩)) (W.alloc (.cells (.string ⟨#[]⟩::.slice none 0 0::.slice none 0 0::.slice none 0 0::.string ⟨#[]⟩::.int .i64 0::.int .i64 0::.int .i64 0::.int .i64 0::.int .i64 0::.int .i64 0::.int .i64 0::.int .i64 0::.int .i64 0::.int .i64 0::.string ⟨#[]⟩::.int .i64 0::.int .i64 0::.int .i64 0::.int .i64 0::.int .i64 0::.int .i64 0::.int .i64 0::.int .i64 0::.int .i64 0::.int .i64 0::.int .i64 0::.int .i64 0::.int .i64 0::.int .i64 0::.slice none 0 0::.slice none 0 0::.slice none 0 0::([]:List Value)).toArray 98)):=by go_simp
def qM (B:Nat) (x:AB):aE:=fun v w=>∃ g,v=.pointer (some ⟨g,0,none⟩)∧B≤g∧aS w g x
theorem qM.ext {B:Nat}{x:AB} (v:Value) (w w':World) (e:Ext w w') (h:qM B x v w):qM B x v w':=by
 obtain ⟨g,h1,h2,h3⟩:=h
 exact ⟨g,h1,h2,h3.ext e⟩
theorem qM.st {B:Nat}{x:AB}{S:List Nat}{G:Nat→Prop} (T:Nat) (hT:T≠98) (v:Value) (w w':World) (e:(RG S G).st T w w') (h:qM B x v w):qM B x v w':=by
 obtain ⟨g,h1,h2,h3⟩:=h
 exact ⟨g,h1,h2,e.2.other h3 (fun q=>hT (List.mem_singleton.1 q).symm)⟩
theorem nC:56 ∉ amT:=by unfold amT;decide
def GPt (x:AB) (m:MA) (k:Int):aE:=fun v w=>∃ A n c,v=.tuple #[abV x,maV m (.slice A n c),.int .i64 k]∧cE w 0 56 11 (.slice A n c) (aA m.roots)
theorem wP (x:AB) (m:MA) (k:Int) (G:Nat→Prop):(RG amT G).stable (GPt x m k):=fun v w w' r ⟨A,n,c,h1,h2⟩=>⟨A,n,c,h1,h2.rg nC (fun _ _=>V7 _) r⟩
def GPm (m:MA):aE:=fun v w=>∃ A n c,v=maV m (.slice A n c)∧cE w 0 56 11 (.slice A n c) (aA m.roots)
theorem G6 (m:MA) (G:Nat→Prop):(RG amT G).stable (GPm m):=fun v w w' r ⟨A,n,c,h1,h2⟩=>⟨A,n,c,h1,h2.rg nC (fun _ _=>V7 _) r⟩
def xH (B:Nat) (m:MA):aE:=fun v w=>∃ g A n c,v=.pointer (some ⟨g,0,none⟩)∧B≤g∧aX w g m (.slice A n c)∧cE w 0 56 11 (.slice A n c) (aA m.roots)
theorem xH.ext {B:Nat}{m:MA} (v:Value) (w w':World) (e:Ext w w') (h:xH B m v w):xH B m v w':=by
 obtain ⟨g,A,n,c,h1,h2,h3,h4⟩:=h
 exact ⟨g,A,n,c,h1,h2,h3.ext e,h4.ext e⟩
theorem xH.st {B:Nat}{m:MA}{G:Nat→Prop} (T:Nat) (hT:T≠80) (v:Value) (w w':World) (e:(RG amT G).st T w w') (h:xH B m v w):xH B m v w':=by
 obtain ⟨g,A,n,c,h1,h2,h3,h4⟩:=h
 exact ⟨g,A,n,c,h1,h2,e.2.other h3 (fun q=>hT (List.mem_singleton.1 q).symm),h4.rg (fun q=>nC (List.mem_singleton.1 q ▸ e.1)) (fun _ _=>V7 _) e.2⟩
theorem lP (W:World) (a b c:Value):(Instr.extract (.tuple #[a,b,c]) 0).run Tryz.prog W=.ok a W∧(Instr.extract (.tuple #[a,b,c]) 1).run Tryz.prog W=.ok b W∧(Instr.extract (.tuple #[a,b,c]) 2).run Tryz.prog W=.ok c W:=by
 refine ⟨?_,?_,?_⟩ <;> go_simp
section
variable {P:Program}{r:Gt.Rl}{ops:Array Oper}{Q:Exit→Act→World→Prop}{w0:World}{R:Act→World→Prop}{ss:List (Nat × aE)}
theorem Gt.wpX_allocA33 {o:Oper}{rest:List Oper}{a:Act}{hs:List (Nat × aE)}{d:Nat} (B:Nat) (hB:∀ m:r.Lt w0,B≤m.1.heap.size) (hst:r.stable (QM B)) (hg:cN ops o a hs)
 (hd:o.dst=some d) (hz:Nat.blt d a.tmps.size=true) (ho:o.op=.alloc 98) (hin:(aR o).all (fun t=>Nat.blt t a.tmps.size)=true)
 (hr:Gt.wpX r Tryz.prog ops Q w0 R ss rest (a.put (some d) undef) ((d,QM B)::hs)):Gt.wpX r Tryz.prog ops Q w0 R ss (o::rest) a hs :=
 Gt.dV hg (QM B) hst (fun _=>Instr.alloc 98 true (.tuple #[])) hd hz (by unfold aP;rw [ho]) hin (fun f=>by unfold execOp;simp only [ho])
  (fun m f hf=>⟨_,_,AH m.1,(Below.refl _ _).alloc (UX _) _,_,rfl,hB m,_,aC m.1 _,rfl⟩) hr
end
theorem OF {w:World}{s v:Value}{xs:List Value}{m:MA} (h:RdN w s m.roots) (hq:s=v ∨ s=.slice none 0 0) (hv:cE w 0 56 11 v xs):cE w 0 56 11 s (aA m.roots) :=
 ⟨h,fun A n c hs hn=>by
   rcases hq with rfl | rfl
   · exact hv.2 A n c hs hn
   · injection hs with _ q _
     omega⟩
theorem OG (k:Int) (m:MA):((d9 k m).roots=m.roots ∨ (d9 k m).roots=[])∧((d9 k m).sg=m.sg ∨ (d9 k m).sg=cQ)∧((d9 k m).st=m.st ∨ (d9 k m).st=[]):=by
 unfold d9
 split
 · exact ⟨.inl rfl,.inl rfl,.inl rfl⟩
 · exact ⟨.inr rfl,.inr rfl,.inr rfl⟩
theorem IC {k:Int}{m:MA} (h1:smL m.roots) (h2:smN m.sg) (h3:m.st.length≤maxLen):smL (d9 k m).roots∧smN (d9 k m).sg∧(d9 k m).st.length≤maxLen∧(d9 k m).roots.length≤m.roots.length:=by
 obtain ⟨q1,q2,q3⟩:=OG k m
 refine ⟨?_,?_,?_,?_⟩
 · rcases q1 with q | q <;> rw [q]
   · exact h1
   · exact fun c hc=>(by cases hc)
 · rcases q2 with q | q <;> rw [q]
   · exact h2
   · show ([]:List UInt8).length≤maxLen
     exact V7 _
 · rcases q3 with q | q <;> rw [q]
   · exact h3
   · exact V7 _
 · rcases q1 with q | q <;> rw [q]
   · exact UX _
   · exact V7 _
structure WSb (S:ST):Prop where
 b:StB S
 rs:S.rs=[]
 ds:S.ds=[]
 nd:(S.ms.map MA.st).Nodup
theorem nX (S:ST) (m:MA) (day:Int):(dP S m day).1.roots=S.roots∧(dP S m day).1.pool=S.pool∧(dP S m day).1.rs=S.rs∧(dP S m day).1.ds=S.ds:=by
 unfold dP
 split
 · exact ⟨rfl,rfl,rfl,rfl⟩
 · split
   · split <;> exact ⟨rfl,rfl,rfl,rfl⟩
   · split <;> exact ⟨rfl,rfl,rfl,rfl⟩
theorem ID {S:ST}{m:MA}{day:Int} (h:(S.ms.map MA.st).Nodup):((dP S m day).1.ms.map MA.st).Nodup:=by
 unfold dP
 split
 · exact h
 · split
   · rename_i i hf
     split
     · exact h
     · show ((S.ms.set i m).map MA.st).Nodup
       obtain ⟨hi,hp,_⟩:=List.findIdx?_eq_some_iff_getElem.1 hf
       have e:(S.ms.set i m).map MA.st=S.ms.map MA.st:=by
        rw [List.map_set]
        have hs:(S.ms.map MA.st)[i]'(by simpa using hi)=m.st:=by simpa using hp
        have h0:=List.set_getElem_self (show i<(S.ms.map MA.st).length by simpa using hi)
        rwa [hs] at h0
       rw [e]
       exact h
   · rename_i hf
     split
     · exact h
     · show ((S.ms++[m]).map MA.st).Nodup
       rw [List.map_append]
       refine List.nodup_append.2 ⟨h,by simp,fun x hx y hy=>?_⟩
       obtain ⟨t,ht,rfl⟩:=List.mem_map.1 hx
       have hy':y=m.st:=by simpa using hy
       rw [hy']
       have:=List.findIdx?_eq_none_iff.1 hf t ht
       simpa using this
theorem WSb.acc {S:ST}{m:MA}{day:Int} (h:WSb S) (hm:smL m.roots) (hl:m.roots.length≤10000):WSb (dP S m day).1:=by
 obtain ⟨e1,e2,e3,e4⟩:=nX S m day
 exact ⟨OA h.b hm hl,e3.trans h.rs,e4.trans h.ds,ID h.nd⟩
theorem RfA.sts {w w':World}{s0 s1 s2 s3 s4:SlT}{S:ST}{ps:List (MA × Value)}{m:MA}{v:Value}{r:ST × Int}{e:Ending} (h:RfA w s0 s1 s2 s3 s4 S ps m v r e w') (hS:StS w s0 s1 s2 s3 s4 S) (hp:∀ p ∈ ps,cE w 0 56 11 p.2 (aA p.1.roots)) (hv:cE w 0 56 11 v (aA m.roots)) :
 ∃ t2:SlT,e=.returned (.tuple #[cH s0 s1 t2 s3 s4,.int .i64 r.2])∧Ext w w'∧StS w' s0 s1 t2 s3 s4 r.1:=by
 obtain ⟨t2,h1,h2,h3⟩:=h
 have hS':=hS.kp (Kp.ext h2)
 refine ⟨t2,h1,h2,?_⟩
 rcases h3 with ⟨rfl,h4⟩ | ⟨qs,h4,h5,h6⟩
 · rw [h4];exact hS'
 · rw [h5]
   exact ⟨hS'.r,hS'.p,⟨qs,rfl,h4.safe 0,fun p hq=>by
    rcases h6 p hq with q | rfl
    · exact (hp p q).ext h2
    · exact hv.ext h2⟩,hS'.v,hS'.d⟩
end Go.Proofs.YtkjplpmogfmhkaaGreatDoor
namespace Go.Proofs.YtkjplpmogfmhkaaGreatDoor
open Go.RowKit
set_option linter.unusedVariables false
set_option maxRecDepth 100000
theorem OH {a b:AU}{da db:List Int} (h:AuI a da) (ha:da≠[]) (g:AuI b db) {c:NC}{i:Nat} (hc:b.roots[i]?=some c) {li day e s:Int} (l0:1≤li) (l1:li≤1000) (d0:40000≤day) (d1:day≤41000) :
 inB 1 1073741789 a.lsec=true∧ckM ⟨a.st,li,day,[c],a.ls,e,s⟩=0:=by
 obtain ⟨k2,d2,n2,p1,p2,_,_,B⟩:=g.rt i c hc
 obtain ⟨k3,d3,n3,u1,u2,_,_,hk,L⟩:=h.ls ha
 refine ⟨hk,?_⟩
 have hrt:rtN c=true:=by unfold rtN;rw [if_pos B.kind,B.key];exact B.vf
 have hrts:lW [c]=0:=qD (by show ¬ (1<1 ∨ 16<1);omega) (fun j x hj hx=>by
  match j,hj with
  | 0,_=>rw [← Option.some.inj hx];exact B.ck) (fun j x hj hx=>by
  match j,hj with
  | 0,_=>rw [← Option.some.inj hx];exact hrt)
 have hsg:sgE a.ls a.st=0:=by unfold sgE;rw [if_neg (not_not_intro L.ck),if_neg (not_not_intro L.kind),if_neg (not_not_intro L.st)]
 unfold ckM
 rw [if_neg (not_not_intro h.st),if_neg (not_not_intro (⟨by show (1:Int)≤li;omega,by show li≤1073741824;omega⟩)),if_neg (not_not_intro ⟨by show (0:Int)≤day;omega,by show day≤73048;omega⟩),if_neg (not_not_intro hrts)]
 exact hsg
theorem QN {m:MA} (h:ckM m=0) {n:Int} (n0:1≤n) (n1:n≤1000):ckM ⟨m.st,n,m.day,m.roots,m.sg,m.e,m.s⟩=0:=by
 unfold ckM at h ⊢
 split at h
 · omega
 · rename_i h1
   rw [if_neg h1]
   split at h
   · omega
   · rw [if_neg (not_not_intro (⟨by show (1:Int)≤n;omega,by show n≤1073741824;omega⟩))]
     exact h
theorem OI {S:ST}{m:MA}{k n day:Int} (hk:inB 1 1073741789 k=true) (hkey:m.sg.key=pw 4 k) (n0:1≤n) (n1:n≤m.num) (n2:m.num≤1000) (hS:(dP S m day).2=0) :
 iO k ⟨m.st,n,m.day,m.roots,m.sg,m.e,m.s⟩=0∧dP (dP S m day).1 (d9 k ⟨m.st,n,m.day,m.roots,m.sg,m.e,m.s⟩) day=((dP S m day).1,67):=by
 have hv:lX S.roots S.pool m day=0:=by
  unfold dP at hS
  split at hS
  · exact hS
  · rename_i h
    exact Decidable.not_not.1 h
 have hc:ckM m=0:=by
  unfold lX at hv
  split at hv
  · exact hv
  · rename_i h
    exact Decidable.not_not.1 h
 have hcn:=QN hc n0 (by omega:n≤1000)
 refine ⟨AE hk hcn,?_⟩
 have hvb:jH (pw 4 k) (byM (d9 k ⟨m.st,n,m.day,m.roots,m.sg,m.e,m.s⟩)) (d9 k ⟨m.st,n,m.day,m.roots,m.sg,m.e,m.s⟩).e (d9 k ⟨m.st,n,m.day,m.roots,m.sg,m.e,m.s⟩).s=true:=wM hk hcn
 have hm:d9 k ⟨m.st,n,m.day,m.roots,m.sg,m.e,m.s⟩=kB ⟨m.st,n,m.day,m.roots,m.sg,m.e,m.s⟩ (kP k (dS ⟨m.st,n,m.day,m.roots,m.sg,m.e,m.s⟩)) (mL k (dS ⟨m.st,n,m.day,m.roots,m.sg,m.e,m.s⟩)):=qJ hk hcn
 have hmc:ckM (d9 k ⟨m.st,n,m.day,m.roots,m.sg,m.e,m.s⟩)=0:=by rw [hm,tS];exact hcn
 have f1:(d9 k ⟨m.st,n,m.day,m.roots,m.sg,m.e,m.s⟩).st=m.st:=by rw [hm];rfl
 have f2:(d9 k ⟨m.st,n,m.day,m.roots,m.sg,m.e,m.s⟩).day=m.day:=by rw [hm];rfl
 have f3:(d9 k ⟨m.st,n,m.day,m.roots,m.sg,m.e,m.s⟩).num=n:=by rw [hm];rfl
 have f4:(d9 k ⟨m.st,n,m.day,m.roots,m.sg,m.e,m.s⟩).sg=m.sg:=by rw [hm];rfl
 generalize d9 k ⟨m.st,n,m.day,m.roots,m.sg,m.e,m.s⟩=o at *
 have hvo:lX S.roots S.pool o day=0:=by
  unfold lX at hv ⊢
  rw [if_neg (not_not_intro hc)] at hv
  rw [if_neg (not_not_intro hmc)]
  unfold wE at hv ⊢
  rw [f4,f2]
  split at hv
  · rename_i h
    exact absurd hv h
  · rename_i h
    rw [if_neg h]
    unfold tB at hv ⊢
    split at hv
    · omega
    · rename_i h1
      rw [if_neg h1]
      split at hv
      · omega
      · rename_i h2
        rw [if_neg h2,hkey]
        exact if_pos hvb
 obtain ⟨e1,e2,_,_⟩:=nX S m day
 have hi:∃ i:Nat,(dP S m day).1.ms.findIdx? (fun t=>decide (t.st=m.st))=some i∧((dP S m day).1.ms.getD i bQ).num=m.num:=by
  unfold dP at hS ⊢
  rw [if_neg (not_not_intro hv)] at hS ⊢
  split at hS
  · rename_i i hf
    split at hS
    · exact absurd hS (by simp)
    · rename_i hn
      rw [if_neg hn]
      obtain ⟨hl,hp,hb⟩:=List.findIdx?_eq_some_iff_getElem.1 hf
      refine ⟨i,List.findIdx?_eq_some_iff_getElem.2 ⟨by rw [List.length_set];exact hl,by rw [List.getElem_set_self];exact decide_eq_true rfl,fun j hj=>?_⟩,?_⟩
      · rw [List.getElem_set_ne (by omega)]
        exact hb j hj
      · rw [List.getD_eq_getElem?_getD,List.getElem?_set_self hl]
        rfl
  · rename_i hf
    split at hS
    · exact absurd hS (by simp)
    · rename_i hn
      rw [if_neg hn]
      have hf':=List.findIdx?_eq_none_iff.1 hf
      refine ⟨S.ms.length,List.findIdx?_eq_some_iff_getElem.2 ⟨by rw [V5];exact Nat.lt_succ_self _,by rw [List.getElem_append_right (UX _)];simp,fun j hj=>?_⟩,?_⟩
      · rw [List.getElem_append_left hj]
        have:=hf' (S.ms[j]) (List.getElem_mem hj)
        simpa using this
      · rw [List.getD_eq_getElem?_getD,List.getElem?_append_right (UX _),Nat.sub_self]
        rfl
 obtain ⟨i,h1,h2⟩:=hi
 generalize (dP S m day).1=S' at *
 unfold dP
 rw [e1,e2,if_neg (not_not_intro hvo),f1,h1]
 simp only
 rw [h2,f3,if_pos n1]
theorem yO {S:ST}{m:MA}{day:Int} (hS:(dP S m day).2=0) (hn:(S.ms.map MA.st).Nodup):(∃ t ∈ (dP S m day).1.ms,t.st=m.st)∧∀ t ∈ (dP S m day).1.ms,t.st=m.st→t.num=m.num:=by
 have hnd:=ID (day:=day) (m:=m) hn
 have hm:m ∈ (dP S m day).1.ms:=by
  unfold dP at hS ⊢
  split at hS
  · rename_i h
    exact absurd hS h
  · rename_i h
    rw [if_neg h]
    split at hS
    · rename_i i hf
      split at hS
      · exact absurd hS (by simp)
      · rename_i h9
        rw [if_neg h9]
        obtain ⟨hl,_⟩:=List.findIdx?_eq_some_iff_getElem.1 hf
        exact List.mem_iff_getElem?.2 ⟨i,List.getElem?_set_self hl⟩
    · rename_i hf
      split at hS
      · exact absurd hS (by simp)
      · rename_i h9
        rw [if_neg h9]
        exact List.mem_append_right _ (List.mem_singleton.2 rfl)
 refine ⟨⟨m,hm,rfl⟩,fun t ht hst=>?_⟩
 generalize (dP S m day).1.ms=L at *
 have key:∀ L:List MA,(L.map MA.st).Nodup→∀ a ∈ L,∀ b ∈ L,a.st=b.st→a=b:=by
  intro L
  induction L with
  | nil=>exact fun _ a ha=>by cases ha
  | cons x L IH =>
    intro h a ha b hb hab
    rw [List.map_cons,List.nodup_cons] at h
    rcases List.mem_cons.1 ha with e | ha'
    · rcases List.mem_cons.1 hb with e' | hb'
      · rw [e,e']
      · exact absurd (List.mem_map.2 ⟨b,hb',by rw [← hab,e]⟩) h.1
    · rcases List.mem_cons.1 hb with e' | hb'
      · exact absurd (List.mem_map.2 ⟨a,ha',by rw [hab,e']⟩) h.1
      · exact IH h.2 a ha' b hb' hab
 rw [key L hnd t ht m hm hst]
theorem DT (out:List NC) (c:NC):out.length≤(fH out c).length:=by
 unfold fH
 split
 · exact UX _
 · rw [V5];omega
theorem QO (l:List NC):∀ out:List NC,out.length≤(fY out l).length:=by
 induction l with
 | nil=>exact fun out=>UX _
 | cons c l IH =>
   intro out
   unfold fY
   rw [List.foldl_cons]
   exact V9 (DT out c) (IH _)
theorem G7 {S:ST} (h:S.roots.length=1):S.roots.length≤(iN S).length:=by
 obtain ⟨c,hc⟩:=List.length_eq_one_iff.1 h
 have h1:1≤(fY [] S.roots).length:=by
  rw [hc]
  show 1≤(fH [] c).length
  unfold fH
  rw [if_neg (by simp)]
  exact UX _
 have key:∀ (L:List MA) (out:List NC),out.length≤(L.foldl (fun out m=>fY out m.roots) out).length:=by
  intro L
  induction L with
  | nil=>exact fun out=>UX _
  | cons m L IH=>exact fun out=>V9 (QO m.roots out) (IH _)
 rw [h]
 exact V9 h1 (key _ _)
end Go.Proofs.YtkjplpmogfmhkaaGreatDoor
