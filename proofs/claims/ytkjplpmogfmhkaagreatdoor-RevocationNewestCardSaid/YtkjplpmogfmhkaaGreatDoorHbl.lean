/- Parts Ba Bg of the proof. -/
import Derived.Test.YtkjplpmogfmhkaaGreatDoorHbk
import Derived.Test.YtkjplpmogfmhkaaGreatDoorHbd
namespace Go.Proofs.YtkjplpmogfmhkaaGreatDoor
open Go.RowKit
open Gd (dT kV)
set_option linter.unusedVariables false
set_option maxRecDepth 100000
theorem QR (r:RV) (v:Value) (h:v.oneCell'=true):(aY r v).toArray.all (·.oneCell')=true:=by
 rw [List.all_toArray,List.all_eq_true]
 exact kR.one r v h
structure L6 (w wr:World) (s0 s1 s2 s3 s4:SlT) (m:RV) (v:Value):Prop where
 ext:Ext w wr
 s:wr.heap[w.heap.size]?=some (.cells (aM s0 s1 s2 s3 s4) 75 (0,0))
 m:bM wr (w.heap.size+1) m v
theorem L6.tr {w wr wx:World}{s0 s1 s2 s3 s4:SlT}{m:RV}{v:Value} (h:L6 w wr s0 s1 s2 s3 s4 m v) (e:Ext wr wx):L6 w wx s0 s1 s2 s3 s4 m v:=⟨h.ext.tr e,(e.block _ (aA h.s)).trans h.s,h.m.ext e⟩
theorem FH (w:World) (s0 s1 s2 s3 s4:SlT) (m:RV) (v:Value):∃ wz,wz=((w.alloc (stO s0 s1 s2 s3 s4)).alloc (.cells #[.string (aK m.st),.int .i64 m.num,.int .i64 m.day,.int .i64 m.nxt,v,.int .i64 m.iss,.int .i64 m.e,.int .i64 m.s] 103))/\L6 w wz s0 s1 s2 s3 s4 m v:=by
 obtain ⟨wz,hwz,e2,TZ⟩:=hM (w.alloc (stO s0 s1 s2 s3 s4)) m v
 have e1:Ext w (w.alloc (stO s0 s1 s2 s3 s4)):=(Below.refl _ _).alloc (YF _) _
 rw [show (w.alloc (stO s0 s1 s2 s3 s4)).heap.size=w.heap.size+1 by simp] at TZ
 exact ⟨wz,hwz,e1.tr e2,(e2.block _ (by simp)).trans (aB w _),TZ⟩
structure RaR (w wr:World) (s0 s1 s2 s3 s4:SlT) (m:RV) (v:Value):Prop where
 ext:Ext w wr
 s:wr.heap[w.heap.size]?=some (.cells (aM s0 s1 s2 s3 s4) 75 (0,0))
 m:bM wr (w.heap.size+1) m v
 z:wr.heap[w.heap.size+1+1]?=some (.cells #[.slice none 0 0,.slice none 0 0,.slice none 0 0,.slice none 0 0,.slice none 0 0] 75 (0,0))
 sz:w.heap.size+1+1+1<=wr.heap.size
section
variable {w wr wx:World}{s0 s1 s2 s3 s4:SlT}{m:RV}{v:Value}
theorem RaR.below (h:RaR w wr s0 s1 s2 s3 s4 m v) (e:Below (w.heap.size+1+1+1) wr wx):RaR w wx s0 s1 s2 s3 s4 m v :=
 ⟨h.ext.trans (e.mono (by omega)),(e.block _ (by omega)).trans h.s,(e.block _ (by omega)).trans h.m,(e.block _ (by omega)).trans h.z,YO h.sz e.size⟩
theorem RaR.tr (h:RaR w wr s0 s1 s2 s3 s4 m v) (e:Ext wr wx):RaR w wx s0 s1 s2 s3 s4 m v:=h.below (Below.mono e h.sz)
theorem RaR.put (h:RaR w wr s0 s1 s2 s3 s4 m v) (t3:SlT):RaR w (wr.setCell ⟨w.heap.size,3,none⟩ (.slice t3.1 t3.2.1 t3.2.2)) s0 s1 s2 t3 s4 m v:=by
 have h9:=aF h.s 3 (.slice t3.1 t3.2.1 t3.2.2)
 exact ⟨aG h.ext (YF _),h9,(aT (by omega)).trans h.m,(aT (by omega)).trans h.z,by simpa using h.sz⟩
end
theorem NF (w:World) (s0 s1 s2 s3 s4:SlT) (m:RV) (v:Value):∃ wz,wz=((w.alloc (stO s0 s1 s2 s3 s4)).alloc (.cells #[.string (aK m.st),.int .i64 m.num,.int .i64 m.day,.int .i64 m.nxt,v,.int .i64 m.iss,.int .i64 m.e,.int .i64 m.s] 103)).alloc (.cells #[.slice none 0 0,.slice none 0 0,.slice none 0 0,.slice none 0 0,.slice none 0 0] 75)/\RaR w wz s0 s1 s2 s3 s4 m v:=by
 obtain ⟨w2,h2,TZ⟩:=FH w s0 s1 s2 s3 s4 m v
 have hs:w2.heap.size=w.heap.size+1+1:=by rw [h2];simp
 rw [<- h2]
 have e3:Ext w2 (w2.alloc (.cells #[.slice none 0 0,.slice none 0 0,.slice none 0 0,.slice none 0 0,.slice none 0 0] 75)):=(Below.refl _ _).alloc (YF _) _
 have T3:=TZ.tr e3
 refine ⟨_,rfl,T3.ext,T3.s,T3.m,?_,by simp [hs]⟩
 have:=aB w2 (.cells #[.slice none 0 0,.slice none 0 0,.slice none 0 0,.slice none 0 0,.slice none 0 0] 75)
 rw [hs] at this
 exact this
def RfB (w:World) (s0 s1 s2 s3 s4:SlT) (S:ST) (ps:List (RV × Value)) (m:RV) (v:Value) (r:ST × Int) (e:Ending) (w':World):Prop :=
 ∃ t3:SlT,e=.returned (.tuple #[bH s0 s1 s2 t3 s4,.int .i64 r.2])/\Ext w w'/\((t3=s3/\r.1=S) \/ ∃ qs:List (RV × Value),aJ w' w.heap.size 103 8 (slV t3) (kR.cells qs)/\r.1=⟨S.roots,S.pool,S.ms,qs.map Prod.fst,S.ds⟩/\∀ p ∈ qs,p ∈ ps \/ p=(m,v))
set_option maxHeartbeats 16000000 in
theorem nP (s0 s1 s2 s3 s4:SlT) (S:ST) (ps:List (RV × Value)) (m:RV) (v:Value) (day:Int) (w:World) (h0:RdN w (slV s0) S.roots) (h1:RdN w (slV s1) S.pool) (h2:RdK w 8 (slV s3) (kR.cells ps)) (hps:ps.map Prod.fst=S.rs) (hin:∀ p ∈ ps,RdK w 1 p.2 (aQ p.1.ser))
 (hms:RdX kM w (slV s2) S.ms) (hB:StB S) (hl:ps.length<=1000) (hv:RdI w .i64 v m.ser) (ht:m.st.length<=maxLen) (E:dS w 0) :
 Calls Tryz.prog 69 #[bH s0 s1 s2 s3 s4,rvV m v,.int .i64 day] w (RfB w s0 s1 s2 s3 s4 S ps m v (accR S m day)):=by
 obtain ⟨wz,hwz,TZ⟩:=NF w s0 s1 s2 s3 s4 m v
 have hpl:ps.length=S.rs.length:=by rw [<- hps,List.length_map]
 have HBD:=ZH (fun W (e:Ext w W)=>qU m v W (hv.ext e) ht)
 have HRT:=ZH (fun W (e:Ext w W)=>BX s0 s1 s2 s3 s4 S W (RdK.ext h0 e) (hms.ext e) hB)
 have HTR:=ZH (fun (u:Value) W (e:Ext w W) (hu:RdN W u (fB S))=>nB (v1:=u) (v2:=slV s1) m.st day W hu (RdK.ext h1 e) hB.roots hB.p (by have:=hB.rlen;have:=hB.lp;omega) (E.below e))
 have HVF:=ZH (fun (u:Value) (p:Int) W (e:Ext w W) (hu:Rd W u (bvs (byR m)))=>kP (a:=u) p m.e m.s W hu (by have:=BR m;omega) (E.below e))
 obtain ⟨A,n,cq,rfl,hn,-⟩:=hv.ints
 subst hn
 have HRX:=ZH (show RdX kR w (slV s3) S.rs from ⟨ps,hps,h2,hin⟩)
 have HON:=ZH (LK.cells_one (K:=kR) (ps:=ps) (fun p hp=>(hin p hp).oneU))
 have HPM:=ZH (And.intro hps hpl)
 have HL:=ZH hl
 have H2:=ZH h2
 have Z0:=ZH TZ
 obtain ⟨ac,hac⟩:∃ ac,accR S m day=ac:=⟨_,rfl⟩
 rw [hac]
 have HAC:=ZH hac
 have HQ:=fun (s:List UInt8)=>gJ s m.st
 have hml:S.rs.length<=1000:=by omega
 clear hac h0 h1 h2 hps hin hms hB hl hv ht E TZ hpl
 unfold bH rvV
 go_enter Tryz.func69,Tryz.ntmps69
 go_upto_region 1 with fail
 rw [<- hwz]
 clear hwz
 have HR:=ZH Z0.out.m.row
 go_wp2_with (refine wpList_load_row rfl 103 _ rfl (w.heap.size+1) rfl 103 (aY m (Value.slice A m.ser.length cq)).toArray (0,0) _ HR.out Tryz.underlying103 rfl bA ?_)
 refine (HBD.out wz Z0.out.ext).mono ?_
 rintro e w1 ⟨A1,n1,c1,rfl,hn1,rb,b1⟩
 have Z1:=ZH (Z0.out.tr b1)
 have HRB:=ZH rb
 clear b1 rb hn1 HR Z0 HBD
 by_cases hc:ckR m=0
 case neg =>
  have HA:=ZH (show ac=(S,ckR m) by rw [<- HAC.out];unfold accR;rw [if_pos hc])
  have hb:(ckR m != 0)=true:=by simpa using hc
  clear hc
  have HO:=ZH Z1.out.s
  have HZ:=ZH Z1.out.z
  have H1:=ZH (bT s0 s1 s2 s3 s4)
  go_wp2_with (first | (refine wpList_load_row rfl 75 _ rfl w.heap.size rfl 75 (aM s0 s1 s2 s3 s4) (0,0) _ HO.out Tryz.underlying75 rfl aN ?_) | (refine aL rfl 75 _ _ rfl rfl (w.heap.size+1+1) (aM s0 s1 s2 s3 s4) rfl rfl 75 #[.slice none 0 0,.slice none 0 0,.slice none 0 0,.slice none 0 0,.slice none 0 0] HZ.out aN rfl H1.out ?_))
  have HY:=ZH (aX (cells:=aM s0 s1 s2 s3 s4) HZ.out)
  refine bodyPost_ret (v:=.tuple #[.agg (aM s0 s1 s2 s3 s4),.int .i64 (ckR m)]) ?_ rfl ⟨_,by rw [HA.out];rfl,aS Z1.out.ext (by omega) _,.inl ⟨rfl,by rw [HA.out]⟩⟩
  simp [results,Tryz.results69,asAddr,run_loadVar_row _ (w.heap.size+1+1) 75 75 (aM s0 s1 s2 s3 s4) (0,0) _ HY.out Tryz.underlying75 rfl aN]
 have HC0:=ZH hc
 rw [hc]
 clear hc
 have c2:=Z1.out.m.c2
 have cl:=Z1.out.m.lt
 by_cases hd:day<m.day
 case pos =>
  have HA:=ZH (show ac=(S,64) by rw [<- HAC.out];unfold accR;rw [if_neg (not_not_intro HC0.out),if_pos hd])
  have HO:=ZH Z1.out.s
  have HZ:=ZH Z1.out.z
  have H1:=ZH (bT s0 s1 s2 s3 s4)
  go_wp2_with (first | (refine wpList_load_row rfl 75 _ rfl w.heap.size rfl 75 (aM s0 s1 s2 s3 s4) (0,0) _ HO.out Tryz.underlying75 rfl aN ?_) | (refine aL rfl 75 _ _ rfl rfl (w.heap.size+1+1) (aM s0 s1 s2 s3 s4) rfl rfl 75 #[.slice none 0 0,.slice none 0 0,.slice none 0 0,.slice none 0 0,.slice none 0 0] HZ.out aN rfl H1.out ?_))
  have HY:=ZH (aX (cells:=aM s0 s1 s2 s3 s4) HZ.out)
  refine bodyPost_ret (v:=.tuple #[.agg (aM s0 s1 s2 s3 s4),.int .i64 64]) ?_ rfl ⟨_,by rw [HA.out];rfl,aS Z1.out.ext (by omega) _,.inl ⟨rfl,by rw [HA.out]⟩⟩
  simp [results,Tryz.results69,asAddr,run_loadVar_row _ (w.heap.size+1+1) 75 75 (aM s0 s1 s2 s3 s4) (0,0) _ HY.out Tryz.underlying75 rfl aN]
 have HD0:=ZH hd
 go_upto_region 6 with fail
 clear c2 cl hd
 refine Gd.aI 8 (by kernel_rfl) (by kernel_rfl) ?_
 simp only [YT,YQ,YU,YV]
 intro wq hw1
 have LL:∀ m1:Lt wq,Ext w1 m1.1:=fun m1=>hw1.tr m1.2
 have LW:∀ m1:Lt wq,Ext w m1.1:=fun m1=>Z1.out.ext.tr (LL m1)
 have KS:=fun m1:Lt wq=>rE (Z1.out.tr (LL m1)).s
 have k1:∀ m1:Lt wq,m1.1.cell? ⟨w.heap.size,1,none⟩=some (.slice s1.1 s1.2.1 s1.2.2):=fun m1=>by rw [cell_of_row _ _ 1 _ _ _ (Z1.out.tr (LL m1)).s];rfl
 have k0:=fun m1:Lt wq=>(Z1.out.tr (LL m1)).m.c0
 have kl:=fun m1:Lt wq=>(Z1.out.tr (LL m1)).m.lt
 have kl0:∀ m1:Lt wq,w.heap.size<m1.1.heap.size:=fun m1=>Nat.lt_of_succ_lt (kl m1)
 repeat (refine Gd.aC rfl fun K hK=>?_;go_big_quiet_op;refine hK _ ?_;clear hK K)
 refine Gd.wpX_midK (Gd.gR rfl) (w.heap.size) 0 ([slV s0,slV s1,slV s2,slV s3,slV s4]) rfl rfl rfl rfl rfl KS Tryz.underlying75 rfl aN ?_
 simp only [Act.put,YG,YI,YH]
 repeat (refine Gd.aC rfl fun K hK=>?_;go_big_quiet_op;refine hK _ ?_;clear hK K)
 refine Gd.aR (Gd.gR rfl) (GSl (fB S)) (m7 _) (fun _=>[bH s0 s1 s2 s3 s4]) rfl rfl rfl rfl rfl (by kernel_rfl) rfl (fun _=>rfl) (fun m1 f hf=>(HRT.out m1.1 (LW m1)).mono fun e w'' q=>EF.gsl q) ?_
 simp only [Act.put,YG,YI,YH]
 repeat (refine Gd.aC rfl fun K hK=>?_;go_big_quiet_op;refine hK _ ?_;clear hK K)
 refine Gd.aR (Gd.gR rfl) (GSl (cW (fB S) S.pool m.st day)) (m7 _) (fun f=>[f 32,.slice s1.1 s1.2.1 s1.2.2,.string (aK m.st),.int .i64 day]) rfl rfl rfl rfl rfl (by kernel_rfl) rfl (fun _=>rfl) (fun m1 f hf=>?_) ?_
 · obtain ⟨A5,n5,c5,h1,h2,h3⟩:=hf 32 _ rfl rfl
   rw [h1]
   refine (HTR.out _ m1.1 (LW m1) h3).mono ?_
   rintro e w'' ⟨v,q1,q2⟩
   obtain ⟨A6,n6,hv6⟩:=q2.form
   exact ⟨v,q1,q2.ext,A6,_,n6,hv6,rfl,hv6 ▸ q2.rd⟩
 simp only [Act.put,YG,YI,YH]
 refine Gd.cH (fun m1 f hf=>?_)
 obtain ⟨A5,n5,c5,e38,hn5,RT⟩:=hf 38 _ rfl
 simp only [bO]
 simp only [Act.put,YG,YI,YH]
 rw [e38]
 have Z2:=ZH (Z1.out.tr (LL m1))
 have HRT5:=ZH RT
 have HRB2:=ZH (HRB.out.ext (LL m1))
 clear hf e38 hw1 LL LW KS k1 k0 kl kl0 RT HRT HTR Z1 HRB
 generalize m1.1=w2 at *
 generalize f 32=f32 at *
 clear m1 f
 obtain ⟨L,hL⟩:∃ L,cW (fB S) S.pool m.st day=L:=⟨_,rfl⟩
 rw [hL] at HRT5 hn5
 have HSD:=ZH (show fY S m day=GW L m by unfold fY;rw [if_pos HC0.out,hL])
 clear hL
 subst hn5
 show wpList _ _ _ _ _ _
 obtain ⟨A9,n9,c9,e9,hn9,hnc,hcm,hel⟩:=RdN.at_ HRT5.out
 injection e9 with e9a e9b e9c
 subst e9a e9c
 subst hn9
 have HELT:=ZH hel
 unfold maxLen at hcm
 clear hel HRT5
 go_upto_region 9 with fail
 go_loopw [11,12,13] (fun s11 s12 s13 wr=>∃ k:Nat,k<=L.length/\s13=.int .i64 (k:Int)/\s11=.bool ((L.take k).any fun c=>decide (c.own=m.iss))/\s12=.bool ((L.take k).any fun c=>decide (c.own=m.iss) && fF c.key (byR m) m.e m.s)/\Hid (RaR w wr s0 s1 s2 s3 s4 m (Value.slice A m.ser.length cq))/\Hid (Ext w2 wr)) (fun _ _ s13 _=>L.length - (intOf s13).toNat)
 case atStart=>exact ⟨0,YK _,rfl,rfl,rfl,Z2,ZH (Below.refl _ _)⟩
 case round =>
  clear Z2
  obtain ⟨k,hk,rfl,rfl,rfl,Z3,X3⟩:=hrel
  by_cases hlt:k<L.length
  case neg =>
   obtain rfl:k=L.length:=by omega
   rw [List.take_length]
   clear hlt hk HELT HVF
   obtain ⟨fs,hfs⟩:∃ fs,(L.any fun c=>decide (c.own=m.iss))=fs:=⟨_,rfl⟩
   obtain ⟨fg,hfg⟩:∃ fg,(L.any fun c=>decide (c.own=m.iss) && fF c.key (byR m) m.e m.s)=fg:=⟨_,rfl⟩
   rw [hfs,hfg]
   have HSG:=ZH (show fY S m day=if fg=true then 0 else if fs=true then 11 else 66 by rw [HSD.out];unfold GW;rw [hfs,hfg])
   have HFS:=ZH (show fg=true->fs=true from fun q=>by
    rw [<- hfg] at q
    obtain ⟨c,h1,h2⟩:=List.any_eq_true.1 q
    rw [Bool.and_eq_true] at h2
    rw [<- hfs]
    exact List.any_eq_true.2 ⟨c,h1,h2.1⟩)
   clear hfs hfg HSD HRB2 X3
   obtain ⟨A3,n3,c3,e3,hn3,hnc3,hcm3,hel3⟩:=HRX.out.at_
   obtain ⟨sA3,sn3,sc3⟩:=s3
   unfold slV at e3
   injection e3 with e31 e32 e33
   simp only at e31 e32 e33
   subst e31 e32 e33 hn3
   unfold maxLen at hcm3
   have HEL:=ZH hel3
   clear hel3 HRX
   have k2:wr.cell? ⟨w.heap.size,3,none⟩=some (.slice sA3 S.rs.length sc3):=by rw [cell_of_row _ _ 3 _ _ _ Z3.out.s];rfl
   have kl:=aA Z3.out.s
   have wk:IntKind.i64.wrap ((S.rs.length:Int) - 1)=(S.rs.length:Int) - 1:=IntWalk.i64_in _ (by omega)
   go_wp2_with fail
   clear k2 kl wk
   go_loopw [14,15] (fun s9 s10 wr=>∃ k:Nat,k<=S.rs.length/\s9=.int .i64 ((nN (fun t=>decide (t.st=m.st)) S.rs k:Nat):Int)/\s10=.int .i64 ((k:Int) - 1)/\Hid (RaR w wr s0 s1 s2 (sA3,S.rs.length,sc3) s4 m (Value.slice A m.ser.length cq))) (fun _ s10 _=>(intOf s10+1).toNat)
   case atStart=>exact ⟨S.rs.length,YF _,by rw [FG],rfl,Z3⟩
   case round =>
    clear Z3
    obtain ⟨k,hk,rfl,rfl,Z4⟩:=hrel
    by_cases hk0:k=0
    case neg =>
     obtain ⟨j,rfl⟩:∃ j,k=j+1:=⟨k - 1,by omega⟩
     rw [show ((j+1:Nat):Int) - 1=(j:Int) by omega]
     have hj0:(0:Int)<=(j:Int):=by omega
     obtain ⟨t,hq⟩:∃ t,S.rs[j]?=some t:=⟨_,YL (by omega)⟩
     obtain ⟨b,o,rfl,hbl,u,hcell,hu⟩:=HEL.out j t hq
     have p0:=(Z4.out.ext.cell (p:=⟨b,o+(j*8+0),none⟩) hbl).trans (hcell 0 _ rfl)
     rw [show o+(j*8+0)=o+j*8 by omega] at p0
     have k2:wr.cell? ⟨w.heap.size,3,none⟩=some (.slice (some ⟨b,o,none⟩) S.rs.length sc3):=by rw [cell_of_row _ _ 3 _ _ _ Z4.out.s];rfl
     have kl:=aA Z4.out.s
     have c0:=Z4.out.m.c0
     have cl:=Z4.out.m.lt
     have pl:b<wr.heap.size:=YX hbl Z4.out.ext.size
     have HSTP:=ZH (zU (p:=fun t=>decide (t.st=m.st)) hq)
     clear hcell hu hq hbl
     have wi1:IntKind.i64.wrap ((j:Int))=(j:Int):=IntWalk.i64_in _ (by omega)
     have zi1:(0:Int)<=(j:Int):=by omega
     have li1:(j:Int)<(S.rs.length:Int):=by omega
     have ti1:((j:Int)).toNat=j:=by omega
     have wj:IntKind.i64.wrap ((j:Int) - 1)=(j:Int) - 1:=IntWalk.i64_in _ (by omega)
     by_cases hst:t.st=m.st
     · have HD:=HQ t.st
       rw [decide_eq_true hst] at HD
       have HF:=ZH (show nN (fun t=>decide (t.st=m.st)) S.rs j=j by rw [HSTP.out,if_pos (decide_eq_true hst)])
       clear hst HQ
       go_wp2_with (go_quiet (fail))
       have ZQ:=ZH (Z4.out.tr (Ext.drewN_ wr nq))
       clear p0 k2 kl c0 cl pl HD Z4
       generalize wr.drewN nq=wx at *
       go_wp2_with fail
       go_roundw
       case rel=>exact ⟨j,by omega,by rw [HF.out],by go_num,ZQ⟩
       case measure=>simp [intOf]
     · have HD:=HQ t.st
       rw [decide_eq_false hst] at HD
       have HF:=ZH (show nN (fun t=>decide (t.st=m.st)) S.rs j=nN (fun t=>decide (t.st=m.st)) S.rs (j+1) by rw [HSTP.out,if_neg (by rw [decide_eq_false hst];decide)])
       clear hst HQ
       go_wp2_with (go_quiet (fail))
       have ZQ:=ZH (Z4.out.tr (Ext.drewN_ wr nq))
       clear p0 k2 kl c0 cl pl HD Z4
       generalize wr.drewN nq=wx at *
       go_wp2_with fail
       go_roundw
       case rel=>exact ⟨j,by omega,by rw [HF.out],by go_num,ZQ⟩
       case measure=>simp [intOf]
    case pos =>
    subst hk0
    clear hk
    cases fs with
    | false =>
      obtain rfl:fg=false:=by cases fg;rfl;exact absurd (HFS.out rfl) (by decide)
      have HA:=ZH (show ac=(S,66) by rw [<- HAC.out];unfold accR;rw [if_neg (not_not_intro HC0.out),if_neg (by have:=HD0.out;omega),HSG.out];rfl)
      have HO:=ZH Z4.out.s
      have HZ:=ZH Z4.out.z
      have H1:=ZH (bT s0 s1 s2 (sA3,S.rs.length,sc3) s4)
      go_wp2_with (first | (refine wpList_load_row rfl 75 _ rfl w.heap.size rfl 75 (aM s0 s1 s2 (sA3,S.rs.length,sc3) s4) (0,0) _ HO.out Tryz.underlying75 rfl aN ?_) | (refine aL rfl 75 _ _ rfl rfl (w.heap.size+1+1) (aM s0 s1 s2 (sA3,S.rs.length,sc3) s4) rfl rfl 75 #[.slice none 0 0,.slice none 0 0,.slice none 0 0,.slice none 0 0,.slice none 0 0] HZ.out aN rfl H1.out ?_))
      have HY:=ZH (aX (cells:=aM s0 s1 s2 (sA3,S.rs.length,sc3) s4) HZ.out)
      refine bodyPost_ret (v:=.tuple #[.agg (aM s0 s1 s2 (sA3,S.rs.length,sc3) s4),.int .i64 66]) ?_ rfl ⟨_,by rw [HA.out];rfl,aS Z4.out.ext (by omega) _,.inl ⟨rfl,by rw [HA.out]⟩⟩
      simp [results,Tryz.results69,asAddr,run_loadVar_row _ (w.heap.size+1+1) 75 75 (aM s0 s1 s2 (sA3,S.rs.length,sc3) s4) (0,0) _ HY.out Tryz.underlying75 rfl aN]
    | true =>
    cases fg with
    | false =>
      have HA:=ZH (show ac=(S,11) by rw [<- HAC.out];unfold accR;rw [if_neg (not_not_intro HC0.out),if_neg (by have:=HD0.out;omega),HSG.out];rfl)
      have HO:=ZH Z4.out.s
      have HZ:=ZH Z4.out.z
      have H1:=ZH (bT s0 s1 s2 (sA3,S.rs.length,sc3) s4)
      go_wp2_with (first | (refine wpList_load_row rfl 75 _ rfl w.heap.size rfl 75 (aM s0 s1 s2 (sA3,S.rs.length,sc3) s4) (0,0) _ HO.out Tryz.underlying75 rfl aN ?_) | (refine aL rfl 75 _ _ rfl rfl (w.heap.size+1+1) (aM s0 s1 s2 (sA3,S.rs.length,sc3) s4) rfl rfl 75 #[.slice none 0 0,.slice none 0 0,.slice none 0 0,.slice none 0 0,.slice none 0 0] HZ.out aN rfl H1.out ?_))
      have HY:=ZH (aX (cells:=aM s0 s1 s2 (sA3,S.rs.length,sc3) s4) HZ.out)
      refine bodyPost_ret (v:=.tuple #[.agg (aM s0 s1 s2 (sA3,S.rs.length,sc3) s4),.int .i64 11]) ?_ rfl ⟨_,by rw [HA.out];rfl,aS Z4.out.ext (by omega) _,.inl ⟨rfl,by rw [HA.out]⟩⟩
      simp [results,Tryz.results69,asAddr,run_loadVar_row _ (w.heap.size+1+1) 75 75 (aM s0 s1 s2 (sA3,S.rs.length,sc3) s4) (0,0) _ HY.out Tryz.underlying75 rfl aN]
    | true =>
    have HBR:=ZH (show ac=match S.rs.findIdx? (fun t=>decide (t.st=m.st)) with
     | some i=>if m.num<=(S.rs.getD i bY).num then (S,67) else (⟨S.roots,S.pool,S.ms,S.rs.set i m,S.ds⟩,0)
     | none=>if 16<=S.rs.length then (S,72) else (⟨S.roots,S.pool,S.ms,S.rs++[m],S.ds⟩,0) by
       rw [<- HAC.out];unfold accR;rw [if_neg (not_not_intro HC0.out),if_neg (by have:=HD0.out;omega),HSG.out];rfl)
    clear HAC HSG HFS HC0 HD0
    cases hf:S.rs.findIdx? (fun t=>decide (t.st=m.st)) with
    | none =>
      rw [zW hf]
      rw [hf] at HBR
      clear hf HQ
      go_upto_region 24 with fail
      refine Gd.aI 16 (by kernel_rfl) (by kernel_rfl) ?_
      simp only [YT,YQ,YU,YV]
      intro w1 hw1
      have k3:∀ m1:Lt w1,m1.1.cell? ⟨w.heap.size,3,none⟩=some (.slice sA3 S.rs.length sc3):=fun m1=>by rw [cell_of_row _ _ 3 _ _ _ (Z4.out.tr (hw1.tr m1.2)).s];rfl
      have kl:∀ m1:Lt w1,w.heap.size<m1.1.heap.size:=fun m1=>aA (Z4.out.tr (hw1.tr m1.2)).s
      repeat (first | (refine Gd.dJ (by exact ⟨_,rfl,rfl,rfl⟩) rfl rfl ?_;simp only [Act.put,YG,YI,YH]) | (refine Gd.aC rfl fun K hK=>?_;go_big_quiet_op;refine hK _ ?_;clear hK K))
      refine Gd.cQ (fun m1=>?_)
      have Z5:=ZH (Z4.out.tr (hw1.tr m1.2))
      clear hw1 k3 kl Z4
      generalize m1.1=w5 at *
      show wpList _ _ _ _ _ _
      by_cases d3:16<=S.rs.length
      case pos =>
       have HA:=ZH (show ac=(S,72) by rw [HBR.out];exact if_pos d3)
       have hd:(16:Int)<=(S.rs.length:Int):=by omega
       go_upto_region 26 with fail
       have k3:w5.cell? ⟨w.heap.size,3,none⟩=some (.slice sA3 S.rs.length sc3):=by rw [cell_of_row _ _ 3 _ _ _ Z5.out.s];rfl
       have kl:=aA Z5.out.s
       go_upto_region 27 with fail
       have Z6:=Z5
       clear k3 kl Z5
       try clear hd
       try clear d3
       have HO:=ZH Z6.out.s
       have HZ:=ZH Z6.out.z
       have H1:=ZH (bT s0 s1 s2 (sA3,S.rs.length,sc3) s4)
       go_wp2_with (first | (refine wpList_load_row rfl 75 _ rfl w.heap.size rfl 75 (aM s0 s1 s2 (sA3,S.rs.length,sc3) s4) (0,0) _ HO.out Tryz.underlying75 rfl aN ?_) | (refine aL rfl 75 _ _ rfl rfl (w.heap.size+1+1) (aM s0 s1 s2 (sA3,S.rs.length,sc3) s4) rfl rfl 75 #[.slice none 0 0,.slice none 0 0,.slice none 0 0,.slice none 0 0,.slice none 0 0] HZ.out aN rfl H1.out ?_))
       have HY:=ZH (aX (cells:=aM s0 s1 s2 (sA3,S.rs.length,sc3) s4) HZ.out)
       refine bodyPost_ret (v:=.tuple #[.agg (aM s0 s1 s2 (sA3,S.rs.length,sc3) s4),.int .i64 72]) ?_ rfl ⟨_,by rw [HA.out];rfl,aS Z6.out.ext (by omega) _,.inl ⟨rfl,by rw [HA.out]⟩⟩
       simp [results,Tryz.results69,asAddr,run_loadVar_row _ (w.heap.size+1+1) 75 75 (aM s0 s1 s2 (sA3,S.rs.length,sc3) s4) (0,0) _ HY.out Tryz.underlying75 rfl aN]
      have HA:=ZH (show ac=(⟨S.roots,S.pool,S.ms,S.rs++[m],S.ds⟩,0) by rw [HBR.out];exact if_neg d3)
      have hd:¬ (16:Int)<=(S.rs.length:Int):=by omega
      go_upto_region 26 with fail
      have k3:w5.cell? ⟨w.heap.size,3,none⟩=some (.slice sA3 S.rs.length sc3):=by rw [cell_of_row _ _ 3 _ _ _ Z5.out.s];rfl
      have kl:=aA Z5.out.s
      go_upto_region 28 with fail
      have Z6:=Z5
      clear k3 kl Z5
      try clear hd
      try clear d3
      have k3:w5.cell? ⟨w.heap.size,3,none⟩=some (.slice sA3 S.rs.length sc3):=by rw [cell_of_row _ _ 3 _ _ _ Z6.out.s];rfl
      have kl:=aA Z6.out.s
      have eA:Ext w5 (w5.alloc (.cells #[] 103)):=(Below.refl _ _).alloc (YF _) _
      have k4:=(eA.cell (p:=⟨w.heap.size,3,none⟩) kl).trans k3
      have kl4:=YX kl eA.size
      have Z7:=ZH (Z6.out.tr eA)
      have HRS:=ZH (RdK.ext H2.out Z7.out.ext)
      have XA:=ZH (Below.refl (w.heap.size+1+1+1) (w5.alloc (.cells #[] 103)))
      have HOE:=ZH (aJ.empty (w5.alloc (.cells #[] 103)) (w.heap.size+1+1+1) 103 8 (some ⟨w5.heap.size,0,none⟩))
      clear eA
      go_upto_region 29 with (refine bL (k:=8) (by decide) sN (n:=0) (m:=ps.length) (B:=w.heap.size+1+1+1) HOE.out rfl HRS.out (by rw [kR.cells_len];rfl) HON.out XA.out (by have:=HL.out;omega) (by have:=HL.out;unfold maxLen;omega) Z7.out.sz rfl rfl rfl rfl ?_;intro A8 n8 c8 w8 hn8 o8 x8 g8)
      have HO8:=ZH (show aJ w8 (w.heap.size+1+1+1) 103 8 (.slice A8 n8 c8) (kR.cells ps) from o8)
      have HN8:=ZH (show n8=S.rs.length by rw [hn8.out,HPM.out.2,YR])
      have Z8:=ZH (Z7.out.below x8)
      clear o8 x8 g8 hn8 k3 k4 kl kl4 Z6 Z7 HOE HRS XA
      by_cases hn8:(S.rs.length:Int)=(n8:Int)
      case neg=>exact absurd (by rw [HN8.out]) hn8
      have hb8:((S.rs.length:Int) == (n8:Int))=true:=by simpa using hn8
      clear hn8
      have y0:=Z8.out.m.c0
      have y1:=Z8.out.m.c1
      have y2:=Z8.out.m.c2
      have y3:=Z8.out.m.c3
      have y4:=Z8.out.m.c4
      have y5:=Z8.out.m.c5
      have y6:=Z8.out.m.c6
      have y7:=Z8.out.m.c7
      have yl:=Z8.out.m.lt
      have eB:Ext w8 (w8.alloc (.cells #[.string (aK m.st),.int .i64 m.num,.int .i64 m.day,.int .i64 m.nxt,Value.slice A m.ser.length cq,.int .i64 m.iss,.int .i64 m.e,.int .i64 m.s] 103)):=(Below.refl _ _).alloc (YF _) _
      have HLM:=ZH (VR w8 m (Value.slice A m.ser.length cq))
      have HO9:=ZH (HO8.out.ext eB)
      have Z9:=ZH (Z8.out.tr eB)
      have XB:=ZH (Below.refl (w.heap.size+1+1+1) (w8.alloc (.cells #[.string (aK m.st),.int .i64 m.num,.int .i64 m.day,.int .i64 m.nxt,Value.slice A m.ser.length cq,.int .i64 m.iss,.int .i64 m.e,.int .i64 m.s] 103)))
      unfold aY at HLM
      clear eB
      go_upto_region 31 with (refine bL (k:=8) (by decide) sN (n:=n8) (m:=1) (B:=w.heap.size+1+1+1) HO9.out (by rw [kR.cells_len,HN8.out,HPM.out.2];rfl) HLM.out (by rfl) (kR.one m (Value.slice A m.ser.length cq) rfl) XB.out (by have:=HN8.out;omega) (by have:=HN8.out;unfold maxLen;omega) Z9.out.sz rfl rfl rfl rfl ?_;intro A10 n10 c10 w10 hn10 o10 x10 g10)
      have o11:aJ w10 (w.heap.size+1+1+1) 103 8 (.slice A10 n10 c10) (kR.cells (ps++[(m,(Value.slice A m.ser.length cq))])):=by
       rw [<- kR.cells_snoc]
       exact o10
      have HN10:=ZH (show n10=S.rs.length+1 by rw [hn10.out,HN8.out])
      have Z10:=ZH (Z9.out.below x10)
      clear o10 x10 g10 hn10 hb8 y0 y1 y2 y3 y4 y5 y6 y7 yl Z8 Z9 HO8 HO9 HLM
      obtain ⟨g,rfl,hBg,hth,hnn,hnc,hcm,o12⟩:=aJ.setRowK (K:=kR) (a:=m) (u:=(Value.slice A m.ser.length cq)) o11 (show S.rs.length<(ps++[(m,(Value.slice A m.ser.length cq))]).length by rw [YJ,HPM.out.2];exact Nat.lt_succ_self _)
      have HTH:=ZH (show w10.there g (S.rs.length*8) 8 from hth)
      have HO12:=ZH (show aJ (w10.setCells g (S.rs.length*8) (aY m (Value.slice A m.ser.length cq))) (w.heap.size+1+1+1) 103 8 (.slice (some ⟨g,0,none⟩) n10 c10) (kR.cells ((ps++[(m,(Value.slice A m.ser.length cq))]).set S.rs.length (m,(Value.slice A m.ser.length cq)))) from o12)
      have HBG:=ZH hBg
      unfold maxLen at hcm
      have hix:S.rs.length<n10:=by have:=HN10.out;omega
      have wi2:IntKind.i64.wrap (((S.rs.length:Int)))=((S.rs.length:Int)):=IntWalk.i64_in _ (by omega)
      have zi2:(0:Int)<=((S.rs.length:Int)):=by omega
      have li2:((S.rs.length:Int))<(n10:Int):=by omega
      have ti2:(((S.rs.length:Int))).toNat=S.rs.length:=by omega
      have HR:=ZH Z10.out.m.row
      clear o11 o12 hth hnn hBg
      go_step
      go_step
      go_step
      go_step
      go_step
      go_step
      go_step
      refine wpList_load_row rfl 103 _ rfl (w.heap.size+1) rfl 103 (aY m (Value.slice A m.ser.length cq)).toArray (0,0) _ HR.out Tryz.underlying103 rfl bA ?_
      go_step
      go_step
      go_step
      refine fD rfl 103 _ _ rfl rfl g (S.rs.length*8) (aY m (Value.slice A m.ser.length cq)) rfl rfl HTH.out bA (QR m (Value.slice A m.ser.length cq) rfl) ?_
      have bx:Below (w.heap.size+1+1+1) w10 (w10.setCells g (S.rs.length*8) (aY m (Value.slice A m.ser.length cq))):=(Below.refl _ _).grown (Gb.setCellsU g (aY m (Value.slice A m.ser.length cq)) (S.rs.length*8) w10) Z10.out.sz (fun r hr=>by injection hr with hr;have:=HBG.out;omega)
      have Z12:=ZH (Z10.out.below bx)
      clear bx HTH HR Z10
      generalize w10.setCells g (S.rs.length*8) (aY m (Value.slice A m.ser.length cq))=w12 at *
      have Z13:=ZH (Z12.out.put (some ⟨g,0,none⟩,n10,c10))
      have HO13:=ZH (HO12.out.grown (Gb.set w.heap.size 3 w12 (.slice (some ⟨g,0,none⟩) n10 c10)) (.inr (fun q=>by have:=aZ HO12.out _ q;omega)))
      have k3:w12.cell? ⟨w.heap.size,3,none⟩=some (.slice sA3 S.rs.length sc3):=by rw [cell_of_row _ _ 3 _ _ _ Z12.out.s];rfl
      have kl:=aA Z12.out.s
      have kf:w12.frozen? ⟨w.heap.size,3,none⟩=false:=by simp [World.frozen?,Z12.out.s]
      go_upto_region 33 with fail
      clear k3 kl kf
      generalize w12.setCell ⟨w.heap.size,3,none⟩ (.slice (some ⟨g,0,none⟩) n10 c10)=w13 at *
      have HO:=ZH Z13.out.s
      have HZ:=ZH Z13.out.z
      have H1:=ZH (bT s0 s1 s2 (some ⟨g,0,none⟩,n10,c10) s4)
      go_wp2_with (first | (refine wpList_load_row rfl 75 _ rfl w.heap.size rfl 75 (aM s0 s1 s2 (some ⟨g,0,none⟩,n10,c10) s4) (0,0) _ HO.out Tryz.underlying75 rfl aN ?_) | (refine aL rfl 75 _ _ rfl rfl (w.heap.size+1+1) (aM s0 s1 s2 (some ⟨g,0,none⟩,n10,c10) s4) rfl rfl 75 #[.slice none 0 0,.slice none 0 0,.slice none 0 0,.slice none 0 0,.slice none 0 0] HZ.out aN rfl H1.out ?_))
      have HY:=ZH (aX (cells:=aM s0 s1 s2 (some ⟨g,0,none⟩,n10,c10) s4) HZ.out)
      refine bodyPost_ret (v:=.tuple #[.agg (aM s0 s1 s2 (some ⟨g,0,none⟩,n10,c10) s4),.int .i64 0]) ?_ rfl ⟨(some ⟨g,0,none⟩,n10,c10),by rw [HA.out];rfl,aS Z13.out.ext (by omega) _,.inr ⟨(ps++[(m,(Value.slice A m.ser.length cq))]).set S.rs.length (m,(Value.slice A m.ser.length cq)),(HO13.out.setR (fun q=>by have:=aZ HO13.out _ q;omega)).mono (by omega),by rw [HA.out,<- HPM.out.2,qW,List.map_append,HPM.out.1];rfl,fun p hp=>by rw [<- HPM.out.2,qW] at hp;exact (List.mem_append.1 hp).imp id (fun q=>List.mem_singleton.1 q)⟩⟩
      simp [results,Tryz.results69,asAddr,run_loadVar_row _ (w.heap.size+1+1) 75 75 (aM s0 s1 s2 (some ⟨g,0,none⟩,n10,c10) s4) (0,0) _ HY.out Tryz.underlying75 rfl aN]
    | some i =>
      obtain ⟨hlow,hil⟩:=zV hf
      rw [hlow]
      rw [hf] at HBR
      clear hf HQ hlow
      obtain ⟨t,hq⟩:∃ t,S.rs[i]?=some t:=⟨_,YL hil⟩
      have HG:=ZH (show S.rs.getD i bY=t by rw [List.getD_eq_getElem?_getD,hq];rfl)
      obtain ⟨b,o,rfl,hbl,u,hcell,hu⟩:=HEL.out i t hq
      have hn1:w.cell? ⟨b,o+i*8+1,none⟩=some (.int .i64 t.num):=by
       have:=hcell 1 _ rfl
       rwa [<- YM] at this
      have HN1:=ZH (And.intro hbl hn1)
      clear hcell hu hq hn1 hbl
      have wi3:IntKind.i64.wrap ((i:Int))=(i:Int):=IntWalk.i64_in _ (by omega)
      have zi3:(0:Int)<=(i:Int):=by omega
      have li3:(i:Int)<(S.rs.length:Int):=by omega
      have ti3:((i:Int)).toNat=i:=by omega
      go_upto_region 24 with fail
      refine Gd.aI 16 (by kernel_rfl) (by kernel_rfl) ?_
      simp only [YT,YQ,YU,YV]
      intro w1 hw1
      have LL:∀ m1:Lt w1,Ext wr m1.1:=fun m1=>hw1.tr m1.2
      have k3:∀ m1:Lt w1,m1.1.cell? ⟨w.heap.size,3,none⟩=some (.slice (some ⟨b,o,none⟩) S.rs.length sc3):=fun m1=>by rw [cell_of_row _ _ 3 _ _ _ (Z4.out.tr (LL m1)).s];rfl
      have k1:∀ m1:Lt w1,m1.1.cell? ⟨b,o+i*8+1,none⟩=some (.int .i64 t.num):=fun m1=>((Z4.out.tr (LL m1)).ext.cell (p:=⟨b,o+i*8+1,none⟩) HN1.out.1).trans HN1.out.2
      have kr:∀ m1:Lt w1,m1.1.cell? ⟨w.heap.size+1,1,none⟩=some (.int .i64 m.num):=fun m1=>(Z4.out.tr (LL m1)).m.c1
      have kl:∀ m1:Lt w1,w.heap.size+1<m1.1.heap.size:=fun m1=>(Z4.out.tr (LL m1)).m.lt
      have kl0:∀ m1:Lt w1,w.heap.size<m1.1.heap.size:=fun m1=>Nat.lt_of_succ_lt (kl m1)
      have kb:∀ m1:Lt w1,b<m1.1.heap.size:=fun m1=>YX HN1.out.1 (Z4.out.tr (LL m1)).ext.size
      repeat (first | (refine Gd.dJ (by exact ⟨_,rfl,rfl,rfl⟩) rfl rfl ?_;simp only [Act.put,YG,YI,YH]) | (refine Gd.aC rfl fun K hK=>?_;go_big_quiet_op;refine hK _ ?_;clear hK K))
      refine Gd.cQ (fun m1=>?_)
      have Z5:=ZH (Z4.out.tr (LL m1))
      clear hw1 LL k3 k1 kr kl kl0 kb Z4
      generalize m1.1=w5 at *
      show wpList _ _ _ _ _ _
      by_cases d3:m.num<=t.num
      case pos =>
       have HA:=ZH (show ac=(S,67) by rw [HBR.out];show (if m.num<=(S.rs.getD i bY).num then _ else _)=_;rw [HG.out];exact if_pos d3)
       go_upto_region 25 with fail
       clear d3
       have Z6:=Z5
       have HO:=ZH Z6.out.s
       have HZ:=ZH Z6.out.z
       have H1:=ZH (bT s0 s1 s2 (some ⟨b,o,none⟩,S.rs.length,sc3) s4)
       go_wp2_with (first | (refine wpList_load_row rfl 75 _ rfl w.heap.size rfl 75 (aM s0 s1 s2 (some ⟨b,o,none⟩,S.rs.length,sc3) s4) (0,0) _ HO.out Tryz.underlying75 rfl aN ?_) | (refine aL rfl 75 _ _ rfl rfl (w.heap.size+1+1) (aM s0 s1 s2 (some ⟨b,o,none⟩,S.rs.length,sc3) s4) rfl rfl 75 #[.slice none 0 0,.slice none 0 0,.slice none 0 0,.slice none 0 0,.slice none 0 0] HZ.out aN rfl H1.out ?_))
       have HY:=ZH (aX (cells:=aM s0 s1 s2 (some ⟨b,o,none⟩,S.rs.length,sc3) s4) HZ.out)
       refine bodyPost_ret (v:=.tuple #[.agg (aM s0 s1 s2 (some ⟨b,o,none⟩,S.rs.length,sc3) s4),.int .i64 67]) ?_ rfl ⟨_,by rw [HA.out];rfl,aS Z6.out.ext (by omega) _,.inl ⟨rfl,by rw [HA.out]⟩⟩
       simp [results,Tryz.results69,asAddr,run_loadVar_row _ (w.heap.size+1+1) 75 75 (aM s0 s1 s2 (some ⟨b,o,none⟩,S.rs.length,sc3) s4) (0,0) _ HY.out Tryz.underlying75 rfl aN]
      have HA:=ZH (show ac=(⟨S.roots,S.pool,S.ms,S.rs.set i m,S.ds⟩,0) by rw [HBR.out];show (if m.num<=(S.rs.getD i bY).num then _ else _)=_;rw [HG.out];exact if_neg d3)
      have hne:((i:Int) == (S.rs.length:Int))=false:=by simp;omega
      go_upto_region 26 with fail
      have k3:w5.cell? ⟨w.heap.size,3,none⟩=some (.slice (some ⟨b,o,none⟩) S.rs.length sc3):=by rw [cell_of_row _ _ 3 _ _ _ Z5.out.s];rfl
      have kl:=aA Z5.out.s
      go_upto_region 28 with fail
      have Z6:=Z5
      clear k3 kl Z5
      try clear hd
      try clear d3
      clear hne
      have k3:w5.cell? ⟨w.heap.size,3,none⟩=some (.slice (some ⟨b,o,none⟩) S.rs.length sc3):=by rw [cell_of_row _ _ 3 _ _ _ Z6.out.s];rfl
      have kl:=aA Z6.out.s
      have eA:Ext w5 (w5.alloc (.cells #[] 103)):=(Below.refl _ _).alloc (YF _) _
      have k4:=(eA.cell (p:=⟨w.heap.size,3,none⟩) kl).trans k3
      have kl4:=YX kl eA.size
      have Z7:=ZH (Z6.out.tr eA)
      have HRS:=ZH (RdK.ext H2.out Z7.out.ext)
      have XA:=ZH (Below.refl (w.heap.size+1+1+1) (w5.alloc (.cells #[] 103)))
      have HOE:=ZH (aJ.empty (w5.alloc (.cells #[] 103)) (w.heap.size+1+1+1) 103 8 (some ⟨w5.heap.size,0,none⟩))
      clear eA
      go_upto_region 29 with (refine bL (k:=8) (by decide) sN (n:=0) (m:=ps.length) (B:=w.heap.size+1+1+1) HOE.out rfl HRS.out (by rw [kR.cells_len];rfl) HON.out XA.out (by have:=HL.out;omega) (by have:=HL.out;unfold maxLen;omega) Z7.out.sz rfl rfl rfl rfl ?_;intro A8 n8 c8 w8 hn8 o8 x8 g8)
      have HO8:=ZH (show aJ w8 (w.heap.size+1+1+1) 103 8 (.slice A8 n8 c8) (kR.cells ps) from o8)
      have HN8:=ZH (show n8=S.rs.length by rw [hn8.out,HPM.out.2,YR])
      have Z8:=ZH (Z7.out.below x8)
      clear o8 x8 g8 hn8 k3 k4 kl kl4 Z6 Z7 HOE HRS XA
      have hb8:((i:Int) == (n8:Int))=false:=by have:=HN8.out;simp;omega
      have o11:=HO8.out
      have Z10:=Z8
      have HN10:=HN8
      go_upto_region 31 with fail
      obtain ⟨g,rfl,hBg,hth,hnn,hnc,hcm,o12⟩:=aJ.setRowK (K:=kR) (a:=m) (u:=(Value.slice A m.ser.length cq)) o11 (show i<(ps).length by rw [HPM.out.2];exact hil)
      have HTH:=ZH (show w8.there g (i*8) 8 from hth)
      have HO12:=ZH (show aJ (w8.setCells g (i*8) (aY m (Value.slice A m.ser.length cq))) (w.heap.size+1+1+1) 103 8 (.slice (some ⟨g,0,none⟩) n8 c8) (kR.cells (ps.set i (m,(Value.slice A m.ser.length cq)))) from o12)
      have HBG:=ZH hBg
      unfold maxLen at hcm
      have hix:i<n8:=by have:=HN10.out;omega
      have wi4:IntKind.i64.wrap (((i:Int)))=((i:Int)):=IntWalk.i64_in _ (by omega)
      have zi4:(0:Int)<=((i:Int)):=by omega
      have li4:((i:Int))<(n8:Int):=by omega
      have ti4:(((i:Int))).toNat=i:=by omega
      have HR:=ZH Z10.out.m.row
      clear o11 o12 hth hnn hBg
      go_step
      go_step
      go_step
      go_step
      go_step
      go_step
      go_step
      refine wpList_load_row rfl 103 _ rfl (w.heap.size+1) rfl 103 (aY m (Value.slice A m.ser.length cq)).toArray (0,0) _ HR.out Tryz.underlying103 rfl bA ?_
      go_step
      go_step
      go_step
      refine fD rfl 103 _ _ rfl rfl g (i*8) (aY m (Value.slice A m.ser.length cq)) rfl rfl HTH.out bA (QR m (Value.slice A m.ser.length cq) rfl) ?_
      have bx:Below (w.heap.size+1+1+1) w8 (w8.setCells g (i*8) (aY m (Value.slice A m.ser.length cq))):=(Below.refl _ _).grown (Gb.setCellsU g (aY m (Value.slice A m.ser.length cq)) (i*8) w8) Z10.out.sz (fun r hr=>by injection hr with hr;have:=HBG.out;omega)
      have Z12:=ZH (Z10.out.below bx)
      clear bx HTH HR Z10
      generalize w8.setCells g (i*8) (aY m (Value.slice A m.ser.length cq))=w12 at *
      have Z13:=ZH (Z12.out.put (some ⟨g,0,none⟩,n8,c8))
      have HO13:=ZH (HO12.out.grown (Gb.set w.heap.size 3 w12 (.slice (some ⟨g,0,none⟩) n8 c8)) (.inr (fun q=>by have:=aZ HO12.out _ q;omega)))
      have k3:w12.cell? ⟨w.heap.size,3,none⟩=some (.slice (some ⟨b,o,none⟩) S.rs.length sc3):=by rw [cell_of_row _ _ 3 _ _ _ Z12.out.s];rfl
      have kl:=aA Z12.out.s
      have kf:w12.frozen? ⟨w.heap.size,3,none⟩=false:=by simp [World.frozen?,Z12.out.s]
      go_upto_region 33 with fail
      clear k3 kl kf
      generalize w12.setCell ⟨w.heap.size,3,none⟩ (.slice (some ⟨g,0,none⟩) n8 c8)=w13 at *
      have HO:=ZH Z13.out.s
      have HZ:=ZH Z13.out.z
      have H1:=ZH (bT s0 s1 s2 (some ⟨g,0,none⟩,n8,c8) s4)
      go_wp2_with (first | (refine wpList_load_row rfl 75 _ rfl w.heap.size rfl 75 (aM s0 s1 s2 (some ⟨g,0,none⟩,n8,c8) s4) (0,0) _ HO.out Tryz.underlying75 rfl aN ?_) | (refine aL rfl 75 _ _ rfl rfl (w.heap.size+1+1) (aM s0 s1 s2 (some ⟨g,0,none⟩,n8,c8) s4) rfl rfl 75 #[.slice none 0 0,.slice none 0 0,.slice none 0 0,.slice none 0 0,.slice none 0 0] HZ.out aN rfl H1.out ?_))
      have HY:=ZH (aX (cells:=aM s0 s1 s2 (some ⟨g,0,none⟩,n8,c8) s4) HZ.out)
      refine bodyPost_ret (v:=.tuple #[.agg (aM s0 s1 s2 (some ⟨g,0,none⟩,n8,c8) s4),.int .i64 0]) ?_ rfl ⟨(some ⟨g,0,none⟩,n8,c8),by rw [HA.out];rfl,aS Z13.out.ext (by omega) _,.inr ⟨ps.set i (m,(Value.slice A m.ser.length cq)),(HO13.out.setR (fun q=>by have:=aZ HO13.out _ q;omega)).mono (by omega),by rw [HA.out,kL,HPM.out.1],fun p hp=>List.mem_or_eq_of_mem_set hp⟩⟩
      simp [results,Tryz.results69,asAddr,run_loadVar_row _ (w.heap.size+1+1) 75 75 (aM s0 s1 s2 (some ⟨g,0,none⟩,n8,c8) s4) (0,0) _ HY.out Tryz.underlying75 rfl aN]
  case pos =>
  obtain ⟨y,hy⟩:∃ y,L[k]?=some y:=⟨_,YL hlt⟩
  obtain ⟨b,o,rfl,hbl,hc⟩:=HELT.out (by omega)
  have hcy:=hc k y hy
  have HSN:=ZH (EO (i:=m.iss) hy)
  have HSV:=ZH (show ((L.take (k+1)).any fun c=>decide (c.own=m.iss) && fF c.key (byR m) m.e m.s)=(((L.take k).any fun c=>decide (c.own=m.iss) && fF c.key (byR m) m.e m.s) || (decide (y.own=m.iss) && fF y.key (byR m) m.e m.s)) by rw [fS hy,List.any_append];simp)
  have q4:=(X3.out.cell (p:=⟨b,o+k*11+4,none⟩) hbl).trans hcy.2.2.2.2.1
  have r5:=Z3.out.m.c5
  have rl:=Z3.out.m.lt
  have bl:=YX hbl X3.out.size
  have HQ5:=ZH (And.intro hbl hcy.2.2.2.2.2.1)
  have wi5:IntKind.i64.wrap ((k:Int))=(k:Int):=IntWalk.i64_in _ (by omega)
  have zi5:(0:Int)<=(k:Int):=by omega
  have li5:(k:Int)<(L.length:Int):=by omega
  have ti5:((k:Int)).toNat=k:=by omega
  have wk:IntKind.i64.wrap ((k:Int)+1)=(k:Int)+1:=IntWalk.i64_in _ (by omega)
  generalize ((L.take k).any fun c=>decide (c.own=m.iss))=fs at *
  generalize ((L.take k).any fun c=>decide (c.own=m.iss) && fF c.key (byR m) m.e m.s)=fg at *
  clear hcy hc hy hbl
  by_cases d1:y.own=m.iss
  case neg =>
   have hb:(y.own == m.iss)=false:=by simpa using d1
   have HF1:=ZH (show ((L.take (k+1)).any fun c=>decide (c.own=m.iss))=fs by rw [HSN.out,decide_eq_false d1,Bool.or_false])
   have HF2:=ZH (show ((L.take (k+1)).any fun c=>decide (c.own=m.iss) && fF c.key (byR m) m.e m.s)=fg by rw [HSV.out,decide_eq_false d1,Bool.false_and,Bool.or_false])
   clear d1
   go_wp2_with (go_quiet (fail))
   have ZQ:=ZH (Z3.out.tr (Ext.drewN_ wr nq))
   have XQ:=ZH (X3.out.tr (Ext.drewN_ wr nq))
   clear q4 r5 rl bl Z3 X3
   generalize wr.drewN nq=wx at *
   go_wp2_with fail
   go_roundw
   case rel=>exact ⟨k+1,by omega,by go_num,by rw [HF1.out],by rw [HF2.out],ZQ,XQ⟩
   case measure=>simp [intOf];omega
  have hb:(y.own == m.iss)=true:=by simpa using d1
  have HF1:=ZH (show ((L.take (k+1)).any fun c=>decide (c.own=m.iss))=true by rw [HSN.out,decide_eq_true d1,Bool.or_true])
  have HF2:=ZH (show ((L.take (k+1)).any fun c=>decide (c.own=m.iss) && fF c.key (byR m) m.e m.s)=(fg || fF y.key (byR m) m.e m.s) by rw [HSV.out,decide_eq_true d1,Bool.true_and])
  clear d1 HSN HSV
  go_upto_region 12 with (go_quiet (fail))
  have ZQ:=ZH (Z3.out.tr (Ext.drewN_ wr nq))
  have XQ:=ZH (X3.out.tr (Ext.drewN_ wr nq))
  clear q4 r5 rl bl Z3 X3 hb
  generalize wr.drewN nq=wx at *
  cases fg with
  | true =>
    go_upto_region 13 with fail
    refine Gd.aI 12 (by kernel_rfl) (by kernel_rfl) ?_
    simp only [YT,YQ,YU,YV]
    intro w1 hw1
    repeat (first | (refine Gd.dJ (by exact ⟨_,rfl,rfl,rfl⟩) rfl rfl ?_;simp only [Act.put,YG,YI,YH]) | (refine Gd.aC rfl fun K hK=>?_;go_big_quiet_op;refine hK _ ?_;clear hK K))
    refine Gd.cQ (fun m1=>?_)
    have ZE:=ZH (ZQ.out.tr (hw1.tr m1.2))
    have XE:=ZH (XQ.out.tr (hw1.tr m1.2))
    clear hw1 ZQ XQ
    generalize m1.1=wy at *
    show wpList _ _ _ _ _ _
    go_wp2_with fail
    go_roundw
    case rel=>exact ⟨k+1,by omega,by go_num,by rw [HF1.out],by rw [HF2.out];rfl,ZE,XE⟩
    case measure=>simp [intOf];omega
  | false =>
    go_upto_region 13 with fail
    refine Gd.aI 12 (by kernel_rfl) (by kernel_rfl) ?_
    simp only [YT,YQ,YU,YV]
    intro w1 hw1
    have LL:∀ m1:Lt w1,Ext wx m1.1:=fun m1=>hw1.tr m1.2
    have q5:=fun m1:Lt w1=>((XQ.out.tr (LL m1)).cell (p:=⟨b,o+k*11+5,none⟩) HQ5.out.1).trans HQ5.out.2
    have bl:=fun m1:Lt w1=>YX HQ5.out.1 (XQ.out.tr (LL m1)).size
    have c6:=fun m1:Lt w1=>(ZQ.out.tr (LL m1)).m.c6
    have c7:=fun m1:Lt w1=>(ZQ.out.tr (LL m1)).m.c7
    have cl:=fun m1:Lt w1=>(ZQ.out.tr (LL m1)).m.lt
    repeat (refine Gd.aC rfl fun K hK=>?_;go_big_quiet_op;refine hK _ ?_;clear hK K)
    refine Gd.bN (Gd.gR rfl) (.bool (fF y.key (byR m) m.e m.s)) (args:=[.int .i64 y.key,.slice A1 n1 c1,.agg #[.int .i64 m.e,.int .i64 m.s]]) rfl rfl rfl rfl (by kernel_rfl) rfl rfl (fun m1=>(HVF.out _ y.key m1.1 (ZQ.out.tr (LL m1)).ext (HRB2.out.ext (XQ.out.tr (LL m1)))).mono fun _ _ ⟨h1,h2⟩=>⟨h1,h2⟩) ?_
    simp only [Act.put,YG,YI,YH]
    repeat (refine Gd.aC rfl fun K hK=>?_;go_big_quiet_op;refine hK _ ?_;clear hK K)
    refine Gd.cQ (fun m1=>?_)
    have ZE:=ZH (ZQ.out.tr (LL m1))
    have XE:=ZH (XQ.out.tr (LL m1))
    clear hw1 LL q5 bl c6 c7 cl ZQ XQ
    generalize m1.1=wy at *
    show wpList _ _ _ _ _ _
    go_wp2_with fail
    go_roundw
    case rel=>exact ⟨k+1,by omega,by go_num,by rw [HF1.out],by rw [HF2.out,Bool.false_or],ZE,XE⟩
    case measure=>simp [intOf];omega
theorem L7:¬ iF 100:=by unfold iF;decide
theorem rG:(Tryz.prog.info? 100).map (·.size)=some 7:=by kernel_rfl
def eU (v:Value) (s0 s1 s2 s3 s4:SlT) (day:Int):Array Value:=#[v,.slice s0.1 s0.2.1 s0.2.2,.slice s1.1 s1.2.1 s1.2.2,.slice s2.1 s2.2.1 s2.2.2,.slice s3.1 s3.2.1 s3.2.2,.slice s4.1 s4.2.1 s4.2.2,.int .i64 day]
theorem zX {v:Value} (s0 s1 s2 s3 s4:SlT) (day:Int) (h:v.oneCell'=true):(eU v s0 s1 s2 s3 s4 day).all (·.oneCell')=true:=by
 simp [eU,Value.oneCell']
 exact h
structure WB (w:World) (P D b:Nat):Prop where
 D1:w.heap.size<D
 b1:w.heap.size<b
 D2:D<P
 b2:b<P
structure WI (w:World) (P D b:Nat) (v:Value) (s0 s1 s2 s3 s4:SlT) (day:Int) (xs:List AB) (wr:World):Prop where
 ext:Ext w wr
 dice:∃ M,cI wr D b M
 rz:wr.heap[w.heap.size]?=some (.cells #[.slice none 0 0,.slice none 0 0,.slice none 0 0,.slice none 0 0,.slice none 0 0,.slice none 0 0,.int .i64 0] 100 (0,0))
 po:wr.heap[P]?=some (.cells (eU v s0 s1 s2 s3 s4 day) 100 (0,0))
 own:aJ wr (P+1) 98 33 v (sR xs)
section
variable {w wr wx:World}{P D b:Nat}{v v':Value}{s0 s1 s2 s3 s4 t0 t1 t2 t3 t4:SlT}{day:Int}{xs ys:List AB}
theorem WI.tr (h:WI w P D b v s0 s1 s2 s3 s4 day xs wr) (e:Ext wr wx):WI w P D b v s0 s1 s2 s3 s4 day xs wx:=by
 obtain ⟨h1,⟨M,h2⟩,h3,h4,h5⟩:=h
 exact ⟨h1.tr e,⟨M,h2.ext e⟩,(e.block _ (aA h3)).trans h3,(e.block _ (aA h4)).trans h4,h5.ext e⟩
theorem WI.dc (h:WI w P D b v s0 s1 s2 s3 s4 day xs wr) (q:WB w P D b) (r:(dcR D b).rel wr wx):WI w P D b v s0 s1 s2 s3 s4 day xs wx:=by
 have h1:=q.D1
 have h2:=q.D2
 exact ⟨Gb.below h.ext r.1 (Nat.le_of_lt q.D1),r.2 h.dice,(r.1.block _ (aA h.rz) (fun e=>by injection e with e;omega)).trans h.rz,(r.1.block _ (aA h.po) (fun e=>by injection e with e;omega)).trans h.po,
  h.own.grown r.1 (.inr (fun e=>by have:=aZ h.own _ e;omega))⟩
theorem WI.kdc (h:WI w P D b v s0 s1 s2 s3 s4 day xs wr) (r:(dcR D b).rel wr wx):Kp wr wx:=by
 obtain ⟨M,A,n,c,k,full,h1,_⟩:=h.dice
 exact Kp.gb h1 UW r.1
theorem WI.next (h:WI w P D b v s0 s1 s2 s3 s4 day xs wr) (q:WB w P D b) (n:Int) (n1:1<=n) (n2:n<=4611686018427387904) :
 Calls Tryz.prog 111 #[.pointer (some ⟨D,0,none⟩),.int .i64 n] wr fun e w'=>∃ z:Int,0<=z/\z<n/\e=.returned (.int .i64 z)/\WI w P D b v s0 s1 s2 s3 s4 day xs w'/\Kp wr w' :=
 (lP n h.dice n1 n2).mono fun e w' ⟨u,h1,h2,z,h3,h4,h5⟩=>⟨z,h4,h5,by rw [h1,h3],h.dc q h2,h.kdc h2⟩
theorem WI.app (h:WI w P D b v s0 s1 s2 s3 s4 day xs wr) (q:WB w P D b) (o:aJ wx (P+1) 98 33 v' (sR ys)) (g:wr.grownBy wx (aO v)) :
 wx.heap[P]?=some (.cells (eU v s0 s1 s2 s3 s4 day) 100 (0,0))/\WI w P D b v' s0 s1 s2 s3 s4 day ys (wx.setCell ⟨P,0,none⟩ v')/\Kp wr (wx.setCell ⟨P,0,none⟩ v'):=by
 have hD1:=q.D1
 have hD2:=q.D2
 have hb1:=q.b1
 have hb2:=q.b2
 have hr:∀ k,k<P+1->some k≠aO v:=fun k hk e=>by have:=aZ h.own k e.symm;omega
 obtain ⟨M,hd⟩:=h.dice
 have hP:wx.heap[P]?=some (.cells (eU v s0 s1 s2 s3 s4 day) 100 (0,0)):=(g.block P (aA h.po) (hr P (Nat.lt_succ_self _))).trans h.po
 have k1:Kp wr wx:=Kp.own h.own UV g
 refine ⟨hP,⟨aG (h.ext.grown g h.ext.size (fun k hk=>by have:=aZ h.own k hk;omega)) (by omega),⟨M,(hd.keep (g.block D hd.lt (hr D (by omega))) (g.block b hd.ltb (hr b (by omega)))).keep (aT (by omega)) (aT (by omega))⟩,
  (aT (by omega)).trans ((g.block _ (aA h.rz) (hr _ (by omega))).trans h.rz),?_,o.grown (Gb.set P 0 wx v') (.inr (fun e=>by have:=aZ o _ e;omega))⟩,k1.tr (Kp.gb hP L7 (Gb.set P 0 wx v'))⟩
 have h9:=aF hP 0 v'
 exact h9
theorem WI.put (h:WI w P D b v s0 s1 s2 s3 s4 day xs wr) (q:WB w P D b) (i:Nat) (u:Value) (hr:(eU v s0 s1 s2 s3 s4 day).setIfInBounds i u=eU v t0 t1 t2 t3 t4 day) :
 WI w P D b v t0 t1 t2 t3 t4 day xs (wr.setCell ⟨P,i,none⟩ u)/\Kp wr (wr.setCell ⟨P,i,none⟩ u):=by
 have hD1:=q.D1
 have hD2:=q.D2
 have hb1:=q.b1
 have hb2:=q.b2
 obtain ⟨M,hd⟩:=h.dice
 refine ⟨⟨aG h.ext (by omega),⟨M,hd.keep (aT (by omega)) (aT (by omega))⟩,(aT (by omega)).trans h.rz,?_,h.own.grown (Gb.set P i wr u) (.inr (fun e=>by have:=aZ h.own _ e;omega))⟩,Kp.gb h.po L7 (Gb.set P i wr u)⟩
 have h9:=aF h.po i u
 rw [hr] at h9
 exact h9
theorem WI.store (h:WI w P D b v s0 s1 s2 s3 s4 day xs wr) (q:WB w P D b) (t0 t1 t2 t3 t4:SlT) :
 WI w P D b v t0 t1 t2 t3 t4 day xs (wr.setCells P 1 [slV t0,slV t1,slV t2,slV t3,slV t4])/\Kp wr (wr.setCells P 1 [slV t0,slV t1,slV t2,slV t3,slV t4]):=by
 have hD1:=q.D1
 have hD2:=q.D2
 have hb1:=q.b1
 have hb2:=q.b2
 have hg:=Gb.setCells P [slV t0,slV t1,slV t2,slV t3,slV t4] 1 wr
 obtain ⟨M,hd⟩:=h.dice
 have bl:∀ k,k≠P->k<wr.heap.size->(wr.setCells P 1 [slV t0,slV t1,slV t2,slV t3,slV t4]).heap[k]?=wr.heap[k]?:=fun k hk hl=>hg.block k hl (fun e=>hk (by injection e))
 refine ⟨⟨Gb.below h.ext hg (by omega),⟨M,hd.keep (bl _ (by omega) hd.lt) (bl _ (by omega) hd.ltb)⟩,(bl _ (by omega) (aA h.rz)).trans h.rz,?_,h.own.grown hg (.inr (fun e=>by have:=aZ h.own _ e;omega))⟩,Kp.gb h.po L7 hg⟩
 have h9:=lE [slV t0,slV t1,slV t2,slV t3,slV t4] [v] [.int .i64 day] wr P [slV s0,slV s1,slV s2,slV s3,slV s4] 100 (0,0) h.po rfl
 rw [fU]
 exact h9
theorem WI.setAll {gA i:Nat}{y:AB} (h:WI w P D b v s0 s1 s2 s3 s4 day xs wr) (q:WB w P D b) (hB:P+1<=gA) (hT:∃ cs,wr.heap[gA]?=some (.cells cs 98 (0,0))) (o:aJ (wr.setCells gA (i*33) (abL y)) (P+1) 98 33 v (sR ys)) :
 WI w P D b v s0 s1 s2 s3 s4 day ys (wr.setCells gA (i*33) (abL y))/\Kp wr (wr.setCells gA (i*33) (abL y)):=by
 have hD1:=q.D1
 have hD2:=q.D2
 have hb1:=q.b1
 have hb2:=q.b2
 have hg:=Gb.setCells gA (abL y) (i*33) wr
 obtain ⟨M,hd⟩:=h.dice
 obtain ⟨cs,hT⟩:=hT
 have bl:∀ k,k<P+1->k<wr.heap.size->(wr.setCells gA (i*33) (abL y)).heap[k]?=wr.heap[k]?:=fun k hk hl=>hg.block k hl (fun e=>by injection e with e;omega)
 exact ⟨⟨Gb.below h.ext hg (by omega),⟨M,hd.keep (bl _ (by omega) hd.lt) (bl _ (by omega) hd.ltb)⟩,(bl _ (by omega) (aA h.rz)).trans h.rz,(bl _ (by omega) (aA h.po)).trans h.po,o⟩,Kp.gb hT UV hg⟩
theorem WI.fin (h:WI w P D b v s0 s1 s2 s3 s4 day xs wr) (cs:Array Value):Ext w (wr.setRow w.heap.size cs)/\Kp wr (wr.setRow w.heap.size cs):=⟨aS h.ext (YF _) _,Kp.gb h.rz L7 (Gb.setRow _ _ _)⟩
theorem WI.form (h:WI w P D b v s0 s1 s2 s3 s4 day xs wr):∃ A c,v=.slice A xs.length c:=by
 obtain ⟨A,n,c,e,hn,-⟩:=h.own
 rw [xI] at hn
 obtain rfl:n=xs.length:=ZD (by decide) hn
 exact ⟨A,c,e⟩
theorem WI.range {A:Option Addr}{n c i:Nat}{x:AB} (h:WI w P D b (.slice A n c) s0 s1 s2 s3 s4 day xs wr) (hi:xs[i]?=some x):∃ g,A=some ⟨g,0,none⟩/\P+1<=g/\g<wr.heap.size/\n=xs.length/\n<=c/\c<=maxLen/\wr.rangeAt g (i*33) (abL x):=aJ.rangeFlat uP (by decide) h.own hi
theorem WI.c (h:WI w P D b v s0 s1 s2 s3 s4 day xs wr):wr.rangeAt P 1 [slV s0,slV s1,slV s2,slV s3,slV s4]/\wr.cell? ⟨P,0,none⟩=some v/\wr.cell? ⟨P,1,none⟩=some (slV s0)/\wr.cell? ⟨P,2,none⟩=some (slV s1)/\wr.cell? ⟨P,6,none⟩=some (.int .i64 day)/\P<wr.heap.size/\∀ i,wr.frozen? ⟨P,i,none⟩=false:=by
 have hp:=h.po
 refine ⟨fun j u hu=>?_,by rw [cell_of_row _ _ 0 _ _ _ hp];rfl,by rw [cell_of_row _ _ 1 _ _ _ hp];rfl,by rw [cell_of_row _ _ 2 _ _ _ hp];rfl,by rw [cell_of_row _ _ 6 _ _ _ hp];rfl,aA hp,fun i=>by simp [World.frozen?,hp]⟩
 rw [cell_of_row _ _ _ _ _ _ hp,show eU v s0 s1 s2 s3 s4 day=([v]++[slV s0,slV s1,slV s2,slV s3,slV s4]++[Value.int .i64 day]).toArray from rfl,List.getElem?_toArray,YW,List.getElem?_append_right (by show 1<=1+j;omega),show 1+j - [v].length=j by show 1+j - 1=j;omega,List.getElem?_append_left (List.getElem?_eq_some_iff.1 hu).1]
 exact hu
end
theorem UB (w:World):∃ wz,wz=w.alloc (.cells #[.slice none 0 0,.slice none 0 0,.slice none 0 0,.slice none 0 0,.slice none 0 0,.slice none 0 0,.int .i64 0] 100)/\Ext w wz/\wz.heap[w.heap.size]?=some (.cells #[.slice none 0 0,.slice none 0 0,.slice none 0 0,.slice none 0 0,.slice none 0 0,.slice none 0 0,.int .i64 0] 100 (0,0)) :=
 ⟨_,rfl,(Below.refl _ _).alloc (YF _) _,aB w _⟩
theorem WA (w:World) (day:Int):∃ wz,wz=w.alloc (.cells #[.slice none 0 0,.slice none 0 0,.slice none 0 0,.slice none 0 0,.slice none 0 0,.slice none 0 0,.int .i64 day] 100)/\Ext w wz/\wz.heap[w.heap.size]?=some (.cells (eU (.slice none 0 0) zS zS zS zS zS day) 100 (0,0)) :=
 ⟨_,rfl,(Below.refl _ _).alloc (YF _) _,aB w _⟩
theorem QS {w:World}{A:Option Addr}{n c:Nat}{x:NC}{l:List NC} (h:RdN w (.slice A n c) (x::l)):∃ b o,A=some ⟨b,o,none⟩/\b<w.heap.size/\w.rangeAt b o (aH x):=by
 obtain ⟨A',n',c',e,hn,_,_,hc⟩:=h
 injection e with e1 e2 e3
 subst e1 e2 e3
 rw [bJ,YP] at hn
 obtain ⟨b,o,rfl,hcell⟩:=hc (Nat.pos_of_ne_zero fun q=>by subst q;omega)
 have key:w.rangeAt b o (aH x):=fun j u hu=>hcell j u (by show (aH x++aD l)[j]?=some u;rw [List.getElem?_append_left (List.getElem?_eq_some_iff.1 hu).1];exact hu)
 exact ⟨b,o,rfl,World.block_lt_of_cell? w _ (key 0 _ rfl),key⟩
theorem nQ {w:World}{v:Value}{l:List NC} (h:RdN w v l):∃ A c,v=.slice A l.length c/\l.length<=c/\c<=maxLen:=by
 obtain ⟨A,n,c,e,hn,h1,h2,-⟩:=RdN.at_ h
 subst hn
 exact ⟨A,c,e,h1,h2⟩
def GL5 (D i:Nat):aE:=fun v w=>∃ (g:Nat) (z1 z2 z3 z4:Int),v=.slice (some ⟨g,0,none⟩) 5 5/\D<g/\w.heap[g]?=some (.cells #[.int .i64 (i:Int),.int .i64 z1,.int .i64 z2,.int .i64 z3,.int .i64 z4] 3 (0,0))/\(0<=z1/\z1<200)/\(0<=z2/\z2<3)/\(0<=z3/\z3<9)/\(0<=z4/\z4<9)
theorem IT (D b i:Nat):(dcR D b).stable (GL5 D i):=fun v w w' r ⟨g,z1,z2,z3,z4,h1,h2,h3,h4⟩=>⟨g,z1,z2,z3,z4,h1,h2,(r.1.block g (aA h3) (fun e=>by injection e with e;omega)).trans h3,h4⟩
theorem QT (W:World) (a b c d e:Int):(Instr.buildSlice 41 5 [(0,.int .i64 a),(1,.int .i64 b),(2,.int .i64 c),(3,.int .i64 d),(4,.int .i64 e)].toArray).run Tryz.prog W=.ok (.slice (some ⟨W.heap.size,0,none⟩) 5 5) (W.alloc (.cells #[.int .i64 a,.int .i64 b,.int .i64 c,.int .i64 d,.int .i64 e] 3)):=by go_simp
def WC (D:Nat):aE:=fun v w=>∃ (x:AB) (a:AU) (ds:List Int),v=abV x/\AbR w (D+1) x a/\AuI a ds/\(1<=ds.length/\ds.length<=4/\∀ d ∈ ds,d<=40060)/\x.li=1/\x.V=.slice none 0 0/\x.D=.slice none 0 0/\x.Z=.slice none 0 0
theorem AbR.gbD {w w':World}{D:Nat}{x:AB}{a:AU} (h:AbR w (D+1) x a) (e:Gb D w w'):AbR w' (D+1) x a :=
 ⟨h.o1.grown e (.inr (fun q=>by have:=aZ h.o1 _ q;omega)),h.o2.grown e (.inr (fun q=>by have:=aZ h.o2 _ q;omega)),h.o3.grown e (.inr (fun q=>by have:=aZ h.o3 _ q;omega)),h.ap,h.st,h.sg,h.ls,h.ssec,h.lsec,h.next⟩
theorem FI (D b:Nat):(dcR D b).stable (WC D):=fun v w w' r ⟨x,a,ds,h1,h2,h3⟩=>⟨x,a,ds,h1,h2.gbD r.1,h3⟩
def XO (D:Nat):aE:=fun v w=>∃ (g:Nat) (x:AB) (a:AU) (ds:List Int),v=.slice (some ⟨g,0,none⟩) 1 1/\D<g/\w.heap[g]?=some (.cells (bE x) 98 (0,0))/\AbR w (D+1) x a/\AuI a ds/\(1<=ds.length/\ds.length<=4/\∀ d ∈ ds,d<=40060)/\x.li=1/\x.V=.slice none 0 0/\x.D=.slice none 0 0/\x.Z=.slice none 0 0
theorem FJ (D b:Nat):(dcR D b).stable (XO D):=fun v w w' r ⟨g,x,a,ds,h1,h2,h3,h4,h5⟩=>⟨g,x,a,ds,h1,h2,(r.1.block g (aA h3) (fun e=>by injection e with e;omega)).trans h3,h4.gbD r.1,h5⟩
theorem QU (l:List Int):∀ d ∈ zQ l,d<=40060:=fun d hd=>by
 obtain ⟨j,hj,rfl⟩:=List.mem_map.1 hd
 have h1:=C4 l.tail.tail.tail j
 have h2:=List.mem_range.1 hj
 have h3:=L4 l
 omega
theorem WD {D:Nat}{w w':World}{l:List Int}{e:Ending} (h:XH w l e w') (hD:D<w.heap.size):∃ v,e=.returned v/\Ext w w'/\WC D v w':=by
 obtain ⟨h1,x,a,h2,h3,h4,h5,h6,h7⟩:=h
 have hc:=L4 l
 exact ⟨_,h2,h1,x,a,zQ l,rfl,h3.mono hD,h4,⟨by rw [zR];omega,by rw [zR];omega,QU l⟩,h6,h7⟩
def WE (B:Nat) (l:List NC):aE:=fun v w=>∃ A c,v=.slice A l.length c/\aJ w B 56 11 (.slice A l.length c) (aD l)
theorem FK (B:Nat) (l:List NC):cZ (WE B l):=fun v w w' e ⟨A,c,h1,h2⟩=>⟨A,c,h1,h2.ext e⟩
theorem QV (W:World) (c:NC):(Instr.buildSlice 51 1 [(0,.agg (aH c).toArray)].toArray).run Tryz.prog W=.ok (.slice (some ⟨W.heap.size,0,none⟩) 1 1) (W.alloc (.cells (aH c).toArray 56)):=by
 unfold aH
 go_simp
def QW (B:Nat):aE:=fun v w=>∃ g,v=.pointer (some ⟨g,0,none⟩)/\B<=g/\pM w g 98 33
theorem C9 (W:World):(Instr.alloc 98 true (.tuple #[])).run Tryz.prog W=.ok (.pointer (some ⟨W.heap.size,0,none⟩)) (W.alloc (.cells (.string ⟨#[]⟩::.slice none 0 0::.slice none 0 0::.slice none 0 0::.string ⟨#[]⟩::.int .i64 0::.int .i64 0::.int .i64 0::.int .i64 0::.int .i64 0::.int .i64 0::.int .i64 0::.int .i64 0::.int .i64 0::.int .i64 0::.string ⟨#[]⟩::.int .i64 0::.int .i64 0::.int .i64 0::.int .i64 0::.int .i64 0::.int .i64 0::.int .i64 0::.int .i64 0::.int .i64 0::.int .i64 0::.int .i64 0::.int .i64 0::.int .i64 0::.int .i64 0::.slice none 0 0::.slice none 0 0::.slice none 0 0::([]:List Value)).toArray 98)):=by go_simp
def CA (B:Nat) (x:AB):aE:=fun v w=>∃ g,v=.pointer (some ⟨g,0,none⟩)/\B<=g/\aU w g x
theorem CA.ext {B:Nat}{x:AB} (v:Value) (w w':World) (e:Ext w w') (h:CA B x v w):CA B x v w':=by
 obtain ⟨g,h1,h2,h3⟩:=h
 exact ⟨g,h1,h2,h3.ext e⟩
theorem CA.st {B:Nat}{x:AB}{S:List Nat}{G:Nat->Prop} (T:Nat) (hT:T≠98) (v:Value) (w w':World) (e:(RG S G).st T w w') (h:CA B x v w):CA B x v w':=by
 obtain ⟨g,h1,h2,h3⟩:=h
 exact ⟨g,h1,h2,e.2.other h3 (fun q=>hT (List.mem_singleton.1 q).symm)⟩
theorem IU:56 ∉ amT:=by unfold amT;decide
def GPm (m:MA):aE:=fun v w=>∃ A n c,v=maV m (.slice A n c)/\bQ w 0 56 11 (.slice A n c) (aD m.roots)
theorem IV (m:MA) (G:Nat->Prop):(RG amT G).stable (GPm m):=fun v w w' r ⟨A,n,c,h1,h2⟩=>⟨A,n,c,h1,h2.rg IU (fun _ _=>YK _) r⟩
def yL (B:Nat) (m:MA):aE:=fun v w=>∃ g A n c,v=.pointer (some ⟨g,0,none⟩)/\B<=g/\cY w g m (.slice A n c)/\bQ w 0 56 11 (.slice A n c) (aD m.roots)
theorem yL.ext {B:Nat}{m:MA} (v:Value) (w w':World) (e:Ext w w') (h:yL B m v w):yL B m v w':=by
 obtain ⟨g,A,n,c,h1,h2,h3,h4⟩:=h
 exact ⟨g,A,n,c,h1,h2,h3.ext e,h4.ext e⟩
theorem yL.st {B:Nat}{m:MA}{G:Nat->Prop} (T:Nat) (hT:T≠80) (v:Value) (w w':World) (e:(RG amT G).st T w w') (h:yL B m v w):yL B m v w':=by
 obtain ⟨g,A,n,c,h1,h2,h3,h4⟩:=h
 exact ⟨g,A,n,c,h1,h2,e.2.other h3 (fun q=>hT (List.mem_singleton.1 q).symm),h4.rg (fun q=>IU (List.mem_singleton.1 q ▸ e.1)) (fun _ _=>YK _) e.2⟩
theorem lQ (W:World) (a b c:Value):(Instr.extract (.tuple #[a,b,c]) 0).run Tryz.prog W=.ok a W/\(Instr.extract (.tuple #[a,b,c]) 1).run Tryz.prog W=.ok b W/\(Instr.extract (.tuple #[a,b,c]) 2).run Tryz.prog W=.ok c W:=by
 refine ⟨?_,?_,?_⟩ <;> go_simp
section
variable {P:Program}{r:Gt.Rl}{ops:Array Oper}{Q:Exit->Act->World->Prop}{w0:World}{R:Act->World->Prop}{ss:List (Nat × aE)}
theorem Gt.wpX_allocA33 {o:Oper}{rest:List Oper}{a:Act}{hs:List (Nat × aE)}{d:Nat} (B:Nat) (hB:∀ m:r.Lt w0,B<=m.1.heap.size) (hst:r.stable (QW B)) (hg:dT ops o a hs)
 (hd:o.dst=some d) (hz:Nat.blt d a.tmps.size=true) (ho:o.op=.alloc 98) (hin:(bG o).all (fun t=>Nat.blt t a.tmps.size)=true)
 (hr:Gt.wpX r Tryz.prog ops Q w0 R ss rest (a.put (some d) undef) ((d,QW B)::hs)):Gt.wpX r Tryz.prog ops Q w0 R ss (o::rest) a hs :=
 Gt.eZ hg (QW B) hst (fun _=>Instr.alloc 98 true (.tuple #[])) hd hz (by unfold aV;rw [ho]) hin (fun f=>by unfold execOp;simp only [ho])
  (fun m f hf=>⟨_,_,C9 m.1,r.dxe ((Below.refl _ _).alloc (YF _) _),_,rfl,hB m,_,aB m.1 _,rfl⟩) hr
end
theorem QX {w:World}{s v:Value}{xs:List Value}{m:MA} (h:RdN w s m.roots) (hq:s=v \/ s=.slice none 0 0) (hv:bQ w 0 56 11 v xs):bQ w 0 56 11 s (aD m.roots) :=
 ⟨h,fun A n c hs hn=>by
   rcases hq with rfl | rfl
   · exact hv.2 A n c hs hn
   · injection hs with _ q _
     omega⟩
theorem QY (k:Int) (m:MA):((lO k m).roots=m.roots \/ (lO k m).roots=[])/\((lO k m).sg=m.sg \/ (lO k m).sg=fZ)/\((lO k m).st=m.st \/ (lO k m).st=[]):=by
 unfold lO
 split
 · exact ⟨.inl rfl,.inl rfl,.inl rfl⟩
 · exact ⟨.inr rfl,.inr rfl,.inr rfl⟩
theorem UC {k:Int}{m:MA} (h1:smL m.roots) (h2:smN m.sg) (h3:m.st.length<=maxLen):smL (lO k m).roots/\smN (lO k m).sg/\(lO k m).st.length<=maxLen/\(lO k m).roots.length<=m.roots.length:=by
 obtain ⟨q1,q2,q3⟩:=QY k m
 refine ⟨?_,?_,?_,?_⟩
 · rcases q1 with q | q <;> rw [q]
   · exact h1
   · exact fun c hc=>(by cases hc)
 · rcases q2 with q | q <;> rw [q]
   · exact h2
   · show ([]:List UInt8).length<=maxLen
     exact YK _
 · rcases q3 with q | q <;> rw [q]
   · exact h3
   · exact YK _
 · rcases q1 with q | q <;> rw [q]
   · exact YF _
   · exact YK _
theorem sT (S:ST) (m:MA) (day:Int):(accM S m day).1.roots=S.roots/\(accM S m day).1.pool=S.pool/\(accM S m day).1.rs=S.rs/\(accM S m day).1.ds=S.ds:=by
 unfold accM
 split
 · exact ⟨rfl,rfl,rfl,rfl⟩
 · split
   · split <;> exact ⟨rfl,rfl,rfl,rfl⟩
   · split <;> exact ⟨rfl,rfl,rfl,rfl⟩
theorem zY (S:ST) (r:RV) (day:Int):(accR S r day).1.roots=S.roots/\(accR S r day).1.pool=S.pool/\(accR S r day).1.ms=S.ms/\(accR S r day).1.ds=S.ds:=by
 unfold accR
 split
 · exact ⟨rfl,rfl,rfl,rfl⟩
 · split
   · exact ⟨rfl,rfl,rfl,rfl⟩
   · split
     · exact ⟨rfl,rfl,rfl,rfl⟩
     · split
       · split <;> exact ⟨rfl,rfl,rfl,rfl⟩
       · split <;> exact ⟨rfl,rfl,rfl,rfl⟩
structure WSc (S:ST):Prop where
 b:StB S
 ds:S.ds=[]
theorem WSc.accM {S:ST}{m:MA}{day:Int} (h:WSc S) (hm:smL m.roots) (hl:m.roots.length<=10000):WSc (accM S m day).1:=⟨QO h.b hm hl,(sT S m day).2.2.2.trans h.ds⟩
theorem WSc.accR {S:ST}{r:RV}{day:Int} (h:WSc S) (hl:r.ser.length<=10000):WSc (accR S r day).1:=⟨QP h.b hl,(zY S r day).2.2.2.trans h.ds⟩
theorem RfA.sts {w w':World}{s0 s1 s2 s3 s4:SlT}{S:ST}{ps:List (MA × Value)}{m:MA}{v:Value}{r:ST × Int}{e:Ending} (h:RfA w s0 s1 s2 s3 s4 S ps m v r e w') (hS:StS w s0 s1 s2 s3 s4 S) (hp:∀ p ∈ ps,bQ w 0 56 11 p.2 (aD p.1.roots)) (hv:bQ w 0 56 11 v (aD m.roots)) :
 ∃ t2:SlT,e=.returned (.tuple #[bH s0 s1 t2 s3 s4,.int .i64 r.2])/\Ext w w'/\StS w' s0 s1 t2 s3 s4 r.1:=by
 obtain ⟨t2,h1,h2,h3⟩:=h
 have hS':=hS.kp (Kp.ext h2)
 refine ⟨t2,h1,h2,?_⟩
 rcases h3 with ⟨rfl,h4⟩ | ⟨qs,h4,h5,h6⟩
 · rw [h4];exact hS'
 · rw [h5]
   exact ⟨hS'.r,hS'.p,⟨qs,rfl,h4.safe 0,fun p hq=>by
    rcases h6 p hq with q | rfl
    · exact (hp p q).ext h2
    · exact hv.ext h2⟩,hS'.v,hS'.d⟩
theorem RfB.sts {w w':World}{s0 s1 s2 s3 s4:SlT}{S:ST}{ps:List (RV × Value)}{m:RV}{v:Value}{r:ST × Int}{e:Ending} (h:RfB w s0 s1 s2 s3 s4 S ps m v r e w') (hS:StS w s0 s1 s2 s3 s4 S) (hp:∀ p ∈ ps,bQ w 0 3 1 p.2 (aQ p.1.ser)) (hv:bQ w 0 3 1 v (aQ m.ser)) :
 ∃ t3:SlT,e=.returned (.tuple #[bH s0 s1 s2 t3 s4,.int .i64 r.2])/\Ext w w'/\StS w' s0 s1 s2 t3 s4 r.1:=by
 obtain ⟨t3,h1,h2,h3⟩:=h
 have hS':=hS.kp (Kp.ext h2)
 refine ⟨t3,h1,h2,?_⟩
 rcases h3 with ⟨rfl,h4⟩ | ⟨qs,h4,h5,h6⟩
 · rw [h4];exact hS'
 · rw [h5]
   exact ⟨hS'.r,hS'.p,hS'.m,⟨qs,rfl,h4.safe 0,fun p hq=>by
    rcases h6 p hq with q | rfl
    · exact (hp p q).ext h2
    · exact hv.ext h2⟩,hS'.d⟩
def AuV (n:Int) (w:World) (x:AB):Prop:=∃ vs:List Int,bQ w 0 3 1 x.V (aQ vs)/\(vs.length:Int)<=n/\vs.Pairwise (·<·)/\∀ v ∈ vs,1<=v/\v<=8
theorem AuV.kp {n:Int}{w w':World}{x:AB} (h:AuV n w x) (k:Kp w w'):AuV n w' x:=by
 obtain ⟨vs,h1,h2⟩:=h
 exact ⟨vs,h1.kp sP k,h2⟩
theorem AuV.mono {n n':Int}{w:World}{x:AB} (h:AuV n w x) (k:n<=n'):AuV n' w x:=by
 obtain ⟨vs,h1,h2,h3⟩:=h
 exact ⟨vs,h1,Int.le_trans h2 k,h3⟩
def AvL (n:Int) (w:World) (xs:List AB):Prop:=∀ x ∈ xs,AuV n w x
theorem AvL.kp {n:Int}{w w':World}{xs:List AB} (h:AvL n w xs) (k:Kp w w'):AvL n w' xs:=fun x hx=>(h x hx).kp k
theorem AvL.mono {n n':Int}{w:World}{xs:List AB} (h:AvL n w xs) (k:n<=n'):AvL n' w xs:=fun x hx=>(h x hx).mono k
theorem QZ {l:List Int}{n x:Int} (h:x ∈ dD l n):x ∈ l \/ x=n:=by
 unfold dD at h
 rcases List.mem_append.1 h with h | h
 · exact .inl (List.mem_filter.1 h).1
 · rcases List.mem_cons.1 h with h | h
   · exact .inr h
   · exact .inl (List.mem_filter.1 h).1
theorem UD {l:List Int}{n:Int} (h:l.Pairwise (·<·)):(dD l n).Pairwise (·<·):=by
 unfold dD
 refine List.pairwise_append.2 ⟨h.filter _,List.pairwise_cons.2 ⟨fun y hy=>by simpa using (List.mem_filter.1 hy).2,h.filter _⟩,fun x hx y hy=>?_⟩
 have hx':x<n:=by simpa using (List.mem_filter.1 hx).2
 rcases List.mem_cons.1 hy with rfl | hy
 · exact hx'
 · have:n<y:=by simpa using (List.mem_filter.1 hy).2
   omega
theorem xK (l:List Int) (n:Int):(dD l n).length<=l.length+1:=by
 unfold dD
 rw [YJ,YP]
 have:∀ l:List Int,(l.filter fun x=>decide (x<n)).length+(l.filter fun x=>decide (n<x)).length<=l.length:=by
  intro l
  induction l with
  | nil=>exact YF _
  | cons a l ih =>
    rw [List.filter_cons,List.filter_cons,YP]
    by_cases h1:a<n
    · rw [if_pos (decide_eq_true h1),if_neg (by simp;omega),YP]
      omega
    · rw [if_neg (by simpa using h1)]
      split
      · rw [YP]
        omega
      · omega
 have:=this l
 omega
def dsT:List Nat:=[98,103,217]
theorem WF:217 ∈ dsT:=by unfold dsT;decide
theorem WG:98 ∈ dsT:=by unfold dsT;decide
theorem WH:103 ∈ dsT:=by unfold dsT;decide
theorem oK:3 ∉ dsT:=by unfold dsT;decide
theorem cI.rgs {w w':World}{D b:Nat}{L:List Int}{S:List Nat}{G:Nat->Prop} (h:cI w D b L) (r:RgS S G w w') (h1:¬ G D) (h2:¬ G b):cI w' D b L :=
 h.keep ((r.block D h.lt).resolve_right fun q=>h1 q.1) ((r.block b h.ltb).resolve_right fun q=>h2 q.1)
theorem Gb.rgsD {w w':World}{D b:Nat} (g:Gb D w w') (h:∃ M,cI w D b M) (k:∃ M,cI w' D b M):RgS [217] (fun q=>q=D) w w':=by
 obtain ⟨M,A,n,c,i,f,h1,_⟩:=h
 obtain ⟨M',A',n',c',i',f',k1,_⟩:=k
 refine ⟨g.os,g.tape,g.output,g.size,fun q hq=>?_⟩
 by_cases e:q=D
 · subst e
   exact .inr ⟨rfl,_,_,_,_,List.mem_singleton.2 rfl,h1,k1,rfl⟩
 · exact .inl (g.block q hq (fun z=>e (by injection z)))
def dsR (D b B:Nat) (hD:D<B) (hb:b<B):Gt.Rl where
 rel w w':=RgS dsT (fun q=>q=D \/ B<=q) w w'/\((∃ M,cI w D b M)->∃ M,cI w' D b M)
 st T w w':=T ∈ dsT/\RgS [T] (fun q=>B<=q) w w'
 refl w:=⟨RgS.refl _ _ _,id⟩
 tr h k:=⟨h.1.tr k.1,fun q=>k.2 (h.2 q)⟩
 ext e:=⟨⟨e.os,e.tape,e.output,e.size,fun k hk=>.inl (e.block k hk)⟩,fun ⟨M,h⟩=>⟨M,h.ext e⟩⟩
 sub h:=⟨h.2.sub (fun T hT=>by rw [List.mem_singleton.1 hT];exact h.1) (fun _ q=>.inr q),fun ⟨M,q⟩=>⟨M,q.rgs h.2 (by omega) (by omega)⟩⟩
 dx w w':=RgS [217] (fun q=>q=D) w w'/\((∃ M,cI w D b M)->∃ M,cI w' D b M)
 dxe e:=⟨⟨e.os,e.tape,e.output,e.size,fun k hk=>.inl (e.block k hk)⟩,fun ⟨M,h⟩=>⟨M,h.ext e⟩⟩
 dxs h:=⟨h.1.sub (fun T hT=>by rw [List.mem_singleton.1 hT];exact WF) (fun _ q=>.inl q),h.2⟩
theorem R2 {D b B:Nat}{hD:D<B}{hb:b<B}{w:World} (n:Int) (h:∃ M,cI w D b M) (n1:1<=n) (n2:n<=4611686018427387904) :
 Calls Tryz.prog 111 #[.pointer (some ⟨D,0,none⟩),.int .i64 n] w fun e w'=>∃ v,e=.returned v/\(dsR D b B hD hb).dx w w'/\GZ n v w' :=
 (lP (b:=b) n h n1 n2).mono fun e w' ⟨v,h1,h2,h3⟩=>⟨v,h1,⟨Gb.rgsD h2.1 h (h2.2 h),h2.2⟩,h3⟩
def GQt (n:Int) (x:AB) (k:Int->RV) (kk:Int->Int):aE:=fun v w=>∃ (z:Int) (A:Option Addr) (n1 c:Nat) (A2:Option Addr) (n2 c2:Nat),(1<=z/\z<=8)/\v=.tuple #[abV { x with V:=.slice A n1 c,li:=x.li+1 },rvV (k z) (.slice A2 n2 c2),.int .i64 (kk z)]/\AuV (n+1) w { x with V:=.slice A n1 c,li:=x.li+1 }/\bQ w 0 3 1 (.slice A2 n2 c2) (aQ (k z).ser)/\(k z).ser.length<=10000
theorem AuV.rgs {n:Int}{w w':World}{x:AB}{S:List Nat}{G:Nat->Prop} (h:AuV n w x) (r:RgS S G w w') (hs:3 ∉ S):AuV n w' x:=by
 obtain ⟨vs,h1,h2⟩:=h
 exact ⟨vs,h1.rg hs (fun _ _=>YK _) r,h2⟩
section
variable {D b B:Nat}{hD:D<B}{hb:b<B}
theorem xL (n:Int) (x:AB) (k:Int->RV) (kk:Int->Int):(dsR D b B hD hb).stable (GQt n x k kk):=fun v w w' r ⟨z,A,n1,c,A2,n2,c2,h0,h1,h2,h3,h4⟩=>⟨z,A,n1,c,A2,n2,c2,h0,h1,h2.rgs r.1 oK,h3.rg oK (fun _ _=>YK _) r.1,h4⟩
def GQa (n:Int) (x:AB):aE:=fun v w=>∃ (A:Option Addr) (n1 c:Nat),v=abV { x with V:=.slice A n1 c,li:=x.li+1 }/\AuV (n+1) w { x with V:=.slice A n1 c,li:=x.li+1 }
theorem IW (n:Int) (x:AB):(dsR D b B hD hb).stable (GQa n x):=fun v w w' r ⟨A,n1,c,h1,h2⟩=>⟨A,n1,c,h1,h2.rgs r.1 oK⟩
def GQr (k:Int->RV):aE:=fun v w=>∃ (z:Int) (A2:Option Addr) (n2 c2:Nat),(1<=z/\z<=8)/\v=rvV (k z) (.slice A2 n2 c2)/\bQ w 0 3 1 (.slice A2 n2 c2) (aQ (k z).ser)/\(k z).ser.length<=10000
theorem IX (k:Int->RV):(dsR D b B hD hb).stable (GQr k):=fun v w w' r ⟨z,A2,n2,c2,h0,h1,h3,h4⟩=>⟨z,A2,n2,c2,h0,h1,h3.rg oK (fun _ _=>YK _) r.1,h4⟩
def GQk:aE:=fun v _=>∃ z:Int,v=.int .i64 z
theorem IY:(dsR D b B hD hb).stable GQk:=fun _ _ _ _ h=>h
theorem J3 (n:Int):(dsR D b B hD hb).stable (GZ n):=fun _ _ _ _ h=>h
theorem CB:(dsR D b B hD hb).stable (QW B):=fun v w w' r ⟨g,h1,h2,h3⟩=>⟨g,h1,h2,h3.rg r.1⟩
theorem CC:(dsR D b B hD hb).stable (IM B):=fun v w w' r ⟨g,h1,h2,h3⟩=>⟨g,h1,h2,h3.rg r.1⟩
end
def R3 (B:Nat) (n:Int) (x:AB):aE:=fun v w=>∃ (g:Nat) (A:Option Addr) (n1 c:Nat),v=.pointer (some ⟨g,0,none⟩)/\B<=g/\aU w g { x with V:=.slice A n1 c,li:=x.li+1 }/\AuV (n+1) w { x with V:=.slice A n1 c,li:=x.li+1 }
def R4 (B:Nat) (k:Int->RV):aE:=fun v w=>∃ (g:Nat) (z:Int) (A2:Option Addr) (n2 c2:Nat),(1<=z/\z<=8)/\v=.pointer (some ⟨g,0,none⟩)/\B<=g/\bM w g (k z) (.slice A2 n2 c2)/\bQ w 0 3 1 (.slice A2 n2 c2) (aQ (k z).ser)/\(k z).ser.length<=10000
section
variable {S:List Nat}{G:Nat->Prop}
theorem R3.rg {B:Nat}{n:Int}{x:AB}{v:Value}{w w':World} (e:RgS S G w w') (h1:98 ∉ S) (h2:3 ∉ S) (h:R3 B n x v w):R3 B n x v w':=by
 obtain ⟨g,A,n1,c,q1,q2,q3,q4⟩:=h
 exact ⟨g,A,n1,c,q1,q2,e.other q3 h1,q4.rgs e h2⟩
theorem R4.rg {B:Nat}{k:Int->RV}{v:Value}{w w':World} (e:RgS S G w w') (h1:103 ∉ S) (h2:3 ∉ S) (h:R4 B k v w):R4 B k v w':=by
 obtain ⟨g,z,A2,n2,c2,q0,q1,q2,q3,q4,q5⟩:=h
 exact ⟨g,z,A2,n2,c2,q0,q1,q2,e.other q3 h1,q4.rg h2 (fun _ _=>YK _) e,q5⟩
end
theorem RA (W:World) (z:Int) (h0:0<=z) (h1:z<1000):(binOp .add 3 (.int .i64 1) (.int .i64 z)).run Tryz.prog W=.ok (.int .i64 (1+z)) W:=by
 have e:IntKind.i64.wrap (1+z)=1+z:=IntWalk.i64_in _ (by omega)
 go_simp
theorem J7 (W:World) (st:List UInt8) (day:Int) (A:Option Addr) (n c:Nat) (rts:List NC) (ls:NC):(Instr.build 80 [(0,.string (aK st)),(1,.int .i64 1),(2,.int .i64 day),(3,.slice A n c),(4,.agg (aH ls).toArray)].toArray).run Tryz.prog W=.ok (maV ⟨st,1,day,rts,ls,0,0⟩ (.slice A n c)) W:=by
 unfold maV aP aH
 go_simp
def GMt (m:MA) (k:Int):aE:=fun v w=>∃ A n c,v=.tuple #[maV m (.slice A n c),.int .i64 k]/\bQ w 0 56 11 (.slice A n c) (aD m.roots)
theorem xM (m:MA) (k:Int) (G:Nat->Prop):(RG amT G).stable (GMt m k):=fun v w w' r ⟨A,n,c,h1,h2⟩=>⟨A,n,c,h1,h2.rg IU (fun _ _=>YK _) r⟩
theorem NG {w:World}{s v:Value}{k:Int}{m:MA} (h:RdN w s (lO k m).roots) (hq:s=v \/ s=.slice none 0 0) (hv:bQ w 0 56 11 v (aD m.roots)):bQ w 0 56 11 s (aD (lO k m).roots):=QX h hq hv
theorem zZ (W:World) (a b:Value):(Instr.extract (.tuple #[a,b]) 0).run Tryz.prog W=.ok a W/\(Instr.extract (.tuple #[a,b]) 1).run Tryz.prog W=.ok b W:=by
 refine ⟨?_,?_⟩ <;> go_simp
theorem aU.lsR {w:World}{g:Nat}{x:AB} (h:aU w g x):w.rangeAt g 15 (aH x.ls):=fun j u hu=>by
 have hj:j<11:=(List.getElem?_eq_some_iff.1 hu).1
 have e:bE x=(([.string (aK x.st),x.R,x.L,x.S]++aH x.sg)++(aH x.ls++[.int .i64 x.ssec,.int .i64 x.lsec,.int .i64 x.next,.int .i64 x.li,x.V,x.D,x.Z])).toArray:=rfl
 rw [cell_of_row w g _ _ _ _ h.row,e,List.getElem?_toArray,List.getElem?_append_right (by show 15<=15+j;omega),show 15+j - ([.string (aK x.st),x.R,x.L,x.S]++aH x.sg:List Value).length=j by show 15+j - 15=j;omega,List.getElem?_append_left (by show j<11;exact hj)]
 exact hu
def GZ1:aE:=fun v _=>∃ z:Int,v=.int .i64 z/\1<=z/\z<=8
theorem JA {D b B:Nat}{hD:D<B}{hb:b<B}:(dsR D b B hD hb).stable GZ1:=fun _ _ _ _ h=>h
theorem FL (k:Int) (r:RV):(eT k r).ser=r.ser \/ (eT k r).ser=[]:=by
 unfold eT
 split
 · exact .inl rfl
 · exact .inr rfl
theorem LA (k:Int) (r:RV) (h:r.st.length<=maxLen):(eT k r).st.length<=maxLen:=by
 unfold eT
 split
 · exact h
 · exact YK _
theorem RB (S:ST) (r:RV) (day:Int):(accR S r day).1.rs.length<=S.rs.length+1:=by
 unfold accR
 split
 · exact Nat.le_succ _
 · split
   · exact Nat.le_succ _
   · split
     · exact Nat.le_succ _
     · split
       · split
         · exact Nat.le_succ _
         · show (S.rs.set _ r).length<=_
           rw [List.length_set]
           exact Nat.le_succ _
       · split
         · exact Nat.le_succ _
         · show (S.rs++[r]).length<=_
           rw [YJ]
           exact YF _
theorem aJ.same {w w':World}{B:Nat}{e:TypeId}{k:Nat}{v:Value}{xs:List Value} (h:aJ w B e k v xs) (hb:∀ g,aO v=some g->w'.heap[g]?=w.heap[g]?):aJ w' B e k v xs:=by
 obtain ⟨A,n,c,rfl,hn,h | ⟨g,cur,rfl,h1,hgg,hnc,hr⟩⟩:=h
 · exact ⟨A,n,c,rfl,hn,.inl h⟩
 · by_cases hc0:c=0
   · exact ⟨_,n,c,rfl,hn,.inl ⟨by omega,hc0⟩⟩
   · refine ⟨_,n,c,rfl,hn,.inr ⟨g,cur,rfl,h1,(hb g ?_).trans hgg,hnc,hr⟩⟩
     obtain ⟨c',rfl⟩:∃ c',c=c'+1:=⟨c - 1,by omega⟩
     rfl
theorem WI.ds {w wr wx:World}{P D b:Nat}{v:Value}{s0 s1 s2 s3 s4:SlT}{day:Int}{xs:List AB}{hD:D<wr.heap.size}{hb:b<wr.heap.size} (h:WI w P D b v s0 s1 s2 s3 s4 day xs wr) (q:WB w P D b) (r:(dsR D b wr.heap.size hD hb).rel wr wx):WI w P D b v s0 s1 s2 s3 s4 day xs wx/\Kp wr wx:=by
 have hD1:=q.D1
 have hD2:=q.D2
 obtain ⟨r1,r2⟩:=r
 have bl:∀ k,k<wr.heap.size->k≠D->wx.heap[k]?=wr.heap[k]?:=fun k hk hne=>(r1.block k hk).resolve_right fun z=>by rcases z.1 with z | z <;> omega
 have hP:=aA h.po
 refine ⟨⟨h.ext.trans (r1.below (B:=w.heap.size) (fun k z=>by rcases z with z | z <;> omega) h.ext.size),r2 h.dice,(bl _ (aA h.rz) (by omega)).trans h.rz,(bl _ hP (by omega)).trans h.po,h.own.same fun g hg=>bl g ?_ ?_⟩,fun e k cs fr he hk=>?_⟩
 · obtain ⟨A,n,c,e,_,z | ⟨g1,cur,rfl,_,z,_⟩⟩:=h.own
   · subst e
     obtain ⟨rfl,rfl⟩:=z
     cases A <;> simp [aO] at hg
   · subst e
     cases c with
     | zero=>simp [aO] at hg
     | succ c' =>
       have:g1=g:=by simpa [aO] using hg
       rw [<- this]
       exact aA z
 · have:=aZ h.own _ hg
   omega
 · refine (bl k (aA hk) (fun z=>?_)).trans hk
   subst z
   obtain ⟨M,A,n,c,i,f,h1,_⟩:=h.dice
   rw [hk] at h1
   injection h1 with h1
   injection h1 with _ h1 _
   exact UW (h1 ▸ he)
namespace Gt
section
variable {r:Gt.Rl}{P:Program}{ops:Array Oper}{Q:Exit->Act->World->Prop}{w0:World}{R:Act->World->Prop}{ss:List (Nat × aE)}
theorem RD {o:Oper}{rest:List Oper}{a:Act}{hs:List (Nat × aE)}{d:Nat} (hg:dT ops o a hs) (g:aE) (hst:r.stable g) {bop:BinOp}{t u:TypeId}{x y:Operand} (xv yv:(Nat->Value)->Value)
 (hd:o.dst=some d) (hz:Nat.blt d a.tmps.size=true) (ho:o.op=.binOp bop t x y u) (hin:(bG o).all (fun t=>Nat.blt t a.tmps.size)=true) (hqx:lW a x=true) (hqy:lW a y=true) (hx:∀ f,evF a hs f x=xv f) (hy:∀ f,evF a hs f y=yv f)
 (h:∀ (m:r.Lt w0) (f:Nat->Value),(∀ t p,hs.lookup t=some p->(bG o).contains t=true->p (f t) m.1)->∃ v w'',(do eqGuard bop t x y (xv f) (yv f);binOp bop t (xv f) (yv f)).run P m.1=.ok v w''/\r.dx m.1 w''/\g v w'')
 (hr:Gt.wpX r P ops Q w0 R ss rest (a.put (some d) undef) ((d,g)::hs)):Gt.wpX r P ops Q w0 R ss (o::rest) a hs :=
 eZ hg g hst (fun f=>do eqGuard bop t x y (xv f) (yv f);binOp bop t (xv f) (yv f)) hd hz (by unfold aV;rw [ho]) hin (fun f=>by unfold execOp;simp only [ho];rw [dY hqx,dY hqy,hx f,hy f]) h hr
end
end Gt
end Go.Proofs.YtkjplpmogfmhkaaGreatDoor
