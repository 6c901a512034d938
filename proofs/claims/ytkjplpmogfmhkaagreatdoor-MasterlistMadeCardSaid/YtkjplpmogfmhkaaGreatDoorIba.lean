/- Parts Ud Un Ui Ad of the proof. -/
import Derived.Test.YtkjplpmogfmhkaaGreatDoorIaz
import Derived.Test.YtkjplpmogfmhkaaGreatDoorIav
namespace Go.Proofs.YtkjplpmogfmhkaaGreatDoor
open Go.RowKit
set_option linter.unusedVariables false
set_option maxRecDepth 100000
theorem QX:kA Tryz.prog 72 103 8 88:=by
 have h:(Tryz.prog.info? 103).map (fun i=>(i.zero,i.size,i.bytes))=some (some (.agg #[.string ⟨#[]⟩,.int .i64 0,.int .i64 0,.int .i64 0,.slice none 0 0,.int .i64 0,.int .i64 0,.int .i64 0]),8,88):=by kernel_rfl
 obtain ⟨i,h1,h2,h3,h4⟩:=info_parts h
 exact ⟨i,_,Tryz.underlying72,h1,h2,h3,h4,rfl⟩
theorem MO (t:RV) (u:Value) (W:World) (hu:RdK W 1 u (aZ t.ser)) (hl:t.ser.length≤1000000):Calls Tryz.prog 160 #[.agg (fD t u).toArray] W fun e W'=>∃ A1 n1 c1,e=.returned (.agg (fD t (.slice A1 n1 c1)).toArray)∧aJ W' W.heap.size 3 1 (.slice A1 n1 c1) (aZ t.ser)∧Ext W W' :=
 (M8 t u W (RdK.r1 hu) hl).mono fun e W' ⟨A1,n1,c1,h1,h2,h3⟩=>⟨A1,n1,c1,h1,h2.k1,h3⟩
theorem TG (w:World) (t:RV) (u:Value):RdK (w.alloc (.cells (fD t u).toArray 103)) 8 (.slice (some ⟨w.heap.size,0,none⟩) 1 1) (fD t u):=by
 have:=RdK.lit w 8 (fD t u).toArray 103 1 rfl (by unfold maxLen;omega)
 simpa using this
set_option maxHeartbeats 4000000 in
theorem JC {v:Value}{l:List RV} (w:World) (hv:RdX kR w v l) (hl:l.length≤100000) (hs:∀ a ∈ l,a.ser.length≤1000000) :
 Calls Tryz.prog 203 #[v,.func (.func 160) #[] #[]] w fun e w'=>∃ A c,e=.returned (.slice A l.length c)∧gY kR w' w.heap.size (.slice A l.length c) l∧Ext w w':=by
 obtain ⟨A,n,c,rfl,hn,hnc,hcm,hel⟩:=hv.at_
 subst hn
 unfold maxLen at hcm
 have HEL:=UP hel
 have HSL:=UP hs
 have HON:=UP MO
 clear hel hs hv
 go_enter Tryz.func203,Tryz.ntmps203
 go_wp2_with fail
 go_loopw [5,10] (fun out i wr=>∃ (k:Nat) (Ao:Option Addr) (co:Nat) (ps:List (RV × Value)),k≤l.length∧i=.int .i64 (k:Int)∧out=.slice Ao k co∧Hid (ps.map Prod.fst=l.take k)∧Hid (eZ kR wr w.heap.size (.slice Ao k co) ps)∧Hid (Ext w wr)) (fun _ i _=>l.length - (intOf i).toNat)
 case atStart=>exact ⟨0,none,0,[],U4 _,rfl,rfl,UP rfl,UP (eZ.empty _ _ _ _),UP (Below.refl _ _)⟩
 case round =>
  obtain ⟨k,Ao,co,ps,hk,rfl,rfl,HP,HO,X⟩:=hrel
  by_cases hlt:k<l.length
  case neg =>
   obtain rfl:k=l.length:=by omega
   have HR:Hid (gY kR wr w.heap.size (.slice Ao l.length co) l):=UP ⟨ps,by rw [HP.out,List.take_length],HO.out⟩
   clear HP HO
   go_wp2_with fail
   go_ret
   exact ⟨_,_,rfl,HR.out,X.out⟩
  case pos =>
  obtain ⟨t,ht⟩:∃ t,l[k]?=some t:=⟨_,U5 hlt⟩
  obtain ⟨b,o,rfl,hbl,u,hcell,hu⟩:=HEL.out k t ht
  have HT:=UP ht
  obtain ⟨Au,nu,cu,rfl,-⟩:=id hu
  have HU0:=UP (RdK.ext hu X.out)
  have HLT:=UP (HSL.out t (UC ht))
  clear ht hu
  have wi1:IntKind.i64.wrap ((k:Int))=(k:Int):=IntWalk.i64_in _ (by omega)
  have zi1:(0:Int)≤(k:Int):=by omega
  have li1:(k:Int)<(l.length:Int):=by omega
  have ti1:((k:Int)).toNat=k:=by omega
  have wk:IntKind.i64.wrap ((k:Int)+1)=(k:Int)+1:=IntWalk.i64_in _ (by omega)
  have l0:wr.cell? ⟨b,o+k*8,none⟩=some (.string (aH t.st)):=by
   have:=(X.out.cell (p:=⟨b,o+(k*8+0),none⟩) hbl).trans (hcell 0 _ rfl)
   exact this
  have l1:wr.cell? ⟨b,o+k*8+1,none⟩=some (.int .i64 t.num):=by
   have:=(X.out.cell (p:=⟨b,o+(k*8+1),none⟩) hbl).trans (hcell 1 _ rfl)
   rwa [← TW] at this
  have l2:wr.cell? ⟨b,o+k*8+2,none⟩=some (.int .i64 t.day):=by
   have:=(X.out.cell (p:=⟨b,o+(k*8+2),none⟩) hbl).trans (hcell 2 _ rfl)
   rwa [← TW] at this
  have l3:wr.cell? ⟨b,o+k*8+3,none⟩=some (.int .i64 t.nxt):=by
   have:=(X.out.cell (p:=⟨b,o+(k*8+3),none⟩) hbl).trans (hcell 3 _ rfl)
   rwa [← TW] at this
  have l4:wr.cell? ⟨b,o+k*8+4,none⟩=some (.slice Au nu cu):=by
   have:=(X.out.cell (p:=⟨b,o+(k*8+4),none⟩) hbl).trans (hcell 4 _ rfl)
   rwa [← TW] at this
  have l5:wr.cell? ⟨b,o+k*8+5,none⟩=some (.int .i64 t.iss):=by
   have:=(X.out.cell (p:=⟨b,o+(k*8+5),none⟩) hbl).trans (hcell 5 _ rfl)
   rwa [← TW] at this
  have l6:wr.cell? ⟨b,o+k*8+6,none⟩=some (.int .i64 t.e):=by
   have:=(X.out.cell (p:=⟨b,o+(k*8+6),none⟩) hbl).trans (hcell 6 _ rfl)
   rwa [← TW] at this
  have l7:wr.cell? ⟨b,o+k*8+7,none⟩=some (.int .i64 t.s):=by
   have:=(X.out.cell (p:=⟨b,o+(k*8+7),none⟩) hbl).trans (hcell 7 _ rfl)
   rwa [← TW] at this
  clear hcell
  obtain ⟨wn,hwn⟩:∃ wn,wn=wr.alloc (.cells #[.string (aH t.st),.int .i64 t.num,.int .i64 t.day,.int .i64 t.nxt,.slice Au nu cu,.int .i64 t.iss,.int .i64 t.e,.int .i64 t.s] 103):=⟨_,rfl⟩
  have en:Ext wr wn:=by rw [hwn];exact (Below.refl _ _).alloc (TM _) _
  have bn:wn.heap[wr.heap.size]?=some (.cells (fD t (.slice Au nu cu)).toArray 103 (0,0)):=by rw [hwn];exact aB wr _
  have HBN:=UP bn
  have HU:=UP (RdK.ext HU0.out en)
  have HON2:=UP (HO.out.ext en)
  have XN:=UP (X.out.tr en)
  go_upto_region 5 with fail
  rw [← hwn]
  clear hwn l0 l1 l2 l3 l4 l5 l6 l7 HU0 HO X en bn
  unfold fD at HBN
  go_wp2_with (refine wpList_load_row rfl 103 _ rfl wr.heap.size rfl 103 #[.string (aH t.st),.int .i64 t.num,.int .i64 t.day,.int .i64 t.nxt,.slice Au nu cu,.int .i64 t.iss,.int .i64 t.e,.int .i64 t.s] (0,0) _ HBN.out Tryz.underlying103 rfl qA ?_)
  refine (HON.out t (.slice Au nu cu) wn HU.out HLT.out).mono ?_
  rintro e w2 ⟨A1,n1,c1,rfl,o1,b2⟩
  unfold fD
  have HO2:=UP (HON2.out.ext b2)
  have X2:=UP (XN.out.tr b2)
  have HI2:=UP (o1.mono XN.out.size)
  clear b2 o1 HU HON2 XN HBN
  have eA:Ext w2 (w2.alloc (.cells (fD t (.slice A1 n1 c1)).toArray 103)):=(Below.refl _ _).alloc (TM _) _
  have HO3:=UP (HO2.out.ext eA)
  have HI3:=UP (HI2.out.ext eA)
  have X3:=UP (X2.out.tr eA)
  have HRK:=UP (TG w2 t (.slice A1 n1 c1))
  have HPL:=UP (show k*8=(kR.cells ps).length by
   have h1:=congrArg List.length HP.out
   rw [List.length_map,UJ,Nat.min_eq_left (Nat.le_of_lt hlt)] at h1
   rw [kR.cells_len,h1];rfl)
  have HONE:=UP (kR.one t (.slice A1 n1 c1) rfl)
  unfold fD at HRK HO3 HI3 X3
  clear eA
  go_wp2_with (refine bJ (k:=8) (by decide) QX (n:=k) (m:=1) (B:=w.heap.size) HO3.out.1 HPL.out HRK.out (by rfl) HONE.out X3.out (by omega) (by unfold maxLen;omega) X3.out.size rfl rfl rfl rfl ?_;intro A8 n8 c8 w8 hn8 o8 x8 g8)
  obtain rfl:n8=k+1:=hn8.out
  have HO8:=UP (show eZ kR w8 w.heap.size (.slice A8 (k+1) c8) (ps++[(t,.slice A1 n1 c1)]) from HO3.out.app HI3.out o8 g8)
  have HP8:=UP (show (ps++[(t,Value.slice A1 n1 c1)]).map Prod.fst=l.take (k+1) by rw [List.map_append,HP.out,List.take_succ_eq_append_getElem hlt];have:=HT.out;rw [U5 hlt] at this;rw [Option.some.inj this];rfl)
  have X8:=UP x8
  clear x8 o8 g8
  go_roundw
  case rel=>exact ⟨k+1,A8,c8,_,by omega,by go_num,rfl,HP8,HO8,X8⟩
  case measure=>simp [intOf];omega
theorem vQ:kA Tryz.prog 71 80 17 168:=by
 have h:(Tryz.prog.info? 80).map (fun i=>(i.zero,i.size,i.bytes))=some (some (.agg #[.string ⟨#[]⟩,.int .i64 0,.int .i64 0,.slice none 0 0,.string ⟨#[]⟩,.int .i64 0,.int .i64 0,.int .i64 0,.int .i64 0,.int .i64 0,.int .i64 0,.int .i64 0,.int .i64 0,.int .i64 0,.int .i64 0,.int .i64 0,.int .i64 0]),17,168):=by kernel_rfl
 obtain ⟨i,h1,h2,h3,h4⟩:=info_parts h
 exact ⟨i,_,Tryz.underlying71,h1,h2,h3,h4,rfl⟩
theorem MP (t:MA) (u:Value) (W:World) (hu:RdK W 11 u (aA t.roots)) (hl:t.roots.length≤1000000):Calls Tryz.prog 135 #[.agg (aC t u).toArray] W fun e W'=>∃ A1 n1 c1,e=.returned (.agg (aC t (.slice A1 n1 c1)).toArray)∧aJ W' W.heap.size 56 11 (.slice A1 n1 c1) (aA t.roots)∧Ext W W' :=
 sQ t u W hu hl
theorem litM (w:World) (t:MA) (u:Value):RdK (w.alloc (.cells (aC t u).toArray 80)) 17 (.slice (some ⟨w.heap.size,0,none⟩) 1 1) (aC t u):=by
 have:=RdK.lit w 17 (aC t u).toArray 80 1 rfl (by unfold maxLen;omega)
 simpa using this
set_option maxHeartbeats 4000000 in
theorem JD {v:Value}{l:List MA} (w:World) (hv:RdX kM w v l) (hl:l.length≤100000) (hs:∀ a ∈ l,a.roots.length≤1000000) :
 Calls Tryz.prog 202 #[v,.func (.func 135) #[] #[]] w fun e w'=>∃ A c,e=.returned (.slice A l.length c)∧gY kM w' w.heap.size (.slice A l.length c) l∧Ext w w':=by
 obtain ⟨A,n,c,rfl,hn,hnc,hcm,hel⟩:=hv.at_
 subst hn
 unfold maxLen at hcm
 have HEL:=UP hel
 have HSL:=UP hs
 have HON:=UP MP
 clear hel hs hv
 go_enter Tryz.func202,Tryz.ntmps202
 go_wp2_with fail
 go_loopw [5,10] (fun out i wr=>∃ (k:Nat) (Ao:Option Addr) (co:Nat) (ps:List (MA × Value)),k≤l.length∧i=.int .i64 (k:Int)∧out=.slice Ao k co∧Hid (ps.map Prod.fst=l.take k)∧Hid (eZ kM wr w.heap.size (.slice Ao k co) ps)∧Hid (Ext w wr)) (fun _ i _=>l.length - (intOf i).toNat)
 case atStart=>exact ⟨0,none,0,[],U4 _,rfl,rfl,UP rfl,UP (eZ.empty _ _ _ _),UP (Below.refl _ _)⟩
 case round =>
  obtain ⟨k,Ao,co,ps,hk,rfl,rfl,HP,HO,X⟩:=hrel
  by_cases hlt:k<l.length
  case neg =>
   obtain rfl:k=l.length:=by omega
   have HR:Hid (gY kM wr w.heap.size (.slice Ao l.length co) l):=UP ⟨ps,by rw [HP.out,List.take_length],HO.out⟩
   clear HP HO
   go_wp2_with fail
   go_ret
   exact ⟨_,_,rfl,HR.out,X.out⟩
  case pos =>
  obtain ⟨t,ht⟩:∃ t,l[k]?=some t:=⟨_,U5 hlt⟩
  obtain ⟨b,o,rfl,hbl,u,hcell,hu⟩:=HEL.out k t ht
  have HT:=UP ht
  obtain ⟨Au,nu,cu,rfl,-⟩:=id hu
  have HU0:=UP (RdK.ext hu X.out)
  have HLT:=UP (HSL.out t (UC ht))
  clear ht hu
  have wi2:IntKind.i64.wrap ((k:Int))=(k:Int):=IntWalk.i64_in _ (by omega)
  have zi2:(0:Int)≤(k:Int):=by omega
  have li2:(k:Int)<(l.length:Int):=by omega
  have ti2:((k:Int)).toNat=k:=by omega
  have wk:IntKind.i64.wrap ((k:Int)+1)=(k:Int)+1:=IntWalk.i64_in _ (by omega)
  have l0:wr.cell? ⟨b,o+k*17,none⟩=some (.string (aH t.st)):=by
   have:=(X.out.cell (p:=⟨b,o+(k*17+0),none⟩) hbl).trans (hcell 0 _ rfl)
   exact this
  have l1:wr.cell? ⟨b,o+k*17+1,none⟩=some (.int .i64 t.num):=by
   have:=(X.out.cell (p:=⟨b,o+(k*17+1),none⟩) hbl).trans (hcell 1 _ rfl)
   rwa [← TW] at this
  have l2:wr.cell? ⟨b,o+k*17+2,none⟩=some (.int .i64 t.day):=by
   have:=(X.out.cell (p:=⟨b,o+(k*17+2),none⟩) hbl).trans (hcell 2 _ rfl)
   rwa [← TW] at this
  have l3:wr.cell? ⟨b,o+k*17+3,none⟩=some (.slice Au nu cu):=by
   have:=(X.out.cell (p:=⟨b,o+(k*17+3),none⟩) hbl).trans (hcell 3 _ rfl)
   rwa [← TW] at this
  have l4:wr.cell? ⟨b,o+k*17+4,none⟩=some (.string (aH t.sg.st)):=by
   have:=(X.out.cell (p:=⟨b,o+(k*17+4),none⟩) hbl).trans (hcell 4 _ rfl)
   rwa [← TW] at this
  have l5:wr.cell? ⟨b,o+k*17+5,none⟩=some (.int .i64 t.sg.kind):=by
   have:=(X.out.cell (p:=⟨b,o+(k*17+5),none⟩) hbl).trans (hcell 5 _ rfl)
   rwa [← TW] at this
  have l6:wr.cell? ⟨b,o+k*17+6,none⟩=some (.int .i64 t.sg.num):=by
   have:=(X.out.cell (p:=⟨b,o+(k*17+6),none⟩) hbl).trans (hcell 6 _ rfl)
   rwa [← TW] at this
  have l7:wr.cell? ⟨b,o+k*17+7,none⟩=some (.int .i64 t.sg.iss):=by
   have:=(X.out.cell (p:=⟨b,o+(k*17+7),none⟩) hbl).trans (hcell 7 _ rfl)
   rwa [← TW] at this
  have l8:wr.cell? ⟨b,o+k*17+8,none⟩=some (.int .i64 t.sg.own):=by
   have:=(X.out.cell (p:=⟨b,o+(k*17+8),none⟩) hbl).trans (hcell 8 _ rfl)
   rwa [← TW] at this
  have l9:wr.cell? ⟨b,o+k*17+9,none⟩=some (.int .i64 t.sg.key):=by
   have:=(X.out.cell (p:=⟨b,o+(k*17+9),none⟩) hbl).trans (hcell 9 _ rfl)
   rwa [← TW] at this
  have l10:wr.cell? ⟨b,o+k*17+10,none⟩=some (.int .i64 t.sg.fr):=by
   have:=(X.out.cell (p:=⟨b,o+(k*17+10),none⟩) hbl).trans (hcell 10 _ rfl)
   rwa [← TW] at this
  have l11:wr.cell? ⟨b,o+k*17+11,none⟩=some (.int .i64 t.sg.un):=by
   have:=(X.out.cell (p:=⟨b,o+(k*17+11),none⟩) hbl).trans (hcell 11 _ rfl)
   rwa [← TW] at this
  have l12:wr.cell? ⟨b,o+k*17+12,none⟩=some (.int .i64 t.sg.to):=by
   have:=(X.out.cell (p:=⟨b,o+(k*17+12),none⟩) hbl).trans (hcell 12 _ rfl)
   rwa [← TW] at this
  have l13:wr.cell? ⟨b,o+k*17+13,none⟩=some (.int .i64 t.sg.e):=by
   have:=(X.out.cell (p:=⟨b,o+(k*17+13),none⟩) hbl).trans (hcell 13 _ rfl)
   rwa [← TW] at this
  have l14:wr.cell? ⟨b,o+k*17+14,none⟩=some (.int .i64 t.sg.s):=by
   have:=(X.out.cell (p:=⟨b,o+(k*17+14),none⟩) hbl).trans (hcell 14 _ rfl)
   rwa [← TW] at this
  have l15:wr.cell? ⟨b,o+k*17+15,none⟩=some (.int .i64 t.e):=by
   have:=(X.out.cell (p:=⟨b,o+(k*17+15),none⟩) hbl).trans (hcell 15 _ rfl)
   rwa [← TW] at this
  have l16:wr.cell? ⟨b,o+k*17+16,none⟩=some (.int .i64 t.s):=by
   have:=(X.out.cell (p:=⟨b,o+(k*17+16),none⟩) hbl).trans (hcell 16 _ rfl)
   rwa [← TW] at this
  clear hcell
  obtain ⟨wn,hwn⟩:∃ wn,wn=wr.alloc (.cells #[.string (aH t.st),.int .i64 t.num,.int .i64 t.day,.slice Au nu cu,.string (aH t.sg.st),.int .i64 t.sg.kind,.int .i64 t.sg.num,.int .i64 t.sg.iss,.int .i64 t.sg.own,.int .i64 t.sg.key,.int .i64 t.sg.fr,.int .i64 t.sg.un,.int .i64 t.sg.to,.int .i64 t.sg.e,.int .i64 t.sg.s,.int .i64 t.e,.int .i64 t.s] 80):=⟨_,rfl⟩
  have en:Ext wr wn:=by rw [hwn];exact (Below.refl _ _).alloc (TM _) _
  have bn:wn.heap[wr.heap.size]?=some (.cells (aC t (.slice Au nu cu)).toArray 80 (0,0)):=by rw [hwn];exact aB wr _
  have HBN:=UP bn
  have HU:=UP (RdK.ext HU0.out en)
  have HON2:=UP (HO.out.ext en)
  have XN:=UP (X.out.tr en)
  go_upto_region 5 with fail
  rw [← hwn]
  clear hwn l0 l1 l2 l3 l4 l5 l6 l7 l8 l9 l10 l11 l12 l13 l14 l15 l16 HU0 HO X en bn
  unfold aC at HBN
  go_wp2_with (refine wpList_load_row rfl 80 _ rfl wr.heap.size rfl 80 #[.string (aH t.st),.int .i64 t.num,.int .i64 t.day,.slice Au nu cu,.string (aH t.sg.st),.int .i64 t.sg.kind,.int .i64 t.sg.num,.int .i64 t.sg.iss,.int .i64 t.sg.own,.int .i64 t.sg.key,.int .i64 t.sg.fr,.int .i64 t.sg.un,.int .i64 t.sg.to,.int .i64 t.sg.e,.int .i64 t.sg.s,.int .i64 t.e,.int .i64 t.s] (0,0) _ HBN.out Tryz.underlying80 rfl aP ?_)
  refine (HON.out t (.slice Au nu cu) wn HU.out HLT.out).mono ?_
  rintro e w2 ⟨A1,n1,c1,rfl,o1,b2⟩
  unfold aC
  have HO2:=UP (HON2.out.ext b2)
  have X2:=UP (XN.out.tr b2)
  have HI2:=UP (o1.mono XN.out.size)
  clear b2 o1 HU HON2 XN HBN
  have eA:Ext w2 (w2.alloc (.cells (aC t (.slice A1 n1 c1)).toArray 80)):=(Below.refl _ _).alloc (TM _) _
  have HO3:=UP (HO2.out.ext eA)
  have HI3:=UP (HI2.out.ext eA)
  have X3:=UP (X2.out.tr eA)
  have HRK:=UP (litM w2 t (.slice A1 n1 c1))
  have HPL:=UP (show k*17=(kM.cells ps).length by
   have h1:=congrArg List.length HP.out
   rw [List.length_map,UJ,Nat.min_eq_left (Nat.le_of_lt hlt)] at h1
   rw [kM.cells_len,h1];rfl)
  have HONE:=UP (kM.one t (.slice A1 n1 c1) rfl)
  unfold aC at HRK HO3 HI3 X3
  clear eA
  go_wp2_with (refine bJ (k:=17) (by decide) vQ (n:=k) (m:=1) (B:=w.heap.size) HO3.out.1 HPL.out HRK.out (by rfl) HONE.out X3.out (by omega) (by unfold maxLen;omega) X3.out.size rfl rfl rfl rfl ?_;intro A8 n8 c8 w8 hn8 o8 x8 g8)
  obtain rfl:n8=k+1:=hn8.out
  have HO8:=UP (show eZ kM w8 w.heap.size (.slice A8 (k+1) c8) (ps++[(t,.slice A1 n1 c1)]) from HO3.out.app HI3.out o8 g8)
  have HP8:=UP (show (ps++[(t,Value.slice A1 n1 c1)]).map Prod.fst=l.take (k+1) by rw [List.map_append,HP.out,List.take_succ_eq_append_getElem hlt];have:=HT.out;rw [U5 hlt] at this;rw [Option.some.inj this];rfl)
  have X8:=UP x8
  clear x8 o8 g8
  go_roundw
  case rel=>exact ⟨k+1,A8,c8,_,by omega,by go_num,rfl,HP8,HO8,X8⟩
  case measure=>simp [intOf];omega
theorem QY:kA Tryz.prog 73 121 17 168:=by
 have h:(Tryz.prog.info? 121).map (fun i=>(i.zero,i.size,i.bytes))=some (some (.agg #[.string ⟨#[]⟩,.int .i64 0,.int .i64 0,.slice none 0 0,.string ⟨#[]⟩,.int .i64 0,.int .i64 0,.int .i64 0,.int .i64 0,.int .i64 0,.int .i64 0,.int .i64 0,.int .i64 0,.int .i64 0,.int .i64 0,.int .i64 0,.int .i64 0]),17,168):=by kernel_rfl
 obtain ⟨i,h1,h2,h3,h4⟩:=info_parts h
 exact ⟨i,_,Tryz.underlying73,h1,h2,h3,h4,rfl⟩
theorem MQ (t:DV) (u:Value) (W:World) (hu:RdK W 5 u (hO t.defs)) (hl:t.defs.length≤1000000):Calls Tryz.prog 171 #[.agg (cO t u).toArray] W fun e W'=>∃ A1 n1 c1,e=.returned (.agg (cO t (.slice A1 n1 c1)).toArray)∧aJ W' W.heap.size 177 5 (.slice A1 n1 c1) (hO t.defs)∧Ext W W' :=
 MN t u W hu hl
theorem TH (w:World) (t:DV) (u:Value):RdK (w.alloc (.cells (cO t u).toArray 121)) 17 (.slice (some ⟨w.heap.size,0,none⟩) 1 1) (cO t u):=by
 have:=RdK.lit w 17 (cO t u).toArray 121 1 rfl (by unfold maxLen;omega)
 simpa using this
set_option maxHeartbeats 4000000 in
theorem JE {v:Value}{l:List DV} (w:World) (hv:RdX kD w v l) (hl:l.length≤100000) (hs:∀ a ∈ l,a.defs.length≤1000000) :
 Calls Tryz.prog 204 #[v,.func (.func 171) #[] #[]] w fun e w'=>∃ A c,e=.returned (.slice A l.length c)∧gY kD w' w.heap.size (.slice A l.length c) l∧Ext w w':=by
 obtain ⟨A,n,c,rfl,hn,hnc,hcm,hel⟩:=hv.at_
 subst hn
 unfold maxLen at hcm
 have HEL:=UP hel
 have HSL:=UP hs
 have HON:=UP MQ
 clear hel hs hv
 go_enter Tryz.func204,Tryz.ntmps204
 go_wp2_with fail
 go_loopw [5,10] (fun out i wr=>∃ (k:Nat) (Ao:Option Addr) (co:Nat) (ps:List (DV × Value)),k≤l.length∧i=.int .i64 (k:Int)∧out=.slice Ao k co∧Hid (ps.map Prod.fst=l.take k)∧Hid (eZ kD wr w.heap.size (.slice Ao k co) ps)∧Hid (Ext w wr)) (fun _ i _=>l.length - (intOf i).toNat)
 case atStart=>exact ⟨0,none,0,[],U4 _,rfl,rfl,UP rfl,UP (eZ.empty _ _ _ _),UP (Below.refl _ _)⟩
 case round =>
  obtain ⟨k,Ao,co,ps,hk,rfl,rfl,HP,HO,X⟩:=hrel
  by_cases hlt:k<l.length
  case neg =>
   obtain rfl:k=l.length:=by omega
   have HR:Hid (gY kD wr w.heap.size (.slice Ao l.length co) l):=UP ⟨ps,by rw [HP.out,List.take_length],HO.out⟩
   clear HP HO
   go_wp2_with fail
   go_ret
   exact ⟨_,_,rfl,HR.out,X.out⟩
  case pos =>
  obtain ⟨t,ht⟩:∃ t,l[k]?=some t:=⟨_,U5 hlt⟩
  obtain ⟨b,o,rfl,hbl,u,hcell,hu⟩:=HEL.out k t ht
  have HT:=UP ht
  obtain ⟨Au,nu,cu,rfl,-⟩:=id hu
  have HU0:=UP (RdK.ext hu X.out)
  have HLT:=UP (HSL.out t (UC ht))
  clear ht hu
  have wi3:IntKind.i64.wrap ((k:Int))=(k:Int):=IntWalk.i64_in _ (by omega)
  have zi3:(0:Int)≤(k:Int):=by omega
  have li3:(k:Int)<(l.length:Int):=by omega
  have ti3:((k:Int)).toNat=k:=by omega
  have wk:IntKind.i64.wrap ((k:Int)+1)=(k:Int)+1:=IntWalk.i64_in _ (by omega)
  have l0:wr.cell? ⟨b,o+k*17,none⟩=some (.string (aH t.st)):=by
   have:=(X.out.cell (p:=⟨b,o+(k*17+0),none⟩) hbl).trans (hcell 0 _ rfl)
   exact this
  have l1:wr.cell? ⟨b,o+k*17+1,none⟩=some (.int .i64 t.num):=by
   have:=(X.out.cell (p:=⟨b,o+(k*17+1),none⟩) hbl).trans (hcell 1 _ rfl)
   rwa [← TW] at this
  have l2:wr.cell? ⟨b,o+k*17+2,none⟩=some (.int .i64 t.day):=by
   have:=(X.out.cell (p:=⟨b,o+(k*17+2),none⟩) hbl).trans (hcell 2 _ rfl)
   rwa [← TW] at this
  have l3:wr.cell? ⟨b,o+k*17+3,none⟩=some (.slice Au nu cu):=by
   have:=(X.out.cell (p:=⟨b,o+(k*17+3),none⟩) hbl).trans (hcell 3 _ rfl)
   rwa [← TW] at this
  have l4:wr.cell? ⟨b,o+k*17+4,none⟩=some (.string (aH t.sg.st)):=by
   have:=(X.out.cell (p:=⟨b,o+(k*17+4),none⟩) hbl).trans (hcell 4 _ rfl)
   rwa [← TW] at this
  have l5:wr.cell? ⟨b,o+k*17+5,none⟩=some (.int .i64 t.sg.kind):=by
   have:=(X.out.cell (p:=⟨b,o+(k*17+5),none⟩) hbl).trans (hcell 5 _ rfl)
   rwa [← TW] at this
  have l6:wr.cell? ⟨b,o+k*17+6,none⟩=some (.int .i64 t.sg.num):=by
   have:=(X.out.cell (p:=⟨b,o+(k*17+6),none⟩) hbl).trans (hcell 6 _ rfl)
   rwa [← TW] at this
  have l7:wr.cell? ⟨b,o+k*17+7,none⟩=some (.int .i64 t.sg.iss):=by
   have:=(X.out.cell (p:=⟨b,o+(k*17+7),none⟩) hbl).trans (hcell 7 _ rfl)
   rwa [← TW] at this
  have l8:wr.cell? ⟨b,o+k*17+8,none⟩=some (.int .i64 t.sg.own):=by
   have:=(X.out.cell (p:=⟨b,o+(k*17+8),none⟩) hbl).trans (hcell 8 _ rfl)
   rwa [← TW] at this
  have l9:wr.cell? ⟨b,o+k*17+9,none⟩=some (.int .i64 t.sg.key):=by
   have:=(X.out.cell (p:=⟨b,o+(k*17+9),none⟩) hbl).trans (hcell 9 _ rfl)
   rwa [← TW] at this
  have l10:wr.cell? ⟨b,o+k*17+10,none⟩=some (.int .i64 t.sg.fr):=by
   have:=(X.out.cell (p:=⟨b,o+(k*17+10),none⟩) hbl).trans (hcell 10 _ rfl)
   rwa [← TW] at this
  have l11:wr.cell? ⟨b,o+k*17+11,none⟩=some (.int .i64 t.sg.un):=by
   have:=(X.out.cell (p:=⟨b,o+(k*17+11),none⟩) hbl).trans (hcell 11 _ rfl)
   rwa [← TW] at this
  have l12:wr.cell? ⟨b,o+k*17+12,none⟩=some (.int .i64 t.sg.to):=by
   have:=(X.out.cell (p:=⟨b,o+(k*17+12),none⟩) hbl).trans (hcell 12 _ rfl)
   rwa [← TW] at this
  have l13:wr.cell? ⟨b,o+k*17+13,none⟩=some (.int .i64 t.sg.e):=by
   have:=(X.out.cell (p:=⟨b,o+(k*17+13),none⟩) hbl).trans (hcell 13 _ rfl)
   rwa [← TW] at this
  have l14:wr.cell? ⟨b,o+k*17+14,none⟩=some (.int .i64 t.sg.s):=by
   have:=(X.out.cell (p:=⟨b,o+(k*17+14),none⟩) hbl).trans (hcell 14 _ rfl)
   rwa [← TW] at this
  have l15:wr.cell? ⟨b,o+k*17+15,none⟩=some (.int .i64 t.e):=by
   have:=(X.out.cell (p:=⟨b,o+(k*17+15),none⟩) hbl).trans (hcell 15 _ rfl)
   rwa [← TW] at this
  have l16:wr.cell? ⟨b,o+k*17+16,none⟩=some (.int .i64 t.s):=by
   have:=(X.out.cell (p:=⟨b,o+(k*17+16),none⟩) hbl).trans (hcell 16 _ rfl)
   rwa [← TW] at this
  clear hcell
  obtain ⟨wn,hwn⟩:∃ wn,wn=wr.alloc (.cells #[.string (aH t.st),.int .i64 t.num,.int .i64 t.day,.slice Au nu cu,.string (aH t.sg.st),.int .i64 t.sg.kind,.int .i64 t.sg.num,.int .i64 t.sg.iss,.int .i64 t.sg.own,.int .i64 t.sg.key,.int .i64 t.sg.fr,.int .i64 t.sg.un,.int .i64 t.sg.to,.int .i64 t.sg.e,.int .i64 t.sg.s,.int .i64 t.e,.int .i64 t.s] 121):=⟨_,rfl⟩
  have en:Ext wr wn:=by rw [hwn];exact (Below.refl _ _).alloc (TM _) _
  have bn:wn.heap[wr.heap.size]?=some (.cells (cO t (.slice Au nu cu)).toArray 121 (0,0)):=by rw [hwn];exact aB wr _
  have HBN:=UP bn
  have HU:=UP (RdK.ext HU0.out en)
  have HON2:=UP (HO.out.ext en)
  have XN:=UP (X.out.tr en)
  go_upto_region 5 with fail
  rw [← hwn]
  clear hwn l0 l1 l2 l3 l4 l5 l6 l7 l8 l9 l10 l11 l12 l13 l14 l15 l16 HU0 HO X en bn
  unfold cO at HBN
  go_wp2_with (refine wpList_load_row rfl 121 _ rfl wr.heap.size rfl 121 #[.string (aH t.st),.int .i64 t.num,.int .i64 t.day,.slice Au nu cu,.string (aH t.sg.st),.int .i64 t.sg.kind,.int .i64 t.sg.num,.int .i64 t.sg.iss,.int .i64 t.sg.own,.int .i64 t.sg.key,.int .i64 t.sg.fr,.int .i64 t.sg.un,.int .i64 t.sg.to,.int .i64 t.sg.e,.int .i64 t.sg.s,.int .i64 t.e,.int .i64 t.s] (0,0) _ HBN.out Tryz.underlying121 rfl tL ?_)
  refine (HON.out t (.slice Au nu cu) wn HU.out HLT.out).mono ?_
  rintro e w2 ⟨A1,n1,c1,rfl,o1,b2⟩
  unfold cO
  have HO2:=UP (HON2.out.ext b2)
  have X2:=UP (XN.out.tr b2)
  have HI2:=UP (o1.mono XN.out.size)
  clear b2 o1 HU HON2 XN HBN
  have eA:Ext w2 (w2.alloc (.cells (cO t (.slice A1 n1 c1)).toArray 121)):=(Below.refl _ _).alloc (TM _) _
  have HO3:=UP (HO2.out.ext eA)
  have HI3:=UP (HI2.out.ext eA)
  have X3:=UP (X2.out.tr eA)
  have HRK:=UP (TH w2 t (.slice A1 n1 c1))
  have HPL:=UP (show k*17=(kD.cells ps).length by
   have h1:=congrArg List.length HP.out
   rw [List.length_map,UJ,Nat.min_eq_left (Nat.le_of_lt hlt)] at h1
   rw [kD.cells_len,h1];rfl)
  have HONE:=UP (kD.one t (.slice A1 n1 c1) rfl)
  unfold cO at HRK HO3 HI3 X3
  clear eA
  go_wp2_with (refine bJ (k:=17) (by decide) QY (n:=k) (m:=1) (B:=w.heap.size) HO3.out.1 HPL.out HRK.out (by rfl) HONE.out X3.out (by omega) (by unfold maxLen;omega) X3.out.size rfl rfl rfl rfl ?_;intro A8 n8 c8 w8 hn8 o8 x8 g8)
  obtain rfl:n8=k+1:=hn8.out
  have HO8:=UP (show eZ kD w8 w.heap.size (.slice A8 (k+1) c8) (ps++[(t,.slice A1 n1 c1)]) from HO3.out.app HI3.out o8 g8)
  have HP8:=UP (show (ps++[(t,Value.slice A1 n1 c1)]).map Prod.fst=l.take (k+1) by rw [List.map_append,HP.out,List.take_succ_eq_append_getElem hlt];have:=HT.out;rw [U5 hlt] at this;rw [Option.some.inj this];rfl)
  have X8:=UP x8
  clear x8 o8 g8
  go_roundw
  case rel=>exact ⟨k+1,A8,c8,_,by omega,by go_num,rfl,HP8,HO8,X8⟩
  case measure=>simp [intOf];omega
theorem JF {P:Program}{w:World}{t ty e:TypeId}{k bytes B:Nat} (hk:0<k) (he:kA P t e k bytes) {v src:Value}{n m:Nat}{xs news:List Value} (hown:aJ w B e k v xs) (hnx:n*k=xs.length) (hr:RdK w k src news) (hmx:m*k=news.length) (hm:0<m) (h1:∀ u ∈ news,u.oneCell'=true)
 (hb:(n+m)*bytes≤140737488355328) (h63:n+m≤maxLen) (hB:B≤w.heap.size) :
 ∃ A c w',(Builtin.append_ #[t,t] ty #[v,src]).run P w=.ok (.slice A (n+m) c) w'∧aJ w' B e k (.slice A (n+m) c) (xs++news)∧w.grownBy w' (aK v)∧aJ w' B e k v xs ∧
  ∀ A1 c1 (news1:List Value),news1.length=news.length→aJ w B e k (.slice A1 (n+m) c1) (xs++news1)→aJ w' B e k (.slice A1 (n+m) c1) (xs++news1) ∨ aJ w' B e k (.slice A1 (n+m) c1) (xs++news):=by
 obtain ⟨A',c',w',r1,o1,g1,f1⟩:=nC (P:=P) (ty:=ty) hk he hown hnx hr hmx h1 hb h63 hB
 obtain ⟨i,z,ht,hi,hz,hsz,hby,hzs⟩:=he.ex
 obtain ⟨A2,m',c2,rfl,hm',hmc,hcm2,hcells⟩:=hr
 obtain rfl:m'=m:=UN hk (hm'.trans hmx.symm)
 obtain ⟨b2,o2,rfl,hc2⟩:=hcells hm
 have hnews:∀ j u,news[j]?=some u→w.cell? ((⟨b2,o2,none⟩:Addr).add j)=some u:=by
  intro j u hu
  rw [Addr.add_lit]
  exact hc2 j u hu
 refine ⟨A',c',w',r1,o1,g1,?_⟩
 have hown0:=hown
 obtain ⟨A,n',c,rfl,hn,hcase⟩:=hown
 obtain rfl:n'=n:=UN hk (hn.trans hnx.symm)
 have ext:Ext w w'→aJ w' B e k (.slice A n' c) xs∧∀ A1 c1 (news1:List Value),news1.length=news.length→aJ w B e k (.slice A1 (n'+m') c1) (xs++news1)→aJ w' B e k (.slice A1 (n'+m') c1) (xs++news1) ∨ aJ w' B e k (.slice A1 (n'+m') c1) (xs++news):=fun h=>⟨hown0.ext h,fun A1 c1 n1 _ h2=>.inl (h2.ext h)⟩
 rcases hcase with ⟨h0,hc0⟩ | ⟨g,cur,rfl,hbg,hg,hnc,hcm,hcs,htk⟩
 · subst hc0
   refine ext ((Below.refl w.heap.size w).grown g1 (TM _) fun r hr=>?_)
   cases A <;> simp [aK] at hr
 · by_cases hc0:c=0
   · subst hc0
     refine ext ((Below.refl w.heap.size w).grown g1 (TM _) fun r hr=>?_)
     simp [aK] at hr
   · by_cases hroom:n'+m'≤c
     · have hfit:n'*i.size+news.length≤cur.size:=by rw [hsz,hcs,← hmx,← Nat.add_mul];exact Nat.mul_le_mul_right _ hroom
       have r2:=run_append_room (P:=P) w t ty e i ht hi g n' c cur hg ⟨b2,o2,none⟩ m' c2 news (by rw [hsz];exact hmx.symm) hnews h1 hroom hfit
       rw [r2] at r1
       injection r1 with q1 q2
       have hw:w'.heap[g]?=some (.cells (cur.toList.take (n'*i.size)++news++cur.toList.drop (n'*i.size+news.length)).toArray e (0,0)):=by
        rw [← q2]
        exact setRow_heap w g cur _ e _ hg
       rw [hsz] at hw hfit
       have hsize:(cur.toList.take (n'*k)++news++cur.toList.drop (n'*k+news.length)).toArray.size=cur.size:=by
        simp only [List.size_toArray,U0,UJ,List.length_drop,Array.length_toList]
        omega
       have htk2:cur.toList.take (n'*k)=xs:=htk
       have hl:(xs++news).length=(n'+m')*k:=by rw [U0,← hnx,← hmx,Nat.add_mul]
       refine ⟨⟨_,n',c,rfl,hn,.inr ⟨g,_,rfl,hbg,hw,hnc,hcm,by rw [hsize];exact hcs,?_⟩⟩,fun A1 c1 n1 hl1 h2=>?_⟩
       · rw [htk2,UE,hn]
         exact List.take_left
       · obtain ⟨A9,n9,c9,e9,hn9,h2⟩:=h2
         injection e9 with e1 e2 e3
         subst e1 e2 e3
         rcases h2 with h2 | ⟨g9,cur9,rfl,hb9,hg9,hnc9,hcm9,hcs9,ht9⟩
         · exact .inl ⟨_,_,_,rfl,hn9,.inl h2⟩
         · by_cases hgg:g9=g
           · subst hgg
             rw [hg] at hg9
             injection hg9 with hg9
             injection hg9 with hg9
             subst hg9
             refine .inr ⟨_,_,_,rfl,hl.symm,.inr ⟨g9,_,rfl,hbg,hw,hnc9,hcm9,by rw [hsize];exact hcs9,?_⟩⟩
             rw [htk2,← hl]
             exact List.take_left
           · refine .inl ⟨_,_,_,rfl,hn9,.inr ⟨g9,cur9,rfl,hb9,(g1.block g9 (a9 hg9) fun q=>?_).trans hg9,hnc9,hcm9,hcs9,ht9⟩⟩
             obtain ⟨c',rfl⟩:∃ c',c=c'+1:=⟨c - 1,by omega⟩
             have q:some g=some g9:=by first | exact q | exact q.symm
             injection q with q
             exact hgg q.symm
     · have holds:∀ j u,xs[j]?=some u→w.cell? ((⟨g,0,none⟩:Addr).add j)=some u:=by
        intro j u hu
        rw [Addr.add_lit]
        show w.cell? ⟨g,0+j,none⟩=_
        rw [UA,cell_of_row w g j cur e (0,0) hg]
        rw [← htk,List.getElem?_take] at hu
        split at hu
        · simpa using hu
        · cases hu
       have hbb:(n'+m')*i.bytes≤140737488355328:=by rw [hby];exact hb
       have r2:=run_append_grow (P:=P) w t ty e i z ht hi hz ⟨g,0,none⟩ n' c xs (by rw [hsz];exact hn.symm) holds ⟨b2,o2,none⟩ m' c2 news (by rw [hsz];exact hmx.symm) hnews (by omega) (by unfold maxLen at h63;omega) (growslice_fits (by omega) hbb)
       rw [r2] at r1
       injection r1 with q1 q2
       refine ext ?_
       rw [← q2]
       exact (Below.refl _ _).drew.alloc (TM _) _
def PF (B:Nat) (l:List NC):aF:=fun v w=>∃ s:SlT,v=slV s∧aJ w B 56 11 (slV s) (aA l)
theorem sR (B:Nat) (l:List NC):bL (PF B l):=fun v w w' e ⟨s,h1,h2⟩=>⟨s,h1,h2.ext e⟩
def F6 {α:Type} (K:LK α) (B:Nat) (l:List α):aF:=fun v w=>∃ s:SlT,v=slV s∧gY K w B (slV s) l
theorem mS {α:Type} (K:LK α) (B:Nat) (l:List α):bL (F6 K B l):=fun v w w' e ⟨s,h1,h2⟩=>⟨s,h1,h2.ext e⟩
def S6 (B:Nat) (S:ST):aF:=fun v w=>∃ s0 s1 s2 s3 s4:SlT,v=cC s0 s1 s2 s3 s4∧StO w B s0 s1 s2 s3 s4 S
theorem CU (B:Nat) (S:ST):bL (S6 B S):=fun v w w' e ⟨s0,s1,s2,s3,s4,h1,h2⟩=>⟨s0,s1,s2,s3,s4,h1,h2.ext e⟩
theorem CV (W:World) (s0 s1 s2 s3 s4:SlT):(Instr.build 75 [(0,slV s0),(1,slV s1),(2,slV s2),(3,slV s3),(4,slV s4)].toArray).run Tryz.prog W=.ok (cC s0 s1 s2 s3 s4) W:=by
 unfold slV cC
 go_simp
theorem CW {B:Nat}{a:Value}{l:List NC} (W:World) (ha:RdN W a l) (hl:l.length≤1000000) (hB:B≤W.heap.size):Calls Tryz.prog 201 #[a] W fun e w'=>∃ v,e=.returned v∧Ext W w'∧PF B l v w' :=
 (vP W ha hl).mono fun e w' ⟨A,n,c,h1,h2,h3⟩=>⟨_,h1,h3,(A,n,c),rfl,h2.mono hB⟩
def TI (w:World) (S:ST) (e:Ending) (w':World):Prop:=∃ t0 t1 t2 t3 t4:SlT,e=.returned (cC t0 t1 t2 t3 t4)∧StO w' w.heap.size t0 t1 t2 t3 t4 S∧Ext w w'
set_option maxHeartbeats 8000000 in
theorem F7 (s0 s1 s2 s3 s4:SlT) (S:ST) (w:World) (hS:StR w s0 s1 s2 s3 s4 S) (hB:StB S):Calls Tryz.prog 132 #[cC s0 s1 s2 s3 s4] w (TI w S):=by
 obtain ⟨wz,hwz⟩:∃ wz,wz=(w.alloc (.cells #[.slice s0.1 s0.2.1 s0.2.2,.slice s1.1 s1.2.1 s1.2.2,.slice s2.1 s2.2.1 s2.2.2,.slice s3.1 s3.2.1 s3.2.2,.slice s4.1 s4.2.1 s4.2.2] 75)).alloc (.cells #[.slice none 0 0,.slice none 0 0,.slice none 0 0,.slice none 0 0,.slice none 0 0] 75):=⟨_,rfl⟩
 have e1:Ext w (w.alloc (.cells #[.slice s0.1 s0.2.1 s0.2.2,.slice s1.1 s1.2.1 s1.2.2,.slice s2.1 s2.2.1 s2.2.2,.slice s3.1 s3.2.1 s3.2.2,.slice s4.1 s4.2.1 s4.2.2] 75)):=(Below.refl _ _).alloc (TM _) _
 have ez:Ext w wz:=by rw [hwz];exact e1.alloc (by simp) _
 have hz:wz.heap[w.heap.size]?=some (.cells #[.slice s0.1 s0.2.1 s0.2.2,.slice s1.1 s1.2.1 s1.2.2,.slice s2.1 s2.2.1 s2.2.2,.slice s3.1 s3.2.1 s3.2.2,.slice s4.1 s4.2.1 s4.2.2] 75 (0,0)):=by
  rw [hwz]
  exact (((Below.refl _ _).alloc (TM _) _:Ext (w.alloc (.cells #[.slice s0.1 s0.2.1 s0.2.2,.slice s1.1 s1.2.1 s1.2.2,.slice s2.1 s2.2.1 s2.2.2,.slice s3.1 s3.2.1 s3.2.2,.slice s4.1 s4.2.1 s4.2.2] 75)) _).block _ (by simp)).trans (aB w _)
 have hy:wz.heap[w.heap.size+1]?=some (.cells #[.slice none 0 0,.slice none 0 0,.slice none 0 0,.slice none 0 0,.slice none 0 0] 75 (0,0)):=by
  have:=aB (w.alloc (.cells #[.slice s0.1 s0.2.1 s0.2.2,.slice s1.1 s1.2.1 s1.2.2,.slice s2.1 s2.2.1 s2.2.2,.slice s3.1 s3.2.1 s3.2.2,.slice s4.1 s4.2.1 s4.2.2] 75)) (.cells #[.slice none 0 0,.slice none 0 0,.slice none 0 0,.slice none 0 0,.slice none 0 0] 75)
  rw [show (w.alloc (.cells #[.slice s0.1 s0.2.1 s0.2.2,.slice s1.1 s1.2.1 s1.2.2,.slice s2.1 s2.2.1 s2.2.2,.slice s3.1 s3.2.1 s3.2.2,.slice s4.1 s4.2.1 s4.2.2] 75)).heap.size=w.heap.size+1 by simp] at this
  rw [hwz]
  exact this
 have hsz:wz.heap.size=w.heap.size+1+1:=by rw [hwz];simp
 have H0:=UP (fun W (e:Ext w W) (hW:wz.heap.size≤W.heap.size)=>CW (a:=slV s0) W (RdK.ext hS.r0 e) (by have:=hB.lr;omega) hW)
 have H1:=UP (fun W (e:Ext w W) (hW:wz.heap.size≤W.heap.size)=>CW (a:=slV s1) W (RdK.ext hS.r1 e) (by have:=hB.lp;omega) hW)
 have H2:=UP (fun W (e:Ext w W) (hW:wz.heap.size≤W.heap.size)=>(JD (v:=slV s2) W (hS.r2.ext e) (by have:=hB.lm;omega) (fun a ha=>by have:=(hB.m a ha).2;omega)).mono fun e' w' ⟨A,c,h1,h2,h3⟩=>(⟨_,h1,h3,(A,_,c),rfl,h2.mono hW⟩:∃ v,e'=Ending.returned v∧Ext W w'∧F6 kM wz.heap.size S.ms v w'))
 have H3:=UP (fun W (e:Ext w W) (hW:wz.heap.size≤W.heap.size)=>(JC (v:=slV s3) W (hS.r3.ext e) (by have:=hB.ls;omega) (fun a ha=>by have:=hB.s a ha;omega)).mono fun e' w' ⟨A,c,h1,h2,h3⟩=>(⟨_,h1,h3,(A,_,c),rfl,h2.mono hW⟩:∃ v,e'=Ending.returned v∧Ext W w'∧F6 kR wz.heap.size S.rs v w'))
 have H4:=UP (fun W (e:Ext w W) (hW:wz.heap.size≤W.heap.size)=>(JE (v:=slV s4) W (hS.r4.ext e) (by have:=hB.ld;omega) (fun a ha=>by have:=hB.d a ha;omega)).mono fun e' w' ⟨A,c,h1,h2,h3⟩=>(⟨_,h1,h3,(A,_,c),rfl,h2.mono hW⟩:∃ v,e'=Ending.returned v∧Ext W w'∧F6 kD wz.heap.size S.ds v w'))
 have HZ:=UP hz
 have HY:=UP hy
 have EZ:=UP ez
 clear e1 ez hz hy hS hB
 unfold cC
 go_enter Tryz.func132,Tryz.ntmps132
 go_upto_region 1 with fail
 rw [← hwz]
 clear hwz
 refine Gd.aN 16 (by kernel_rfl) (by kernel_rfl) ?_
 simp only [UF,UD,UG,UH]
 intro wq hw1
 have LL:∀ m:Lt wq,Ext wz m.1:=fun m=>hw1.tr m.2
 have LW:∀ m:Lt wq,Ext w m.1:=fun m=>EZ.out.tr (LL m)
 have k0:∀ m:Lt wq,m.1.cell? ⟨w.heap.size,0,none⟩=some (.slice s0.1 s0.2.1 s0.2.2):=fun m=>by rw [cell_of_row m.1 _ 0 _ _ _ (((LL m).block _ (a9 HZ.out)).trans HZ.out)];rfl
 have k1:∀ m:Lt wq,m.1.cell? ⟨w.heap.size,1,none⟩=some (.slice s1.1 s1.2.1 s1.2.2):=fun m=>by rw [cell_of_row m.1 _ 1 _ _ _ (((LL m).block _ (a9 HZ.out)).trans HZ.out)];rfl
 have k2:∀ m:Lt wq,m.1.cell? ⟨w.heap.size,2,none⟩=some (.slice s2.1 s2.2.1 s2.2.2):=fun m=>by rw [cell_of_row m.1 _ 2 _ _ _ (((LL m).block _ (a9 HZ.out)).trans HZ.out)];rfl
 have k3:∀ m:Lt wq,m.1.cell? ⟨w.heap.size,3,none⟩=some (.slice s3.1 s3.2.1 s3.2.2):=fun m=>by rw [cell_of_row m.1 _ 3 _ _ _ (((LL m).block _ (a9 HZ.out)).trans HZ.out)];rfl
 have k4:∀ m:Lt wq,m.1.cell? ⟨w.heap.size,4,none⟩=some (.slice s4.1 s4.2.1 s4.2.2):=fun m=>by rw [cell_of_row m.1 _ 4 _ _ _ (((LL m).block _ (a9 HZ.out)).trans HZ.out)];rfl
 have kl:∀ m:Lt wq,w.heap.size<m.1.heap.size:=fun m=>UI (a9 HZ.out) (LL m).size
 repeat (refine Gd.aD (by first | exact trivial | exact ⟨_,rfl,rfl,rfl⟩) rfl rfl rfl rfl rfl (fun K hK=>?_);go_big_quiet_op;refine hK _ ?_;clear hK K)
 refine Gd.aU (by first | exact trivial | exact ⟨_,rfl,rfl,rfl⟩) (PF wz.heap.size S.roots) (sR _ _) (fun _=>[.slice s0.1 s0.2.1 s0.2.2]) rfl rfl rfl rfl rfl (by kernel_rfl) rfl (fun _=>rfl) (fun m f hf=>H0.out m.1 (LW m) (LL m).size) ?_
 simp only [Act.put,TO,TQ,TU]
 repeat (refine Gd.aD (by first | exact trivial | exact ⟨_,rfl,rfl,rfl⟩) rfl rfl rfl rfl rfl (fun K hK=>?_);go_big_quiet_op;refine hK _ ?_;clear hK K)
 refine Gd.aU (by first | exact trivial | exact ⟨_,rfl,rfl,rfl⟩) (PF wz.heap.size S.pool) (sR _ _) (fun _=>[.slice s1.1 s1.2.1 s1.2.2]) rfl rfl rfl rfl rfl (by kernel_rfl) rfl (fun _=>rfl) (fun m f hf=>H1.out m.1 (LW m) (LL m).size) ?_
 simp only [Act.put,TO,TQ,TU]
 repeat (refine Gd.aD (by first | exact trivial | exact ⟨_,rfl,rfl,rfl⟩) rfl rfl rfl rfl rfl (fun K hK=>?_);go_big_quiet_op;refine hK _ ?_;clear hK K)
 refine Gd.aU (by first | exact trivial | exact ⟨_,rfl,rfl,rfl⟩) (F6 kM wz.heap.size S.ms) (mS _ _ _) (fun _=>[.slice s2.1 s2.2.1 s2.2.2,.func (.func 135) #[] #[]]) rfl rfl rfl rfl rfl (by kernel_rfl) rfl (fun _=>rfl) (fun m f hf=>H2.out m.1 (LW m) (LL m).size) ?_
 simp only [Act.put,TO,TQ,TU]
 repeat (refine Gd.aD (by first | exact trivial | exact ⟨_,rfl,rfl,rfl⟩) rfl rfl rfl rfl rfl (fun K hK=>?_);go_big_quiet_op;refine hK _ ?_;clear hK K)
 refine Gd.aU (by first | exact trivial | exact ⟨_,rfl,rfl,rfl⟩) (F6 kR wz.heap.size S.rs) (mS _ _ _) (fun _=>[.slice s3.1 s3.2.1 s3.2.2,.func (.func 160) #[] #[]]) rfl rfl rfl rfl rfl (by kernel_rfl) rfl (fun _=>rfl) (fun m f hf=>H3.out m.1 (LW m) (LL m).size) ?_
 simp only [Act.put,TO,TQ,TU]
 repeat (refine Gd.aD (by first | exact trivial | exact ⟨_,rfl,rfl,rfl⟩) rfl rfl rfl rfl rfl (fun K hK=>?_);go_big_quiet_op;refine hK _ ?_;clear hK K)
 refine Gd.aU (by first | exact trivial | exact ⟨_,rfl,rfl,rfl⟩) (F6 kD wz.heap.size S.ds) (mS _ _ _) (fun _=>[.slice s4.1 s4.2.1 s4.2.2,.func (.func 171) #[] #[]]) rfl rfl rfl rfl rfl (by kernel_rfl) rfl (fun _=>rfl) (fun m f hf=>H4.out m.1 (LW m) (LL m).size) ?_
 simp only [Act.put,TO,TQ,TU]
 refine Gd.d9 (by first | exact trivial | exact ⟨_,rfl,rfl,rfl⟩) (S6 wz.heap.size S) (CU _ _) (fun f=>[(0,f 5),(1,f 8),(2,f 11),(3,f 14),(4,f 17)]) rfl rfl rfl rfl rfl (fun _=>rfl) (fun m f hf=>?_) ?_
 · obtain ⟨t0,h0,o0⟩:=hf 5 _ rfl rfl
   obtain ⟨t1,h1,o1⟩:=hf 8 _ rfl rfl
   obtain ⟨t2,h2,o2⟩:=hf 11 _ rfl rfl
   obtain ⟨t3,h3,o3⟩:=hf 14 _ rfl rfl
   obtain ⟨t4,h4,o4⟩:=hf 17 _ rfl rfl
   rw [h0,h1,h2,h3,h4]
   exact ⟨_,_,CV m.1 t0 t1 t2 t3 t4,Below.refl _ _,t0,t1,t2,t3,t4,rfl,o0,o1,o2,o3,o4⟩
 simp only [Act.put,TO,TQ,TU]
 refine Gd.cM (fun m f hf=>?_)
 obtain ⟨t0,t1,t2,t3,t4,e18,SO⟩:=hf 18 _ rfl
 simp only [aW]
 simp only [Act.put,TO,TQ,TU]
 rw [e18]
 have LM:=UP (LL m)
 have HSO:=UP SO
 clear hf e18 hw1 LL LW k0 k1 k2 k3 k4 kl SO H0 H1 H2 H3 H4
 generalize m.1=w2 at *
 generalize f 5=f5 at *
 generalize f 8=f8 at *
 generalize f 11=f11 at *
 generalize f 14=f14 at *
 generalize f 17=f17 at *
 clear m f
 have HY2:=UP ((LM.out.block _ (a9 HY.out)).trans HY.out)
 have H1:=UP (eI t0 t1 t2 t3 t4)
 show wpList _ _ _ _ _ _
 unfold cC
 go_wp2_with (refine aL rfl 75 _ _ rfl rfl (w.heap.size+1) (bF t0 t1 t2 t3 t4) rfl rfl 75 #[.slice none 0 0,.slice none 0 0,.slice none 0 0,.slice none 0 0,.slice none 0 0] HY2.out bC rfl H1.out ?_)
 refine bodyPost_ret (v:=cC t0 t1 t2 t3 t4) ?_ rfl ⟨t0,t1,t2,t3,t4,rfl,?_,?_⟩
 · exact results_cell_row rfl _ _ (w.heap.size+1) 75 (bF t0 t1 t2 t3 t4) (0,0) _ rfl (bE HY2.out) Tryz.underlying75 rfl bC
 · exact (HSO.out.gbB (g:=w.heap.size+1) (by omega) (Gb.setRow _ _ _)).mono (by omega)
 · exact aR (EZ.out.tr LM.out) (by omega) _
structure RtI (w wr:World) (s0 s1 s2 s3 s4:SlT) (L:List NC) (A:Option Addr) (c:Nat):Prop where
 ext:Ext w wr
 s:wr.heap[w.heap.size]?=some (.cells (bF s0 s1 s2 s3 s4) 75 (0,0))
 o:aJ wr (w.heap.size+1) 56 11 (.slice A L.length c) (aA L)
 sz:w.heap.size+1≤wr.heap.size
section
variable {w wr wx:World}{s0 s1 s2 s3 s4:SlT}{L L':List NC}{A A':Option Addr}{c c':Nat}
theorem RtI.tr (h:RtI w wr s0 s1 s2 s3 s4 L A c) (e:Ext wr wx):RtI w wx s0 s1 s2 s3 s4 L A c :=
 ⟨h.ext.tr e,(e.block _ (a9 h.s)).trans h.s,h.o.ext e,U9 h.sz e.size⟩
theorem RtI.app (h:RtI w wr s0 s1 s2 s3 s4 L A c) (e:Below (w.heap.size+1) wr wx) (o:aJ wx (w.heap.size+1) 56 11 (.slice A' L'.length c') (aA L')):RtI w wx s0 s1 s2 s3 s4 L' A' c' :=
 ⟨h.ext.trans (e.mono (Nat.le_succ _)),(e.block _ (Nat.lt_succ_self _)).trans h.s,o,U9 h.sz e.size⟩
end
set_option maxHeartbeats 16000000 in
theorem zI (s0 s1 s2 s3 s4:SlT) (S:ST) (w:World) (h0:RdN w (slV s0) S.roots) (h2:RdX kM w (slV s2) S.ms) (hB:StB S):Calls Tryz.prog 58 #[cC s0 s1 s2 s3 s4] w (J3 w (j2 S)):=by
 obtain ⟨A0,n0,c0,hs0,hn0,hnc0,hcm0,hel0⟩:=RdN.at_ h0
 obtain ⟨A2,n2,c2,hs2,hn2,hnc2,hcm2,hel2⟩:=h2.at_
 obtain ⟨sA0,sn0,sc0⟩:=s0
 obtain ⟨sA2,sn2,sc2⟩:=s2
 unfold slV at hs0 hs2
 injection hs0 with e1 e2 e3
 injection hs2 with e4 e5 e6
 simp only at e1 e2 e3 e4 e5 e6
 subst e1 e2 e3 e4 e5 e6 hn0 hn2
 unfold maxLen at hcm0 hcm2
 obtain ⟨wz,hwz⟩:∃ wz,wz=w.alloc (.cells #[.slice sA0 S.roots.length sc0,.slice s1.1 s1.2.1 s1.2.2,.slice sA2 S.ms.length sc2,.slice s3.1 s3.2.1 s3.2.2,.slice s4.1 s4.2.1 s4.2.2] 75):=⟨_,rfl⟩
 have ez:Ext w wz:=by rw [hwz];exact (Below.refl _ _).alloc (TM _) _
 have Z0:Hid (RtI w wz (sA0,S.roots.length,sc0) s1 (sA2,S.ms.length,sc2) s3 s4 (eG [] (S.roots.take 0)) none 0):=UP ⟨ez,by rw [hwz];exact aB w _,aJ.empty _ _ _ _ _,by rw [hwz];simp⟩
 have HE0:=UP hel0
 have HE2:=UP hel2
 have HLR:=UP (GJ hB)
 have HMB:=UP hB.m
 have hl0:S.roots.length≤10000:=hB.lr
 have HALL:=UP (GH S)
 have HAS:=UP (fun (l:List NC) (c:NC) (W:World) (v:Value) (hv:RdN W v l)=>vD c W hv)
 clear hel0 hel2 h0 h2 hB ez
 unfold cC
 go_enter Tryz.func58,Tryz.ntmps58
 go_wp2_with fail
 rw [← hwz]
 clear hwz
 go_loopw [3,4] (fun s3' s4' wr=>∃ (k:Nat) (A:Option Addr) (c:Nat),k≤S.roots.length∧s3'=.slice A (eG [] (S.roots.take k)).length c∧s4'=.int .i64 (k:Int)∧Hid (RtI w wr (sA0,S.roots.length,sc0) s1 (sA2,S.ms.length,sc2) s3 s4 (eG [] (S.roots.take k)) A c)) (fun _ s4' _=>S.roots.length - (intOf s4').toNat)
 case atStart=>exact ⟨0,none,0,U4 _,rfl,rfl,Z0⟩
 case round =>
  clear Z0
  obtain ⟨k,A,c,hk,rfl,rfl,Z⟩:=hrel
  by_cases hlt:k<S.roots.length
  case pos =>
   obtain ⟨y,hy⟩:∃ y,S.roots[k]?=some y:=⟨_,U5 hlt⟩
   obtain ⟨b,o,rfl,hbx,hc⟩:=HE0.out (by omega)
   have HCY:=UP (hc k y hy)
   have HSN:=UP (rM [] hy)
   have HLE:=UP (show (eG [] (S.roots.take k)).length≤220000 by have h1:=lJ [] (S.roots.take k);rw [UJ,U7] at h1;omega)
   clear hy hc
   have wi1:IntKind.i64.wrap ((k:Int))=(k:Int):=IntWalk.i64_in _ (by omega)
   have zi1:(0:Int)≤(k:Int):=by omega
   have li1:(k:Int)<(S.roots.length:Int):=by omega
   have ti1:((k:Int)).toNat=k:=by omega
   have wk:IntKind.i64.wrap ((k:Int)+1)=(k:Int)+1:=IntWalk.i64_in _ (by omega)
   obtain ⟨N,hN⟩:∃ N,eG [] (S.roots.take k)=N:=⟨_,rfl⟩
   rw [hN] at HSN HLE Z
   rw [hN]
   clear hN
   have x0:wr.cell? ⟨w.heap.size,0,none⟩=some (.slice (some ⟨b,o,none⟩) S.roots.length sc0):=by rw [cell_of_row _ _ 0 _ _ _ Z.out.s];rfl
   have xl:=a9 Z.out.s
   have q0:=(Z.out.ext.cell (p:=⟨b,o+k*11,none⟩) hbx).trans HCY.out.1
   have q1:=(Z.out.ext.cell (p:=⟨b,o+k*11+1,none⟩) hbx).trans HCY.out.2.1
   have q2:=(Z.out.ext.cell (p:=⟨b,o+k*11+2,none⟩) hbx).trans HCY.out.2.2.1
   have q3:=(Z.out.ext.cell (p:=⟨b,o+k*11+3,none⟩) hbx).trans HCY.out.2.2.2.1
   have q4:=(Z.out.ext.cell (p:=⟨b,o+k*11+4,none⟩) hbx).trans HCY.out.2.2.2.2.1
   have q5:=(Z.out.ext.cell (p:=⟨b,o+k*11+5,none⟩) hbx).trans HCY.out.2.2.2.2.2.1
   have q6:=(Z.out.ext.cell (p:=⟨b,o+k*11+6,none⟩) hbx).trans HCY.out.2.2.2.2.2.2.1
   have q7:=(Z.out.ext.cell (p:=⟨b,o+k*11+7,none⟩) hbx).trans HCY.out.2.2.2.2.2.2.2.1
   have q8:=(Z.out.ext.cell (p:=⟨b,o+k*11+8,none⟩) hbx).trans HCY.out.2.2.2.2.2.2.2.2.1
   have q9:=(Z.out.ext.cell (p:=⟨b,o+k*11+9,none⟩) hbx).trans HCY.out.2.2.2.2.2.2.2.2.2.1
   have q10:=(Z.out.ext.cell (p:=⟨b,o+k*11+10,none⟩) hbx).trans HCY.out.2.2.2.2.2.2.2.2.2.2
   go_upto_region 5 with fail
   go_wp2_with fail
   refine (HAS.out N y wr _ Z.out.o.rd).mono ?_
   rintro e w2 ⟨rfl,b2⟩
   have Z2:=UP (Z.out.tr b2)
   clear b2 Z x0 xl q0 q1 q2 q3 q4 q5 q6 q7 q8 q9 q10
   by_cases hm:y ∈ N
   · have HF:=UP (show eG [] (S.roots.take (k+1))=N by rw [HSN.out];exact mR hm)
     rw [decide_eq_true hm]
     clear hm
     go_wp2_with fail
     go_roundw
     case rel=>exact ⟨k+1,A,c,by omega,by rw [HF.out],by go_num,by rw [HF.out];exact Z2⟩
     case measure=>simp [intOf];omega
   · have HF:=UP (show eG [] (S.roots.take (k+1))=N++[y] by rw [HSN.out];exact oX hm)
     rw [decide_eq_false hm]
     clear hm
     have x0:w2.cell? ⟨w.heap.size,0,none⟩=some (.slice (some ⟨b,o,none⟩) S.roots.length sc0):=by rw [cell_of_row _ _ 0 _ _ _ Z2.out.s];rfl
     have xl:=a9 Z2.out.s
     have q0:=(Z2.out.ext.cell (p:=⟨b,o+k*11,none⟩) hbx).trans HCY.out.1
     have q1:=(Z2.out.ext.cell (p:=⟨b,o+k*11+1,none⟩) hbx).trans HCY.out.2.1
     have q2:=(Z2.out.ext.cell (p:=⟨b,o+k*11+2,none⟩) hbx).trans HCY.out.2.2.1
     have q3:=(Z2.out.ext.cell (p:=⟨b,o+k*11+3,none⟩) hbx).trans HCY.out.2.2.2.1
     have q4:=(Z2.out.ext.cell (p:=⟨b,o+k*11+4,none⟩) hbx).trans HCY.out.2.2.2.2.1
     have q5:=(Z2.out.ext.cell (p:=⟨b,o+k*11+5,none⟩) hbx).trans HCY.out.2.2.2.2.2.1
     have q6:=(Z2.out.ext.cell (p:=⟨b,o+k*11+6,none⟩) hbx).trans HCY.out.2.2.2.2.2.2.1
     have q7:=(Z2.out.ext.cell (p:=⟨b,o+k*11+7,none⟩) hbx).trans HCY.out.2.2.2.2.2.2.2.1
     have q8:=(Z2.out.ext.cell (p:=⟨b,o+k*11+8,none⟩) hbx).trans HCY.out.2.2.2.2.2.2.2.2.1
     have q9:=(Z2.out.ext.cell (p:=⟨b,o+k*11+9,none⟩) hbx).trans HCY.out.2.2.2.2.2.2.2.2.2.1
     have q10:=(Z2.out.ext.cell (p:=⟨b,o+k*11+10,none⟩) hbx).trans HCY.out.2.2.2.2.2.2.2.2.2.2
     have eA:Ext w2 (w2.alloc (.cells (aE y).toArray 56)):=(Below.refl _ _).alloc (TM _) _
     have HRK:=UP (mN w2 y)
     have Z3:=UP (Z2.out.tr eA)
     have XB:=UP (Below.refl (w.heap.size+1) (w2.alloc (.cells (aE y).toArray 56)))
     unfold aE at HRK Z3 XB
     clear eA
     go_wp2_with (refine bJ (k:=11) (by decide) fU (n:=N.length) (m:=1) (B:=w.heap.size+1) Z3.out.o (by rw [aX]) HRK.out (by rfl) (cT y) XB.out (by have:=HLE.out;omega) (by have:=HLE.out;unfold maxLen;omega) Z3.out.sz rfl rfl rfl rfl ?_;intro A8 n8 c8 w8 hn8 o8 x8 g8)
     have hn8:n8=(N++[y]).length:=by rw [U0];exact hn8.out
     subst hn8
     have Z8:=UP (Z3.out.app (L':=N++[y]) x8 (by rw [← cZ];exact o8))
     clear x0 xl q0 q1 q2 q3 q4 q5 q6 q7 q8 q9 q10 x8 o8 g8 Z2 Z3 HRK XB
     go_roundw
     case rel=>exact ⟨k+1,A8,c8,by omega,by rw [HF.out],by go_num,by rw [HF.out];exact Z8⟩
     case measure=>simp [intOf];omega
  case neg =>
  obtain rfl:k=S.roots.length:=by omega
  have k2:wr.cell? ⟨w.heap.size,0,none⟩=some (.slice sA0 S.roots.length sc0):=by rw [cell_of_row _ _ 0 _ _ _ Z.out.s];rfl
  have kl:=a9 Z.out.s
  rw [List.take_length] at Z
  rw [List.take_length]
  have ZR:Hid (RtI w wr (sA0,S.roots.length,sc0) s1 (sA2,S.ms.length,sc2) s3 s4 (rtT S 0) A c):=Z
  rw [show eG [] S.roots=rtT S 0 from rfl]
  clear hlt hk Z
  go_wp2_with fail
  clear k2 kl
  go_loopw [3,5] (fun s3' s5' wr=>∃ (k:Nat) (A:Option Addr) (c:Nat),k≤S.ms.length∧s3'=.slice A (rtT S k).length c∧s5'=.int .i64 (k:Int)∧Hid (RtI w wr (sA0,S.roots.length,sc0) s1 (sA2,S.ms.length,sc2) s3 s4 (rtT S k) A c)) (fun _ s5' _=>S.ms.length - (intOf s5').toNat)
  case atStart=>exact ⟨0,A,c,U4 _,rfl,rfl,ZR⟩
  case round =>
   clear ZR
   obtain ⟨k2,A,c,hk2,rfl,rfl,Z⟩:=hrel
   have m2:wr.cell? ⟨w.heap.size,2,none⟩=some (.slice sA2 S.ms.length sc2):=by rw [cell_of_row _ _ 2 _ _ _ Z.out.s];rfl
   have ml:=a9 Z.out.s
   by_cases hlt2:k2<S.ms.length
   case neg =>
    obtain rfl:k2=S.ms.length:=by omega
    rw [HALL.out] at Z
    rw [HALL.out]
    clear hlt2 hk2
    go_wp2_with fail
    go_ret
    exact ⟨Z.out.ext,_,_,rfl,Z.out.o.rd⟩
   case pos =>
   obtain ⟨t,ht⟩:∃ t,S.ms[k2]?=some t:=⟨_,U5 hlt2⟩
   obtain ⟨bm,om,rfl,hbm,u,hcell,hu⟩:=HE2.out k2 t ht
   obtain ⟨Au,nu,cu,rfl,hnu,hncu,hcmu,helu⟩:=RdN.at_ hu
   subst hnu
   unfold maxLen at hcmu
   have HEU:=UP helu
   have HM3:=UP (show w.cell? ⟨bm,om+k2*17+3,none⟩=some (.slice Au t.roots.length cu) by
    have:=hcell 3 _ rfl
    rwa [← TW] at this)
   have HRS:=UP (CT ht)
   have HLT:=UP (HMB.out t (UC ht)).2
   have Z0:Hid (RtI w wr (sA0,S.roots.length,sc0) s1 (some ⟨bm,om,none⟩,S.ms.length,sc2) s3 s4 (eG (rtT S k2) (t.roots.take 0)) A c):=Z
   clear ht hcell hu helu Z
   have wi2:IntKind.i64.wrap ((k2:Int))=(k2:Int):=IntWalk.i64_in _ (by omega)
   have zi2:(0:Int)≤(k2:Int):=by omega
   have li2:(k2:Int)<(S.ms.length:Int):=by omega
   have ti2:((k2:Int)).toNat=k2:=by omega
   have wk2:IntKind.i64.wrap ((k2:Int)+1)=(k2:Int)+1:=IntWalk.i64_in _ (by omega)
   go_wp2_with fail
   clear m2 ml
   go_loopw [3,6] (fun s3' s6' wr=>∃ (k:Nat) (A:Option Addr) (c:Nat),k≤t.roots.length∧s3'=.slice A (eG (rtT S k2) (t.roots.take k)).length c∧s6'=.int .i64 (k:Int)∧Hid (RtI w wr (sA0,S.roots.length,sc0) s1 (some ⟨bm,om,none⟩,S.ms.length,sc2) s3 s4 (eG (rtT S k2) (t.roots.take k)) A c)) (fun _ s6' _=>t.roots.length - (intOf s6').toNat)
   case atStart=>exact ⟨0,A,c,U4 _,rfl,rfl,Z0⟩
   case round =>
    clear Z0
    obtain ⟨k,A,c,hk,rfl,rfl,Z⟩:=hrel
    by_cases hlt:k<t.roots.length
    case neg =>
     obtain rfl:k=t.roots.length:=by omega
     rw [List.take_length] at Z
     rw [List.take_length]
     have x0:wr.cell? ⟨w.heap.size,2,none⟩=some (.slice (some ⟨bm,om,none⟩) S.ms.length sc2):=by rw [cell_of_row _ _ 2 _ _ _ Z.out.s];rfl
     have xl:=a9 Z.out.s
     have x3:=(Z.out.ext.cell (p:=⟨bm,om+k2*17+3,none⟩) hbm).trans HM3.out
     go_wp2_with fail
     go_roundw
     case rel=>exact ⟨k2+1,A,c,by omega,by rw [HRS.out],by go_num,by rw [HRS.out];exact Z⟩
     case measure=>simp [intOf];omega
    case pos =>
    obtain ⟨y,hy⟩:∃ y,t.roots[k]?=some y:=⟨_,U5 hlt⟩
    obtain ⟨b,o,rfl,hbx,hc⟩:=HEU.out (by omega)
    have HCY:=UP (hc k y hy)
    have HSN:=UP (rM (rtT S k2) hy)
    have HLE:=UP (show (eG (rtT S k2) (t.roots.take k)).length≤220000 by have h1:=lJ (rtT S k2) (t.roots.take k);have:=HLR.out k2;have:=HLT.out;rw [UJ] at h1;omega)
    have hlr:=HLT.out
    clear hy hc
    have wi3:IntKind.i64.wrap ((k:Int))=(k:Int):=IntWalk.i64_in _ (by omega)
    have zi3:(0:Int)≤(k:Int):=by omega
    have li3:(k:Int)<(t.roots.length:Int):=by omega
    have ti3:((k:Int)).toNat=k:=by omega
    have wk:IntKind.i64.wrap ((k:Int)+1)=(k:Int)+1:=IntWalk.i64_in _ (by omega)
    obtain ⟨N,hN⟩:∃ N,eG (rtT S k2) (t.roots.take k)=N:=⟨_,rfl⟩
    rw [hN] at HSN HLE Z
    rw [hN]
    clear hN
    have x0:wr.cell? ⟨w.heap.size,2,none⟩=some (.slice (some ⟨bm,om,none⟩) S.ms.length sc2):=by rw [cell_of_row _ _ 2 _ _ _ Z.out.s];rfl
    have xl:=a9 Z.out.s
    have x3:=(Z.out.ext.cell (p:=⟨bm,om+k2*17+3,none⟩) hbm).trans HM3.out
    have q0:=(Z.out.ext.cell (p:=⟨b,o+k*11,none⟩) hbx).trans HCY.out.1
    have q1:=(Z.out.ext.cell (p:=⟨b,o+k*11+1,none⟩) hbx).trans HCY.out.2.1
    have q2:=(Z.out.ext.cell (p:=⟨b,o+k*11+2,none⟩) hbx).trans HCY.out.2.2.1
    have q3:=(Z.out.ext.cell (p:=⟨b,o+k*11+3,none⟩) hbx).trans HCY.out.2.2.2.1
    have q4:=(Z.out.ext.cell (p:=⟨b,o+k*11+4,none⟩) hbx).trans HCY.out.2.2.2.2.1
    have q5:=(Z.out.ext.cell (p:=⟨b,o+k*11+5,none⟩) hbx).trans HCY.out.2.2.2.2.2.1
    have q6:=(Z.out.ext.cell (p:=⟨b,o+k*11+6,none⟩) hbx).trans HCY.out.2.2.2.2.2.2.1
    have q7:=(Z.out.ext.cell (p:=⟨b,o+k*11+7,none⟩) hbx).trans HCY.out.2.2.2.2.2.2.2.1
    have q8:=(Z.out.ext.cell (p:=⟨b,o+k*11+8,none⟩) hbx).trans HCY.out.2.2.2.2.2.2.2.2.1
    have q9:=(Z.out.ext.cell (p:=⟨b,o+k*11+9,none⟩) hbx).trans HCY.out.2.2.2.2.2.2.2.2.2.1
    have q10:=(Z.out.ext.cell (p:=⟨b,o+k*11+10,none⟩) hbx).trans HCY.out.2.2.2.2.2.2.2.2.2.2
    go_upto_region 13 with fail
    go_wp2_with fail
    refine (HAS.out N y wr _ Z.out.o.rd).mono ?_
    rintro e w2 ⟨rfl,b2⟩
    have Z2:=UP (Z.out.tr b2)
    clear b2 Z x0 xl x3 q0 q1 q2 q3 q4 q5 q6 q7 q8 q9 q10
    by_cases hm:y ∈ N
    · have HF:=UP (show eG (rtT S k2) (t.roots.take (k+1))=N by rw [HSN.out];exact mR hm)
      rw [decide_eq_true hm]
      clear hm
      go_wp2_with fail
      go_roundw
      case rel=>exact ⟨k+1,A,c,by omega,by rw [HF.out],by go_num,by rw [HF.out];exact Z2⟩
      case measure=>simp [intOf];omega
    · have HF:=UP (show eG (rtT S k2) (t.roots.take (k+1))=N++[y] by rw [HSN.out];exact oX hm)
      rw [decide_eq_false hm]
      clear hm
      have x0:w2.cell? ⟨w.heap.size,2,none⟩=some (.slice (some ⟨bm,om,none⟩) S.ms.length sc2):=by rw [cell_of_row _ _ 2 _ _ _ Z2.out.s];rfl
      have xl:=a9 Z2.out.s
      have x3:=(Z2.out.ext.cell (p:=⟨bm,om+k2*17+3,none⟩) hbm).trans HM3.out
      have q0:=(Z2.out.ext.cell (p:=⟨b,o+k*11,none⟩) hbx).trans HCY.out.1
      have q1:=(Z2.out.ext.cell (p:=⟨b,o+k*11+1,none⟩) hbx).trans HCY.out.2.1
      have q2:=(Z2.out.ext.cell (p:=⟨b,o+k*11+2,none⟩) hbx).trans HCY.out.2.2.1
      have q3:=(Z2.out.ext.cell (p:=⟨b,o+k*11+3,none⟩) hbx).trans HCY.out.2.2.2.1
      have q4:=(Z2.out.ext.cell (p:=⟨b,o+k*11+4,none⟩) hbx).trans HCY.out.2.2.2.2.1
      have q5:=(Z2.out.ext.cell (p:=⟨b,o+k*11+5,none⟩) hbx).trans HCY.out.2.2.2.2.2.1
      have q6:=(Z2.out.ext.cell (p:=⟨b,o+k*11+6,none⟩) hbx).trans HCY.out.2.2.2.2.2.2.1
      have q7:=(Z2.out.ext.cell (p:=⟨b,o+k*11+7,none⟩) hbx).trans HCY.out.2.2.2.2.2.2.2.1
      have q8:=(Z2.out.ext.cell (p:=⟨b,o+k*11+8,none⟩) hbx).trans HCY.out.2.2.2.2.2.2.2.2.1
      have q9:=(Z2.out.ext.cell (p:=⟨b,o+k*11+9,none⟩) hbx).trans HCY.out.2.2.2.2.2.2.2.2.2.1
      have q10:=(Z2.out.ext.cell (p:=⟨b,o+k*11+10,none⟩) hbx).trans HCY.out.2.2.2.2.2.2.2.2.2.2
      have eA:Ext w2 (w2.alloc (.cells (aE y).toArray 56)):=(Below.refl _ _).alloc (TM _) _
      have HRK:=UP (mN w2 y)
      have Z3:=UP (Z2.out.tr eA)
      have XB:=UP (Below.refl (w.heap.size+1) (w2.alloc (.cells (aE y).toArray 56)))
      unfold aE at HRK Z3 XB
      clear eA
      go_wp2_with (refine bJ (k:=11) (by decide) fU (n:=N.length) (m:=1) (B:=w.heap.size+1) Z3.out.o (by rw [aX]) HRK.out (by rfl) (cT y) XB.out (by have:=HLE.out;omega) (by have:=HLE.out;unfold maxLen;omega) Z3.out.sz rfl rfl rfl rfl ?_;intro A8 n8 c8 w8 hn8 o8 x8 g8)
      have hn8:n8=(N++[y]).length:=by rw [U0];exact hn8.out
      subst hn8
      have Z8:=UP (Z3.out.app (L':=N++[y]) x8 (by rw [← cZ];exact o8))
      clear x0 xl x3 q0 q1 q2 q3 q4 q5 q6 q7 q8 q9 q10 x8 o8 g8 Z2 Z3 HRK XB
      go_roundw
      case rel=>exact ⟨k+1,A8,c8,by omega,by rw [HF.out],by go_num,by rw [HF.out];exact Z8⟩
      case measure=>simp [intOf];omega
end Go.Proofs.YtkjplpmogfmhkaaGreatDoor
