/- Parts Ud Un Ui of the proof. -/
import Derived.Test.YtkjplpmogfmhkaaGreatDoorLaz
import Derived.Test.YtkjplpmogfmhkaaGreatDoorLav
namespace Go.Proofs.YtkjplpmogfmhkaaGreatDoor
open Go.RowKit
set_option linter.unusedVariables false
set_option maxRecDepth 100000
theorem S9:kE Tryz.prog 72 103 8 88:=by
 have h:(Tryz.prog.info? 103).map (fun i=>(i.zero,i.size,i.bytes))=some (some (.agg #[.string ⟨#[]⟩,.int .i64 0,.int .i64 0,.int .i64 0,.slice none 0 0,.int .i64 0,.int .i64 0,.int .i64 0]),8,88):=by kernel_rfl
 obtain ⟨i,h1,h2,h3,h4⟩:=info_parts h
 exact ⟨i,_,Tryz.underlying72,h1,h2,h3,h4,rfl⟩
theorem NE (t:RV) (u:Value) (W:World) (hu:RdK W 1 u (bC t.ser)) (hl:t.ser.length≤1000000):Calls Tryz.prog 160 #[.agg (fG t u).toArray] W fun e W'=>∃ A1 n1 c1,e=.returned (.agg (fG t (.slice A1 n1 c1)).toArray)∧aJ W' W.heap.size 3 1 (.slice A1 n1 c1) (bC t.ser)∧Ext W W' :=
 (MV t u W (RdK.r1 hu) hl).mono fun e W' ⟨A1,n1,c1,h1,h2,h3⟩=>⟨A1,n1,c1,h1,h2.k1,h3⟩
theorem US (w:World) (t:RV) (u:Value):RdK (w.alloc (.cells (fG t u).toArray 103)) 8 (.slice (some ⟨w.heap.size,0,none⟩) 1 1) (fG t u):=by
 have:=RdK.lit w 8 (fG t u).toArray 103 1 rfl (by unfold maxLen;omega)
 simpa using this
set_option maxHeartbeats 4000000 in
theorem K1 {v:Value}{l:List RV} (w:World) (hv:RdX kR w v l) (hl:l.length≤100000) (hs:∀ a ∈ l,a.ser.length≤1000000) :
 Calls Tryz.prog 203 #[v,.func (.func 160) #[] #[]] w fun e w'=>∃ A c,e=.returned (.slice A l.length c)∧gZ kR w' w.heap.size (.slice A l.length c) l∧Ext w w':=by
 obtain ⟨A,n,c,rfl,hn,hnc,hcm,hel⟩:=hv.at_
 subst hn
 unfold maxLen at hcm
 have HEL:=VR hel
 have HSL:=VR hs
 have HON:=VR NE
 clear hel hs hv
 go_enter Tryz.func203,Tryz.ntmps203
 go_wp2_with fail
 go_loopw [5,10] (fun out i wr=>∃ (k:Nat) (Ao:Option Addr) (co:Nat) (ps:List (RV × Value)),k≤l.length∧i=.int .i64 (k:Int)∧out=.slice Ao k co∧Hid (ps.map Prod.fst=l.take k)∧Hid (fA kR wr w.heap.size (.slice Ao k co) ps)∧Hid (Ext w wr)) (fun _ i _=>l.length - (intOf i).toNat)
 case atStart=>exact ⟨0,none,0,[],V7 _,rfl,rfl,VR rfl,VR (fA.empty _ _ _ _),VR (Below.refl _ _)⟩
 case round =>
  obtain ⟨k,Ao,co,ps,hk,rfl,rfl,HP,HO,X⟩:=hrel
  by_cases hlt:k<l.length
  case neg =>
   obtain rfl:k=l.length:=by omega
   have HR:Hid (gZ kR wr w.heap.size (.slice Ao l.length co) l):=VR ⟨ps,by rw [HP.out,List.take_length],HO.out⟩
   clear HP HO
   go_wp2_with fail
   go_ret
   exact ⟨_,_,rfl,HR.out,X.out⟩
  case pos =>
  obtain ⟨t,ht⟩:∃ t,l[k]?=some t:=⟨_,V8 hlt⟩
  obtain ⟨b,o,rfl,hbl,u,hcell,hu⟩:=HEL.out k t ht
  have HT:=VR ht
  obtain ⟨Au,nu,cu,rfl,-⟩:=id hu
  have HU0:=VR (RdK.ext hu X.out)
  have HLT:=VR (HSL.out t (VD ht))
  clear ht hu
  have wi1:IntKind.i64.wrap ((k:Int))=(k:Int):=IntWalk.i64_in _ (by omega)
  have zi1:(0:Int)≤(k:Int):=by omega
  have li1:(k:Int)<(l.length:Int):=by omega
  have ti1:((k:Int)).toNat=k:=by omega
  have wk:IntKind.i64.wrap ((k:Int)+1)=(k:Int)+1:=IntWalk.i64_in _ (by omega)
  have l0:wr.cell? ⟨b,o+k*8,none⟩=some (.string (aI t.st)):=by
   have:=(X.out.cell (p:=⟨b,o+(k*8+0),none⟩) hbl).trans (hcell 0 _ rfl)
   exact this
  have l1:wr.cell? ⟨b,o+k*8+1,none⟩=some (.int .i64 t.num):=by
   have:=(X.out.cell (p:=⟨b,o+(k*8+1),none⟩) hbl).trans (hcell 1 _ rfl)
   rwa [← V4] at this
  have l2:wr.cell? ⟨b,o+k*8+2,none⟩=some (.int .i64 t.day):=by
   have:=(X.out.cell (p:=⟨b,o+(k*8+2),none⟩) hbl).trans (hcell 2 _ rfl)
   rwa [← V4] at this
  have l3:wr.cell? ⟨b,o+k*8+3,none⟩=some (.int .i64 t.nxt):=by
   have:=(X.out.cell (p:=⟨b,o+(k*8+3),none⟩) hbl).trans (hcell 3 _ rfl)
   rwa [← V4] at this
  have l4:wr.cell? ⟨b,o+k*8+4,none⟩=some (.slice Au nu cu):=by
   have:=(X.out.cell (p:=⟨b,o+(k*8+4),none⟩) hbl).trans (hcell 4 _ rfl)
   rwa [← V4] at this
  have l5:wr.cell? ⟨b,o+k*8+5,none⟩=some (.int .i64 t.iss):=by
   have:=(X.out.cell (p:=⟨b,o+(k*8+5),none⟩) hbl).trans (hcell 5 _ rfl)
   rwa [← V4] at this
  have l6:wr.cell? ⟨b,o+k*8+6,none⟩=some (.int .i64 t.e):=by
   have:=(X.out.cell (p:=⟨b,o+(k*8+6),none⟩) hbl).trans (hcell 6 _ rfl)
   rwa [← V4] at this
  have l7:wr.cell? ⟨b,o+k*8+7,none⟩=some (.int .i64 t.s):=by
   have:=(X.out.cell (p:=⟨b,o+(k*8+7),none⟩) hbl).trans (hcell 7 _ rfl)
   rwa [← V4] at this
  clear hcell
  obtain ⟨wn,hwn⟩:∃ wn,wn=wr.alloc (.cells #[.string (aI t.st),.int .i64 t.num,.int .i64 t.day,.int .i64 t.nxt,.slice Au nu cu,.int .i64 t.iss,.int .i64 t.e,.int .i64 t.s] 103):=⟨_,rfl⟩
  have en:Ext wr wn:=by rw [hwn];exact (Below.refl _ _).alloc (UX _) _
  have bn:wn.heap[wr.heap.size]?=some (.cells (fG t (.slice Au nu cu)).toArray 103 (0,0)):=by rw [hwn];exact aC wr _
  have HBN:=VR bn
  have HU:=VR (RdK.ext HU0.out en)
  have HON2:=VR (HO.out.ext en)
  have XN:=VR (X.out.tr en)
  go_upto_region 5 with fail
  rw [← hwn]
  clear hwn l0 l1 l2 l3 l4 l5 l6 l7 HU0 HO X en bn
  unfold fG at HBN
  go_wp2_with (refine wpList_load_row rfl 103 _ rfl wr.heap.size rfl 103 #[.string (aI t.st),.int .i64 t.num,.int .i64 t.day,.int .i64 t.nxt,.slice Au nu cu,.int .i64 t.iss,.int .i64 t.e,.int .i64 t.s] (0,0) _ HBN.out Tryz.underlying103 rfl qA ?_)
  refine (HON.out t (.slice Au nu cu) wn HU.out HLT.out).mono ?_
  rintro e w2 ⟨A1,n1,c1,rfl,o1,b2⟩
  unfold fG
  have HO2:=VR (HON2.out.ext b2)
  have X2:=VR (XN.out.tr b2)
  have HI2:=VR (o1.mono XN.out.size)
  clear b2 o1 HU HON2 XN HBN
  have eA:Ext w2 (w2.alloc (.cells (fG t (.slice A1 n1 c1)).toArray 103)):=(Below.refl _ _).alloc (UX _) _
  have HO3:=VR (HO2.out.ext eA)
  have HI3:=VR (HI2.out.ext eA)
  have X3:=VR (X2.out.tr eA)
  have HRK:=VR (US w2 t (.slice A1 n1 c1))
  have HPL:=VR (show k*8=(kR.cells ps).length by
   have h1:=congrArg List.length HP.out
   rw [List.length_map,VL,Nat.min_eq_left (Nat.le_of_lt hlt)] at h1
   rw [kR.cells_len,h1];rfl)
  have HONE:=VR (kR.one t (.slice A1 n1 c1) rfl)
  unfold fG at HRK HO3 HI3 X3
  clear eA
  go_wp2_with (refine bP (k:=8) (by decide) S9 (n:=k) (m:=1) (B:=w.heap.size) HO3.out.1 HPL.out HRK.out (by rfl) HONE.out X3.out (by omega) (by unfold maxLen;omega) X3.out.size rfl rfl rfl rfl ?_;intro A8 n8 c8 w8 hn8 o8 x8 g8)
  obtain rfl:n8=k+1:=hn8.out
  have HO8:=VR (show fA kR w8 w.heap.size (.slice A8 (k+1) c8) (ps++[(t,.slice A1 n1 c1)]) from HO3.out.app HI3.out o8 g8)
  have HP8:=VR (show (ps++[(t,Value.slice A1 n1 c1)]).map Prod.fst=l.take (k+1) by rw [List.map_append,HP.out,List.take_succ_eq_append_getElem hlt];have:=HT.out;rw [V8 hlt] at this;rw [Option.some.inj this];rfl)
  have X8:=VR x8
  clear x8 o8 g8
  go_roundw
  case rel=>exact ⟨k+1,A8,c8,_,by omega,by go_num,rfl,HP8,HO8,X8⟩
  case measure=>simp [intOf];omega
theorem wA:kE Tryz.prog 71 80 17 168:=by
 have h:(Tryz.prog.info? 80).map (fun i=>(i.zero,i.size,i.bytes))=some (some (.agg #[.string ⟨#[]⟩,.int .i64 0,.int .i64 0,.slice none 0 0,.string ⟨#[]⟩,.int .i64 0,.int .i64 0,.int .i64 0,.int .i64 0,.int .i64 0,.int .i64 0,.int .i64 0,.int .i64 0,.int .i64 0,.int .i64 0,.int .i64 0,.int .i64 0]),17,168):=by kernel_rfl
 obtain ⟨i,h1,h2,h3,h4⟩:=info_parts h
 exact ⟨i,_,Tryz.underlying71,h1,h2,h3,h4,rfl⟩
theorem NF (t:MA) (u:Value) (W:World) (hu:RdK W 11 u (aA t.roots)) (hl:t.roots.length≤1000000):Calls Tryz.prog 135 #[.agg (aB t u).toArray] W fun e W'=>∃ A1 n1 c1,e=.returned (.agg (aB t (.slice A1 n1 c1)).toArray)∧aJ W' W.heap.size 56 11 (.slice A1 n1 c1) (aA t.roots)∧Ext W W' :=
 mW t u W hu hl
theorem litM (w:World) (t:MA) (u:Value):RdK (w.alloc (.cells (aB t u).toArray 80)) 17 (.slice (some ⟨w.heap.size,0,none⟩) 1 1) (aB t u):=by
 have:=RdK.lit w 17 (aB t u).toArray 80 1 rfl (by unfold maxLen;omega)
 simpa using this
set_option maxHeartbeats 4000000 in
theorem K3 {v:Value}{l:List MA} (w:World) (hv:RdX kM w v l) (hl:l.length≤100000) (hs:∀ a ∈ l,a.roots.length≤1000000) :
 Calls Tryz.prog 202 #[v,.func (.func 135) #[] #[]] w fun e w'=>∃ A c,e=.returned (.slice A l.length c)∧gZ kM w' w.heap.size (.slice A l.length c) l∧Ext w w':=by
 obtain ⟨A,n,c,rfl,hn,hnc,hcm,hel⟩:=hv.at_
 subst hn
 unfold maxLen at hcm
 have HEL:=VR hel
 have HSL:=VR hs
 have HON:=VR NF
 clear hel hs hv
 go_enter Tryz.func202,Tryz.ntmps202
 go_wp2_with fail
 go_loopw [5,10] (fun out i wr=>∃ (k:Nat) (Ao:Option Addr) (co:Nat) (ps:List (MA × Value)),k≤l.length∧i=.int .i64 (k:Int)∧out=.slice Ao k co∧Hid (ps.map Prod.fst=l.take k)∧Hid (fA kM wr w.heap.size (.slice Ao k co) ps)∧Hid (Ext w wr)) (fun _ i _=>l.length - (intOf i).toNat)
 case atStart=>exact ⟨0,none,0,[],V7 _,rfl,rfl,VR rfl,VR (fA.empty _ _ _ _),VR (Below.refl _ _)⟩
 case round =>
  obtain ⟨k,Ao,co,ps,hk,rfl,rfl,HP,HO,X⟩:=hrel
  by_cases hlt:k<l.length
  case neg =>
   obtain rfl:k=l.length:=by omega
   have HR:Hid (gZ kM wr w.heap.size (.slice Ao l.length co) l):=VR ⟨ps,by rw [HP.out,List.take_length],HO.out⟩
   clear HP HO
   go_wp2_with fail
   go_ret
   exact ⟨_,_,rfl,HR.out,X.out⟩
  case pos =>
  obtain ⟨t,ht⟩:∃ t,l[k]?=some t:=⟨_,V8 hlt⟩
  obtain ⟨b,o,rfl,hbl,u,hcell,hu⟩:=HEL.out k t ht
  have HT:=VR ht
  obtain ⟨Au,nu,cu,rfl,-⟩:=id hu
  have HU0:=VR (RdK.ext hu X.out)
  have HLT:=VR (HSL.out t (VD ht))
  clear ht hu
  have wi2:IntKind.i64.wrap ((k:Int))=(k:Int):=IntWalk.i64_in _ (by omega)
  have zi2:(0:Int)≤(k:Int):=by omega
  have li2:(k:Int)<(l.length:Int):=by omega
  have ti2:((k:Int)).toNat=k:=by omega
  have wk:IntKind.i64.wrap ((k:Int)+1)=(k:Int)+1:=IntWalk.i64_in _ (by omega)
  have l0:wr.cell? ⟨b,o+k*17,none⟩=some (.string (aI t.st)):=by
   have:=(X.out.cell (p:=⟨b,o+(k*17+0),none⟩) hbl).trans (hcell 0 _ rfl)
   exact this
  have l1:wr.cell? ⟨b,o+k*17+1,none⟩=some (.int .i64 t.num):=by
   have:=(X.out.cell (p:=⟨b,o+(k*17+1),none⟩) hbl).trans (hcell 1 _ rfl)
   rwa [← V4] at this
  have l2:wr.cell? ⟨b,o+k*17+2,none⟩=some (.int .i64 t.day):=by
   have:=(X.out.cell (p:=⟨b,o+(k*17+2),none⟩) hbl).trans (hcell 2 _ rfl)
   rwa [← V4] at this
  have l3:wr.cell? ⟨b,o+k*17+3,none⟩=some (.slice Au nu cu):=by
   have:=(X.out.cell (p:=⟨b,o+(k*17+3),none⟩) hbl).trans (hcell 3 _ rfl)
   rwa [← V4] at this
  have l4:wr.cell? ⟨b,o+k*17+4,none⟩=some (.string (aI t.sg.st)):=by
   have:=(X.out.cell (p:=⟨b,o+(k*17+4),none⟩) hbl).trans (hcell 4 _ rfl)
   rwa [← V4] at this
  have l5:wr.cell? ⟨b,o+k*17+5,none⟩=some (.int .i64 t.sg.kind):=by
   have:=(X.out.cell (p:=⟨b,o+(k*17+5),none⟩) hbl).trans (hcell 5 _ rfl)
   rwa [← V4] at this
  have l6:wr.cell? ⟨b,o+k*17+6,none⟩=some (.int .i64 t.sg.num):=by
   have:=(X.out.cell (p:=⟨b,o+(k*17+6),none⟩) hbl).trans (hcell 6 _ rfl)
   rwa [← V4] at this
  have l7:wr.cell? ⟨b,o+k*17+7,none⟩=some (.int .i64 t.sg.iss):=by
   have:=(X.out.cell (p:=⟨b,o+(k*17+7),none⟩) hbl).trans (hcell 7 _ rfl)
   rwa [← V4] at this
  have l8:wr.cell? ⟨b,o+k*17+8,none⟩=some (.int .i64 t.sg.own):=by
   have:=(X.out.cell (p:=⟨b,o+(k*17+8),none⟩) hbl).trans (hcell 8 _ rfl)
   rwa [← V4] at this
  have l9:wr.cell? ⟨b,o+k*17+9,none⟩=some (.int .i64 t.sg.key):=by
   have:=(X.out.cell (p:=⟨b,o+(k*17+9),none⟩) hbl).trans (hcell 9 _ rfl)
   rwa [← V4] at this
  have l10:wr.cell? ⟨b,o+k*17+10,none⟩=some (.int .i64 t.sg.fr):=by
   have:=(X.out.cell (p:=⟨b,o+(k*17+10),none⟩) hbl).trans (hcell 10 _ rfl)
   rwa [← V4] at this
  have l11:wr.cell? ⟨b,o+k*17+11,none⟩=some (.int .i64 t.sg.un):=by
   have:=(X.out.cell (p:=⟨b,o+(k*17+11),none⟩) hbl).trans (hcell 11 _ rfl)
   rwa [← V4] at this
  have l12:wr.cell? ⟨b,o+k*17+12,none⟩=some (.int .i64 t.sg.to):=by
   have:=(X.out.cell (p:=⟨b,o+(k*17+12),none⟩) hbl).trans (hcell 12 _ rfl)
   rwa [← V4] at this
  have l13:wr.cell? ⟨b,o+k*17+13,none⟩=some (.int .i64 t.sg.e):=by
   have:=(X.out.cell (p:=⟨b,o+(k*17+13),none⟩) hbl).trans (hcell 13 _ rfl)
   rwa [← V4] at this
  have l14:wr.cell? ⟨b,o+k*17+14,none⟩=some (.int .i64 t.sg.s):=by
   have:=(X.out.cell (p:=⟨b,o+(k*17+14),none⟩) hbl).trans (hcell 14 _ rfl)
   rwa [← V4] at this
  have l15:wr.cell? ⟨b,o+k*17+15,none⟩=some (.int .i64 t.e):=by
   have:=(X.out.cell (p:=⟨b,o+(k*17+15),none⟩) hbl).trans (hcell 15 _ rfl)
   rwa [← V4] at this
  have l16:wr.cell? ⟨b,o+k*17+16,none⟩=some (.int .i64 t.s):=by
   have:=(X.out.cell (p:=⟨b,o+(k*17+16),none⟩) hbl).trans (hcell 16 _ rfl)
   rwa [← V4] at this
  clear hcell
  obtain ⟨wn,hwn⟩:∃ wn,wn=wr.alloc (.cells #[.string (aI t.st),.int .i64 t.num,.int .i64 t.day,.slice Au nu cu,.string (aI t.sg.st),.int .i64 t.sg.kind,.int .i64 t.sg.num,.int .i64 t.sg.iss,.int .i64 t.sg.own,.int .i64 t.sg.key,.int .i64 t.sg.fr,.int .i64 t.sg.un,.int .i64 t.sg.to,.int .i64 t.sg.e,.int .i64 t.sg.s,.int .i64 t.e,.int .i64 t.s] 80):=⟨_,rfl⟩
  have en:Ext wr wn:=by rw [hwn];exact (Below.refl _ _).alloc (UX _) _
  have bn:wn.heap[wr.heap.size]?=some (.cells (aB t (.slice Au nu cu)).toArray 80 (0,0)):=by rw [hwn];exact aC wr _
  have HBN:=VR bn
  have HU:=VR (RdK.ext HU0.out en)
  have HON2:=VR (HO.out.ext en)
  have XN:=VR (X.out.tr en)
  go_upto_region 5 with fail
  rw [← hwn]
  clear hwn l0 l1 l2 l3 l4 l5 l6 l7 l8 l9 l10 l11 l12 l13 l14 l15 l16 HU0 HO X en bn
  unfold aB at HBN
  go_wp2_with (refine wpList_load_row rfl 80 _ rfl wr.heap.size rfl 80 #[.string (aI t.st),.int .i64 t.num,.int .i64 t.day,.slice Au nu cu,.string (aI t.sg.st),.int .i64 t.sg.kind,.int .i64 t.sg.num,.int .i64 t.sg.iss,.int .i64 t.sg.own,.int .i64 t.sg.key,.int .i64 t.sg.fr,.int .i64 t.sg.un,.int .i64 t.sg.to,.int .i64 t.sg.e,.int .i64 t.sg.s,.int .i64 t.e,.int .i64 t.s] (0,0) _ HBN.out Tryz.underlying80 rfl aN ?_)
  refine (HON.out t (.slice Au nu cu) wn HU.out HLT.out).mono ?_
  rintro e w2 ⟨A1,n1,c1,rfl,o1,b2⟩
  unfold aB
  have HO2:=VR (HON2.out.ext b2)
  have X2:=VR (XN.out.tr b2)
  have HI2:=VR (o1.mono XN.out.size)
  clear b2 o1 HU HON2 XN HBN
  have eA:Ext w2 (w2.alloc (.cells (aB t (.slice A1 n1 c1)).toArray 80)):=(Below.refl _ _).alloc (UX _) _
  have HO3:=VR (HO2.out.ext eA)
  have HI3:=VR (HI2.out.ext eA)
  have X3:=VR (X2.out.tr eA)
  have HRK:=VR (litM w2 t (.slice A1 n1 c1))
  have HPL:=VR (show k*17=(kM.cells ps).length by
   have h1:=congrArg List.length HP.out
   rw [List.length_map,VL,Nat.min_eq_left (Nat.le_of_lt hlt)] at h1
   rw [kM.cells_len,h1];rfl)
  have HONE:=VR (kM.one t (.slice A1 n1 c1) rfl)
  unfold aB at HRK HO3 HI3 X3
  clear eA
  go_wp2_with (refine bP (k:=17) (by decide) wA (n:=k) (m:=1) (B:=w.heap.size) HO3.out.1 HPL.out HRK.out (by rfl) HONE.out X3.out (by omega) (by unfold maxLen;omega) X3.out.size rfl rfl rfl rfl ?_;intro A8 n8 c8 w8 hn8 o8 x8 g8)
  obtain rfl:n8=k+1:=hn8.out
  have HO8:=VR (show fA kM w8 w.heap.size (.slice A8 (k+1) c8) (ps++[(t,.slice A1 n1 c1)]) from HO3.out.app HI3.out o8 g8)
  have HP8:=VR (show (ps++[(t,Value.slice A1 n1 c1)]).map Prod.fst=l.take (k+1) by rw [List.map_append,HP.out,List.take_succ_eq_append_getElem hlt];have:=HT.out;rw [V8 hlt] at this;rw [Option.some.inj this];rfl)
  have X8:=VR x8
  clear x8 o8 g8
  go_roundw
  case rel=>exact ⟨k+1,A8,c8,_,by omega,by go_num,rfl,HP8,HO8,X8⟩
  case measure=>simp [intOf];omega
theorem SB:kE Tryz.prog 73 121 17 168:=by
 have h:(Tryz.prog.info? 121).map (fun i=>(i.zero,i.size,i.bytes))=some (some (.agg #[.string ⟨#[]⟩,.int .i64 0,.int .i64 0,.slice none 0 0,.string ⟨#[]⟩,.int .i64 0,.int .i64 0,.int .i64 0,.int .i64 0,.int .i64 0,.int .i64 0,.int .i64 0,.int .i64 0,.int .i64 0,.int .i64 0,.int .i64 0,.int .i64 0]),17,168):=by kernel_rfl
 obtain ⟨i,h1,h2,h3,h4⟩:=info_parts h
 exact ⟨i,_,Tryz.underlying73,h1,h2,h3,h4,rfl⟩
theorem NG (t:DV) (u:Value) (W:World) (hu:RdK W 5 u (iA t.defs)) (hl:t.defs.length≤1000000):Calls Tryz.prog 171 #[.agg (cP t u).toArray] W fun e W'=>∃ A1 n1 c1,e=.returned (.agg (cP t (.slice A1 n1 c1)).toArray)∧aJ W' W.heap.size 177 5 (.slice A1 n1 c1) (iA t.defs)∧Ext W W' :=
 N9 t u W hu hl
theorem UT (w:World) (t:DV) (u:Value):RdK (w.alloc (.cells (cP t u).toArray 121)) 17 (.slice (some ⟨w.heap.size,0,none⟩) 1 1) (cP t u):=by
 have:=RdK.lit w 17 (cP t u).toArray 121 1 rfl (by unfold maxLen;omega)
 simpa using this
set_option maxHeartbeats 4000000 in
theorem K4 {v:Value}{l:List DV} (w:World) (hv:RdX kD w v l) (hl:l.length≤100000) (hs:∀ a ∈ l,a.defs.length≤1000000) :
 Calls Tryz.prog 204 #[v,.func (.func 171) #[] #[]] w fun e w'=>∃ A c,e=.returned (.slice A l.length c)∧gZ kD w' w.heap.size (.slice A l.length c) l∧Ext w w':=by
 obtain ⟨A,n,c,rfl,hn,hnc,hcm,hel⟩:=hv.at_
 subst hn
 unfold maxLen at hcm
 have HEL:=VR hel
 have HSL:=VR hs
 have HON:=VR NG
 clear hel hs hv
 go_enter Tryz.func204,Tryz.ntmps204
 go_wp2_with fail
 go_loopw [5,10] (fun out i wr=>∃ (k:Nat) (Ao:Option Addr) (co:Nat) (ps:List (DV × Value)),k≤l.length∧i=.int .i64 (k:Int)∧out=.slice Ao k co∧Hid (ps.map Prod.fst=l.take k)∧Hid (fA kD wr w.heap.size (.slice Ao k co) ps)∧Hid (Ext w wr)) (fun _ i _=>l.length - (intOf i).toNat)
 case atStart=>exact ⟨0,none,0,[],V7 _,rfl,rfl,VR rfl,VR (fA.empty _ _ _ _),VR (Below.refl _ _)⟩
 case round =>
  obtain ⟨k,Ao,co,ps,hk,rfl,rfl,HP,HO,X⟩:=hrel
  by_cases hlt:k<l.length
  case neg =>
   obtain rfl:k=l.length:=by omega
   have HR:Hid (gZ kD wr w.heap.size (.slice Ao l.length co) l):=VR ⟨ps,by rw [HP.out,List.take_length],HO.out⟩
   clear HP HO
   go_wp2_with fail
   go_ret
   exact ⟨_,_,rfl,HR.out,X.out⟩
  case pos =>
  obtain ⟨t,ht⟩:∃ t,l[k]?=some t:=⟨_,V8 hlt⟩
  obtain ⟨b,o,rfl,hbl,u,hcell,hu⟩:=HEL.out k t ht
  have HT:=VR ht
  obtain ⟨Au,nu,cu,rfl,-⟩:=id hu
  have HU0:=VR (RdK.ext hu X.out)
  have HLT:=VR (HSL.out t (VD ht))
  clear ht hu
  have wi3:IntKind.i64.wrap ((k:Int))=(k:Int):=IntWalk.i64_in _ (by omega)
  have zi3:(0:Int)≤(k:Int):=by omega
  have li3:(k:Int)<(l.length:Int):=by omega
  have ti3:((k:Int)).toNat=k:=by omega
  have wk:IntKind.i64.wrap ((k:Int)+1)=(k:Int)+1:=IntWalk.i64_in _ (by omega)
  have l0:wr.cell? ⟨b,o+k*17,none⟩=some (.string (aI t.st)):=by
   have:=(X.out.cell (p:=⟨b,o+(k*17+0),none⟩) hbl).trans (hcell 0 _ rfl)
   exact this
  have l1:wr.cell? ⟨b,o+k*17+1,none⟩=some (.int .i64 t.num):=by
   have:=(X.out.cell (p:=⟨b,o+(k*17+1),none⟩) hbl).trans (hcell 1 _ rfl)
   rwa [← V4] at this
  have l2:wr.cell? ⟨b,o+k*17+2,none⟩=some (.int .i64 t.day):=by
   have:=(X.out.cell (p:=⟨b,o+(k*17+2),none⟩) hbl).trans (hcell 2 _ rfl)
   rwa [← V4] at this
  have l3:wr.cell? ⟨b,o+k*17+3,none⟩=some (.slice Au nu cu):=by
   have:=(X.out.cell (p:=⟨b,o+(k*17+3),none⟩) hbl).trans (hcell 3 _ rfl)
   rwa [← V4] at this
  have l4:wr.cell? ⟨b,o+k*17+4,none⟩=some (.string (aI t.sg.st)):=by
   have:=(X.out.cell (p:=⟨b,o+(k*17+4),none⟩) hbl).trans (hcell 4 _ rfl)
   rwa [← V4] at this
  have l5:wr.cell? ⟨b,o+k*17+5,none⟩=some (.int .i64 t.sg.kind):=by
   have:=(X.out.cell (p:=⟨b,o+(k*17+5),none⟩) hbl).trans (hcell 5 _ rfl)
   rwa [← V4] at this
  have l6:wr.cell? ⟨b,o+k*17+6,none⟩=some (.int .i64 t.sg.num):=by
   have:=(X.out.cell (p:=⟨b,o+(k*17+6),none⟩) hbl).trans (hcell 6 _ rfl)
   rwa [← V4] at this
  have l7:wr.cell? ⟨b,o+k*17+7,none⟩=some (.int .i64 t.sg.iss):=by
   have:=(X.out.cell (p:=⟨b,o+(k*17+7),none⟩) hbl).trans (hcell 7 _ rfl)
   rwa [← V4] at this
  have l8:wr.cell? ⟨b,o+k*17+8,none⟩=some (.int .i64 t.sg.own):=by
   have:=(X.out.cell (p:=⟨b,o+(k*17+8),none⟩) hbl).trans (hcell 8 _ rfl)
   rwa [← V4] at this
  have l9:wr.cell? ⟨b,o+k*17+9,none⟩=some (.int .i64 t.sg.key):=by
   have:=(X.out.cell (p:=⟨b,o+(k*17+9),none⟩) hbl).trans (hcell 9 _ rfl)
   rwa [← V4] at this
  have l10:wr.cell? ⟨b,o+k*17+10,none⟩=some (.int .i64 t.sg.fr):=by
   have:=(X.out.cell (p:=⟨b,o+(k*17+10),none⟩) hbl).trans (hcell 10 _ rfl)
   rwa [← V4] at this
  have l11:wr.cell? ⟨b,o+k*17+11,none⟩=some (.int .i64 t.sg.un):=by
   have:=(X.out.cell (p:=⟨b,o+(k*17+11),none⟩) hbl).trans (hcell 11 _ rfl)
   rwa [← V4] at this
  have l12:wr.cell? ⟨b,o+k*17+12,none⟩=some (.int .i64 t.sg.to):=by
   have:=(X.out.cell (p:=⟨b,o+(k*17+12),none⟩) hbl).trans (hcell 12 _ rfl)
   rwa [← V4] at this
  have l13:wr.cell? ⟨b,o+k*17+13,none⟩=some (.int .i64 t.sg.e):=by
   have:=(X.out.cell (p:=⟨b,o+(k*17+13),none⟩) hbl).trans (hcell 13 _ rfl)
   rwa [← V4] at this
  have l14:wr.cell? ⟨b,o+k*17+14,none⟩=some (.int .i64 t.sg.s):=by
   have:=(X.out.cell (p:=⟨b,o+(k*17+14),none⟩) hbl).trans (hcell 14 _ rfl)
   rwa [← V4] at this
  have l15:wr.cell? ⟨b,o+k*17+15,none⟩=some (.int .i64 t.e):=by
   have:=(X.out.cell (p:=⟨b,o+(k*17+15),none⟩) hbl).trans (hcell 15 _ rfl)
   rwa [← V4] at this
  have l16:wr.cell? ⟨b,o+k*17+16,none⟩=some (.int .i64 t.s):=by
   have:=(X.out.cell (p:=⟨b,o+(k*17+16),none⟩) hbl).trans (hcell 16 _ rfl)
   rwa [← V4] at this
  clear hcell
  obtain ⟨wn,hwn⟩:∃ wn,wn=wr.alloc (.cells #[.string (aI t.st),.int .i64 t.num,.int .i64 t.day,.slice Au nu cu,.string (aI t.sg.st),.int .i64 t.sg.kind,.int .i64 t.sg.num,.int .i64 t.sg.iss,.int .i64 t.sg.own,.int .i64 t.sg.key,.int .i64 t.sg.fr,.int .i64 t.sg.un,.int .i64 t.sg.to,.int .i64 t.sg.e,.int .i64 t.sg.s,.int .i64 t.e,.int .i64 t.s] 121):=⟨_,rfl⟩
  have en:Ext wr wn:=by rw [hwn];exact (Below.refl _ _).alloc (UX _) _
  have bn:wn.heap[wr.heap.size]?=some (.cells (cP t (.slice Au nu cu)).toArray 121 (0,0)):=by rw [hwn];exact aC wr _
  have HBN:=VR bn
  have HU:=VR (RdK.ext HU0.out en)
  have HON2:=VR (HO.out.ext en)
  have XN:=VR (X.out.tr en)
  go_upto_region 5 with fail
  rw [← hwn]
  clear hwn l0 l1 l2 l3 l4 l5 l6 l7 l8 l9 l10 l11 l12 l13 l14 l15 l16 HU0 HO X en bn
  unfold cP at HBN
  go_wp2_with (refine wpList_load_row rfl 121 _ rfl wr.heap.size rfl 121 #[.string (aI t.st),.int .i64 t.num,.int .i64 t.day,.slice Au nu cu,.string (aI t.sg.st),.int .i64 t.sg.kind,.int .i64 t.sg.num,.int .i64 t.sg.iss,.int .i64 t.sg.own,.int .i64 t.sg.key,.int .i64 t.sg.fr,.int .i64 t.sg.un,.int .i64 t.sg.to,.int .i64 t.sg.e,.int .i64 t.sg.s,.int .i64 t.e,.int .i64 t.s] (0,0) _ HBN.out Tryz.underlying121 rfl tO ?_)
  refine (HON.out t (.slice Au nu cu) wn HU.out HLT.out).mono ?_
  rintro e w2 ⟨A1,n1,c1,rfl,o1,b2⟩
  unfold cP
  have HO2:=VR (HON2.out.ext b2)
  have X2:=VR (XN.out.tr b2)
  have HI2:=VR (o1.mono XN.out.size)
  clear b2 o1 HU HON2 XN HBN
  have eA:Ext w2 (w2.alloc (.cells (cP t (.slice A1 n1 c1)).toArray 121)):=(Below.refl _ _).alloc (UX _) _
  have HO3:=VR (HO2.out.ext eA)
  have HI3:=VR (HI2.out.ext eA)
  have X3:=VR (X2.out.tr eA)
  have HRK:=VR (UT w2 t (.slice A1 n1 c1))
  have HPL:=VR (show k*17=(kD.cells ps).length by
   have h1:=congrArg List.length HP.out
   rw [List.length_map,VL,Nat.min_eq_left (Nat.le_of_lt hlt)] at h1
   rw [kD.cells_len,h1];rfl)
  have HONE:=VR (kD.one t (.slice A1 n1 c1) rfl)
  unfold cP at HRK HO3 HI3 X3
  clear eA
  go_wp2_with (refine bP (k:=17) (by decide) SB (n:=k) (m:=1) (B:=w.heap.size) HO3.out.1 HPL.out HRK.out (by rfl) HONE.out X3.out (by omega) (by unfold maxLen;omega) X3.out.size rfl rfl rfl rfl ?_;intro A8 n8 c8 w8 hn8 o8 x8 g8)
  obtain rfl:n8=k+1:=hn8.out
  have HO8:=VR (show fA kD w8 w.heap.size (.slice A8 (k+1) c8) (ps++[(t,.slice A1 n1 c1)]) from HO3.out.app HI3.out o8 g8)
  have HP8:=VR (show (ps++[(t,Value.slice A1 n1 c1)]).map Prod.fst=l.take (k+1) by rw [List.map_append,HP.out,List.take_succ_eq_append_getElem hlt];have:=HT.out;rw [V8 hlt] at this;rw [Option.some.inj this];rfl)
  have X8:=VR x8
  clear x8 o8 g8
  go_roundw
  case rel=>exact ⟨k+1,A8,c8,_,by omega,by go_num,rfl,HP8,HO8,X8⟩
  case measure=>simp [intOf];omega
theorem KD {P:Program}{w:World}{t ty e:TypeId}{k bytes B:Nat} (hk:0<k) (he:kE P t e k bytes) {v src:Value}{n m:Nat}{xs news:List Value} (hown:aJ w B e k v xs) (hnx:n*k=xs.length) (hr:RdK w k src news) (hmx:m*k=news.length) (hm:0<m) (h1:∀ u ∈ news,u.oneCell'=true)
 (hb:(n+m)*bytes≤140737488355328) (h63:n+m≤maxLen) (hB:B≤w.heap.size) :
 ∃ A c w',(Builtin.append_ #[t,t] ty #[v,src]).run P w=.ok (.slice A (n+m) c) w'∧aJ w' B e k (.slice A (n+m) c) (xs++news)∧w.grownBy w' (aL v)∧aJ w' B e k v xs ∧
  ∀ A1 c1 (news1:List Value),news1.length=news.length→aJ w B e k (.slice A1 (n+m) c1) (xs++news1)→aJ w' B e k (.slice A1 (n+m) c1) (xs++news1) ∨ aJ w' B e k (.slice A1 (n+m) c1) (xs++news):=by
 obtain ⟨A',c',w',r1,o1,g1,f1⟩:=nE (P:=P) (ty:=ty) hk he hown hnx hr hmx h1 hb h63 hB
 obtain ⟨i,z,ht,hi,hz,hsz,hby,hzs⟩:=he.ex
 obtain ⟨A2,m',c2,rfl,hm',hmc,hcm2,hcells⟩:=hr
 obtain rfl:m'=m:=VP hk (hm'.trans hmx.symm)
 obtain ⟨b2,o2,rfl,hc2⟩:=hcells hm
 have hnews:∀ j u,news[j]?=some u→w.cell? ((⟨b2,o2,none⟩:Addr).add j)=some u:=by
  intro j u hu
  rw [Addr.add_lit]
  exact hc2 j u hu
 refine ⟨A',c',w',r1,o1,g1,?_⟩
 have hown0:=hown
 obtain ⟨A,n',c,rfl,hn,hcase⟩:=hown
 obtain rfl:n'=n:=VP hk (hn.trans hnx.symm)
 have ext:Ext w w'→aJ w' B e k (.slice A n' c) xs∧∀ A1 c1 (news1:List Value),news1.length=news.length→aJ w B e k (.slice A1 (n'+m') c1) (xs++news1)→aJ w' B e k (.slice A1 (n'+m') c1) (xs++news1) ∨ aJ w' B e k (.slice A1 (n'+m') c1) (xs++news):=fun h=>⟨hown0.ext h,fun A1 c1 n1 _ h2=>.inl (h2.ext h)⟩
 rcases hcase with ⟨h0,hc0⟩ | ⟨g,cur,rfl,hbg,hg,hnc,hcm,hcs,htk⟩
 · subst hc0
   refine ext ((Below.refl w.heap.size w).grown g1 (UX _) fun r hr=>?_)
   cases A <;> simp [aL] at hr
 · by_cases hc0:c=0
   · subst hc0
     refine ext ((Below.refl w.heap.size w).grown g1 (UX _) fun r hr=>?_)
     simp [aL] at hr
   · by_cases hroom:n'+m'≤c
     · have hfit:n'*i.size+news.length≤cur.size:=by rw [hsz,hcs,← hmx,← Nat.add_mul];exact Nat.mul_le_mul_right _ hroom
       have r2:=run_append_room (P:=P) w t ty e i ht hi g n' c cur hg ⟨b2,o2,none⟩ m' c2 news (by rw [hsz];exact hmx.symm) hnews h1 hroom hfit
       rw [r2] at r1
       injection r1 with q1 q2
       have hw:w'.heap[g]?=some (.cells (cur.toList.take (n'*i.size)++news++cur.toList.drop (n'*i.size+news.length)).toArray e (0,0)):=by
        rw [← q2]
        exact setRow_heap w g cur _ e _ hg
       rw [hsz] at hw hfit
       have hsize:(cur.toList.take (n'*k)++news++cur.toList.drop (n'*k+news.length)).toArray.size=cur.size:=by
        simp only [List.size_toArray,V5,VL,List.length_drop,Array.length_toList]
        omega
       have htk2:cur.toList.take (n'*k)=xs:=htk
       have hl:(xs++news).length=(n'+m')*k:=by rw [V5,← hnx,← hmx,Nat.add_mul]
       refine ⟨⟨_,n',c,rfl,hn,.inr ⟨g,_,rfl,hbg,hw,hnc,hcm,by rw [hsize];exact hcs,?_⟩⟩,fun A1 c1 n1 hl1 h2=>?_⟩
       · rw [htk2,VF,hn]
         exact List.take_left
       · obtain ⟨A9,n9,c9,e9,hn9,h2⟩:=h2
         injection e9 with e1 e2 e3
         subst e1 e2 e3
         rcases h2 with h2 | ⟨g9,cur9,rfl,hb9,hg9,hnc9,hcm9,hcs9,ht9⟩
         · exact .inl ⟨_,_,_,rfl,hn9,.inl h2⟩
         · by_cases hgg:g9=g
           · subst hgg
             rw [hg] at hg9
             injection hg9 with hg9
             injection hg9 with hg9
             subst hg9
             refine .inr ⟨_,_,_,rfl,hl.symm,.inr ⟨g9,_,rfl,hbg,hw,hnc9,hcm9,by rw [hsize];exact hcs9,?_⟩⟩
             rw [htk2,← hl]
             exact List.take_left
           · refine .inl ⟨_,_,_,rfl,hn9,.inr ⟨g9,cur9,rfl,hb9,(g1.block g9 (a9 hg9) fun q=>?_).trans hg9,hnc9,hcm9,hcs9,ht9⟩⟩
             obtain ⟨c',rfl⟩:∃ c',c=c'+1:=⟨c - 1,by omega⟩
             have q:some g=some g9:=by first | exact q | exact q.symm
             injection q with q
             exact hgg q.symm
     · have holds:∀ j u,xs[j]?=some u→w.cell? ((⟨g,0,none⟩:Addr).add j)=some u:=by
        intro j u hu
        rw [Addr.add_lit]
        show w.cell? ⟨g,0+j,none⟩=_
        rw [VB,cell_of_row w g j cur e (0,0) hg]
        rw [← htk,List.getElem?_take] at hu
        split at hu
        · simpa using hu
        · cases hu
       have hbb:(n'+m')*i.bytes≤140737488355328:=by rw [hby];exact hb
       have r2:=run_append_grow (P:=P) w t ty e i z ht hi hz ⟨g,0,none⟩ n' c xs (by rw [hsz];exact hn.symm) holds ⟨b2,o2,none⟩ m' c2 news (by rw [hsz];exact hmx.symm) hnews (by omega) (by unfold maxLen at h63;omega) (growslice_fits (by omega) hbb)
       rw [r2] at r1
       injection r1 with q1 q2
       refine ext ?_
       rw [← q2]
       exact (Below.refl _ _).drew.alloc (UX _) _
def Q9 (B:Nat) (l:List NC):aE:=fun v w=>∃ s:SlT,v=slV s∧aJ w B 56 11 (slV s) (aA l)
theorem sQ (B:Nat) (l:List NC):bK (Q9 B l):=fun v w w' e ⟨s,h1,h2⟩=>⟨s,h1,h2.ext e⟩
def FQ {α:Type} (K:LK α) (B:Nat) (l:List α):aE:=fun v w=>∃ s:SlT,v=slV s∧gZ K w B (slV s) l
theorem mX {α:Type} (K:LK α) (B:Nat) (l:List α):bK (FQ K B l):=fun v w w' e ⟨s,h1,h2⟩=>⟨s,h1,h2.ext e⟩
def U0 (B:Nat) (S:ST):aE:=fun v w=>∃ s0 s1 s2 s3 s4:SlT,v=cH s0 s1 s2 s3 s4∧StO w B s0 s1 s2 s3 s4 S
theorem D8 (B:Nat) (S:ST):bK (U0 B S):=fun v w w' e ⟨s0,s1,s2,s3,s4,h1,h2⟩=>⟨s0,s1,s2,s3,s4,h1,h2.ext e⟩
theorem D9 (W:World) (s0 s1 s2 s3 s4:SlT):(Instr.build 75 [(0,slV s0),(1,slV s1),(2,slV s2),(3,slV s3),(4,slV s4)].toArray).run Tryz.prog W=.ok (cH s0 s1 s2 s3 s4) W:=by
 unfold slV cH
 go_simp
theorem DA {B:Nat}{a:Value}{l:List NC} (W:World) (ha:RdN W a l) (hl:l.length≤1000000) (hB:B≤W.heap.size):Calls Tryz.prog 201 #[a] W fun e w'=>∃ v,e=.returned v∧Ext W w'∧Q9 B l v w' :=
 (vX W ha hl).mono fun e w' ⟨A,n,c,h1,h2,h3⟩=>⟨_,h1,h3,(A,n,c),rfl,h2.mono hB⟩
def UU (w:World) (S:ST) (e:Ending) (w':World):Prop:=∃ t0 t1 t2 t3 t4:SlT,e=.returned (cH t0 t1 t2 t3 t4)∧StO w' w.heap.size t0 t1 t2 t3 t4 S∧Ext w w'
set_option maxHeartbeats 8000000 in
theorem FR (s0 s1 s2 s3 s4:SlT) (S:ST) (w:World) (hS:StR w s0 s1 s2 s3 s4 S) (hB:StB S):Calls Tryz.prog 132 #[cH s0 s1 s2 s3 s4] w (UU w S):=by
 obtain ⟨wz,hwz⟩:∃ wz,wz=(w.alloc (.cells #[.slice s0.1 s0.2.1 s0.2.2,.slice s1.1 s1.2.1 s1.2.2,.slice s2.1 s2.2.1 s2.2.2,.slice s3.1 s3.2.1 s3.2.2,.slice s4.1 s4.2.1 s4.2.2] 75)).alloc (.cells #[.slice none 0 0,.slice none 0 0,.slice none 0 0,.slice none 0 0,.slice none 0 0] 75):=⟨_,rfl⟩
 have e1:Ext w (w.alloc (.cells #[.slice s0.1 s0.2.1 s0.2.2,.slice s1.1 s1.2.1 s1.2.2,.slice s2.1 s2.2.1 s2.2.2,.slice s3.1 s3.2.1 s3.2.2,.slice s4.1 s4.2.1 s4.2.2] 75)):=(Below.refl _ _).alloc (UX _) _
 have ez:Ext w wz:=by rw [hwz];exact e1.alloc (by simp) _
 have hz:wz.heap[w.heap.size]?=some (.cells #[.slice s0.1 s0.2.1 s0.2.2,.slice s1.1 s1.2.1 s1.2.2,.slice s2.1 s2.2.1 s2.2.2,.slice s3.1 s3.2.1 s3.2.2,.slice s4.1 s4.2.1 s4.2.2] 75 (0,0)):=by
  rw [hwz]
  exact (((Below.refl _ _).alloc (UX _) _:Ext (w.alloc (.cells #[.slice s0.1 s0.2.1 s0.2.2,.slice s1.1 s1.2.1 s1.2.2,.slice s2.1 s2.2.1 s2.2.2,.slice s3.1 s3.2.1 s3.2.2,.slice s4.1 s4.2.1 s4.2.2] 75)) _).block _ (by simp)).trans (aC w _)
 have hy:wz.heap[w.heap.size+1]?=some (.cells #[.slice none 0 0,.slice none 0 0,.slice none 0 0,.slice none 0 0,.slice none 0 0] 75 (0,0)):=by
  have:=aC (w.alloc (.cells #[.slice s0.1 s0.2.1 s0.2.2,.slice s1.1 s1.2.1 s1.2.2,.slice s2.1 s2.2.1 s2.2.2,.slice s3.1 s3.2.1 s3.2.2,.slice s4.1 s4.2.1 s4.2.2] 75)) (.cells #[.slice none 0 0,.slice none 0 0,.slice none 0 0,.slice none 0 0,.slice none 0 0] 75)
  rw [show (w.alloc (.cells #[.slice s0.1 s0.2.1 s0.2.2,.slice s1.1 s1.2.1 s1.2.2,.slice s2.1 s2.2.1 s2.2.2,.slice s3.1 s3.2.1 s3.2.2,.slice s4.1 s4.2.1 s4.2.2] 75)).heap.size=w.heap.size+1 by simp] at this
  rw [hwz]
  exact this
 have hsz:wz.heap.size=w.heap.size+1+1:=by rw [hwz];simp
 have H0:=VR (fun W (e:Ext w W) (hW:wz.heap.size≤W.heap.size)=>DA (a:=slV s0) W (RdK.ext hS.r0 e) (by have:=hB.lr;omega) hW)
 have H1:=VR (fun W (e:Ext w W) (hW:wz.heap.size≤W.heap.size)=>DA (a:=slV s1) W (RdK.ext hS.r1 e) (by have:=hB.lp;omega) hW)
 have H2:=VR (fun W (e:Ext w W) (hW:wz.heap.size≤W.heap.size)=>(K3 (v:=slV s2) W (hS.r2.ext e) (by have:=hB.lm;omega) (fun a ha=>by have:=(hB.m a ha).2;omega)).mono fun e' w' ⟨A,c,h1,h2,h3⟩=>(⟨_,h1,h3,(A,_,c),rfl,h2.mono hW⟩:∃ v,e'=Ending.returned v∧Ext W w'∧FQ kM wz.heap.size S.ms v w'))
 have H3:=VR (fun W (e:Ext w W) (hW:wz.heap.size≤W.heap.size)=>(K1 (v:=slV s3) W (hS.r3.ext e) (by have:=hB.ls;omega) (fun a ha=>by have:=hB.s a ha;omega)).mono fun e' w' ⟨A,c,h1,h2,h3⟩=>(⟨_,h1,h3,(A,_,c),rfl,h2.mono hW⟩:∃ v,e'=Ending.returned v∧Ext W w'∧FQ kR wz.heap.size S.rs v w'))
 have H4:=VR (fun W (e:Ext w W) (hW:wz.heap.size≤W.heap.size)=>(K4 (v:=slV s4) W (hS.r4.ext e) (by have:=hB.ld;omega) (fun a ha=>by have:=hB.d a ha;omega)).mono fun e' w' ⟨A,c,h1,h2,h3⟩=>(⟨_,h1,h3,(A,_,c),rfl,h2.mono hW⟩:∃ v,e'=Ending.returned v∧Ext W w'∧FQ kD wz.heap.size S.ds v w'))
 have HZ:=VR hz
 have HY:=VR hy
 have EZ:=VR ez
 clear e1 ez hz hy hS hB
 unfold cH
 go_enter Tryz.func132,Tryz.ntmps132
 go_upto_region 1 with fail
 rw [← hwz]
 clear hwz
 refine Gd.aO 16 (by kernel_rfl) (by kernel_rfl) ?_
 simp only [VH,VE,VI,VJ]
 intro wq hw1
 have LL:∀ m:Lt wq,Ext wz m.1:=fun m=>hw1.tr m.2
 have LW:∀ m:Lt wq,Ext w m.1:=fun m=>EZ.out.tr (LL m)
 have k0:∀ m:Lt wq,m.1.cell? ⟨w.heap.size,0,none⟩=some (.slice s0.1 s0.2.1 s0.2.2):=fun m=>by rw [cell_of_row m.1 _ 0 _ _ _ (((LL m).block _ (a9 HZ.out)).trans HZ.out)];rfl
 have k1:∀ m:Lt wq,m.1.cell? ⟨w.heap.size,1,none⟩=some (.slice s1.1 s1.2.1 s1.2.2):=fun m=>by rw [cell_of_row m.1 _ 1 _ _ _ (((LL m).block _ (a9 HZ.out)).trans HZ.out)];rfl
 have k2:∀ m:Lt wq,m.1.cell? ⟨w.heap.size,2,none⟩=some (.slice s2.1 s2.2.1 s2.2.2):=fun m=>by rw [cell_of_row m.1 _ 2 _ _ _ (((LL m).block _ (a9 HZ.out)).trans HZ.out)];rfl
 have k3:∀ m:Lt wq,m.1.cell? ⟨w.heap.size,3,none⟩=some (.slice s3.1 s3.2.1 s3.2.2):=fun m=>by rw [cell_of_row m.1 _ 3 _ _ _ (((LL m).block _ (a9 HZ.out)).trans HZ.out)];rfl
 have k4:∀ m:Lt wq,m.1.cell? ⟨w.heap.size,4,none⟩=some (.slice s4.1 s4.2.1 s4.2.2):=fun m=>by rw [cell_of_row m.1 _ 4 _ _ _ (((LL m).block _ (a9 HZ.out)).trans HZ.out)];rfl
 have kl:∀ m:Lt wq,w.heap.size<m.1.heap.size:=fun m=>VG (a9 HZ.out) (LL m).size
 repeat (refine Gd.aD (by first | exact trivial | exact ⟨_,rfl,rfl,rfl⟩) rfl rfl rfl rfl rfl (fun K hK=>?_);go_big_quiet_op;refine hK _ ?_;clear hK K)
 refine Gd.aU (by first | exact trivial | exact ⟨_,rfl,rfl,rfl⟩) (Q9 wz.heap.size S.roots) (sQ _ _) (fun _=>[.slice s0.1 s0.2.1 s0.2.2]) rfl rfl rfl rfl rfl (by kernel_rfl) rfl (fun _=>rfl) (fun m f hf=>H0.out m.1 (LW m) (LL m).size) ?_
 simp only [Act.put,UY,UZ,V0]
 repeat (refine Gd.aD (by first | exact trivial | exact ⟨_,rfl,rfl,rfl⟩) rfl rfl rfl rfl rfl (fun K hK=>?_);go_big_quiet_op;refine hK _ ?_;clear hK K)
 refine Gd.aU (by first | exact trivial | exact ⟨_,rfl,rfl,rfl⟩) (Q9 wz.heap.size S.pool) (sQ _ _) (fun _=>[.slice s1.1 s1.2.1 s1.2.2]) rfl rfl rfl rfl rfl (by kernel_rfl) rfl (fun _=>rfl) (fun m f hf=>H1.out m.1 (LW m) (LL m).size) ?_
 simp only [Act.put,UY,UZ,V0]
 repeat (refine Gd.aD (by first | exact trivial | exact ⟨_,rfl,rfl,rfl⟩) rfl rfl rfl rfl rfl (fun K hK=>?_);go_big_quiet_op;refine hK _ ?_;clear hK K)
 refine Gd.aU (by first | exact trivial | exact ⟨_,rfl,rfl,rfl⟩) (FQ kM wz.heap.size S.ms) (mX _ _ _) (fun _=>[.slice s2.1 s2.2.1 s2.2.2,.func (.func 135) #[] #[]]) rfl rfl rfl rfl rfl (by kernel_rfl) rfl (fun _=>rfl) (fun m f hf=>H2.out m.1 (LW m) (LL m).size) ?_
 simp only [Act.put,UY,UZ,V0]
 repeat (refine Gd.aD (by first | exact trivial | exact ⟨_,rfl,rfl,rfl⟩) rfl rfl rfl rfl rfl (fun K hK=>?_);go_big_quiet_op;refine hK _ ?_;clear hK K)
 refine Gd.aU (by first | exact trivial | exact ⟨_,rfl,rfl,rfl⟩) (FQ kR wz.heap.size S.rs) (mX _ _ _) (fun _=>[.slice s3.1 s3.2.1 s3.2.2,.func (.func 160) #[] #[]]) rfl rfl rfl rfl rfl (by kernel_rfl) rfl (fun _=>rfl) (fun m f hf=>H3.out m.1 (LW m) (LL m).size) ?_
 simp only [Act.put,UY,UZ,V0]
 repeat (refine Gd.aD (by first | exact trivial | exact ⟨_,rfl,rfl,rfl⟩) rfl rfl rfl rfl rfl (fun K hK=>?_);go_big_quiet_op;refine hK _ ?_;clear hK K)
 refine Gd.aU (by first | exact trivial | exact ⟨_,rfl,rfl,rfl⟩) (FQ kD wz.heap.size S.ds) (mX _ _ _) (fun _=>[.slice s4.1 s4.2.1 s4.2.2,.func (.func 171) #[] #[]]) rfl rfl rfl rfl rfl (by kernel_rfl) rfl (fun _=>rfl) (fun m f hf=>H4.out m.1 (LW m) (LL m).size) ?_
 simp only [Act.put,UY,UZ,V0]
 refine Gd.dA (by first | exact trivial | exact ⟨_,rfl,rfl,rfl⟩) (U0 wz.heap.size S) (D8 _ _) (fun f=>[(0,f 5),(1,f 8),(2,f 11),(3,f 14),(4,f 17)]) rfl rfl rfl rfl rfl (fun _=>rfl) (fun m f hf=>?_) ?_
 · obtain ⟨t0,h0,o0⟩:=hf 5 _ rfl rfl
   obtain ⟨t1,h1,o1⟩:=hf 8 _ rfl rfl
   obtain ⟨t2,h2,o2⟩:=hf 11 _ rfl rfl
   obtain ⟨t3,h3,o3⟩:=hf 14 _ rfl rfl
   obtain ⟨t4,h4,o4⟩:=hf 17 _ rfl rfl
   rw [h0,h1,h2,h3,h4]
   exact ⟨_,_,D9 m.1 t0 t1 t2 t3 t4,Below.refl _ _,t0,t1,t2,t3,t4,rfl,o0,o1,o2,o3,o4⟩
 simp only [Act.put,UY,UZ,V0]
 refine Gd.cO (fun m f hf=>?_)
 obtain ⟨t0,t1,t2,t3,t4,e18,SO⟩:=hf 18 _ rfl
 simp only [aV]
 simp only [Act.put,UY,UZ,V0]
 rw [e18]
 have LM:=VR (LL m)
 have HSO:=VR SO
 clear hf e18 hw1 LL LW k0 k1 k2 k3 k4 kl SO H0 H1 H2 H3 H4
 generalize m.1=w2 at *
 generalize f 5=f5 at *
 generalize f 8=f8 at *
 generalize f 11=f11 at *
 generalize f 14=f14 at *
 generalize f 17=f17 at *
 clear m f
 have HY2:=VR ((LM.out.block _ (a9 HY.out)).trans HY.out)
 have H1:=VR (eG t0 t1 t2 t3 t4)
 show wpList _ _ _ _ _ _
 unfold cH
 go_wp2_with (refine aK rfl 75 _ _ rfl rfl (w.heap.size+1) (bD t0 t1 t2 t3 t4) rfl rfl 75 #[.slice none 0 0,.slice none 0 0,.slice none 0 0,.slice none 0 0,.slice none 0 0] HY2.out aY rfl H1.out ?_)
 refine bodyPost_ret (v:=cH t0 t1 t2 t3 t4) ?_ rfl ⟨t0,t1,t2,t3,t4,rfl,?_,?_⟩
 · exact results_cell_row rfl _ _ (w.heap.size+1) 75 (bD t0 t1 t2 t3 t4) (0,0) _ rfl (aZ HY2.out) Tryz.underlying75 rfl aY
 · exact (HSO.out.gbB (g:=w.heap.size+1) (by omega) (Gb.setRow _ _ _)).mono (by omega)
 · exact aQ (EZ.out.tr LM.out) (by omega) _
end Go.Proofs.YtkjplpmogfmhkaaGreatDoor
