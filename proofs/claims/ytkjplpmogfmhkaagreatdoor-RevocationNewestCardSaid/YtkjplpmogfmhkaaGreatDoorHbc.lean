/- Parts Ud Un Ui Uf Ug Uh Ue of the proof. -/
import Derived.Test.YtkjplpmogfmhkaaGreatDoorHbb
namespace Go.Proofs.YtkjplpmogfmhkaaGreatDoor
open Go.RowKit
set_option linter.unusedVariables false
set_option maxRecDepth 100000
theorem sN:kI Tryz.prog 72 103 8 88:=by
 have h:(Tryz.prog.info? 103).map (fun i=>(i.zero,i.size,i.bytes))=some (some (.agg #[.string ⟨#[]⟩,.int .i64 0,.int .i64 0,.int .i64 0,.slice none 0 0,.int .i64 0,.int .i64 0,.int .i64 0]),8,88):=by kernel_rfl
 obtain ⟨i,h1,h2,h3,h4⟩:=info_parts h
 exact ⟨i,_,Tryz.underlying72,h1,h2,h3,h4,rfl⟩
theorem PU (t:RV) (u:Value) (W:World) (hu:RdK W 1 u (aQ t.ser)) (hl:t.ser.length<=1000000):Calls Tryz.prog 160 #[.agg (aY t u).toArray] W fun e W'=>∃ A1 n1 c1,e=.returned (.agg (aY t (.slice A1 n1 c1)).toArray)/\aJ W' W.heap.size 3 1 (.slice A1 n1 c1) (aQ t.ser)/\Ext W W' :=
 (E9 t u W (RdK.r1 hu) hl).mono fun e W' ⟨A1,n1,c1,h1,h2,h3⟩=>⟨A1,n1,c1,h1,h2.k1,h3⟩
theorem VR (w:World) (t:RV) (u:Value):RdK (w.alloc (.cells (aY t u).toArray 103)) 8 (.slice (some ⟨w.heap.size,0,none⟩) 1 1) (aY t u):=by
 have:=RdK.lit w 8 (aY t u).toArray 103 1 rfl (by unfold maxLen;omega)
 simpa using this
set_option maxHeartbeats 4000000 in
theorem MY {v:Value}{l:List RV} (w:World) (hv:RdX kR w v l) (hl:l.length<=100000) (hs:∀ a ∈ l,a.ser.length<=1000000) :
 Calls Tryz.prog 203 #[v,.func (.func 160) #[] #[]] w fun e w'=>∃ A c,e=.returned (.slice A l.length c)/\hO kR w' w.heap.size (.slice A l.length c) l/\Ext w w':=by
 obtain ⟨A,n,c,rfl,hn,hnc,hcm,hel⟩:=hv.at_
 subst hn
 unfold maxLen at hcm
 have HEL:=ZH hel
 have HSL:=ZH hs
 have HON:=ZH PU
 clear hel hs hv
 go_enter Tryz.func203,Tryz.ntmps203
 go_wp2_with fail
 go_loopw [5,10] (fun out i wr=>∃ (k:Nat) (Ao:Option Addr) (co:Nat) (ps:List (RV × Value)),k<=l.length/\i=.int .i64 (k:Int)/\out=.slice Ao k co/\Hid (ps.map Prod.fst=l.take k)/\Hid (eY kR wr w.heap.size (.slice Ao k co) ps)/\Hid (Ext w wr)) (fun _ i _=>l.length - (intOf i).toNat)
 case atStart=>exact ⟨0,none,0,[],YK _,rfl,rfl,ZH rfl,ZH (eY.empty _ _ _ _),ZH (Below.refl _ _)⟩
 case round =>
  obtain ⟨k,Ao,co,ps,hk,rfl,rfl,HP,HO,X⟩:=hrel
  by_cases hlt:k<l.length
  case neg =>
   obtain rfl:k=l.length:=by omega
   have HR:Hid (hO kR wr w.heap.size (.slice Ao l.length co) l):=ZH ⟨ps,by rw [HP.out,List.take_length],HO.out⟩
   clear HP HO
   go_wp2_with fail
   go_ret
   exact ⟨_,_,rfl,HR.out,X.out⟩
  case pos =>
  obtain ⟨t,ht⟩:∃ t,l[k]?=some t:=⟨_,YL hlt⟩
  obtain ⟨b,o,rfl,hbl,u,hcell,hu⟩:=HEL.out k t ht
  have HT:=ZH ht
  obtain ⟨Au,nu,cu,rfl,-⟩:=id hu
  have HU0:=ZH (RdK.ext hu X.out)
  have HLT:=ZH (HSL.out t (YS ht))
  clear ht hu
  have wi1:IntKind.i64.wrap ((k:Int))=(k:Int):=IntWalk.i64_in _ (by omega)
  have zi1:(0:Int)<=(k:Int):=by omega
  have li1:(k:Int)<(l.length:Int):=by omega
  have ti1:((k:Int)).toNat=k:=by omega
  have wk:IntKind.i64.wrap ((k:Int)+1)=(k:Int)+1:=IntWalk.i64_in _ (by omega)
  have l0:wr.cell? ⟨b,o+k*8,none⟩=some (.string (aK t.st)):=by
   have:=(X.out.cell (p:=⟨b,o+(k*8+0),none⟩) hbl).trans (hcell 0 _ rfl)
   exact this
  have l1:wr.cell? ⟨b,o+k*8+1,none⟩=some (.int .i64 t.num):=by
   have:=(X.out.cell (p:=⟨b,o+(k*8+1),none⟩) hbl).trans (hcell 1 _ rfl)
   rwa [<- YM] at this
  have l2:wr.cell? ⟨b,o+k*8+2,none⟩=some (.int .i64 t.day):=by
   have:=(X.out.cell (p:=⟨b,o+(k*8+2),none⟩) hbl).trans (hcell 2 _ rfl)
   rwa [<- YM] at this
  have l3:wr.cell? ⟨b,o+k*8+3,none⟩=some (.int .i64 t.nxt):=by
   have:=(X.out.cell (p:=⟨b,o+(k*8+3),none⟩) hbl).trans (hcell 3 _ rfl)
   rwa [<- YM] at this
  have l4:wr.cell? ⟨b,o+k*8+4,none⟩=some (.slice Au nu cu):=by
   have:=(X.out.cell (p:=⟨b,o+(k*8+4),none⟩) hbl).trans (hcell 4 _ rfl)
   rwa [<- YM] at this
  have l5:wr.cell? ⟨b,o+k*8+5,none⟩=some (.int .i64 t.iss):=by
   have:=(X.out.cell (p:=⟨b,o+(k*8+5),none⟩) hbl).trans (hcell 5 _ rfl)
   rwa [<- YM] at this
  have l6:wr.cell? ⟨b,o+k*8+6,none⟩=some (.int .i64 t.e):=by
   have:=(X.out.cell (p:=⟨b,o+(k*8+6),none⟩) hbl).trans (hcell 6 _ rfl)
   rwa [<- YM] at this
  have l7:wr.cell? ⟨b,o+k*8+7,none⟩=some (.int .i64 t.s):=by
   have:=(X.out.cell (p:=⟨b,o+(k*8+7),none⟩) hbl).trans (hcell 7 _ rfl)
   rwa [<- YM] at this
  clear hcell
  obtain ⟨wn,hwn⟩:∃ wn,wn=wr.alloc (.cells #[.string (aK t.st),.int .i64 t.num,.int .i64 t.day,.int .i64 t.nxt,.slice Au nu cu,.int .i64 t.iss,.int .i64 t.e,.int .i64 t.s] 103):=⟨_,rfl⟩
  have en:Ext wr wn:=by rw [hwn];exact (Below.refl _ _).alloc (YF _) _
  have bn:wn.heap[wr.heap.size]?=some (.cells (aY t (.slice Au nu cu)).toArray 103 (0,0)):=by rw [hwn];exact aB wr _
  have HBN:=ZH bn
  have HU:=ZH (RdK.ext HU0.out en)
  have HON2:=ZH (HO.out.ext en)
  have XN:=ZH (X.out.tr en)
  go_upto_region 5 with fail
  rw [<- hwn]
  clear hwn l0 l1 l2 l3 l4 l5 l6 l7 HU0 HO X en bn
  unfold aY at HBN
  go_wp2_with (refine wpList_load_row rfl 103 _ rfl wr.heap.size rfl 103 #[.string (aK t.st),.int .i64 t.num,.int .i64 t.day,.int .i64 t.nxt,.slice Au nu cu,.int .i64 t.iss,.int .i64 t.e,.int .i64 t.s] (0,0) _ HBN.out Tryz.underlying103 rfl bA ?_)
  refine (HON.out t (.slice Au nu cu) wn HU.out HLT.out).mono ?_
  rintro e w2 ⟨A1,n1,c1,rfl,o1,b2⟩
  unfold aY
  have HO2:=ZH (HON2.out.ext b2)
  have X2:=ZH (XN.out.tr b2)
  have HI2:=ZH (o1.mono XN.out.size)
  clear b2 o1 HU HON2 XN HBN
  have eA:Ext w2 (w2.alloc (.cells (aY t (.slice A1 n1 c1)).toArray 103)):=(Below.refl _ _).alloc (YF _) _
  have HO3:=ZH (HO2.out.ext eA)
  have HI3:=ZH (HI2.out.ext eA)
  have X3:=ZH (X2.out.tr eA)
  have HRK:=ZH (VR w2 t (.slice A1 n1 c1))
  have HPL:=ZH (show k*8=(kR.cells ps).length by
   have h1:=congrArg List.length HP.out
   rw [List.length_map,YY,Nat.min_eq_left (Nat.le_of_lt hlt)] at h1
   rw [kR.cells_len,h1];rfl)
  have HONE:=ZH (kR.one t (.slice A1 n1 c1) rfl)
  unfold aY at HRK HO3 HI3 X3
  clear eA
  go_wp2_with (refine bL (k:=8) (by decide) sN (n:=k) (m:=1) (B:=w.heap.size) HO3.out.1 HPL.out HRK.out (by rfl) HONE.out X3.out (by omega) (by unfold maxLen;omega) X3.out.size rfl rfl rfl rfl ?_;intro A8 n8 c8 w8 hn8 o8 x8 g8)
  obtain rfl:n8=k+1:=hn8.out
  have HO8:=ZH (show eY kR w8 w.heap.size (.slice A8 (k+1) c8) (ps++[(t,.slice A1 n1 c1)]) from HO3.out.app HI3.out o8 g8)
  have HP8:=ZH (show (ps++[(t,Value.slice A1 n1 c1)]).map Prod.fst=l.take (k+1) by rw [List.map_append,HP.out,List.take_succ_eq_append_getElem hlt];have:=HT.out;rw [YL hlt] at this;rw [Option.some.inj this];rfl)
  have X8:=ZH x8
  clear x8 o8 g8
  go_roundw
  case rel=>exact ⟨k+1,A8,c8,_,by omega,by go_num,rfl,HP8,HO8,X8⟩
  case measure=>simp [intOf];omega
theorem BW:kI Tryz.prog 71 80 17 168:=by
 have h:(Tryz.prog.info? 80).map (fun i=>(i.zero,i.size,i.bytes))=some (some (.agg #[.string ⟨#[]⟩,.int .i64 0,.int .i64 0,.slice none 0 0,.string ⟨#[]⟩,.int .i64 0,.int .i64 0,.int .i64 0,.int .i64 0,.int .i64 0,.int .i64 0,.int .i64 0,.int .i64 0,.int .i64 0,.int .i64 0,.int .i64 0,.int .i64 0]),17,168):=by kernel_rfl
 obtain ⟨i,h1,h2,h3,h4⟩:=info_parts h
 exact ⟨i,_,Tryz.underlying71,h1,h2,h3,h4,rfl⟩
theorem PV (t:MA) (u:Value) (W:World) (hu:RdK W 11 u (aD t.roots)) (hl:t.roots.length<=1000000):Calls Tryz.prog 135 #[.agg (aP t u).toArray] W fun e W'=>∃ A1 n1 c1,e=.returned (.agg (aP t (.slice A1 n1 c1)).toArray)/\aJ W' W.heap.size 56 11 (.slice A1 n1 c1) (aD t.roots)/\Ext W W' :=
 F0 t u W hu hl
theorem litM (w:World) (t:MA) (u:Value):RdK (w.alloc (.cells (aP t u).toArray 80)) 17 (.slice (some ⟨w.heap.size,0,none⟩) 1 1) (aP t u):=by
 have:=RdK.lit w 17 (aP t u).toArray 80 1 rfl (by unfold maxLen;omega)
 simpa using this
set_option maxHeartbeats 4000000 in
theorem MZ {v:Value}{l:List MA} (w:World) (hv:RdX kM w v l) (hl:l.length<=100000) (hs:∀ a ∈ l,a.roots.length<=1000000) :
 Calls Tryz.prog 202 #[v,.func (.func 135) #[] #[]] w fun e w'=>∃ A c,e=.returned (.slice A l.length c)/\hO kM w' w.heap.size (.slice A l.length c) l/\Ext w w':=by
 obtain ⟨A,n,c,rfl,hn,hnc,hcm,hel⟩:=hv.at_
 subst hn
 unfold maxLen at hcm
 have HEL:=ZH hel
 have HSL:=ZH hs
 have HON:=ZH PV
 clear hel hs hv
 go_enter Tryz.func202,Tryz.ntmps202
 go_wp2_with fail
 go_loopw [5,10] (fun out i wr=>∃ (k:Nat) (Ao:Option Addr) (co:Nat) (ps:List (MA × Value)),k<=l.length/\i=.int .i64 (k:Int)/\out=.slice Ao k co/\Hid (ps.map Prod.fst=l.take k)/\Hid (eY kM wr w.heap.size (.slice Ao k co) ps)/\Hid (Ext w wr)) (fun _ i _=>l.length - (intOf i).toNat)
 case atStart=>exact ⟨0,none,0,[],YK _,rfl,rfl,ZH rfl,ZH (eY.empty _ _ _ _),ZH (Below.refl _ _)⟩
 case round =>
  obtain ⟨k,Ao,co,ps,hk,rfl,rfl,HP,HO,X⟩:=hrel
  by_cases hlt:k<l.length
  case neg =>
   obtain rfl:k=l.length:=by omega
   have HR:Hid (hO kM wr w.heap.size (.slice Ao l.length co) l):=ZH ⟨ps,by rw [HP.out,List.take_length],HO.out⟩
   clear HP HO
   go_wp2_with fail
   go_ret
   exact ⟨_,_,rfl,HR.out,X.out⟩
  case pos =>
  obtain ⟨t,ht⟩:∃ t,l[k]?=some t:=⟨_,YL hlt⟩
  obtain ⟨b,o,rfl,hbl,u,hcell,hu⟩:=HEL.out k t ht
  have HT:=ZH ht
  obtain ⟨Au,nu,cu,rfl,-⟩:=id hu
  have HU0:=ZH (RdK.ext hu X.out)
  have HLT:=ZH (HSL.out t (YS ht))
  clear ht hu
  have wi2:IntKind.i64.wrap ((k:Int))=(k:Int):=IntWalk.i64_in _ (by omega)
  have zi2:(0:Int)<=(k:Int):=by omega
  have li2:(k:Int)<(l.length:Int):=by omega
  have ti2:((k:Int)).toNat=k:=by omega
  have wk:IntKind.i64.wrap ((k:Int)+1)=(k:Int)+1:=IntWalk.i64_in _ (by omega)
  have l0:wr.cell? ⟨b,o+k*17,none⟩=some (.string (aK t.st)):=by
   have:=(X.out.cell (p:=⟨b,o+(k*17+0),none⟩) hbl).trans (hcell 0 _ rfl)
   exact this
  have l1:wr.cell? ⟨b,o+k*17+1,none⟩=some (.int .i64 t.num):=by
   have:=(X.out.cell (p:=⟨b,o+(k*17+1),none⟩) hbl).trans (hcell 1 _ rfl)
   rwa [<- YM] at this
  have l2:wr.cell? ⟨b,o+k*17+2,none⟩=some (.int .i64 t.day):=by
   have:=(X.out.cell (p:=⟨b,o+(k*17+2),none⟩) hbl).trans (hcell 2 _ rfl)
   rwa [<- YM] at this
  have l3:wr.cell? ⟨b,o+k*17+3,none⟩=some (.slice Au nu cu):=by
   have:=(X.out.cell (p:=⟨b,o+(k*17+3),none⟩) hbl).trans (hcell 3 _ rfl)
   rwa [<- YM] at this
  have l4:wr.cell? ⟨b,o+k*17+4,none⟩=some (.string (aK t.sg.st)):=by
   have:=(X.out.cell (p:=⟨b,o+(k*17+4),none⟩) hbl).trans (hcell 4 _ rfl)
   rwa [<- YM] at this
  have l5:wr.cell? ⟨b,o+k*17+5,none⟩=some (.int .i64 t.sg.kind):=by
   have:=(X.out.cell (p:=⟨b,o+(k*17+5),none⟩) hbl).trans (hcell 5 _ rfl)
   rwa [<- YM] at this
  have l6:wr.cell? ⟨b,o+k*17+6,none⟩=some (.int .i64 t.sg.num):=by
   have:=(X.out.cell (p:=⟨b,o+(k*17+6),none⟩) hbl).trans (hcell 6 _ rfl)
   rwa [<- YM] at this
  have l7:wr.cell? ⟨b,o+k*17+7,none⟩=some (.int .i64 t.sg.iss):=by
   have:=(X.out.cell (p:=⟨b,o+(k*17+7),none⟩) hbl).trans (hcell 7 _ rfl)
   rwa [<- YM] at this
  have l8:wr.cell? ⟨b,o+k*17+8,none⟩=some (.int .i64 t.sg.own):=by
   have:=(X.out.cell (p:=⟨b,o+(k*17+8),none⟩) hbl).trans (hcell 8 _ rfl)
   rwa [<- YM] at this
  have l9:wr.cell? ⟨b,o+k*17+9,none⟩=some (.int .i64 t.sg.key):=by
   have:=(X.out.cell (p:=⟨b,o+(k*17+9),none⟩) hbl).trans (hcell 9 _ rfl)
   rwa [<- YM] at this
  have l10:wr.cell? ⟨b,o+k*17+10,none⟩=some (.int .i64 t.sg.fr):=by
   have:=(X.out.cell (p:=⟨b,o+(k*17+10),none⟩) hbl).trans (hcell 10 _ rfl)
   rwa [<- YM] at this
  have l11:wr.cell? ⟨b,o+k*17+11,none⟩=some (.int .i64 t.sg.un):=by
   have:=(X.out.cell (p:=⟨b,o+(k*17+11),none⟩) hbl).trans (hcell 11 _ rfl)
   rwa [<- YM] at this
  have l12:wr.cell? ⟨b,o+k*17+12,none⟩=some (.int .i64 t.sg.to):=by
   have:=(X.out.cell (p:=⟨b,o+(k*17+12),none⟩) hbl).trans (hcell 12 _ rfl)
   rwa [<- YM] at this
  have l13:wr.cell? ⟨b,o+k*17+13,none⟩=some (.int .i64 t.sg.e):=by
   have:=(X.out.cell (p:=⟨b,o+(k*17+13),none⟩) hbl).trans (hcell 13 _ rfl)
   rwa [<- YM] at this
  have l14:wr.cell? ⟨b,o+k*17+14,none⟩=some (.int .i64 t.sg.s):=by
   have:=(X.out.cell (p:=⟨b,o+(k*17+14),none⟩) hbl).trans (hcell 14 _ rfl)
   rwa [<- YM] at this
  have l15:wr.cell? ⟨b,o+k*17+15,none⟩=some (.int .i64 t.e):=by
   have:=(X.out.cell (p:=⟨b,o+(k*17+15),none⟩) hbl).trans (hcell 15 _ rfl)
   rwa [<- YM] at this
  have l16:wr.cell? ⟨b,o+k*17+16,none⟩=some (.int .i64 t.s):=by
   have:=(X.out.cell (p:=⟨b,o+(k*17+16),none⟩) hbl).trans (hcell 16 _ rfl)
   rwa [<- YM] at this
  clear hcell
  obtain ⟨wn,hwn⟩:∃ wn,wn=wr.alloc (.cells #[.string (aK t.st),.int .i64 t.num,.int .i64 t.day,.slice Au nu cu,.string (aK t.sg.st),.int .i64 t.sg.kind,.int .i64 t.sg.num,.int .i64 t.sg.iss,.int .i64 t.sg.own,.int .i64 t.sg.key,.int .i64 t.sg.fr,.int .i64 t.sg.un,.int .i64 t.sg.to,.int .i64 t.sg.e,.int .i64 t.sg.s,.int .i64 t.e,.int .i64 t.s] 80):=⟨_,rfl⟩
  have en:Ext wr wn:=by rw [hwn];exact (Below.refl _ _).alloc (YF _) _
  have bn:wn.heap[wr.heap.size]?=some (.cells (aP t (.slice Au nu cu)).toArray 80 (0,0)):=by rw [hwn];exact aB wr _
  have HBN:=ZH bn
  have HU:=ZH (RdK.ext HU0.out en)
  have HON2:=ZH (HO.out.ext en)
  have XN:=ZH (X.out.tr en)
  go_upto_region 5 with fail
  rw [<- hwn]
  clear hwn l0 l1 l2 l3 l4 l5 l6 l7 l8 l9 l10 l11 l12 l13 l14 l15 l16 HU0 HO X en bn
  unfold aP at HBN
  go_wp2_with (refine wpList_load_row rfl 80 _ rfl wr.heap.size rfl 80 #[.string (aK t.st),.int .i64 t.num,.int .i64 t.day,.slice Au nu cu,.string (aK t.sg.st),.int .i64 t.sg.kind,.int .i64 t.sg.num,.int .i64 t.sg.iss,.int .i64 t.sg.own,.int .i64 t.sg.key,.int .i64 t.sg.fr,.int .i64 t.sg.un,.int .i64 t.sg.to,.int .i64 t.sg.e,.int .i64 t.sg.s,.int .i64 t.e,.int .i64 t.s] (0,0) _ HBN.out Tryz.underlying80 rfl cP ?_)
  refine (HON.out t (.slice Au nu cu) wn HU.out HLT.out).mono ?_
  rintro e w2 ⟨A1,n1,c1,rfl,o1,b2⟩
  unfold aP
  have HO2:=ZH (HON2.out.ext b2)
  have X2:=ZH (XN.out.tr b2)
  have HI2:=ZH (o1.mono XN.out.size)
  clear b2 o1 HU HON2 XN HBN
  have eA:Ext w2 (w2.alloc (.cells (aP t (.slice A1 n1 c1)).toArray 80)):=(Below.refl _ _).alloc (YF _) _
  have HO3:=ZH (HO2.out.ext eA)
  have HI3:=ZH (HI2.out.ext eA)
  have X3:=ZH (X2.out.tr eA)
  have HRK:=ZH (litM w2 t (.slice A1 n1 c1))
  have HPL:=ZH (show k*17=(kM.cells ps).length by
   have h1:=congrArg List.length HP.out
   rw [List.length_map,YY,Nat.min_eq_left (Nat.le_of_lt hlt)] at h1
   rw [kM.cells_len,h1];rfl)
  have HONE:=ZH (kM.one t (.slice A1 n1 c1) rfl)
  unfold aP at HRK HO3 HI3 X3
  clear eA
  go_wp2_with (refine bL (k:=17) (by decide) BW (n:=k) (m:=1) (B:=w.heap.size) HO3.out.1 HPL.out HRK.out (by rfl) HONE.out X3.out (by omega) (by unfold maxLen;omega) X3.out.size rfl rfl rfl rfl ?_;intro A8 n8 c8 w8 hn8 o8 x8 g8)
  obtain rfl:n8=k+1:=hn8.out
  have HO8:=ZH (show eY kM w8 w.heap.size (.slice A8 (k+1) c8) (ps++[(t,.slice A1 n1 c1)]) from HO3.out.app HI3.out o8 g8)
  have HP8:=ZH (show (ps++[(t,Value.slice A1 n1 c1)]).map Prod.fst=l.take (k+1) by rw [List.map_append,HP.out,List.take_succ_eq_append_getElem hlt];have:=HT.out;rw [YL hlt] at this;rw [Option.some.inj this];rfl)
  have X8:=ZH x8
  clear x8 o8 g8
  go_roundw
  case rel=>exact ⟨k+1,A8,c8,_,by omega,by go_num,rfl,HP8,HO8,X8⟩
  case measure=>simp [intOf];omega
theorem VS:kI Tryz.prog 73 121 17 168:=by
 have h:(Tryz.prog.info? 121).map (fun i=>(i.zero,i.size,i.bytes))=some (some (.agg #[.string ⟨#[]⟩,.int .i64 0,.int .i64 0,.slice none 0 0,.string ⟨#[]⟩,.int .i64 0,.int .i64 0,.int .i64 0,.int .i64 0,.int .i64 0,.int .i64 0,.int .i64 0,.int .i64 0,.int .i64 0,.int .i64 0,.int .i64 0,.int .i64 0]),17,168):=by kernel_rfl
 obtain ⟨i,h1,h2,h3,h4⟩:=info_parts h
 exact ⟨i,_,Tryz.underlying73,h1,h2,h3,h4,rfl⟩
theorem PW (t:DV) (u:Value) (W:World) (hu:RdK W 5 u (hU t.defs)) (hl:t.defs.length<=1000000):Calls Tryz.prog 171 #[.agg (d9 t u).toArray] W fun e W'=>∃ A1 n1 c1,e=.returned (.agg (d9 t (.slice A1 n1 c1)).toArray)/\aJ W' W.heap.size 177 5 (.slice A1 n1 c1) (hU t.defs)/\Ext W W' :=
 PT t u W hu hl
theorem YB (w:World) (t:DV) (u:Value):RdK (w.alloc (.cells (d9 t u).toArray 121)) 17 (.slice (some ⟨w.heap.size,0,none⟩) 1 1) (d9 t u):=by
 have:=RdK.lit w 17 (d9 t u).toArray 121 1 rfl (by unfold maxLen;omega)
 simpa using this
set_option maxHeartbeats 4000000 in
theorem N0 {v:Value}{l:List DV} (w:World) (hv:RdX kD w v l) (hl:l.length<=100000) (hs:∀ a ∈ l,a.defs.length<=1000000) :
 Calls Tryz.prog 204 #[v,.func (.func 171) #[] #[]] w fun e w'=>∃ A c,e=.returned (.slice A l.length c)/\hO kD w' w.heap.size (.slice A l.length c) l/\Ext w w':=by
 obtain ⟨A,n,c,rfl,hn,hnc,hcm,hel⟩:=hv.at_
 subst hn
 unfold maxLen at hcm
 have HEL:=ZH hel
 have HSL:=ZH hs
 have HON:=ZH PW
 clear hel hs hv
 go_enter Tryz.func204,Tryz.ntmps204
 go_wp2_with fail
 go_loopw [5,10] (fun out i wr=>∃ (k:Nat) (Ao:Option Addr) (co:Nat) (ps:List (DV × Value)),k<=l.length/\i=.int .i64 (k:Int)/\out=.slice Ao k co/\Hid (ps.map Prod.fst=l.take k)/\Hid (eY kD wr w.heap.size (.slice Ao k co) ps)/\Hid (Ext w wr)) (fun _ i _=>l.length - (intOf i).toNat)
 case atStart=>exact ⟨0,none,0,[],YK _,rfl,rfl,ZH rfl,ZH (eY.empty _ _ _ _),ZH (Below.refl _ _)⟩
 case round =>
  obtain ⟨k,Ao,co,ps,hk,rfl,rfl,HP,HO,X⟩:=hrel
  by_cases hlt:k<l.length
  case neg =>
   obtain rfl:k=l.length:=by omega
   have HR:Hid (hO kD wr w.heap.size (.slice Ao l.length co) l):=ZH ⟨ps,by rw [HP.out,List.take_length],HO.out⟩
   clear HP HO
   go_wp2_with fail
   go_ret
   exact ⟨_,_,rfl,HR.out,X.out⟩
  case pos =>
  obtain ⟨t,ht⟩:∃ t,l[k]?=some t:=⟨_,YL hlt⟩
  obtain ⟨b,o,rfl,hbl,u,hcell,hu⟩:=HEL.out k t ht
  have HT:=ZH ht
  obtain ⟨Au,nu,cu,rfl,-⟩:=id hu
  have HU0:=ZH (RdK.ext hu X.out)
  have HLT:=ZH (HSL.out t (YS ht))
  clear ht hu
  have wi3:IntKind.i64.wrap ((k:Int))=(k:Int):=IntWalk.i64_in _ (by omega)
  have zi3:(0:Int)<=(k:Int):=by omega
  have li3:(k:Int)<(l.length:Int):=by omega
  have ti3:((k:Int)).toNat=k:=by omega
  have wk:IntKind.i64.wrap ((k:Int)+1)=(k:Int)+1:=IntWalk.i64_in _ (by omega)
  have l0:wr.cell? ⟨b,o+k*17,none⟩=some (.string (aK t.st)):=by
   have:=(X.out.cell (p:=⟨b,o+(k*17+0),none⟩) hbl).trans (hcell 0 _ rfl)
   exact this
  have l1:wr.cell? ⟨b,o+k*17+1,none⟩=some (.int .i64 t.num):=by
   have:=(X.out.cell (p:=⟨b,o+(k*17+1),none⟩) hbl).trans (hcell 1 _ rfl)
   rwa [<- YM] at this
  have l2:wr.cell? ⟨b,o+k*17+2,none⟩=some (.int .i64 t.day):=by
   have:=(X.out.cell (p:=⟨b,o+(k*17+2),none⟩) hbl).trans (hcell 2 _ rfl)
   rwa [<- YM] at this
  have l3:wr.cell? ⟨b,o+k*17+3,none⟩=some (.slice Au nu cu):=by
   have:=(X.out.cell (p:=⟨b,o+(k*17+3),none⟩) hbl).trans (hcell 3 _ rfl)
   rwa [<- YM] at this
  have l4:wr.cell? ⟨b,o+k*17+4,none⟩=some (.string (aK t.sg.st)):=by
   have:=(X.out.cell (p:=⟨b,o+(k*17+4),none⟩) hbl).trans (hcell 4 _ rfl)
   rwa [<- YM] at this
  have l5:wr.cell? ⟨b,o+k*17+5,none⟩=some (.int .i64 t.sg.kind):=by
   have:=(X.out.cell (p:=⟨b,o+(k*17+5),none⟩) hbl).trans (hcell 5 _ rfl)
   rwa [<- YM] at this
  have l6:wr.cell? ⟨b,o+k*17+6,none⟩=some (.int .i64 t.sg.num):=by
   have:=(X.out.cell (p:=⟨b,o+(k*17+6),none⟩) hbl).trans (hcell 6 _ rfl)
   rwa [<- YM] at this
  have l7:wr.cell? ⟨b,o+k*17+7,none⟩=some (.int .i64 t.sg.iss):=by
   have:=(X.out.cell (p:=⟨b,o+(k*17+7),none⟩) hbl).trans (hcell 7 _ rfl)
   rwa [<- YM] at this
  have l8:wr.cell? ⟨b,o+k*17+8,none⟩=some (.int .i64 t.sg.own):=by
   have:=(X.out.cell (p:=⟨b,o+(k*17+8),none⟩) hbl).trans (hcell 8 _ rfl)
   rwa [<- YM] at this
  have l9:wr.cell? ⟨b,o+k*17+9,none⟩=some (.int .i64 t.sg.key):=by
   have:=(X.out.cell (p:=⟨b,o+(k*17+9),none⟩) hbl).trans (hcell 9 _ rfl)
   rwa [<- YM] at this
  have l10:wr.cell? ⟨b,o+k*17+10,none⟩=some (.int .i64 t.sg.fr):=by
   have:=(X.out.cell (p:=⟨b,o+(k*17+10),none⟩) hbl).trans (hcell 10 _ rfl)
   rwa [<- YM] at this
  have l11:wr.cell? ⟨b,o+k*17+11,none⟩=some (.int .i64 t.sg.un):=by
   have:=(X.out.cell (p:=⟨b,o+(k*17+11),none⟩) hbl).trans (hcell 11 _ rfl)
   rwa [<- YM] at this
  have l12:wr.cell? ⟨b,o+k*17+12,none⟩=some (.int .i64 t.sg.to):=by
   have:=(X.out.cell (p:=⟨b,o+(k*17+12),none⟩) hbl).trans (hcell 12 _ rfl)
   rwa [<- YM] at this
  have l13:wr.cell? ⟨b,o+k*17+13,none⟩=some (.int .i64 t.sg.e):=by
   have:=(X.out.cell (p:=⟨b,o+(k*17+13),none⟩) hbl).trans (hcell 13 _ rfl)
   rwa [<- YM] at this
  have l14:wr.cell? ⟨b,o+k*17+14,none⟩=some (.int .i64 t.sg.s):=by
   have:=(X.out.cell (p:=⟨b,o+(k*17+14),none⟩) hbl).trans (hcell 14 _ rfl)
   rwa [<- YM] at this
  have l15:wr.cell? ⟨b,o+k*17+15,none⟩=some (.int .i64 t.e):=by
   have:=(X.out.cell (p:=⟨b,o+(k*17+15),none⟩) hbl).trans (hcell 15 _ rfl)
   rwa [<- YM] at this
  have l16:wr.cell? ⟨b,o+k*17+16,none⟩=some (.int .i64 t.s):=by
   have:=(X.out.cell (p:=⟨b,o+(k*17+16),none⟩) hbl).trans (hcell 16 _ rfl)
   rwa [<- YM] at this
  clear hcell
  obtain ⟨wn,hwn⟩:∃ wn,wn=wr.alloc (.cells #[.string (aK t.st),.int .i64 t.num,.int .i64 t.day,.slice Au nu cu,.string (aK t.sg.st),.int .i64 t.sg.kind,.int .i64 t.sg.num,.int .i64 t.sg.iss,.int .i64 t.sg.own,.int .i64 t.sg.key,.int .i64 t.sg.fr,.int .i64 t.sg.un,.int .i64 t.sg.to,.int .i64 t.sg.e,.int .i64 t.sg.s,.int .i64 t.e,.int .i64 t.s] 121):=⟨_,rfl⟩
  have en:Ext wr wn:=by rw [hwn];exact (Below.refl _ _).alloc (YF _) _
  have bn:wn.heap[wr.heap.size]?=some (.cells (d9 t (.slice Au nu cu)).toArray 121 (0,0)):=by rw [hwn];exact aB wr _
  have HBN:=ZH bn
  have HU:=ZH (RdK.ext HU0.out en)
  have HON2:=ZH (HO.out.ext en)
  have XN:=ZH (X.out.tr en)
  go_upto_region 5 with fail
  rw [<- hwn]
  clear hwn l0 l1 l2 l3 l4 l5 l6 l7 l8 l9 l10 l11 l12 l13 l14 l15 l16 HU0 HO X en bn
  unfold d9 at HBN
  go_wp2_with (refine wpList_load_row rfl 121 _ rfl wr.heap.size rfl 121 #[.string (aK t.st),.int .i64 t.num,.int .i64 t.day,.slice Au nu cu,.string (aK t.sg.st),.int .i64 t.sg.kind,.int .i64 t.sg.num,.int .i64 t.sg.iss,.int .i64 t.sg.own,.int .i64 t.sg.key,.int .i64 t.sg.fr,.int .i64 t.sg.un,.int .i64 t.sg.to,.int .i64 t.sg.e,.int .i64 t.sg.s,.int .i64 t.e,.int .i64 t.s] (0,0) _ HBN.out Tryz.underlying121 rfl uL ?_)
  refine (HON.out t (.slice Au nu cu) wn HU.out HLT.out).mono ?_
  rintro e w2 ⟨A1,n1,c1,rfl,o1,b2⟩
  unfold d9
  have HO2:=ZH (HON2.out.ext b2)
  have X2:=ZH (XN.out.tr b2)
  have HI2:=ZH (o1.mono XN.out.size)
  clear b2 o1 HU HON2 XN HBN
  have eA:Ext w2 (w2.alloc (.cells (d9 t (.slice A1 n1 c1)).toArray 121)):=(Below.refl _ _).alloc (YF _) _
  have HO3:=ZH (HO2.out.ext eA)
  have HI3:=ZH (HI2.out.ext eA)
  have X3:=ZH (X2.out.tr eA)
  have HRK:=ZH (YB w2 t (.slice A1 n1 c1))
  have HPL:=ZH (show k*17=(kD.cells ps).length by
   have h1:=congrArg List.length HP.out
   rw [List.length_map,YY,Nat.min_eq_left (Nat.le_of_lt hlt)] at h1
   rw [kD.cells_len,h1];rfl)
  have HONE:=ZH (kD.one t (.slice A1 n1 c1) rfl)
  unfold d9 at HRK HO3 HI3 X3
  clear eA
  go_wp2_with (refine bL (k:=17) (by decide) VS (n:=k) (m:=1) (B:=w.heap.size) HO3.out.1 HPL.out HRK.out (by rfl) HONE.out X3.out (by omega) (by unfold maxLen;omega) X3.out.size rfl rfl rfl rfl ?_;intro A8 n8 c8 w8 hn8 o8 x8 g8)
  obtain rfl:n8=k+1:=hn8.out
  have HO8:=ZH (show eY kD w8 w.heap.size (.slice A8 (k+1) c8) (ps++[(t,.slice A1 n1 c1)]) from HO3.out.app HI3.out o8 g8)
  have HP8:=ZH (show (ps++[(t,Value.slice A1 n1 c1)]).map Prod.fst=l.take (k+1) by rw [List.map_append,HP.out,List.take_succ_eq_append_getElem hlt];have:=HT.out;rw [YL hlt] at this;rw [Option.some.inj this];rfl)
  have X8:=ZH x8
  clear x8 o8 g8
  go_roundw
  case rel=>exact ⟨k+1,A8,c8,_,by omega,by go_num,rfl,HP8,HO8,X8⟩
  case measure=>simp [intOf];omega
theorem N1 {P:Program}{w:World}{t ty e:TypeId}{k bytes B:Nat} (hk:0<k) (he:kI P t e k bytes) {v src:Value}{n m:Nat}{xs news:List Value} (hown:aJ w B e k v xs) (hnx:n*k=xs.length) (hr:RdK w k src news) (hmx:m*k=news.length) (hm:0<m) (h1:∀ u ∈ news,u.oneCell'=true)
 (hb:(n+m)*bytes<=140737488355328) (h63:n+m<=maxLen) (hB:B<=w.heap.size) :
 ∃ A c w',(Builtin.append_ #[t,t] ty #[v,src]).run P w=.ok (.slice A (n+m) c) w'/\aJ w' B e k (.slice A (n+m) c) (xs++news)/\w.grownBy w' (aO v)/\aJ w' B e k v xs /\
  ∀ A1 c1 (news1:List Value),news1.length=news.length->aJ w B e k (.slice A1 (n+m) c1) (xs++news1)->aJ w' B e k (.slice A1 (n+m) c1) (xs++news1) \/ aJ w' B e k (.slice A1 (n+m) c1) (xs++news):=by
 obtain ⟨A',c',w',r1,o1,g1,f1⟩:=nX (P:=P) (ty:=ty) hk he hown hnx hr hmx h1 hb h63 hB
 obtain ⟨i,z,ht,hi,hz,hsz,hby,hzs⟩:=he.ex
 obtain ⟨A2,m',c2,rfl,hm',hmc,hcm2,hcells⟩:=hr
 obtain rfl:m'=m:=ZD hk (hm'.trans hmx.symm)
 obtain ⟨b2,o2,rfl,hc2⟩:=hcells hm
 have hnews:∀ j u,news[j]?=some u->w.cell? ((⟨b2,o2,none⟩:Addr).add j)=some u:=by
  intro j u hu
  rw [Addr.add_lit]
  exact hc2 j u hu
 refine ⟨A',c',w',r1,o1,g1,?_⟩
 have hown0:=hown
 obtain ⟨A,n',c,rfl,hn,hcase⟩:=hown
 obtain rfl:n'=n:=ZD hk (hn.trans hnx.symm)
 have ext:Ext w w'->aJ w' B e k (.slice A n' c) xs/\∀ A1 c1 (news1:List Value),news1.length=news.length->aJ w B e k (.slice A1 (n'+m') c1) (xs++news1)->aJ w' B e k (.slice A1 (n'+m') c1) (xs++news1) \/ aJ w' B e k (.slice A1 (n'+m') c1) (xs++news):=fun h=>⟨hown0.ext h,fun A1 c1 n1 _ h2=>.inl (h2.ext h)⟩
 rcases hcase with ⟨h0,hc0⟩ | ⟨g,cur,rfl,hbg,hg,hnc,hcm,hcs,htk⟩
 · subst hc0
   refine ext ((Below.refl w.heap.size w).grown g1 (YF _) fun r hr=>?_)
   cases A <;> simp [aO] at hr
 · by_cases hc0:c=0
   · subst hc0
     refine ext ((Below.refl w.heap.size w).grown g1 (YF _) fun r hr=>?_)
     simp [aO] at hr
   · by_cases hroom:n'+m'<=c
     · have hfit:n'*i.size+news.length<=cur.size:=by rw [hsz,hcs,<- hmx,<- Nat.add_mul];exact Nat.mul_le_mul_right _ hroom
       have r2:=run_append_room (P:=P) w t ty e i ht hi g n' c cur hg ⟨b2,o2,none⟩ m' c2 news (by rw [hsz];exact hmx.symm) hnews h1 hroom hfit
       rw [r2] at r1
       injection r1 with q1 q2
       have hw:w'.heap[g]?=some (.cells (cur.toList.take (n'*i.size)++news++cur.toList.drop (n'*i.size+news.length)).toArray e (0,0)):=by
        rw [<- q2]
        exact setRow_heap w g cur _ e _ hg
       rw [hsz] at hw hfit
       have hsize:(cur.toList.take (n'*k)++news++cur.toList.drop (n'*k+news.length)).toArray.size=cur.size:=by
        simp only [List.size_toArray,YJ,YY,List.length_drop,Array.length_toList]
        omega
       have htk2:cur.toList.take (n'*k)=xs:=htk
       have hl:(xs++news).length=(n'+m')*k:=by rw [YJ,<- hnx,<- hmx,Nat.add_mul]
       refine ⟨⟨_,n',c,rfl,hn,.inr ⟨g,_,rfl,hbg,hw,hnc,hcm,by rw [hsize];exact hcs,?_⟩⟩,fun A1 c1 n1 hl1 h2=>?_⟩
       · rw [htk2,YW,hn]
         exact List.take_left
       · obtain ⟨A9,n9,c9,e9,hn9,h2⟩:=h2
         injection e9 with e1 e2 e3
         subst e1 e2 e3
         rcases h2 with h2 | ⟨g9,cur9,rfl,hb9,hg9,hnc9,hcm9,hcs9,ht9⟩
         · exact .inl ⟨_,_,_,rfl,hn9,.inl h2⟩
         · by_cases hgg:g9=g
           · subst hgg
             rw [hg] at hg9
             injection hg9 with hg9
             injection hg9 with hg9
             subst hg9
             refine .inr ⟨_,_,_,rfl,hl.symm,.inr ⟨g9,_,rfl,hbg,hw,hnc9,hcm9,by rw [hsize];exact hcs9,?_⟩⟩
             rw [htk2,<- hl]
             exact List.take_left
           · refine .inl ⟨_,_,_,rfl,hn9,.inr ⟨g9,cur9,rfl,hb9,(g1.block g9 (aA hg9) fun q=>?_).trans hg9,hnc9,hcm9,hcs9,ht9⟩⟩
             obtain ⟨c',rfl⟩:∃ c',c=c'+1:=⟨c - 1,by omega⟩
             have q:some g=some g9:=by first | exact q | exact q.symm
             injection q with q
             exact hgg q.symm
     · have holds:∀ j u,xs[j]?=some u->w.cell? ((⟨g,0,none⟩:Addr).add j)=some u:=by
        intro j u hu
        rw [Addr.add_lit]
        show w.cell? ⟨g,0+j,none⟩=_
        rw [YR,cell_of_row w g j cur e (0,0) hg]
        rw [<- htk,List.getElem?_take] at hu
        split at hu
        · simpa using hu
        · cases hu
       have hbb:(n'+m')*i.bytes<=140737488355328:=by rw [hby];exact hb
       have r2:=run_append_grow (P:=P) w t ty e i z ht hi hz ⟨g,0,none⟩ n' c xs (by rw [hsz];exact hn.symm) holds ⟨b2,o2,none⟩ m' c2 news (by rw [hsz];exact hmx.symm) hnews (by omega) (by unfold maxLen at h63;omega) (growslice_fits (by omega) hbb)
       rw [r2] at r1
       injection r1 with q1 q2
       refine ext ?_
       rw [<- q2]
       exact (Below.refl _ _).drew.alloc (YF _) _
def ApG (B n:Nat) (xs:List Value) (r:RV) (A:Option Addr) (c:Nat) (w:World):Prop:=∃ u,aJ w B 103 8 (.slice A (n+1) c) (xs++aY r u)/\aJ w B 3 1 u (aQ r.ser)
structure PX (B:Nat) (v:Value) (n:Nat) (xs:List Value) (r:RV) (w w':World):Prop where
 g:w.grownBy w' (aO v)
 p1:aJ w B 103 8 v xs->aJ w' B 103 8 v xs
 p2:aJ w B 103 8 v xs->∀ u,aJ w B 3 1 u (aQ r.ser)->aJ w' B 3 1 u (aQ r.ser)
 p3:aJ w B 103 8 v xs->∀ A c,ApG B n xs r A c w->ApG B n xs r A c w'
def apR (B:Nat) (v:Value) (n:Nat) (xs:List Value) (r:RV):Gr.Rl where
 rel:=fun w w'=>aJ w B 103 8 v xs->PX B v n xs r w w'
 refl:=fun w _=>⟨World.grownBy.refl _ _,id,fun _ _ h=>h,fun _ _ _ h=>h⟩
 tr:=fun h k q=>⟨World.grownBy.trans (h q).g (k ((h q).p1 q)).g,fun o=>(k ((h q).p1 q)).p1 ((h q).p1 o),fun o u x=>(k ((h q).p1 q)).p2 ((h q).p1 q) u ((h q).p2 q u x),fun o A c x=>(k ((h q).p1 q)).p3 ((h q).p1 q) A c ((h q).p3 q A c x)⟩
 ext:=fun e _=>⟨⟨e.os,e.tape,e.output,e.size,fun k hk _=>e.block k hk⟩,fun o=>o.ext e,fun _ u x=>x.ext e,fun _ A c ⟨u,h1,h2⟩=>⟨u,h1.ext e,h2.ext e⟩⟩
theorem TG {B:Nat}{v:Value}{n:Nat}{xs:List Value}{r:RV}{ty:TypeId}{w:World}{src u:Value} (o:aJ w B 103 8 v xs) (hn:n*8=xs.length) (hr:RdK w 8 src (aY r u)) (hu:aJ w B 3 1 u (aQ r.ser)) (h15:n<=1000) (hB:B<=w.heap.size) :
 ∃ A c w',(Builtin.append_ #[72,72] ty #[v,src]).run Tryz.prog w=.ok (.slice A (n+1) c) w'/\PX B v n xs r w w'/\ApG B n xs r A c w':=by
 obtain ⟨A,c,w',q1,q2,q3,q4,q5⟩:=N1 (P:=Tryz.prog) (ty:=ty) (k:=8) (by decide) sN o hn hr (m:=1) rfl (by decide) (kR.one r u (by obtain ⟨A9,n9,c9,e9,_⟩:=hu;rw [e9];rfl)) (by omega) (by unfold maxLen;omega) hB
 have hu':aJ w' B 3 1 u (aQ r.ser):=hu.grown q3 (o.row_ne hu (by decide))
 refine ⟨A,c,w',q1,⟨q3,fun _=>q4,fun _ x hx=>hx.grown q3 (o.row_ne hx (by decide)),fun _ A1 c1 ⟨x,h1,h2⟩=>?_⟩,u,q2,hu'⟩
 rcases q5 A1 c1 (aY r x) rfl h1 with h | h
 · exact ⟨x,h,h2.grown q3 (o.row_ne h2 (by decide))⟩
 · exact ⟨u,h,hu'⟩
def GvA (B:Nat) (v0:Value) (xs:List Value) (r:RV):aE:=fun v w=>aJ w B 103 8 v0 xs/\∃ A n c,v=rvV r (.slice A n c)/\aJ w B 3 1 (.slice A n c) (aQ r.ser)
def GlA (B b0:Nat) (v0:Value) (xs:List Value) (r:RV):aE:=fun v w=>aJ w B 103 8 v0 xs/\∃ g u,v=.slice (some ⟨g,0,none⟩) 1 1/\b0<=g/\w.heap[g]?=some (.cells (aY r u).toArray 103 (0,0))/\aJ w B 3 1 u (aQ r.ser)
def GaA (B:Nat) (v0:Value) (n:Nat) (xs:List Value) (r:RV):aE:=fun v w=>aJ w B 103 8 v0 xs/\∃ A c,v=.slice A (n+1) c/\ApG B n xs r A c w
theorem IB (B:Nat) (v0:Value) (n:Nat) (xs:List Value) (r:RV):(apR B v0 n xs r).stable (GvA B v0 xs r):=fun v w w' q ⟨o,A,m,c,h1,h2⟩=>⟨(q o).p1 o,A,m,c,h1,(q o).p2 o _ h2⟩
theorem IC {B b0:Nat}{v0:Value} (hb:∀ k,aO v0=some k->k<b0) (n:Nat) (xs:List Value) (r:RV):(apR B v0 n xs r).stable (GlA B b0 v0 xs r):=fun v w w' q ⟨o,g,u,h1,h2,h3,h4⟩ =>
 ⟨(q o).p1 o,g,u,h1,h2,((q o).g.block g (aA h3) (fun e=>by have:=hb g e.symm;omega)).trans h3,(q o).p2 o _ h4⟩
theorem ID (B:Nat) (v0:Value) (n:Nat) (xs:List Value) (r:RV):(apR B v0 n xs r).stable (GaA B v0 n xs r):=fun v w w' q ⟨o,A,c,h1,h2⟩=>⟨(q o).p1 o,A,c,h1,(q o).p3 o A c h2⟩
theorem N2 (W:World) (r:RV) (A:Option Addr) (n c:Nat):(Instr.buildSlice 72 1 [(0,rvV r (.slice A n c))].toArray).run Tryz.prog W=.ok (.slice (some ⟨W.heap.size,0,none⟩) 1 1) (W.alloc (.cells (aY r (.slice A n c)).toArray 103)):=by
 unfold rvV aY
 go_simp
theorem GlA.rd {B b0:Nat}{v0:Value}{xs:List Value}{r:RV}{v:Value}{w:World} (h:GlA B b0 v0 xs r v w):∃ u,RdK w 8 v (aY r u)/\aJ w B 3 1 u (aQ r.ser):=by
 obtain ⟨_,g,u,rfl,_,hg,hu⟩:=h
 refine ⟨u,⟨_,1,1,rfl,rfl,YF _,by unfold maxLen;omega,fun _=>⟨g,0,rfl,fun j x hx=>?_⟩⟩,hu⟩
 rw [YR,cell_of_row w g j _ _ _ hg]
 simpa using hx
def TH (B:Nat) (l:List NC):aE:=fun v w=>∃ s:SlT,v=slV s/\aJ w B 56 11 (slV s) (aD l)
theorem tQ (B:Nat) (l:List NC):cZ (TH B l):=fun v w w' e ⟨s,h1,h2⟩=>⟨s,h1,h2.ext e⟩
def IE {α:Type} (K:LK α) (B:Nat) (l:List α):aE:=fun v w=>∃ s:SlT,v=slV s/\hO K w B (slV s) l
theorem nF {α:Type} (K:LK α) (B:Nat) (l:List α):cZ (IE K B l):=fun v w w' e ⟨s,h1,h2⟩=>⟨s,h1,h2.ext e⟩
def XF (B:Nat) (S:ST):aE:=fun v w=>∃ s0 s1 s2 s3 s4:SlT,v=bH s0 s1 s2 s3 s4/\StO w B s0 s1 s2 s3 s4 S
theorem F1 (B:Nat) (S:ST):cZ (XF B S):=fun v w w' e ⟨s0,s1,s2,s3,s4,h1,h2⟩=>⟨s0,s1,s2,s3,s4,h1,h2.ext e⟩
theorem F2 (W:World) (s0 s1 s2 s3 s4:SlT):(Instr.build 75 [(0,slV s0),(1,slV s1),(2,slV s2),(3,slV s3),(4,slV s4)].toArray).run Tryz.prog W=.ok (bH s0 s1 s2 s3 s4) W:=by
 unfold slV bH
 go_simp
theorem F3 {B:Nat}{a:Value}{l:List NC} (W:World) (ha:RdN W a l) (hl:l.length<=1000000) (hB:B<=W.heap.size):Calls Tryz.prog 201 #[a] W fun e w'=>∃ v,e=.returned v/\Ext W w'/\TH B l v w' :=
 (xA W ha hl).mono fun e w' ⟨A,n,c,h1,h2,h3⟩=>⟨_,h1,h3,(A,n,c),rfl,h2.mono hB⟩
def YC (w:World) (S:ST) (e:Ending) (w':World):Prop:=∃ t0 t1 t2 t3 t4:SlT,e=.returned (bH t0 t1 t2 t3 t4)/\StO w' w.heap.size t0 t1 t2 t3 t4 S/\Ext w w'
set_option maxHeartbeats 8000000 in
theorem IF (s0 s1 s2 s3 s4:SlT) (S:ST) (w:World) (hS:StR w s0 s1 s2 s3 s4 S) (hB:StB S):Calls Tryz.prog 132 #[bH s0 s1 s2 s3 s4] w (YC w S):=by
 obtain ⟨wz,hwz⟩:∃ wz,wz=(w.alloc (stO s0 s1 s2 s3 s4)).alloc (.cells #[.slice none 0 0,.slice none 0 0,.slice none 0 0,.slice none 0 0,.slice none 0 0] 75):=⟨_,rfl⟩
 have e1:Ext w (w.alloc (stO s0 s1 s2 s3 s4)):=(Below.refl _ _).alloc (YF _) _
 have ez:Ext w wz:=by rw [hwz];exact e1.alloc (by simp) _
 have hz:wz.heap[w.heap.size]?=some (.cells #[.slice s0.1 s0.2.1 s0.2.2,.slice s1.1 s1.2.1 s1.2.2,.slice s2.1 s2.2.1 s2.2.2,.slice s3.1 s3.2.1 s3.2.2,.slice s4.1 s4.2.1 s4.2.2] 75 (0,0)):=by
  rw [hwz]
  exact (((Below.refl _ _).alloc (YF _) _:Ext (w.alloc (stO s0 s1 s2 s3 s4)) _).block _ (by simp)).trans (aB w _)
 have hy:wz.heap[w.heap.size+1]?=some (.cells #[.slice none 0 0,.slice none 0 0,.slice none 0 0,.slice none 0 0,.slice none 0 0] 75 (0,0)):=by
  have:=aB (w.alloc (stO s0 s1 s2 s3 s4)) (.cells #[.slice none 0 0,.slice none 0 0,.slice none 0 0,.slice none 0 0,.slice none 0 0] 75)
  rw [show (w.alloc (stO s0 s1 s2 s3 s4)).heap.size=w.heap.size+1 by simp] at this
  rw [hwz]
  exact this
 have hsz:wz.heap.size=w.heap.size+1+1:=by rw [hwz];simp
 have H0:=ZH (fun W (e:Ext w W) (hW:wz.heap.size<=W.heap.size)=>F3 (a:=slV s0) W (RdK.ext hS.r0 e) (by have:=hB.lr;omega) hW)
 have H1:=ZH (fun W (e:Ext w W) (hW:wz.heap.size<=W.heap.size)=>F3 (a:=slV s1) W (RdK.ext hS.r1 e) (by have:=hB.lp;omega) hW)
 have H2:=ZH (fun W (e:Ext w W) (hW:wz.heap.size<=W.heap.size)=>(MZ (v:=slV s2) W (hS.r2.ext e) (by have:=hB.lm;omega) (fun a ha=>by have:=(hB.m a ha).2;omega)).mono fun e' w' ⟨A,c,h1,h2,h3⟩=>(⟨_,h1,h3,(A,_,c),rfl,h2.mono hW⟩:∃ v,e'=Ending.returned v/\Ext W w'/\IE kM wz.heap.size S.ms v w'))
 have H3:=ZH (fun W (e:Ext w W) (hW:wz.heap.size<=W.heap.size)=>(MY (v:=slV s3) W (hS.r3.ext e) (by have:=hB.ls;omega) (fun a ha=>by have:=hB.s a ha;omega)).mono fun e' w' ⟨A,c,h1,h2,h3⟩=>(⟨_,h1,h3,(A,_,c),rfl,h2.mono hW⟩:∃ v,e'=Ending.returned v/\Ext W w'/\IE kR wz.heap.size S.rs v w'))
 have H4:=ZH (fun W (e:Ext w W) (hW:wz.heap.size<=W.heap.size)=>(N0 (v:=slV s4) W (hS.r4.ext e) (by have:=hB.ld;omega) (fun a ha=>by have:=hB.d a ha;omega)).mono fun e' w' ⟨A,c,h1,h2,h3⟩=>(⟨_,h1,h3,(A,_,c),rfl,h2.mono hW⟩:∃ v,e'=Ending.returned v/\Ext W w'/\IE kD wz.heap.size S.ds v w'))
 have HZ:=ZH hz
 have HY:=ZH hy
 have EZ:=ZH ez
 clear e1 ez hz hy hS hB
 unfold bH
 go_enter Tryz.func132,Tryz.ntmps132
 go_upto_region 1 with fail
 rw [<- hwz]
 clear hwz
 refine Gd.aI 16 (by kernel_rfl) (by kernel_rfl) ?_
 simp only [YT,YQ,YU,YV]
 intro wq hw1
 have LL:∀ m:Lt wq,Ext wz m.1:=fun m=>hw1.tr m.2
 have LW:∀ m:Lt wq,Ext w m.1:=fun m=>EZ.out.tr (LL m)
 have k0:∀ m:Lt wq,m.1.cell? ⟨w.heap.size,0,none⟩=some (.slice s0.1 s0.2.1 s0.2.2):=fun m=>by rw [cell_of_row m.1 _ 0 _ _ _ (((LL m).block _ (aA HZ.out)).trans HZ.out)];rfl
 have k1:∀ m:Lt wq,m.1.cell? ⟨w.heap.size,1,none⟩=some (.slice s1.1 s1.2.1 s1.2.2):=fun m=>by rw [cell_of_row m.1 _ 1 _ _ _ (((LL m).block _ (aA HZ.out)).trans HZ.out)];rfl
 have k2:∀ m:Lt wq,m.1.cell? ⟨w.heap.size,2,none⟩=some (.slice s2.1 s2.2.1 s2.2.2):=fun m=>by rw [cell_of_row m.1 _ 2 _ _ _ (((LL m).block _ (aA HZ.out)).trans HZ.out)];rfl
 have k3:∀ m:Lt wq,m.1.cell? ⟨w.heap.size,3,none⟩=some (.slice s3.1 s3.2.1 s3.2.2):=fun m=>by rw [cell_of_row m.1 _ 3 _ _ _ (((LL m).block _ (aA HZ.out)).trans HZ.out)];rfl
 have k4:∀ m:Lt wq,m.1.cell? ⟨w.heap.size,4,none⟩=some (.slice s4.1 s4.2.1 s4.2.2):=fun m=>by rw [cell_of_row m.1 _ 4 _ _ _ (((LL m).block _ (aA HZ.out)).trans HZ.out)];rfl
 have kl:∀ m:Lt wq,w.heap.size<m.1.heap.size:=fun m=>YX (aA HZ.out) (LL m).size
 repeat (refine Gd.aC rfl fun K hK=>?_;go_big_quiet_op;refine hK _ ?_;clear hK K)
 refine Gd.aR (Gd.gR rfl) (TH wz.heap.size S.roots) (tQ _ _) (fun _=>[.slice s0.1 s0.2.1 s0.2.2]) rfl rfl rfl rfl rfl (by kernel_rfl) rfl (fun _=>rfl) (fun m f hf=>H0.out m.1 (LW m) (LL m).size) ?_
 simp only [Act.put,YG,YI,YH]
 repeat (refine Gd.aC rfl fun K hK=>?_;go_big_quiet_op;refine hK _ ?_;clear hK K)
 refine Gd.aR (Gd.gR rfl) (TH wz.heap.size S.pool) (tQ _ _) (fun _=>[.slice s1.1 s1.2.1 s1.2.2]) rfl rfl rfl rfl rfl (by kernel_rfl) rfl (fun _=>rfl) (fun m f hf=>H1.out m.1 (LW m) (LL m).size) ?_
 simp only [Act.put,YG,YI,YH]
 repeat (refine Gd.aC rfl fun K hK=>?_;go_big_quiet_op;refine hK _ ?_;clear hK K)
 refine Gd.aR (Gd.gR rfl) (IE kM wz.heap.size S.ms) (nF _ _ _) (fun _=>[.slice s2.1 s2.2.1 s2.2.2,.func (.func 135) #[] #[]]) rfl rfl rfl rfl rfl (by kernel_rfl) rfl (fun _=>rfl) (fun m f hf=>H2.out m.1 (LW m) (LL m).size) ?_
 simp only [Act.put,YG,YI,YH]
 repeat (refine Gd.aC rfl fun K hK=>?_;go_big_quiet_op;refine hK _ ?_;clear hK K)
 refine Gd.aR (Gd.gR rfl) (IE kR wz.heap.size S.rs) (nF _ _ _) (fun _=>[.slice s3.1 s3.2.1 s3.2.2,.func (.func 160) #[] #[]]) rfl rfl rfl rfl rfl (by kernel_rfl) rfl (fun _=>rfl) (fun m f hf=>H3.out m.1 (LW m) (LL m).size) ?_
 simp only [Act.put,YG,YI,YH]
 repeat (refine Gd.aC rfl fun K hK=>?_;go_big_quiet_op;refine hK _ ?_;clear hK K)
 refine Gd.aR (Gd.gR rfl) (IE kD wz.heap.size S.ds) (nF _ _ _) (fun _=>[.slice s4.1 s4.2.1 s4.2.2,.func (.func 171) #[] #[]]) rfl rfl rfl rfl rfl (by kernel_rfl) rfl (fun _=>rfl) (fun m f hf=>H4.out m.1 (LW m) (LL m).size) ?_
 simp only [Act.put,YG,YI,YH]
 refine Gd.bW (Gd.gR rfl) (XF wz.heap.size S) (F1 _ _) (fun f=>[(0,f 5),(1,f 8),(2,f 11),(3,f 14),(4,f 17)]) rfl rfl rfl rfl rfl (fun _=>rfl) (fun m f hf=>?_) ?_
 · obtain ⟨t0,h0,o0⟩:=hf 5 _ rfl rfl
   obtain ⟨t1,h1,o1⟩:=hf 8 _ rfl rfl
   obtain ⟨t2,h2,o2⟩:=hf 11 _ rfl rfl
   obtain ⟨t3,h3,o3⟩:=hf 14 _ rfl rfl
   obtain ⟨t4,h4,o4⟩:=hf 17 _ rfl rfl
   rw [h0,h1,h2,h3,h4]
   exact ⟨_,_,F2 m.1 t0 t1 t2 t3 t4,Below.refl _ _,t0,t1,t2,t3,t4,rfl,o0,o1,o2,o3,o4⟩
 simp only [Act.put,YG,YI,YH]
 refine Gd.cH (fun m f hf=>?_)
 obtain ⟨t0,t1,t2,t3,t4,e18,SO⟩:=hf 18 _ rfl
 simp only [bO]
 simp only [Act.put,YG,YI,YH]
 rw [e18]
 have LM:=ZH (LL m)
 have HSO:=ZH SO
 clear hf e18 hw1 LL LW k0 k1 k2 k3 k4 kl SO H0 H1 H2 H3 H4
 generalize m.1=w2 at *
 generalize f 5=f5 at *
 generalize f 8=f8 at *
 generalize f 11=f11 at *
 generalize f 14=f14 at *
 generalize f 17=f17 at *
 clear m f
 have HY2:=ZH ((LM.out.block _ (aA HY.out)).trans HY.out)
 have H1:=ZH (bT t0 t1 t2 t3 t4)
 show wpList _ _ _ _ _ _
 unfold bH
 go_wp2_with (refine aL rfl 75 _ _ rfl rfl (w.heap.size+1) (aM t0 t1 t2 t3 t4) rfl rfl 75 #[.slice none 0 0,.slice none 0 0,.slice none 0 0,.slice none 0 0,.slice none 0 0] HY2.out aN rfl H1.out ?_)
 refine bodyPost_ret (v:=bH t0 t1 t2 t3 t4) ?_ rfl ⟨t0,t1,t2,t3,t4,rfl,?_,?_⟩
 · exact results_cell_row rfl _ _ (w.heap.size+1) 75 (aM t0 t1 t2 t3 t4) (0,0) _ rfl (aX HY2.out) Tryz.underlying75 rfl aN
 · exact (HSO.out.gbB (g:=w.heap.size+1) (by omega) (Gb.setRow _ _ _)).mono (by omega)
 · exact aS (EZ.out.tr LM.out) (by omega) _
theorem US:56≠51:=by decide
def AdI (w:World) (B g:Nat) (L:List NC):Prop:=∃ (A:Option Addr) (c:Nat),w.heap[g]?=some (.cells #[.slice A L.length c] 51 (0,0))/\aJ w B 56 11 (.slice A L.length c) (aD L)
theorem AdI.ext {w w':World}{B g:Nat}{L:List NC} (h:AdI w B g L) (e:Ext w w'):AdI w' B g L:=by
 obtain ⟨A,c,h1,h2⟩:=h
 exact ⟨A,c,(e.block g (aA h1)).trans h1,h2.ext e⟩
theorem nG {L:List NC}{y:NC} (h:y ∈ L):gL L y=L:=if_pos h
theorem pQ {L:List NC}{y:NC} (h:y ∉ L):gL L y=L++[y]:=if_neg h
theorem PY {w w8:World}{g B:Nat}{v:Value}{xs:List Value}{cs:Array Value}{fr:Nat × Nat} (hb:w.heap[g]?=some (.cells cs 51 fr)) (o:aJ w B 56 11 v xs) (g8:w.grownBy w8 (aO v)):w8.heap[g]?=some (.cells cs 51 fr) :=
 (g8.block g (aA hb) (fun q=>o.row_blk hb US q.symm)).trans hb
theorem TI {w:World}{g:Nat}{u:Value}{T:Nat} (hb:w.heap[g]?=some (.cells #[u] T (0,0))):w.cell? ⟨g,0,none⟩=some u/\g<w.heap.size/\w.frozen? ⟨g,0,none⟩=false :=
 ⟨by rw [cell_of_row w g 0 _ _ _ hb];rfl,aA hb,by simp [World.frozen?,hb]⟩
set_option maxHeartbeats 4000000 in
theorem F4 {v:Value}{l L:List NC}{g:Nat} (w w1:World) (hv:RdN w v l) (hg:w.heap.size<=g) (I:AdI w1 w.heap.size g L) (X:Ext w w1) (hl:L.length+l.length<=1000000) :
 Calls Tryz.prog 147 #[v,.pointer (some ⟨g,0,none⟩)] w1 fun e w'=>e=.returned (.tuple #[])/\AdI w' w.heap.size g (eI L l)/\Ext w w':=by
 obtain ⟨A,n,cp,rfl,hn,hnc,hcm,hel⟩:=hv.at_
 subst hn
 have HEL:=ZH hel
 unfold maxLen at hcm
 have HI:=ZH (show AdI w1 w.heap.size g (eI L (l.take 0)) from I)
 have HX:=ZH X
 have HLN:=ZH hl
 clear hel hv I X hl
 go_enter Tryz.func147,Tryz.ntmps147
 go_wp2_with fail
 go_loopw [7] (fun i wr=>∃ k:Nat,k<=l.length/\i=.int .i64 (k:Int)/\Hid (AdI wr w.heap.size g (eI L (l.take k)))/\Hid (Ext w wr)) (fun i _=>l.length - (intOf i).toNat)
 case atStart=>exact ⟨0,YK _,rfl,HI,HX⟩
 case round =>
  obtain ⟨k,hk,rfl,I,X⟩:=hrel
  by_cases hlt:k<l.length
  case neg =>
   obtain rfl:k=l.length:=by omega
   have HR:Hid (AdI wr w.heap.size g (eI L l)):=ZH (by have:=I.out;rwa [List.take_length] at this)
   clear I
   go_wp2_with fail
   refine bodyPost_end (v:=.tuple #[]) ?_ rfl ⟨rfl,HR.out,X.out⟩
   simp [results,Tryz.results147,go_sem]
  case pos =>
  obtain ⟨y,hy⟩:∃ y,l[k]?=some y:=⟨_,YL hlt⟩
  obtain ⟨b,o,rfl,hbl,hc⟩:=HEL.out (by omega)
  have hcy:=hc k y hy
  have HSN:=ZH (sM L hy)
  have HLE:=ZH (show (eI L (l.take k)).length<=999999 by have h1:=lL L (l.take k);rw [YY] at h1;have:=HLN.out;omega)
  clear hy hc
  have wi1:IntKind.i64.wrap ((k:Int))=(k:Int):=IntWalk.i64_in _ (by omega)
  have zi1:(0:Int)<=(k:Int):=by omega
  have li1:(k:Int)<(l.length:Int):=by omega
  have ti1:((k:Int)).toNat=k:=by omega
  have wk:IntKind.i64.wrap ((k:Int)+1)=(k:Int)+1:=IntWalk.i64_in _ (by omega)
  obtain ⟨N,hN⟩:∃ N,eI L (l.take k)=N:=⟨_,rfl⟩
  rw [hN] at HSN HLE I
  clear hN
  obtain ⟨Ao,co,hb,ho⟩:=I.out
  have HB:=ZH hb
  have HO:=ZH ho
  clear hb ho I
  have q0:=(X.out.cell (p:=⟨b,o+k*11,none⟩) hbl).trans hcy.1
  have q1:=(X.out.cell (p:=⟨b,o+k*11+1,none⟩) hbl).trans hcy.2.1
  have q2:=(X.out.cell (p:=⟨b,o+k*11+2,none⟩) hbl).trans hcy.2.2.1
  have q3:=(X.out.cell (p:=⟨b,o+k*11+3,none⟩) hbl).trans hcy.2.2.2.1
  have q4:=(X.out.cell (p:=⟨b,o+k*11+4,none⟩) hbl).trans hcy.2.2.2.2.1
  have q5:=(X.out.cell (p:=⟨b,o+k*11+5,none⟩) hbl).trans hcy.2.2.2.2.2.1
  have q6:=(X.out.cell (p:=⟨b,o+k*11+6,none⟩) hbl).trans hcy.2.2.2.2.2.2.1
  have q7:=(X.out.cell (p:=⟨b,o+k*11+7,none⟩) hbl).trans hcy.2.2.2.2.2.2.2.1
  have q8:=(X.out.cell (p:=⟨b,o+k*11+8,none⟩) hbl).trans hcy.2.2.2.2.2.2.2.2.1
  have q9:=(X.out.cell (p:=⟨b,o+k*11+9,none⟩) hbl).trans hcy.2.2.2.2.2.2.2.2.2.1
  have q10:=(X.out.cell (p:=⟨b,o+k*11+10,none⟩) hbl).trans hcy.2.2.2.2.2.2.2.2.2.2
  clear hcy
  obtain ⟨wn,hwn,en,TN⟩:=cT wr y
  go_upto_region 3 with fail
  rw [<- hwn]
  clear hwn q0 q1 q2 q3 q4 q5 q6 q7 q8 q9 q10
  have HBN:=ZH ((en.block g (aA HB.out)).trans HB.out)
  have HON:=ZH (HO.out.ext en)
  have XN:=ZH (X.out.tr en)
  clear HB HO X en
  have cg:wn.cell? ⟨g,0,none⟩=some (.slice Ao N.length co):=by rw [cell_of_row wn g 0 _ _ _ HBN.out];rfl
  have gl:=aA HBN.out
  obtain ⟨p0,p1,p2,p3,p4,p5,p6,p7,p8,p9,p10⟩:=(TN).cells
  have pf0:=(TN).frozen 0
  have pf1:=(TN).frozen 1
  have pf2:=(TN).frozen 2
  have pf3:=(TN).frozen 3
  have pf4:=(TN).frozen 4
  have pf5:=(TN).frozen 5
  have pf6:=(TN).frozen 6
  have pf7:=(TN).frozen 7
  have pf8:=(TN).frozen 8
  have pf9:=(TN).frozen 9
  have pf10:=(TN).frozen 10
  have pl:=(TN).lt
  go_wp2_with fail
  refine (xV y wn HON.out.rd).mono ?_
  rintro e w2 ⟨rfl,b2⟩
  have TN2:=TN.ext b2
  clear cg gl
  clear p0 pf0 p1 pf1 p2 pf2 p3 pf3 p4 pf4 p5 pf5 p6 pf6 p7 pf7 p8 pf8 p9 pf9 p10 pf10 pl
  have HB2:=ZH ((b2.block g (aA HBN.out)).trans HBN.out)
  have HO2:=ZH (HON.out.ext b2)
  have X2:=ZH (XN.out.tr b2)
  clear TN HBN HON XN b2
  have cg:w2.cell? ⟨g,0,none⟩=some (.slice Ao N.length co):=by rw [cell_of_row w2 g 0 _ _ _ HB2.out];rfl
  have gl:=aA HB2.out
  have gf:w2.frozen? ⟨g,0,none⟩=false:=by simp [World.frozen?,HB2.out]
  by_cases hm:y ∈ N
  · have HF:=ZH (show eI L (l.take (k+1))=N by rw [HSN.out];exact nG hm)
    rw [decide_eq_true hm]
    clear hm
    go_wp2_with fail
    go_roundw
    case rel=>exact ⟨k+1,by omega,by go_num,by rw [HF.out];exact ZH ⟨Ao,co,HB2.out,HO2.out⟩,X2⟩
    case measure=>simp [intOf];omega
  · have HF:=ZH (show eI L (l.take (k+1))=N++[y] by rw [HSN.out];exact pQ hm)
    rw [decide_eq_false hm]
    clear hm
    obtain ⟨p0,p1,p2,p3,p4,p5,p6,p7,p8,p9,p10⟩:=(TN2).cells
    have pf0:=(TN2).frozen 0
    have pf1:=(TN2).frozen 1
    have pf2:=(TN2).frozen 2
    have pf3:=(TN2).frozen 3
    have pf4:=(TN2).frozen 4
    have pf5:=(TN2).frozen 5
    have pf6:=(TN2).frozen 6
    have pf7:=(TN2).frozen 7
    have pf8:=(TN2).frozen 8
    have pf9:=(TN2).frozen 9
    have pf10:=(TN2).frozen 10
    have pl:=(TN2).lt
    have eA:Ext w2 (w2.alloc (.cells (aH y).toArray 56)):=(Below.refl _ _).alloc (YF _) _
    have HRK:=ZH (pO w2 y)
    have HO3:=ZH (HO2.out.ext eA)
    have HB3:=ZH ((eA.block g gl).trans HB2.out)
    have X3:=ZH (X2.out.tr eA)
    unfold aH at HRK HO3 HB3 X3
    clear eA
    go_wp2_with (refine bL (k:=11) (by decide) hF (n:=N.length) (m:=1) (B:=w.heap.size) HO3.out (by rw [bJ]) HRK.out (by rfl) (eF y) X3.out (by have:=HLE.out;omega) (by have:=HLE.out;unfold maxLen;omega) X3.out.size rfl rfl rfl rfl ?_;intro A8 n8 c8 w8 hn8 o8 x8 g8;have HB8:=ZH (PY HB3.out HO3.out g8);obtain ⟨gc8,gl8,gf8⟩:=TI HB8.out)
    have hn8:n8=(N++[y]).length:=by rw [YJ];exact hn8.out
    subst hn8
    have HI8:Hid (AdI (w8.setCell ⟨g,0,none⟩ (.slice A8 (N++[y]).length c8)) w.heap.size g (N++[y])):=ZH ⟨A8,c8,by have:=aF HB8.out 0 (.slice A8 (N++[y]).length c8);exact this,by rw [<- eE];exact o8.grown (Gb.set g 0 w8 _) (.inr (o8.row_blk HB8.out US))⟩
    have X8:=ZH (aG x8 hg (i:=0) (v:=.slice A8 (N++[y]).length c8))
    clear x8 o8 gl8 gf8 gc8 HB8
    go_roundw
    case rel=>exact ⟨k+1,by omega,by go_num,by rw [HF.out];exact HI8,X8⟩
    case measure=>simp [intOf];omega
theorem IG {α:Type}{l:List α}{y:α}{k:Nat} (h:l[k]?=some y):l.take (k+1)=l.take k++[y]:=by
 obtain ⟨hk,rfl⟩:=List.getElem?_eq_some_iff.1 h
 exact List.take_succ_eq_append_getElem hk
def rtT (S:ST) (k:Nat):List NC:=(S.ms.take k).foldl (fun out m=>eI out m.roots) (eI [] S.roots)
theorem F5 {S:ST}{k:Nat}{t:MA} (h:S.ms[k]?=some t):rtT S (k+1)=eI (rtT S k) t.roots:=by
 unfold rtT
 rw [IG h,List.foldl_append]
 rfl
theorem KZ (S:ST):rtT S S.ms.length=fB S:=by
 unfold rtT fB
 rw [List.take_length]
theorem L1 {S:ST} (h:StB S) (k:Nat):(rtT S k).length<=210000:=by
 have h1:=nC (S.ms.take k) (eI [] S.roots) fun x hx=>(h.m x (List.mem_of_mem_take hx)).2
 have h2:=lL [] S.roots
 have h3:=h.lr
 have h4:=h.lm
 have h6:(S.ms.take k).length<=20:=by rw [YY];omega
 have h5:(S.ms.take k).length*10000<=20*10000:=Nat.mul_le_mul_right _ h6
 rw [YN] at h2
 unfold rtT
 omega
set_option maxHeartbeats 4000000 in
theorem N3 (s0 s1 s2 s3 s4:SlT) (S:ST) (w:World) (h0:RdN w (slV s0) S.roots) (h2:RdX kM w (slV s2) S.ms) (hB:StB S):Calls Tryz.prog 57 #[bH s0 s1 s2 s3 s4] w (EF w (fB S)):=by
 obtain ⟨A',n',c',hs,hn,hnc,hcm,hel⟩:=h2.at_
 obtain ⟨A,n,cp⟩:=s2
 unfold slV at hs
 injection hs with hs1 hs2 hs3
 simp only at hs1 hs2 hs3
 subst hs1 hs2 hs3 hn
 obtain ⟨ws,hws⟩:∃ ws,ws=w.alloc (.cells #[.slice s0.1 s0.2.1 s0.2.2,.slice s1.1 s1.2.1 s1.2.2,.slice A S.ms.length cp,.slice s3.1 s3.2.1 s3.2.2,.slice s4.1 s4.2.1 s4.2.2] 75):=⟨_,rfl⟩
 have es:Ext w ws:=by rw [hws];exact (Below.refl _ _).alloc (YF _) _
 have hsz:ws.heap.size=w.heap.size+1:=by rw [hws];simp
 have hb:ws.heap[w.heap.size]?=some (.cells #[.slice s0.1 s0.2.1 s0.2.2,.slice s1.1 s1.2.1 s1.2.2,.slice A S.ms.length cp,.slice s3.1 s3.2.1 s3.2.2,.slice s4.1 s4.2.1 s4.2.2] 75 (0,0)):=by rw [hws];exact aB w _
 obtain ⟨wz,hwz⟩:∃ wz,wz=ws.alloc (.cells #[.slice none 0 0] 51):=⟨_,rfl⟩
 have ez:Ext ws wz:=by rw [hwz];exact (Below.refl _ _).alloc (YF _) _
 have IZ:AdI wz ws.heap.size ws.heap.size ([]:List NC):=⟨none,0,by rw [hwz];exact aB ws _,aJ.empty _ _ _ _ _⟩
 have HLR:=ZH (L1 hB)
 have HMB:=ZH hB.m
 have h00:S.roots.length<=10000:=hB.lr
 have HA0:=ZH (show Calls Tryz.prog 147 #[.slice s0.1 s0.2.1 s0.2.2,.pointer (some ⟨ws.heap.size,0,none⟩)] wz _ from F4 ws wz (RdK.ext h0 es) (YF _) IZ ez (by rw [YN];omega))
 have HAN:=ZH (fun (u:Value) (l L:List NC) (W:World) (hu:RdN ws u l) (I:AdI W ws.heap.size ws.heap.size L) (X:Ext ws W) (hl:L.length+l.length<=1000000)=>F4 ws W hu (YF _) I X hl)
 have ES:=ZH es
 have HBK:=ZH hb
 have HEL:=ZH hel
 have HALL:=ZH (KZ S)
 unfold maxLen at hcm
 rw [hsz] at HA0 HAN
 rw [hws] at hwz
 clear h0 h2 hB es hb ez IZ hel h00
 unfold bH
 go_enter Tryz.func57,Tryz.ntmps57
 go_wp2_with fail
 rw [<- hwz]
 refine HA0.out.mono ?_
 rintro e w1 ⟨rfl,I1,X1⟩
 have HI1:=ZH (show AdI w1 (w.heap.size+1) (w.heap.size+1) (rtT S 0) from I1)
 have c2:w1.cell? ⟨w.heap.size,2,none⟩=some (.slice A S.ms.length cp):=by rw [cell_of_row w1 _ 2 _ _ _ ((X1.block _ (aA HBK.out)).trans HBK.out)];rfl
 have cl:w.heap.size<w1.heap.size:=YX (aA HBK.out) X1.size
 have HX1:=ZH X1
 clear I1 X1 hwz hws HA0
 go_upto_region 5 with fail
 clear c2 cl
 go_loopw [15] (fun s15 wr=>∃ k:Nat,k<=S.ms.length/\s15=.int .i64 (k:Int)/\Hid (AdI wr (w.heap.size+1) (w.heap.size+1) (rtT S k))/\Hid (Ext ws wr)) (fun s15 _=>S.ms.length - (intOf s15).toNat)
 case atStart=>exact ⟨0,YK _,rfl,HI1,HX1⟩
 case round =>
  obtain ⟨k,hk,rfl,I,X⟩:=hrel
  by_cases hlt:k<S.ms.length
  case neg =>
   obtain rfl:k=S.ms.length:=by omega
   have HI:=ZH (show AdI wr (w.heap.size+1) (w.heap.size+1) (fB S) by have:=I.out;rwa [HALL.out] at this)
   clear I
   obtain ⟨Ao,co,hb,ho⟩:=HI.out
   have cg:wr.cell? ⟨w.heap.size+1,0,none⟩=some (.slice Ao (fB S).length co):=by rw [cell_of_row wr _ 0 _ _ _ hb];rfl
   have gl:=aA hb
   have HO:=ZH ho
   clear hb ho
   go_wp2_with fail
   go_ret
   exact ⟨ES.out.tr X.out,_,_,rfl,HO.out.rd⟩
  case pos =>
  obtain ⟨t,ht⟩:∃ t,S.ms[k]?=some t:=⟨_,YL hlt⟩
  obtain ⟨b,o,rfl,hbl,u,hcell,hu⟩:=HEL.out k t ht
  have HSN:=ZH (F5 ht)
  have HLT:=ZH (HMB.out t (YS ht)).2
  obtain ⟨Au,nu,cu,rfl,-⟩:=id hu
  have HU0:=ZH (RdK.ext hu ES.out)
  have XW:=ZH (ES.out.tr X.out)
  clear ht hu
  have wi1:IntKind.i64.wrap ((k:Int))=(k:Int):=IntWalk.i64_in _ (by omega)
  have zi1:(0:Int)<=(k:Int):=by omega
  have li1:(k:Int)<(S.ms.length:Int):=by omega
  have ti1:((k:Int)).toNat=k:=by omega
  have wk:IntKind.i64.wrap ((k:Int)+1)=(k:Int)+1:=IntWalk.i64_in _ (by omega)
  have l0:wr.cell? ⟨b,o+k*17,none⟩=some (.string (aK t.st)):=by
   have:=(XW.out.cell (p:=⟨b,o+(k*17+0),none⟩) hbl).trans (hcell 0 _ rfl)
   exact this
  have l1:wr.cell? ⟨b,o+k*17+1,none⟩=some (.int .i64 t.num):=by
   have:=(XW.out.cell (p:=⟨b,o+(k*17+1),none⟩) hbl).trans (hcell 1 _ rfl)
   rwa [<- YM] at this
  have l2:wr.cell? ⟨b,o+k*17+2,none⟩=some (.int .i64 t.day):=by
   have:=(XW.out.cell (p:=⟨b,o+(k*17+2),none⟩) hbl).trans (hcell 2 _ rfl)
   rwa [<- YM] at this
  have l3:wr.cell? ⟨b,o+k*17+3,none⟩=some (.slice Au nu cu):=by
   have:=(XW.out.cell (p:=⟨b,o+(k*17+3),none⟩) hbl).trans (hcell 3 _ rfl)
   rwa [<- YM] at this
  have l4:wr.cell? ⟨b,o+k*17+4,none⟩=some (.string (aK t.sg.st)):=by
   have:=(XW.out.cell (p:=⟨b,o+(k*17+4),none⟩) hbl).trans (hcell 4 _ rfl)
   rwa [<- YM] at this
  have l5:wr.cell? ⟨b,o+k*17+5,none⟩=some (.int .i64 t.sg.kind):=by
   have:=(XW.out.cell (p:=⟨b,o+(k*17+5),none⟩) hbl).trans (hcell 5 _ rfl)
   rwa [<- YM] at this
  have l6:wr.cell? ⟨b,o+k*17+6,none⟩=some (.int .i64 t.sg.num):=by
   have:=(XW.out.cell (p:=⟨b,o+(k*17+6),none⟩) hbl).trans (hcell 6 _ rfl)
   rwa [<- YM] at this
  have l7:wr.cell? ⟨b,o+k*17+7,none⟩=some (.int .i64 t.sg.iss):=by
   have:=(XW.out.cell (p:=⟨b,o+(k*17+7),none⟩) hbl).trans (hcell 7 _ rfl)
   rwa [<- YM] at this
  have l8:wr.cell? ⟨b,o+k*17+8,none⟩=some (.int .i64 t.sg.own):=by
   have:=(XW.out.cell (p:=⟨b,o+(k*17+8),none⟩) hbl).trans (hcell 8 _ rfl)
   rwa [<- YM] at this
  have l9:wr.cell? ⟨b,o+k*17+9,none⟩=some (.int .i64 t.sg.key):=by
   have:=(XW.out.cell (p:=⟨b,o+(k*17+9),none⟩) hbl).trans (hcell 9 _ rfl)
   rwa [<- YM] at this
  have l10:wr.cell? ⟨b,o+k*17+10,none⟩=some (.int .i64 t.sg.fr):=by
   have:=(XW.out.cell (p:=⟨b,o+(k*17+10),none⟩) hbl).trans (hcell 10 _ rfl)
   rwa [<- YM] at this
  have l11:wr.cell? ⟨b,o+k*17+11,none⟩=some (.int .i64 t.sg.un):=by
   have:=(XW.out.cell (p:=⟨b,o+(k*17+11),none⟩) hbl).trans (hcell 11 _ rfl)
   rwa [<- YM] at this
  have l12:wr.cell? ⟨b,o+k*17+12,none⟩=some (.int .i64 t.sg.to):=by
   have:=(XW.out.cell (p:=⟨b,o+(k*17+12),none⟩) hbl).trans (hcell 12 _ rfl)
   rwa [<- YM] at this
  have l13:wr.cell? ⟨b,o+k*17+13,none⟩=some (.int .i64 t.sg.e):=by
   have:=(XW.out.cell (p:=⟨b,o+(k*17+13),none⟩) hbl).trans (hcell 13 _ rfl)
   rwa [<- YM] at this
  have l14:wr.cell? ⟨b,o+k*17+14,none⟩=some (.int .i64 t.sg.s):=by
   have:=(XW.out.cell (p:=⟨b,o+(k*17+14),none⟩) hbl).trans (hcell 14 _ rfl)
   rwa [<- YM] at this
  have l15:wr.cell? ⟨b,o+k*17+15,none⟩=some (.int .i64 t.e):=by
   have:=(XW.out.cell (p:=⟨b,o+(k*17+15),none⟩) hbl).trans (hcell 15 _ rfl)
   rwa [<- YM] at this
  have l16:wr.cell? ⟨b,o+k*17+16,none⟩=some (.int .i64 t.s):=by
   have:=(XW.out.cell (p:=⟨b,o+(k*17+16),none⟩) hbl).trans (hcell 16 _ rfl)
   rwa [<- YM] at this
  clear hcell
  obtain ⟨wn,hwn⟩:∃ wn,wn=wr.alloc (.cells #[.string (aK t.st),.int .i64 t.num,.int .i64 t.day,.slice Au nu cu,.string (aK t.sg.st),.int .i64 t.sg.kind,.int .i64 t.sg.num,.int .i64 t.sg.iss,.int .i64 t.sg.own,.int .i64 t.sg.key,.int .i64 t.sg.fr,.int .i64 t.sg.un,.int .i64 t.sg.to,.int .i64 t.sg.e,.int .i64 t.sg.s,.int .i64 t.e,.int .i64 t.s] 80):=⟨_,rfl⟩
  have en:Ext wr wn:=by rw [hwn];exact (Below.refl _ _).alloc (YF _) _
  have bn:wn.heap[wr.heap.size]?=some (.cells #[.string (aK t.st),.int .i64 t.num,.int .i64 t.day,.slice Au nu cu,.string (aK t.sg.st),.int .i64 t.sg.kind,.int .i64 t.sg.num,.int .i64 t.sg.iss,.int .i64 t.sg.own,.int .i64 t.sg.key,.int .i64 t.sg.fr,.int .i64 t.sg.un,.int .i64 t.sg.to,.int .i64 t.sg.e,.int .i64 t.sg.s,.int .i64 t.e,.int .i64 t.s] 80 (0,0)):=by rw [hwn];exact aB wr _
  have u3:wn.cell? ⟨wr.heap.size,3,none⟩=some (.slice Au nu cu):=by rw [cell_of_row wn _ 3 _ _ _ bn];rfl
  have ul:=aA bn
  have HCA:=ZH (HAN.out (.slice Au nu cu) t.roots (rtT S k) wn HU0.out (I.out.ext en) (X.out.tr en) (by have:=HLR.out k;have:=HLT.out;omega))
  clear I X en bn
  go_upto_region 7 with fail
  rw [<- hwn]
  clear hwn l0 l1 l2 l3 l4 l5 l6 l7 l8 l9 l10 l11 l12 l13 l14 l15 l16
  go_wp2_with fail
  refine HCA.out.mono ?_
  rintro e w8 ⟨rfl,I8,X8⟩
  have HI8:=ZH (show AdI w8 (w.heap.size+1) (w.heap.size+1) (rtT S (k+1)) by rw [HSN.out];exact I8)
  have HX8:=ZH X8
  clear I8 X8 u3 ul HCA
  go_wp2_with fail
  go_roundw
  case rel=>exact ⟨k+1,by omega,by go_num,HI8,HX8⟩
  case measure=>simp [intOf];omega
section
open Gd (dT)
variable {P:Program}{ops:Array Oper}{Q:Exit->Act->World->Prop}{w0:World}{R:Act->World->Prop}
theorem Gd.wpX_lenF {o:Oper}{rest:List Oper}{a:Act}{hs:List (Nat × aE)}{d:Nat} (hg:dT ops o a hs) (g:aE) (hst:cZ g) {t:TypeId}{s:Operand} (sv:(Nat->Value)->Value)
 (hd:o.dst=some d) (hz:Nat.blt d a.tmps.size=true) (ho:o.op=.call { callee:=.builtin .len,args:=#[s],argTypes:=#[t] }) (hin:(bG o).all (fun t=>Nat.blt t a.tmps.size)=true) (hqs:lW a s=true)
 (hs':∀ f,evF a hs f s=sv f)
 (h:∀ (m:Lt w0) (f:Nat->Value),(∀ t p,hs.lookup t=some p->(bG o).contains t=true->p (f t) m.1)->∃ v w'',(Builtin.len_ #[t] o.type #[sv f]).run P m.1=.ok v w''/\Ext m.1 w''/\g v w'')
 (hr:Gt.wpX Gd.exR P ops Q w0 R [] rest (a.put (some d) undef) ((d,g)::hs)):Gt.wpX Gd.exR P ops Q w0 R [] (o::rest) a hs :=
 Gd.jP hg g hst hd hz (by unfold aV;rw [ho]) hin (fun m f hf K hK=>by
  obtain ⟨v,w'',h1,h2,h3⟩:=h m f hf
  have e1:(bO a hs f).eval s=sv f:=(Gd.dY hqs).trans (hs' f)
  unfold Oper.wp execOp
  simp only [ho,resolve,invoke,builtin,Sem.run_bind,Sem.run_pure,Result.andThen_ok,List.map_toArray,List.map_cons,List.map_nil,e1,h1]
  exact hK _ _ (by rw [hd];show ((bO a hs f).put (some d) v).defers=_;simp [Act.put,eL]) ⟨h2,by rw [hd,aW (Gd.gG f d hz)];exact h3⟩) hr
end
theorem PZ (ty:TypeId) (A:Option Addr) (n c:Nat) (W:World):(Builtin.len_ #[51] ty #[.slice A n c]).run Tryz.prog W=.ok (.int .i64 (n:Int)) W:=by
 simp [Builtin.len_,run_underlying Tryz.underlying51,goInt]
set_option maxHeartbeats 8000000 in
theorem II (s0 s1 s2 s3 s4:SlT) (S:ST) (r:RV) (v:Value) (day:Int) (w:World) (hS:StR w s0 s1 s2 s3 s4 S) (hB:StB S) (hv:RdI w .i64 v r.ser) (hs:r.st.length<=maxLen) (E:dS w 1) :
 Calls Tryz.prog 158 #[bH s0 s1 s2 s3 s4,rvV r v,.int .i64 day] w (dR w (.int .i64 (fY S r day))):=by
 obtain ⟨wz,hwz,e2,TZ⟩:=hM (w.alloc (stO s0 s1 s2 s3 s4)) r v
 rw [show (w.alloc (stO s0 s1 s2 s3 s4)).heap.size=w.heap.size+1 by simp] at TZ
 have e1:Ext w (w.alloc (stO s0 s1 s2 s3 s4)):=(Below.refl _ _).alloc (YF _) _
 have ez:Ext w wz:=e1.tr e2
 have hz:wz.heap[w.heap.size]?=some (.cells #[.slice s0.1 s0.2.1 s0.2.2,.slice s1.1 s1.2.1 s1.2.2,.slice s2.1 s2.2.1 s2.2.2,.slice s3.1 s3.2.1 s3.2.2,.slice s4.1 s4.2.1 s4.2.2] 75 (0,0)):=(e2.block _ (by simp)).trans (aB w _)
 have HBD:=ZH (fun W (e:Ext w W)=>MP r v W (hv.ext e) hs)
 have HRT:=ZH (fun W (e:Ext w W)=>N3 s0 s1 s2 s3 s4 S W (RdK.ext hS.r0 e) (hS.r2.ext e) hB)
 have HTR:=ZH (fun (u:Value) W (e:Ext w W) (hu:RdN W u (fB S))=>EG (v1:=u) (v2:=slV s1) r.st day W hu (RdK.ext hS.r1 e) hB.roots hB.p (by have:=hB.rlen;have:=hB.lp;omega) (E.below e))
 have HVF:=ZH (fun (u:Value) (p:Int) W (e:Ext w W) (hu:Rd W u (bvs (byR r)))=>vP (a:=u) p r.e r.s W hu (by have:=BR r;omega) (E.below e))
 obtain ⟨A,n,cp,rfl,hn,-⟩:=hv.ints
 subst hn
 have EZ:=ZH ez
 have HZ:=ZH hz
 have HT:=ZH TZ
 clear hv hS hB hs E ez hz e1 e2 TZ
 unfold bH rvV
 go_enter Tryz.func158,Tryz.ntmps158
 go_wp2_with fail
 rw [<- hwz]
 clear hwz
 refine (HBD.out wz EZ.out).mono ?_
 rintro e w1 ⟨A1,n1,c1,rfl,hn1,rb,b1⟩
 have X1:=ZH (EZ.out.tr b1)
 have HZ1:=ZH ((b1.block _ (aA HZ.out)).trans HZ.out)
 have HT1:=ZH (HT.out.ext b1)
 have HRB:=ZH rb
 clear HZ HT b1 rb hn1
 by_cases hc:ckR r=0
 case neg =>
  have HV:=ZH (show fY S r day=ckR r from if_neg hc)
  have hb:(ckR r != 0)=true:=by simpa using hc
  clear hc
  go_wp2_with fail
  go_ret
  exact ⟨by first | (rw [HV.out];rfl) | rw [HV.out],X1.out⟩
 have HV:=ZH (show fY S r day=GW (cW (fB S) S.pool r.st day) r from if_pos hc)
 rw [hc]
 clear hc
 go_upto_region 5 with fail
 refine Gd.aI 10 (by kernel_rfl) (by kernel_rfl) ?_
 simp only [YT,YQ,YU,YV]
 intro wq hw1
 have LL:∀ m:Lt wq,Ext w1 m.1:=fun m=>hw1.tr m.2
 have LW:∀ m:Lt wq,Ext w m.1:=fun m=>X1.out.tr (LL m)
 have k0:∀ m:Lt wq,m.1.cell? ⟨w.heap.size,0,none⟩=some (.slice s0.1 s0.2.1 s0.2.2):=fun m=>by rw [cell_of_row m.1 _ 0 _ _ _ (((LL m).block _ (aA HZ1.out)).trans HZ1.out)];rfl
 have k1:∀ m:Lt wq,m.1.cell? ⟨w.heap.size,1,none⟩=some (.slice s1.1 s1.2.1 s1.2.2):=fun m=>by rw [cell_of_row m.1 _ 1 _ _ _ (((LL m).block _ (aA HZ1.out)).trans HZ1.out)];rfl
 have k2:∀ m:Lt wq,m.1.cell? ⟨w.heap.size,2,none⟩=some (.slice s2.1 s2.2.1 s2.2.2):=fun m=>by rw [cell_of_row m.1 _ 2 _ _ _ (((LL m).block _ (aA HZ1.out)).trans HZ1.out)];rfl
 have k3:∀ m:Lt wq,m.1.cell? ⟨w.heap.size,3,none⟩=some (.slice s3.1 s3.2.1 s3.2.2):=fun m=>by rw [cell_of_row m.1 _ 3 _ _ _ (((LL m).block _ (aA HZ1.out)).trans HZ1.out)];rfl
 have k4:∀ m:Lt wq,m.1.cell? ⟨w.heap.size,4,none⟩=some (.slice s4.1 s4.2.1 s4.2.2):=fun m=>by rw [cell_of_row m.1 _ 4 _ _ _ (((LL m).block _ (aA HZ1.out)).trans HZ1.out)];rfl
 have t0:∀ m:Lt wq,m.1.cell? ⟨w.heap.size+1,0,none⟩=some (.string (aK r.st)):=fun m=>(HT1.out.ext (LL m)).c0
 have kl:∀ m:Lt wq,w.heap.size+1<m.1.heap.size:=fun m=>(HT1.out.ext (LL m)).lt
 have kl0:∀ m:Lt wq,w.heap.size<m.1.heap.size:=fun m=>Nat.lt_of_succ_lt (kl m)
 repeat (refine Gd.aC rfl fun K hK=>?_;go_big_quiet_op;refine hK _ ?_;clear hK K)
 refine Gd.aR (Gd.gR rfl) (GSl (fB S)) (m7 _) (fun _=>[.agg #[.slice s0.1 s0.2.1 s0.2.2,.slice s1.1 s1.2.1 s1.2.2,.slice s2.1 s2.2.1 s2.2.2,.slice s3.1 s3.2.1 s3.2.2,.slice s4.1 s4.2.1 s4.2.2]]) rfl rfl rfl rfl rfl (by kernel_rfl) rfl (fun _=>rfl) (fun m f hf=>((HRT.out m.1 (LW m)).mono fun e w'' q=>EF.gsl q)) ?_
 simp only [Act.put,YG,YI,YH]
 repeat (refine Gd.aC rfl fun K hK=>?_;go_big_quiet_op;refine hK _ ?_;clear hK K)
 refine Gd.aR (Gd.gR rfl) (GSl (cW (fB S) S.pool r.st day)) (m7 _) (fun f=>[f 21,.slice s1.1 s1.2.1 s1.2.2,.string (aK r.st),.int .i64 day]) rfl rfl rfl rfl rfl (by kernel_rfl) rfl (fun _=>rfl) (fun m f hf=>by obtain ⟨A5,n5,c5,h1,h2,h3⟩:=hf 21 _ rfl rfl;rw [h1];exact ((HTR.out _ m.1 (LW m) h3).mono fun e w'' q=>EF.gsl q)) ?_
 simp only [Act.put,YG,YI,YH]
 refine Gd.wpX_lenF (Gd.gR rfl) (fun v _=>v=.int .i64 ((cW (fB S) S.pool r.st day).length:Int)) (stable_eq _) (fun f=>f 27) rfl rfl rfl rfl rfl (fun _=>rfl) (fun m f hf=>by obtain ⟨A5,n5,c5,h1,h2,h3⟩:=hf 27 _ rfl rfl;rw [h1];exact ⟨_,_,PZ _ _ _ _ _,Below.refl _ _,by rw [h2]⟩) ?_
 simp only [Act.put,YG,YI,YH]
 repeat (refine Gd.aC rfl fun K hK=>?_;go_big_quiet_op;refine hK _ ?_;clear hK K)
 refine Gd.cH (fun m f hf=>?_)
 obtain ⟨A5,n5,c5,e27,hn5,RT⟩:=hf 27 _ rfl
 have e28:=hf 28 _ rfl
 simp only [bO]
 simp only [Act.put,YG,YI,YH]
 rw [e27,e28]
 have LM:=ZH (LL m)
 have HRT5:=ZH RT
 clear hf e27 e28 hw1 LL LW k0 k1 k2 k3 k4 t0 kl kl0 RT HRT HTR
 generalize m.1=w2 at *
 generalize f 21=f21 at *
 clear m f
 generalize cW (fB S) S.pool r.st day=L at *
 subst hn5
 show wpList _ _ _ _ _ _
 obtain ⟨A9,n9,c9,e9,hn9,hnc,hcm,hel⟩:=RdN.at_ HRT5.out
 injection e9 with e9a e9b e9c
 subst e9a e9c
 subst hn9
 have HEL:=ZH hel
 have HTW:=ZH (HT1.out.ext LM.out)
 have X2:=ZH (X1.out.tr LM.out)
 have HRB2:=ZH (HRB.out.ext LM.out)
 unfold maxLen at hcm
 clear hel HRT5 HT1 HZ1 HRB X1 LM
 go_upto_region 6 with fail
 go_loopw [9,29] (fun s9 s29 wr=>∃ k:Nat,k<=L.length/\s29=.int .i64 (k:Int)/\s9=.bool ((L.take k).any fun c=>decide (c.own=r.iss))/\Hid (Ext w2 wr)/\Hid (∀ (j:Nat) (c:NC),j<k->L[j]?=some c->c.own=r.iss->fF c.key (byR r) r.e r.s=false)) (fun _ s29 _=>L.length - (intOf s29).toNat)
 case atStart=>exact ⟨0,YK _,rfl,rfl,ZH (Below.refl _ _),ZH (fun j c h=>by omega)⟩
 case round =>
  obtain ⟨k,hk,rfl,rfl,X,NO⟩:=hrel
  by_cases hlt:k<L.length
  case neg =>
   obtain rfl:k=L.length:=by omega
   have HN:=ZH (VN (r:=r) (l:=L) (fun j c hj=>NO.out j c (List.getElem?_eq_some_iff.1 hj).1 hj))
   rw [List.take_length]
   generalize (L.any fun c=>decide (c.own=r.iss))=fb at *
   cases fb
   · go_wp2_with fail
     go_ret
     exact ⟨by first | (rw [HV.out,HN.out];rfl) | rw [HV.out,HN.out],X2.out.tr X.out⟩
   · go_wp2_with fail
     go_ret
     exact ⟨by first | (rw [HV.out,HN.out];rfl) | rw [HV.out,HN.out],X2.out.tr X.out⟩
  case pos =>
  obtain ⟨y,hy⟩:∃ y,L[k]?=some y:=⟨_,YL hlt⟩
  obtain ⟨b,o,rfl,hbl,hc⟩:=HEL.out (by omega)
  have hcy:=hc k y hy
  have HSN:=ZH (EO (i:=r.iss) hy)
  have HNX:=ZH (fun (q:y.own=r.iss->fF y.key (byR r) r.e r.s=false)=>(fun j c hj hc=>by
   by_cases e:j=k
   · subst e
     rw [hy] at hc
     rw [<- Option.some.inj hc]
     exact q
   · exact NO.out j c (by omega) hc:∀ (j:Nat) (c:NC),j<k+1->L[j]?=some c->c.own=r.iss->fF c.key (byR r) r.e r.s=false))
  have HY:=ZH hy
  clear hy hc
  generalize ((L.take k).any fun c=>decide (c.own=r.iss))=fb at *
  have wi1:IntKind.i64.wrap ((k:Int))=(k:Int):=IntWalk.i64_in _ (by omega)
  have zi1:(0:Int)<=(k:Int):=by omega
  have li1:(k:Int)<(L.length:Int):=by omega
  have ti1:((k:Int)).toNat=k:=by omega
  have wk:IntKind.i64.wrap ((k:Int)+1)=(k:Int)+1:=IntWalk.i64_in _ (by omega)
  have q0:=(X.out.cell (p:=⟨b,o+k*11,none⟩) hbl).trans hcy.1
  have q1:=(X.out.cell (p:=⟨b,o+k*11+1,none⟩) hbl).trans hcy.2.1
  have q2:=(X.out.cell (p:=⟨b,o+k*11+2,none⟩) hbl).trans hcy.2.2.1
  have q3:=(X.out.cell (p:=⟨b,o+k*11+3,none⟩) hbl).trans hcy.2.2.2.1
  have q4:=(X.out.cell (p:=⟨b,o+k*11+4,none⟩) hbl).trans hcy.2.2.2.2.1
  have q5:=(X.out.cell (p:=⟨b,o+k*11+5,none⟩) hbl).trans hcy.2.2.2.2.2.1
  have q6:=(X.out.cell (p:=⟨b,o+k*11+6,none⟩) hbl).trans hcy.2.2.2.2.2.2.1
  have q7:=(X.out.cell (p:=⟨b,o+k*11+7,none⟩) hbl).trans hcy.2.2.2.2.2.2.2.1
  have q8:=(X.out.cell (p:=⟨b,o+k*11+8,none⟩) hbl).trans hcy.2.2.2.2.2.2.2.2.1
  have q9:=(X.out.cell (p:=⟨b,o+k*11+9,none⟩) hbl).trans hcy.2.2.2.2.2.2.2.2.2.1
  have q10:=(X.out.cell (p:=⟨b,o+k*11+10,none⟩) hbl).trans hcy.2.2.2.2.2.2.2.2.2.2
  clear hcy
  obtain ⟨wn,hwn,en,TN⟩:=cT wr y
  go_upto_region 8 with fail
  rw [<- hwn]
  clear hwn q0 q1 q2 q3 q4 q5 q6 q7 q8 q9 q10
  have XN:=ZH (X.out.tr en)
  have TW:=HTW.out.ext XN.out
  have r5:=TW.c5
  have r6:=TW.c6
  have r7:=TW.c7
  have rl:=TW.lt
  have n4:=(cK.cells TN).2.2.2.2.1
  have n5:=(cK.cells TN).2.2.2.2.2.1
  have nl:=cK.lt TN
  clear X en TW
  by_cases d1:y.own=r.iss
  case neg =>
   have hb:(y.own != r.iss)=true:=by simpa using d1
   have HF:=ZH (show ((L.take (k+1)).any fun c=>decide (c.own=r.iss))=fb by rw [HSN.out,decide_eq_false d1,Bool.or_false])
   have HNN:=ZH (HNX.out (fun q=>absurd q d1))
   clear d1
   go_wp2_with fail
   go_roundw
   case rel=>exact ⟨k+1,by omega,by go_num,by rw [HF.out],XN,HNN⟩
   case measure=>simp [intOf];omega
  have hb:(y.own != r.iss)=false:=by simpa using d1
  have HF:=ZH (show ((L.take (k+1)).any fun c=>decide (c.own=r.iss))=true by rw [HSN.out,decide_eq_true d1,Bool.or_true])
  have HO:=ZH d1
  clear d1
  go_wp2_with fail
  refine (HVF.out _ y.key wn (X2.out.tr XN.out) (HRB2.out.ext XN.out)).mono ?_
  rintro e w9 ⟨rfl,b9⟩
  cases hq:fF y.key (byR r) r.e r.s with
  | true =>
    have HN:=ZH (BU (YS HY.out) HO.out hq)
    have X9:=ZH (X2.out.tr (XN.out.tr b9))
    clear hq b9
    go_wp2_with fail
    go_ret
    exact ⟨by first | (rw [HV.out,HN.out];rfl) | rw [HV.out,HN.out],X9.out⟩
  | false =>
    have HNN:=ZH (HNX.out (fun _=>hq))
    have XN9:=ZH (XN.out.tr b9)
    clear hq b9
    go_wp2_with fail
    go_roundw
    case rel=>exact ⟨k+1,by omega,by go_num,by rw [HF.out],XN9,HNN⟩
    case measure=>simp [intOf];omega
open Gd (dT kV)
set_option maxHeartbeats 2000000 in
theorem j2 (s0 s1 s2 s3 s4:SlT) (l:List RV) (c:NC) (w:World) (h:RdV w (slV s3) l):Calls Tryz.prog 70 #[bH s0 s1 s2 s3 s4,ncV c] w (dR w (.bool (kG l c.st c.num))):=by
 obtain ⟨wz,hwz,e2,TZ⟩:=cT (w.alloc (stO s0 s1 s2 s3 s4)) c
 rw [show (w.alloc (stO s0 s1 s2 s3 s4)).heap.size=w.heap.size+1 by simp] at TZ
 have e1:Ext w (w.alloc (stO s0 s1 s2 s3 s4)):=(Below.refl _ _).alloc (YF _) _
 have ez:Ext w wz:=e1.tr e2
 have hz:wz.heap[w.heap.size]?=some (.cells #[.slice s0.1 s0.2.1 s0.2.2,.slice s1.1 s1.2.1 s1.2.2,.slice s2.1 s2.2.1 s2.2.2,.slice s3.1 s3.2.1 s3.2.2,.slice s4.1 s4.2.1 s4.2.2] 75 (0,0)):=(e2.block _ (by simp)).trans (aB w _)
 have HP:=ZH (fun W (e:Ext w W)=>sJ s0 s1 s2 s3 s4 l c.st W (h.ext e))
 have HR:=ZH h
 have EZ:=ZH ez
 have HZ:=ZH hz
 have HT:=ZH TZ
 clear h ez hz e1 e2 TZ
 unfold bH at HP ⊢
 unfold ncV
 go_enter Tryz.func70,Tryz.ntmps70
 go_wp2_with fail
 rw [<- hwz]
 clear hwz
 refine (HP.out wz EZ.out).mono ?_
 rintro e w2 ⟨rfl,b2⟩
 have X2:=ZH (EZ.out.tr b2)
 have hb2:=(b2.block _ (aA HZ.out)).trans HZ.out
 have T2:=cK.ext HT.out b2
 have HB2:=ZH hb2
 have HT2:=ZH T2
 clear hb2 T2 HP HZ HT b2
 rcases zH l c.st with ⟨hp,hf⟩ | ⟨j,r,hp,hj,hf⟩
 · have HF:=ZH (show kG l c.st c.num=false by unfold kG;rw [hf])
   rw [hp]
   clear hp hf
   go_upto_region 2 with fail
   refine Gd.aI 12 (by kernel_rfl) (by kernel_rfl) ?_
   simp only [YT,YQ,YU,YV]
   intro w1 hw1
   repeat (first | (refine Gd.dJ (by exact ⟨_,rfl,rfl,rfl⟩) rfl rfl ?_;simp only [Act.put,YG,YI,YH]) | (refine Gd.aC rfl fun K hK=>?_;go_big_quiet_op;refine hK _ ?_;clear hK K))
   refine Gd.cQ (fun m=>?_)
   have LM:=ZH (X2.out.tr (hw1.tr m.2))
   clear hw1
   generalize m.1=wm at *
   show wpList _ _ _ _ _ _
   go_wp2_with fail
   go_ret
   exact ⟨by rw [HF.out];rfl,LM.out⟩
 · have HF:=ZH (show kG l c.st c.num=decide (c.num ∈ r.ser) by unfold kG;rw [hf])
   rw [hp]
   clear hp hf
   obtain ⟨A,n,cp,hs,hn,hnc,hcm,hel⟩:=HR.out
   obtain ⟨sA,sn,cq⟩:=s3
   unfold slV at hs
   injection hs with hs1 hs2 hs3
   simp only at hs1 hs2 hs3
   subst hs1 hs2 hs3 hn
   have hlt:=(List.getElem?_eq_some_iff.1 hj).1
   obtain ⟨b,o,rfl,hbl,A1,n1,c1,e0,e1,e2,e3,e4,e5,e6,e7,hser⟩:=hel j r hj
   have HC4:=ZH (And.intro hbl e4)
   have HSER:=ZH hser
   clear e0 e1 e2 e3 e4 e5 e6 e7 hser hel hj hbl
   unfold maxLen at hcm
   have wi1:IntKind.i64.wrap ((j:Int))=(j:Int):=IntWalk.i64_in _ (by omega)
   have zi1:(0:Int)<=(j:Int):=by omega
   have li1:(j:Int)<(l.length:Int):=by omega
   have ti1:((j:Int)).toNat=j:=by omega
   go_upto_region 2 with fail
   refine Gd.aI 12 (by kernel_rfl) (by kernel_rfl) ?_
   simp only [YT,YQ,YU,YV]
   intro w1 hw1
   have LL:∀ m:Lt w1,Ext w2 m.1:=fun m=>hw1.tr m.2
   have k3:∀ m:Lt w1,m.1.cell? ⟨w.heap.size,3,none⟩=some (.slice (some ⟨b,o,none⟩) l.length cq):=fun m=>by rw [cell_of_row m.1 _ 3 _ _ _ (((LL m).block _ (aA HB2.out)).trans HB2.out)];rfl
   have k4:∀ m:Lt w1,m.1.cell? ⟨b,o+j*8+4,none⟩=some (.slice A1 n1 c1):=fun m=>((X2.out.tr (LL m)).cell (p:=⟨b,o+j*8+4,none⟩) HC4.out.1).trans HC4.out.2
   have kn:∀ m:Lt w1,m.1.cell? ⟨w.heap.size+1,2,none⟩=some (.int .i64 c.num):=fun m=>(cK.ext HT2.out (LL m)).cells.2.2.1
   have kl:∀ m:Lt w1,w.heap.size+1<m.1.heap.size:=fun m=>cK.lt (cK.ext HT2.out (LL m))
   have kl0:∀ m:Lt w1,w.heap.size<m.1.heap.size:=fun m=>Nat.lt_of_succ_lt (kl m)
   have kb:∀ m:Lt w1,b<m.1.heap.size:=fun m=>YX HC4.out.1 (X2.out.tr (LL m)).size
   repeat (first | (refine Gd.dJ (by exact ⟨_,rfl,rfl,rfl⟩) rfl rfl ?_;simp only [Act.put,YG,YI,YH]) | (refine Gd.aC rfl fun K hK=>?_;go_big_quiet_op;refine hK _ ?_;clear hK K))
   refine Gd.bN (Gd.gR rfl) (.bool (decide (c.num ∈ r.ser))) (args:=[.slice A1 n1 c1,.int .i64 c.num]) rfl rfl rfl rfl (by kernel_rfl) rfl rfl (fun m=>(xZ c.num m.1 (HSER.out.ext (X2.out.tr (LL m)))).mono fun _ _ ⟨h1,h2⟩=>⟨h1,h2⟩) ?_
   simp only [Act.put,YG,YI,YH]
   refine Gd.cQ (fun m=>?_)
   have LM:=ZH (X2.out.tr (LL m))
   clear hw1 LL k3 k4 kn kl kl0 kb
   generalize m.1=wm at *
   show wpList _ _ _ _ _ _
   go_wp2_with fail
   go_ret
   exact ⟨by rw [HF.out];rfl,LM.out⟩
set_option maxHeartbeats 2000000 in
theorem nH (s0 s1 s2 s3 s4:SlT) (l:List RV) (c:NC) (w:World) (h:RdV w (slV s3) l):Calls Tryz.prog 71 #[bH s0 s1 s2 s3 s4,ncV c] w (dR w (.bool (kG l c.st c.num))):=by
 obtain ⟨wz,hwz,e2,TZ⟩:=cT (w.alloc (stO s0 s1 s2 s3 s4)) c
 rw [show (w.alloc (stO s0 s1 s2 s3 s4)).heap.size=w.heap.size+1 by simp] at TZ
 have e1:Ext w (w.alloc (stO s0 s1 s2 s3 s4)):=(Below.refl _ _).alloc (YF _) _
 have ez:Ext w wz:=e1.tr e2
 have hz:wz.heap[w.heap.size]?=some (.cells #[.slice s0.1 s0.2.1 s0.2.2,.slice s1.1 s1.2.1 s1.2.2,.slice s2.1 s2.2.1 s2.2.2,.slice s3.1 s3.2.1 s3.2.2,.slice s4.1 s4.2.1 s4.2.2] 75 (0,0)):=(e2.block _ (by simp)).trans (aB w _)
 have HP:=ZH (fun W (e:Ext w W)=>tM s0 s1 s2 s3 s4 l c.st W (h.ext e))
 have HR:=ZH h
 have EZ:=ZH ez
 have HZ:=ZH hz
 have HT:=ZH TZ
 clear h ez hz e1 e2 TZ
 unfold bH at HP ⊢
 unfold ncV
 go_enter Tryz.func71,Tryz.ntmps71
 go_wp2_with fail
 rw [<- hwz]
 clear hwz
 refine (HP.out wz EZ.out).mono ?_
 rintro e w2 ⟨A,n,cp,rfl,hser,b2⟩
 have X2:=EZ.out.tr b2
 have T2:=cK.ext HT.out b2
 have HD:=ZH (MU l c.st c.num)
 obtain ⟨R,hR⟩:∃ R,(ofR l c.st).getD bY=R:=⟨_,rfl⟩
 rw [hR] at HD hser ⊢
 obtain ⟨ok,hok⟩:∃ ok,(ofR l c.st).isSome=ok:=⟨_,rfl⟩
 rw [hok]
 obtain ⟨A',n',c',hs,hn,hnc,hcm,hel⟩:=hser.ints
 injection hs with hs1 hs2 hs3
 subst hs1 hs2 hs3 hn
 unfold maxLen at hcm
 obtain ⟨wa,hwa,xa,ta⟩:=hM w2 R (.slice A R.ser.length cp)
 have HXA:=ZH (X2.tr xa)
 have HEL:=ZH hel
 have HE2:=ZH xa
 have HTA:=ZH ta
 have HTC:=ZH (cK.ext T2 xa)
 clear hR hok HP HR HZ HT b2 X2 T2 hel hser xa ta EZ
 unfold rvV
 go_wp2_with fail
 rw [<- hwa]
 clear hwa
 go_loopw [7] (fun s7 wr=>∃ i:Nat,i<=R.ser.length/\s7=.int .i64 (i:Int)/\Hid (Ext wa wr)/\Hid (∀ k,k<i->R.ser.getD k 0≠c.num)) (fun s7 _=>R.ser.length - (intOf s7).toNat)
 case atStart=>exact ⟨0,YK _,rfl,ZH (Below.refl _ _),ZH (fun k h=>by omega)⟩
 case round =>
  obtain ⟨i,hi,rfl,EW,NO⟩:=hrel
  have TA:=HTA.out.ext EW.out
  have TC:=cK.ext HTC.out EW.out
  have a4:=TA.c4
  have hla:=TA.lt
  have n2:=(cK.cells TC).2.2.1
  have hlc:=cK.lt TC
  clear TA TC
  by_cases hlt:i<R.ser.length
  case neg =>
   have hb:¬ ((i:Int)<(R.ser.length:Int)):=by omega
   have HN:=ZH (show kG l c.st c.num=false by
    rw [HD.out]
    refine decide_eq_false fun hm=>?_
    obtain ⟨k,hk,e⟩:=List.getElem_of_mem hm
    exact NO.out k (by omega) (by rw [List.getD_eq_getElem?_getD,YL hk];exact e))
   go_wp2_with fail
   go_ret
   exact ⟨by rw [HN.out];rfl,HXA.out.tr EW.out⟩
  case pos =>
   obtain ⟨b,o,rfl,hbl,hc⟩:=HEL.out (by omega)
   have l0:=((HE2.out.tr EW.out).cell (p:=⟨b,o+i,none⟩) hbl).trans (hc i hlt)
   have HG:=ZH (show R.ser.getD i 0 ∈ R.ser by rw [List.getD_eq_getElem?_getD,YL hlt];exact List.getElem_mem hlt)
   have HNX:=ZH (fun (q:R.ser.getD i 0≠c.num)=>(fun k hk=>by
    by_cases e:k=i
    · subst e;exact q
    · exact NO.out k (by omega):∀ k,k<i+1->R.ser.getD k 0≠c.num))
   generalize R.ser.getD i 0=t at l0 HG HNX
   clear hc
   have wi2:IntKind.i64.wrap ((i:Int))=(i:Int):=IntWalk.i64_in _ (by omega)
   have zi2:(0:Int)<=(i:Int):=by omega
   have li2:(i:Int)<(R.ser.length:Int):=by omega
   have ti2:((i:Int)).toNat=i:=by omega
   by_cases hq:t=c.num
   · have HN:=ZH (show kG l c.st c.num=true by rw [HD.out];exact decide_eq_true (by rw [<- hq];exact HG.out))
     have hb:(t == c.num)=true:=by simpa using hq
     clear hq
     go_wp2_with (go_quiet (fail))
     have XQ:=ZH (HXA.out.tr (EW.out.tr (Ext.drewN_ wr nq)))
     generalize wr.drewN nq=wx at *
     go_wp2_with fail
     go_ret
     exact ⟨by rw [HN.out];rfl,XQ.out⟩
   · have hb:(t == c.num)=false:=by simpa using hq
     have HNO:=ZH (HNX.out hq)
     clear hq
     go_wp2_with (go_quiet (fail))
     have XQ:=ZH (EW.out.tr (Ext.drewN_ wr nq))
     generalize wr.drewN nq=wx at *
     go_wp2_with fail
     go_roundw
     case rel=>repeat (first | exact ⟨i+1,by omega,by go_num,XQ,HNO⟩ | exact ⟨⟨i+1,by omega,by go_num,XQ,HNO⟩,rfl⟩ | refine ⟨_,?_⟩)
     case measure=>simp [intOf];omega
end Go.Proofs.YtkjplpmogfmhkaaGreatDoor
