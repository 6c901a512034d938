/- Parts Ak Ah of the proof. -/
import Derived.Test.YtkjplpmogfmhkaaGreatDoorLbh
import Derived.Test.YtkjplpmogfmhkaaGreatDoorLbd
import Derived.Test.YtkjplpmogfmhkaaGreatDoorLbg
import Derived.Deep.CutRange
namespace Go.Proofs.YtkjplpmogfmhkaaGreatDoor
open Go.RowKit
open Go.Proofs.YtkjplpmogfmhkaaGreatDoor.Gd (cN mF)
set_option linter.unusedVariables false
set_option maxRecDepth 100000
theorem OJ (w:World) (v:Value) (s0 s1 s2 s3 s4:SlT) (day:Int):∃ wz,wz=w.alloc (.cells #[v,.slice s0.1 s0.2.1 s0.2.2,.slice s1.1 s1.2.1 s1.2.2,.slice s2.1 s2.2.1 s2.2.2,.slice s3.1 s3.2.1 s3.2.2,.slice s4.1 s4.2.1 s4.2.2,.int .i64 day] 77)∧Ext w wz∧wz.heap[w.heap.size]?=some (.cells (fL v s0 s1 s2 s3 s4 day) 77 (0,0)) :=
 ⟨_,rfl,(Below.refl _ _).alloc (UX _) _,aC w _⟩
theorem SU {w:World}{A:Option Addr}{n c:Nat}{xs:List AB} (h:RdK w 33 (.slice A n c) (rQ xs)) {i:Nat}{x:AB} (hx:xs[i]?=some x):∃ g o,A=some ⟨g,o,none⟩∧g<w.heap.size∧n=xs.length∧n≤c∧c≤maxLen∧w.rangeAt g (o+i*33) (abL x):=by
 obtain ⟨A',n',c',e,hn,hnc,hcm,hc⟩:=h
 injection e with e1 e2 e3
 subst e1 e2 e3
 obtain ⟨hi,rfl⟩:=List.getElem?_eq_some_iff.1 hx
 rw [wL] at hn
 obtain rfl:n=xs.length:=VP (by decide) hn
 obtain ⟨b,o,rfl,hcell⟩:=hc (by omega)
 have key:w.rangeAt b (o+i*33) (abL xs[i]):=fun j u hu=>by
  have hj:j<33:=(List.getElem?_eq_some_iff.1 hu).1
  rw [V4]
  exact hcell (i*33+j) u ((mS abL 33 tQ xs i hi j hj).trans hu)
 exact ⟨b,o,rfl,World.block_lt_of_cell? w _ (key 0 _ rfl),rfl,hnc,hcm,key⟩
structure LkZ (w wr:World) (row:Array Value):Prop where
 a:wr.heap[w.heap.size]?=some (.cells row 77 (0,0))
 z:aX wr (w.heap.size+1) bQ (.slice none 0 0)
theorem LkZ.ext {w wr wx:World}{row:Array Value} (h:LkZ w wr row) (e:Ext wr wx):LkZ w wx row:=⟨(e.block _ (a9 h.a)).trans h.a,h.z.ext e⟩
def GPq (B:Nat) (c:NC) (x:AB) (m:MA) (k:Int):aE:=fun v w=>∃ g,v=.tuple #[abV x,maV m (.slice (some ⟨g,0,none⟩) 1 1),.int .i64 k]∧B≤g∧w.heap[g]?=some (.cells (aF c).toArray 56 (0,0))
theorem wQ (B:Nat) (c:NC) (x:AB) (m:MA) (k:Int) (G:Nat→Prop):(RG amT G).stable (GPq B c x m k):=fun v w w' r ⟨g,h1,h2,h3⟩=>⟨g,h1,h2,r.other h3 nC⟩
def GPr (B:Nat) (c:NC) (m:MA):aE:=fun v w=>∃ g,v=maV m (.slice (some ⟨g,0,none⟩) 1 1)∧B≤g∧w.heap[g]?=some (.cells (aF c).toArray 56 (0,0))
theorem G8 (B:Nat) (c:NC) (m:MA) (G:Nat→Prop):(RG amT G).stable (GPr B c m):=fun v w w' r ⟨g,h1,h2,h3⟩=>⟨g,h1,h2,r.other h3 nC⟩
def GPs (B:Nat) (c:NC) (m:MA):aE:=fun v w=>∃ p g,v=.pointer (some ⟨p,0,none⟩)∧B≤p∧aX w p m (.slice (some ⟨g,0,none⟩) 1 1)∧B≤g∧w.heap[g]?=some (.cells (aF c).toArray 56 (0,0))
theorem GPs.ext {B:Nat}{c:NC}{m:MA} (v:Value) (w w':World) (e:Ext w w') (h:GPs B c m v w):GPs B c m v w':=by
 obtain ⟨p,g,h1,h2,h3,h4,h5⟩:=h
 exact ⟨p,g,h1,h2,h3.ext e,h4,(e.block _ (a9 h5)).trans h5⟩
theorem GPs.st {B:Nat}{c:NC}{m:MA}{G:Nat→Prop} (T:Nat) (hT:T≠80) (v:Value) (w w':World) (e:(RG amT G).st T w w') (h:GPs B c m v w):GPs B c m v w':=by
 obtain ⟨p,g,h1,h2,h3,h4,h5⟩:=h
 exact ⟨p,g,h1,h2,e.2.other h3 (fun q=>hT (List.mem_singleton.1 q).symm),h4,e.2.other h5 (fun q=>nC (List.mem_singleton.1 q ▸ e.1))⟩
def UH (B:Nat) (c:NC):aE:=fun v w=>∃ g,v=.slice (some ⟨g,0,none⟩) 1 1∧B≤g∧w.heap[g]?=some (.cells (aF c).toArray 56 (0,0))
theorem DU (B:Nat) (c:NC) (G:Nat→Prop):(RG amT G).stable (UH B c):=fun v w w' r ⟨g,h1,h2,h3⟩=>⟨g,h1,h2,r.other h3 nC⟩
def UI (B:Nat):aE:=fun v w=>∃ g c,v=.slice (some ⟨g,0,none⟩) 1 1∧B≤g∧w.heap[g]?=some (.cells (aF c).toArray 56 (0,0))∧smN c
theorem DW (B:Nat):bK (UI B):=fun v w w' e ⟨g,c,h1,h2,h3,h4⟩=>⟨g,c,h1,h2,(e.block _ (a9 h3)).trans h3,h4⟩
theorem OK {w:World}{B g:Nat}{c:NC} (hB:B≤g) (h:w.heap[g]?=some (.cells (aF c).toArray 56 (0,0))):aJ w B 56 11 (.slice (some ⟨g,0,none⟩) 1 1) (aA [c]) :=
 ⟨_,1,1,rfl,rfl,.inr ⟨g,_,rfl,hB,h,UX _,by unfold maxLen;omega,rfl,rfl⟩⟩
theorem aX.put_num {w:World}{g:Nat}{m:MA}{v:Value} (h:aX w g m v) (x:Int):aX (w.setCell ⟨g,1,none⟩ (.int .i64 x)) g ⟨m.st,x,m.day,m.roots,m.sg,m.e,m.s⟩ v:=aG h 1 (.int .i64 x)
theorem aX.put_day {w:World}{g:Nat}{m:MA}{v:Value} (h:aX w g m v) (x:Int):aX (w.setCell ⟨g,2,none⟩ (.int .i64 x)) g ⟨m.st,m.num,x,m.roots,m.sg,m.e,m.s⟩ v:=aG h 2 (.int .i64 x)
theorem aX.put_st {w:World}{g:Nat}{m:MA}{v:Value} (h:aX w g m v) (x:List UInt8):aX (w.setCell ⟨g,0,none⟩ (.string (aI x))) g ⟨x,m.num,m.day,m.roots,m.sg,m.e,m.s⟩ v:=aG h 0 (.string (aI x))
theorem aX.put_s {w:World}{g:Nat}{m:MA}{v:Value} (h:aX w g m v) (x:Int):aX (w.setCell ⟨g,16,none⟩ (.int .i64 x)) g ⟨m.st,m.num,m.day,m.roots,m.sg,m.e,x⟩ v:=aG h 16 (.int .i64 x)
theorem aX.put_rt {w:World}{g:Nat}{m:MA}{v u:Value} (h:aX w g m v) (l:List NC):aX (w.setCell ⟨g,3,none⟩ u) g ⟨m.st,m.num,m.day,l,m.sg,m.e,m.s⟩ u:=aG h 3 u
theorem aX.put_sg {w:World}{g:Nat}{m:MA}{v:Value} (h:aX w g m v) (c:NC):aX (w.setCells g 4 (aF c)) g ⟨m.st,m.num,m.day,m.roots,c,m.e,m.s⟩ v:=by
 have h9:=jZ (aF c) [.string (aI m.st),.int .i64 m.num,.int .i64 m.day,v] [.int .i64 m.e,.int .i64 m.s] w g (aF m.sg) 80 (0,0) h rfl
 rw [fJ]
 exact h9
theorem aX.sgR {w:World}{g:Nat}{m:MA}{v:Value} (h:aX w g m v):w.rangeAt g 4 (aF m.sg):=fun j u hu=>by
 have hj:j<11:=(List.getElem?_eq_some_iff.1 hu).1
 rw [cell_of_row w g _ _ _ _ h,List.getElem?_toArray]
 have e:aB m v=[.string (aI m.st),.int .i64 m.num,.int .i64 m.day,v]++(aF m.sg++[.int .i64 m.e,.int .i64 m.s]):=rfl
 rw [e,List.getElem?_append_right (by show 4≤4+j;omega),show 4+j - ([.string (aI m.st),.int .i64 m.num,.int .i64 m.day,v]:List Value).length=j by show 4+j - 4=j;omega,List.getElem?_append_left (by show j<11;exact hj)]
 exact hu
theorem wR:bK GCt:=fun _ _ _ _ h=>h
def LkR (w:World) (m0:MA) (m12:Int) (e:Ending) (w':World):Prop:=∃ (m:MA) (A:Option Addr) (n c:Nat),e=.returned (maV m (.slice A n c))∧Ext w w'∧cE w' 0 56 11 (.slice A n c) (aA m.roots)∧(7≤m12→m=m0)∧smL m.roots∧smN m.sg∧m.st.length≤maxLen∧m.roots.length≤10
set_option maxHeartbeats 16000000 in
theorem G9 (s0 s1 s2 s3 s4:SlT) (day:Int) {A:Option Addr}{c:Nat}{xs:List AB} (who what bye:Int) (i:Nat) (xi xj:AB) (ai aj:AU) (di dj:List Int) (cj:NC) (tj:List NC) (w:World)
 (hA:RdK w 33 (.slice A 2 c) (rQ xs)) (hi:eF who 2=(i:Int)) (hxi:xs[i]?=some xi) (hxj:xs[1 - i]?=some xj) (Si:AuS 3 w xi ai di) (Sj:AuS 3 w xj aj dj) (erj:aj.roots=cj::tj)
 (d0:40000≤day) (d1:day≤41000) (hw:mA who) (hwh:mA what) (b0:-1000≤bye) (b1:bye≤1000) (E:dI w 0) :
 Calls Tryz.prog 49 #[.agg (fL (.slice A 2 c) s0 s1 s2 s3 s4 day),.int .i64 who,.int .i64 what,.int .i64 bye] w (LkR w (d9 xi.lsec ⟨xi.st,xi.li,day,[cj],xi.ls,0,0⟩) (eF what 12)):=by
 obtain ⟨wa,hwa,ea,TA⟩:=OJ w (.slice A 2 c) s0 s1 s2 s3 s4 day
 obtain ⟨wz,hwz,ez,TZ⟩:=iB wa bQ (.slice none 0 0)
 have has:wa.heap.size=w.heap.size+1:=by rw [hwa];simp
 have hzs:wz.heap.size=w.heap.size+1+1:=by rw [hwz];simp [has]
 rw [has] at TZ
 have hwz2:wz=wa.alloc (.cells #[.string ⟨#[]⟩,.int .i64 0,.int .i64 0,.slice none 0 0,.string ⟨#[]⟩,.int .i64 0,.int .i64 0,.int .i64 0,.int .i64 0,.int .i64 0,.int .i64 0,.int .i64 0,.int .i64 0,.int .i64 0,.int .i64 0,.int .i64 0,.int .i64 0] 80):=hwz
 clear hwz
 have X0:=VR (ea.tr ez)
 have Z0:=VR (show LkZ w wz (fL (.slice A 2 c) s0 s1 s2 s3 s4 day) from ⟨(ez.block _ (a9 TA)).trans TA,TZ⟩)
 have HZS:=VR hzs
 have HMW:=VR (fun W=>gN who 2 W hw.1 hw.2 (by omega))
 have HMH:=VR (fun W=>gN what 12 W hwh.1 hwh.2 (by omega))
 have HM5:=VR (fun W=>gN bye 5 W (by omega) (by omega) (by omega))
 have HSPO:=VR (fun (y:NC) (k:Int) W (hy:smN y) (h0:0≤k) (h1:k<1000)=>KL y bye k W hy ⟨by omega,by omega⟩ h0 h1)
 have HST:=VR (fun W=>pB bye W ⟨by omega,by omega⟩)
 have HBN:=VR (rN bye)
 have hi2':i<2:=by have:=iP (x:=who) (m:=2) (by omega);omega
 rw [hi] at HMW
 obtain ⟨gA,oA,rfl,hglr,hnl,h2c,hcm,Ri⟩:=SU hA hxi
 obtain ⟨gA',oA',e',-,-,-,-,Rj⟩:=SU hA hxj
 injection e' with e'
 injection e' with e1 e2
 subst e1 e2
 unfold maxLen at hcm
 obtain ⟨AJ,cJ,eRj,-,-⟩:=lO (l:=aj.roots) Sj.R.rd
 have qqj:RdN w (.slice AJ aj.roots.length cJ) (cj::tj):=by
  have hq:RdN w xj.R aj.roots:=Sj.R.rd
  rw [eRj,erj] at hq
  rw [erj]
  exact hq
 obtain ⟨bcj,ocj,hAj,hbcj,Kcj⟩:=qL qqj
 subst hAj
 have h0cj:0<(aj.roots.length:Int):=by rw [erj,VC];omega
 obtain ⟨jn,hjn⟩:∃ jn:Nat,1 - i=jn:=⟨_,rfl⟩
 rw [hjn] at Rj
 have hjn2:1 - (i:Int)=(jn:Int):=by omega
 have wj:IntKind.i64.wrap (1 - (i:Int))=(jn:Int):=by rw [hjn2];exact IntWalk.i64_in _ (by omega)
 have hjl:jn<2:=by omega
 have XZ:=ea.tr ez
 have HGj:=VR (show wz.cell? ⟨gA,oA+jn*33+1,none⟩=some (.slice (some ⟨bcj,ocj,none⟩) aj.roots.length cJ) from (XZ.cell (p:=⟨gA,oA+jn*33+1,none⟩) hglr).trans (by rw [← eRj];exact Rj 1 _ rfl))
 have HRi:=VR (cW Ri hglr XZ)
 have HKcj:=VR (cW Kcj hbcj XZ)
 have hgz:gA<wz.heap.size:=VG hglr XZ.size
 have hbz:bcj<wz.heap.size:=VG hbcj XZ.size
 have HSMj:=VR (show smN cj from Sj.sm.1 cj (by rw [erj];exact VM))
 have hsl:=Si.sm.2.2.2
 rw [← Si.ls] at hsl
 have hst:xi.st.length≤maxLen:=by rw [Si.st];have:=Si.ai.st.1.2;unfold maxLen;omega
 have hli:=Si.li
 have HOK:=VR (show (iO xi.lsec ⟨xi.st,xi.li,day,[cj],xi.ls,0,0⟩)=0∧((d9 xi.lsec ⟨xi.st,xi.li,day,[cj],xi.ls,0,0⟩)).roots=[cj]∧((d9 xi.lsec ⟨xi.st,xi.li,day,[cj],xi.ls,0,0⟩)).sg=xi.ls∧((d9 xi.lsec ⟨xi.st,xi.li,day,[cj],xi.ls,0,0⟩)).st=xi.st from by
  obtain ⟨k1,k2⟩:=OH Si.ai (fun q=>by have:=Si.ne.1;rw [q] at this;exact absurd this (by decide)) Sj.ai (c:=cj) (i:=0) (by rw [erj];rfl) (li:=xi.li) (day:=day) (e:=0) (s:=0) (by omega) (by omega) d0 d1
  rw [← Si.lsec] at k1
  rw [← Si.st,← Si.ls] at k2
  refine ⟨AE k1 k2,?_,?_,?_⟩ <;> rw [qJ k1 k2] <;> rfl)
 have HPB:=VR (fun W (e:Ext w W) (v:Value) (hv:RdN W v [cj])=>kW xi [cj] v day W hv (fun q hq=>by rw [List.mem_singleton.1 hq];exact HSMj.out) hsl hst (by omega) (by omega) Si.one (E.below e))
 have HSX:=VR (And.intro hsl (And.intro hst Si.one))
 clear hA hi hxi hxj Si Sj erj d0 d1 hw hwh ea ez TA TZ has hzs Ri Rj eRj qqj hbcj Kcj hjn XZ hsl hst hli hnl E hglr
 have wi1:IntKind.i64.wrap ((i:Int))=(i:Int):=IntWalk.i64_in _ (by omega)
 have zi1:(0:Int)≤(i:Int):=by omega
 have li1:(i:Int)<2:=by omega
 have ti1:((i:Int)).toNat=i:=by omega
 have wi2:IntKind.i64.wrap ((jn:Int))=(jn:Int):=IntWalk.i64_in _ (by omega)
 have zi2:(0:Int)≤(jn:Int):=by omega
 have li2:(jn:Int)<2:=by omega
 have ti2:((jn:Int)).toNat=jn:=by omega
 unfold fL
 go_enter Tryz.func49,Tryz.ntmps49
 go_upto_region 1 with fail
 rw [← hwa,← hwz2]
 clear hwa hwz2
 go_wp2_with fail
 refine (HMW.out _).mono ?_
 rintro e w' ⟨rfl,rfl⟩
 clear HMW
 go_upto_region 2 with fail
 refine Gt.aO (r:=(RG amT (fun q=>wz.heap.size≤q))) 26 (by kernel_rfl) (by kernel_rfl) ?_
 simp only [VH,VE,VI,VJ]
 intro wq hw1
 have LR:∀ m1:(RG amT (fun q=>wz.heap.size≤q)).Lt wq,RgS amT (fun q=>wz.heap.size≤q) wz m1.1:=fun m1=>RgS.tr hw1 m1.2
 have LL:∀ m1:(RG amT (fun q=>wz.heap.size≤q)).Lt wq,Ext wz m1.1:=fun m1=>(LR m1).below (fun _ h=>h) (UX _)
 have ZL:=fun m1:(RG amT (fun q=>wz.heap.size≤q)).Lt wq=>(Z0.out.ext (LL m1)).a
 have p0:∀ m1:(RG amT (fun q=>wz.heap.size≤q)).Lt wq,m1.1.cell? ⟨w.heap.size,0,none⟩=some (.slice (some ⟨gA,oA,none⟩) 2 c):=fun m1=>by rw [cell_of_row _ _ 0 _ _ _ (ZL m1)];rfl
 have p6:∀ m1:(RG amT (fun q=>wz.heap.size≤q)).Lt wq,m1.1.cell? ⟨w.heap.size,6,none⟩=some (.int .i64 day):=fun m1=>by rw [cell_of_row _ _ 6 _ _ _ (ZL m1)];rfl
 have pl:=fun m1:(RG amT (fun q=>wz.heap.size≤q)).Lt wq=>a9 (ZL m1)
 clear ZL
 have kj:=fun m1:(RG amT (fun q=>wz.heap.size≤q)).Lt wq=>((LL m1).cell (p:=⟨gA,oA+jn*33+1,none⟩) hgz).trans HGj.out
 have kl:=fun m1:(RG amT (fun q=>wz.heap.size≤q)).Lt wq=>VG hgz (LL m1).size
 have KI:∀ m1:(RG amT (fun q=>wz.heap.size≤q)).Lt wq,m1.1.rangeAt gA (oA+i*33) (abL xi):=fun m1=>cW HRi.out hgz (LL m1)
 have KRj:∀ m1:(RG amT (fun q=>wz.heap.size≤q)).Lt wq,m1.1.rangeAt bcj ocj (aF cj):=fun m1=>cW HKcj.out hbz (LL m1)
 repeat (refine Gt.aD (by first | exact trivial | exact ⟨_,rfl,rfl,rfl⟩) rfl rfl rfl rfl rfl (fun K hK=>?_);go_big_quiet_op;refine hK _ ?_;clear hK K)
 refine Gt.wpX_midK (by first | exact trivial | exact ⟨_,rfl,rfl,rfl⟩) (gA) (oA+i*33) (abL xi) rfl rfl rfl rfl rfl KI Tryz.underlying98 rfl dF ?_
 simp only [Act.put,UY,UZ,V0]
 repeat (refine Gt.aD (by first | exact trivial | exact ⟨_,rfl,rfl,rfl⟩) rfl rfl rfl rfl rfl (fun K hK=>?_);go_big_quiet_op;refine hK _ ?_;clear hK K)
 refine Gt.wpX_midK (by first | exact trivial | exact ⟨_,rfl,rfl,rfl⟩) (bcj) (ocj) (aF cj) rfl rfl rfl rfl rfl KRj Tryz.underlying56 rfl bT ?_
 simp only [Act.put,UY,UZ,V0]
 refine Gt.bJ (by first | exact trivial | exact ⟨_,rfl,rfl,rfl⟩) (UH wz.heap.size cj) (DU _ _ _) (fun _=>[(0,.agg (aF cj).toArray)]) rfl rfl rfl rfl rfl (fun _=>rfl) (fun m1 f hf=>⟨_,_,wO m1.1 cj,(Below.refl _ _).alloc (UX _) _,m1.1.heap.size,rfl,(LL m1).size,aC _ _⟩) ?_
 simp only [Act.put,UY,UZ,V0]
 repeat (refine Gt.aD (by first | exact trivial | exact ⟨_,rfl,rfl,rfl⟩) rfl rfl rfl rfl rfl (fun K hK=>?_);go_big_quiet_op;refine hK _ ?_;clear hK K)
 refine Gt.aU (by first | exact trivial | exact ⟨_,rfl,rfl,rfl⟩) (GPq wz.heap.size cj { xi with li:=xi.li+1 } (d9 xi.lsec ⟨xi.st,xi.li,day,[cj],xi.ls,0,0⟩) (iO xi.lsec ⟨xi.st,xi.li,day,[cj],xi.ls,0,0⟩)) (wQ _ _ _ _ _ _) (fun f=>[.agg (abL xi).toArray,f 30,.int .i64 day]) rfl rfl rfl rfl rfl (by kernel_rfl) rfl (fun _=>rfl) (fun m1 f hf=>?_) ?_
 · obtain ⟨g,e30,hg,hrow⟩:=hf 30 _ rfl rfl
   rw [e30]
   refine (HPB.out m1.1 (X0.out.tr (LL m1)) _ (FY hrow)).mono ?_
   rintro e w'' ⟨A5,n5,c5,rfl,r5,b5,hq5⟩
   have hr:=HOK.out.2.1
   rcases hq5 with hq5 | hq5
   · rw [hq5]
     exact ⟨_,rfl,b5,g,rfl,hg,(b5.block _ (a9 hrow)).trans hrow⟩
   · rw [hq5,hr] at r5
     obtain ⟨_,_,_,q1,q2,-⟩:=r5
     injection q1 with _ q1 _
     rw [← q1] at q2
     exact absurd q2 (by show ¬ 0*11=11;decide)
 simp only [Act.put,UY,UZ,V0]
 have HOK2:=HOK
 generalize (d9 xi.lsec ⟨xi.st,xi.li,day,[cj],xi.ls,0,0⟩)=mm at *
 generalize (iO xi.lsec ⟨xi.st,xi.li,day,[cj],xi.ls,0,0⟩)=kk2 at *
 refine Gt.wpX_movU (by first | exact trivial | exact ⟨_,rfl,rfl,rfl⟩) (GPq wz.heap.size cj { xi with li:=xi.li+1 } mm kk2) (wQ _ _ _ _ _ _) (fun f=>f 33) rfl rfl rfl rfl rfl (fun _=>rfl) (fun m1 f hf=>hf 33 _ rfl rfl) ?_
 simp only [Act.put,UY,UZ,V0]
 refine Gt.j0 (by first | exact trivial | exact ⟨_,rfl,rfl,rfl⟩) (fun v _=>v=abV { xi with li:=xi.li+1 }) (Gt.Rl.stable_eq _ _) (fun f=>f 15) rfl rfl rfl rfl rfl (fun _=>rfl) (fun m1 f hf=>by obtain ⟨g5,h5,o5⟩:=hf 15 _ rfl rfl;rw [h5];exact ⟨_,_,(lP _ _ _ _).1,Below.refl _ _,rfl⟩) ?_
 simp only [Act.put,UY,UZ,V0]
 refine Gt.j0 (by first | exact trivial | exact ⟨_,rfl,rfl,rfl⟩) (GPr wz.heap.size cj mm) (G8 _ _ _ _) (fun f=>f 15) rfl rfl rfl rfl rfl (fun _=>rfl) (fun m1 f hf=>by obtain ⟨g5,h5,o5⟩:=hf 15 _ rfl rfl;rw [h5];exact ⟨_,_,(lP _ _ _ _).2.1,Below.refl _ _,g5,rfl,o5⟩) ?_
 simp only [Act.put,UY,UZ,V0]
 refine Gt.j0 (by first | exact trivial | exact ⟨_,rfl,rfl,rfl⟩) (fun v _=>v=.int .i64 kk2) (Gt.Rl.stable_eq _ _) (fun f=>f 15) rfl rfl rfl rfl rfl (fun _=>rfl) (fun m1 f hf=>by obtain ⟨g5,h5,o5⟩:=hf 15 _ rfl rfl;rw [h5];exact ⟨_,_,(lP _ _ _ _).2.2,Below.refl _ _,rfl⟩) ?_
 simp only [Act.put,UY,UZ,V0]
 refine Gt.wpX_allocA33 wz.heap.size (fun m1=>(LL m1).size) (sV _ _ _) (by first | exact trivial | exact ⟨_,rfl,rfl,rfl⟩) rfl rfl rfl rfl ?_
 simp only [Act.put,UY,UZ,V0]
 refine Gt.wpX_allocM17 wz.heap.size (fun m1=>(LL m1).size) (kN _ _ _) (by first | exact trivial | exact ⟨_,rfl,rfl,rfl⟩) rfl rfl rfl rfl ?_
 simp only [Act.put,UY,UZ,V0]
 refine Gt.fS (by first | exact trivial | exact ⟨_,rfl,rfl,rfl⟩) (qM wz.heap.size { xi with li:=xi.li+1 }) (fun f=>f 10) (fun f=>f 34) rfl rfl rfl rfl rfl (fun _=>rfl) (fun _=>rfl) qM.ext qM.st (fun m1 f hf=>?_) ?_
 · obtain ⟨g,e9,hg,cs9,q1,q2⟩:=hf 10 _ rfl rfl
   have e5:f 34=abV { xi with li:=xi.li+1 }:=hf 34 _ rfl rfl
   rw [e9,e5]
   exact ⟨_,fR (cells:=bU { xi with li:=xi.li+1 }) q1 dF q2 (eR ⟨HSX.out.2.2.R,HSX.out.2.2.L,HSX.out.2.2.S,HSX.out.2.2.V,HSX.out.2.2.D,HSX.out.2.2.Z⟩),⟨G0,RgS.setRow q1 (List.mem_singleton.2 rfl) hg q2.symm⟩,g,rfl,hg,aZ q1⟩
 refine Gt.fS (by first | exact trivial | exact ⟨_,rfl,rfl,rfl⟩) (GPs wz.heap.size cj mm) (fun f=>f 11) (fun f=>f 35) rfl rfl rfl rfl rfl (fun _=>rfl) (fun _=>rfl) GPs.ext GPs.st (fun m1 f hf=>?_) ?_
 · obtain ⟨g,e9,hg,cs9,q1,q2⟩:=hf 11 _ rfl rfl
   obtain ⟨g5,h5,hg5,o5⟩:=hf 35 _ rfl rfl
   rw [e9,h5]
   have hR:=RgS.setRow (S:=[80]) (G:=fun q=>wz.heap.size≤q) (cs':=(aB mm (.slice (some ⟨g5,0,none⟩) 1 1)).toArray) q1 (List.mem_singleton.2 rfl) hg q2.symm
   exact ⟨_,fR (cells:=(aB mm (.slice (some ⟨g5,0,none⟩) 1 1)).toArray) q1 aN q2 (dZ mm (.slice (some ⟨g5,0,none⟩) 1 1) rfl),⟨G1,hR⟩,g,g5,rfl,hg,aZ q1,hg5,hR.other o5 (by decide)⟩
 refine Gt.wpX_endG rfl (fun m1 f hf hqs=>?_)
 have hq2:GPs wz.heap.size cj mm (f 11) m1.1:=hqs _ VM
 have hq1:qM wz.heap.size { xi with li:=xi.li+1 } (f 10) m1.1:=hqs _ (VQ _ VM)
 have e36:f 36=.int .i64 kk2:=hf 36 _ rfl
 obtain ⟨gm,gl,e9,hgm,T9,hgl,O9⟩:=hq2
 obtain ⟨g8,e8,hg8,T8⟩:=hq1
 simp only [aV]
 simp only [Act.put,UY,UZ,V0]
 rw [e8,e9,e36]
 have X3:=VR (LL m1)
 have T3:=VR T9
 have HROW:=VR O9
 clear hw1 LR LL p0 p6 pl kj kl KI KRj hqs hf e8 e9 e36 T8 T9 O9
 generalize m1.1=w3 at *
 generalize f 30=f30 at *
 generalize f 33=f33 at *
 generalize f 15=f15 at *
 generalize f 34=f34 at *
 generalize f 35=f35 at *
 clear m1 f
 show wpList _ _ _ _ _ _
 clear HGj HRi HKcj hgz hbz h2c hcm h0cj wj hjn2 hjl hi2' HPB
 obtain ⟨-,hrt,hsg,hst⟩:=HOK2.out
 have HSG:=VR (show smN mm.sg by rw [hsg];exact HSX.out.1)
 have HSTL:=VR (show mm.st.length≤maxLen by rw [hst];exact HSX.out.2.1)
 clear HOK HOK2 HSX hsg hst
 obtain ⟨m0,hm0⟩:∃ m0,m0=mm:=⟨_,rfl⟩
 have HM0:=VR hm0
 rw [← hm0]
 clear hm0
 obtain ⟨st,num,dy,rts,sg,es,ss⟩:=mm
 simp only at hrt
 subst hrt
 dsimp only at HSG HSTL
 have HO3:=VR (OK hgl HROW.out)
 have Z3:=VR (show aX w3 (w.heap.size+1) bQ (.slice none 0 0) from Z0.out.z.ext X3.out)
 have XW:=VR (X0.out.tr X3.out)
 have HSM1:=VR (show smL [cj] from fun q hq=>by rw [List.mem_singleton.1 hq];exact HSMj.out)
 have hgm2:w.heap.size+1<gm:=by have:=HZS.out;omega
 have hgl2:w.heap.size+1<gl:=by have:=HZS.out;omega
 have hne:w.heap.size+1≠gm:=by omega
 have hng:gl≠gm:=fun q=>by subst q;have h1:=HROW.out;have h2:w3.heap[gl]?=_:=T3.out;rw [h1] at h2;exact absurd h2 (by intro q;injection q with q;injection q with _ q _;exact absurd q (by decide))
 go_wp2_with fail
 refine (HMH.out _).mono ?_
 rintro e w' ⟨rfl,rfl⟩
 have c12:eF what 12=0 ∨ eF what 12=1 ∨ eF what 12=2 ∨ eF what 12=3 ∨ eF what 12=4 ∨ eF what 12=5 ∨ eF what 12=6 ∨ 7≤eF what 12:=by have:=iP (x:=what) (m:=12) (by omega);omega
 generalize eF what 12=m12 at *
 clear HMH
 have K5:=iP (x:=bye) (m:=5) (by omega)
 generalize eF bye 5=m5 at *
 have wk5:IntKind.i64.wrap (1+m5)=1+m5:=IntWalk.i64_in _ (by omega)
 generalize gE bye=sb at *
 have HMO:=VR (fun W=>gN (wrap64 (ss+bye)) 1073741789 W (nS _).1 (nS _).2 (by omega))
 generalize eF (wrap64 (ss+bye)) 1073741789=ms at *
 rcases c12 with rfl | rfl | rfl | rfl | rfl | rfl | rfl | h7
 · have c1:=T3.out.c1
   have f1:=T3.out.frozen 1
   have ml:=T3.out.lt
   obtain ⟨w9,hw9⟩:∃ w9,w9=w3.setCell ⟨gm,1,none⟩ (.int .i64 (wrap64 (num+bye))):=⟨_,rfl⟩
   have T9:Hid (aX w9 gm ⟨st,(wrap64 (num+bye)),dy,[cj],sg,es,ss⟩ (.slice (some ⟨gl,0,none⟩) 1 1)):=by rw [hw9];exact aX.put_num (m:=⟨st,num,dy,[cj],sg,es,ss⟩) T3.out (wrap64 (num+bye))
   have Z9:Hid (aX w9 (w.heap.size+1) bQ (.slice none 0 0)):=by rw [hw9];exact Z3.out.other hne
   have X9:Hid (Ext w w9):=by rw [hw9];exact aH XW.out (by omega)
   have O9:Hid (aJ w9 wz.heap.size 56 11 (.slice (some ⟨gl,0,none⟩) 1 1) (aA [cj])):=by rw [hw9];exact VR (HO3.out.grown (Gb.set gm 1 w3 (.int .i64 (wrap64 (num+bye)))) (.inr (HO3.out.row_blk T3.out.row (by decide))))
   have hws:=hw9.symm
   clear hw9
   go_wp2_with (first | (refine wpList_load_row rfl 80 _ rfl gm rfl 80 (aB ⟨st,(wrap64 (num+bye)),dy,[cj],sg,es,ss⟩ (.slice (some ⟨gl,0,none⟩) 1 1)).toArray (0,0) _ T9.out.row Tryz.underlying80 rfl aN ?_) | (refine aK rfl 80 _ _ rfl rfl (w.heap.size+1) (aB ⟨st,(wrap64 (num+bye)),dy,[cj],sg,es,ss⟩ (.slice (some ⟨gl,0,none⟩) 1 1)).toArray rfl rfl 80 (aB bQ (.slice none 0 0)).toArray Z9.out.row aN rfl (dZ ⟨st,(wrap64 (num+bye)),dy,[cj],sg,es,ss⟩ (.slice (some ⟨gl,0,none⟩) 1 1) rfl) ?_))
   refine bodyPost_ret (v:=.agg (aB ⟨st,(wrap64 (num+bye)),dy,[cj],sg,es,ss⟩ (.slice (some ⟨gl,0,none⟩) 1 1)).toArray) ?_ rfl ⟨⟨st,(wrap64 (num+bye)),dy,[cj],sg,es,ss⟩,_,_,_,rfl,aQ X9.out (Nat.le_succ _) _,(O9.out.setR (fun q=>by have:=aT O9.out _ q;have:=HZS.out;omega)).safe 0,(fun q=>absurd q (by decide)),HSM1.out,HSG.out,HSTL.out,(by show 1≤10;omega)⟩
   exact results_cell_row rfl _ _ (w.heap.size+1) 80 (aB ⟨st,(wrap64 (num+bye)),dy,[cj],sg,es,ss⟩ (.slice (some ⟨gl,0,none⟩) 1 1)).toArray (0,0) _ rfl (aZ Z9.out.row) Tryz.underlying80 rfl aN
 · have c2:=T3.out.c2
   have f2:=T3.out.frozen 2
   have ml:=T3.out.lt
   obtain ⟨w9,hw9⟩:∃ w9,w9=w3.setCell ⟨gm,2,none⟩ (.int .i64 (wrap64 (dy+bye))):=⟨_,rfl⟩
   have T9:Hid (aX w9 gm ⟨st,num,(wrap64 (dy+bye)),[cj],sg,es,ss⟩ (.slice (some ⟨gl,0,none⟩) 1 1)):=by rw [hw9];exact aX.put_day (m:=⟨st,num,dy,[cj],sg,es,ss⟩) T3.out (wrap64 (dy+bye))
   have Z9:Hid (aX w9 (w.heap.size+1) bQ (.slice none 0 0)):=by rw [hw9];exact Z3.out.other hne
   have X9:Hid (Ext w w9):=by rw [hw9];exact aH XW.out (by omega)
   have O9:Hid (aJ w9 wz.heap.size 56 11 (.slice (some ⟨gl,0,none⟩) 1 1) (aA [cj])):=by rw [hw9];exact VR (HO3.out.grown (Gb.set gm 2 w3 (.int .i64 (wrap64 (dy+bye)))) (.inr (HO3.out.row_blk T3.out.row (by decide))))
   have hws:=hw9.symm
   clear hw9
   go_wp2_with (first | (refine wpList_load_row rfl 80 _ rfl gm rfl 80 (aB ⟨st,num,(wrap64 (dy+bye)),[cj],sg,es,ss⟩ (.slice (some ⟨gl,0,none⟩) 1 1)).toArray (0,0) _ T9.out.row Tryz.underlying80 rfl aN ?_) | (refine aK rfl 80 _ _ rfl rfl (w.heap.size+1) (aB ⟨st,num,(wrap64 (dy+bye)),[cj],sg,es,ss⟩ (.slice (some ⟨gl,0,none⟩) 1 1)).toArray rfl rfl 80 (aB bQ (.slice none 0 0)).toArray Z9.out.row aN rfl (dZ ⟨st,num,(wrap64 (dy+bye)),[cj],sg,es,ss⟩ (.slice (some ⟨gl,0,none⟩) 1 1) rfl) ?_))
   refine bodyPost_ret (v:=.agg (aB ⟨st,num,(wrap64 (dy+bye)),[cj],sg,es,ss⟩ (.slice (some ⟨gl,0,none⟩) 1 1)).toArray) ?_ rfl ⟨⟨st,num,(wrap64 (dy+bye)),[cj],sg,es,ss⟩,_,_,_,rfl,aQ X9.out (Nat.le_succ _) _,(O9.out.setR (fun q=>by have:=aT O9.out _ q;have:=HZS.out;omega)).safe 0,(fun q=>absurd q (by decide)),HSM1.out,HSG.out,HSTL.out,(by show 1≤10;omega)⟩
   exact results_cell_row rfl _ _ (w.heap.size+1) 80 (aB ⟨st,num,(wrap64 (dy+bye)),[cj],sg,es,ss⟩ (.slice (some ⟨gl,0,none⟩) 1 1)).toArray (0,0) _ rfl (aZ Z9.out.row) Tryz.underlying80 rfl aN
 · go_upto_region 9 with fail
   refine Gd.aO 12 (by kernel_rfl) (by kernel_rfl) ?_
   simp only [VH,VE,VI,VJ]
   intro wq hw1
   have LL:∀ m1:Lt wq,Ext w3 m1.1:=fun m1=>hw1.tr m1.2
   have c3:=fun m1:Lt wq=>(T3.out.ext (LL m1)).c3
   have ml:=fun m1:Lt wq=>(T3.out.ext (LL m1)).lt
   have KR:∀ m1:Lt wq,m1.1.rangeAt gl 0 (aF cj):=fun m1 j u hu=>by rw [VB,cell_of_row _ _ j _ _ _ (((LL m1).block _ (a9 HROW.out)).trans HROW.out),List.getElem?_toArray];exact hu
   repeat (refine Gd.aD (by first | exact trivial | exact ⟨_,rfl,rfl,rfl⟩) rfl rfl rfl rfl rfl (fun K hK=>?_);go_big_quiet_op;refine hK _ ?_;clear hK K)
   refine Gd.wpX_midK (by first | exact trivial | exact ⟨_,rfl,rfl,rfl⟩) (gl) (0) (aF cj) rfl rfl rfl rfl rfl KR Tryz.underlying56 rfl bT ?_
   simp only [Act.put,UY,UZ,V0]
   repeat (refine Gd.aD (by first | exact trivial | exact ⟨_,rfl,rfl,rfl⟩) rfl rfl rfl rfl rfl (fun K hK=>?_);go_big_quiet_op;refine hK _ ?_;clear hK K)
   refine Gd.bZ (by first | exact trivial | exact ⟨_,rfl,rfl,rfl⟩) (.int .i64 m5) (args:=[.int .i64 bye,.int .i64 5]) rfl rfl rfl rfl (by kernel_rfl) rfl rfl (fun m1=>(HM5.out m1.1).mono fun _ _ ⟨h1,h2⟩=>⟨h1,h2 ▸ Below.refl _ _⟩) ?_
   simp only [Act.put,UY,UZ,V0]
   repeat (refine Gd.aD (by first | exact trivial | exact ⟨_,rfl,rfl,rfl⟩) rfl rfl rfl rfl rfl (fun K hK=>?_);go_big_quiet_op;refine hK _ ?_;clear hK K)
   refine Gd.aU (by first | exact trivial | exact ⟨_,rfl,rfl,rfl⟩) GCt wR (fun _=>[ncV cj,.int .i64 bye,.int .i64 (1+m5)]) rfl rfl rfl rfl rfl (by kernel_rfl) rfl (fun _=>rfl) (fun m1 f hf=>(HSPO.out cj (1+m5) m1.1 HSMj.out (by omega) (by omega)).mono fun e w' ⟨h1,c',h2,h3⟩=>⟨_,h3,h1,c',rfl,h2⟩) ?_
   simp only [Act.put,UY,UZ,V0]
   refine Gd.bJ (by first | exact trivial | exact ⟨_,rfl,rfl,rfl⟩) (UI wz.heap.size) (DW _) (fun f=>[(0,f 65)]) rfl rfl rfl rfl rfl (fun _=>rfl) (fun m1 f hf=>?_) ?_
   · obtain ⟨c',e65,hc'⟩:=hf 65 _ rfl rfl
     rw [e65]
     exact ⟨_,_,wO m1.1 c',(Below.refl _ _).alloc (UX _) _,m1.1.heap.size,c',rfl,V9 X3.out.size (LL m1).size,aC _ _,hc'⟩
   simp only [Act.put,UY,UZ,V0]
   refine Gd.cO (fun m1 f hf=>?_)
   obtain ⟨gx,c',e66,hgx,hrx,hsx⟩:=hf 66 _ rfl
   simp only [aV]
   simp only [Act.put,UY,UZ,V0]
   rw [e66]
   have X5:=VR (X3.out.tr (LL m1))
   have T5:=VR (T3.out.ext (LL m1))
   have O5:=VR (HO3.out.ext (LL m1))
   have HRK:=VR (FY hrx)
   have HSX5:=VR hsx
   clear hw1 LL c3 ml KR hf e66 hrx hsx
   generalize m1.1=w5 at *
   generalize f 65=f65 at *
   clear m1 f
   show wpList _ _ _ _ _ _
   go_upto_region 18 with (refine bP (k:=11) (by decide) gU (n:=1) (m:=1) (B:=wz.heap.size) (w0:=wz) O5.out rfl HRK.out rfl (dO c') X5.out (by omega) (by unfold maxLen;omega) X5.out.size rfl rfl rfl rfl ?_;intro A8 n8 c8 w8 hn8 o8 x8 g8;have t8:aX w8 gm ⟨st,num,dy,[cj],sg,es,ss⟩ (.slice (some ⟨gl,0,none⟩) 1 1):=(g8.block gm T5.out.lt (fun q=>O5.out.row_blk T5.out.row (by decide) q.symm)).trans T5.out;have T8:=VR t8;have c3:=T8.out.c3;have f3:=T8.out.frozen 3;have ml:=T8.out.lt)
   clear t8
   have O8:=VR (show aJ w8 wz.heap.size 56 11 (.slice A8 n8 c8) (aA [cj,c']) from o8)
   have Z8:=VR (Z0.out.z.ext x8)
   have X8:=VR (X0.out.tr x8)
   have HSM2:=VR (show smL [cj,c'] from fun q hq=>by
    simp only [List.mem_cons,List.not_mem_nil,or_false] at hq
    rcases hq with rfl | rfl
    · exact HSMj.out
    · exact HSX5.out)
   have T9:=VR (aX.put_rt (m:=⟨st,num,dy,[cj],sg,es,ss⟩) (u:=.slice A8 n8 c8) T8.out [cj,c'])
   have Z9:=VR (Z8.out.other (i:=3) (u:=.slice A8 n8 c8) hne)
   have X9:=VR (aH (g:=gm) (i:=3) (v:=.slice A8 n8 c8) X8.out (by show w.heap.size≤gm;omega))
   have O9:=VR (O8.out.grown (Gb.set gm 3 w8 (.slice A8 n8 c8)) (.inr (O8.out.row_blk T8.out.row (by decide))))
   clear o8 x8 g8 hn8 c3 f3 ml T8 Z8 X8 O8
   generalize w8.setCell ⟨gm,3,none⟩ (.slice A8 n8 c8)=w9 at *
   go_wp2_with (first | (refine wpList_load_row rfl 80 _ rfl gm rfl 80 (aB ⟨st,num,dy,[cj,c'],sg,es,ss⟩ (.slice A8 n8 c8)).toArray (0,0) _ T9.out.row Tryz.underlying80 rfl aN ?_) | (refine aK rfl 80 _ _ rfl rfl (w.heap.size+1) (aB ⟨st,num,dy,[cj,c'],sg,es,ss⟩ (.slice A8 n8 c8)).toArray rfl rfl 80 (aB bQ (.slice none 0 0)).toArray Z9.out.row aN rfl (dZ ⟨st,num,dy,[cj,c'],sg,es,ss⟩ (.slice A8 n8 c8) rfl) ?_))
   refine bodyPost_ret (v:=.agg (aB ⟨st,num,dy,[cj,c'],sg,es,ss⟩ (.slice A8 n8 c8)).toArray) ?_ rfl ⟨⟨st,num,dy,[cj,c'],sg,es,ss⟩,_,_,_,rfl,aQ X9.out (Nat.le_succ _) _,(O9.out.setR (fun q=>by have:=aT O9.out _ q;have:=HZS.out;omega)).safe 0,(fun q=>absurd q (by decide)),HSM2.out,HSG.out,HSTL.out,(by show 2≤10;omega)⟩
   exact results_cell_row rfl _ _ (w.heap.size+1) 80 (aB ⟨st,num,dy,[cj,c'],sg,es,ss⟩ (.slice A8 n8 c8)).toArray (0,0) _ rfl (aZ Z9.out.row) Tryz.underlying80 rfl aN
 · go_upto_region 11 with fail
   refine Gd.aO 8 (by kernel_rfl) (by kernel_rfl) ?_
   simp only [VH,VE,VI,VJ]
   intro wq hw1
   have LL:∀ m1:Lt wq,Ext w3 m1.1:=fun m1=>hw1.tr m1.2
   have ml:=fun m1:Lt wq=>(T3.out.ext (LL m1)).lt
   have KR:∀ m1:Lt wq,m1.1.rangeAt gm 4 (aF sg):=fun m1=>(T3.out.ext (LL m1)).sgR
   repeat (refine Gd.aD (by first | exact trivial | exact ⟨_,rfl,rfl,rfl⟩) rfl rfl rfl rfl rfl (fun K hK=>?_);go_big_quiet_op;refine hK _ ?_;clear hK K)
   refine Gd.wpX_midK (by first | exact trivial | exact ⟨_,rfl,rfl,rfl⟩) (gm) (4) (aF sg) rfl rfl rfl rfl rfl KR Tryz.underlying56 rfl bT ?_
   simp only [Act.put,UY,UZ,V0]
   repeat (refine Gd.aD (by first | exact trivial | exact ⟨_,rfl,rfl,rfl⟩) rfl rfl rfl rfl rfl (fun K hK=>?_);go_big_quiet_op;refine hK _ ?_;clear hK K)
   refine Gd.bZ (by first | exact trivial | exact ⟨_,rfl,rfl,rfl⟩) (.int .i64 m5) (args:=[.int .i64 bye,.int .i64 5]) rfl rfl rfl rfl (by kernel_rfl) rfl rfl (fun m1=>(HM5.out m1.1).mono fun _ _ ⟨h1,h2⟩=>⟨h1,h2 ▸ Below.refl _ _⟩) ?_
   simp only [Act.put,UY,UZ,V0]
   repeat (refine Gd.aD (by first | exact trivial | exact ⟨_,rfl,rfl,rfl⟩) rfl rfl rfl rfl rfl (fun K hK=>?_);go_big_quiet_op;refine hK _ ?_;clear hK K)
   refine Gd.aU (by first | exact trivial | exact ⟨_,rfl,rfl,rfl⟩) GCt wR (fun _=>[ncV sg,.int .i64 bye,.int .i64 (1+m5)]) rfl rfl rfl rfl rfl (by kernel_rfl) rfl (fun _=>rfl) (fun m1 f hf=>(HSPO.out sg (1+m5) m1.1 HSG.out (by omega) (by omega)).mono fun e w' ⟨h1,c',h2,h3⟩=>⟨_,h3,h1,c',rfl,h2⟩) ?_
   simp only [Act.put,UY,UZ,V0]
   repeat (refine Gd.aD (by first | exact trivial | exact ⟨_,rfl,rfl,rfl⟩) rfl rfl rfl rfl rfl (fun K hK=>?_);go_big_quiet_op;refine hK _ ?_;clear hK K)
   refine Gd.cO (fun m1 f hf=>?_)
   obtain ⟨c',e77,hc'⟩:=hf 77 _ rfl
   simp only [aV]
   simp only [Act.put,UY,UZ,V0]
   rw [e77]
   have X5:=VR (XW.out.tr (LL m1))
   have T5:=VR (T3.out.ext (LL m1))
   have O5:=VR (HO3.out.ext (LL m1))
   have Z5:=VR (Z3.out.ext (LL m1))
   have HSX5:=VR hc'
   clear hw1 LL ml KR hf e77 hc'
   generalize m1.1=w5 at *
   clear m1 f
   show wpList _ _ _ _ _ _
   have HTH:Hid (w5.there gm 4 11):=VR (fun j hj=>⟨by rw [T5.out.sgR j _ (V8 (by show j<11;exact hj))];rfl,T5.out.frozen _⟩)
   refine gX rfl 56 _ _ rfl rfl gm 4 (aF c') rfl rfl HTH.out bT (DL c') ?_
   have T9:=VR (aX.put_sg (m:=⟨st,num,dy,[cj],sg,es,ss⟩) T5.out c')
   have GB:=Gb.setCells gm (aF c') 4 w5
   have Z9:=VR (show aX (w5.setCells gm 4 (aF c')) (w.heap.size+1) bQ (.slice none 0 0) from (GB.block _ Z5.out.lt (fun q=>by injection q with q;exact hne q)).trans Z5.out)
   have X9:=VR (Gb.below X5.out GB (by omega))
   have O9:=VR (O5.out.grown GB (.inr (O5.out.row_blk T5.out.row (by decide))))
   clear GB HTH
   generalize w5.setCells gm 4 (aF c')=w9 at *
   go_wp2_with (first | (refine wpList_load_row rfl 80 _ rfl gm rfl 80 (aB ⟨st,num,dy,[cj],c',es,ss⟩ (.slice (some ⟨gl,0,none⟩) 1 1)).toArray (0,0) _ T9.out.row Tryz.underlying80 rfl aN ?_) | (refine aK rfl 80 _ _ rfl rfl (w.heap.size+1) (aB ⟨st,num,dy,[cj],c',es,ss⟩ (.slice (some ⟨gl,0,none⟩) 1 1)).toArray rfl rfl 80 (aB bQ (.slice none 0 0)).toArray Z9.out.row aN rfl (dZ ⟨st,num,dy,[cj],c',es,ss⟩ (.slice (some ⟨gl,0,none⟩) 1 1) rfl) ?_))
   refine bodyPost_ret (v:=.agg (aB ⟨st,num,dy,[cj],c',es,ss⟩ (.slice (some ⟨gl,0,none⟩) 1 1)).toArray) ?_ rfl ⟨⟨st,num,dy,[cj],c',es,ss⟩,_,_,_,rfl,aQ X9.out (Nat.le_succ _) _,(O9.out.setR (fun q=>by have:=aT O9.out _ q;have:=HZS.out;omega)).safe 0,(fun q=>absurd q (by decide)),HSM1.out,HSX5.out,HSTL.out,(by show 1≤10;omega)⟩
   exact results_cell_row rfl _ _ (w.heap.size+1) 80 (aB ⟨st,num,dy,[cj],c',es,ss⟩ (.slice (some ⟨gl,0,none⟩) 1 1)).toArray (0,0) _ rfl (aZ Z9.out.row) Tryz.underlying80 rfl aN
 · have c0:=T3.out.c0
   have f0:=T3.out.frozen 0
   have ml:=T3.out.lt
   go_wp2_with fail
   refine (HST.out _).mono ?_
   rintro e w5 ⟨rfl,b5⟩
   clear c0 f0 ml
   have X5:=VR (XW.out.tr b5)
   have T5:=VR (T3.out.ext b5)
   have O5:=VR (HO3.out.ext b5)
   have Z5:=VR (Z3.out.ext b5)
   clear b5
   have c0:=T5.out.c0
   have f0:=T5.out.frozen 0
   have ml:=T5.out.lt
   obtain ⟨w9,hw9⟩:∃ w9,w9=w5.setCell ⟨gm,0,none⟩ (.string (aI sb)):=⟨_,rfl⟩
   have T9:Hid (aX w9 gm ⟨sb,num,dy,[cj],sg,es,ss⟩ (.slice (some ⟨gl,0,none⟩) 1 1)):=by rw [hw9];exact aX.put_st (m:=⟨st,num,dy,[cj],sg,es,ss⟩) T5.out sb
   have Z9:Hid (aX w9 (w.heap.size+1) bQ (.slice none 0 0)):=by rw [hw9];exact Z5.out.other hne
   have X9:Hid (Ext w w9):=by rw [hw9];exact aH X5.out (by omega)
   have O9:Hid (aJ w9 wz.heap.size 56 11 (.slice (some ⟨gl,0,none⟩) 1 1) (aA [cj])):=by rw [hw9];exact VR (O5.out.grown (Gb.set gm 0 w5 (.string (aI sb))) (.inr (O5.out.row_blk T5.out.row (by decide))))
   have hws:=hw9.symm
   clear hw9
   go_wp2_with (first | (refine wpList_load_row rfl 80 _ rfl gm rfl 80 (aB ⟨sb,num,dy,[cj],sg,es,ss⟩ (.slice (some ⟨gl,0,none⟩) 1 1)).toArray (0,0) _ T9.out.row Tryz.underlying80 rfl aN ?_) | (refine aK rfl 80 _ _ rfl rfl (w.heap.size+1) (aB ⟨sb,num,dy,[cj],sg,es,ss⟩ (.slice (some ⟨gl,0,none⟩) 1 1)).toArray rfl rfl 80 (aB bQ (.slice none 0 0)).toArray Z9.out.row aN rfl (dZ ⟨sb,num,dy,[cj],sg,es,ss⟩ (.slice (some ⟨gl,0,none⟩) 1 1) rfl) ?_))
   refine bodyPost_ret (v:=.agg (aB ⟨sb,num,dy,[cj],sg,es,ss⟩ (.slice (some ⟨gl,0,none⟩) 1 1)).toArray) ?_ rfl ⟨⟨sb,num,dy,[cj],sg,es,ss⟩,_,_,_,rfl,aQ X9.out (Nat.le_succ _) _,(O9.out.setR (fun q=>by have:=aT O9.out _ q;have:=HZS.out;omega)).safe 0,(fun q=>absurd q (by decide)),HSM1.out,HSG.out,HBN.out,(by show 1≤10;omega)⟩
   exact results_cell_row rfl _ _ (w.heap.size+1) 80 (aB ⟨sb,num,dy,[cj],sg,es,ss⟩ (.slice (some ⟨gl,0,none⟩) 1 1)).toArray (0,0) _ rfl (aZ Z9.out.row) Tryz.underlying80 rfl aN
 · have c16:=T3.out.c16
   have f16:=T3.out.frozen 16
   have ml:=T3.out.lt
   go_wp2_with fail
   refine (HMO.out _).mono ?_
   rintro e w5 ⟨rfl,rfl⟩
   obtain ⟨w9,hw9⟩:∃ w9,w9=w3.setCell ⟨gm,16,none⟩ (.int .i64 ms):=⟨_,rfl⟩
   have T9:Hid (aX w9 gm ⟨st,num,dy,[cj],sg,es,ms⟩ (.slice (some ⟨gl,0,none⟩) 1 1)):=by rw [hw9];exact aX.put_s (m:=⟨st,num,dy,[cj],sg,es,ss⟩) T3.out ms
   have Z9:Hid (aX w9 (w.heap.size+1) bQ (.slice none 0 0)):=by rw [hw9];exact Z3.out.other hne
   have X9:Hid (Ext w w9):=by rw [hw9];exact aH XW.out (by omega)
   have O9:Hid (aJ w9 wz.heap.size 56 11 (.slice (some ⟨gl,0,none⟩) 1 1) (aA [cj])):=by rw [hw9];exact VR (HO3.out.grown (Gb.set gm 16 w3 (.int .i64 ms)) (.inr (HO3.out.row_blk T3.out.row (by decide))))
   have hws:=hw9.symm
   clear hw9
   go_wp2_with (first | (refine wpList_load_row rfl 80 _ rfl gm rfl 80 (aB ⟨st,num,dy,[cj],sg,es,ms⟩ (.slice (some ⟨gl,0,none⟩) 1 1)).toArray (0,0) _ T9.out.row Tryz.underlying80 rfl aN ?_) | (refine aK rfl 80 _ _ rfl rfl (w.heap.size+1) (aB ⟨st,num,dy,[cj],sg,es,ms⟩ (.slice (some ⟨gl,0,none⟩) 1 1)).toArray rfl rfl 80 (aB bQ (.slice none 0 0)).toArray Z9.out.row aN rfl (dZ ⟨st,num,dy,[cj],sg,es,ms⟩ (.slice (some ⟨gl,0,none⟩) 1 1) rfl) ?_))
   refine bodyPost_ret (v:=.agg (aB ⟨st,num,dy,[cj],sg,es,ms⟩ (.slice (some ⟨gl,0,none⟩) 1 1)).toArray) ?_ rfl ⟨⟨st,num,dy,[cj],sg,es,ms⟩,_,_,_,rfl,aQ X9.out (Nat.le_succ _) _,(O9.out.setR (fun q=>by have:=aT O9.out _ q;have:=HZS.out;omega)).safe 0,(fun q=>absurd q (by decide)),HSM1.out,HSG.out,HSTL.out,(by show 1≤10;omega)⟩
   exact results_cell_row rfl _ _ (w.heap.size+1) 80 (aB ⟨st,num,dy,[cj],sg,es,ms⟩ (.slice (some ⟨gl,0,none⟩) 1 1)).toArray (0,0) _ rfl (aZ Z9.out.row) Tryz.underlying80 rfl aN
 · have c3:=T3.out.c3
   have f3:=T3.out.frozen 3
   have ml:=T3.out.lt
   obtain ⟨w9,hw9⟩:∃ w9,w9=w3.setCell ⟨gm,3,none⟩ (.slice none 0 0):=⟨_,rfl⟩
   have T9:Hid (aX w9 gm ⟨st,num,dy,[],sg,es,ss⟩ (.slice none 0 0)):=by rw [hw9];exact aX.put_rt (m:=⟨st,num,dy,[cj],sg,es,ss⟩) T3.out []
   have Z9:Hid (aX w9 (w.heap.size+1) bQ (.slice none 0 0)):=by rw [hw9];exact Z3.out.other hne
   have X9:Hid (Ext w w9):=by rw [hw9];exact aH XW.out (by omega)
   have O9:Hid (aJ w9 wz.heap.size 56 11 (.slice none 0 0) (aA [])):=by rw [hw9];exact VR (aJ.empty _ _ _ _ _)
   have hws:=hw9.symm
   clear hw9
   go_wp2_with (first | (refine wpList_load_row rfl 80 _ rfl gm rfl 80 (aB ⟨st,num,dy,[],sg,es,ss⟩ (.slice none 0 0)).toArray (0,0) _ T9.out.row Tryz.underlying80 rfl aN ?_) | (refine aK rfl 80 _ _ rfl rfl (w.heap.size+1) (aB ⟨st,num,dy,[],sg,es,ss⟩ (.slice none 0 0)).toArray rfl rfl 80 (aB bQ (.slice none 0 0)).toArray Z9.out.row aN rfl (dZ ⟨st,num,dy,[],sg,es,ss⟩ (.slice none 0 0) rfl) ?_))
   refine bodyPost_ret (v:=.agg (aB ⟨st,num,dy,[],sg,es,ss⟩ (.slice none 0 0)).toArray) ?_ rfl ⟨⟨st,num,dy,[],sg,es,ss⟩,_,_,_,rfl,aQ X9.out (Nat.le_succ _) _,(O9.out.setR (fun q=>by have:=aT O9.out _ q;have:=HZS.out;omega)).safe 0,(fun q=>absurd q (by decide)),(fun q hq=>(by cases hq)),HSG.out,HSTL.out,(by show 0≤10;omega)⟩
   exact results_cell_row rfl _ _ (w.heap.size+1) 80 (aB ⟨st,num,dy,[],sg,es,ss⟩ (.slice none 0 0)).toArray (0,0) _ rfl (aZ Z9.out.row) Tryz.underlying80 rfl aN
 · have e0:(m12 == 0)=false:=by simp;omega
   have e1:(m12 == 1)=false:=by simp;omega
   have e2:(m12 == 2)=false:=by simp;omega
   have e3:(m12 == 3)=false:=by simp;omega
   have e4:(m12 == 4)=false:=by simp;omega
   have e5:(m12 == 5)=false:=by simp;omega
   have e6:(m12 == 6)=false:=by simp;omega
   go_wp2_with (first | (refine wpList_load_row rfl 80 _ rfl gm rfl 80 (aB ⟨st,num,dy,[cj],sg,es,ss⟩ (.slice (some ⟨gl,0,none⟩) 1 1)).toArray (0,0) _ T3.out.row Tryz.underlying80 rfl aN ?_) | (refine aK rfl 80 _ _ rfl rfl (w.heap.size+1) (aB ⟨st,num,dy,[cj],sg,es,ss⟩ (.slice (some ⟨gl,0,none⟩) 1 1)).toArray rfl rfl 80 (aB bQ (.slice none 0 0)).toArray Z3.out.row aN rfl (dZ ⟨st,num,dy,[cj],sg,es,ss⟩ (.slice (some ⟨gl,0,none⟩) 1 1) rfl) ?_))
   refine bodyPost_ret (v:=.agg (aB ⟨st,num,dy,[cj],sg,es,ss⟩ (.slice (some ⟨gl,0,none⟩) 1 1)).toArray) ?_ rfl ⟨⟨st,num,dy,[cj],sg,es,ss⟩,_,_,_,rfl,aQ XW.out (Nat.le_succ _) _,(HO3.out.setR (fun q=>by have:=aT HO3.out _ q;have:=HZS.out;omega)).safe 0,(fun _=>by first | rfl | exact HM0.out.symm),HSM1.out,HSG.out,HSTL.out,(by show 1≤10;omega)⟩
   exact results_cell_row rfl _ _ (w.heap.size+1) 80 (aB ⟨st,num,dy,[cj],sg,es,ss⟩ (.slice (some ⟨gl,0,none⟩) 1 1)).toArray (0,0) _ rfl (aZ Z3.out.row) Tryz.underlying80 rfl aN
theorem WI.th {w wr:World}{P D b:Nat}{v:Value}{s0 s1 s2 s3 s4:SlT}{day:Int}{xs:List AB} (h:WI w P D b v s0 s1 s2 s3 s4 day xs wr):wr.there P 1 5:=fun j hj=>by
 refine ⟨?_,h.c.2.2.2.2.2.2 _⟩
 have hc:=h.c.1
 match j,hj with
 | 0,_=>rw [hc 0 _ rfl];rfl
 | 1,_=>rw [hc 1 _ rfl];rfl
 | 2,_=>rw [hc 2 _ rfl];rfl
 | 3,_=>rw [hc 3 _ rfl];rfl
 | 4,_=>rw [hc 4 _ rfl];rfl
def WoR (w:World) (e:Ending) (w':World):Prop:=∃ (A:Option Addr) (c:Nat) (s0 s1 s2 s3 s4:SlT) (S:ST) (day:Int) (x y:AB),e=.returned (.agg (fL (.slice A 2 c) s0 s1 s2 s3 s4 day))∧Ext w w'∧(40000≤day∧day<40080)∧RdK w' 33 (.slice A 2 c) (rQ [x,y])∧AuL 3 w' [x,y]∧StS w' s0 s1 s2 s3 s4 S∧WSb S∧S.roots.length=1
theorem OL {α:Type}:∀ {xs:List α},xs.length=2→∃ x y,xs=[x,y]
 | [x,y],_=>⟨x,y,rfl⟩
theorem KZ (xs:List AB) (x:AB):rQ (xs++[x])=rQ xs++abL x:=by simp [rQ]
theorem L1 {ty:TypeId}{W:World}{B:Nat}{A:Option Addr}{v:Value}{l:List NC} (hr:RdN W v l) (hl:l.length≤1000000) (hB:B≤W.heap.size):∃ v' w'',(Builtin.append_ #[51,51] ty #[.slice A 0 0,v]).run Tryz.prog W=.ok v' w''∧Ext W w''∧SS B l v' w'':=by
 obtain ⟨A2,c2,w'',q1,q2,q3⟩:=AZ (P:=Tryz.prog) (ty:=ty) (k:=11) (by decide) gU (aJ.empty W W.heap.size 56 11 A) (n:=0) (m:=l.length) (by simp) hr (by rw [bF]) (hO l) (by omega) (by unfold maxLen;omega) (UX _)
 rw [VN,VB] at q2
 rw [VB] at q1
 exact ⟨_,w'',q1,(Below.refl W.heap.size W).grown q3 (UX _) (fun k hk=>by cases A <;> simp [aL] at hk),A2,c2,rfl,q2.mono hB⟩
set_option maxHeartbeats 16000000 in
theorem AK {v0:Value}{l:List Int} (w:World) (h:RdI w .i64 v0 l) (hw:∀ x ∈ l,mA x) (hl:l.length≤1000) (E:dI w 0) :
 Calls Tryz.prog 48 #[v0] w (WoR w):=by
 obtain ⟨wz,hwz,z0,zr⟩:=QL w
 have hzs:wz.heap.size=w.heap.size+1:=by rw [hwz];simp
 have HAU:=VR (fun (l':List Int) (u:Value) W (e:Ext w W) (hv:RdI W .i64 u l') (hx:∀ x ∈ l',mA x) (h6:l'.length≤1000)=>kV W hv hx h6 (E.below e))
 have HPB:=VR (fun (x:AB) (l:List NC) (v:Value) (day:Int) W (e:Ext w W) (hv:RdN W v l) (hs:smL l) (hg:smN x.ls) (hst:x.st.length≤maxLen) (a0:-1000000≤x.li) (a1:x.li≤1000000) (h1:wK x)=>kW x l v day W hv hs hg hst a0 a1 h1 (E.below e))
 have HAC:=VR (fun (s0 s1 s2 s3 s4:SlT) (S:ST) (ps:List (MA × Value)) (m:MA) (v:Value) (day:Int) W (e:Ext w W) (hS:StS W s0 s1 s2 s3 s4 S) (hB:WSb S) (h2:RdK W 17 (slV s2) (kM.cells ps)) (hps:ps.map Prod.fst=S.ms) (hin:∀ p ∈ ps,RdK W 11 p.2 (aA p.1.roots)) (hv:RdN W v m.roots) (hs:smL m.roots) (hg:smN m.sg) (ht:m.st.length≤maxLen) =>
  wN s0 s1 s2 s3 s4 S ps m v day W hS.r.rd hS.p.rd h2 hps hin hB.b.r hB.b.p (by have:=hB.b.lr;have:=hB.b.lp;omega) (by have h1:=hB.b.lm;rw [← hps,List.length_map] at h1;omega) hv hs hg ht (E.below e))
 clear E
 go_enter Tryz.func48,Tryz.ntmps48
 go_wp2_with fail
 rw [← hwz]
 clear hwz
 refine (CL wz (h.ext z0) hw hl).mono ?_
 rintro e w1 ⟨D,b,rfl,hD,hb,hd,b1⟩
 go_wp2_with fail
 refine (lJ 80 w1 hd (by omega)).mono ?_
 rintro e w2 ⟨rfl,q2,q3,q4⟩
 have hz:=pZ l (n:=80) (by omega)
 have hDl:=hd.lt
 have hbl:=hd.ltb
 have hzl:=a9 zr
 have zr1:=(b1.block _ hzl).trans zr
 have zr2:=(q2.block _ (a9 zr1) (fun e=>by injection e with e;omega)).trans zr1
 have X2:Ext w w2:=Gb.below (z0.tr b1) q2 (by omega)
 obtain ⟨day,hday⟩:∃ day,40000+dv l 80=day:=⟨_,rfl⟩
 have wk:IntKind.i64.wrap (40000+dv l 80)=day:=by rw [← hday];exact IntWalk.i64_in _ (by omega)
 have HDY:=VR (show 40000≤day∧day<40080 by omega)
 obtain ⟨wp,hwp,ep,TP⟩:=SN w2 day
 have QB:=VR (show WB w w2.heap.size D b from ⟨by omega,by omega,by have:=q2.size;omega,by have:=q2.size;omega⟩)
 have J0:=VR (show WI w w2.heap.size D b (.slice none 0 0) zS zS zS zS zS day [] wp from ⟨X2.tr ep,⟨_,q3.ext ep⟩,(ep.block _ (a9 zr2)).trans zr2,TP,aJ.empty _ _ _ _ _⟩)
 clear hzs h hw hl z0 zr b1 hd hD hb ep TP hDl hbl hzl q2 q3 q4 zr1 zr2 X2 hz hday
 go_wp2_with fail
 rw [← hwp]
 clear hwp wk
 generalize w2.heap.size=P at *
 go_loopw [5] (fun s5 wr=>∃ (i:Nat) (v:Value) (xs:List AB),i≤2∧s5=.int .i64 (i:Int)∧Hid (xs.length=i)∧Hid (WI w P D b v zS zS zS zS zS day xs wr)∧Hid (AuL 0 wr xs)) (fun s5 _=>2 - (intOf s5).toNat)
 case atStart=>exact ⟨0,_,[],by omega,rfl,VR rfl,J0,VR (fun x hx=>(by cases hx))⟩
 case round =>
  clear J0
  obtain ⟨i,v,xs,hi,rfl,HXL,J,AU⟩:=hrel
  by_cases hlt:i<2
  case neg =>
   obtain rfl:i=2:=by omega
   clear hlt hi
   obtain ⟨x0,x1,rfl⟩:=OL HXL.out
   obtain ⟨A,c,e⟩:=J.out.form
   have e:v=.slice A 2 c:=e
   subst e
   obtain ⟨gA,rfl,hgA,hgl,-,h2c,hcm,R0⟩:=J.out.range (i:=0) (x:=x0) rfl
   obtain ⟨gA',e',-,-,-,-,-,R1⟩:=J.out.range (i:=1) (x:=x1) rfl
   obtain rfl:gA=gA':=by injection e' with e';injection e'
   unfold maxLen at hcm
   obtain ⟨a0,d0,S0⟩:=AU.out x0 (by simp)
   obtain ⟨a1,d1,S1⟩:=AU.out x1 (by simp)
   have n0:a0.roots.length=d0.length:=S0.ai.rlen
   obtain ⟨r0,t0,er0⟩:∃ r t,a0.roots=r::t:=by
    cases hh:a0.roots with
    | nil=>have:=S0.ne.1;rw [hh,VA] at n0;omega
    | cons r t=>exact ⟨r,t,rfl⟩
   obtain ⟨AR,cR,eR0,-,-⟩:=lO (l:=a0.roots) S0.R.rd
   have qq0:RdN wr (.slice AR a0.roots.length cR) (r0::t0):=by
    have hq:RdN wr x0.R a0.roots:=S0.R.rd
    rw [eR0,er0] at hq
    rw [er0]
    exact hq
   obtain ⟨br0,or0,hA0,hbr0,Kr0⟩:=qL qq0
   subst hA0
   have HKr0:=VR Kr0
   have h0r0:0<(a0.roots.length:Int):=by rw [er0,VC];omega
   clear qq0 Kr0 n0
   obtain ⟨AL0,cL0,eL0,-,-⟩:=lO (l:=a0.links) S0.L.rd
   obtain ⟨AL1,cL1,eL1,-,-⟩:=lO (l:=a1.links) S1.L.rd
   have hl0:a0.links.length≤3:=by have:=S0.ai.llen;have:=S0.ne.2;omega
   have hl1:a1.links.length≤3:=by have:=S1.ai.llen;have:=S1.ne.2;omega
   have HG1:=VR (show wr.cell? ⟨gA,1,none⟩=some (.slice (some ⟨br0,or0,none⟩) a0.roots.length cR) by rw [← eR0];exact R0 1 _ rfl)
   have HS0:=VR S0
   have HS1:=VR S1
   have HE:=VR (And.intro eL0 eL1)
   clear R0 R1 S0 S1 e' HXL eL0 eL1 AU
   go_upto_region 7 with fail
   refine Gd.aO 11 (by kernel_rfl) (by kernel_rfl) ?_
   simp only [VH,VE,VI,VJ]
   intro wq hw1
   have LL:∀ m1:Lt wq,Ext wr m1.1:=fun m1=>hw1.tr m1.2
   have p0:=fun m1:Lt wq=>(J.out.tr (LL m1)).c.2.1
   have p1:∀ m1:Lt wq,m1.1.cell? ⟨P,1,none⟩=some (.slice none 0 0):=fun m1=>(J.out.tr (LL m1)).c.2.2.1
   have pl:=fun m1:Lt wq=>(J.out.tr (LL m1)).c.2.2.2.2.2.1
   have k1:=fun m1:Lt wq=>((LL m1).cell (p:=⟨gA,1,none⟩) hgl).trans HG1.out
   have kl:=fun m1:Lt wq=>VG hgl (LL m1).size
   have KR1:∀ m1:Lt wq,m1.1.rangeAt br0 or0 (aF r0):=fun m1=>cW HKr0.out hbr0 (LL m1)
   repeat (refine Gd.aD (by first | exact trivial | exact ⟨_,rfl,rfl,rfl⟩) rfl rfl rfl rfl rfl (fun K hK=>?_);go_big_quiet_op;refine hK _ ?_;clear hK K)
   refine Gd.wpX_midK (by first | exact trivial | exact ⟨_,rfl,rfl,rfl⟩) (br0) (or0) (aF r0) rfl rfl rfl rfl rfl KR1 Tryz.underlying56 rfl bT ?_
   simp only [Act.put,UY,UZ,V0]
   repeat (refine Gd.aD (by first | exact trivial | exact ⟨_,rfl,rfl,rfl⟩) rfl rfl rfl rfl rfl (fun K hK=>?_);go_big_quiet_op;refine hK _ ?_;clear hK K)
   refine Gd.bJ (by first | exact trivial | exact ⟨_,rfl,rfl,rfl⟩) (NR wr.heap.size r0) (AC _ _) (fun _=>[(0,.agg (aF r0).toArray)]) rfl rfl rfl rfl rfl (fun _=>rfl) (fun m1 f hf=>⟨_,_,wO m1.1 r0,(Below.refl _ _).alloc (UX _) _,U4 m1.1 _ r0 (LL m1).size⟩) ?_
   simp only [Act.put,UY,UZ,V0]
   refine Gd.cO (fun m1 f hf=>?_)
   obtain ⟨g,e47,hg,hrow⟩:=hf 47 _ rfl
   simp only [aV]
   simp only [Act.put,UY,UZ,V0]
   rw [e47]
   have XA:=VR (LL m1)
   have HRK:=VR (FY hrow)
   have HOE:=VR (aJ.empty m1.1 wr.heap.size 56 11 none)
   clear hw1 LL p0 p1 pl k1 kl KR1 hf e47 hrow
   generalize m1.1=w5 at *
   clear m1 f
   show wpList _ _ _ _ _ _
   go_upto_region 8 with (refine bP (k:=11) (by decide) gU (n:=0) (m:=1) (B:=wr.heap.size) (w0:=wr) HOE.out rfl HRK.out rfl (dO r0) XA.out (by omega) (by unfold maxLen;omega) XA.out.size rfl rfl rfl rfl ?_;intro A8 n8 c8 w8 hn8 o8 x8 g8;have J8:=J.out.tr x8;have y1:w8.cell? ⟨P,1,none⟩=some (.slice none 0 0):=J8.c.2.2.1;have yl:=J8.c.2.2.2.2.2.1;have yf:=J8.c.2.2.2.2.2.2 1)
   obtain ⟨j9,k9⟩:=J8.put QB.out 1 (.slice A8 n8 c8) (t0:=(A8,n8,c8)) (t1:=zS) (t2:=zS) (t3:=zS) (t4:=zS) rfl
   have J9:=VR j9
   have K9:=VR ((Kp.ext x8).tr k9)
   have P9:=VR (show cE (w8.setCell ⟨P,1,none⟩ (.slice A8 n8 c8)) 0 56 11 (slV (A8,n8,c8)) (aA [r0]) from (o8.safe 0).kp qH k9)
   clear J8 y1 yl yf o8 x8 g8 k9 j9 hn8 XA HRK HOE
   generalize w8.setCell ⟨P,1,none⟩ (.slice A8 n8 c8)=wr2 at *
   have HS02:=VR (HS0.out.kp K9.out)
   have HS12:=VR (HS1.out.kp K9.out)
   obtain ⟨gA',e',-,hgl2,-,-,-,R0⟩:=J9.out.range (i:=0) (x:=x0) rfl
   obtain rfl:gA=gA':=by injection e' with e';injection e'
   obtain ⟨gA',e'',-,-,-,-,-,R1⟩:=J9.out.range (i:=1) (x:=x1) rfl
   obtain rfl:gA=gA':=by injection e'' with e'';injection e''
   have HG2:=VR (show wr2.cell? ⟨gA,2,none⟩=some (.slice AL0 a0.links.length cL0) by rw [← HE.out.1];exact R0 2 _ rfl)
   have HG3:=VR (show wr2.cell? ⟨gA,35,none⟩=some (.slice AL1 a1.links.length cL1) by rw [← HE.out.2];exact R1 2 _ rfl)
   have HL0:=VR (show RdN wr2 (.slice AL0 a0.links.length cL0) a0.links by rw [← HE.out.1];exact HS02.out.L.rd)
   have HL1:=VR (show RdN wr2 (.slice AL1 a1.links.length cL1) a1.links by rw [← HE.out.2];exact HS12.out.L.rd)
   clear R0 R1 e' e'' HS0 HS1 J K9 HG1 HKr0 w5 w8
   refine Gd.aO 14 (by kernel_rfl) (by kernel_rfl) ?_
   simp only [VH,VE,VI,VJ]
   intro wq hw1
   have LL:∀ m1:Lt wq,Ext wr2 m1.1:=fun m1=>hw1.tr m1.2
   have p0:=fun m1:Lt wq=>(J9.out.tr (LL m1)).c.2.1
   have p2:∀ m1:Lt wq,m1.1.cell? ⟨P,2,none⟩=some (.slice none 0 0):=fun m1=>(J9.out.tr (LL m1)).c.2.2.2.1
   have pl:=fun m1:Lt wq=>(J9.out.tr (LL m1)).c.2.2.2.2.2.1
   have k2:=fun m1:Lt wq=>((LL m1).cell (p:=⟨gA,2,none⟩) hgl2).trans HG2.out
   have k3:=fun m1:Lt wq=>((LL m1).cell (p:=⟨gA,35,none⟩) hgl2).trans HG3.out
   have kl:=fun m1:Lt wq=>VG hgl2 (LL m1).size
   repeat (refine Gd.aD (by first | exact trivial | exact ⟨_,rfl,rfl,rfl⟩) rfl rfl rfl rfl rfl (fun K hK=>?_);go_big_quiet_op;refine hK _ ?_;clear hK K)
   refine Gd.wpX_appF (by first | exact trivial | exact ⟨_,rfl,rfl,rfl⟩) (SS wr2.heap.size a0.links) (DS _ _) (fun _=>.slice none 0 0) (fun _=>.slice AL0 a0.links.length cL0) rfl rfl rfl rfl rfl rfl (fun _=>rfl) (fun _=>rfl) (fun m1 f hf=>L1 (RdK.ext HL0.out (LL m1)) (by omega) (LL m1).size) ?_
   simp only [Act.put,UY,UZ,V0]
   repeat (refine Gd.aD (by first | exact trivial | exact ⟨_,rfl,rfl,rfl⟩) rfl rfl rfl rfl rfl (fun K hK=>?_);go_big_quiet_op;refine hK _ ?_;clear hK K)
   refine Gd.cO (fun m1 f hf=>?_)
   obtain ⟨A5,c5,e59,o5⟩:=hf 59 _ rfl
   simp only [aV]
   simp only [Act.put,UY,UZ,V0]
   rw [e59]
   have XA:=VR (LL m1)
   have HRK:=VR (RdK.ext HL1.out (LL m1))
   have HO5:=VR o5
   clear hw1 LL p0 p2 pl k2 k3 kl hf e59 o5
   generalize m1.1=w5 at *
   clear m1 f
   show wpList _ _ _ _ _ _
   go_upto_region 9 with (refine bP (k:=11) (by decide) gU (n:=a0.links.length) (m:=a1.links.length) (B:=wr2.heap.size) (w0:=wr2) HO5.out (by rw [bF]) HRK.out (by rw [bF]) (hO a1.links) XA.out (by omega) (by unfold maxLen;omega) XA.out.size rfl rfl rfl rfl ?_;intro A7 n7 c7 w8 hn7 o8 x8 g8;have J8:=J9.out.tr x8;have y2:w8.cell? ⟨P,2,none⟩=some (.slice none 0 0):=J8.c.2.2.2.1;have yl:=J8.c.2.2.2.2.2.1;have yf:=J8.c.2.2.2.2.2.2 2)
   obtain ⟨j9,k9⟩:=J8.put QB.out 2 (.slice A7 n7 c7) (t0:=(A8,n8,c8)) (t1:=(A7,n7,c7)) (t2:=zS) (t3:=zS) (t4:=zS) rfl
   have JJ:=VR j9
   have KK:=VR ((Kp.ext x8).tr k9)
   have P2:=VR (show cE (w8.setCell ⟨P,2,none⟩ (.slice A7 n7 c7)) 0 56 11 (slV (A7,n7,c7)) (aA (a0.links++a1.links)) by
    rw [show aA (a0.links++a1.links)=aA a0.links++aA a1.links by simp [aA]]
    exact (o8.safe 0).kp qH k9)
   clear J8 y2 yl yf o8 x8 g8 k9 j9 hn7 XA HRK HO5
   generalize w8.setCell ⟨P,2,none⟩ (.slice A7 n7 c7)=wr3 at *
   have P1:=VR (P9.out.kp qH KK.out)
   have HAU3:=VR (show AuL 0 wr3 [x0,x1] from fun y hy=>by
    simp only [List.mem_cons,List.not_mem_nil,or_false] at hy
    rcases hy with rfl | rfl
    · exact ⟨a0,d0,HS02.out.kp KK.out⟩
    · exact ⟨a1,d1,HS12.out.kp KK.out⟩)
   have HB3:=VR (show WSb ⟨[r0],a0.links++a1.links,[],[],[]⟩ from by
    have h0:=HS02.out.sm
    have h1:=HS12.out.sm
    have hr:smN r0:=h0.1 r0 (by rw [er0];exact VM)
    exact ⟨⟨fun x hx=>by rw [List.mem_singleton.1 hx];exact hr,fun x hx=>(List.mem_append.1 hx).elim (h0.2.1 x) (h1.2.1 x),fun x hx=>(by cases hx),fun x hx=>(by cases hx),fun x hx=>(by cases hx),by show 1≤10000;omega,by show (a0.links++a1.links).length≤10000;rw [V5];omega,by show 0≤20;omega,by show 0≤10000;omega,by show 0≤10000;omega⟩,rfl,rfl,List.nodup_nil⟩)
   have HST3:=VR (show StS wr3 (A8,n8,c8) (A7,n7,c7) zS zS zS ⟨[r0],a0.links++a1.links,[],[],[]⟩ from ⟨P1.out,P2.out,rP _ _ _,rP _ _ _,rP _ _ _⟩)
   clear J9 KK P2 P9 P1 HS02 HS12 HG2 HG3 HL0 HL1 HE
   go_wp2_with fail
   refine (JJ.out.next QB.out 4 (by omega) (by omega)).mono ?_
   rintro e w4 ⟨z,hz0,hz1,rfl,j4,k4⟩
   have J4:=VR j4
   have HAU4:=VR (HAU3.out.kp k4)
   have HST4:=VR (HST3.out.kp k4)
   obtain ⟨kk,rfl⟩:∃ k:Nat,z=(k:Int):=⟨z.toNat,by omega⟩
   clear j4 k4 JJ HAU3 HST3
   go_wp2_with fail
   go_loopw [6] (fun s6 wr=>∃ (k:Nat) (s0 s1 s2 s3 s4:SlT) (S:ST) (xs:List AB),k≤3∧s6=.int .i64 (k:Int)∧Hid (xs.length=2)∧Hid (WI w P D b (.slice (some ⟨gA,0,none⟩) 2 c) s0 s1 s2 s3 s4 day xs wr)∧Hid (AuL (3 - (k:Int)) wr xs)∧Hid (StS wr s0 s1 s2 s3 s4 S)∧Hid (WSb S∧S.roots.length=1)) (fun s6 _=>(intOf s6).toNat)
   case atStart=>exact ⟨kk,_,_,_,_,_,_,_,by omega,rfl,VR rfl,J4,VR (HAU4.out.mono (by omega)),HST4,VR ⟨HB3.out,rfl⟩⟩
   case round =>
    clear J4 HAU4 HST4 HB3
    obtain ⟨k,s0,s1,s2,s3,s4,S,xs,hk,rfl,HXL,J,AU,HS,HB⟩:=hrel
    by_cases hk0:k=0
    case pos =>
     subst hk0
     have HP:=VR J.out.po
     have HZ:=VR J.out.rz
     have H1:=VR (yN (v:=(.slice (some ⟨gA,0,none⟩) 2 c)) s0 s1 s2 s3 s4 day rfl)
     go_wp2_with (first | (refine wpList_load_row rfl 77 _ rfl P rfl 77 (fL (.slice (some ⟨gA,0,none⟩) 2 c) s0 s1 s2 s3 s4 day) (0,0) _ HP.out Tryz.underlying77 rfl qK ?_) | (refine aK rfl 77 _ _ rfl rfl w.heap.size (fL (.slice (some ⟨gA,0,none⟩) 2 c) s0 s1 s2 s3 s4 day) rfl rfl 77 #[.slice none 0 0,.slice none 0 0,.slice none 0 0,.slice none 0 0,.slice none 0 0,.slice none 0 0,.int .i64 0] HZ.out qK rfl H1.out ?_))
     obtain ⟨x0,x1,rfl⟩:=OL HXL.out
     have HF:=VR (J.out.fin (fL (.slice (some ⟨gA,0,none⟩) 2 c) s0 s1 s2 s3 s4 day))
     refine bodyPost_ret (v:=.agg (fL (.slice (some ⟨gA,0,none⟩) 2 c) s0 s1 s2 s3 s4 day)) ?_ rfl ⟨_,c,s0,s1,s2,s3,s4,S,day,x0,x1,rfl,HF.out.1,HDY.out,(J.out.own.setR (fun q=>by have:=aT J.out.own _ q;have:=QB.out.D1;have:=QB.out.D2;omega)).rd,(AU.out.kp HF.out.2).mono (by omega),HS.out.kp HF.out.2,HB.out.1,HB.out.2⟩
     exact results_cell_row rfl _ _ w.heap.size 77 (fL (.slice (some ⟨gA,0,none⟩) 2 c) s0 s1 s2 s3 s4 day) (0,0) _ rfl (aZ HZ.out) Tryz.underlying77 rfl qK
    case neg =>
    obtain ⟨k',rfl⟩:∃ k',k=k'+1:=⟨k - 1,by omega⟩
    have hk1:(0:Int)<((k'+1:Nat):Int):=by omega
    have wk1:IntKind.i64.wrap (((k'+1:Nat):Int) - 1)=(k':Int):=by rw [show ((k'+1:Nat):Int) - 1=(k':Int) by omega];exact IntWalk.i64_in _ (by omega)
    go_wp2_with fail
    refine (J.out.next QB.out 2 (by omega) (by omega)).mono ?_
    rintro e w5 ⟨z,hz0',hz1',rfl,j5,k5⟩
    have J5:=VR j5
    have AU5:=VR (AU.out.kp k5)
    have HS5:=VR (HS.out.kp k5)
    obtain ⟨i,rfl⟩:∃ i:Nat,z=(i:Int):=⟨z.toNat,by omega⟩
    clear j5 k5 J AU HS
    have hi2':i<2:=by omega
    obtain ⟨xi,hxi⟩:∃ x,xs[i]?=some x:=⟨_,V8 (by have:=HXL.out;omega)⟩
    obtain ⟨xj,hxj⟩:∃ x,xs[1 - i]?=some x:=⟨_,V8 (by have:=HXL.out;omega)⟩
    obtain ⟨ai,di,Si⟩:=AU5.out xi (VD hxi)
    obtain ⟨aj,dj,Sj⟩:=AU5.out xj (VD hxj)
    have HXI:=VR hxi
    obtain ⟨gA',e',-,hglr,-,-,-,Ri⟩:=J5.out.range hxi
    obtain rfl:gA=gA':=by injection e' with e';injection e'
    obtain ⟨gA',e'',-,-,-,-,-,Rj⟩:=J5.out.range hxj
    obtain rfl:gA=gA':=by injection e'' with e'';injection e''
    have ni:ai.roots.length=di.length:=Si.ai.rlen
    obtain ⟨ci,ti,eri⟩:∃ r t,ai.roots=r::t:=by
     cases hh:ai.roots with
     | nil=>have:=Si.ne.1;rw [hh,VA] at ni;omega
     | cons r t=>exact ⟨r,t,rfl⟩
    obtain ⟨AI,cI,eRi,-,-⟩:=lO (l:=ai.roots) Si.R.rd
    have qqi:RdN w5 (.slice AI ai.roots.length cI) (ci::ti):=by
     have hq:RdN w5 xi.R ai.roots:=Si.R.rd
     rw [eRi,eri] at hq
     rw [eri]
     exact hq
    obtain ⟨bci,oci,hAi,hbci,Kci⟩:=qL qqi
    subst hAi
    have HKci:=VR Kci
    have h0ci:0<(ai.roots.length:Int):=by rw [eri,VC];omega
    clear qqi Kci ni
    have nj:aj.roots.length=dj.length:=Sj.ai.rlen
    obtain ⟨cj,tj,erj⟩:∃ r t,aj.roots=r::t:=by
     cases hh:aj.roots with
     | nil=>have:=Sj.ne.1;rw [hh,VA] at nj;omega
     | cons r t=>exact ⟨r,t,rfl⟩
    obtain ⟨AJ,cJ,eRj,-,-⟩:=lO (l:=aj.roots) Sj.R.rd
    have qqj:RdN w5 (.slice AJ aj.roots.length cJ) (cj::tj):=by
     have hq:RdN w5 xj.R aj.roots:=Sj.R.rd
     rw [eRj,erj] at hq
     rw [erj]
     exact hq
    obtain ⟨bcj,ocj,hAj,hbcj,Kcj⟩:=qL qqj
    subst hAj
    have HKcj:=VR Kcj
    have h0cj:0<(aj.roots.length:Int):=by rw [erj,VC];omega
    clear qqj Kcj nj
    obtain ⟨jn,hjn⟩:∃ jn:Nat,1 - i=jn:=⟨_,rfl⟩
    rw [hjn] at Rj
    have hjn2:1 - (i:Int)=(jn:Int):=by omega
    have wj:IntKind.i64.wrap (1 - (i:Int))=(jn:Int):=by rw [hjn2];exact IntWalk.i64_in _ (by omega)
    have hjl:jn<2:=by omega
    have HGi:=VR (show w5.cell? ⟨gA,i*33+1,none⟩=some (.slice (some ⟨bci,oci,none⟩) ai.roots.length cI) by rw [← eRi];exact Ri 1 _ rfl)
    have HGj:=VR (show w5.cell? ⟨gA,jn*33+1,none⟩=some (.slice (some ⟨bcj,ocj,none⟩) aj.roots.length cJ) by rw [← eRj];exact Rj 1 _ rfl)
    have HRi:=VR Ri
    have HSi:=VR Si
    have HSM:=VR (show smN ci∧smN cj∧smN xi.ls∧xi.st.length≤maxLen∧(1≤xi.li∧xi.li≤4) from by
     have h0:=Si.sm
     have h1:=Sj.sm
     have hb0:smN ci:=h0.1 ci (by rw [eri];exact VM)
     have hb1:smN cj:=h1.1 cj (by rw [erj];exact VM)
     have hst:xi.st.length≤maxLen:=by rw [Si.st];have:=Si.ai.st.1.2;unfold maxLen;omega
     have hli:=Si.li
     exact ⟨hb0,hb1,by rw [Si.ls];exact h0.2.2.2,hst,by omega⟩)
    clear e' e'' hxi hxj Ri Rj Si Sj hjn eri erj eRi eRj
    have wi1:IntKind.i64.wrap ((i:Int))=(i:Int):=IntWalk.i64_in _ (by omega)
    have zi1:(0:Int)≤(i:Int):=by omega
    have li1:(i:Int)<2:=by omega
    have ti1:((i:Int)).toNat=i:=by omega
    have wi2:IntKind.i64.wrap ((jn:Int))=(jn:Int):=IntWalk.i64_in _ (by omega)
    have zi2:(0:Int)≤(jn:Int):=by omega
    have li2:(jn:Int)<2:=by omega
    have ti2:((jn:Int)).toNat=jn:=by omega
    go_upto_region 13 with fail
    refine Gt.aO (r:=(RG amT (fun q=>w5.heap.size≤q))) 34 (by kernel_rfl) (by kernel_rfl) ?_
    simp only [VH,VE,VI,VJ]
    intro wq hw1
    have LR:∀ m1:(RG amT (fun q=>w5.heap.size≤q)).Lt wq,RgS amT (fun q=>w5.heap.size≤q) w5 m1.1:=fun m1=>RgS.tr hw1 m1.2
    have LL:∀ m1:(RG amT (fun q=>w5.heap.size≤q)).Lt wq,Ext w5 m1.1:=fun m1=>(LR m1).below (fun _ h=>h) (UX _)
    have p0:=fun m1:(RG amT (fun q=>w5.heap.size≤q)).Lt wq=>(J5.out.tr (LL m1)).c.2.1
    have p6:=fun m1:(RG amT (fun q=>w5.heap.size≤q)).Lt wq=>(J5.out.tr (LL m1)).c.2.2.2.2.1
    have pl:=fun m1:(RG amT (fun q=>w5.heap.size≤q)).Lt wq=>(J5.out.tr (LL m1)).c.2.2.2.2.2.1
    have ki:=fun m1:(RG amT (fun q=>w5.heap.size≤q)).Lt wq=>((LL m1).cell (p:=⟨gA,i*33+1,none⟩) hglr).trans HGi.out
    have kj:=fun m1:(RG amT (fun q=>w5.heap.size≤q)).Lt wq=>((LL m1).cell (p:=⟨gA,jn*33+1,none⟩) hglr).trans HGj.out
    have kl:=fun m1:(RG amT (fun q=>w5.heap.size≤q)).Lt wq=>VG hglr (LL m1).size
    have KI:∀ m1:(RG amT (fun q=>w5.heap.size≤q)).Lt wq,m1.1.rangeAt gA (i*33) (abL xi):=fun m1=>cW HRi.out hglr (LL m1)
    have KRi:∀ m1:(RG amT (fun q=>w5.heap.size≤q)).Lt wq,m1.1.rangeAt bci oci (aF ci):=fun m1=>cW HKci.out hbci (LL m1)
    have KRj:∀ m1:(RG amT (fun q=>w5.heap.size≤q)).Lt wq,m1.1.rangeAt bcj ocj (aF cj):=fun m1=>cW HKcj.out hbcj (LL m1)
    repeat (refine Gt.aD (by first | exact trivial | exact ⟨_,rfl,rfl,rfl⟩) rfl rfl rfl rfl rfl (fun K hK=>?_);go_big_quiet_op;refine hK _ ?_;clear hK K)
    refine Gt.wpX_midK (by first | exact trivial | exact ⟨_,rfl,rfl,rfl⟩) (gA) (i*33) (abL xi) rfl rfl rfl rfl rfl KI Tryz.underlying98 rfl dF ?_
    simp only [Act.put,UY,UZ,V0]
    repeat (refine Gt.aD (by first | exact trivial | exact ⟨_,rfl,rfl,rfl⟩) rfl rfl rfl rfl rfl (fun K hK=>?_);go_big_quiet_op;refine hK _ ?_;clear hK K)
    refine Gt.wpX_midK (by first | exact trivial | exact ⟨_,rfl,rfl,rfl⟩) (bcj) (ocj) (aF cj) rfl rfl rfl rfl rfl KRj Tryz.underlying56 rfl bT ?_
    simp only [Act.put,UY,UZ,V0]
    repeat (refine Gt.aD (by first | exact trivial | exact ⟨_,rfl,rfl,rfl⟩) rfl rfl rfl rfl rfl (fun K hK=>?_);go_big_quiet_op;refine hK _ ?_;clear hK K)
    refine Gt.wpX_midK (by first | exact trivial | exact ⟨_,rfl,rfl,rfl⟩) (bci) (oci) (aF ci) rfl rfl rfl rfl rfl KRi Tryz.underlying56 rfl bT ?_
    simp only [Act.put,UY,UZ,V0]
    refine Gt.bJ (by first | exact trivial | exact ⟨_,rfl,rfl,rfl⟩) (UW w5.heap.size cj ci) (fun v w w' r ⟨g,h1,h2,h3⟩=>⟨g,h1,h2,r.other h3 nC⟩) (fun _=>[(0,.agg (aF cj).toArray),(1,.agg (aF ci).toArray)]) rfl rfl rfl rfl rfl (fun _=>rfl) (fun m1 f hf=>⟨_,_,OE m1.1 cj ci,(Below.refl _ _).alloc (UX _) _,m1.1.heap.size,rfl,(LL m1).size,aC _ _⟩) ?_
    simp only [Act.put,UY,UZ,V0]
    repeat (refine Gt.aD (by first | exact trivial | exact ⟨_,rfl,rfl,rfl⟩) rfl rfl rfl rfl rfl (fun K hK=>?_);go_big_quiet_op;refine hK _ ?_;clear hK K)
    refine Gt.aU (by first | exact trivial | exact ⟨_,rfl,rfl,rfl⟩) (GPt { xi with li:=xi.li+1 } (d9 xi.lsec ⟨xi.st,xi.li,day,[cj,ci],xi.ls,0,0⟩) (iO xi.lsec ⟨xi.st,xi.li,day,[cj,ci],xi.ls,0,0⟩)) (wP _ _ _ _) (fun f=>[.agg (abL xi).toArray,f 99,.int .i64 day]) rfl rfl rfl rfl rfl (by kernel_rfl) rfl (fun _=>rfl) (fun m1 f hf=>?_) ?_
    · obtain ⟨g,e99,hg,hrow⟩:=hf 99 _ rfl rfl
      rw [e99]
      have hT2:=SJ hrow
      have hsf:cE m1.1 0 56 11 (.slice (some ⟨g,0,none⟩) 2 2) (aA [cj,ci]):=⟨hT2,fun A n c hv hn=>⟨g,0,by injection hv with hv _ _;exact hv.symm,.inr ⟨_,_,hrow⟩⟩⟩
      have hst:=HSM.out
      refine (HPB.out xi [cj,ci] _ day m1.1 (J5.out.ext.tr (LL m1)) hT2 (fun q hq=>by
       simp only [List.mem_cons,List.not_mem_nil,or_false] at hq
       rcases hq with rfl | rfl
       · exact hst.2.1
       · exact hst.1) hst.2.2.1 hst.2.2.2.1 (by omega) (by omega) HSi.out.one).mono ?_
      rintro e w'' ⟨A5,n5,c5,rfl,r5,b5,hq5⟩
      exact ⟨_,rfl,b5,A5,n5,c5,rfl,OF r5 hq5 (hsf.ext b5)⟩
    simp only [Act.put,UY,UZ,V0]
    have H1X:=VR (HSi.out.more.one)
    have HSMM:=VR (IC (k:=xi.lsec) (m:=⟨xi.st,xi.li,day,[cj,ci],xi.ls,0,0⟩) (fun q hq=>by
     have hst:=HSM.out
     have hq:q ∈ [cj,ci]:=hq
     simp only [List.mem_cons,List.not_mem_nil,or_false] at hq
     rcases hq with rfl | rfl
     · exact hst.2.1
     · exact hst.1) HSM.out.2.2.1 HSM.out.2.2.2.1)
    generalize (d9 xi.lsec ⟨xi.st,xi.li,day,[cj,ci],xi.ls,0,0⟩)=mm at *
    generalize (iO xi.lsec ⟨xi.st,xi.li,day,[cj,ci],xi.ls,0,0⟩)=kk2 at *
    refine Gt.wpX_movU (by first | exact trivial | exact ⟨_,rfl,rfl,rfl⟩) (GPt { xi with li:=xi.li+1 } mm kk2) (wP _ _ _ _) (fun f=>f 102) rfl rfl rfl rfl rfl (fun _=>rfl) (fun m1 f hf=>hf 102 _ rfl rfl) ?_
    simp only [Act.put,UY,UZ,V0]
    refine Gt.j0 (by first | exact trivial | exact ⟨_,rfl,rfl,rfl⟩) (fun v _=>v=abV { xi with li:=xi.li+1 }) (Gt.Rl.stable_eq _ _) (fun f=>f 76) rfl rfl rfl rfl rfl (fun _=>rfl) (fun m1 f hf=>by obtain ⟨A5,n5,c5,h5,o5⟩:=hf 76 _ rfl rfl;rw [h5];exact ⟨_,_,(lP _ _ _ _).1,Below.refl _ _,rfl⟩) ?_
    simp only [Act.put,UY,UZ,V0]
    refine Gt.j0 (by first | exact trivial | exact ⟨_,rfl,rfl,rfl⟩) (GPm mm) (G6 _ _) (fun f=>f 76) rfl rfl rfl rfl rfl (fun _=>rfl) (fun m1 f hf=>by obtain ⟨A5,n5,c5,h5,o5⟩:=hf 76 _ rfl rfl;rw [h5];exact ⟨_,_,(lP _ _ _ _).2.1,Below.refl _ _,A5,n5,c5,rfl,o5⟩) ?_
    simp only [Act.put,UY,UZ,V0]
    refine Gt.j0 (by first | exact trivial | exact ⟨_,rfl,rfl,rfl⟩) (fun v _=>v=.int .i64 kk2) (Gt.Rl.stable_eq _ _) (fun f=>f 76) rfl rfl rfl rfl rfl (fun _=>rfl) (fun m1 f hf=>by obtain ⟨A5,n5,c5,h5,o5⟩:=hf 76 _ rfl rfl;rw [h5];exact ⟨_,_,(lP _ _ _ _).2.2,Below.refl _ _,rfl⟩) ?_
    simp only [Act.put,UY,UZ,V0]
    refine Gt.wpX_allocA33 w5.heap.size (fun m1=>(LL m1).size) (sV _ _ _) (by first | exact trivial | exact ⟨_,rfl,rfl,rfl⟩) rfl rfl rfl rfl ?_
    simp only [Act.put,UY,UZ,V0]
    refine Gt.wpX_allocM17 w5.heap.size (fun m1=>(LL m1).size) (kN _ _ _) (by first | exact trivial | exact ⟨_,rfl,rfl,rfl⟩) rfl rfl rfl rfl ?_
    simp only [Act.put,UY,UZ,V0]
    refine Gt.fS (by first | exact trivial | exact ⟨_,rfl,rfl,rfl⟩) (qM w5.heap.size { xi with li:=xi.li+1 }) (fun f=>f 8) (fun f=>f 103) rfl rfl rfl rfl rfl (fun _=>rfl) (fun _=>rfl) qM.ext qM.st (fun m1 f hf=>?_) ?_
    · obtain ⟨g,e9,hg,cs9,q1,q2⟩:=hf 8 _ rfl rfl
      have e5:f 103=abV { xi with li:=xi.li+1 }:=hf 103 _ rfl rfl
      rw [e9,e5]
      exact ⟨_,fR (cells:=bU { xi with li:=xi.li+1 }) q1 dF q2 (eR H1X.out),⟨G0,RgS.setRow q1 (List.mem_singleton.2 rfl) hg q2.symm⟩,g,rfl,hg,aZ q1⟩
    refine Gt.fS (by first | exact trivial | exact ⟨_,rfl,rfl,rfl⟩) (xH w5.heap.size mm) (fun f=>f 9) (fun f=>f 104) rfl rfl rfl rfl rfl (fun _=>rfl) (fun _=>rfl) xH.ext xH.st (fun m1 f hf=>?_) ?_
    · obtain ⟨g,e9,hg,cs9,q1,q2⟩:=hf 9 _ rfl rfl
      obtain ⟨A5,n5,c5,h5,o5⟩:=hf 104 _ rfl rfl
      rw [e9,h5]
      have hR:=RgS.setRow (S:=[80]) (G:=fun q=>w5.heap.size≤q) (cs':=(aB mm (.slice A5 n5 c5)).toArray) q1 (List.mem_singleton.2 rfl) hg q2.symm
      exact ⟨_,fR (cells:=(aB mm (.slice A5 n5 c5)).toArray) q1 aN q2 (dZ mm (.slice A5 n5 c5) rfl),⟨G1,hR⟩,g,A5,n5,c5,rfl,hg,aZ q1,o5.rg (by decide) (fun _ _=>V7 _) hR⟩
    refine Gt.wpX_endG rfl (fun m1 f hf hqs=>?_)
    have hq2:xH w5.heap.size mm (f 9) m1.1:=hqs _ VM
    have hq1:qM w5.heap.size { xi with li:=xi.li+1 } (f 8) m1.1:=hqs _ (VQ _ VM)
    have e105:f 105=.int .i64 kk2:=hf 105 _ rfl
    obtain ⟨g9,A5,n5,c5,e9,hg9,T9,O9⟩:=hq2
    obtain ⟨g8,e8,hg8,T8⟩:=hq1
    simp only [aV]
    simp only [Act.put,UY,UZ,V0]
    rw [e8,e9,e105]
    have J6:=VR (J5.out.tr (LL m1))
    have K6:=VR (Kp.ext (LL m1))
    have HT8:=VR T8
    have HT9:=VR T9
    have HO9:=VR O9
    clear hw1 LR LL p0 p6 pl ki kj kl KI KRi KRj hqs hf e8 e9 e105 T8 T9 O9 J5
    generalize m1.1=w6 at *
    generalize f 99=f99 at *
    generalize f 102=f102 at *
    generalize f 76=f76 at *
    generalize f 103=f103 at *
    generalize f 104=f104 at *
    clear m1 f
    show wpList _ _ _ _ _ _
    go_upto_region 14 with fail
    obtain ⟨gA',e',-,hth,hT,-,-,-,o12⟩:=aJ.setFlat tQ (by decide) (a:={ xi with li:=xi.li+1 }) J6.out.own (show i<xs.length by have:=HXL.out;omega)
    obtain rfl:gA=gA':=by injection e' with e';injection e'
    obtain ⟨j7,k7⟩:=J6.out.setAll QB.out hgA hT (i:=i) (y:={ xi with li:=xi.li+1 }) (ys:=xs.set i { xi with li:=xi.li+1 }) o12
    have HTH:=VR hth
    have HJ7:=VR j7
    have HK7:=VR k7
    have y0:=J6.out.c.2.1
    have yl:=J6.out.c.2.2.2.2.2.1
    have H18:=VR (show (abL { xi with li:=xi.li+1 }).toArray.all (·.oneCell')=true by rw [I7];exact eR H1X.out)
    clear e' hth hT o12 j7 k7
    go_upto_region 15 with (first | (refine wpList_load_row rfl 98 _ rfl g8 rfl 98 (bU { xi with li:=xi.li+1 }) (0,0) _ HT8.out Tryz.underlying98 rfl dF ?_) | (refine gX rfl 98 _ _ rfl rfl gA (i*33) (abL { xi with li:=xi.li+1 }) rfl rfl HTH.out dF H18.out ?_))
    have HT9':=VR (show aX (w6.setCells gA (i*33) (abL { xi with li:=xi.li+1 })) g9 mm (.slice A5 n5 c5) from HK7.out _ g9 _ _ R4 HT9.out)
    have HO9':=VR (HO9.out.kp qH HK7.out)
    have HS7:=VR ((HS5.out.kp K6.out).kp HK7.out)
    have AU7:=VR ((AU5.out.kp K6.out).kp HK7.out)
    have HSi7:=VR (((HSi.out.kp K6.out).kp HK7.out).more)
    clear y0 yl HTH HT8 HT9 HO9 J6 K6 HS5 AU5 HK7 HSi H18
    generalize w6.setCells gA (i*33) (abL { xi with li:=xi.li+1 })=w7 at *
    obtain ⟨ps,hps,hsp,hin⟩:=HS7.out.m
    have HC:=VR HJ7.out.c.1
    have y6:=HJ7.out.c.2.2.2.2.1
    have yl:=HJ7.out.c.2.2.2.2.2.1
    have HPS:=VR (And.intro hps (And.intro hsp hin))
    clear hps hsp hin
    go_wp2_with (first | (refine wpList_load_mid rfl 75 _ rfl P 1 rfl [slV s0,slV s1,slV s2,slV s3,slV s4] _ HC.out Tryz.underlying75 rfl aY ?_) | (refine wpList_load_row rfl 80 _ rfl g9 rfl 80 (aB mm (.slice A5 n5 c5)).toArray (0,0) _ HT9'.out Tryz.underlying80 rfl aN ?_))
    refine (HAC.out s0 s1 s2 s3 s4 S ps mm (.slice A5 n5 c5) day w7 HJ7.out.ext HS7.out HB.out.1 HPS.out.2.1.rd HPS.out.1 (fun p hp=>(HPS.out.2.2 p hp).rd) HO9'.out.rd HSMM.out.1 HSMM.out.2.1 HSMM.out.2.2.1).mono ?_
    rintro e w8 q8
    obtain ⟨t2,rfl,b8,hs8⟩:=q8.sts HS7.out HPS.out.2.2 HO9'.out
    have HB8:=VR (show WSb (dP S mm day).1∧(dP S mm day).1.roots.length=1 from ⟨HB.out.1.acc HSMM.out.1 (by have:=HSMM.out.2.2.2;have h2:([cj,ci]:List NC).length=2:=rfl;have h3:mm.roots.length≤([cj,ci]:List NC).length:=this;omega),by rw [(nX S mm day).1];exact HB.out.2⟩)
    generalize dP S mm day=ac at *
    have J8:=VR (HJ7.out.tr b8)
    have HS8:=VR hs8
    have AU8:=VR (AU7.out.kp (Kp.ext b8))
    have HSi8:=VR (HSi7.out.kp (Kp.ext b8))
    obtain ⟨j9,k9⟩:=J8.out.store QB.out s0 s1 t2 s3 s4
    have HJ9:=VR j9
    have HK9:=VR k9
    have HTH8:=VR J8.out.th
    have z0:=J8.out.c.2.2.2.2.2.1
    clear q8 hs8 j9 k9 y6 yl HC HPS
    go_wp2_with (refine gX rfl 75 _ _ rfl rfl P 1 [slV s0,slV s1,slV t2,slV s3,slV s4] rfl rfl HTH8.out aY (eG s0 s1 t2 s3 s4) ?_)
    go_roundw
    case rel=>exact ⟨k',s0,s1,t2,s3,s4,ac.1,xs.set i { xi with li:=xi.li+1 },by omega,by go_num,VR (by rw [List.length_set];exact HXL.out),HJ9,VR (fun y hy=>(List.mem_or_eq_of_mem_set hy).elim (fun q=>((AU8.out.kp HK9.out).mono (by omega)) y q) (fun q=>by rw [q];exact ⟨ai,di,(HSi8.out.kp HK9.out).mono (by omega)⟩)),VR (HS8.out.kp HK9.out),HB8⟩
    case measure=>simp [intOf]
  case pos =>
  have hi2:(i:Int)<2:=by omega
  have wi:IntKind.i64.wrap ((i:Int)+1)=(i:Int)+1:=IntWalk.i64_in _ (by omega)
  obtain ⟨A,c,rfl⟩:=J.out.form
  go_upto_region 6 with fail
  refine Gr.aO (r:=dcR D b) 14 (by kernel_rfl) (by kernel_rfl) ?_
  simp only [VH,VE,VI,VJ]
  intro wq hw1
  have JL:∀ m:(dcR D b).Lt wq,(dcR D b).rel wr m.1:=fun m=>(dcR D b).tr hw1 m.2
  have JW:∀ m:(dcR D b).Lt wq,WI w P D b (.slice A xs.length c) zS zS zS zS zS day xs m.1:=fun m=>J.out.dc QB.out (JL m)
  have p0:=fun m:(dcR D b).Lt wq=>(JW m).c.2.1
  have pl:=fun m:(dcR D b).Lt wq=>(JW m).c.2.2.2.2.2.1
  have HJL:=VR JL
  have HJW:=VR JW
  have HDL:Hid (∀ m:(dcR D b).Lt wq,D<m.1.heap.size):=VR (fun m=>by obtain ⟨M,hd⟩:=(JW m).dice;exact hd.lt)
  clear JL JW
  repeat (first | (refine Gr.fE (by first | exact trivial | exact ⟨_,rfl,rfl,rfl⟩) _ rfl rfl rfl rfl rfl ?_;simp only [Act.put,UY,UZ,V0]) | (refine Gr.aD (by first | exact trivial | exact ⟨_,rfl,rfl,rfl⟩) rfl rfl rfl rfl rfl (fun K hK=>?_);go_big_quiet_op;refine hK _ ?_;clear hK K))
  refine Gr.eT (by first | exact trivial | exact ⟨_,rfl,rfl,rfl⟩) (GZ 200) (nW _ _) (args:=[.pointer (some ⟨D,0,none⟩),.int .i64 200]) rfl rfl rfl rfl (by kernel_rfl) rfl rfl (fun m=>mZ (b:=b) _ (HJW.out m).dice (by omega) (by omega)) ?_
  simp only [Act.put,UY,UZ,V0]
  repeat (first | (refine Gr.fE (by first | exact trivial | exact ⟨_,rfl,rfl,rfl⟩) _ rfl rfl rfl rfl rfl ?_;simp only [Act.put,UY,UZ,V0]) | (refine Gr.aD (by first | exact trivial | exact ⟨_,rfl,rfl,rfl⟩) rfl rfl rfl rfl rfl (fun K hK=>?_);go_big_quiet_op;refine hK _ ?_;clear hK K))
  refine Gr.eT (by first | exact trivial | exact ⟨_,rfl,rfl,rfl⟩) (GZ 3) (nW _ _) (args:=[.pointer (some ⟨D,0,none⟩),.int .i64 3]) rfl rfl rfl rfl (by kernel_rfl) rfl rfl (fun m=>mZ (b:=b) _ (HJW.out m).dice (by omega) (by omega)) ?_
  simp only [Act.put,UY,UZ,V0]
  repeat (first | (refine Gr.fE (by first | exact trivial | exact ⟨_,rfl,rfl,rfl⟩) _ rfl rfl rfl rfl rfl ?_;simp only [Act.put,UY,UZ,V0]) | (refine Gr.aD (by first | exact trivial | exact ⟨_,rfl,rfl,rfl⟩) rfl rfl rfl rfl rfl (fun K hK=>?_);go_big_quiet_op;refine hK _ ?_;clear hK K))
  refine Gr.eT (by first | exact trivial | exact ⟨_,rfl,rfl,rfl⟩) (GZ 9) (nW _ _) (args:=[.pointer (some ⟨D,0,none⟩),.int .i64 9]) rfl rfl rfl rfl (by kernel_rfl) rfl rfl (fun m=>mZ (b:=b) _ (HJW.out m).dice (by omega) (by omega)) ?_
  simp only [Act.put,UY,UZ,V0]
  repeat (first | (refine Gr.fE (by first | exact trivial | exact ⟨_,rfl,rfl,rfl⟩) _ rfl rfl rfl rfl rfl ?_;simp only [Act.put,UY,UZ,V0]) | (refine Gr.aD (by first | exact trivial | exact ⟨_,rfl,rfl,rfl⟩) rfl rfl rfl rfl rfl (fun K hK=>?_);go_big_quiet_op;refine hK _ ?_;clear hK K))
  refine Gr.eT (by first | exact trivial | exact ⟨_,rfl,rfl,rfl⟩) (GZ 9) (nW _ _) (args:=[.pointer (some ⟨D,0,none⟩),.int .i64 9]) rfl rfl rfl rfl (by kernel_rfl) rfl rfl (fun m=>mZ (b:=b) _ (HJW.out m).dice (by omega) (by omega)) ?_
  simp only [Act.put,UY,UZ,V0]
  repeat (first | (refine Gr.fE (by first | exact trivial | exact ⟨_,rfl,rfl,rfl⟩) _ rfl rfl rfl rfl rfl ?_;simp only [Act.put,UY,UZ,V0]) | (refine Gr.aD (by first | exact trivial | exact ⟨_,rfl,rfl,rfl⟩) rfl rfl rfl rfl rfl (fun K hK=>?_);go_big_quiet_op;refine hK _ ?_;clear hK K))
  refine Gr.bJ (by first | exact trivial | exact ⟨_,rfl,rfl,rfl⟩) (GL5 D i) (G5 _ _ _) (fun f=>[(0,.int .i64 (i:Int)),(1,f 25),(2,f 27),(3,f 29),(4,f 31)]) rfl rfl rfl rfl rfl (fun _=>rfl) (fun m f hf=>?_) ?_
  · obtain ⟨z1,e1,a1,b1⟩:=hf 25 _ rfl rfl
    obtain ⟨z2,e2,a2,b2⟩:=hf 27 _ rfl rfl
    obtain ⟨z3,e3,a3,b3⟩:=hf 29 _ rfl rfl
    obtain ⟨z4,e4,a4,b4⟩:=hf 31 _ rfl rfl
    rw [e1,e2,e3,e4]
    exact ⟨_,_,OD m.1 i z1 z2 z3 z4,(dcR D b).ext ((Below.refl _ _).alloc (UX _) _),m.1.heap.size,z1,z2,z3,z4,rfl,HDL.out m,aC _ _,⟨a1,b1⟩,⟨a2,b2⟩,⟨a3,b3⟩,⟨a4,b4⟩⟩
  simp only [Act.put,UY,UZ,V0]
  refine Gr.aU (by first | exact trivial | exact ⟨_,rfl,rfl,rfl⟩) (SP D) (DQ _ _) (fun f=>[f 32]) rfl rfl rfl rfl rfl (by kernel_rfl) rfl (fun _=>rfl) (fun m f hf=>?_) ?_
  · obtain ⟨g,z1,z2,z3,z4,e1,hg,hb,c1,c2,c3,c4⟩:=hf 32 _ rfl rfl
    rw [e1]
    have HW:∀ x ∈ [(i:Int),z1,z2,z3,z4],mA x:=fun x hx=>by
     simp only [List.mem_cons,List.not_mem_nil,or_false] at hx
     unfold mA
     rcases hx with rfl | rfl | rfl | rfl | rfl <;> omega
    have HR:RdI m.1 .i64 (.slice (some ⟨g,0,none⟩) 5 5) [(i:Int),z1,z2,z3,z4]:=RdK.r1 (O0 (xs:=bC [(i:Int),z1,z2,z3,z4]) hb 5 rfl (by unfold maxLen;omega))
    refine (HAU.out [(i:Int),z1,z2,z3,z4] _ m.1 (HJW.out m).ext HR HW (by show 5≤1000;omega)).mono fun e w'' q=>?_
    obtain ⟨u,h1,h2,h3⟩:=SQ q (HDL.out m)
    exact ⟨u,h1,(dcR D b).ext h2,h3⟩
  simp only [Act.put,UY,UZ,V0]
  refine Gr.bJ (by first | exact trivial | exact ⟨_,rfl,rfl,rfl⟩) (UG D) (DR _ _) (fun f=>[(0,f 33)]) rfl rfl rfl rfl rfl (fun _=>rfl) (fun m f hf=>?_) ?_
  · obtain ⟨x,a,ds,e1,ar,rest⟩:=hf 33 _ rfl rfl
    rw [e1]
    have eA:Ext m.1 (m.1.alloc (.cells (bU x) 98)):=(Below.refl _ _).alloc (UX _) _
    exact ⟨_,_,KS m.1 x,(dcR D b).ext eA,m.1.heap.size,x,a,ds,rfl,HDL.out m,aC _ _,ar.ext eA,rest⟩
  simp only [Act.put,UY,UZ,V0]
  refine Gr.cO (fun m f hf=>?_)
  obtain ⟨g,x,a,ds,e34,hg,hrow,ar,ai,hn,li,hV,hDe,hZ⟩:=hf 34 _ rfl
  simp only [aV]
  simp only [Act.put,UY,UZ,V0]
  rw [e34]
  have J5:=VR (HJW.out m)
  have AU5:=VR (AU.out.kp (J.out.kdc (HJL.out m)))
  have HRK:=VR (show RdK m.1 33 (.slice (some ⟨g,0,none⟩) 1 1) (abL x) from O0 (by rw [I7];exact hrow) 1 rfl (by unfold maxLen;omega))
  have HAX:=VR (ar.auS ai hn li hV hDe hZ)
  have XB:=VR (Below.refl (P+1) m.1)
  have HSZ:=VR (show P+1≤m.1.heap.size from (HJW.out m).c.2.2.2.2.2.1)
  have hxl:xs.length<2:=by have:=HXL.out;omega
  clear hw1 HJL HJW HDL p0 pl hf e34 hrow ar J AU
  generalize m.1=w5 at *
  generalize f 25=f25 at *
  generalize f 27=f27 at *
  generalize f 29=f29 at *
  generalize f 31=f31 at *
  generalize f 32=f32 at *
  generalize f 33=f33 at *
  clear m f
  show wpList _ _ _ _ _ _
  go_wp2_with (refine bP (k:=33) (by decide) SK (n:=xs.length) (m:=1) (B:=P+1) J5.out.own (by rw [wL]) HRK.out rfl (QK HAX.out.one) XB.out (by omega) (by unfold maxLen;omega) HSZ.out rfl rfl rfl rfl ?_;intro A8 n8 c8 w8 hn8 o8 x8 g8;obtain ⟨hP,j9,k9⟩:=J5.out.app QB.out (show aJ w8 (P+1) 98 33 (.slice A8 n8 c8) (rQ (xs++[x])) by rw [KZ];exact o8) g8;have HJ9:=VR j9;have HK9:=VR k9;have y0:=cell_of_row _ _ 0 _ _ _ hP;have yl:=a9 hP;have yf:w8.frozen? ⟨P,0,none⟩=false:=by simp [World.frozen?,hP])
  go_roundw
  case rel=>exact ⟨i+1,_,xs++[x],by omega,by go_num,VR (by rw [V5,HXL.out];rfl),HJ9,VR (fun y hy=>(List.mem_append.1 hy).elim (fun q=>(AU5.out.kp (Kp.refl _) |>.kp ((Kp.refl _).tr HK9.out)) y q) (fun q=>by rw [List.mem_singleton.1 q];exact ⟨a,ds,HAX.out.kp HK9.out⟩))⟩
  case measure=>simp [intOf];omega
end Go.Proofs.YtkjplpmogfmhkaaGreatDoor
