/- Parts Bj Uo of the proof. -/
import Derived.Test.YtkjplpmogfmhkaaGreatDoorHbl
namespace Go.Proofs.YtkjplpmogfmhkaaGreatDoor
open Go.RowKit
open Gd (dT kV)
set_option linter.unusedVariables false
set_option maxRecDepth 100000
theorem RE (w:World) (v:Value) (s0 s1 s2 s3 s4:SlT) (day:Int):∃ wz,wz=w.alloc (.cells #[v,.slice s0.1 s0.2.1 s0.2.2,.slice s1.1 s1.2.1 s1.2.2,.slice s2.1 s2.2.1 s2.2.2,.slice s3.1 s3.2.1 s3.2.2,.slice s4.1 s4.2.1 s4.2.2,.int .i64 day] 100)/\Ext w wz/\wz.heap[w.heap.size]?=some (.cells (eU v s0 s1 s2 s3 s4 day) 100 (0,0)) :=
 ⟨_,rfl,(Below.refl _ _).alloc (YF _) _,aB w _⟩
theorem UE {w:World}{A:Option Addr}{n c:Nat}{xs:List AB} (h:RdK w 33 (.slice A n c) (sR xs)) {i:Nat}{x:AB} (hx:xs[i]?=some x):∃ g o,A=some ⟨g,o,none⟩/\g<w.heap.size/\n=xs.length/\n<=c/\c<=maxLen/\w.rangeAt g (o+i*33) (abL x):=by
 obtain ⟨A',n',c',e,hn,hnc,hcm,hc⟩:=h
 injection e with e1 e2 e3
 subst e1 e2 e3
 obtain ⟨hi,rfl⟩:=List.getElem?_eq_some_iff.1 hx
 rw [xI] at hn
 obtain rfl:n=xs.length:=ZD (by decide) hn
 obtain ⟨b,o,rfl,hcell⟩:=hc (by omega)
 have key:w.rangeAt b (o+i*33) (abL xs[i]):=fun j u hu=>by
  have hj:j<33:=(List.getElem?_eq_some_iff.1 hu).1
  rw [YM]
  exact hcell (i*33+j) u ((mY abL 33 uP xs i hi j hj).trans hu)
 exact ⟨b,o,rfl,World.block_lt_of_cell? w _ (key 0 _ rfl),rfl,hnc,hcm,key⟩
structure LkZ (w wr:World) (row:Array Value):Prop where
 a:wr.heap[w.heap.size]?=some (.cells row 100 (0,0))
 z:bM wr (w.heap.size+1) bY (.slice none 0 0)
theorem LkZ.ext {w wr wx:World}{row:Array Value} (h:LkZ w wr row) (e:Ext wr wx):LkZ w wx row:=⟨(e.block _ (aA h.a)).trans h.a,h.z.ext e⟩
def arT:List Nat:=[98,103]
theorem RF:98 ∈ arT:=by unfold arT;decide
theorem WJ:103 ∈ arT:=by unfold arT;decide
theorem CD:3 ∉ arT:=by unfold arT;decide
def GVt (B:Nat) (x:AB) (r:RV) (k:Int):aE:=fun v w=>∃ (A:Option Addr) (n1 c:Nat) (A2:Option Addr) (n2 c2:Nat),v=.tuple #[abV { x with V:=.slice A n1 c,li:=x.li+1 },rvV r (.slice A2 n2 c2),.int .i64 k]/\Own w B 3 (.slice A2 n2 c2) (aQ r.ser)
theorem xN (B:Nat) (x:AB) (r:RV) (k:Int) (G:Nat->Prop):(RG arT G).stable (GVt B x r k):=fun v w w' e ⟨A,n1,c,A2,n2,c2,h1,h2⟩=>⟨A,n1,c,A2,n2,c2,h1,h2.rgs e CD⟩
def GVa (x:AB):aE:=fun v _=>∃ (A:Option Addr) (n1 c:Nat),v=abV { x with V:=.slice A n1 c,li:=x.li+1 }
theorem JB (x:AB) (G:Nat->Prop):(RG arT G).stable (GVa x):=fun _ _ _ _ h=>h
def GVr (B:Nat) (r:RV):aE:=fun v w=>∃ (A2:Option Addr) (n2 c2:Nat),v=rvV r (.slice A2 n2 c2)/\Own w B 3 (.slice A2 n2 c2) (aQ r.ser)
theorem JC (B:Nat) (r:RV) (G:Nat->Prop):(RG arT G).stable (GVr B r):=fun v w w' e ⟨A2,n2,c2,h1,h2⟩=>⟨A2,n2,c2,h1,h2.rgs e CD⟩
theorem rH (B:Nat) (G:Nat->Prop):(RG arT G).stable (QW B):=fun v w w' r ⟨g,h1,h2,h3⟩=>⟨g,h1,h2,h3.rg r⟩
theorem CE (B:Nat) (G:Nat->Prop):(RG arT G).stable (IM B):=fun v w w' r ⟨g,h1,h2,h3⟩=>⟨g,h1,h2,h3.rg r⟩
def GVx (B:Nat):aE:=fun v w=>∃ g,v=.pointer (some ⟨g,0,none⟩)/\B<=g/\pM w g 98 33
def GVe (B B0:Nat) (r:RV):aE:=fun v w=>∃ (g:Nat) (A2:Option Addr) (n2 c2:Nat),v=.pointer (some ⟨g,0,none⟩)/\B<=g/\bM w g r (.slice A2 n2 c2)/\Own w B0 3 (.slice A2 n2 c2) (aQ r.ser)
theorem GVe.rg {B B0:Nat}{r:RV}{v:Value}{w w':World}{S:List Nat}{G:Nat->Prop} (e:RgS S G w w') (h1:103 ∉ S) (h2:3 ∉ S) (h:GVe B B0 r v w):GVe B B0 r v w':=by
 obtain ⟨g,A2,n2,c2,q1,q2,q3,q4⟩:=h
 exact ⟨g,A2,n2,c2,q1,q2,e.other q3 h1,q4.rgs e h2⟩
theorem GVe.ext {B B0:Nat}{r:RV} (v:Value) (w w':World) (e:Ext w w') (h:GVe B B0 r v w):GVe B B0 r v w':=by
 obtain ⟨g,A2,n2,c2,q1,q2,q3,q4⟩:=h
 exact ⟨g,A2,n2,c2,q1,q2,q3.ext e,q4.ext e⟩
theorem bM.put {w:World}{g:Nat}{m:RV}{v:Value} (h:bM w g m v) (i:Nat) (u:Value):(w.setCell ⟨g,i,none⟩ u).heap[g]?=some (.cells ((bI m v).setIfInBounds i u) 103 (0,0)):=aF h.row i u
theorem Own.setO {w:World}{B g i:Nat}{e T:TypeId}{v u:Value}{xs:List Value}{cs:Array Value}{fr:Nat × Nat} (h:Own w B e v xs) (hg:w.heap[g]?=some (.cells cs T fr)) (hne:e≠T):Own (w.setCell ⟨g,i,none⟩ u) B e v xs:=by
 obtain ⟨A,n,c,rfl,hn,h | ⟨g1,cur,rfl,hB,hg1,r⟩⟩:=h
 · exact ⟨A,n,c,rfl,hn,.inl h⟩
 · refine ⟨_,n,c,rfl,hn,.inr ⟨g1,cur,rfl,hB,(aT (fun q=>?_)).trans hg1,r⟩⟩
   subst q
   rw [hg] at hg1
   injection hg1 with q
   injection q with _ q _
   exact hne q.symm
theorem Own.setRowO {w:World}{B g:Nat}{e T:TypeId}{v:Value}{xs:List Value}{cs cs2:Array Value}{fr:Nat × Nat} (h:Own w B e v xs) (hg:w.heap[g]?=some (.cells cs T fr)) (hne:e≠T):Own (w.setRow g cs2) B e v xs:=by
 obtain ⟨A,n,c,rfl,hn,h | ⟨g1,cur,rfl,hB,hg1,r⟩⟩:=h
 · exact ⟨A,n,c,rfl,hn,.inl h⟩
 · refine ⟨_,n,c,rfl,hn,.inr ⟨g1,cur,rfl,hB,(dC (fun q=>?_)).trans hg1,r⟩⟩
   subst q
   rw [hg] at hg1
   injection hg1 with q
   injection q with _ q _
   exact hne q.symm
theorem Own.rowT {w:World}{B g:Nat}{e T:TypeId}{v:Value}{xs:List Value}{cs:Array Value}{fr:Nat × Nat} (h:Own w B e v xs) (hg:w.heap[g]?=some (.cells cs T fr)) (hne:e≠T):aO v≠some g:=by
 obtain ⟨A,n,c,rfl,hn,h | ⟨g1,cur,rfl,hB,hg1,r⟩⟩:=h
 · obtain ⟨rfl,rfl⟩:=h
   cases A <;> simp [aO]
 · intro q
   cases c with
   | zero=>simp [aO] at q
   | succ c' =>
     have:g1=g:=by simpa [aO] using q
     subst this
     rw [hg] at hg1
     injection hg1 with q
     injection q with _ q _
     exact hne q.symm
def LvR (w:World) (e:Ending) (w':World):Prop:=∃ (m:RV) (A:Option Addr) (n c:Nat),e=.returned (rvV m (.slice A n c))/\Ext w w'/\bQ w' 0 3 1 (.slice A n c) (aQ m.ser)/\m.st.length<=maxLen/\m.ser.length<=10000
set_option maxHeartbeats 16000000 in
theorem JE (s0 s1 s2 s3 s4:SlT) (day:Int) {A:Option Addr}{c:Nat}{xs:List AB} (who num what bye:Int) (i:Nat) (xi:AB) (vs ks:List Int) (kx:Int) (w:World)
 (hA:RdK w 33 (.slice A 2 c) (sR xs)) (hi:fL who 2=(i:Int)) (hxi:xs[i]?=some xi) (hV:RdI w .i64 xi.V vs) (hvl:vs.length<=1000) (hS:RdI w .i64 xi.S ks) (hk:ks[ks.length - 1]?=some kx) (hk1:ks.length<=100) (hst:xi.st.length<=maxLen) (li0:0<=xi.li) (li1:xi.li<=1000) (hone:qZ xi)
 (d0:0<=day) (d1:day<=100000) (hw:k8 who) (hnu:k8 num) (hwh:k8 what) (b0:-1000<=bye) (b1:bye<=1000) (E:dS w 0) :
 Calls Tryz.prog 67 #[.agg (eU (.slice A 2 c) s0 s1 s2 s3 s4 day),.int .i64 who,.int .i64 num,.int .i64 what,.int .i64 bye] w (LvR w):=by
 obtain ⟨wa,hwa,ea,TA1⟩:=RE w (.slice A 2 c) s0 s1 s2 s3 s4 day
 obtain ⟨wz,hwz,ez,TZ⟩:=hM wa bY (.slice none 0 0)
 have has:wa.heap.size=w.heap.size+1:=by rw [hwa];simp
 have hzs:wz.heap.size=w.heap.size+1+1:=by rw [hwz];simp [has]
 rw [has] at TZ
 have hwz2:wz=wa.alloc (.cells #[.string ⟨#[]⟩,.int .i64 0,.int .i64 0,.int .i64 0,.slice none 0 0,.int .i64 0,.int .i64 0,.int .i64 0] 103):=hwz
 clear hwz
 have X0:=ZH (ea.tr ez)
 have Z0:=ZH (show LkZ w wz (eU (.slice A 2 c) s0 s1 s2 s3 s4 day) from ⟨(ez.block _ (aA TA1)).trans TA1,TZ⟩)
 have HZS:=ZH hzs
 have HMW:=ZH (fun W=>iP who 2 W hw.1 hw.2 (by omega))
 have HMN:=ZH (fun W=>iP num 12 W hnu.1 hnu.2 (by omega))
 have HMH:=ZH (fun W=>iP what 12 W hwh.1 hwh.2 (by omega))
 have HST:=ZH (fun W=>xB bye W ⟨by omega,by omega⟩)
 have HBN:=ZH (zO bye)
 have hi2':i<2:=by have:=iO (x:=who) (m:=2) (by omega);omega
 rw [hi] at HMW
 obtain ⟨gA,oA,rfl,hglr,hnl,h2c,hcm,Ri⟩:=UE hA hxi
 unfold maxLen at hcm
 have XZ:=ea.tr ez
 have HRi:=ZH (j3 Ri hglr XZ)
 have hgz:gA<wz.heap.size:=YX hglr XZ.size
 have kn:=iO (x:=num) (m:=12) (by omega)
 obtain ⟨m12n,hm12⟩:∃ m,fL num 12=m:=⟨_,rfl⟩
 rw [hm12] at HMN kn
 have HPB:=ZH (fun W (e:Ext w W)=>rC xi vs ks kx (1+m12n) day W (hV.ext e) (hS.ext e) hk hk1 hvl hst d0 (by omega) li0 (by omega) hone (E.below e))
 have HSX:=ZH hone
 have HSR:=ZH (show ((eT kx ⟨xi.st,xi.li,day,day+90,dD vs (1+m12n),(ks.length:Int),0,0⟩)).st.length<=maxLen/\((eT kx ⟨xi.st,xi.li,day,day+90,dD vs (1+m12n),(ks.length:Int),0,0⟩)).ser.length<=2000 from ⟨LA kx ⟨xi.st,xi.li,day,day+90,dD vs (1+m12n),(ks.length:Int),0,0⟩ hst,by
  have:=xK vs (1+m12n)
  rcases FL kx ⟨xi.st,xi.li,day,day+90,dD vs (1+m12n),(ks.length:Int),0,0⟩ with q | q <;> rw [q]
  · show (dD vs (1+m12n)).length<=2000
    omega
  · exact YK _⟩)
 clear hA hi hxi hV hvl hS hk hk1 hst li0 li1 hone d0 d1 hw hwh hnu ea ez TA1 TZ has hzs Ri XZ hnl E hglr hm12
 have wi1:IntKind.i64.wrap ((i:Int))=(i:Int):=IntWalk.i64_in _ (by omega)
 have zi1:(0:Int)<=(i:Int):=by omega
 have li1:(i:Int)<2:=by omega
 have ti1:((i:Int)).toNat=i:=by omega
 unfold eU
 go_enter Tryz.func67,Tryz.ntmps67
 go_upto_region 1 with fail
 rw [<- hwa,<- hwz2]
 clear hwa hwz2
 refine Gt.aI (r:=(RG arT (fun q=>wz.heap.size<=q))) 8 (by kernel_rfl) (by kernel_rfl) ?_
 simp only [YT,YQ,YU,YV]
 intro wq hw1
 have LR:∀ m1:(RG arT (fun q=>wz.heap.size<=q)).Lt wq,RgS arT (fun q=>wz.heap.size<=q) wz m1.1:=fun m1=>RgS.tr hw1 m1.2
 have LL:∀ m1:(RG arT (fun q=>wz.heap.size<=q)).Lt wq,Ext wz m1.1:=fun m1=>(LR m1).below (fun _ h=>h) (YF _)
 have ZL:=fun m1:(RG arT (fun q=>wz.heap.size<=q)).Lt wq=>(Z0.out.ext (LL m1)).a
 have p0:∀ m1:(RG arT (fun q=>wz.heap.size<=q)).Lt wq,m1.1.cell? ⟨w.heap.size,0,none⟩=some (.slice (some ⟨gA,oA,none⟩) 2 c):=fun m1=>by rw [cell_of_row _ _ 0 _ _ _ (ZL m1)];rfl
 have pl:=fun m1:(RG arT (fun q=>wz.heap.size<=q)).Lt wq=>aA (ZL m1)
 clear ZL
 have kl:=fun m1:(RG arT (fun q=>wz.heap.size<=q)).Lt wq=>YX hgz (LL m1).size
 have KI:∀ m1:(RG arT (fun q=>wz.heap.size<=q)).Lt wq,m1.1.rangeAt gA (oA+i*33) (abL xi):=fun m1=>j3 HRi.out hgz (LL m1)
 repeat (refine Gt.aC rfl fun K hK=>?_;go_big_quiet_op;refine hK _ ?_;clear hK K)
 refine Gt.bN (Gd.gR rfl) (.int .i64 (i:Int)) (args:=[.int .i64 who,.int .i64 2]) rfl rfl rfl rfl (by kernel_rfl) rfl rfl (fun m1=>(HMW.out m1.1).mono fun _ _ ⟨h1,h2⟩=>⟨h1,h2 ▸ Below.refl _ _⟩) ?_
 simp only [Act.put,YG,YI,YH]
 repeat (refine Gt.aC rfl fun K hK=>?_;go_big_quiet_op;refine hK _ ?_;clear hK K)
 refine Gt.wpX_midK (Gd.gR rfl) (gA) (oA+i*33) (abL xi) rfl rfl rfl rfl rfl KI Tryz.underlying98 rfl bX ?_
 simp only [Act.put,YG,YI,YH]
 refine Gt.wpX_allocA33 wz.heap.size (fun m1=>(LL m1).size) (rH _ _) (Gd.gR rfl) rfl rfl rfl rfl ?_
 simp only [Act.put,YG,YI,YH]
 refine Gt.dP (Gd.gR rfl) (CA wz.heap.size xi) (fun f=>f 11) (fun _=>.agg (abL xi).toArray) rfl rfl rfl rfl rfl (fun _=>rfl) (fun _=>rfl) CA.ext (fun T hT v w w' e ⟨g,h1,h2,h3⟩=>⟨g,h1,h2,e.2.other h3 (fun q=>hT (List.mem_singleton.1 q).symm)⟩) (fun m1 f hf=>?_) ?_
 · obtain ⟨g,e9,hg,cs9,q1,q2⟩:=hf 11 _ rfl rfl
   rw [e9]
   exact ⟨_,dQ (cells:=bE xi) q1 bX q2 (dE HSX.out),⟨RF,RgS.setRow q1 (List.mem_singleton.2 rfl) hg q2.symm⟩,g,rfl,hg,aX q1⟩
 refine Gt.wpX_endG rfl (fun m1 f hf hqs=>?_)
 have hq1:CA wz.heap.size xi (f 11) m1.1:=hqs _ YZ
 obtain ⟨ga,e11,hga,T9⟩:=hq1
 simp only [bO]
 simp only [Act.put,YG,YI,YH]
 rw [e11]
 have X1:=ZH (X0.out.tr (LL m1))
 have Z1:=ZH (Z0.out.ext (LL m1))
 have T1:=ZH T9
 have HGA:=ZH hga
 clear hw1 LR LL p0 pl kl KI hqs hf e11 T9 hga HMW HRi hgz Z0
 have hz1:w.heap.size+1+1<=m1.1.heap.size:=by have:=Z1.out.z.lt;have:=T1.out.lt;have:=HGA.out;have:=HZS.out;omega
 generalize m1.1=w1 at *
 clear m1 f
 show wpList _ _ _ _ _ _
 have wkn:IntKind.i64.wrap (1+m12n)=1+m12n:=IntWalk.i64_in _ (by omega)
 go_upto_region 2 with fail
 refine Gt.aI (r:=(RG arT (fun q=>w1.heap.size<=q))) 15 (by kernel_rfl) (by kernel_rfl) ?_
 simp only [YT,YQ,YU,YV]
 intro wq hw1
 have LR:∀ m1:(RG arT (fun q=>w1.heap.size<=q)).Lt wq,RgS arT (fun q=>w1.heap.size<=q) w1 m1.1:=fun m1=>RgS.tr hw1 m1.2
 have LL:∀ m1:(RG arT (fun q=>w1.heap.size<=q)).Lt wq,Ext w1 m1.1:=fun m1=>(LR m1).below (fun _ h=>h) (YF _)
 have p6:∀ m1:(RG arT (fun q=>w1.heap.size<=q)).Lt wq,m1.1.cell? ⟨w.heap.size,2+4,none⟩=some (.int .i64 day):=fun m1=>by rw [cell_of_row _ _ 6 _ _ _ (Z1.out.ext (LL m1)).a];rfl
 have p6':∀ m1:(RG arT (fun q=>w1.heap.size<=q)).Lt wq,m1.1.cell? ⟨w.heap.size,6,none⟩=some (.int .i64 day):=p6
 have pl:=fun m1:(RG arT (fun q=>w1.heap.size<=q)).Lt wq=>aA (Z1.out.ext (LL m1)).a
 have KA:∀ m1:(RG arT (fun q=>w1.heap.size<=q)).Lt wq,m1.1.rangeAt ga 0 (abL xi):=fun m1 j u hu=>by rw [YR,cell_of_row _ _ j _ _ _ (T1.out.ext (LL m1)).row,<- C8,List.getElem?_toArray];exact hu
 clear p6
 refine Gt.wpX_midK (Gd.gR rfl) (ga) (0) (abL xi) rfl rfl rfl rfl rfl KA Tryz.underlying98 rfl bX ?_
 simp only [Act.put,YG,YI,YH]
 repeat (refine Gt.aC rfl fun K hK=>?_;go_big_quiet_op;refine hK _ ?_;clear hK K)
 refine Gt.bN (Gd.gR rfl) (.int .i64 m12n) (args:=[.int .i64 num,.int .i64 12]) rfl rfl rfl rfl (by kernel_rfl) rfl rfl (fun m1=>(HMN.out m1.1).mono fun _ _ ⟨h1,h2⟩=>⟨h1,h2 ▸ Below.refl _ _⟩) ?_
 simp only [Act.put,YG,YI,YH]
 repeat (refine Gt.aC rfl fun K hK=>?_;go_big_quiet_op;refine hK _ ?_;clear hK K)
 refine Gt.aR (Gd.gR rfl) (GVt w.heap.size xi (eT kx ⟨xi.st,xi.li,day,day+90,dD vs (1+m12n),(ks.length:Int),0,0⟩) (kE kx ⟨xi.st,xi.li,day,day+90,dD vs (1+m12n),(ks.length:Int),0,0⟩)) (xN _ _ _ _ _) (fun _=>[.agg (abL xi).toArray,.int .i64 (1+m12n),.int .i64 day]) rfl rfl rfl rfl rfl (by kernel_rfl) rfl (fun _=>rfl) (fun m1 f hf=>?_) ?_
 · refine (HPB.out m1.1 (X1.out.tr (LL m1))).mono ?_
   rintro e w'' ⟨A9,n9,c9,A6,n6,c6,rfl,r9,r6,b6,s9,s6⟩
   exact ⟨_,rfl,b6,A9,n9,c9,A6,n6,c6,rfl,s6.mono (X1.out.tr (LL m1)).size⟩
 simp only [Act.put,YG,YI,YH]
 generalize (eT kx ⟨xi.st,xi.li,day,day+90,dD vs (1+m12n),(ks.length:Int),0,0⟩)=mm at *
 generalize (kE kx ⟨xi.st,xi.li,day,day+90,dD vs (1+m12n),(ks.length:Int),0,0⟩)=kk2 at *
 refine Gt.wpX_movU (Gd.gR rfl) (GVt w.heap.size xi mm kk2) (xN _ _ _ _ _) (fun f=>f 28) rfl rfl rfl rfl rfl (fun _=>rfl) (fun m1 f hf=>hf 28 _ rfl rfl) ?_
 simp only [Act.put,YG,YI,YH]
 refine Gt.dL (Gd.gR rfl) (GVa xi) (JB _ _) (fun f=>f 21) rfl rfl rfl rfl rfl (fun _=>rfl) (fun m1 f hf=>by obtain ⟨A9,n9,c9,A6,n6,c6,h1,h2⟩:=hf 21 _ rfl rfl;rw [h1];exact ⟨_,_,(lQ _ _ _ _).1,Below.refl _ _,A9,n9,c9,rfl⟩) ?_
 simp only [Act.put,YG,YI,YH]
 refine Gt.dL (Gd.gR rfl) (GVr w.heap.size mm) (JC _ _ _) (fun f=>f 21) rfl rfl rfl rfl rfl (fun _=>rfl) (fun m1 f hf=>by obtain ⟨A9,n9,c9,A6,n6,c6,h1,h2⟩:=hf 21 _ rfl rfl;rw [h1];exact ⟨_,_,(lQ _ _ _ _).2.1,Below.refl _ _,A6,n6,c6,rfl,h2⟩) ?_
 simp only [Act.put,YG,YI,YH]
 refine Gt.dL (Gd.gR rfl) (fun v _=>v=.int .i64 kk2) (Gt.Rl.stable_eq _ _) (fun f=>f 21) rfl rfl rfl rfl rfl (fun _=>rfl) (fun m1 f hf=>by obtain ⟨A9,n9,c9,A6,n6,c6,h1,h2⟩:=hf 21 _ rfl rfl;rw [h1];exact ⟨_,_,(lQ _ _ _ _).2.2,Below.refl _ _,rfl⟩) ?_
 simp only [Act.put,YG,YI,YH]
 refine Gt.wpX_allocA33 w1.heap.size (fun m1=>(LL m1).size) (rH _ _) (Gd.gR rfl) rfl rfl rfl rfl ?_
 simp only [Act.put,YG,YI,YH]
 refine Gt.wpX_allocR8 w1.heap.size (fun m1=>(LL m1).size) (CE _ _) (Gd.gR rfl) rfl rfl rfl rfl ?_
 simp only [Act.put,YG,YI,YH]
 refine Gt.dP (Gd.gR rfl) (GVx w1.heap.size) (fun f=>f 12) (fun f=>f 29) rfl rfl rfl rfl rfl (fun _=>rfl) (fun _=>rfl) (fun v w w' e ⟨g,h1,h2,h3⟩=>⟨g,h1,h2,h3.ext e⟩) (fun T hT v w w' e ⟨g,h1,h2,h3⟩=>⟨g,h1,h2,h3.rg e.2⟩) (fun m1 f hf=>?_) ?_
 · obtain ⟨g,e9,hg,cs9,q1,q2⟩:=hf 12 _ rfl rfl
   obtain ⟨A9,n9,c9,h5⟩:=hf 29 _ rfl rfl
   rw [e9,h5]
   exact ⟨_,dQ (cells:=bE { xi with V:=.slice A9 n9 c9,li:=xi.li+1 }) q1 bX q2 (dE ⟨HSX.out.R,HSX.out.L,HSX.out.S,rfl,HSX.out.D,HSX.out.Z⟩),⟨RF,RgS.setRow q1 (List.mem_singleton.2 rfl) hg q2.symm⟩,g,rfl,hg,_,aX q1,rfl⟩
 refine Gt.dP (Gd.gR rfl) (GVe w1.heap.size w.heap.size mm) (fun f=>f 13) (fun f=>f 30) rfl rfl rfl rfl rfl (fun _=>rfl) (fun _=>rfl) GVe.ext (fun T hT v w w' e h=>h.rg e.2 (fun q=>hT (List.mem_singleton.1 q).symm) (fun q=>CD (List.mem_singleton.1 q ▸ e.1))) (fun m1 f hf=>?_) ?_
 · obtain ⟨g,e9,hg,cs9,q1,q2⟩:=hf 13 _ rfl rfl
   obtain ⟨A6,n6,c6,h5,o5⟩:=hf 30 _ rfl rfl
   rw [e9,h5]
   have hR:=RgS.setRow (S:=[103]) (G:=fun q=>w1.heap.size<=q) (cs':=bI mm (.slice A6 n6 c6)) q1 (List.mem_singleton.2 rfl) hg q2.symm
   exact ⟨_,dQ (cells:=bI mm (.slice A6 n6 c6)) q1 bA q2 (fW mm A6 n6 c6),⟨WJ,hR⟩,g,A6,n6,c6,rfl,hg,aX q1,o5.rgs hR (by decide)⟩
 refine Gt.wpX_endG rfl (fun m1 f hf hqs=>?_)
 have hq2:GVe w1.heap.size w.heap.size mm (f 13) m1.1:=hqs _ YZ
 have hq1:GVx w1.heap.size (f 12) m1.1:=hqs _ (ZG _ YZ)
 have e31:f 31=.int .i64 kk2:=hf 31 _ rfl
 obtain ⟨gm,A6,n6,c6,e9,hgm,T9,O9⟩:=hq2
 obtain ⟨g8,e8,hg8,-⟩:=hq1
 simp only [bO]
 simp only [Act.put,YG,YI,YH]
 rw [e8,e9,e31]
 have XW:=ZH (X1.out.tr (LL m1))
 have T3:=ZH T9
 have HO3:=ZH O9
 have Z3:=ZH (Z1.out.z.ext (LL m1))
 clear hw1 LR LL p6' pl KA hqs hf e8 e9 e31 T9 O9 T1 Z1 X1 HPB HMN
 generalize m1.1=w3 at *
 generalize f 28=f28 at *
 generalize f 21=f21 at *
 generalize f 29=f29 at *
 generalize f 30=f30 at *
 clear m1 f
 show wpList _ _ _ _ _ _
 have hgm2:w.heap.size+1<gm:=by omega
 have hne:w.heap.size+1≠gm:=by omega
 obtain ⟨hst,hsl⟩:=HSR.out
 have HSTL:=ZH hst
 have HSL:=ZH hsl
 clear HSR hst hsl HGA hz1
 obtain ⟨st,num1,dy,nx,ser,iss,es,ss⟩:=mm
 dsimp only at HSTL HSL
 have T3:Hid (bM w3 gm ⟨st,num1,dy,nx,ser,iss,es,ss⟩ (.slice A6 n6 c6)):=T3
 have HO3:Hid (Own w3 w.heap.size 3 (.slice A6 n6 c6) (aQ ser)):=HO3
 go_wp2_with fail
 refine (HMH.out _).mono ?_
 rintro e w' ⟨rfl,rfl⟩
 have c12:fL what 12=0 \/ fL what 12=1 \/ fL what 12=2 \/ fL what 12=3 \/ fL what 12=4 \/ fL what 12=5 \/ fL what 12=6 \/ 7<=fL what 12:=by have:=iO (x:=what) (m:=12) (by omega);omega
 generalize fL what 12=m12 at *
 clear HMH
 generalize gZ bye=sb at *
 have HMO:=ZH (fun W=>iP (wrap64 (es+bye)) 1073741789 W (zP _).1 (zP _).2 (by omega))
 generalize fL (wrap64 (es+bye)) 1073741789=ms at *
 rcases c12 with rfl | rfl | rfl | rfl | rfl | rfl | rfl | h7
 · have c1:=T3.out.c1
   have f1:=T3.out.frozen 1
   have ml:=T3.out.lt
   obtain ⟨w9,hw9⟩:∃ w9,w9=w3.setCell ⟨gm,1,none⟩ (.int .i64 (wrap64 (num1+bye))):=⟨_,rfl⟩
   have T9:Hid (bM w9 gm ⟨st,(wrap64 (num1+bye)),dy,nx,ser,iss,es,ss⟩ (.slice A6 n6 c6)):=by rw [hw9];exact T3.out.put 1 (.int .i64 (wrap64 (num1+bye)))
   have Z9:Hid (bM w9 (w.heap.size+1) bY (.slice none 0 0)):=by rw [hw9];exact (aT hne).trans Z3.out
   have X9:Hid (Ext w w9):=by rw [hw9];exact aG XW.out (by omega)
   have O9:Hid (Own w9 w.heap.size 3 (.slice A6 n6 c6) (aQ ser)):=by rw [hw9];exact HO3.out.setO T3.out.row (by decide)
   have hws:=hw9.symm
   clear hw9
   go_wp2_with (first | (refine wpList_load_row rfl 103 _ rfl gm rfl 103 (bI ⟨st,(wrap64 (num1+bye)),dy,nx,ser,iss,es,ss⟩ (.slice A6 n6 c6)) (0,0) _ T9.out.row Tryz.underlying103 rfl bA ?_) | (refine aL rfl 103 _ _ rfl rfl (w.heap.size+1) (bI ⟨st,(wrap64 (num1+bye)),dy,nx,ser,iss,es,ss⟩ (.slice A6 n6 c6)) rfl rfl 103 (bI bY (.slice none 0 0)) Z9.out.row bA rfl (fW ⟨st,(wrap64 (num1+bye)),dy,nx,ser,iss,es,ss⟩ _ _ _) ?_))
   refine bodyPost_ret (v:=.agg (bI ⟨st,(wrap64 (num1+bye)),dy,nx,ser,iss,es,ss⟩ (.slice A6 n6 c6))) ?_ rfl ⟨⟨st,(wrap64 (num1+bye)),dy,nx,ser,iss,es,ss⟩,_,_,_,rfl,aS X9.out (Nat.le_succ _) _,(O9.out.setRowO Z9.out.row (by decide)).safeK,HSTL.out,(by have:=HSL.out;show ser.length<=10000;omega)⟩
   exact results_cell_row rfl _ _ (w.heap.size+1) 103 (bI ⟨st,(wrap64 (num1+bye)),dy,nx,ser,iss,es,ss⟩ (.slice A6 n6 c6)) (0,0) _ rfl (aX Z9.out.row) Tryz.underlying103 rfl bA
 · have c2:=T3.out.c2
   have f2:=T3.out.frozen 2
   have ml:=T3.out.lt
   obtain ⟨w9,hw9⟩:∃ w9,w9=w3.setCell ⟨gm,2,none⟩ (.int .i64 (wrap64 (dy+bye))):=⟨_,rfl⟩
   have T9:Hid (bM w9 gm ⟨st,num1,(wrap64 (dy+bye)),nx,ser,iss,es,ss⟩ (.slice A6 n6 c6)):=by rw [hw9];exact T3.out.put 2 (.int .i64 (wrap64 (dy+bye)))
   have Z9:Hid (bM w9 (w.heap.size+1) bY (.slice none 0 0)):=by rw [hw9];exact (aT hne).trans Z3.out
   have X9:Hid (Ext w w9):=by rw [hw9];exact aG XW.out (by omega)
   have O9:Hid (Own w9 w.heap.size 3 (.slice A6 n6 c6) (aQ ser)):=by rw [hw9];exact HO3.out.setO T3.out.row (by decide)
   have hws:=hw9.symm
   clear hw9
   go_wp2_with (first | (refine wpList_load_row rfl 103 _ rfl gm rfl 103 (bI ⟨st,num1,(wrap64 (dy+bye)),nx,ser,iss,es,ss⟩ (.slice A6 n6 c6)) (0,0) _ T9.out.row Tryz.underlying103 rfl bA ?_) | (refine aL rfl 103 _ _ rfl rfl (w.heap.size+1) (bI ⟨st,num1,(wrap64 (dy+bye)),nx,ser,iss,es,ss⟩ (.slice A6 n6 c6)) rfl rfl 103 (bI bY (.slice none 0 0)) Z9.out.row bA rfl (fW ⟨st,num1,(wrap64 (dy+bye)),nx,ser,iss,es,ss⟩ _ _ _) ?_))
   refine bodyPost_ret (v:=.agg (bI ⟨st,num1,(wrap64 (dy+bye)),nx,ser,iss,es,ss⟩ (.slice A6 n6 c6))) ?_ rfl ⟨⟨st,num1,(wrap64 (dy+bye)),nx,ser,iss,es,ss⟩,_,_,_,rfl,aS X9.out (Nat.le_succ _) _,(O9.out.setRowO Z9.out.row (by decide)).safeK,HSTL.out,(by have:=HSL.out;show ser.length<=10000;omega)⟩
   exact results_cell_row rfl _ _ (w.heap.size+1) 103 (bI ⟨st,num1,(wrap64 (dy+bye)),nx,ser,iss,es,ss⟩ (.slice A6 n6 c6)) (0,0) _ rfl (aX Z9.out.row) Tryz.underlying103 rfl bA
 · have c3:=T3.out.c3
   have f3:=T3.out.frozen 3
   have ml:=T3.out.lt
   obtain ⟨w9,hw9⟩:∃ w9,w9=w3.setCell ⟨gm,3,none⟩ (.int .i64 (wrap64 (nx - bye))):=⟨_,rfl⟩
   have T9:Hid (bM w9 gm ⟨st,num1,dy,(wrap64 (nx - bye)),ser,iss,es,ss⟩ (.slice A6 n6 c6)):=by rw [hw9];exact T3.out.put 3 (.int .i64 (wrap64 (nx - bye)))
   have Z9:Hid (bM w9 (w.heap.size+1) bY (.slice none 0 0)):=by rw [hw9];exact (aT hne).trans Z3.out
   have X9:Hid (Ext w w9):=by rw [hw9];exact aG XW.out (by omega)
   have O9:Hid (Own w9 w.heap.size 3 (.slice A6 n6 c6) (aQ ser)):=by rw [hw9];exact HO3.out.setO T3.out.row (by decide)
   have hws:=hw9.symm
   clear hw9
   go_wp2_with (first | (refine wpList_load_row rfl 103 _ rfl gm rfl 103 (bI ⟨st,num1,dy,(wrap64 (nx - bye)),ser,iss,es,ss⟩ (.slice A6 n6 c6)) (0,0) _ T9.out.row Tryz.underlying103 rfl bA ?_) | (refine aL rfl 103 _ _ rfl rfl (w.heap.size+1) (bI ⟨st,num1,dy,(wrap64 (nx - bye)),ser,iss,es,ss⟩ (.slice A6 n6 c6)) rfl rfl 103 (bI bY (.slice none 0 0)) Z9.out.row bA rfl (fW ⟨st,num1,dy,(wrap64 (nx - bye)),ser,iss,es,ss⟩ _ _ _) ?_))
   refine bodyPost_ret (v:=.agg (bI ⟨st,num1,dy,(wrap64 (nx - bye)),ser,iss,es,ss⟩ (.slice A6 n6 c6))) ?_ rfl ⟨⟨st,num1,dy,(wrap64 (nx - bye)),ser,iss,es,ss⟩,_,_,_,rfl,aS X9.out (Nat.le_succ _) _,(O9.out.setRowO Z9.out.row (by decide)).safeK,HSTL.out,(by have:=HSL.out;show ser.length<=10000;omega)⟩
   exact results_cell_row rfl _ _ (w.heap.size+1) 103 (bI ⟨st,num1,dy,(wrap64 (nx - bye)),ser,iss,es,ss⟩ (.slice A6 n6 c6)) (0,0) _ rfl (aX Z9.out.row) Tryz.underlying103 rfl bA
 · have c5:=T3.out.c5
   have f5:=T3.out.frozen 5
   have ml:=T3.out.lt
   obtain ⟨w9,hw9⟩:∃ w9,w9=w3.setCell ⟨gm,5,none⟩ (.int .i64 (wrap64 (iss+bye))):=⟨_,rfl⟩
   have T9:Hid (bM w9 gm ⟨st,num1,dy,nx,ser,(wrap64 (iss+bye)),es,ss⟩ (.slice A6 n6 c6)):=by rw [hw9];exact T3.out.put 5 (.int .i64 (wrap64 (iss+bye)))
   have Z9:Hid (bM w9 (w.heap.size+1) bY (.slice none 0 0)):=by rw [hw9];exact (aT hne).trans Z3.out
   have X9:Hid (Ext w w9):=by rw [hw9];exact aG XW.out (by omega)
   have O9:Hid (Own w9 w.heap.size 3 (.slice A6 n6 c6) (aQ ser)):=by rw [hw9];exact HO3.out.setO T3.out.row (by decide)
   have hws:=hw9.symm
   clear hw9
   go_wp2_with (first | (refine wpList_load_row rfl 103 _ rfl gm rfl 103 (bI ⟨st,num1,dy,nx,ser,(wrap64 (iss+bye)),es,ss⟩ (.slice A6 n6 c6)) (0,0) _ T9.out.row Tryz.underlying103 rfl bA ?_) | (refine aL rfl 103 _ _ rfl rfl (w.heap.size+1) (bI ⟨st,num1,dy,nx,ser,(wrap64 (iss+bye)),es,ss⟩ (.slice A6 n6 c6)) rfl rfl 103 (bI bY (.slice none 0 0)) Z9.out.row bA rfl (fW ⟨st,num1,dy,nx,ser,(wrap64 (iss+bye)),es,ss⟩ _ _ _) ?_))
   refine bodyPost_ret (v:=.agg (bI ⟨st,num1,dy,nx,ser,(wrap64 (iss+bye)),es,ss⟩ (.slice A6 n6 c6))) ?_ rfl ⟨⟨st,num1,dy,nx,ser,(wrap64 (iss+bye)),es,ss⟩,_,_,_,rfl,aS X9.out (Nat.le_succ _) _,(O9.out.setRowO Z9.out.row (by decide)).safeK,HSTL.out,(by have:=HSL.out;show ser.length<=10000;omega)⟩
   exact results_cell_row rfl _ _ (w.heap.size+1) 103 (bI ⟨st,num1,dy,nx,ser,(wrap64 (iss+bye)),es,ss⟩ (.slice A6 n6 c6)) (0,0) _ rfl (aX Z9.out.row) Tryz.underlying103 rfl bA
 · have c0:=T3.out.c0
   have f0:=T3.out.frozen 0
   have ml:=T3.out.lt
   go_wp2_with fail
   refine (HST.out _).mono ?_
   rintro e w5 ⟨rfl,b5⟩
   clear c0 f0 ml
   have X5:=ZH (XW.out.tr b5)
   have T5:=ZH (T3.out.ext b5)
   have O5:=ZH (HO3.out.ext b5)
   have Z5:=ZH (Z3.out.ext b5)
   clear b5
   have c0:=T5.out.c0
   have f0:=T5.out.frozen 0
   have ml:=T5.out.lt
   obtain ⟨w9,hw9⟩:∃ w9,w9=w5.setCell ⟨gm,0,none⟩ (.string (aK sb)):=⟨_,rfl⟩
   have T9:Hid (bM w9 gm ⟨sb,num1,dy,nx,ser,iss,es,ss⟩ (.slice A6 n6 c6)):=by rw [hw9];exact T5.out.put 0 (.string (aK sb))
   have Z9:Hid (bM w9 (w.heap.size+1) bY (.slice none 0 0)):=by rw [hw9];exact (aT hne).trans Z5.out
   have X9:Hid (Ext w w9):=by rw [hw9];exact aG X5.out (by omega)
   have O9:Hid (Own w9 w.heap.size 3 (.slice A6 n6 c6) (aQ ser)):=by rw [hw9];exact O5.out.setO T5.out.row (by decide)
   have hws:=hw9.symm
   clear hw9
   go_wp2_with (first | (refine wpList_load_row rfl 103 _ rfl gm rfl 103 (bI ⟨sb,num1,dy,nx,ser,iss,es,ss⟩ (.slice A6 n6 c6)) (0,0) _ T9.out.row Tryz.underlying103 rfl bA ?_) | (refine aL rfl 103 _ _ rfl rfl (w.heap.size+1) (bI ⟨sb,num1,dy,nx,ser,iss,es,ss⟩ (.slice A6 n6 c6)) rfl rfl 103 (bI bY (.slice none 0 0)) Z9.out.row bA rfl (fW ⟨sb,num1,dy,nx,ser,iss,es,ss⟩ _ _ _) ?_))
   refine bodyPost_ret (v:=.agg (bI ⟨sb,num1,dy,nx,ser,iss,es,ss⟩ (.slice A6 n6 c6))) ?_ rfl ⟨⟨sb,num1,dy,nx,ser,iss,es,ss⟩,_,_,_,rfl,aS X9.out (Nat.le_succ _) _,(O9.out.setRowO Z9.out.row (by decide)).safeK,HBN.out,(by have:=HSL.out;show ser.length<=10000;omega)⟩
   exact results_cell_row rfl _ _ (w.heap.size+1) 103 (bI ⟨sb,num1,dy,nx,ser,iss,es,ss⟩ (.slice A6 n6 c6)) (0,0) _ rfl (aX Z9.out.row) Tryz.underlying103 rfl bA
 · have q6:=T3.out.c6
   have f6:=T3.out.frozen 6
   have ml:=T3.out.lt
   go_wp2_with fail
   refine (HMO.out _).mono ?_
   rintro e w5 ⟨rfl,rfl⟩
   obtain ⟨w9,hw9⟩:∃ w9,w9=w3.setCell ⟨gm,6,none⟩ (.int .i64 ms):=⟨_,rfl⟩
   have T9:Hid (bM w9 gm ⟨st,num1,dy,nx,ser,iss,ms,ss⟩ (.slice A6 n6 c6)):=by rw [hw9];exact T3.out.put 6 (.int .i64 ms)
   have Z9:Hid (bM w9 (w.heap.size+1) bY (.slice none 0 0)):=by rw [hw9];exact (aT hne).trans Z3.out
   have X9:Hid (Ext w w9):=by rw [hw9];exact aG XW.out (by omega)
   have O9:Hid (Own w9 w.heap.size 3 (.slice A6 n6 c6) (aQ ser)):=by rw [hw9];exact HO3.out.setO T3.out.row (by decide)
   have hws:=hw9.symm
   clear hw9
   go_wp2_with (first | (refine wpList_load_row rfl 103 _ rfl gm rfl 103 (bI ⟨st,num1,dy,nx,ser,iss,ms,ss⟩ (.slice A6 n6 c6)) (0,0) _ T9.out.row Tryz.underlying103 rfl bA ?_) | (refine aL rfl 103 _ _ rfl rfl (w.heap.size+1) (bI ⟨st,num1,dy,nx,ser,iss,ms,ss⟩ (.slice A6 n6 c6)) rfl rfl 103 (bI bY (.slice none 0 0)) Z9.out.row bA rfl (fW ⟨st,num1,dy,nx,ser,iss,ms,ss⟩ _ _ _) ?_))
   refine bodyPost_ret (v:=.agg (bI ⟨st,num1,dy,nx,ser,iss,ms,ss⟩ (.slice A6 n6 c6))) ?_ rfl ⟨⟨st,num1,dy,nx,ser,iss,ms,ss⟩,_,_,_,rfl,aS X9.out (Nat.le_succ _) _,(O9.out.setRowO Z9.out.row (by decide)).safeK,HSTL.out,(by have:=HSL.out;show ser.length<=10000;omega)⟩
   exact results_cell_row rfl _ _ (w.heap.size+1) 103 (bI ⟨st,num1,dy,nx,ser,iss,ms,ss⟩ (.slice A6 n6 c6)) (0,0) _ rfl (aX Z9.out.row) Tryz.underlying103 rfl bA
 · have c4:=T3.out.c4
   have ml:=T3.out.lt
   have eA:Ext w3 (w3.alloc (.cells #[.int .i64 bye] 3)):=(Below.refl _ _).alloc (YF _) _
   have HOA:=ZH (HO3.out.ext eA)
   have HRA:=ZH (uN w3 bye)
   have XA:=ZH (XW.out.tr eA)
   have TA3:=ZH (T3.out.ext eA)
   have hZA:=Z3.out.ext eA
   clear eA
   obtain ⟨A7,n7,c7,e7,hn7,-⟩:=id HOA.out
   injection e7 with e71 e72 e73
   subst e71 e72 e73
   have HNL:=ZH (show n6=ser.length by rw [hn7];simp [aQ])
   clear hn7
   go_upto_region 18 with (refine gM (B:=w.heap.size) (w0:=w) wG HOA.out HRA.out (fun u hu=>by rw [List.mem_singleton.1 hu];rfl) XA.out (by have:=HSL.out;simp only [aQ,List.length_map,YP,YN];omega) (by have:=HSL.out;unfold maxLen;simp only [aQ,List.length_map,YP,YN];omega) XA.out.size rfl rfl rfl rfl ?_;intro A8 c8 w8 o8 x8 g8;have t8:bM w8 gm ⟨st,num1,dy,nx,ser,iss,es,ss⟩ (.slice A6 n6 c6):=(g8.block gm TA3.out.lt (fun q=>Own.rowT HOA.out TA3.out.row (by decide) q.symm)).trans TA3.out;have T8:=ZH t8;have c4:=T8.out.c4;have f4:=T8.out.frozen 4;have ml:=T8.out.lt)
   clear t8
   have Z8:Hid (bM w8 (w.heap.size+1) bY (.slice none 0 0)):=ZH ((g8.block _ hZA.lt (fun q=>Own.rowT HOA.out hZA.row (by decide) q.symm)).trans hZA)
   have O8:Hid (Own w8 w.heap.size 3 (.slice A8 ((aQ ser).length+1) c8) (aQ (ser++[bye]))):=ZH (by have h:=o8;simpa [aQ] using h)
   have X8:=ZH x8
   have O9:=ZH (O8.out.setO (i:=4) (u:=.slice A8 ((aQ ser).length+1) c8) T8.out.row (by decide))
   have T9:=ZH (T8.out.put 4 (.slice A8 ((aQ ser).length+1) c8))
   have Z9:=ZH (show bM (w8.setCell ⟨gm,4,none⟩ (.slice A8 ((aQ ser).length+1) c8)) (w.heap.size+1) bY (.slice none 0 0) from (aT hne).trans Z8.out)
   have X9:=ZH (aG (i:=4) (g:=gm) (v:=.slice A8 ((aQ ser).length+1) c8) X8.out (by omega))
   have T9':Hid (bM (w8.setCell ⟨gm,4,none⟩ (.slice A8 ((aQ ser).length+1) c8)) gm ⟨st,num1,dy,nx,ser++[bye],iss,es,ss⟩ (.slice A8 ((aQ ser).length+1) c8)):=T9
   clear o8 x8 g8 c4 f4 ml T8 Z8 X8 O8 T9 hZA
   generalize w8.setCell ⟨gm,4,none⟩ (.slice A8 ((aQ ser).length+1) c8)=w9 at *
   go_wp2_with (first | (refine wpList_load_row rfl 103 _ rfl gm rfl 103 (bI ⟨st,num1,dy,nx,ser++[bye],iss,es,ss⟩ (.slice A8 ((aQ ser).length+1) c8)) (0,0) _ T9'.out.row Tryz.underlying103 rfl bA ?_) | (refine aL rfl 103 _ _ rfl rfl (w.heap.size+1) (bI ⟨st,num1,dy,nx,ser++[bye],iss,es,ss⟩ (.slice A8 ((aQ ser).length+1) c8)) rfl rfl 103 (bI bY (.slice none 0 0)) Z9.out.row bA rfl (fW ⟨st,num1,dy,nx,ser++[bye],iss,es,ss⟩ _ _ _) ?_))
   refine bodyPost_ret (v:=.agg (bI ⟨st,num1,dy,nx,ser++[bye],iss,es,ss⟩ (.slice A8 ((aQ ser).length+1) c8))) ?_ rfl ⟨⟨st,num1,dy,nx,ser++[bye],iss,es,ss⟩,_,_,_,rfl,aS X9.out (Nat.le_succ _) _,(O9.out.setRowO Z9.out.row (by decide)).safeK,HSTL.out,(by have:=HSL.out;show (ser++[bye]).length<=10000;rw [YJ];show ser.length+1<=10000;omega)⟩
   exact results_cell_row rfl _ _ (w.heap.size+1) 103 (bI ⟨st,num1,dy,nx,ser++[bye],iss,es,ss⟩ (.slice A8 ((aQ ser).length+1) c8)) (0,0) _ rfl (aX Z9.out.row) Tryz.underlying103 rfl bA
 · have e0:(m12 == 0)=false:=by simp;omega
   have e1:(m12 == 1)=false:=by simp;omega
   have e2:(m12 == 2)=false:=by simp;omega
   have e3:(m12 == 3)=false:=by simp;omega
   have e4:(m12 == 4)=false:=by simp;omega
   have e5:(m12 == 5)=false:=by simp;omega
   have e6:(m12 == 6)=false:=by simp;omega
   go_wp2_with (first | (refine wpList_load_row rfl 103 _ rfl gm rfl 103 (bI ⟨st,num1,dy,nx,ser,iss,es,ss⟩ (.slice A6 n6 c6)) (0,0) _ T3.out.row Tryz.underlying103 rfl bA ?_) | (refine aL rfl 103 _ _ rfl rfl (w.heap.size+1) (bI ⟨st,num1,dy,nx,ser,iss,es,ss⟩ (.slice A6 n6 c6)) rfl rfl 103 (bI bY (.slice none 0 0)) Z3.out.row bA rfl (fW ⟨st,num1,dy,nx,ser,iss,es,ss⟩ _ _ _) ?_))
   refine bodyPost_ret (v:=.agg (bI ⟨st,num1,dy,nx,ser,iss,es,ss⟩ (.slice A6 n6 c6))) ?_ rfl ⟨⟨st,num1,dy,nx,ser,iss,es,ss⟩,_,_,_,rfl,aS XW.out (Nat.le_succ _) _,(HO3.out.setRowO Z3.out.row (by decide)).safeK,HSTL.out,(by have:=HSL.out;show ser.length<=10000;omega)⟩
   exact results_cell_row rfl _ _ (w.heap.size+1) 103 (bI ⟨st,num1,dy,nx,ser,iss,es,ss⟩ (.slice A6 n6 c6)) (0,0) _ rfl (aX Z3.out.row) Tryz.underlying103 rfl bA
theorem YE (W:World) (x y:Int):RdI (W.alloc (.cells #[.int .i64 x,.int .i64 y] 3)) .i64 (.slice (some ⟨W.heap.size,0,none⟩) 2 2) [x,y]:=Rd.lit W _ _ 2 rfl (by unfold maxLen;omega)
theorem FM:zQ [0,1]=[40000]:=by decide
theorem CF:gZ (dv [0,1] 4)=jF:=by decide
theorem UF {c:NC} (h:smN c):StB ⟨[c],[],[],[],[]⟩:=⟨fun x hx=>by rw [List.mem_singleton.1 hx];exact h,fun x hx=>(by cases hx),fun x hx=>(by cases hx),fun x hx=>(by cases hx),fun x hx=>(by cases hx),by show 1<=10000;omega,by show 0<=10000;omega,by show 0<=20;omega,by show 0<=10000;omega,by show 0<=10000;omega⟩
theorem UG {c:NC}{r:RV} (h:smN c) (hr:r.ser.length<=10000):StB ⟨[c],[],[],[r],[]⟩:=⟨fun x hx=>by rw [List.mem_singleton.1 hx];exact h,fun x hx=>(by cases hx),fun x hx=>(by cases hx),fun x hx=>by rw [List.mem_singleton.1 hx];exact hr,fun x hx=>(by cases hx),by show 1<=10000;omega,by show 0<=10000;omega,by show 0<=20;omega,by show 1<=10000;omega,by show 0<=10000;omega⟩
theorem UH (k num:Int):(awR k num).ser.length<=1:=by
 unfold awR eT
 split
 · exact YF _
 · exact YK _
theorem WK (k num:Int):(awR k num).st.length<=3:=by
 unfold awR eT
 split
 · exact YF _
 · exact YK _
set_option maxHeartbeats 16000000 in
theorem tU (w:World) (E:Env w):Calls Tryz.prog 65 #[] w (dR w (.bool true)):=by
 have eA:Ext w (w.alloc (.cells #[.int .i64 0,.int .i64 1] 3)):=(Below.refl _ _).alloc (YF _) _
 have HAU:=ZH (pA (w.alloc (.cells #[.int .i64 0,.int .i64 1] 3)) (YE w 0 1) (fun x hx=>by
  simp only [List.mem_cons,List.not_mem_nil,or_false] at hx
  unfold k8
  rcases hx with rfl | rfl <;> omega) (by show 2<=1000;omega) (E.ext eA).r)
 go_enter Tryz.func65,Tryz.ntmps65
 go_wp2_with fail
 refine HAU.out.mono ?_
 rintro e w1 ⟨b1,x,a,rfl,ar,ai,hst,hli,hV,hD',hZ⟩
 rw [FM] at ai
 rw [CF] at hst
 obtain ⟨c,k,er,es,smc,gst,lst,g1,g2,smg,sml,gne,hk0,ac1,ac2,rv1,rv2,fr1,fr2⟩:=yB ai hst
 have X1:=eA.tr b1
 have hsg:=ar.sg
 have hls:=ar.ls
 have hxs:=ar.st.trans hst
 rw [<- hsg] at gst g1 g2 smg gne hk0 ac1 ac2 rv1 rv2 fr1 fr2
 rw [<- hls] at lst sml gne rv2
 have rdS:RdI w1 .i64 x.S [k]:=by have h:=ar.o3.rd;rw [es] at h;exact RdK.r1 h
 have rdR:RdN w1 x.R [c]:=by have h:=ar.o1.rd;rw [er] at h;exact h
 have HAB:=ZH (show qZ x from ⟨ar.o1.one,ar.o2.one,ar.o3.one,by rw [hV];rfl,by rw [hD'];rfl,by rw [hZ];rfl⟩)
 have H1:=ZH (dE HAB.out)
 obtain ⟨wc,hwc,ec,TC⟩:∃ wc,wc=(w1.alloc (.cells (.string ⟨#[]⟩::.slice none 0 0::.slice none 0 0::.slice none 0 0::.string ⟨#[]⟩::.int .i64 0::.int .i64 0::.int .i64 0::.int .i64 0::.int .i64 0::.int .i64 0::.int .i64 0::.int .i64 0::.int .i64 0::.int .i64 0::.string ⟨#[]⟩::.int .i64 0::.int .i64 0::.int .i64 0::.int .i64 0::.int .i64 0::.int .i64 0::.int .i64 0::.int .i64 0::.int .i64 0::.int .i64 0::.int .i64 0::.int .i64 0::.int .i64 0::.int .i64 0::.slice none 0 0::.slice none 0 0::.slice none 0 0::([]:List Value)).toArray 98)).setRow w1.heap.size (bE x)/\Ext w1 wc/\aU wc w1.heap.size x :=
  ⟨_,rfl,aS ((Below.refl _ _).alloc (YF _) _) (YF _) _,aX (aB w1 _)⟩
 have HALL:=ZH (aB w1 (.cells (bE dG) 98))
 have XC:=ZH (X1.tr ec)
 have HRV:=ZH (by
  have h:=rC x [] [k] k x.sg.num 40010 wc (by rw [hV];exact Rd.nil_ wc) (rdS.ext ec) rfl (by show 1<=100;omega) (by show 0<=1000;omega) (by rw [hxs];unfold maxLen;decide) (by omega) (by omega) (by omega) (by omega) HAB.out (E.ext XC.out).r
  rw [hxs,hli] at h
  exact h:Calls Tryz.prog 74 #[abV x,.int .i64 x.sg.num,.int .i64 40010] wc (TX wc x (dD [] x.sg.num) (awR k x.sg.num) (kE k ⟨jF,1,40010,40100,[x.sg.num],1,0,0⟩)))
 rw [hk0] at HRV
 have HRR:=ZH (RdK.ext rdR ec)
 have HE:=ZH (E.ext XC.out).d
 have HSE:=ZH (UH k x.sg.num)
 have HST:=ZH (WK k x.sg.num)
 generalize awR k x.sg.num=r at *
 have HAC1:=ZH ac1
 have HAC2:=ZH ac2
 have HB1:=ZH (UF smc)
 have HB2:=ZH (UG smc (r:=r) (by have:=HSE.out;omega))
 have HV1:=ZH rv1
 have HV2:=ZH rv2
 have HF1:=ZH fr1
 have HF2:=ZH fr2
 have HGS:=ZH gst
 have HLS:=ZH lst
 have HTC:=ZH TC
 clear rdS rdR ar ai hst hli hV hD' hZ b1 eA X1 ec hsg hls hxs HAU er es smc gst lst g1 g2 smg sml gne hk0 ac1 ac2 rv1 rv2 fr1 fr2 TC E a
 go_upto_region 2 with (refine aL rfl 98 _ _ rfl rfl w1.heap.size (bE x) rfl rfl 98 (bE dG) HALL.out bX rfl H1.out ?_)
 rw [<- hwc]
 clear hwc HALL
 generalize w1.heap.size=g at *
 have HA:=ZH HTC.out.row
 have c6:=HTC.out.c6
 have cl:=HTC.out.lt
 go_wp2_with (refine wpList_load_row rfl 98 _ rfl g rfl 98 (bE x) (0,0) _ HA.out Tryz.underlying98 rfl bX ?_)
 refine HRV.out.mono ?_
 rintro e w2 ⟨A9,n9,c9,A2,n2,c2,rfl,q9,q2,b2,-,-⟩
 obtain ⟨x9,hx9⟩:∃ x9:AB,x9={ x with V:=.slice A9 n9 c9,li:=x.li+1 }:=⟨_,rfl⟩
 have HX9:=ZH (show (bE x9).all (·.oneCell')=true by rw [hx9];exact dE ⟨HAB.out.R,HAB.out.L,HAB.out.S,rfl,HAB.out.D,HAB.out.Z⟩)
 rw [<- hx9]
 clear hx9 HRV HA c6 cl q9
 obtain ⟨wd,hwd⟩:∃ wd,wd=(((w2.alloc (.cells (.string ⟨#[]⟩::.slice none 0 0::.slice none 0 0::.slice none 0 0::.string ⟨#[]⟩::.int .i64 0::.int .i64 0::.int .i64 0::.int .i64 0::.int .i64 0::.int .i64 0::.int .i64 0::.int .i64 0::.int .i64 0::.int .i64 0::.string ⟨#[]⟩::.int .i64 0::.int .i64 0::.int .i64 0::.int .i64 0::.int .i64 0::.int .i64 0::.int .i64 0::.int .i64 0::.int .i64 0::.int .i64 0::.int .i64 0::.int .i64 0::.int .i64 0::.int .i64 0::.slice none 0 0::.slice none 0 0::.slice none 0 0::([]:List Value)).toArray 98)).alloc (.cells #[.string ⟨#[]⟩,.int .i64 0,.int .i64 0,.int .i64 0,.slice none 0 0,.int .i64 0,.int .i64 0,.int .i64 0] 103)).setRow w2.heap.size (bE x9)).setRow (w2.heap.size+1) (bI r (.slice A2 n2 c2)):=⟨_,rfl⟩
 have ed:Ext w2 wd:=by rw [hwd];exact aS (aS (((Below.refl _ _).alloc (YF _) _).alloc (by simp) _) (YF _) _) (Nat.le_succ _) _
 have HD1:=ZH (heap_alloc2_old w2 (.cells (bE dG) 98) (.cells #[.string ⟨#[]⟩,.int .i64 0,.int .i64 0,.int .i64 0,.slice none 0 0,.int .i64 0,.int .i64 0,.int .i64 0] 103))
 have hd2:=heap_alloc2_new w2 (.cells (bE dG) 98) (.cells #[.string ⟨#[]⟩,.int .i64 0,.int .i64 0,.int .i64 0,.slice none 0 0,.int .i64 0,.int .i64 0,.int .i64 0] 103)
 have HD2:=ZH (show (((w2.alloc (.cells (.string ⟨#[]⟩::.slice none 0 0::.slice none 0 0::.slice none 0 0::.string ⟨#[]⟩::.int .i64 0::.int .i64 0::.int .i64 0::.int .i64 0::.int .i64 0::.int .i64 0::.int .i64 0::.int .i64 0::.int .i64 0::.int .i64 0::.string ⟨#[]⟩::.int .i64 0::.int .i64 0::.int .i64 0::.int .i64 0::.int .i64 0::.int .i64 0::.int .i64 0::.int .i64 0::.int .i64 0::.int .i64 0::.int .i64 0::.int .i64 0::.int .i64 0::.int .i64 0::.slice none 0 0::.slice none 0 0::.slice none 0 0::([]:List Value)).toArray 98)).alloc (.cells #[.string ⟨#[]⟩,.int .i64 0,.int .i64 0,.int .i64 0,.slice none 0 0,.int .i64 0,.int .i64 0,.int .i64 0] 103)).setRow w2.heap.size (bE x9)).heap[w2.heap.size+1]?=some (.cells #[.string ⟨#[]⟩,.int .i64 0,.int .i64 0,.int .i64 0,.slice none 0 0,.int .i64 0,.int .i64 0,.int .i64 0] 103 (0,0)) from (dC (by omega)).trans hd2)
 have HR1:=ZH (fW r A2 n2 c2)
 have hrd:bM wd (w2.heap.size+1) r (.slice A2 n2 c2):=by rw [hwd];exact aX HD2.out
 have BD:=b2.tr ed
 have HXD:=ZH (XC.out.tr BD)
 have HTD:=ZH (HTC.out.ext BD)
 have HRD:=ZH hrd
 have HQD:=ZH (q2.ext ed)
 have HRRD:=ZH (RdK.ext HRR.out BD)
 have HED:=ZH (HE.out.below BD)
 clear hd2 ed b2 q2 hrd BD HTC HRR HE XC
 unfold abV rvV
 go_upto_region 3 with (first | (refine aL rfl 98 _ _ rfl rfl w2.heap.size (bE x9) rfl rfl 98 (bE dG) HD1.out bX rfl HX9.out ?_) | (refine aL rfl 103 _ _ rfl rfl (w2.heap.size+1) (bI r (.slice A2 n2 c2)) rfl rfl 103 #[.string ⟨#[]⟩,.int .i64 0,.int .i64 0,.int .i64 0,.slice none 0 0,.int .i64 0,.int .i64 0,.int .i64 0] HD2.out bA rfl HR1.out ?_))
 rw [<- hwd]
 clear hwd HD1 HD2
 obtain ⟨gr,hgr⟩:∃ gr,w2.heap.size+1=gr:=⟨_,rfl⟩
 rw [hgr] at HRD
 try rw [hgr]
 clear hgr
 obtain ⟨AR,nR,cR,hR,-⟩:=id HRRD.out
 have HRS:=ZH (show RdN wd (.slice AR nR cR) [c] by rw [<- hR];exact HRRD.out)
 have c1:wd.cell? ⟨g,1,none⟩=some (.slice AR nR cR):=by rw [<- hR];exact HTD.out.c1
 have cl:=HTD.out.lt
 have HRR:=ZH HRD.out.row
 have HAcc:=ZH (kN (AR,nR,cR) (none,0,0) (none,0,0) (none,0,0) (none,0,0) ⟨[c],[],[],[],[]⟩ r (.slice A2 n2 c2) 40010 wd ⟨HRS.out,RdK.nil_ _ _ _,RdX.nil_ _ _ _,RdX.nil_ _ _ _,RdX.nil_ _ _ _⟩ HB1.out HQD.out (by have:=HST.out;unfold maxLen;omega) (by have:=HSE.out;omega) HED.out)
 rw [HAC1.out] at HAcc
 clear hR HRRD HRS
 go_wp2_with (refine wpList_load_row rfl 103 _ rfl gr rfl 103 (bI r (.slice A2 n2 c2)) (0,0) _ HRR.out Tryz.underlying103 rfl bA ?_)
 refine HAcc.out.mono ?_
 rintro e w3 ⟨t0,t1,t2,t3,t4,rfl,SR,b3⟩
 clear c1 cl HRR HAcc HAC1 HB1
 obtain ⟨wf,hwf⟩:∃ wf,wf=w3.alloc (.cells #[.slice t0.1 t0.2.1 t0.2.2,.slice t1.1 t1.2.1 t1.2.2,.slice t2.1 t2.2.1 t2.2.2,.slice t3.1 t3.2.1 t3.2.2,.slice t4.1 t4.2.1 t4.2.2] 75):=⟨_,rfl⟩
 have ef:Ext w3 wf:=by rw [hwf];exact (Below.refl _ _).alloc (YF _) _
 have hf:wf.heap[w3.heap.size]?=some (.cells (aM t0 t1 t2 t3 t4) 75 (0,0)):=by rw [hwf];exact aB w3 _
 have BF:=b3.tr ef
 have HXF:=ZH (HXD.out.tr BF)
 have HTF:=ZH (HTD.out.ext BF)
 have HRF:=ZH ((HRD.out.ext BF).row)
 have HQF:=ZH (HQD.out.ext BF)
 have HEF:=ZH (HED.out.below BF)
 have HSF:=ZH (show StR wf t0 t1 t2 t3 t4 ⟨[c],[],[],[r],[]⟩ from SR.ext ef)
 have HSB:=ZH hf
 clear ef BF SR b3 HXD HTD HRD HQD HED hf
 unfold bH
 go_upto_region 4 with fail
 rw [<- hwf]
 clear hwf
 generalize w3.heap.size=gs at *
 have HAcc:=ZH (kN t0 t1 t2 t3 t4 ⟨[c],[],[],[r],[]⟩ r (.slice A2 n2 c2) 40010 wf HSF.out HB2.out HQF.out (by have:=HST.out;unfold maxLen;omega) (by have:=HSE.out;omega) HEF.out)
 rw [HAC2.out] at HAcc
 go_wp2_with (first | (refine wpList_load_row rfl 75 _ rfl gs rfl 75 (aM t0 t1 t2 t3 t4) (0,0) _ HSB.out Tryz.underlying75 rfl aN ?_) | (refine wpList_load_row rfl 103 _ rfl gr rfl 103 (bI r (.slice A2 n2 c2)) (0,0) _ HRF.out Tryz.underlying103 rfl bA ?_))
 refine HAcc.out.mono ?_
 rintro e w4 ⟨v0,v1,v2,v3,v4,rfl,-,b4⟩
 clear HAcc HAC2 HB2
 obtain ⟨wg,hwg⟩:∃ wg,wg=w4.alloc (.cells #[.slice v0.1 v0.2.1 v0.2.2,.slice v1.1 v1.2.1 v1.2.2,.slice v2.1 v2.2.1 v2.2.2,.slice v3.1 v3.2.1 v3.2.2,.slice v4.1 v4.2.1 v4.2.2] 75):=⟨_,rfl⟩
 have eg:Ext w4 wg:=by rw [hwg];exact (Below.refl _ _).alloc (YF _) _
 have BG:=b4.tr eg
 have Y0:=ZH (show Ext wg wg from Below.refl _ _)
 have HXG:=ZH (HXF.out.tr BG)
 have HTG:=ZH (HTF.out.ext BG)
 have HSG:=ZH (RdX.rdV ((HSF.out.r3).ext BG))
 have HBG:=ZH ((BG.block _ (aA HSB.out)).trans HSB.out)
 clear eg BG b4 HXF HTF HRF HQF HEF HSF HSB
 unfold bH
 go_upto_region 5 with fail
 rw [<- hwg]
 clear hwg
 have a4:=(HTG.out.ext Y0.out).c4
 have a5:=(HTG.out.ext Y0.out).c5
 have a6:=(HTG.out.ext Y0.out).c6
 have a7:=(HTG.out.ext Y0.out).c7
 have a8:=(HTG.out.ext Y0.out).c8
 have a9:=(HTG.out.ext Y0.out).c9
 have a10:=(HTG.out.ext Y0.out).c10
 have a11:=(HTG.out.ext Y0.out).c11
 have a12:=(HTG.out.ext Y0.out).c12
 have a13:=(HTG.out.ext Y0.out).c13
 have a14:=(HTG.out.ext Y0.out).c14
 have a15:=(HTG.out.ext Y0.out).c15
 have a16:=(HTG.out.ext Y0.out).c16
 have a17:=(HTG.out.ext Y0.out).c17
 have a18:=(HTG.out.ext Y0.out).c18
 have a19:=(HTG.out.ext Y0.out).c19
 have a20:=(HTG.out.ext Y0.out).c20
 have a21:=(HTG.out.ext Y0.out).c21
 have a22:=(HTG.out.ext Y0.out).c22
 have a23:=(HTG.out.ext Y0.out).c23
 have a24:=(HTG.out.ext Y0.out).c24
 have a25:=(HTG.out.ext Y0.out).c25
 have al:=(HTG.out.ext Y0.out).lt
 have hb:=(Y0.out.block _ (aA HBG.out)).trans HBG.out
 have p0:wg.cell? ⟨gs,0,none⟩=some (.slice t0.1 t0.2.1 t0.2.2):=by rw [cell_of_row _ _ 0 _ _ _ hb];rfl
 have p1:wg.cell? ⟨gs,1,none⟩=some (.slice t1.1 t1.2.1 t1.2.2):=by rw [cell_of_row _ _ 1 _ _ _ hb];rfl
 have p2:wg.cell? ⟨gs,2,none⟩=some (.slice t2.1 t2.2.1 t2.2.2):=by rw [cell_of_row _ _ 2 _ _ _ hb];rfl
 have p3:wg.cell? ⟨gs,3,none⟩=some (.slice t3.1 t3.2.1 t3.2.2):=by rw [cell_of_row _ _ 3 _ _ _ hb];rfl
 have p4:wg.cell? ⟨gs,4,none⟩=some (.slice t4.1 t4.2.1 t4.2.2):=by rw [cell_of_row _ _ 4 _ _ _ hb];rfl
 have pl:=aA hb
 clear hb
 have HC:=ZH (by have h:=j2 t0 t1 t2 t3 t4 [r] x.sg wg (HSG.out.ext Y0.out);rw [HGS.out] at h;exact h)
 rw [HV1.out] at HC
 go_wp2_with fail
 refine HC.out.mono ?_
 rintro e u1 ⟨rfl,b⟩
 have Y1:=ZH (Y0.out.tr b)
 clear a4 a5 a6 a7 a8 a9 a10 a11 a12 a13 a14 a15 a16 a17 a18 a19 a20 a21 a22 a23 a24 a25 al p0 p1 p2 p3 p4 pl HC b
 have a4:=(HTG.out.ext Y1.out).c4
 have a5:=(HTG.out.ext Y1.out).c5
 have a6:=(HTG.out.ext Y1.out).c6
 have a7:=(HTG.out.ext Y1.out).c7
 have a8:=(HTG.out.ext Y1.out).c8
 have a9:=(HTG.out.ext Y1.out).c9
 have a10:=(HTG.out.ext Y1.out).c10
 have a11:=(HTG.out.ext Y1.out).c11
 have a12:=(HTG.out.ext Y1.out).c12
 have a13:=(HTG.out.ext Y1.out).c13
 have a14:=(HTG.out.ext Y1.out).c14
 have a15:=(HTG.out.ext Y1.out).c15
 have a16:=(HTG.out.ext Y1.out).c16
 have a17:=(HTG.out.ext Y1.out).c17
 have a18:=(HTG.out.ext Y1.out).c18
 have a19:=(HTG.out.ext Y1.out).c19
 have a20:=(HTG.out.ext Y1.out).c20
 have a21:=(HTG.out.ext Y1.out).c21
 have a22:=(HTG.out.ext Y1.out).c22
 have a23:=(HTG.out.ext Y1.out).c23
 have a24:=(HTG.out.ext Y1.out).c24
 have a25:=(HTG.out.ext Y1.out).c25
 have al:=(HTG.out.ext Y1.out).lt
 have hb:=(Y1.out.block _ (aA HBG.out)).trans HBG.out
 have p0:u1.cell? ⟨gs,0,none⟩=some (.slice t0.1 t0.2.1 t0.2.2):=by rw [cell_of_row _ _ 0 _ _ _ hb];rfl
 have p1:u1.cell? ⟨gs,1,none⟩=some (.slice t1.1 t1.2.1 t1.2.2):=by rw [cell_of_row _ _ 1 _ _ _ hb];rfl
 have p2:u1.cell? ⟨gs,2,none⟩=some (.slice t2.1 t2.2.1 t2.2.2):=by rw [cell_of_row _ _ 2 _ _ _ hb];rfl
 have p3:u1.cell? ⟨gs,3,none⟩=some (.slice t3.1 t3.2.1 t3.2.2):=by rw [cell_of_row _ _ 3 _ _ _ hb];rfl
 have p4:u1.cell? ⟨gs,4,none⟩=some (.slice t4.1 t4.2.1 t4.2.2):=by rw [cell_of_row _ _ 4 _ _ _ hb];rfl
 have pl:=aA hb
 clear hb
 have HC:=ZH (by have h:=j2 t0 t1 t2 t3 t4 [r] x.ls u1 (HSG.out.ext Y1.out);rw [HLS.out] at h;exact h)
 rw [HV2.out] at HC
 go_wp2_with fail
 refine HC.out.mono ?_
 rintro e u2 ⟨rfl,b⟩
 have Y2:=ZH (Y1.out.tr b)
 clear a4 a5 a6 a7 a8 a9 a10 a11 a12 a13 a14 a15 a16 a17 a18 a19 a20 a21 a22 a23 a24 a25 al p0 p1 p2 p3 p4 pl HC b
 have a4:=(HTG.out.ext Y2.out).c4
 have a5:=(HTG.out.ext Y2.out).c5
 have a6:=(HTG.out.ext Y2.out).c6
 have a7:=(HTG.out.ext Y2.out).c7
 have a8:=(HTG.out.ext Y2.out).c8
 have a9:=(HTG.out.ext Y2.out).c9
 have a10:=(HTG.out.ext Y2.out).c10
 have a11:=(HTG.out.ext Y2.out).c11
 have a12:=(HTG.out.ext Y2.out).c12
 have a13:=(HTG.out.ext Y2.out).c13
 have a14:=(HTG.out.ext Y2.out).c14
 have a15:=(HTG.out.ext Y2.out).c15
 have a16:=(HTG.out.ext Y2.out).c16
 have a17:=(HTG.out.ext Y2.out).c17
 have a18:=(HTG.out.ext Y2.out).c18
 have a19:=(HTG.out.ext Y2.out).c19
 have a20:=(HTG.out.ext Y2.out).c20
 have a21:=(HTG.out.ext Y2.out).c21
 have a22:=(HTG.out.ext Y2.out).c22
 have a23:=(HTG.out.ext Y2.out).c23
 have a24:=(HTG.out.ext Y2.out).c24
 have a25:=(HTG.out.ext Y2.out).c25
 have al:=(HTG.out.ext Y2.out).lt
 have hb:=(Y2.out.block _ (aA HBG.out)).trans HBG.out
 have p0:u2.cell? ⟨gs,0,none⟩=some (.slice t0.1 t0.2.1 t0.2.2):=by rw [cell_of_row _ _ 0 _ _ _ hb];rfl
 have p1:u2.cell? ⟨gs,1,none⟩=some (.slice t1.1 t1.2.1 t1.2.2):=by rw [cell_of_row _ _ 1 _ _ _ hb];rfl
 have p2:u2.cell? ⟨gs,2,none⟩=some (.slice t2.1 t2.2.1 t2.2.2):=by rw [cell_of_row _ _ 2 _ _ _ hb];rfl
 have p3:u2.cell? ⟨gs,3,none⟩=some (.slice t3.1 t3.2.1 t3.2.2):=by rw [cell_of_row _ _ 3 _ _ _ hb];rfl
 have p4:u2.cell? ⟨gs,4,none⟩=some (.slice t4.1 t4.2.1 t4.2.2):=by rw [cell_of_row _ _ 4 _ _ _ hb];rfl
 have pl:=aA hb
 clear hb
 have HC:=ZH (sL t0 t1 t2 t3 t4 [r] jF 40100 u2 (HSG.out.ext Y2.out))
 rw [HF1.out] at HC
 go_wp2_with fail
 refine HC.out.mono ?_
 rintro e u3 ⟨rfl,b⟩
 have Y3:=ZH (Y2.out.tr b)
 clear a4 a5 a6 a7 a8 a9 a10 a11 a12 a13 a14 a15 a16 a17 a18 a19 a20 a21 a22 a23 a24 a25 al p0 p1 p2 p3 p4 pl HC b
 have a4:=(HTG.out.ext Y3.out).c4
 have a5:=(HTG.out.ext Y3.out).c5
 have a6:=(HTG.out.ext Y3.out).c6
 have a7:=(HTG.out.ext Y3.out).c7
 have a8:=(HTG.out.ext Y3.out).c8
 have a9:=(HTG.out.ext Y3.out).c9
 have a10:=(HTG.out.ext Y3.out).c10
 have a11:=(HTG.out.ext Y3.out).c11
 have a12:=(HTG.out.ext Y3.out).c12
 have a13:=(HTG.out.ext Y3.out).c13
 have a14:=(HTG.out.ext Y3.out).c14
 have a15:=(HTG.out.ext Y3.out).c15
 have a16:=(HTG.out.ext Y3.out).c16
 have a17:=(HTG.out.ext Y3.out).c17
 have a18:=(HTG.out.ext Y3.out).c18
 have a19:=(HTG.out.ext Y3.out).c19
 have a20:=(HTG.out.ext Y3.out).c20
 have a21:=(HTG.out.ext Y3.out).c21
 have a22:=(HTG.out.ext Y3.out).c22
 have a23:=(HTG.out.ext Y3.out).c23
 have a24:=(HTG.out.ext Y3.out).c24
 have a25:=(HTG.out.ext Y3.out).c25
 have al:=(HTG.out.ext Y3.out).lt
 have hb:=(Y3.out.block _ (aA HBG.out)).trans HBG.out
 have p0:u3.cell? ⟨gs,0,none⟩=some (.slice t0.1 t0.2.1 t0.2.2):=by rw [cell_of_row _ _ 0 _ _ _ hb];rfl
 have p1:u3.cell? ⟨gs,1,none⟩=some (.slice t1.1 t1.2.1 t1.2.2):=by rw [cell_of_row _ _ 1 _ _ _ hb];rfl
 have p2:u3.cell? ⟨gs,2,none⟩=some (.slice t2.1 t2.2.1 t2.2.2):=by rw [cell_of_row _ _ 2 _ _ _ hb];rfl
 have p3:u3.cell? ⟨gs,3,none⟩=some (.slice t3.1 t3.2.1 t3.2.2):=by rw [cell_of_row _ _ 3 _ _ _ hb];rfl
 have p4:u3.cell? ⟨gs,4,none⟩=some (.slice t4.1 t4.2.1 t4.2.2):=by rw [cell_of_row _ _ 4 _ _ _ hb];rfl
 have pl:=aA hb
 clear hb
 have HC:=ZH (sL t0 t1 t2 t3 t4 [r] jF 40101 u3 (HSG.out.ext Y3.out))
 rw [HF2.out] at HC
 go_wp2_with fail
 refine HC.out.mono ?_
 rintro e u4 ⟨rfl,b⟩
 have Y4:=ZH (Y3.out.tr b)
 clear a4 a5 a6 a7 a8 a9 a10 a11 a12 a13 a14 a15 a16 a17 a18 a19 a20 a21 a22 a23 a24 a25 al p0 p1 p2 p3 p4 pl HC b
 go_wp2_with fail
 go_ret
 exact ⟨rfl,HXG.out.tr Y4.out⟩
end Go.Proofs.YtkjplpmogfmhkaaGreatDoor
